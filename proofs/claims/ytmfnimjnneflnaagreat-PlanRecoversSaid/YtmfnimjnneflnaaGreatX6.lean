/-
 Part 7 of what the claim rests on.
-/
import Derived.Test.YtmfnimjnneflnaaGreatX3
import Derived.Test.YtmfnimjnneflnaaGreatX5
set_option linter.unusedVariables false
set_option linter.unusedSimpArgs false
set_option maxRecDepth 100000
set_option maxHeartbeats 16000000
namespace Go.Proofs.YtmfnimjnneflnaaGreat
open Go.Am Go.Sha
def lU(x:List Nat):List DV:=[nb x]
def LL(inner:List Nat)(xs:List (List Nat)):List (List AV):=xs.map fun x=>ar inner .nil (.d (nb x))
theorem zQ{α:Type}{l:List α}{k:Nat}{x:α}(h:l[k]?=some x):l.take (k+1)=l.take k++[x]:=by
 rw[List.take_add_one,h];rfl
theorem Kz{fr:Fr}{inner:List Nat}(xs:List (List Nat))(o:xs.length≤8):Wk ⟨fr,(10000,⟨33,34,LL inner xs⟩)::kF 20000 8 (fun _=>[]),30000⟩ ⟨fr,(10000,⟨33,34,lT inner kG (fun _=>[]) xs⟩)::kF 20000 8 (fun _=>[]),30000⟩:=by
 refine NZ (st:=⟨fr,(10000,⟨33,34,LL inner xs⟩)::kF 20000 8 (fun _=>[]),30000⟩) (L:=10000) (b:=⟨33,34,LL inner xs⟩) (es':=lT inner kG (fun _=>[]) xs) rfl aw (by simp[lT,LL]) ?_;intro i x k e d;simp only[LL,c_,Option.map_eq_some_iff]at e;obtain⟨y,g,rfl⟩:=e;rw[Be g]at d;simp only[Option.some.injEq]at d;subst d;refine⟨by simp[ar],fun j v l c a=>?_⟩;unfold ar at c a;by_cases h:j<(cb inner).length;rw[List.getElem?_append_left h]at c a;rw[c]at a;exact .inl (Option.some.inj a).symm
 ·rw[dz aq]at c a;have p:=(ci.1 g).1
  match hj2:j-(cb inner).length,c,a with
  |0,c,a =>
   simp only[List.getElem?_cons_zero,Option.some.injEq]at c a;subst c a;exact .inr ⟨rfl,kG i,by unfold kG;show 20000+i<30000;omega,rfl⟩
  |1,c,a =>
   simp only[List.getElem?_cons_succ,List.getElem?_cons_zero,Option.some.injEq]at c a;subst c a;exact .inl rfl
  |m+2,c,a=>simp at c
theorem vQ{inner:List Nat}{xs:List (List Nat)}{f:jr}{hp:Hp}{nx N:Nat}(d:20008≤N)(e:xs.length≤8)(c:lk 10000 hp=some ⟨33,34,lT inner kG f xs⟩)(b:∀j,j<8→lk (kG j) hp=some (pB (f j))) :
  ∀p,p∈(10000,(⟨33,34,lT inner kG f xs⟩:Blk))::kF 20000 8 f→(lk p.1 hp=some p.2∨(nx≤p.1∧p.2.es=[]))∧p.1<N∧∀r,r∈p.2.es→∀v,v∈r→v.low1 N:=by
 intro p hp';rcases et.1 hp' with rfl|hp';exact⟨.inl c,by show 10000<N;omega,It (fun j a=>by show 20000+j<N;omega)⟩
 obtain⟨j,a,rfl⟩:=jV 8 20000 f p hp';exact⟨.inl (b j a),by show 20000+j<N;omega,Gt _ _⟩
def VH(f:jr):Prop:=∀j p,p∈f j→p.length=32
theorem vS{first k:Nat}{h:List Nat}{f:jr}(a:VH f)(b:h.length=32):VH (cG first k h f):=by
 intro j p hp;unfold cG at hp;split at hp;rcases cL.1 hp with q|q;exact a j p q;simp at q;subst q;exact b;exact a j p hp
theorem Gy:∀{q:Row},q.length≤1→dQ q=q
 |[],_=>rfl
 |[a],_=>rfl
 |a::b::r,h=>by simp at h
theorem Ed:∀{q:Row}{s:Nat}{g:jr},q.length≤1→gu s q g=g
 |[],_,_,_=>rfl
 |[a],_,_,_=>rfl
 |a::b::r,_,_,h=>by simp at h
def fB(inner:List Nat)(xs:List (List Nat))(E:Lf→Int):AV :=
 if xs.length=0∨8<xs.length∨sO E (mZ (bM xs) xs)=true then .tup [.nil,.d (.int .i64 1)]else .tup [.d (.ro 34 ((mZ (bM xs) xs).map (c7 inner))),.d (.int .i64 0)]
theorem Ee (inner:List Nat) (xs:List (List Nat)) (hi:inner.length=32) (hx:∀ x,x ∈ xs→x.length≤100000)
    (an:∀b:List Nat,b.length≤100000000000→au Tryz.prog 52 [.d (nb b)] (fun r=>r=.d (nb b))) (O:Lf→List Nat) (E:Lf→Int)
    (I:∀l,l∈mZ (bM xs) xs→au Tryz.prog 46 [.agg (ar inner (.d (bW l.1)) (.d (nb l.2)))] (fun r=>r=.tup [.d (nb (O l)),.d (.int .i64 (E l))])) :
    au Tryz.prog 70 [.agg (cb inner),.d (.ro 1 (xs.map lU))] (fun r=>r=fB inner xs E):=by
  refine bF Tryz.func70 Tryz.ntmps70 (rs:=[.tmp 4,.tmp 5]) (by
    intro v hv;simp at hv;rcases hv with rfl|rfl
    · exact bn _
    · trivial) ?_
  by_cases U:xs.length=0
  · have hV:fB inner xs E=.tup [.nil,.d (.int .i64 1)]:=by unfold fB;rw [if_pos (.inl U)]
    rw[hV];have af:xs=[]:=List.eq_nil_of_length_eq_zero U;subst af;simp[go_sem,ak,hi,ah];exact aa a9 rfl
  by_cases h8:8<xs.length
  · have hV:fB inner xs E=.tup [.nil,.d (.int .i64 1)]:=by unfold fB;rw [if_pos (.inr (.inl h8))]
    rw[hV];have i0:¬(xs.length:Int)=0:=aq;have i8:(8:Int)<(xs.length:Int):=aq;simp[go_sem,ak,hi,i8,U,ah];exact aa a9 rfl
  have L:xs.length≤8:=aq;have i0:¬(xs.length:Int)=0:=aq;have i8:¬(8:Int)<(xs.length:Int):=aq;simp[go_sem,ak,hi,i8,U]
  refine av (fun k:Nat=>⟨[(2,.ptr 0 0 0 1),(6,.own 10000 0 k k),(7,.own 10001 0 k k),(20,.d (.ro 1 (xs.map lU))),(21,.d (.int .i64 (xs.length:Int))),(22,.d (.int .i64 (k:Int)))],
      [(10001,⟨174,34,(mJ 0 (fK (xs.take k))).map (fun q=>q.map AV.d)⟩),(10000,⟨33,34,LL inner (xs.take k)⟩),(0,⟨29,32,[cb inner]⟩)],11000⟩)
    (fun k=>k≤xs.length) (fun k=>xs.length-k) 0 aq (by
      simp[az,ai,fv,lk,AV.low,AV.low1,mJ,fK,LL]
      exact aJ _ _) ?_
  intro k hk;simp only[go_sem,Nat.reduceEqDiff,Nat.reduceAdd,Nat.reduceLT,↓reduceIte];refine⟨fun h=>?_,fun h=>?_⟩
  · obtain ⟨x,A,hd⟩:=bg (l:=xs) (k:=k) aq
    have w3:=ay (k:=k) aq;have aO:=hx x (cr A);have zl:(ar z32 .nil .nil).length=34:=rfl;have aA:(mJ 0 (fK (xs.take k))).length=k:=by rw[nJ,fK,List.length_map,List.length_take];omega
    have aG:(LL inner (xs.take k)).length=k:=by rw[LL,List.length_map,List.length_take];omega
    have D:=mW x;simp[go_sem,A,lU];refine cz [0,1,2] [(3,[4]),(5,[]),(6,[]),(7,[])] 2 (k:=8) ?_;intro G hG;simp[go_sem,ak,hi,al hi];refine ag (an x aq) a9 ?_;have zd:List.drop 32 (ar z32 .nil .nil)=[.nil,.nil]:=rfl;have b2:=Bf hi .nil .nil;have b3:=Bg hi .nil .nil;simp[go_sem,ak,hi,zl,aG,zd,b2,b3];refine⟨aq,hG _ _ ?_⟩;clear hG G;have J:au Tryz.prog 93 [.d (nb x)] (fun r=>r=.agg (cb (eo x))):=oV x aq;simp[go_sem];refine ag J a9 ?_;have zs:(bO z32 0 0).length=34:=rfl;have hz:List.drop 32 (bO z32 0 0)=[.d (.int .i64 0),.d (.int .i64 0)]:=rfl;have aM:List.drop 34 (bO z32 0 0)=[]:=rfl;have e1:=Iu D;have e2:=Bf D;have e3:=Bg D;simp[go_sem,D,ak,zs,hz,e1,e2,e3,aA,w3];refine⟨aq,?_⟩;have E1:LL inner (xs.take (k+1))=LL inner (xs.take k)++[cb inner++[.nil,.d (nb x)]]:=by rw[zQ A];simp[LL,ar]
    have E2:(mJ 0 (fK (xs.take (k+1)))).map (fun q=>q.map AV.d)=(mJ 0 (fK (xs.take k))).map (fun q=>q.map AV.d)++[cb (eo x)++[.d (.int .i64 (k:Int)),.d (.int .i64 1)]]:=by
      rw[zQ A,N1,vO,List.map_append,rl,List.length_take,Nat.min_eq_left aq];simp[fK,mJ,D9,da]
    refine am (k+1) aq aq ⟨?_,?_,aw⟩
    · simp[ai,fv,lk,AV.low,AV.low1]
    · intro p hp
      simp only[et,List.mem_nil_iff,or_false]at hp;rcases hp with rfl|rfl|rfl
      · exact⟨.inl (by simp[lk,E2]),by show 10001<11000;omega,Bh _ _ _⟩
      · exact⟨.inl (by simp[lk,E1]),by show 10000<11000;omega,fun r H=>by
          obtain⟨y,_,rfl⟩:=List.mem_map.1 H
          exact rh _ _ _ _ trivial trivial⟩
      · exact⟨.inl rfl,by show 0<11000;omega,by intro r H;simp at H;subst H;exact aJ _ _⟩
  · have aC:k=xs.length:=aq
    subst aC;simp[go_sem];obtain⟨R,F,ac⟩:∃R F,d0 7 (fK xs) (fun _=>[])=(R,F):=⟨_,_,rfl⟩;have V:(fK xs).length=xs.length:=(by simp[fK])
    refine mT (fun t:Nat×Row×jr=>⟨[(6,.own 10000 0 xs.length xs.length),(7,.d (.ro 34 (mJ 0 t.2.1)))],(10000,⟨33,34,lT inner kG t.2.2 xs⟩)::kF 20000 8 t.2.2,30000⟩)
      (fun t=>d0 t.1 t.2.1 t.2.2=(R,F)∧t.2.1.length≤t.1+1∧t.1≤7∧io t.2.1=xs.length∧(∀p,p∈t.2.1→p.1.length=32)∧VH t.2.2∧∀j,(t.2.2 j).length+t.1≤7) (fun t=>t.1) (7,fK xs,fun _=>[])
      ⟨ac,by simp only[V];omega,cR _,rl xs,sM xs,(fun j p hp=>by simp at hp),fun j=>aw⟩ ?_ ?_
    · refine (H9 [10001] [(7,.d (.ro 34 (mJ 0 (fK xs))))] (fun p hp=>?_)).trans ((b7 ?_).trans (Kz xs L))
      · simp at hp
        subst hp;exact .one (ao (ej rfl aw (by rw[nJ,V]) (xw _ _ (sM xs))))
      · refine ⟨?_,?_,aw⟩
        · simp[ai,fv,lk,AV.low,AV.low1]
        · intro p hp
          rcases et.1 hp with rfl|hp
          · exact⟨.inl rfl,by show 10000<30000;omega,fun r H=>by
              obtain⟨y,_,rfl⟩:=List.mem_map.1 H
              exact rh _ _ _ _ trivial trivial⟩
          · obtain ⟨j,z,rfl⟩:=jV 8 20000 _ p hp
            exact⟨.inr ⟨by show 11032≤20000+j;omega,rfl⟩,by show 20000+j<30000;omega,Gt _ _⟩
    · rintro ⟨n,o,f⟩ ⟨Y,q2,q3,q4,q5,q7,q6⟩
      simp only at Y q2 q3 q4 q5 q6 q7;simp only;simp[go_sem,nJ];refine⟨fun h=>?_,fun h=>?_⟩
      · have h':1<o.length:=aq
        obtain⟨m,rfl⟩:∃m,n=m+1:=⟨n-1,aq⟩;rw[d0,if_pos h']at Y;refine av (fun t:Nat×Row×Row×jr=>⟨[(6,.own 10000 0 xs.length xs.length),(7,.d (.ro 34 (mJ t.1 t.2.1))),(10,.own 40000 0 t.2.2.1.length t.2.2.1.length)],
            (40000,⟨174,34,(mJ 0 t.2.2.1).map (fun q=>q.map AV.d)⟩)::(10000,⟨33,34,lT inner kG t.2.2.2 xs⟩)::kF 20000 8 t.2.2.2,50000⟩)
          (fun t=>t.2.2.1++dQ t.2.1=dQ o∧gu t.1 t.2.1 t.2.2.2=gu 0 o f∧io t.2.2.1=t.1∧t.1+io t.2.1=xs.length∧(∀p,p∈t.2.1→p.1.length=32)∧(∀p,p∈t.2.2.1→p.1.length=32)∧VH t.2.2.2∧∀j,(t.2.2.2 j).length≤if j<t.1 then(6-m)+1 else 6-m)
          (fun t=>t.2.1.length) (0,o,[],f) ⟨rfl,rfl,rfl,by simp only;omega,q5,aw,q7,fun j=>by have:=q6 j;simp only[Nat.not_lt_zero,if_false];omega⟩ ⟨?_,?_,aw⟩ ?_
        · simp[ai,fv,lk,AV.low,AV.low1,mJ]
        · intro p hp
          rcases et.1 hp with rfl|hp
          · exact⟨.inr ⟨by show 30128≤40000;omega,rfl⟩,by show 40000<50000;omega,by intro r H;simp[mJ]at H⟩
          · exact vQ aw L rfl (fun j z=>by
              show lk (kG j) ((10000,_)::kF 20000 8 f)=_;rw[lk,if_neg (by unfold kG;omega)]
              exact oW 8 20000 f j z) p hp
        · rintro ⟨s,q,up,g⟩ ⟨B,S,p3,X,T,p6,p8,p7⟩
          simp only at B S p3 X T p6 p7 p8;simp only;simp[go_sem,nJ];refine⟨fun hh=>?_,fun hh=>?_⟩
          · match q,B,S,X,T,hh with
            | a :: b :: r,B,S,X,T,_ =>
              have ha:=T a aw;have hb:=T b aw;have aK:=xu ha s a.2;have aP:=xu hb (s+a.2) b.2;simp only[mJ];skip;refine dE [1,2,3,4,5,6,7] [0,8,9,10,11] [1,2,3,4,5,6,7] (.alt (bt 0 (a_ [8,9,10,11])) (bx 8 (.alt (a_ [0,9,10,11]) (a_ [9,0,10,11])))) ⟨[(6,.own 10000 0 xs.length xs.length),(7,.d (.ro 34 (mJ s (a::b::r)))),(10,.own 40000 0 (up.length+1) (up.length+1))],(40000,⟨174,34,(mJ 0 (up++[(cC a.1 b.1,a.2+b.2)])).map (fun q=>q.map AV.d)⟩)::(10000,⟨33,34,lT inner kG (cG (s+a.2) b.2 a.1 (cG s a.2 b.1 g)) xs⟩)::kF 20000 8 (cG (s+a.2) b.2 a.1 (cG s a.2 b.1 g)),60000⟩ (k:=12) ?h3 ?hq
              case h3 =>
                intro G hG;simp[go_sem,Ea,lF ha,lF hb,dM ha,dM hb]
                have aI:s+(a.2+(b.2+io r))=xs.length:=by
                  have:=X;simp only[io,List.map_cons,List.sum_cons]at this⊢;exact this
                have aF:∀j,(g j).length≤100:=fun j=>by
                  have:=p7 j;split at this<;>omega
                have aB:=NV inner a.1 b.1 xs g s a.2 (s+a.2) b.2 hi ha hb L aq aq aF;have Z:∀(N:Nat)(K:AV→Hp→Prop),K (.agg (bO (cC a.1 b.1) s (a.2+b.2))) ((10000,⟨33,34,lT inner kG (cG (s+a.2) b.2 a.1 (cG s a.2 b.1 g)) xs⟩)::(kF 20000 8 (cG (s+a.2) b.2 a.1 (cG s a.2 b.1 g))++[(40000,⟨174,34,(mJ 0 up).map (fun q=>q.map AV.d)⟩)])) →
                    uK Tryz.prog 112 [.own 10000 0 xs.length xs.length,.agg (bO a.1 s a.2),.agg (bO b.1 (s+a.2) b.2)] ((40000,⟨174,34,(mJ 0 up).map (fun q=>q.map AV.d)⟩)::(10000,⟨33,34,lT inner kG g xs⟩)::kF 20000 8 g) N K:=by
                  intro N K hK;exact NY (pre:=[(40000,⟨174,34,(mJ 0 up).map (fun q=>q.map AV.d)⟩)]) inner a.1 b.1 xs g s a.2 (s+a.2) b.2 L aB (by intro p hp;simp at hp;subst hp;exact⟨aw,.inr aw⟩) hK
                have ae:=iT a.1 b.1;have ap:up.length≤10:=by
                  have e1:=congrArg List.length B;have e2:=oZ o;simp only[b_]at e1;omega
                have hW:∀(fr:Fr)(hp:Hp),fv 6 fr=.own 10000 0 xs.length xs.length→fv 7 fr=.d (.ro 34 (mJ s (a::b::r)))→fv 10 fr=.own 40000 0 (up.length+1) (up.length+1) →
                    lk 40000 hp=some ⟨174,34,(mJ 0 up).map (fun q=>q.map AV.d)++[bO (cC a.1 b.1) s (a.2+b.2)]⟩→lk 10000 hp=some ⟨33,34,lT inner kG (cG (s+a.2) b.2 a.1 (cG s a.2 b.1 g)) xs⟩→(∀j,j<8→lk (kG j) hp=some (pB (cG (s+a.2) b.2 a.1 (cG s a.2 b.1 g) j)))→G fr hp:=by
                  intro fr hp v1 v2 v3 v4 v5 v6;refine hG _ _ (b7 ⟨?_,?_,aw⟩)
                  · simp[ai,AV.low,AV.low1,v1,v2,v3]
                  · intro p hp'
                    rcases et.1 hp' with rfl|hp'
                    · refine ⟨.inl ?_,by show 40000<60000;omega,Bh _ _ _⟩
                      show lk 40000 hp=_;rw[v4,vO,Nat.zero_add,p3,List.map_append];simp[mJ,Ea]
                    · exact vQ aw L v5 v6 p hp'
                refine⟨Z _ _ ?_,Z _ _ ?_⟩
                all_goals
                  simp[go_sem,lF ae,D8,Gv,nJ]
                  repeat' apply And.intro
                all_goals first
                  |omega
                  | (refine hW _ _ rfl rfl rfl (by simp [lk,D8]) (by simp [lk]) (fun j z=>?_)
                     have w:∀c,(c<20000∨20008≤c)→¬c=kG j:=fun c hc=>by unfold kG;omega
                     simp[lk,w,XM z])
              case hq =>
                have ax:List.drop 2 (List.take ((((mJ (s+a.2+b.2) r).length:Int)+1+1).toNat) (D9 a.1 s a.2::D9 b.1 (s+a.2) b.2::mJ (s+a.2+b.2) r))=mJ (s+a.2+b.2) r:=by
                  rw[cx (by simp only[List.length_cons];omega)];rfl
                simp only[mJ];simp[go_sem,ax,-List.drop_succ_cons];refine⟨aq,?_⟩;have l1:=sN (first:=s) (k:=a.2) (h:=b.1) p7 (cR _);have l2:=sN (first:=s+a.2) (k:=b.2) (h:=a.1) l1 (cR _)
                have tu:io (up++[(cC a.1 b.1,a.2+b.2)])=s+a.2+b.2:=by
                  have:=p3;simp only[io,List.map_append,List.sum_append,List.map_cons,List.map_nil,List.sum_cons,List.sum_nil]at this⊢;omega
                refine am (s+a.2+b.2,r,up++[(cC a.1 b.1,a.2+b.2)],cG (s+a.2) b.2 a.1 (cG s a.2 b.1 g)) ⟨by rw[←B];simp[dQ],S,tu,?_,fun u v hp=>T (u,v) (by simp[hp]),?_,vS (vS p8 hb) ha,l2⟩ (by simp only[List.length_cons];omega) ⟨?_,?_,aw⟩
                · have:=X
                  simp only[io,List.map_cons,List.sum_cons]at this⊢;omega
                · intro u v hp
                  rcases cL.1 hp with hp|hp
                  · exact p6 (u,v) hp
                  · simp at hp;obtain⟨rfl,_⟩:=hp;exact iT _ _
                · simp[ai,fv,lk,AV.low,AV.low1]
                · intro p hp
                  rcases et.1 hp with rfl|hp
                  · exact⟨.inl rfl,by show 40000<50000;omega,Bh _ _ _⟩
                  · exact vQ aw L rfl (fun j z=>by
                      have w:∀c,(c<20000∨20008≤c)→¬c=kG j:=fun c hc=>by unfold kG;omega
                      have:=oW 8 20000 (cG (s+a.2) b.2 a.1 (cG s a.2 b.1 g)) j z;simp[lk,w]
                      exact this) p hp
          · have ab:q.length≤1:=aq
            rw[Gy ab]at B;rw[Ed ab]at S;subst S;have ap:up.length+q.length≤10:=by
              have e1:=congrArg List.length B;have e2:=oZ o;simp only[b_]at e1;omega
            have M:(mJ 0 up).map (fun q=>q.map AV.d)++(mJ s q).map (fun q=>q.map AV.d)=(mJ 0 (dQ o)).map (fun q=>q.map AV.d):=by
              rw[←B,vO,List.map_append,Nat.zero_add,p3]
            have ad:up.length+q.length=(mJ 0 (dQ o)).length:=(by rw[nJ,←B,b_]);refine⟨aq,?_⟩;refine Nr (m,dQ o,gu 0 o f) ⟨Y,?_,by show m≤7;omega,?_,?_,p8,?_⟩ (by show m<m+1;omega) [40000] [(7,.d (.ro 34 (mJ 0 (dQ o))))] (fun p hp=>?_) ⟨?_,?_,aw⟩
            · have:=oZ o
              show(dQ o).length≤m+1;omega
            · show io (dQ o)=xs.length
              rw[rk];exact q4
            · intro u v hp
              exact vP o q5 (u,v) hp
            · intro j
              have:=p7 j;show(gu 0 o f j).length+m≤7;split at this<;>omega
            · simp at hp
              subst hp;refine .one (ao ?_);show SnapD _ _ (.own 40000 0 (up.length+q.length) (up.length+q.length)) _;rw[ad];exact ej (ty:=174) (by show some _=some _;rw[M]) aw rfl (xw _ _ (vP o q5))
            · simp[ai,fv,lk,AV.low,AV.low1]
            · intro p hp
              exact vQ aw L rfl (fun j z=>by
                have w:∀c,(c<20000∨20008≤c)→¬c=kG j:=fun c hc=>by unfold kG;omega
                have:=oW 8 20000 (gu 0 o f) j z;simp[aE,lk,w];rw[mR,if_neg (by simp;exact fun e=>w 40000 (.inr aq) e.symm)]
                exact this) p hp
      · have aH:o.length≤1:=aq
        rw[Gw aH]at Y;obtain⟨rfl,rfl⟩:o=R∧f=F:=by simpa using Y
        have hF:bM xs=f:=by unfold bM;rw[ac]
        rw[hF]at I;have g:=Bi inner (mZ f xs) O E hi (by rw[Bl];omega) I;have W:SnapD ((10000,(⟨33,34,lT inner kG f xs⟩:Blk))::kF 20000 8 f) (fun _=>True) (.own 10000 0 xs.length xs.length) (.ro 34 ((mZ f xs).map (c7 inner))):=by
          refine Eb (idf:=kG) hi rfl trivial (fun _ _=>trivial) q7 (fun j z=>?_);have w:∀c,(c<20000∨20008≤c)→¬c=kG j:=fun c hc=>by unfold kG;omega
          have:=oW 8 20000 f j aq;rw[lk,if_neg (w _ aq)];exact this
        refine jh g rfl (aj (.one (ao W)) (aj (.deep a9) aD)) trivial ?_;unfold fB;rw[hF];cases aN:sO E (mZ f xs)
        · rw [if_neg (by simp [U,h8])]
          simp[go_sem,ah];refine ek (cs':=[.d (.ro 34 ((mZ f xs).map (c7 inner))),.d (.int .i64 0)]) (fun i c c' C Q=>?_) rfl a9 rfl
          match i,C,Q with
          |0,C,Q=>simp at C Q;subst C Q;exact ao W
          |1,C,Q=>simp at C Q;subst C Q;exact aL trivial
          |k+2,C,_=>simp at C
        · rw [if_pos (.inr (.inr rfl))]
          simp[go_sem,ah];exact aa a9 rfl
theorem Ef:∀(b:List Wd)(a:List Nat),(∀w,w∈b→(ed w).2=true)→vu a b=(a++bz b,0)
 |[],a,_=>by simp[vu,bz]
 |w::r,a,h=>by
  have c:=h w aw;rw[vu,if_pos c,Ef r _ (fun v d=>h v (by simp[d])),←vJ c];simp[bz]
theorem Bm{n:Nat}(a:n=0∨77<n):(ed (n,[])).2=true:=by
 unfold ed;rw[if_neg (by simp;omega),if_neg (by simp;omega),if_neg (by simp;omega)];rfl
theorem Iw{n:Nat}(h:n<256):yM (n,[]):=⟨aw,h⟩
def gU(d:Int):List Wd:=[cY (cQ d),(178,[]),(117,[]),(179,[])]
def eF(a:List Nat):List Wd:=[cY (jb a),(188,[])]
def iV(a:List Nat)(d:Int):List Wd:=[cY a,(173,[]),cY (bz (gU d)),(81,[]),(187,[])]
theorem rm(x:List Nat):bytes (jb x):=fA _
theorem Eg(d:Int):∀w,w∈gU d→yM w∧(ed w).2=true:=by
 intro w a;have b:=gq d;simp[gU]at a;rcases a with rfl|rfl|rfl|rfl;exact⟨lB aq (ep d),pO aq⟩
 all_goals exact⟨Iw aq,Bm aq⟩
theorem xA{b:List Wd}(h:∀w,w∈b→(ed w).2=true∧w.1<256∧bytes w.2):bytes (bz b):=by
 unfold bz;intro z a;rw[List.mem_flatten]at a;obtain⟨l,c,a⟩:=a;obtain⟨w,g,rfl⟩:=List.mem_map.1 c;obtain⟨i,d,e⟩:=h w g;rw[vJ i]at a;exact xn d e z a
theorem kY:∀(a:List Wd)(n:Nat),(∀w,w∈a→w.2.length≤n)→(bz a).length≤(n+3)*a.length
 |[],n,_=>by simp[bz]
 |w::r,n,h=>by
  have e:=NT w;have d:=h w aw;have b:=kY r n (fun v c=>h v (by simp[c]));simp only[bz,List.map_cons,List.flatten_cons,b_,List.length_cons]at b⊢;rw[Nat.mul_succ];omega
theorem na(d:Int):(bz (gU d)).length≤48:=by
 have b:=gq d;have:=kY (gU d) 9 (by
  intro w a;simp[gU]at a;rcases a with rfl|rfl|rfl|rfl;have:=fU (cQ d);omega
  all_goals simp)
 simpa[gU]using this
theorem uQ(d:Int):bytes (bz (gU d)):=xA (fun w a=>by
 have:=Eg d w a;refine⟨this.2,this.1.2,?_⟩;simp[gU]at a;rcases a with rfl|rfl|rfl|rfl;exact mh (ep d)
 all_goals exact fun z b=>by simp at b)
theorem Bn(a:List Nat):∀w,w∈eF a→yM w∧(ed w).2=true:=by
 intro w b;have c:=lC a;simp[eF]at b;rcases b with rfl|rfl;exact⟨lB aq (rm _),pO aq⟩;exact⟨Iw aq,Bm aq⟩
theorem N6{a:List Nat}(d:Int)(g:a.length=32)(c:bytes a):∀w,w∈iV a d→yM w∧(ed w).2=true:=by
 intro w b;have e:=na d;simp[iV]at b;rcases b with rfl|rfl|rfl|rfl|rfl;exact⟨lB aq c,pO aq⟩;exact⟨Iw aq,Bm aq⟩;exact⟨lB aq (uQ d),pO aq⟩
 all_goals exact⟨Iw aq,Bm aq⟩
theorem S3(n:Int)(b:-9223372036854775808≤n)(a:n<9223372036854775808):au Tryz.prog 25 [.d (.int .i64 n)] (fun r=>r=.agg (sJ (cY (cQ n)))):=by
 refine bF Tryz.func25 Tryz.ntmps25 (rs:=[.cell 2 42]) a9 ?_;have c:=gq n;simp[go_sem];refine ag (lD n b a) a9 ?_;simp[go_sem];refine ag (pM (cQ n) aq (ep n)) a9 ?_;generalize cY (cQ n)=w;simp[go_sem,sJ,ah];exact aa a9 rfl
theorem xB(n:Nat):au Tryz.prog 116 [.d (.int .u8 (n:Int))] (fun r=>r=.agg (sJ (n,[]))):=by
 refine bF Tryz.func116 Tryz.ntmps116 (rs:=[.cell 2 42]) a9 ?_;simp[go_sem,sJ,ah];refine wU (cs':=[.d (.int .u8 (n:Int)),.d (nb [])]) (fun i c e a b=>?_) rfl a9 rfl
 match i,a,b with
 |0,a,b=>simp at a b;subst a b;exact aL trivial
 |1,a,b=>simp at a b;subst a b;exact ao (.nil 1)
 |k+2,a,_=>simp at a
theorem uc(a:List Wd)(b:∀w,w∈a→yM w∧(ed w).2=true)(e:a.length≤10000):au Tryz.prog 115 [.d (.ro 2 (a.map qD))] (fun r=>r=.d (nb (bz a))):=by
 refine bF Tryz.func115 Tryz.ntmps115 (rs:=[.tmp 2]) a9 ?_;have c:=D2 a (fun w h=>(b w h).1) e;rw[Ef a [] (fun w h=>(b w h).2),List.nil_append]at c;simp[go_sem];refine ag c a9 ?_;simp[go_sem,ah];exact aa a9 rfl
def cH(inner b:List Nat)(d:Int)(a:List Nat):List AV:=cb inner++([.d (nb b),.d (.int .i64 d)]++cb a)
theorem fX{inner a:List Nat}(hi:inner.length=32)(c:a.length=32)(b:List Nat)(d:Int):(cH inner b d a).length=66:=by simp[cH,ak,hi,c]
theorem bU{inner a:List Nat}(hi:inner.length=32)(c:a.length=32)(b:List Nat)(d:Int):List.take 66 (cH inner b d a)=cH inner b d a:=cx (by rw[fX hi c];exact cR _)
theorem sP{inner:List Nat}(hi:inner.length=32)(a:List Nat)(d:Int)(b:List Nat):(cH inner a d b)[32]?=some (.d (nb a)):=by
 unfold cH;rw[dz (by rw[ak];omega),ak,hi];rfl
theorem xC{inner:List Nat}(hi:inner.length=32)(b:List Nat)(d:Int)(a:List Nat):(cH inner b d a)[33]?=some (.d (.int .i64 d)):=by
 unfold cH;rw[dz (by rw[ak];omega),ak,hi];rfl
theorem ud{inner:List Nat}(hi:inner.length=32)(b:List Nat)(d:Int)(a:List Nat)(c:32<(cH inner b d a).length):(cH inner b d a)[32]=.d (nb b):=by
 have:=sP hi b d a;rw[cm c]at this;exact Option.some.inj this
theorem zR{inner:List Nat}(hi:inner.length=32)(b:List Nat)(d:Int)(a:List Nat)(c:33<(cH inner b d a).length):(cH inner b d a)[33]=.d (.int .i64 d):=by
 have:=xC hi b d a;rw[cm c]at this;exact Option.some.inj this
theorem Eh{inner:List Nat}(hi:inner.length=32)(b:List Nat)(d:Int)(a:List Nat):List.take 32 (cH inner b d a)=cb inner:=by
 unfold cH;rw[List.take_append_of_le_length (by rw[ak,hi];exact cR _),al hi]
theorem xE(inner b:List Nat)(d:Int)(a:List Nat):(AV.agg (cH inner b d a)).deep:=by
 intro c hc;unfold cH at hc;rcases cL.1 hc with h|h;exact bn _ _ h;rcases cL.1 h with h|h;simp at h;rcases h with rfl|rfl<;>trivial;exact bn _ _ h
theorem dx(inner b:List Nat)(d:Int)(a:List Nat):∀v,v∈[AV.agg (cH inner b d a)]→v.deep:=by
 intro v c;simp at c;subst c;exact xE _ _ _ _
theorem XO(inner a:List Nat)(d:Int)(b:List Nat)(hi:inner.length=32)(l:b.length=32):au Tryz.prog 69 [.agg (cH inner a d b)] (fun r=>r=.d (.bool (decide (0≤d∧d≤65535∧a.length≤1000)))):=by
 refine bF Tryz.func69 Tryz.ntmps69 (rs:=[.tmp 2]) (dx _ _ _ _) ?_;have g:=fX hi l a d;have e:=ud hi a d b;have c:=zR hi a d b;have k:=sP hi a d b;have m:=xC hi a d b;by_cases h:0≤d
 ·by_cases i:d≤65535
  ·by_cases j:a.length≤1000
   ·have i3:(a.length:Int)≤1000:=aq;simp[go_sem,g,e,c,h,i,j,i3,nb,ah];exact aa a9 rfl
   ·have i3:¬(a.length:Int)≤1000:=aq;simp[go_sem,g,e,c,h,i,j,i3,nb,ah];exact aa a9 rfl
  ·simp[go_sem,g,c,h,i,ah];exact aa a9 rfl
 ·simp[go_sem,g,c,h,ah];exact aa a9 rfl
theorem sQ(inner a:List Nat)(d:Int)(b:List Nat)(hi:inner.length=32)(m:b.length=32)(j:a.length≤100000):au Tryz.prog 71 [.agg (cH inner a d b)] (fun r=>r=.d (nb (bz (eF a)))):=by
 refine bF Tryz.func71 Tryz.ntmps71 (rs:=[.tmp 2]) (dx _ _ _ _) ?_;have k:=fX hi m a d;have g:=ud hi a d b;have l:=sP hi a d b;have i:=lC a;simp[go_sem,k,g];refine ag (xm a j) a9 ?_;simp[go_sem,ak,i,cp];refine bA [160] (pM (jb a) aq (rm a)) rfl (aj (.one (ao (eU rfl aw i))) aD) ?_;have c:=Bn a;have h:eF a=[cY (jb a),(188,[])]:=rfl;rw[h]at c⊢;generalize cY (jb a)=w at *;simp[go_sem,aE];refine ag (xB 188) a9 ?_;simp[go_sem,sJ];refine bA [320] (uc [w,(188,[])] c aw) rfl (aj (.one (ao (ej (ty:=42) (e:=2) (es:=[w,(188,[])].map qD) (by simp[lk,qD]) aw rfl (by simp[qD])))) aD) ?_;simp[go_sem,ah];exact aa a9 rfl
theorem Ei(inner b:List Nat)(d:Int)(a:List Nat)(hi:inner.length=32)(k:a.length=32)(l:-9223372036854775808≤d)(j:d<9223372036854775808):au Tryz.prog 117 [.agg (cH inner b d a)] (fun r=>r=.d (nb (bz (gU d)))):=by
 refine bF Tryz.func117 Tryz.ntmps117 (rs:=[.tmp 2]) (dx _ _ _ _) ?_;have i:=fX hi k b d;have h:=zR hi b d a;have m:=xC hi b d a;simp[go_sem,i,h];refine ag (S3 d l j) a9 ?_;have c:=Eg d;have g:gU d=[cY (cQ d),(178,[]),(117,[]),(179,[])]:=rfl;rw[g]at c⊢;generalize cY (cQ d)=w at *;simp[go_sem];refine ag (xB 178) a9 ?_;simp[go_sem];refine ag (xB 117) a9 ?_;simp[go_sem];refine ag (xB 179) a9 ?_;simp[go_sem,sJ];refine bA [256] (uc [w,(178,[]),(117,[]),(179,[])] c aw) rfl (aj (.one (ao (ej (ty:=42) (e:=2) (es:=[w,(178,[]),(117,[]),(179,[])].map qD) (by simp[lk,qD]) aw rfl (by simp[qD])))) aD) ?_;simp[go_sem,ah];exact aa a9 rfl
def uR(inner b:List Nat)(d:Int)(a:List Nat):List DV:=cd inner++([nb b,.int .i64 d]++cd a)
theorem uf(inner b:List Nat)(d:Int)(a:List Nat):(uR inner b d a).map AV.d=cH inner b d a:=by simp[uR,cH,da]
theorem KA{inner a:List Nat}(hi:inner.length=32)(c:a.length=32)(b:List Nat)(d:Int):(uR inner b d a).length=66:=by simp[uR,cj,hi,c]
theorem N7{inner a:List Nat}(hi:inner.length=32)(c:a.length=32)(b:List Nat)(d:Int):List.drop 34 (uR inner b d a)=cd a:=by
 unfold uR;rw[←cD,List.drop_append,dg (by simp[cj,hi]),List.nil_append];simp[cj,hi]
theorem Ej(inner g:List Nat)(d:Int)(a:List Nat)(hi:inner.length=32)(h:a.length=32)(t:bytes a)(x:-9223372036854775808≤d)(A:d<9223372036854775808):au Tryz.prog 72 [.agg (cH inner g d a)] (fun r=>r=.d (nb (bz (iV a d)))):=by
 refine ua Tryz.func72 (by kernel_rfl) rfl Tryz.ntmps72 (rs:=[.tmp 2]) rfl (dJ rfl) (dx _ _ _ _) ?_;have s:=fX hi h g d;refine sL (gr ?_);simp[go_sem,s];simp only[AO];refine Bd (st':=⟨[(1,.rop (uR inner g d a))],[],9000⟩) (wT [0] [(1,.rop (uR inner g d a))] ?_ ?_) ?_
 intro p hp;simp only[et,List.mem_nil_iff,or_false]at hp;subst hp;exact .ptr aw rfl rfl rfl (by rw[List.drop_zero,←uf];exact kW _);simp[az,ai,fv,lk,aE,AV.low,AV.low1];refine gr ?_;have B:=KA hi h g d;have o:=N7 hi h g d;have y:=na d;simp[go_sem];refine cz [0,1,4] [(2,[]),(3,[]),(5,[]),(6,[]),(7,[]),(8,[]),(9,[]),(10,[11])] 8 (k:=12) ?_;intro G m
 have l:List.map (fun c=>[c]) (List.take 32 (cd a))=a.map fun(b:Nat)=>[DV.int .u8 (b:Int)]:=by
  rw[cx (by simp[cj,h])];simp[cd]
 simp[go_sem,o,cj,h,uf,bU hi h,l,s];have q:=pM a aq t;have z:=pM (bz (gU d)) aq (uQ d);have i:=N6 d h t;have j:iV a d=[cY a,(173,[]),cY (bz (gU d)),(81,[]),(187,[])]:=rfl;rw[j]at i;rw[j]at m;have u:=Ei inner g d a hi h x A;generalize bz (gU d)=W at *;generalize cY a=w at *;generalize cY W=v at *;simp only[nb]at q;refine ag q a9 ?_;simp[go_sem];refine ag (xB 173) a9 ?_;simp[go_sem];refine ag u (dx _ _ _ _) ?_;simp[go_sem];refine ag z a9 ?_;simp[go_sem];refine ag (xB 81) a9 ?_;simp[go_sem];refine ag (xB 187) a9 ?_;simp[go_sem,sJ];refine bA [9288] (uc [w,(173,[]),v,(81,[]),(187,[])] i aw) rfl (aj (.one (ao (ej (ty:=42) (e:=2) (es:=[w,(173,[]),v,(81,[]),(187,[])].map qD) (by simp[lk,qD]) aw rfl (by simp[qD])))) aD) ?_;simp[go_sem];refine m _ _ ?_;clear m G;simp[go_sem,ah];exact aa a9 rfl
abbrev bc:=List Nat
def kt:List Nat→Nat
 |[]=>0
 |b::r=>b+256*kt r
theorem nK:∀(a b:List Nat),kt (a++b)=kt a+256 ^ a.length*kt b
 |[],b=>by simp[kt]
 |x::a,b=>by
  rw[List.cons_append,kt,kt,nK,List.length_cons,Nat.pow_succ,Nat.mul_add,Nat.add_assoc,←Nat.mul_assoc,Nat.mul_comm 256 (256 ^ a.length)]
theorem ug:∀{b:List Nat},bytes b→kt b<256 ^ b.length
 |[],_=>by simp[kt]
 |x::b,h=>by
  have d:=ug (b:=b) (fun y a=>h y (cU _ a));have c:x<256:=h x aw;rw[kt,List.length_cons,Nat.pow_succ];omega
theorem Ix:∀(k m:Nat),m<256 ^ k→kt (zL k m)=m
 |0,m,h=>by simp at h;subst h;rfl
 |k+1,m,h=>by
  rw[zL];split;rename_i e;subst e;rfl;rw[kt,Ix k (m/256) (by rw[Nat.pow_succ]at h;omega)];omega
def Bo(b:bc):Int:=match b.reverse with
 |[]=>0
 |x::r=>if x<128 then(kt b:Int)else -((kt b-128*256 ^ (b.length-1):Nat):Int)
theorem iW(a:bc)(x:Nat):Bo (a++[x])=if x<128 then((kt a+256 ^ a.length*x:Nat):Int)else -((kt a+256 ^ a.length*x-128*256 ^ a.length:Nat):Int):=by
 unfold Bo;rw[List.reverse_append];simp only[List.reverse_cons,List.reverse_nil,List.nil_append,List.singleton_append,b_,List.length_cons,List.length_nil,Nat.add_sub_cancel];rw[nK];simp[kt]
theorem KB(n:Int)(l:-9223372036854775808≤n)(j:n<9223372036854775808):Bo (cQ n)=n:=by
 have i:n.natAbs<256 ^ 8:=by show n.natAbs<18446744073709551616;omega
 have g:=Ix 8 n.natAbs i;have h:=pR 8 n.natAbs;unfold cQ;generalize zL 8 n.natAbs=b at g h;rcases fe b with rfl|⟨a,x,rfl⟩;have:n=0:=by simp[kt]at g;omega
 subst this;rfl;rw[pS];have k:x<256:=h x aw;have c:kt a+256 ^ a.length*x=n.natAbs:=by
  rw[nK]at g;simpa[kt]using g
 unfold jq;split;split;rename_i e;have d:n<0:=by simpa using e
 rw[show a++[x,128]=(a++[x])++[128]by simp,iW,if_neg aq,nK];simp only[b_,List.length_cons,List.length_nil,kt,Nat.mul_zero,Nat.add_zero];rw[c,Nat.mul_comm 128,Nat.add_sub_cancel];omega;rename_i e;have d:¬n<0:=by simpa using e
 rw[show a++[x,0]=(a++[x])++[0]by simp,iW,if_pos aq,nK];simp only[b_,List.length_cons,List.length_nil,kt,Nat.mul_zero,Nat.add_zero];rw[c];omega;split;rename_i e;have d:n<0:=by simpa using e
 rw[iW,if_neg aq,Nat.mul_add,Nat.mul_comm 128,←Nat.add_assoc,Nat.add_sub_cancel,c];omega;rename_i e;have d:¬n<0:=by simpa using e
 rw[iW,if_pos aq,c];omega
def gv(most:Nat)(b:bc):Option Int:=if b.length≤min most 8∧cQ (Bo b)=b then some (Bo b)else none
theorem S4{most:Nat}{n:Int}(c:-9223372036854775808≤n)(b:n<9223372036854775808)(a:(cQ n).length≤min most 8):gv most (cQ n)=some n:=by
 unfold gv;rw[KB n c b,if_pos ⟨a,rfl⟩]
def lH:bc→Bool
 |[]=>false
 |[c]=>decide (c≠0∧c≠128)
 |c::r=>decide (c≠0)||lH r
def js(b:Bool):bc:=if b then[1]else[]
structure Mc where
 main:List bc
 alt:List bc
 e:Int
def jc(x:Int)(m:Mc):Mc:=if m.e=0 then⟨m.main,m.alt,x⟩else m
def aQ(n:Nat)(m:Mc):Mc:=if m.main.length<n then jc 12 m else m
def dR(m:Mc):bc×Mc:=if(aQ 1 m).e=0 then(m.main.getLastD [],⟨m.main.dropLast,m.alt,m.e⟩)else([],aQ 1 m)
def eV(l:List bc)(m:Mc):Mc:=⟨m.main++l,m.alt,m.e⟩
def gw(most:Nat)(x:bc)(m:Mc):Int×Mc:=if m.e=0 then(match gv most x with|some n=>(n,m)|none=>(0,jc 15 m))else(0,m)
def c6(k:Nat)(put:List Nat)(m:Mc):Mc :=
 if(aQ k m).e=0 then⟨m.main.take (m.main.length-k)++put.map (fun i=>(m.main.drop (m.main.length-k)).getD i []),m.alt,m.e⟩else aQ k m
def nL(m:Mc):Mc:=⟨(dR m).2.main,(dR m).2.alt++[(dR m).1],(dR m).2.e⟩
def qL(m:Mc):Mc:=if m.alt.length=0 then jc 12 m else⟨m.main++[m.alt.getLastD []],m.alt.dropLast,m.e⟩
def jN(a:Nat)(m:Mc):Option Mc :=
 if a=97 then some m
 else if a=107 then some (nL m)
 else if a=108 then some (qL m)
 else if a=109 then some (c6 2 [] m)
 else if a=110 then some (c6 2 [0,1,0,1] m)
 else if a=111 then some (c6 3 [0,1,2,0,1,2] m)
 else if a=112 then some (c6 4 [0,1,2,3,0,1] m)
 else if a=113 then some (c6 6 [2,3,4,5,0,1] m)
 else if a=114 then some (c6 4 [2,3,0,1] m)
 else if a=117 then some (c6 1 [] m)
 else if a=118 then some (c6 1 [0,0] m)
 else if a=119 then some (c6 2 [1] m)
 else if a=120 then some (c6 2 [0,1,0] m)
 else if a=123 then some (c6 3 [1,2,0] m)
 else if a=124 then some (c6 2 [1,0] m)
 else if a=125 then some (c6 2 [1,0,1] m)
 else none
def kH(b:Bool)(m:Mc):Mc :=
 let p:=dR m
 let r:=gw 4 p.1 p.2
 if r.2.e=0 then
  (if r.1<0∨(r.2.main.length:Int)≤r.1 then jc 12 r.2
  else
   let a:=r.2.main.length-1-r.1.toNat
   eV [r.2.main.getD a []] ⟨if b then r.2.main.eraseIdx a else r.2.main,r.2.alt,r.2.e⟩)
 else r.2
def kJ(b:Bool)(m:Mc):Mc:=if b then m else jc 16 m
def rp(m:Mc):bc:=m.main.getLastD []
def Ek(m:Mc):bc:=m.main.getD (m.main.length-2) []
def qM(m:Mc):Mc:=if(aQ 2 m).e=0 then eV [Ek m++rp m] (c6 2 [] m)else aQ 2 m
def iq(m:Mc):Bool×Mc:=if(aQ 2 m).e=0 then(decide (rp m=Ek m),c6 2 [] m)else(false,aQ 2 m)
def mi(f:bc→bc)(m:Mc):Mc:=if(aQ 1 m).e=0 then eV [f (dR m).1] (dR m).2 else aQ 1 m
def yF(b c:bc→bc)(a:Nat)(m:Mc):Option Mc :=
 if a=121 then some (kH false m)
 else if a=122 then some (kH true m)
 else if a=105 then some (kJ (lH (dR m).1) (dR m).2)
 else if a=115 then some (if(aQ 1 m).e=0 then(if lH (rp m)then eV [rp m] m else m)else aQ 1 m)
 else if a=116 then some (eV [cQ (m.main.length:Int)] m)
 else if a=126 then some (qM m)
 else if a=130 then some (if(aQ 1 m).e=0 then eV [cQ ((rp m).length:Int)] m else aQ 1 m)
 else if a=135 then some (eV [js (iq m).1] (iq m).2)
 else if a=136 then some (kJ (iq m).1 (iq m).2)
 else if a=168 then some (mi b m)
 else if a=170 then some (mi c m)
 else none
def vU(b:Nat)(a:Int):Option Int :=
 if b=139 then some (a+1)else if b=140 then some (a-1)else if b=143 then some (-a)else if b=144 then some (max a (-a))
 else if b=145 then some (if a=0 then 1 else 0)else if b=146 then some (if a=0 then 0 else 1)else none
def FH(c:Nat)(a b:Int):Option Bool :=
 if c=154 then some (decide (a≠0)&&decide (b≠0))else if c=155 then some (decide (a≠0)||decide (b≠0))
 else if c=156∨c=157 then some (decide (a=b))else if c=158 then some (decide (a≠b))
 else if c=159 then some (decide (a<b))else if c=160 then some (decide (b<a))
 else if c=161 then some (decide (a≤b))else if c=162 then some (decide (b≤a))else none
def xF(c:Nat)(a b:Int):Option Int :=
 if c=147 then some (a+b)else if c=148 then some (a-b)else if c=163 then some (min a b)else if c=164 then some (max a b)
 else(FH c a b).map fun v=>if v then 1 else 0
def oC:Nat→Mc→List Int×Mc
 |0,m=>([],m)
 |k+1,m =>
  let p:=dR m
  let r:=gw 4 p.1 p.2
  let q:=oC k r.2
  (q.1++[r.1],q.2)
def d6(n:Nat)(m:Mc):List Int×Mc:=if(aQ n m).e=0 then oC n m else(List.replicate n 0,aQ n m)
def qE (a:Nat) (m:Mc):Option Mc :=
 if a=165 then
  some (let p:=d6 3 m;eV [js (decide (p.1.getD 1 0≤p.1.getD 0 0)&&decide (p.1.getD 0 0<p.1.getD 2 0))] p.2)
 else match vU a 0 with
  |some _=>some (let p:=d6 1 m;eV [cQ ((vU a (p.1.getD 0 0)).getD 0)] p.2)
  | none=>match xF a 0 0 with
   |none=>none
   |some _=>some (
    let p:=d6 2 m
    let n:=(xF a (p.1.getD 0 0) (p.1.getD 1 0)).getD 0
    if a=157 then kJ (decide (n≠0)) p.2 else eV [cQ n] p.2)
def fZ(main alt:List bc):Int:=if(main.all fun x=>decide (x.length≤520))&&(alt.all fun x=>decide (x.length≤520))then(if main.length+alt.length≤100 then 0 else 13)else 14
def dY(m:Mc):List bc×List bc×Int :=
 if m.e=0 then(if fZ m.main m.alt=0 then(m.main,m.alt,0)else([],[],fZ m.main m.alt))else([],[],m.e)
def zS(c b:bc→bc)(a:Nat)(main alt:List bc):List bc×List bc×Int :=
 match jN a ⟨main,alt,0⟩with
 |some m=>dY m
 | none=>match yF c b a ⟨main,alt,0⟩ with
  |some m=>dY m
  |none=>match qE a ⟨main,alt,0⟩with
   |some m=>dY m
   |none=>([],[],10)
end Go.Proofs.YtmfnimjnneflnaaGreat
namespace Go.Am
end Go.Am
namespace Go.Am
section
variable {P:Program}
def kt(n:Nat)(v a:AV):Prop:=a=v∨a=.any∨((v=.nil∨∃e,v=.d (.rof e []))∧((∃id,id<n∧a=.own id 0 0 0)∨∃e,a=.d (.ro e [])))
theorem XP{n:Nat}{v b:AV}(h:kt n v b){w:World}{S:Nat→Prop}{σ:Nat→Option Nat}{hp:Hp}{x:Value}(a:AIs w S σ hp (fun i=>i<n) v x):AIs w S σ hp (fun i=>i<n) b x:=by
 rcases h with rfl|rfl|⟨h,g⟩;exact a;exact .any _;have own:∀A,AIs w S σ hp (fun i=>i<n) b (.slice A 0 0):=fun A=>by
  rcases g with ⟨id,c,rfl⟩|⟨e,rfl⟩;exact .own id 0 0 0 A 0 c (cR _) (fun _=>rfl) fun b2 j=>⟨Nat.zero_le _,fun _=>⟨cR _,cR _,fun h=>aq⟩⟩;exact .d (.ro e [] A 0 (fun _ _=>undef) aw aw aw aw aw)
 rcases h with rfl|⟨e,rfl⟩;cases a with
 |nil=>exact own none
 ·cases a with
  |d a =>
   cases a with
   |rof _ _ A vs h1 g h3 h4=>exact own A
theorem aaY{st:St}{L:Nat}{b:Blk}{es':List (List AV)}(W:lk L st.hp=some b)(hz:b.e≠0)(hl:es'.length=b.es.length)
  (hc:∀(i:Nat)(x E:List AV),b.es[i]?=some x→es'[i]?=some E→E.length=x.length∧∀(j:Nat)(v T:AV),x[j]?=some v→E[j]?=some T→kt st.nx v T):Wk st ⟨st.fr,bX L ⟨b.ty,b.e,es'⟩ st.hp,st.nx⟩:=by
 intro c a w hs;obtain⟨Y,h2,σ,q,X,A⟩:=hs;have l:∀i k,lk i (bX L ⟨b.ty,b.e,es'⟩ st.hp)=some k→∃p,lk i st.hp=some p∧k.ty=p.ty∧k.e=p.e∧k.es.length=p.es.length∧(i≠L→k=p)∧(i=L→k=⟨b.ty,b.e,es'⟩∧p=b):=by
  intro i k h;rw[lW]at h;by_cases m:i=L;subst m;rw[if_pos rfl,W]at h;simp only[Option.map_some,Option.some.injEq]at h;subst h;exact⟨b,W,rfl,rfl,hl,fun e=>absurd rfl e,fun _=>⟨rfl,rfl⟩⟩;rw[if_neg m]at h;exact⟨k,h,rfl,rfl,rfl,fun _=>rfl,fun e=>absurd e m⟩
 have hS:∀p,bQ c w σ st.hp p→bQ c w σ (bX L ⟨b.ty,b.e,es'⟩ st.hp) p:=fun p t=>⟨⟨t.1.1,fun id J g h u=>by
  obtain⟨d,o,_⟩:=l id J h
  exact t.1.2 id d g o u⟩,t.2⟩
 have step:Step w (bQ c w σ st.hp) σ st.hp (fun i=>i<st.nx) w (bQ c w σ (bX L ⟨b.ty,b.e,es'⟩ st.hp)) σ (bX L ⟨b.ty,b.e,es'⟩ st.hp) (fun i=>i<st.nx) :=
  ⟨hS,fun _ _=>rfl,fun _ h=>h,fun id k _ h=>by
   obtain⟨d,o,z,C,O,_⟩:=l id k h
   exact⟨d,o,C,z,aq,fun _ g u=>⟨u,fun _ h=>h⟩⟩⟩
 refine⟨Y,h2,σ,⟨fun i j bi bj g m B G H=>?_,fun i k h=>?_,fun i k h=>?_,fun i k g h u=>?_,q.os,q.tape,q.output,q.size,q.old⟩,fun n=>(X n).step step,A.trans step⟩;obtain⟨d,o,_⟩:=l i bi m;obtain⟨b2,z,_⟩:=l j bj B;exact q.inj i j d b2 g o z G H;obtain⟨d,o,_⟩:=l i k h;exact q.lt i d o;obtain⟨d,o,z,C,O,K,R⟩:=l i k h;rcases q.blk i d o with ⟨M,k2⟩|⟨g,M,F,k2,k3,k4,k5,V⟩;refine .inl ⟨M,?_⟩;by_cases m:i=L;obtain⟨rfl,rfl⟩:=R m;have:=k2.none hz;exact .inl (List.length_eq_zero_iff.1 (by rw[O,this];rfl));rw[K m];exact k2;refine .inr ⟨g,M,F,by rw[z];exact k2,k3,?_,by rw[O,C];exact k5,?_⟩;by_cases m:i=L;obtain⟨rfl,rfl⟩:=R m;intro x hx;obtain⟨n,U,rfl⟩:=List.mem_iff_getElem.1 hx;have r:n<d.es.length:=by simp only at U;omega
 obtain⟨S,_⟩:=hc n d.es[n] _ (cm r) (cm U);rw[S];exact k4 _ (List.getElem_mem _);rw[K m];exact k4;intro s j x y v D I Q;rw[C]at Q;by_cases m:i=L;obtain⟨rfl,rfl⟩:=R m;have r:s<d.es.length:=by have:=(ci.1 D).1;simp only at this;omega
 obtain⟨S,Z⟩:=hc s d.es[s] x (cm r) D;have B:j<d.es[s].length:=by have:=(ci.1 I).1;omega
 have hv:=V s j d.es[s] d.es[s][j] v (cm r) (cm B) Q;exact(XP (Z j _ y (cm B) I) hv).step step;rw[K m]at D;exact(V s j x y v D I Q).step step;obtain⟨d,o,_⟩:=l i k h;exact q.mine i d g o u
def N8(n:Nat)(x a:List AV):Prop:=a.length=x.length∧∀(j:Nat)(v b:AV),x[j]?=some v→a[j]?=some b→kt n v b
theorem KC{n:Nat}(l r:List AV){a a':AV}(h:kt n a a'):N8 n (l++a::r) (l++a'::r):=by
 refine⟨aw,fun j v g c b=>?_⟩;rcases Nat.lt_or_ge j l.length with d|d;rw[List.getElem?_append_left d]at c b;rw[c]at b;exact .inl (Option.some.inj b).symm;rw[dz d]at c b;cases e:j-l.length with
 |zero =>
  rw[e]at c b;simp at c b;subst c;subst b;exact h
 |succ k =>
  rw[e]at c b;simp at c b;rw[c]at b;exact .inl (Option.some.inj b).symm
theorem XQ{st:St}{L:Nat}{ty:TypeId}{e:Nat}{x b:List AV}(g:lk L st.hp=some ⟨ty,e,[x]⟩)(d:e≠0)(h:N8 st.nx x b):Wk st ⟨st.fr,bX L ⟨ty,e,[b]⟩ st.hp,st.nx⟩ :=
 aaY g d rfl fun i y j a c=>by
  cases i with
  |zero=>simp at a c;subst a;subst c;exact h
  |succ i=>simp at a
end
end Go.Am
namespace Go.Am
def ru(n:Nat)(f:Nat→Nat):Prop:=∀i j,i<n→j<n→f i=f j→i=j
def lI(n:Nat)(f g:Nat→Nat):List (Nat×Nat):=(List.range n).map fun i=>(f i,g i)
theorem dF{n:Nat}{f g:Nat→Nat}{p:Nat×Nat}:p∈lI n f g↔∃i,i<n∧p=(f i,g i):=by
 simp only[lI,List.mem_map,List.mem_range];constructor;rintro⟨i,h,rfl⟩;exact⟨i,h,rfl⟩;rintro⟨i,h,rfl⟩;exact⟨i,h,rfl⟩
theorem aV(n:Nat):ru n id:=fun i j _ _ h=>h
theorem aaZ{n:Nat}{f g:Nat→Nat}(c:ru n f)(e:ru n g):gm (lI n f g)=true:=by
 refine d9.2 fun p hp=>d9.2 fun q d=>?_;obtain⟨i,b,rfl⟩:=dF.1 hp;obtain⟨j,a,rfl⟩:=dF.1 d;rw[beq_iff_eq,Bool.eq_iff_iff,beq_iff_eq,beq_iff_eq];exact⟨fun h=>by rw[c i j b a h],fun h=>by rw[e i j b a h]⟩
theorem Iy(n:Nat)(f g:Nat→Nat):iJ (lI n f g)=lI n g f:=by simp[iJ,lI]
theorem N9{n:Nat}{f:Nat→Nat}(g:Nat→Nat)(e:ru n f){i:Nat}(hi:i<n):lk (f i) (lI n f g)=some (g i) :=
 mU (fun a b c m k=>by
  obtain⟨i,hi,l⟩:=dF.1 m;obtain⟨j,h,d⟩:=dF.1 k;cases l;simp only[Prod.mk.injEq]at d;obtain⟨d,rfl⟩:=d
  rw[e i j hi h d]) (dF.2 ⟨i,hi,rfl⟩)
theorem vV{n:Nat}{f:Nat→Nat}(g:Nat→Nat)(d:Nat)(a:ru n f){i:Nat}(hi:i<n):b8 (lI n f g) d (f i)=g i:=AY (N9 g a hi)
def hpL(n:Nat)(f:Nat→Nat)(b:Nat→Blk):Hp:=(List.range n).map fun i=>(f i,b i)
theorem nM{n:Nat}{f:Nat→Nat}{b:Nat→Blk}{p:Nat×Blk}:p∈hpL n f b↔∃i,i<n∧p=(f i,b i):=by
 simp only[hpL,List.mem_map,List.mem_range];constructor;rintro⟨i,h,rfl⟩;exact⟨i,h,rfl⟩;rintro⟨i,h,rfl⟩;exact⟨i,h,rfl⟩
theorem xG{α:Type}{n:Nat}{v:α}:∀{l:List (Nat×α)},(n,v)∈l→(∀u,(n,u)∈l→u=v)→lk n l=some v
 | (m,u) :: t,h,hu=>by
  simp only[lk];by_cases e:m=n;subst e;rw[if_pos rfl,hu u (d7 ..)];rw[if_neg e];rcases et.1 h with h|h;cases h;exact absurd rfl e;exact xG h fun u a=>hu u (cU _ a)
theorem Bq{n:Nat}{f:Nat→Nat}(b:Nat→Blk)(a:ru n f){i:Nat}(hi:i<n):lk (f i) (hpL n f b)=some (b i) :=
 xG (nM.2 ⟨i,hi,rfl⟩) fun u d=>by
  obtain⟨j,c,e⟩:=nM.1 d;simp only[Prod.mk.injEq]at e;obtain⟨e,rfl⟩:=e;rw[a i j hi c e]
theorem VI{F:Nat→Option Blk}{x y:Nat}:∀{l:List (Nat×Nat)},(x,y)∈l→(∀z,(z,y)∈l→z=x)→(∃v,F x=some v)→lk y (l.filterMap fun p=>(F p.1).map fun b=>(p.2,b))=F x
 | (a,c) :: t,h,hu,hv=>by
  obtain⟨v,d⟩:=hv;by_cases e:c=y;subst e;obtain rfl:a=x:=hu a (d7 ..);rw[List.filterMap_cons_some (b:=(c,v)) (by simp[d])];simp[lk,d];have k:(x,y)∈t:=by
   rcases et.1 h with h|h;cases h;exact absurd rfl e;exact h
  have g:=VI (F:=F) k (fun z j=>hu z (cU _ j)) ⟨v,d⟩;cases i:F a with
  |none=>rw[List.filterMap_cons_none (by simp[i])];exact g
  |some w =>
   rw[List.filterMap_cons_some (b:=(c,w)) (by simp[i])];simp only[lk,if_neg e];exact g
theorem Gz{F:Nat→Option Blk}{y:Nat}:∀{l:List (Nat×Nat)},(∀x,(x,y) ∉ l)→lk y (l.filterMap fun p=>(F p.1).map fun b=>(p.2,b))=none:=by
 intro l h;cases g:lk y (l.filterMap fun p=>(F p.1).map fun b=>(p.2,b))with
 |none=>rfl
 | some v =>
  have:=bK g;rw[List.mem_filterMap]at this;obtain⟨⟨a,c⟩,i,d⟩:=this;simp only at d;cases e:F a with
  |none=>rw[e]at d;simp at d
  |some w =>
   rw[e]at d;simp only[Option.map_some,Option.some.injEq,Prod.mk.injEq]at d;obtain⟨rfl,_⟩:=d;exact absurd i (h a)
section
variable {P:Program} {n:Nat} {f:Nat→Nat} {news:List (Nat × Nat)} {N:Nat} {hp hp':Hp}
def zT(n:Nat)(f:Nat→Nat)(news:List (Nat×Nat))(N:Nat):Nat→Nat:=b8 (bB (lI n id f) news N) (N+31)
theorem Em(a:db (lI n id f) news=true):(∀c j,(c,j)∈news→j<31∧n≤c)∧gm news=true:=by
 simp only[db,Bool.and_eq_true,d9,decide_eq_true_eq,bne_iff_ne,ne_eq]at a;refine⟨fun c j h=>⟨(a.2 _ h).1,?_⟩,a.1⟩;rcases Nat.lt_or_ge c n with b|d;exact absurd rfl ((a.2 _ h).2 (c,f c) (dF.2 ⟨c,b,rfl⟩));exact d
theorem Oa(o:db (lI n id f) news=true)(m:ru n f)(l:∀i,i<n→f i<N){x z y:Nat}(b:(x,y)∈bB (lI n id f) news N)(d:(z,y)∈bB (lI n id f) news N):z=x:=by
 obtain⟨r,p⟩:=Em o;rcases cL.1 b with b|b<;>rcases cL.1 d with d|d;obtain⟨i,h,e⟩:=dF.1 b;obtain⟨j,g,a⟩:=dF.1 d;cases e;simp only[Prod.mk.injEq,id_eq]at a⊢;obtain⟨q,a⟩:=a;rw[q];exact(m _ _ h g a).symm;obtain⟨i,h,e⟩:=dF.1 b;obtain⟨⟨c,j⟩,g,a⟩:=List.mem_map.1 d;cases e;simp only[Prod.mk.injEq]at a;have:=l i h;omega;obtain⟨i,h,e⟩:=dF.1 d;obtain⟨⟨c,j⟩,g,a⟩:=List.mem_map.1 b;cases e;simp only[Prod.mk.injEq]at a;have:=l i h;omega;obtain⟨⟨c,j⟩,g,e⟩:=List.mem_map.1 b;obtain⟨⟨c2,s⟩,k,a⟩:=List.mem_map.1 d;simp only[Prod.mk.injEq]at e a;obtain⟨rfl,e⟩:=e;obtain⟨rfl,a⟩:=a;exact((gJ p g k).2 aq).symm
theorem Iz(m:db (lI n id f) news=true){x y z:Nat}(b:(x,y)∈bB (lI n id f) news N)(d:(x,z)∈bB (lI n id f) news N):y=z:=by
 obtain⟨k,o⟩:=Em m;rcases cL.1 b with b|b<;>rcases cL.1 d with d|d;obtain⟨i,l,e⟩:=dF.1 b;obtain⟨j,g,a⟩:=dF.1 d;cases e;simp only[Prod.mk.injEq,id_eq]at a;obtain⟨rfl,rfl⟩:=a;rfl;obtain⟨i,l,e⟩:=dF.1 b;obtain⟨⟨c,j⟩,g,a⟩:=List.mem_map.1 d;cases e;simp only[Prod.mk.injEq,id_eq]at a;have:=(k _ _ g).2;omega;obtain⟨i,l,e⟩:=dF.1 d;obtain⟨⟨c,j⟩,g,a⟩:=List.mem_map.1 b;cases e;simp only[Prod.mk.injEq,id_eq]at a;have:=(k _ _ g).2;omega;obtain⟨⟨c,j⟩,g,e⟩:=List.mem_map.1 b;obtain⟨⟨c2,p⟩,h,a⟩:=List.mem_map.1 d;simp only[Prod.mk.injEq]at e a;obtain⟨rfl,rfl⟩:=e;obtain⟨rfl,rfl⟩:=a;rw[(gJ o g h).1 rfl]
theorem Br(e:db (lI n id f) news=true){i:Nat}(hi:i<n):zT n f news N i=f i :=
 AY (mU (fun a b c g d=>Iz e g d) (List.mem_append_left _ (dF.2 ⟨i,hi,rfl⟩)))
theorem Bt(e:db (lI n id f) news=true){c j:Nat}(h:(c,j)∈news):zT n f news N c=N+j :=
 AY (mU (fun a b c g d=>Iz e g d) (List.mem_append_right _ (List.mem_map.2 ⟨(c,j),h,rfl⟩)))
theorem IA(k:db (lI n id f) news=true)(g:ru n f)(j:∀i,i<n→f i<N){x y:Nat}(d:(x,y)∈bB (lI n id f) news N){b:Blk}(c:lk x hp'=some b) :
  lk y (bZ (lI n id f) news N hp' hp)=some (b.ren (zT n f news N)):=by
 have:=VI (F:=fun a=>(lk a hp').map fun b=>b.ren (zT n f news N)) d (fun z h=>Oa k g j d h) ⟨b.ren (zT n f news N),by simp[c]⟩;simp only[c,Option.map_some]at this;unfold bZ;rw[oP];have e:(bB (lI n id f) news N).filterMap (fun p=>(lk p.1 hp').map fun b=>(p.2,b.ren (b8 (bB (lI n id f) news N) (N+31))))=(bB (lI n id f) news N).filterMap (fun p=>((lk p.1 hp').map fun b=>b.ren (zT n f news N)).map fun b=>(p.2,b)):=by
  congr 1;funext p;cases lk p.1 hp'<;>rfl
 rw[e,this]
theorem S5(r:∀i,i<n→f i<N){y:Nat}(s:y<N)(l:∀i,i<n→f i≠y):lk y (bZ (lI n id f) news N hp' hp)=lk y hp:=by
 have g:∀x,(x,y) ∉ bB (lI n id f) news N:=by
  intro x d;rcases cL.1 d with d|d;obtain⟨i,k,e⟩:=dF.1 d;cases e;exact l i k rfl;obtain⟨⟨c,j⟩,q,m⟩:=List.mem_map.1 d;simp only[Prod.mk.injEq]at m;omega
 have:=Gz (F:=fun a=>(lk a hp').map fun b=>b.ren (zT n f news N)) g;unfold bZ;rw[oP];have e:(bB (lI n id f) news N).filterMap (fun p=>(lk p.1 hp').map fun b=>(p.2,b.ren (b8 (bB (lI n id f) news N) (N+31))))=(bB (lI n id f) news N).filterMap (fun p=>((lk p.1 hp').map fun b=>b.ren (zT n f news N)).map fun b=>(p.2,b)):=by
  congr 1;funext p;cases lk p.1 hp'<;>rfl
 rw[e,this];simp only;rw[tX fun o=>!((lI n id f).map (·.2)).contains o,if_pos];simp only[Bool.not_eq_true',List.contains_eq_mem,decide_eq_false_iff_not,List.mem_map,not_exists,not_and];intro p h e;obtain⟨i,k,rfl⟩:=dF.1 h;exact l i k e
end
end Go.Am
namespace Go.Am
section
variable {P:Program}
theorem En{c:Ctx}{hp d:Hp}{U:Nat→Prop}{σ:Nat→Option Nat}{w:World}(a:∀i b,lk i d=some b→lk i hp=some b)(e:Rel c hp U σ w) :
  Rel c d U σ w∧Step w (bQ c w σ hp) σ hp U w (bQ c w σ d) σ d U:=by
 have l:Step w (bQ c w σ hp) σ hp U w (bQ c w σ d) σ d U :=
  ⟨fun b h=>⟨⟨h.1.1,fun id m g p o=>h.1.2 id m g (a _ _ p) o⟩,h.2⟩,fun _ _=>rfl,fun _ h=>h,fun id u _ h=>⟨u,a _ _ h,rfl,rfl,cR _,fun _ g o=>⟨o,fun _ h=>h⟩⟩⟩
 refine⟨⟨fun i j t r g v q=>e.inj i j t r g (a _ _ v) (a _ _ q),fun i b h=>e.lt i b (a _ _ h),fun i b h=>?_,fun i b g h=>e.mine i b g (a _ _ h),e.os,e.tape,e.output,e.size,e.old⟩,l⟩;rcases e.blk i b (a _ _ h)with k|⟨g,s,k2⟩;exact .inl k;exact .inr ⟨g,s,k2.step l rfl⟩
theorem Eo{g:FuncId}{args:List AV}{hp:Hp}{N:Nat}{K K':AV→Hp→Prop}(h:gi P g args hp N K')(m:∀r hp',K' r hp'→∃a,(∀i b,lk i a=some b→lk i hp'=some b)∧K r a):gi P g args hp N K:=by
 refine⟨h.1,fun c U σ w l j q t y=>(h.2 c U σ w l j q t y).mono fun e z u=>?_⟩;obtain⟨x,rfl,v,hp',σ',p,k2,k3,k4⟩:=u;obtain⟨a,k,o⟩:=m v hp' p;obtain⟨s,d⟩:=En k k2;exact⟨x,rfl,v,a,σ',o,s,k3.trans d,k4.step d⟩
theorem pV{n:Nat}{N:Nat}{hp:Hp}{g:FuncId}{args d:List AV}{K:AV→Hp→Prop}{Q:AV→Hp→Prop}{m:Hp}{b0:Nat→Blk}(f:Nat→Nat)(h:cX P g n m d Q)(B:∀i b,lk i m=some b→i<n∧b=b0 i)(o:ru n f)(t:∀i,i<n→f i<N)
  (z:∀i,i<n→∃b,lk (f i) hp=some b∧b.e≠0∧b0 i=b.ren (b8 (lI n f id) n))
  (H:d=AV.renL (b8 (lI n f id) n) args) (news:List (Nat×Nat)) (s:db (lI n id f) news=true)
  (F:∀r hp',Q r hp'→∀a,(∀i,i<n→∀b,lk i hp'=some b→lk (f i) a=some (b.ren (zT n f news N)))→(∀c j,(c,j)∈news→∀b,lk c hp'=some b→lk (N+j) a=some (b.ren (zT n f news N))) →
   (∀y,y<N→(∀i,i<n→f i≠y)→lk y a=lk y hp)→∃hp2,(∀i b,lk i hp2=some b→lk i a=some b)∧K (r.ren (zT n f news N)) hp2):gi P g args hp N K:=by
 refine(Eo (K':=fun v a=>∃hp2,(∀i b,lk i hp2=some b→lk i a=some b)∧K v hp2) ?_ fun r hp' A=>A);refine qU (lI n id f) h (aaZ (aV n) o) ?_ ?_ ?_ ?_ ?_;intro p k;obtain⟨i,l,rfl⟩:=dF.1 k;exact l;intro p k;obtain⟨i,l,rfl⟩:=dF.1 k;obtain⟨b,q,w,_⟩:=z i l;exact⟨b,q,w⟩;intro i E l;obtain⟨x,rfl⟩:=B i E l;obtain⟨b,q,w,G⟩:=z i x;exact⟨f i,b,N9 f (aV n) x,q,by rw[Iy];exact G⟩;rw[Iy];exact H;intro r hp' D;refine⟨news,s,F r hp' D _ (fun i l b u=>?_) (fun c j I b u=>?_) (fun y J C=>?_)⟩;exact IA s o t (List.mem_append_left _ (dF.2 ⟨i,l,rfl⟩)) u;exact IA s o t (List.mem_append_right _ (List.mem_map.2 ⟨(c,j),I,rfl⟩)) u;exact S5 t J C
theorem nN{i:Nat}{Q:Hp}:∀{P:Hp},lk i (P++Q)=match lk i P with
  |some b=>some b
  |none=>lk i Q
 |[]=>rfl
 |(j,b)::P=>by
  simp only[List.cons_append,lk];split;rfl;exact nN
theorem GA{n:Nat}{f:Nat→Nat}{c:Nat}(hc:n≤c):db (lI n id f) [(c,0)]=true:=by
 simp only[db,gm,List.all_cons,List.all_nil,Bool.and_true,Bool.and_eq_true,beq_self_eq_true,true_and,decide_eq_true_eq,d9];refine⟨by decide,fun p hp=>?_⟩;obtain⟨i,a,rfl⟩:=dF.1 hp;simp only[id,bne_iff_ne,ne_eq];omega
def vA{S:Type}(n:Nat)(b:S→(Nat→Nat)→Nat→Blk)(s:S)(f:Nat→Nat)(hp:Hp):Prop:=∀i,i<n→lk (f i) hp=some (b s f i)
def ju{S:Type}(n:Nat)(b:S→(Nat→Nat)→Nat→Blk)(s:S)(f:Nat→Nat):Hp:=hpL n f (b s f)
def KD{S:Type}(n:Nat)(b:S→(Nat→Nat)→Nat→Blk):Prop:=(∀s f ρ g i,i<n→(∀j,j<n→ρ (f j)=g j)→(b s f i).ren ρ=b s g i)∧∀s f i,i<n→(b s f i).e≠0
def dr{S:Type}(P:Program)(n:Nat)(b:S→(Nat→Nat)→Nat→Blk)(g:FuncId)(s:S)(args:List AV)(R:AV→S→Prop):Prop :=
 cX P g n (ju n b s id) args fun a hp'=>∃s',R a s'∧vA n b s' id hp'
theorem IB{S:Type}{n:Nat}{b:S→(Nat→Nat)→Nat→Blk}{s:S}:∀i x,lk i (ju n b s id)=some x→i<n∧x=b s id i:=by
 intro i x h;obtain⟨j,a,e⟩:=nM.1 (bK h);cases e;exact⟨a,rfl⟩
theorem uS{S:Type}{n N:Nat}{b:S→(Nat→Nat)→Nat→Blk}(w:KD n b){f:Nat→Nat}{Pp:Hp}{g:FuncId}{s:S}{args a:List AV}{R:AV→S→Prop}{K:AV→Hp→Prop}(h:dr P n b g s a R)(t:ru n f)(C:∀j,j<n→f j<N)
  (A:∀p,p∈Pp→p.1<N∧∀j,j<n→f j≠p.1) (J:a=AV.renL (b8 (lI n f id) n) args) (G:∀v o ρ,R v o→(∀j,j<n→ρ j=f j)→K (v.ren ρ) (Pp++ju n b o f)):gi P g args (Pp++ju n b s f) N K:=by
 have z:∀j,j<n→b8 (lI n f id) n (f j)=j:=fun j c=>vV id n t c;have q:db (lI n id f) []=true:=rfl;have y:vA n b s f (Pp++ju n b s f):=fun j c=>by
  rw[nN];cases l:lk (f j) Pp with
  |none=>exact Bq _ t c
  |some x=>exact absurd rfl ((A _ (bK l)).2 j c)
 refine pV (n:=n) (b0:=b s id) f h (fun i x k=>IB i x k) t C (fun j c=>⟨_,y j c,w.2 _ _ _ c,(w.1 s f _ id j c z).symm⟩) J [] q ?_;rintro r hp'⟨o,D,u⟩H B L I;have m:∀j,j<n→zT n f [] N (id j)=f j:=fun j c=>Br q c;refine⟨_,fun i x k=>?_,G _ o _ D m⟩;rw[nN]at k;cases l:lk i Pp with
 |some x' =>
  rw[l]at k;cases k;obtain⟨E,F⟩:=A _ (bK l);rw[I i E F,nN,l]
 |none =>
  rw[l]at k;obtain⟨j,d,e⟩:=nM.1 (bK k);cases e;have:=B j d _ (u j d);rw[w.1 o id _ f j d m]at this;exact this
theorem vW{S:Type}{n N:Nat}{b:S→(Nat→Nat)→Nat→Blk}(d:KD n b){f:Nat→Nat}{Pp:Hp}{g:FuncId}{s:S}{args a:List AV}{R:AV→S→Prop}{K:AV→Hp→Prop}(h:dr P n b g s a R)(c:ru n f)(e:∀j,j<n→f j<N)
  (i:∀p,p∈Pp→p.1<N∧∀j,j<n→f j≠p.1) (l:a=AV.renL (b8 (lI n f id) n) args) (k:∀v s' ρ,R v s'→(∀j,j<n→ρ j=f j)→K (v.ren ρ) (Pp++ju n b s' f)):uK P g args (Pp++ju n b s f) N K:=.inl (uS d h c e i l k)
end
end Go.Am
namespace Go.Sha
inductive Jk where
 |n
 |a
 |i (x:List Nat)
end Go.Sha
namespace Go.Proofs.YtmfnimjnneflnaaGreat
open Go.Am Go.Sha
def avJ:Jk→AV
 | .n=>.nil
 | .a=>.any
 | .i x=>.d (nb x)
def pW(x:bc):List AV:=[.d (nb x)]
def XR(j:Jk):List AV:=[avJ j]
def dm(l:List bc)(J:List Jk):List (List AV):=l.map pW++J.map XR
theorem jZ(l:List bc)(J:List Jk):(dm l J).length=l.length+J.length:=by simp[dm]
theorem mj(ρ:Nat→Nat)(l:List bc)(J:List Jk):aO ρ (dm l J)=dm l J:=by
 simp only[aO,dm,List.map_append,List.map_map];congr 1;refine List.map_congr_left fun j _=>?_;cases j<;>rfl
theorem mn(n:Nat)(l:List bc)(J:List Jk):∀r,r∈dm l J→∀v,v∈r→v.low1 n:=by
 intro r b v a;rcases cL.1 b with h|h;obtain⟨x,_,rfl⟩:=List.mem_map.1 h;simp only[pW,et,List.mem_nil_iff,or_false]at a;subst a;trivial;obtain⟨x,_,rfl⟩:=List.mem_map.1 h;simp only[XR,et,List.mem_nil_iff,or_false]at a;subst a;cases x<;>trivial
theorem xH{l:List bc}{J:List Jk}{k:Nat}{x:bc}(h:l[k]?=some x):(dm l J)[k]?=some [.d (nb x)]:=by
 unfold dm;rw[List.getElem?_append_left (by have:=(ci.1 h).1;simpa using this),c_,h];rfl
theorem o4{l:List bc}{J:List Jk}{k:Nat}(h:k≤l.length):(dm l J).take k=(l.take k).map pW:=by
 unfold dm;rw[List.take_append_of_le_length (by simpa using h),List.map_take]
theorem IC{l:List bc}{j:Jk}{J:List Jk}(x:bc):(l.map pW)++pW x::(dm l (j::J)).drop (l.length+1)=dm (l++[x]) J:=by
 unfold dm;rw[List.drop_append,List.length_map,List.drop_of_length_le aw,Nat.add_sub_cancel_left];simp
theorem ID{l:List bc}(x:bc):(l.map pW)++[pW x]=dm (l++[x]) []:=by simp[dm]
theorem IE{l:List bc}{J:List Jk}(k:Nat)(h:k≤l.length):dm l J=dm (l.take k) ((l.drop k).map Jk.i++J):=by
 have e:(l.drop k).map pW=((l.drop k).map Jk.i).map XR:=by
  rw[List.map_map];rfl
 unfold dm;rw[List.map_append,←e,←cD,←List.map_append,List.take_append_drop]
structure McS where
 m:Mc
 J:List Jk
 H:List Jk
def bu:McS→(Nat→Nat)→Nat→Blk
 |⟨m,J,H⟩,f,0=>⟨283,3,[[.own (f 1) 0 m.main.length (m.main.length+J.length),.own (f 2) 0 m.alt.length (m.alt.length+H.length),.d (.int .i64 m.e)]]⟩
 |⟨m,J,H⟩,f,1=>⟨31,1,dm m.main J⟩
 |⟨m,J,H⟩,f,_=>⟨31,1,dm m.alt H⟩
theorem bN:KD 3 bu:=by
 refine⟨fun s f ρ g i a h=>?_,fun s f i a=>?_⟩
 ·obtain⟨m,J,H⟩:=s
  match i with
  |0=>simp[bu,Blk.ren,aO,AV.renL,AV.ren,h 1 aq,h 2 aq]
  |1=>simp only[bu,Blk.ren,mj]
  |i+2=>simp only[bu,Blk.ren,mj]
 ·obtain⟨m,J,H⟩:=s
  match i with
  |0=>exact Nat.succ_ne_zero 2
  |1=>exact Nat.succ_ne_zero 0
  |i+2=>exact Nat.succ_ne_zero 0
theorem cf(s:McS)(f:Nat→Nat):ju 3 bu s f=[(f 0,bu s f 0),(f 1,bu s f 1),(f 2,bu s f 2)]:=rfl
theorem a8{m:Mc}{J H:List Jk}{hp:Hp}(g:lk 0 hp=some ⟨283,3,[[.own 1 0 m.main.length (m.main.length+J.length),.own 2 0 m.alt.length (m.alt.length+H.length),.d (.int .i64 m.e)]]⟩)
  (b:lk 1 hp=some ⟨31,1,dm m.main J⟩) (c:lk 2 hp=some ⟨31,1,dm m.alt H⟩):vA 3 bu ⟨m,J,H⟩ id hp:=by
 intro i a
 match i,a with
 |0,_=>exact g
 |1,_=>exact b
 |2,_=>exact c
theorem eJ{N:Nat}{Pp:Hp}{g:FuncId}{s:McS}{a:List AV}{R:AV→McS→Prop}{K:AV→Hp→Prop}(h:dr Tryz.prog 3 bu g s (.ptr 0 0 0 1::a) R)(i:3≤N)(c:∀p,p∈Pp→p.1<N∧3≤p.1)(b:∀ ρ,AV.renL ρ a=a)
  (e:∀v s' ρ,R v s'→(∀j,j<3→ρ j=j)→K (v.ren ρ) (Pp++ju 3 bu s' id)):uK Tryz.prog g (.ptr 0 0 0 1::a) (Pp++ju 3 bu s id) N K:=by
 refine vW bN h (aV 3) (fun j d=>by show j<N;omega) (fun p hp=>⟨(c p hp).1,fun j d=>by have:=(c p hp).2;show j≠p.1;omega⟩) ?_ e;rw[AV.renL,b,AV.ren];rfl
theorem o5{α β:Type}{f:α→β}{l:List α}{k:Nat}{x:α}(h:l[k]?=some x):(l.take k).map f++[f x]=(l.take (k+1)).map f:=by
 rw[List.take_add_one,h];simp
theorem Ob{m:Mc}{J H:List Jk}{hp:Hp}{nx N:Nat}(h:lk 0 hp=some ⟨283,3,[[.own 1 0 m.main.length (m.main.length+J.length),.own 2 0 m.alt.length (m.alt.length+H.length),.d (.int .i64 m.e)]]⟩)
  (c:lk 1 hp=some ⟨31,1,dm m.main J⟩) (g:lk 2 hp=some ⟨31,1,dm m.alt H⟩) (i:3≤N) (j:True) :
  ∀p,p∈[(0,(⟨283,3,[[.own 1 0 m.main.length (m.main.length+J.length),.own 2 0 m.alt.length (m.alt.length+H.length),.d (.int .i64 m.e)]]⟩:Blk)),(1,⟨31,1,dm m.main J⟩),(2,⟨31,1,dm m.alt H⟩)] →
   (lk p.1 hp=some p.2∨(nx≤p.1∧p.2.es=[]))∧p.1<N∧∀r,r∈p.2.es→∀v,v∈r→v.low1 N:=by
 intro p hp';simp only[et,List.mem_nil_iff,or_false]at hp';rcases hp' with rfl|rfl|rfl;refine⟨.inl h,by show 0<N;omega,?_⟩;intro r a v b;simp only[et,List.mem_nil_iff,or_false]at a;subst a;simp only[et,List.mem_nil_iff,or_false]at b;rcases b with rfl|rfl|rfl;show 1<N;omega;show 2<N;omega;trivial;exact⟨.inl c,by show 1<N;omega,mn _ _ _⟩;exact⟨.inl g,by show 2<N;omega,mn _ _ _⟩
theorem ry(m:Mc)(J H:List Jk)(x:Int):dr Tryz.prog 3 bu 257 ⟨m,J,H⟩ [.ptr 0 0 0 1,.d (.int .i64 x)] (fun v a=>a=⟨jc x m,J,H⟩):=by
 refine ap Tryz.func257 (by kernel_rfl) rfl Tryz.ntmps257 (rs:=[]) rfl (dJ rfl) (by decide) ?_;rw[cf];simp only[bu,id];by_cases h:m.e=0
 ·simp[go_sem,h];refine a8 ?_ ?_ ?_
  simp[jc,h,lk];simp[jc,h,lk];simp[jc,h,lk]
 ·simp[go_sem,h];refine a8 ?_ ?_ ?_
  simp[jc,h,lk];simp[jc,h,lk];simp[jc,h,lk]
theorem mo(m:Mc)(J H:List Jk)(n:Nat):dr Tryz.prog 3 bu 248 ⟨m,J,H⟩ [.ptr 0 0 0 1,.d (.int .i64 (n:Int))] (fun v c=>v=.d (.bool (decide ((aQ n m).e=0)))∧c=⟨aQ n m,J,H⟩):=by
 refine ap Tryz.func248 (by kernel_rfl) rfl Tryz.ntmps248 (rs:=[.tmp 4]) rfl (dJ rfl) (by decide) ?_;rw[cf];simp only[bu,id];by_cases h:m.main.length<n
 ·have a:(m.main.length:Int)<(n:Int):=aq;simp[go_sem,a];refine eJ (Pp:=[]) (s:=⟨m,J,H⟩) (ry m J H 12) aq aw (by simp[AV.renL,AV.ren]) ?_;rintro v c ρ rfl g;rw[cf];have b:aQ n m=jc 12 m:=if_pos h;rw[b];generalize jc 12 m=m' at *;simp[go_sem,bu,ah];refine a8 ?_ ?_ ?_<;>rfl
 ·have a:¬(m.main.length:Int)<(n:Int):=aq;have b:aQ n m=m:=if_neg h;rw[b];simp[go_sem,a,ah];refine a8 ?_ ?_ ?_<;>rfl
theorem Oc(m:Mc)(J H:List Jk)(n:Nat)(x:bc)(j:m.main[m.main.length-1-n]?=some x)(p:n<m.main.length)(q:m.main.length≤1000000):dr Tryz.prog 3 bu 249 ⟨m,J,H⟩ [.ptr 0 0 0 1,.d (.int .i64 (n:Int))] (fun v g=>v=.d (nb x)∧g=⟨m,J,H⟩):=by
 refine ap Tryz.func249 (by kernel_rfl) rfl Tryz.ntmps249 (rs:=[.tmp 4]) rfl (dJ rfl) (by decide) ?_;rw[cf];simp only[bu,id];have h:IntKind.i64.wrap ((m.main.length:Int)-1)=((m.main.length-1:Nat):Int):=by rw[IntWalk.i64_in _ aq];omega
 have i:IntKind.i64.wrap (((m.main.length-1:Nat):Int)-(n:Int))=((m.main.length-1-n:Nat):Int):=by rw[IntWalk.i64_in _ aq];omega
 have b:=xH (J:=J) j;have l:m.main.length-1-n<m.main.length:=aq;have a:((m.main.length-1-n:Nat):Int)<(m.main.length:Int):=aq;have o:∀c:m.main.length-1-n<(dm m.main J).length,(dm m.main J)[m.main.length-1-n]=[.d (nb x)]:=fun c=>Option.some.inj ((cm c).symm.trans b);generalize m.main.length-1-n=k at *;simp[go_sem];refine cz [0,1,2,3,4,5,6,7,8,9,10,11,12,13,14] [] 0 (k:=15) ?_;intro G e;simp[go_sem,h,i,b,a,jZ];refine e _ _ ?_;clear e G;simp[go_sem,ah];refine a8 ?_ ?_ ?_<;>rfl
theorem jv{n:Nat}{m:Mc}(h:(aQ n m).e=0):n≤m.main.length∧m.e=0∧aQ n m=m:=by
 unfold aQ at h⊢;split at h;unfold jc at h;split at h;simp at h;rename_i a;exact absurd h a;rename_i a;exact⟨aq,h,if_neg a⟩
theorem IF{l:List bc}(h:1≤l.length):l[l.length-1]?=some (l.getLastD []):=by
 rw[List.getLastD_eq_getLast?,List.getLast?_eq_getElem?];cases a:l[l.length-1]? with
 |none=>rw[List.getElem?_eq_none_iff]at a;omega
 |some x=>rfl
theorem rA(m:Mc)(J H:List Jk)(x:bc)(c:m.main[m.main.length-1]?=some x)(h:1≤m.main.length)(a:m.main.length≤1000000):dr Tryz.prog 3 bu 249 ⟨m,J,H⟩ [.ptr 0 0 0 1,.d (.int .i64 0)] (fun v b=>v=.d (nb x)∧b=⟨m,J,H⟩) :=
 Oc m J H 0 _ c aq a
theorem S7{l:List bc}{x:bc}(h:l[l.length-1]?=some x):∃a,l=a++[x]:=by
 rcases b:l.reverse with _|⟨y,r⟩;have:l=[]:=by simpa using b
 subst this;simp at h;have e:l=r.reverse++[y]:=by rw[←List.reverse_reverse l,b,List.reverse_cons]
 subst e;simp at h;subst h;exact⟨_,rfl⟩
theorem zU(m:Mc)(J H:List Jk)(p:m.main.length≤1000000):dr Tryz.prog 3 bu 243 ⟨m,J,H⟩ [.ptr 0 0 0 1]
  (fun v g=>(v=if(aQ 1 m).e=0 then .d (nb (dR m).1)else .nil)∧∃J',g=⟨(dR m).2,J',H⟩):=by
 refine ap Tryz.func243 (by kernel_rfl) rfl Tryz.ntmps243 (rs:=[.tmp 2]) rfl (dJ rfl) (by decide) ?_;rw[cf];simp only[bu,id];simp[go_sem];refine eJ (Pp:=[]) (s:=⟨m,J,H⟩) (mo m J H 1) aq aw (by simp[AV.renL,AV.ren]) ?_;rintro v g ρ ⟨rfl,rfl⟩ t;rw[cf];by_cases h:(aQ 1 m).e=0
 ·obtain⟨j,r,w⟩:=jv h;have l:=IF j;have c:dR m=(m.main.getLastD [],⟨m.main.dropLast,m.alt,m.e⟩):=if_pos h;rw[w]at *;rw[c];obtain⟨b,alt,e⟩:=m;simp only at j r p l;subst r;generalize b.getLastD []=x at *;have u:IntKind.i64.wrap ((b.length:Int)-1)=((b.length-1:Nat):Int):=by rw[IntWalk.i64_in _ aq];omega
  have o:((b.length-1:Nat):Int)≤(b.length:Int):=aq;simp[go_sem,AV.ren,bu];refine eJ (Pp:=[]) (s:=⟨⟨b,alt,0⟩,J,H⟩) (rA ⟨b,alt,0⟩ J H x l j p) aq aw (by simp[AV.renL,AV.ren]) ?_;rintro v g ρ ⟨rfl,rfl⟩ t;rw[cf];simp[go_sem,AV.ren,bu,nb];refine cz [0,1,2,3,4,5,6,7,8,9,10,11,12,13] [(14,[])] 0 (k:=15) ?_;intro G q;simp[go_sem,u,o];refine q _ _ ?_;clear q G;simp[go_sem,ah];obtain⟨a,rfl⟩:=S7 l;refine⟨_,⟨.i x::J,rfl⟩,a8 ?_ ?_ ?_⟩
  simp[lk];omega;simp[lk,dm,pW,XR,avJ];rfl
 ·have c:dR m=([],aQ 1 m):=if_neg h;rw[c];generalize aQ 1 m=m' at *;simp[go_sem,AV.ren,bu,h,ah];exact⟨_,⟨J,rfl⟩,by refine a8 ?_ ?_ ?_<;>rfl⟩
theorem hJ (m:Mc) (J H:List Jk) (x:bc) (q:m.main.length≤1000000) (t:x.length≤1000000):dr Tryz.prog 3 bu 222 ⟨m,J,H⟩ [.ptr 0 0 0 1,.d (.ro 1 [[nb x]])]
    (fun v p=>∃J',p=⟨eV [x] m,J',H⟩):=by
  refine ap Tryz.func222 (by kernel_rfl) rfl Tryz.ntmps222 (rs:=[]) rfl (dJ rfl) (by decide) ?_;obtain⟨a,alt,e⟩:=m;simp only at q;rw[cf];simp only[bu,id,eV];simp[go_sem]
  refine av (fun u:Nat×List bc×List Jk=>⟨[(0,.ptr 0 0 0 1),(6,.d (.ro 1 [[nb x]])),(7,.d (.int .i64 1)),(8,.d (.int .i64 (u.1:Int)))],
      [(0,⟨283,3,[[.own 1 0 u.2.1.length (u.2.1.length+u.2.2.length),.own 2 0 alt.length (alt.length+H.length),.d (.int .i64 e)]]⟩),(1,⟨31,1,dm u.2.1 u.2.2⟩),(2,⟨31,1,dm alt H⟩)],9000⟩)
    (fun u=>(u.1=0∧u.2=(a,J))∨(u.1=1∧u.2.1=a++[x])) (fun u=>1-u.1) (0,a,J) (.inl ⟨rfl,rfl⟩) ⟨by simp[ai,fv,lk,AV.low,AV.low1],Ob (m:=⟨a,alt,e⟩) rfl rfl rfl (dJ rfl) trivial,aw⟩ ?_
  rintro⟨k,l,K⟩g;rcases g with ⟨rfl,c⟩|⟨g,rfl⟩
  · simp only [Prod.mk.injEq] at c
    obtain⟨rfl,rfl⟩:=c;simp only[go_sem,Nat.reduceEqDiff,Nat.reduceAdd,Nat.reduceLT,↓reduceIte];simp[go_sem];rcases K with _|⟨j,K⟩
    · simp only [List.length_nil,Nat.add_zero]
      refine dE [1,2,3,4,5] [0,6,7,8,9,10,11] [1,2,3,4,5] (.alt (bt 0 (bt 6 (bt 7 (a_ [8,9,10,11])))) (bt 6 (.alt (bt 0 (bt 7 (a_ [8,9,10,11]))) (bt 7 (.alt (bt 0 (a_ [8,9,10,11])) (a_ [8,0,9,10,11])))))) ⟨[(0,.ptr 0 0 0 1),(6,.d (.ro 1 [[nb x]])),(7,.d (.int .i64 1)),(8,.d (.int .i64 0))],[(0,⟨283,3,[[.own 1 0 (l++[x]).length ((l++[x]).length+([]:List Jk).length),.own 2 0 alt.length (alt.length+H.length),.d (.int .i64 e)]]⟩),(1,⟨31,1,dm (l++[x]) []⟩),(2,⟨31,1,dm alt H⟩)],9000⟩ (k:=12) ?h3 ?hq
      case h3 =>
        intro G i;have hc:=ec x aq;have o:List.take l.length (dm l [])=l.map pW:=o4 (cR _) |>.trans (by rw[List.take_length]);have b:(dm l []).length=l.length+([]:List Jk).length:=jZ _ _;simp (config := { maxSteps := 3000000 }) [go_sem]
        repeat' apply And.intro
        all_goals
          refine ag hc a9 ?_;simp (config := { maxSteps := 3000000 }) [go_sem,fi,Ia,o,b]
          repeat' apply And.intro
          all_goals first
            |omega
            |(intro s;omega)
            | (refine i _ _ (b7 ⟨by simp [ai,fv,lk,AV.low,AV.low1],Ob (m:=⟨l ++ [x],alt,e⟩) ?_ ?_ rfl (dJ rfl) trivial,aw⟩)
               · simp[lk]<;>omega
               · exact congrArg (fun r=>some (⟨31,1,r⟩:Blk)) (ID x))
      case hq =>
        have h:IntKind.i64.wrap 1=1:=IntWalk.i64_in _ aq;simp[go_sem,h];refine am (1,l++[x],[]) (.inr ⟨rfl,rfl⟩) (by show 1-1<1-0;omega) ⟨by simp[ai,fv,lk,AV.low,AV.low1],Ob (m:=⟨l++[x],alt,e⟩) (by simp[lk]) rfl rfl (dJ rfl) trivial,aw⟩
    · simp only [List.length_cons]
      refine dE [1,2,3,4,5] [0,6,7,8,9,10,11] [1,2,3,4,5] (.alt (bt 0 (bt 6 (bt 7 (a_ [8,9,10,11])))) (bt 6 (.alt (bt 0 (bt 7 (a_ [8,9,10,11]))) (bt 7 (.alt (bt 0 (a_ [8,9,10,11])) (a_ [8,0,9,10,11])))))) ⟨[(0,.ptr 0 0 0 1),(6,.d (.ro 1 [[nb x]])),(7,.d (.int .i64 1)),(8,.d (.int .i64 0))],[(0,⟨283,3,[[.own 1 0 (l++[x]).length ((l++[x]).length+(K:List Jk).length),.own 2 0 alt.length (alt.length+H.length),.d (.int .i64 e)]]⟩),(1,⟨31,1,dm (l++[x]) K⟩),(2,⟨31,1,dm alt H⟩)],9000⟩ (k:=12) ?h3 ?hq
      case h3 =>
        intro G i;have hc:=ec x aq;have o:List.take l.length (dm l (j::K))=l.map pW:=o4 (cR _) |>.trans (by rw[List.take_length]);have b:(dm l (j::K)).length=l.length+(j::K:List Jk).length:=jZ _ _;simp (config := { maxSteps := 3000000 }) [go_sem]
        repeat' apply And.intro
        all_goals
          refine ag hc a9 ?_;simp (config := { maxSteps := 3000000 }) [go_sem,fi,Ia,o,b]
          repeat' apply And.intro
          all_goals first
            |omega
            |(intro s;omega)
            | (refine i _ _ (b7 ⟨by simp [ai,fv,lk,AV.low,AV.low1],Ob (m:=⟨l ++ [x],alt,e⟩) ?_ ?_ rfl (dJ rfl) trivial,aw⟩)
               · simp[lk]<;>omega
               · exact congrArg (fun r=>some (⟨31,1,r⟩:Blk)) (IC x))
      case hq =>
        have h:IntKind.i64.wrap 1=1:=IntWalk.i64_in _ aq;simp[go_sem,h];refine am (1,l++[x],K) (.inr ⟨rfl,rfl⟩) (by show 1-1<1-0;omega) ⟨by simp[ai,fv,lk,AV.low,AV.low1],Ob (m:=⟨l++[x],alt,e⟩) (by simp[lk]) rfl rfl (dJ rfl) trivial,aw⟩
  · simp only at g
    subst g;simp[go_sem];exact⟨_,⟨K,rfl⟩,a8 (by simp[lk]) rfl rfl⟩
theorem Oe(l:List bc)(w:l.length≤1000000)(s:∀x,x∈l→x.length≤1000000):cX Tryz.prog 241 0 [] [.d (.ro 1 (l.map bL))] (fun r hp'=>r=.own 129 0 l.length l.length∧lk 129 hp'=some ⟨31,1,dm l []⟩):=by
 refine ap Tryz.func241 (by kernel_rfl) rfl Tryz.ntmps241 (rs:=[.tmp 2]) rfl (dJ rfl) (by decide) ?_;have j:IntKind.i64.wrap ((l.length:Int)+4)=((l.length+4:Nat):Int):=by rw[IntWalk.i64_in _ aq];omega
 simp[go_sem,j];refine⟨aq,aq,aq,aq,?_⟩
 refine av (fun k:Nat=>⟨[(3,.own 129 0 k k),(10,.d (.ro 1 (l.map bL))),(11,.d (.int .i64 (l.length:Int))),(12,.d (.int .i64 (k:Int)))],[(129,⟨31,1,(l.take k).map pW⟩)],6000⟩)
  (fun k=>k≤l.length) (fun k=>l.length-k) 0 aq (by simp[az,ai,fv,lk,AV.low,AV.low1]) ?_
 intro k t;simp only[go_sem,Nat.reduceEqDiff,Nat.reduceAdd,Nat.reduceLT,↓reduceIte];refine⟨fun q=>?_,fun q=>?_⟩
 ·obtain⟨y,a,u⟩:=bg (l:=l) (k:=k) aq;have m:=ay (k:=k) aq;have e:=o5 (f:=pW) a;have c:min k l.length=k:=aq;have o:=s y (cr a);simp[go_sem,a,bL];refine ag (ec y aq) a9 ?_;simp[go_sem,m,c];have b:List.take k (l.map pW)++[[.d (nb y)]]=List.take (k+1) (l.map pW):=by rw[←List.map_take,←List.map_take];exact e
  rw[b];refine⟨aq,?_⟩;refine am (k+1) aq aq ?_;refine⟨by simp[ai,fv,lk,AV.low,AV.low1],?_,aw⟩;intro p hp;simp only[et,List.mem_nil_iff,or_false]at hp;subst hp;refine⟨.inl ?_,by show 129<6000;omega,?_⟩;simp[lk];intro r i v h;obtain⟨z,_,rfl⟩:=List.mem_map.1 (List.mem_of_mem_take i);simp only[pW,et,List.mem_nil_iff,or_false]at h;subst h;trivial
 ·have g:k=l.length:=aq;subst g;simp[go_sem,dm]
theorem S9(l:List bc)(J:List Jk)(c n:Nat)(D:c+n≤l.length)(G:l.length≤1000000)(C:∀x,x∈l→x.length≤1000000):cX Tryz.prog 241 1 [(0,⟨31,1,dm l J⟩)] [.own 0 c n (l.length+J.length)]
  (fun r hp'=>r=.own 130 0 n n∧lk 130 hp'=some ⟨31,1,dm ((l.drop c).take n) []⟩∧lk 0 hp'=some ⟨31,1,dm l J⟩):=by
 refine ap Tryz.func241 (by kernel_rfl) rfl Tryz.ntmps241 (rs:=[.tmp 2]) rfl (dJ rfl) (by decide) ?_;have u:IntKind.i64.wrap ((n:Int)+4)=((n+4:Nat):Int):=by rw[IntWalk.i64_in _ aq];omega
 simp[go_sem,u];refine⟨aq,aq,aq,aq,?_⟩
 refine av (fun k:Nat=>⟨[(3,.own 130 0 k k),(10,.own 0 c n (l.length+J.length)),(11,.d (.int .i64 (n:Int))),(12,.d (.int .i64 (k:Int)))],[(130,⟨31,1,((l.drop c).take k).map pW⟩),(0,⟨31,1,dm l J⟩)],6000⟩)
  (fun k=>k≤n) (fun k=>n-k) 0 aq ⟨by simp[ai,fv,lk,AV.low,AV.low1],?_,aw⟩ ?_
 intro p hp;simp only[et,List.mem_nil_iff,or_false]at hp;rcases hp with rfl|rfl;exact⟨.inl (by simp[lk]),by show 130<6000;omega,aw⟩;exact⟨.inl (by simp[lk]),by show 0<6000;omega,mn _ _ _⟩;intro k F;simp only[go_sem,Nat.reduceEqDiff,Nat.reduceAdd,Nat.reduceLT,↓reduceIte];refine⟨fun B=>?_,fun B=>?_⟩
 ·have j:k<n:=aq;obtain⟨y,m⟩:∃y,l[c+k]?=some y:=⟨_,cm aq⟩;have g:(l.drop c)[k]?=some y:=by rw[List.getElem?_drop];exact m
  have w:=ay (k:=k) aq;have e:=o5 (f:=pW) g;have A:=C y (cr m);have q:=xH (J:=J) m;have E:∀h:c+k<(dm l J).length,(dm l J)[c+k]=[.d (nb y)]:=fun h=>Option.some.inj ((cm h).symm.trans q);have b:min k (l.length-c)=k:=aq;simp[go_sem,q,j,jZ];refine ag (ec y aq) a9 ?_;have o:min k (List.drop c (l.map pW)).length=k:=by simp;omega
  have a:List.take k (List.drop c (l.map pW))++[[.d (nb y)]]=List.take (k+1) (List.drop c (l.map pW)):=by rw[←List.map_drop,←List.map_take,←List.map_take];exact e
  simp[go_sem,w,b];rw[a];refine⟨aq,?_⟩;refine am (k+1) aq aq ?_;refine⟨by simp[ai,fv,lk,AV.low,AV.low1],?_,aw⟩;intro p hp;simp only[et,List.mem_nil_iff,or_false]at hp;rcases hp with rfl|rfl
  refine⟨.inl (by simp[lk]),by show 130<6000;omega,?_⟩;intro r t v s;obtain⟨z,_,rfl⟩:=List.mem_map.1 (List.mem_of_mem_drop (List.mem_of_mem_take t));simp only[pW,et,List.mem_nil_iff,or_false]at s;subst s;trivial;exact⟨.inl (by simp[lk]),by show 0<6000;omega,mn _ _ _⟩
 ·have i:k=n:=aq;subst i;simp[go_sem,dm]
end Go.Proofs.YtmfnimjnneflnaaGreat
namespace Go.Sha
def Ep(a b:List Nat):Nat→Int
 |0=>0
 |k+1=>if a.getD k 0<b.getD k 0 then -1 else if b.getD k 0<a.getD k 0 then 1 else Ep a b k
def gh(l:List Nat):Nat:=l.foldl (fun a x=>a*256+x) 0
theorem Og(l:List Nat)(x:Nat):gh (l++[x])=gh l*256+x:=by simp[gh]
def part(b:List Nat)(i j:Nat):List Nat:=((b.take i).drop (8*(3-j))).take 8
theorem sR(b:List Nat)(i j k:Nat):(part b i j)[k]?=if k<8∧8*(3-j)+k<i then b[8*(3-j)+k]? else none:=by
 unfold part;rw[List.getElem?_take];by_cases c:k<8;rw[if_pos c,List.getElem?_drop,List.getElem?_take];by_cases a:8*(3-j)+k<i;rw[if_pos a,if_pos ⟨c,a⟩];rw[if_neg a,if_neg (fun h=>a h.2)];rw[if_neg c,if_neg (fun h=>c h.1)]
theorem xI{b:List Nat}(a:b.length=32){i j:Nat}(hi:i≤32)(hj:j≤3):(part b i j).length=min 8 (i-8*(3-j)):=by
 unfold part;rw[List.length_take,e_,List.length_take,a];omega
theorem KE{b:List Nat}{i j:Nat}(hi:i<32)(hj:j≤3)(h:j≠3-i/8):part b (i+1) j=part b i j:=by
 refine List.ext_getElem? fun k=>?_;rw[sR,sR];by_cases a:k<8∧8*(3-j)+k<i;rw[if_pos a,if_pos ⟨a.1,aq⟩];rw[if_neg a];by_cases c:k<8∧8*(3-j)+k<i+1;omega;rw[if_neg c]
theorem KF{b:List Nat}(g:b.length=32){i c:Nat}(hc:b[i]?=some c):part b (i+1) (3-i/8)=part b i (3-i/8)++[c]:=by
 have h:i<32:=by have:=(ci.1 hc).1;omega
 have d:(part b i (3-i/8)).length=i%8:=by rw[xI g aq aq];omega
 refine List.ext_getElem? fun k=>?_;rw[List.getElem?_append,d,sR,sR];by_cases a:k<i%8;rw[if_pos a,if_pos ⟨aq,aq⟩,if_pos ⟨aq,aq⟩];rw[if_neg a];by_cases e:k=i%8;subst e;rw[if_pos ⟨aq,aq⟩,show 8*(3-(3-i/8))+i%8=i by omega,hc];simp;rw[if_neg aq];rw[List.getElem?_eq_none (by simp;omega)]
theorem KG(b:List Nat)(j:Nat):part b 0 j=[]:=by simp[part]
def C3(b:List Nat)(i:Nat):List Nat:=(List.range 4).map fun j=>gh (part b i j)*256 ^ (8-(part b i j).length)
def yN(b:List Nat)(i:Nat):List Nat:=(List.range 4).map fun j=>gh (part b i j)
theorem Ta{b:List Nat}(a:b.length=32):C3 b 32=yN b 32:=by
 unfold C3 yN;refine List.map_congr_left fun j c=>?_;rw[List.mem_range]at c;rw[xI a aq aq,show 8-min 8 (32-8*(3-j))=0 by omega];simp
theorem Es(b:List Nat):C3 b 0=[0,0,0,0]:=by simp[C3,KG,gh,List.range,List.range.loop]
theorem GB:∀(l:List Nat),(∀x,x∈l→x<256)→gh l<256 ^ l.length:=by
 intro l;have b:∀(l:List Nat)(a n:Nat),(∀x,x∈l→x<256)→a<256 ^ n→l.foldl (fun a x=>a*256+x) a<256 ^ (n+l.length):=by
  intro l
  induction l with
  |nil=>intro a n _ h;simpa using h
  |cons x l ih =>
   intro a n c h;have e:=c x aw;rw[List.foldl_cons,List.length_cons,show n+(l.length+1)=(n+1)+l.length by omega];exact ih _ (n+1) (fun y d=>c y (by simp[d])) (by rw[Nat.pow_succ];omega)
 intro h;have:=b l 0 0 h aw;simpa[gh]using this
theorem Tc(a b:Nat)(d:a<18446744073709551616)(c:b<18446744073709551616):Go.bits .or .u64 (a:Int) (b:Int)=((a ||| b:Nat):Int):=by
 show IntKind.u64.wrap (((BitVec.ofInt 64 (a:Int)) ||| (BitVec.ofInt 64 (b:Int))).toNat:Int)=_;rw[BitVec.toNat_or,fS,fS,←Nat.or_mod_two_pow,iK];have:a ||| b<2 ^ 64:=Nat.or_lt_two_pow aq aq;omega
theorem Oh{b:List Nat}(u:b.length=32)(h:∀x,x∈b→x<256){i c:Nat}(hc:b[i]?=some c) :
  ∃a,(C3 b i)[3-i/8]?=some a∧a<18446744073709551616∧c*2 ^ (8*((31-i)%8))<18446744073709551616∧(C3 b i).set (3-i/8) (a ||| c*2 ^ (8*((31-i)%8)))=C3 b (i+1):=by
 have D:i<32:=by have:=(ci.1 hc).1;omega
 have o:c<256:=h c (cr hc);have m:(part b i (3-i/8)).length=i%8:=by rw[xI u aq aq];omega
 have k:=KF u hc;have e:=GB (part b i (3-i/8)) (fun x B=>h x (List.mem_of_mem_take (List.mem_of_mem_drop (List.mem_of_mem_take B))));rw[m]at e;have t:(31-i)%8=7-i%8:=aq;have d:∀n,(256:Nat) ^ n=2 ^ (8*n):=fun n=>by rw[Nat.pow_mul]
 generalize s:gh (part b i (3-i/8))=A at e;have E:i%8<8:=aq;generalize y:i%8=r at *;have p:(256:Nat) ^ (8-r)=256*256 ^ (7-r):=by rw[show 8-r=(7-r)+1 by omega,Nat.pow_succ,Nat.mul_comm]
 have w:(256:Nat) ^ r*256 ^ (8-r)=18446744073709551616:=by rw[←Nat.pow_add,show r+(8-r)=8 by omega]
 have l:c*2 ^ (8*(7-r))<2 ^ (8*(8-r)):=by
  rw[←d,←d,p];exact Nat.mul_lt_mul_of_pos_right o (Nat.pow_pos aq)
 have C:(2:Nat) ^ (8*(8-r))≤18446744073709551616:=by
  rw[←d]
  calc (256:Nat) ^ (8-r)≤256 ^ 8:=Nat.pow_le_pow_right aq aq
   _=18446744073709551616:=by decide
 have g:A*256 ^ (8-r)<18446744073709551616:=by
  rw[←w];exact Nat.mul_lt_mul_of_pos_right e (Nat.pow_pos aq)
 refine⟨A*256 ^ (8-r),?_,g,by rw[t];omega,?_⟩;unfold C3;rw[c_,List.getElem?_range aq];simp[s,m];rw[t];refine List.ext_getElem? fun j=>?_;rw[List.getElem?_set];have v:(C3 b i).length=4:=by simp[C3]
 by_cases q:3-i/8=j;subst q;rw[if_pos rfl,if_pos aq];unfold C3;rw[c_,List.getElem?_range aq,Option.map_some,k,Og,b_,m,s];congr 1;have:=Nat.two_pow_add_eq_or_of_lt l A;rw[←d,Nat.mul_comm]at this;rw[←this,List.length_singleton,show 8-(r+1)=7-r by omega,p,←d,Nat.add_mul,Nat.mul_assoc];rw[if_neg q];unfold C3;rw[c_,c_];by_cases z:j<4;rw[List.getElem?_range z,Option.map_some,Option.map_some,KE D aq aq];rw[List.getElem?_eq_none (by simp;omega)];rfl
end Go.Sha
namespace Go.Proofs.YtmfnimjnneflnaaGreat
open Go.Am Go.Sha
def cW(l:List Nat):List AV:=l.map fun(x:Nat)=>AV.d (.int .u64 (x:Int))
theorem rB(l:List Nat):(cW l).length=l.length:=by simp[cW]
theorem GF(l:List Nat)(i:Nat):(cW l)[i]?=(l[i]?).map fun(x:Nat)=>AV.d (.int .u64 (x:Int)):=by simp[cW]
theorem XS(l:List Nat)(i x:Nat):(cW l).set i (.d (.int .u64 (x:Int)))=cW (l.set i x):=by simp[cW,List.map_set]
theorem IG(l:List Nat):(AV.agg (cW l)).deep:=by
 intro c hc;simp only[cW,List.mem_map]at hc;obtain⟨x,_,rfl⟩:=hc;trivial
theorem rC(n:Nat)(l:List Nat):∀v,v∈cW l→v.low1 n:=by
 intro c hc;simp only[cW,List.mem_map]at hc;obtain⟨x,_,rfl⟩:=hc;trivial
def jd:List Int:=(List.range 256).map fun y=>if y=0 then 0 else((Nat.log2 y+1:Nat):Int)
theorem iY{L:List Int}(d:L=jd){y:Nat}{b:Int}(h:L[y]?=some b):∃n:Nat,b=(n:Int)∧(if y=0 then n=0 else 1≤n∧n≤8):=by
 subst d;unfold jd at h;rw[c_]at h;by_cases c:y<256;rw[List.getElem?_range c,Option.map_some,Option.some.injEq]at h;by_cases a:y=0;rw[if_pos a]at h;exact⟨0,h.symm,by rw[if_pos a]⟩;rw[if_neg a]at h;refine⟨_,h.symm,?_⟩;rw[if_neg a];have:=Nat.log2_lt (n:=y) (k:=8) a;omega;rw[List.getElem?_eq_none (by simp;omega)]at h;cases h
theorem iZ{L:List Int}(b:L=jd){y:Nat}(a:y<256)(h:L[y]?=none):False:=by
 subst b;unfold jd at h;rw[c_,List.getElem?_range a]at h;cases h
def Td:Nat→Int
 |0=>-1
 |k+1=>k
theorem VJ:Td 0=-1:=rfl
theorem Oi(k:Nat):Td (k+1)=(k:Int):=rfl
theorem Oj(k:Nat)(h:k<1000):IntKind.i64.wrap ((k:Int)-1)=Td k:=by
 cases k with
 |zero=>rfl
 |succ k=>rw[IntWalk.i64_in _ aq];show((k+1:Nat):Int)-1=(k:Int);omega
theorem XT(a b:List Nat)(s:a.length=4)(t:b.length=4):au Tryz.prog 206 [.agg (cW a),.agg (cW b)] (fun r=>r=.d (.int .i64 (Ep a b 4))):=by
 refine bF Tryz.func206 Tryz.ntmps206 (rs:=[.tmp 4]) (by intro v m;simp at m;rcases m with rfl|rfl<;>exact IG _) ?_;generalize u:Ep a b 4=F;simp[go_sem]
 refine av (fun k:Nat=>⟨[(2,.ptr 0 0 0 1),(3,.ptr 32 0 0 1),(5,.d (.int .i64 (Td k)))],[(32,⟨96,4,[cW b]⟩),(0,⟨96,4,[cW a]⟩)],500⟩)
  (fun k=>k≤4∧Ep a b k=F) (fun k=>k) 4 ⟨aq,u⟩ (by
   simp[az,ai,fv,lk,AV.low,AV.low1,rB,s,t,Td]
   exact⟨rC _ _,rC _ _⟩) ?_
 rintro k⟨w,c⟩;cases k with
 |zero =>
  simp only[Ep]at c;subst c;simp[go_sem,VJ,ah];exact aa a9 rfl
 | succ k =>
  obtain⟨x,h,_⟩:=bg (l:=a) (k:=k) aq;obtain⟨y,j,_⟩:=bg (l:=b) (k:=k) aq;have p:a.getD k 0=x:=by rw[cS,h];rfl
  have q:b.getD k 0=y:=by rw[cS,j];rfl
  simp only[Ep,p,q]at c;have o:=Oj k aq;simp[go_sem,Oi];refine cz [0,1,2,3,4,5,6,7] [] 0 (k:=8) ?_;intro G i;simp[go_sem,GF,h,j];refine⟨aq,i _ _ ?_⟩;by_cases e:x<y
  ·rw[if_pos e]at c;subst c;simp[go_sem,e,ah];exact aa a9 rfl
  ·rw[if_neg e]at c;simp[go_sem,e];refine cz [0,1,2,3,4,5,6,7] [] 0 (k:=8) ?_;intro G i;simp[go_sem,GF,h,j];refine⟨aq,i _ _ ?_⟩;by_cases g:y<x
   ·rw[if_pos g]at c;subst c;simp[go_sem,g,ah];exact aa a9 rfl
   ·rw[if_neg g]at c;simp[go_sem,g,o];refine am k ⟨aq,c⟩ aq ?_;simp[az,ai,fv,lk,AV.low,AV.low1];exact⟨rC _ _,rC _ _⟩
theorem Bv(b:List Nat)(i:Nat):(C3 b i).length=4:=by simp[C3]
theorem Tf(b:List Nat)(C:b.length=32)(g:∀x,x∈b→x<256):au Tryz.prog 164 [.agg (cb b)] (fun r=>r=.agg (cW (yN b 32))):=by
 refine bF Tryz.func164 Tryz.ntmps164 (rs:=[.cell 2 96]) (by intro v F;simp at F;subst F;exact dV _) ?_;rw[←Ta C];have t:(cb b).length=32:=by rw[ak];exact C
 have A:(cb b).take 32=cb b:=cx aq;have U:[AV.d (DV.int .u64 0),AV.d (DV.int .u64 0),AV.d (DV.int .u64 0),AV.d (DV.int .u64 0)]=cW (C3 b 0):=by rw[Es];rfl
 simp[go_sem,t,A]
 refine av (fun i:Nat=>⟨[(2,.ptr 32 0 0 1),(3,.ptr 64 0 0 1),(7,.agg (cb b)),(8,.d (.int .i64 (i:Int)))],[(32,⟨96,4,[cW [0,0,0,0]]⟩),(64,⟨96,4,[cW (C3 b i)]⟩)],500⟩)
  (fun i=>i≤32) (fun i=>32-i) 0 aq (by
   simp[az,ai,fv,lk,AV.low,AV.low1,Es]
   exact⟨aJ _ _,rfl,rC _ _⟩) ?_
 intro i V;simp only[go_sem,Nat.reduceEqDiff,Nat.reduceAdd,Nat.reduceLT,↓reduceIte];refine⟨fun h=>?_,fun h=>?_⟩
 ·obtain⟨c,hc,_⟩:=bg (l:=b) (k:=i) aq;obtain⟨w,p,u,o,a⟩:=Oh C g hc;have D:IntKind.i64.wrap (31-(i:Int))=((31-i:Nat):Int):=by rw[IntWalk.i64_in _ aq];omega
  have H:=ay (k:=i) aq;have Q:=g c (cr hc);obtain⟨m,M⟩:∃m,m=31-i:=⟨_,rfl⟩;rw[←M]at D o a;have I:m/8=3-i/8:=aq;rw[←I]at p a;have L:IntKind.i64.wrap ((m:Int)/8)=((m/8:Nat):Int):=by rw[IntWalk.i64_in _ aq];omega
  have T:IntKind.i64.wrap (8*Int.tmod (m:Int) 8)=((8*(m%8):Nat):Int):=by rw[show Int.tmod (m:Int) 8=((m%8:Nat):Int)from rfl,IntWalk.i64_in _ aq];omega
  have S:IntKind.u64.wrap (c:Int)=(c:Int):=by rw[iK];omega
  have q:m/8<4:=aq;have E:8*(m%8)≤64:=aq;generalize m/8=j at *;generalize 8*(m%8)=s at *;have R:min s 64=s:=aq;have K:IntKind.u64.wrap ((c:Int)*2 ^ s)=((c*2 ^ s:Nat):Int):=by
   rw[iK,show(2:Int) ^ s=((2 ^ s:Nat):Int)by rw[Int.natCast_pow];rfl,←Int.natCast_mul];omega
  have J:=Tc w (c*2 ^ s) u o;generalize c*2 ^ s=y at *;generalize w ||| y=z at *;simp[go_sem,Gi,hc,D];refine⟨aq,?_⟩;refine cz [0,1,2,3,4,5,6,7,8,9,10,11] [(12,[])] 0 (k:=13) ?_;intro G O;simp[go_sem,L,T,S,GF,p,R,K,J,IntKind.bits,rB,Bv,XS,a];refine⟨aq,q,O _ _ ?_⟩;simp[go_sem,H];refine am (i+1) aq aq ?_;simp[az,ai,fv,lk,AV.low,AV.low1];exact⟨aJ _ _,rC _ _,rC _ _⟩
 ·have B:i=32:=aq;subst B;have e:(cW (C3 b 32)).take 4=cW (C3 b 32):=cx (by rw[rB,Bv];omega);simp[go_sem,rB,Bv,e];exact aa (IG _) rfl
end Go.Proofs.YtmfnimjnneflnaaGreat
