/-
 Part 7 of what the claim rests on.
-/
import Derived.Test.YtmfnimjnneflnaaGreatD3
import Derived.Test.YtmfnimjnneflnaaGreatD5
set_option linter.unusedVariables false
set_option linter.unusedSimpArgs false
set_option maxRecDepth 100000
set_option maxHeartbeats 16000000
namespace Go.Proofs.YtmfnimjnneflnaaGreat
open Go.Am Go.Sha
def lg(x:List Nat):List DV:=[nb x]
def JU(inner:List Nat)(xs:List (List Nat)):List (List AV):=xs.map fun x=>ar inner .nil (.d (nb x))
theorem yN{α:Type}{l:List α}{k:Nat}{x:α}(h:l[k]?=some x):l.take (k+1)=l.take k++[x]:=by
 rw[List.take_add_one,h];rfl
theorem IZ{fr:Fr}{inner:List Nat}(xs:List (List Nat))(p:xs.length≤8):Wk ⟨fr,(10000,⟨33,34,JU inner xs⟩)::j9 20000 8 (fun _=>[]),30000⟩ ⟨fr,(10000,⟨33,34,lc inner ke (fun _=>[]) xs⟩)::j9 20000 8 (fun _=>[]),30000⟩:=by
 refine LW (st:=⟨fr,(10000,⟨33,34,JU inner xs⟩)::j9 20000 8 (fun _=>[]),30000⟩) (L:=10000) (b:=⟨33,34,JU inner xs⟩) (es':=lc inner ke (fun _=>[]) xs) rfl aw (by simp[lc,JU]) ?_;intro i x k e d;simp only[JU,cU,Option.map_eq_some_iff]at e;obtain⟨y,g,rfl⟩:=e;rw[Ah g]at d;simp only[Option.some.injEq]at d;subst d;refine⟨by simp[ar],fun j v l a c=>?_⟩;unfold ar at a c;by_cases h:j<(cb inner).length;rw[List.getElem?_append_left h]at a c;rw[a]at c;exact .inl (Option.some.inj c).symm
 ·rw[dn aq]at a c;have o:=(ci.1 g).1
  match hj2:j-(cb inner).length,a,c with
  |0,a,c =>
   simp only[List.getElem?_cons_zero,Option.some.injEq]at a c;subst a c;exact .inr ⟨rfl,ke i,by unfold ke;show 20000+i<30000;omega,rfl⟩
  |1,a,c =>
   simp only[List.getElem?_cons_succ,List.getElem?_cons_zero,Option.some.injEq]at a c;subst a c;exact .inl rfl
  |m+2,a,c=>simp at a
theorem uD{inner:List Nat}{xs:List (List Nat)}{f:iU}{hp:Hp}{nx N:Nat}(d:20008≤N)(e:xs.length≤8)(b:lk 10000 hp=some ⟨33,34,lc inner ke f xs⟩)(c:∀j,j<8→lk (ke j) hp=some (pB (f j))) :
  ∀p,p∈(10000,(⟨33,34,lc inner ke f xs⟩:Blk))::j9 20000 8 f→(lk p.1 hp=some p.2∨(nx≤p.1∧p.2.es=[]))∧p.1<N∧∀r,r∈p.2.es→∀v,v∈r→v.low1 N:=by
 intro p hp';rcases d_.1 hp' with rfl|hp';exact⟨.inl b,by show 10000<N;omega,Hi (fun j a=>by show 20000+j<N;omega)⟩
 obtain⟨j,a,rfl⟩:=jz 8 20000 f p hp';exact⟨.inl (c j a),by show 20000+j<N;omega,Fb _ _⟩
def TR(f:iU):Prop:=∀j p,p∈f j→p.length=32
theorem uE{first k:Nat}{h:List Nat}{f:iU}(a:TR f)(b:h.length=32):TR (cy first k h f):=by
 intro j p hp;unfold cy at hp;split at hp;rcases cD.1 hp with q|q;exact a j p q;simp at q;subst q;exact b;exact a j p hp
theorem Fj:∀{q:Row},q.length≤1→dG q=q
 |[],_=>rfl
 |[a],_=>rfl
 |a::b::r,h=>by simp at h
theorem CZ:∀{q:Row}{s:Nat}{g:iU},q.length≤1→fF s q g=g
 |[],_,_,_=>rfl
 |[a],_,_,_=>rfl
 |a::b::r,_,_,h=>by simp at h
def eE(inner:List Nat)(xs:List (List Nat))(E:Lf→Int):AV :=
 if xs.length=0∨8<xs.length∨rL E (lL (bp xs) xs)=true then .tup [.nil,.d (.int .i64 1)]else .tup [.d (.ro 34 ((lL (bp xs) xs).map (dY inner))),.d (.int .i64 0)]
theorem C0 (inner:List Nat) (xs:List (List Nat)) (hi:inner.length=32) (hx:∀ x,x ∈ xs→x.length≤100000)
    (aK:∀b:List Nat,b.length≤100000000000→ap Tryz.prog 52 [.d (nb b)] (fun r=>r=.d (nb b))) (O:Lf→List Nat) (E:Lf→Int)
    (H:∀l,l∈lL (bp xs) xs→ap Tryz.prog 46 [.agg (ar inner (.d (bS l.1)) (.d (nb l.2)))] (fun r=>r=.tup [.d (nb (O l)),.d (.int .i64 (E l))])) :
    ap Tryz.prog 70 [.agg (cb inner),.d (.ro 1 (xs.map lg))] (fun r=>r=eE inner xs E):=by
  refine bz Tryz.func70 Tryz.ntmps70 (rs:=[.tmp 4,.tmp 5]) (by
    intro v hv;simp at hv;rcases hv with rfl|rfl
    · exact aW _
    · trivial) ?_
  by_cases X:xs.length=0
  · have hV:eE inner xs E=.tup [.nil,.d (.int .i64 1)]:=by unfold eE;rw [if_pos (.inl X)]
    rw[hV];have aG:xs=[]:=List.eq_nil_of_length_eq_zero X;subst aG;simp[go_sem,aj,hi,al hi,ai];exact ae a9 rfl
  by_cases h8:8<xs.length
  · have hV:eE inner xs E=.tup [.nil,.d (.int .i64 1)]:=by unfold eE;rw [if_pos (.inr (.inl h8))]
    rw[hV];have i0:¬(xs.length:Int)=0:=aq;have i8:(8:Int)<(xs.length:Int):=aq;simp[go_sem,aj,hi,al hi,i0,i8,X,h8,ai];exact ae a9 rfl
  have Q:xs.length≤8:=aq;have i0:¬(xs.length:Int)=0:=aq;have i8:¬(8:Int)<(xs.length:Int):=aq;simp[go_sem,aj,hi,al hi,i0,i8,X,h8]
  refine au (fun k:Nat=>⟨[(2,.ptr 0 0 0 1),(6,.own 10000 0 k k),(7,.own 10001 0 k k),(20,.d (.ro 1 (xs.map lg))),(21,.d (.int .i64 (xs.length:Int))),(22,.d (.int .i64 (k:Int)))],
      [(10001,⟨174,34,(lK 0 (fj (xs.take k))).map (fun q=>q.map AV.d)⟩),(10000,⟨33,34,JU inner (xs.take k)⟩),(0,⟨29,32,[cb inner]⟩)],11000⟩)
    (fun k=>k≤xs.length) (fun k=>xs.length-k) 0 aq (by
      simp[av,ah,fv,lk,AV.low,AV.low1,lK,fj,JU]
      exact aE _ _) ?_
  intro k hk;simp only[go_sem,Nat.reduceEqDiff,Nat.reduceAdd,Nat.reduceLT,↓reduceIte,Nat.reduceMul];refine⟨fun h=>?_,fun h=>?_⟩
  · obtain ⟨x,D,hd⟩:=bg (l:=xs) (k:=k) aq
    have w3:=az (k:=k) aq;have aL:=hx x (cr D);have zl:(ar z32 .nil .nil).length=34:=rfl;have aF:(lK 0 (fj (xs.take k))).length=k:=by rw[mO,fj,List.length_map,List.length_take];omega
    have aJ:(JU inner (xs.take k)).length=k:=by rw[JU,List.length_map,List.length_take];omega
    have z:=kt x;simp[go_sem,D,lg];refine cG [0,1,2] [(3,[4]),(5,[]),(6,[]),(7,[])] 2 (k:=8) ?_;intro G hG;simp[go_sem,aj,hi,al hi];refine ag (aK x aq) a9 ?_;have zd:List.drop 32 (ar z32 .nil .nil)=[.nil,.nil]:=rfl;have b2:=Ai hi .nil .nil;have b3:=Aj hi .nil .nil;simp[go_sem,aj,hi,al hi,zl,aJ,zd,b2,b3];refine⟨aq,hG _ _ ?_⟩;clear hG G;have M:ap Tryz.prog 93 [.d (nb x)] (fun r=>r=.agg (cb (db x))):=lq x aq;simp[go_sem];refine ag M a9 ?_;have zs:(bH z32 0 0).length=34:=rfl;have hz:List.drop 32 (bH z32 0 0)=[.d (.int .i64 0),.d (.int .i64 0)]:=rfl;have aB:List.drop 34 (bH z32 0 0)=[]:=rfl;have e1:=Hj z;have e2:=Ai z;have e3:=Aj z;simp[go_sem,z,al z,aj,zs,hz,aB,e1,e2,e3,aF,w3];refine⟨aq,?_⟩;have E1:JU inner (xs.take (k+1))=JU inner (xs.take k)++[cb inner++[.nil,.d (nb x)]]:=by rw[yN D];simp[JU,ar]
    have E2:(lK 0 (fj (xs.take (k+1)))).map (fun q=>q.map AV.d)=(lK 0 (fj (xs.take k))).map (fun q=>q.map AV.d)++[cb (db x)++[.d (.int .i64 (k:Int)),.d (.int .i64 1)]]:=by
      rw[yN D,LX,uB,List.map_append,qm,List.length_take,Nat.min_eq_left aq];simp[fj,lK,CW,cQ]
    refine am (k+1) aq aq ⟨?_,?_,aw⟩
    · simp[ah,fv,lk,AV.low,AV.low1]
    · intro p hp
      simp only[d_,List.mem_nil_iff,or_false]at hp;rcases hp with rfl|rfl|rfl
      · exact⟨.inl (by simp[lk,E2]),by show 10001<11000;omega,Ak _ _ _⟩
      · exact⟨.inl (by simp[lk,E1]),by show 10000<11000;omega,fun r I=>by
          obtain⟨y,_,rfl⟩:=List.mem_map.1 I
          exact qi _ _ _ _ trivial trivial⟩
      · exact⟨.inl rfl,by show 0<11000;omega,by intro r I;simp at I;subst I;exact aE _ _⟩
  · have ax:k=xs.length:=aq
    subst ax;simp[go_sem];obtain⟨R,F,aa⟩:∃R F,dP 7 (fj xs) (fun _=>[])=(R,F):=⟨_,_,rfl⟩;have ab:(fj xs).length=xs.length:=(by simp[fj])
    refine lX (fun t:Nat×Row×iU=>⟨[(6,.own 10000 0 xs.length xs.length),(7,.d (.ro 34 (lK 0 t.2.1)))],(10000,⟨33,34,lc inner ke t.2.2 xs⟩)::j9 20000 8 t.2.2,30000⟩)
      (fun t=>dP t.1 t.2.1 t.2.2=(R,F)∧t.2.1.length≤t.1+1∧t.1≤7∧gJ t.2.1=xs.length∧(∀p,p∈t.2.1→p.1.length=32)∧TR t.2.2∧∀j,(t.2.2 j).length+t.1≤7) (fun t=>t.1) (7,fj xs,fun _=>[])
      ⟨aa,by simp only[ab];omega,cL _,qm xs,rJ xs,(fun j p hp=>by simp at hp),fun j=>aw⟩ ?_ ?_
    · refine (GX [10001] [(7,.d (.ro 34 (lK 0 (fj xs))))] (fun p hp=>?_)).trans ((aV ?_).trans (IZ xs Q))
      · simp at hp
        subst hp;exact .one (ao (eu rfl aw (by rw[mO,ab]) (we _ _ (rJ xs))))
      · refine ⟨?_,?_,aw⟩
        · simp[ah,fv,lk,AV.low,AV.low1]
        · intro p hp
          rcases d_.1 hp with rfl|hp
          · exact⟨.inl rfl,by show 10000<30000;omega,fun r I=>by
              obtain⟨y,_,rfl⟩:=List.mem_map.1 I
              exact qi _ _ _ _ trivial trivial⟩
          · obtain ⟨j,C,rfl⟩:=jz 8 20000 _ p hp
            exact⟨.inr ⟨by show 11032≤20000+j;omega,rfl⟩,by show 20000+j<30000;omega,Fb _ _⟩
    · rintro ⟨n,o,f⟩ ⟨q1,q2,q3,q4,q5,q7,q6⟩
      simp only at q1 q2 q3 q4 q5 q6 q7;simp only;simp[go_sem,mO];refine⟨fun h=>?_,fun h=>?_⟩
      · have h':1<o.length:=aq
        obtain⟨m,rfl⟩:∃m,n=m+1:=⟨n-1,aq⟩;rw[dP,if_pos h']at q1;refine au (fun t:Nat×Row×Row×iU=>⟨[(6,.own 10000 0 xs.length xs.length),(7,.d (.ro 34 (lK t.1 t.2.1))),(10,.own 40000 0 t.2.2.1.length t.2.2.1.length)],
            (40000,⟨174,34,(lK 0 t.2.2.1).map (fun q=>q.map AV.d)⟩)::(10000,⟨33,34,lc inner ke t.2.2.2 xs⟩)::j9 20000 8 t.2.2.2,50000⟩)
          (fun t=>t.2.2.1++dG t.2.1=dG o∧fF t.1 t.2.1 t.2.2.2=fF 0 o f∧gJ t.2.2.1=t.1∧t.1+gJ t.2.1=xs.length∧(∀p,p∈t.2.1→p.1.length=32)∧(∀p,p∈t.2.2.1→p.1.length=32)∧TR t.2.2.2∧∀j,(t.2.2.2 j).length≤if j<t.1 then(6-m)+1 else 6-m)
          (fun t=>t.2.1.length) (0,o,[],f) ⟨rfl,rfl,rfl,by simp only;omega,q5,aw,q7,fun j=>by have:=q6 j;simp only[Nat.not_lt_zero,if_false];omega⟩ ⟨?_,?_,aw⟩ ?_
        · simp[ah,fv,lk,AV.low,AV.low1,lK]
        · intro p hp
          rcases d_.1 hp with rfl|hp
          · exact⟨.inr ⟨by show 30128≤40000;omega,rfl⟩,by show 40000<50000;omega,by intro r I;simp[lK]at I⟩
          · exact uD aw Q rfl (fun j C=>by
              show lk (ke j) ((10000,_)::j9 20000 8 f)=_;rw[lk,if_neg (by unfold ke;omega)]
              exact nT 8 20000 f j C) p hp
        · rintro ⟨s,q,up,g⟩ ⟨A,S,p3,p4,T,p6,p8,p7⟩
          simp only at A S p3 p4 T p6 p7 p8;simp only;simp[go_sem,mO];refine⟨fun hh=>?_,fun hh=>?_⟩
          · match q,A,S,p4,T,hh with
            | a :: b :: r,A,S,p4,T,_ =>
              have ha:=T a aw;have Y:=T b aw;have an:=v8 ha s a.2;have ay:=v8 Y (s+a.2) b.2;simp only[lK];skip;refine cO [1,2,3,4,5,6,7] [0,8,9,10,11] [1,2,3,4,5,6,7] (.alt (bt 0 (a_ [8,9,10,11])) (bx 8 (.alt (a_ [0,9,10,11]) (a_ [9,0,10,11])))) ⟨[(6,.own 10000 0 xs.length xs.length),(7,.d (.ro 34 (lK s (a::b::r)))),(10,.own 40000 0 (up.length+1) (up.length+1))],(40000,⟨174,34,(lK 0 (up++[(cq a.1 b.1,a.2+b.2)])).map (fun q=>q.map AV.d)⟩)::(10000,⟨33,34,lc inner ke (cy (s+a.2) b.2 a.1 (cy s a.2 b.1 g)) xs⟩)::j9 20000 8 (cy (s+a.2) b.2 a.1 (cy s a.2 b.1 g)),60000⟩ (k:=12) ?h3 ?hq
              case h3 =>
                intro G hG;simp[go_sem,an,ay,CX,kQ ha,kQ Y,dJ ha,dJ Y,lK]
                have aO:s+(a.2+(b.2+gJ r))=xs.length:=by
                  have:=p4;simp only[gJ,List.map_cons,List.sum_cons]at this⊢;exact this
                have aH:∀j,(g j).length≤100:=fun j=>by
                  have:=p7 j;split at this<;>omega
                have af:=LR inner a.1 b.1 xs g s a.2 (s+a.2) b.2 hi ha Y Q aq aq aH;have V:∀(N:Nat)(K:AV→Hp→Prop),K (.agg (bH (cq a.1 b.1) s (a.2+b.2))) ((10000,⟨33,34,lc inner ke (cy (s+a.2) b.2 a.1 (cy s a.2 b.1 g)) xs⟩)::(j9 20000 8 (cy (s+a.2) b.2 a.1 (cy s a.2 b.1 g))++[(40000,⟨174,34,(lK 0 up).map (fun q=>q.map AV.d)⟩)])) →
                    uh Tryz.prog 112 [.own 10000 0 xs.length xs.length,.agg (bH a.1 s a.2),.agg (bH b.1 (s+a.2) b.2)] ((40000,⟨174,34,(lK 0 up).map (fun q=>q.map AV.d)⟩)::(10000,⟨33,34,lc inner ke g xs⟩)::j9 20000 8 g) N K:=by
                  intro N K hK;exact LV (pre:=[(40000,⟨174,34,(lK 0 up).map (fun q=>q.map AV.d)⟩)]) inner a.1 b.1 xs g s a.2 (s+a.2) b.2 Q af (by intro p hp;simp at hp;subst hp;exact⟨aw,.inr aw⟩) hK
                have ad:=iC a.1 b.1;have aD:up.length≤10:=by
                  have e1:=congrArg List.length A;have e2:=nV o;simp only[b_]at e1;omega
                have hW:∀(Z:Fr)(hp:Hp),fv 6 Z=.own 10000 0 xs.length xs.length→fv 7 Z=.d (.ro 34 (lK s (a::b::r)))→fv 10 Z=.own 40000 0 (up.length+1) (up.length+1) →
                    lk 40000 hp=some ⟨174,34,(lK 0 up).map (fun q=>q.map AV.d)++[bH (cq a.1 b.1) s (a.2+b.2)]⟩→lk 10000 hp=some ⟨33,34,lc inner ke (cy (s+a.2) b.2 a.1 (cy s a.2 b.1 g)) xs⟩→(∀j,j<8→lk (ke j) hp=some (pB (cy (s+a.2) b.2 a.1 (cy s a.2 b.1 g) j)))→G Z hp:=by
                  intro Z hp v1 v2 v3 v4 v5 v6;refine hG _ _ (aV ⟨?_,?_,aw⟩)
                  · simp[ah,AV.low,AV.low1,v1,v2,v3]
                  · intro p hp'
                    rcases d_.1 hp' with rfl|hp'
                    · refine ⟨.inl ?_,by show 40000<60000;omega,Ak _ _ _⟩
                      show lk 40000 hp=_;rw[v4,uB,Nat.zero_add,p3,List.map_append];simp[lK,CX]
                    · exact uD aw Q v5 v6 p hp'
                refine⟨V _ _ ?_,V _ _ ?_⟩
                all_goals
                  simp[go_sem,kQ ad,dJ ad,CV,Ff,mO]
                  repeat' apply And.intro
                all_goals first
                  |omega
                  | (refine hW _ _ rfl rfl rfl (by simp [lk,CV]) (by simp [lk]) (fun j C=>?_)
                     have w:∀c,(c<20000∨20008≤c)→¬c=ke j:=fun c hc=>by unfold ke;omega
                     simp[lk,w,VQ C])
              case hq =>
                have aI:List.drop 2 (List.take ((((lK (s+a.2+b.2) r).length:Int)+1+1).toNat) (CW a.1 s a.2::CW b.1 (s+a.2) b.2::lK (s+a.2+b.2) r))=lK (s+a.2+b.2) r:=by
                  rw[cx (by simp only[List.length_cons];omega)];rfl
                simp only[lK];simp[go_sem,aI,-List.drop_succ_cons];refine⟨aq,?_⟩;have l1:=rK (first:=s) (k:=a.2) (h:=b.1) p7 (cL _);have l2:=rK (first:=s+a.2) (k:=b.2) (h:=a.1) l1 (cL _)
                have tu:gJ (up++[(cq a.1 b.1,a.2+b.2)])=s+a.2+b.2:=by
                  have:=p3;simp only[gJ,List.map_append,List.sum_append,List.map_cons,List.map_nil,List.sum_cons,List.sum_nil]at this⊢;omega
                refine am (s+a.2+b.2,r,up++[(cq a.1 b.1,a.2+b.2)],cy (s+a.2) b.2 a.1 (cy s a.2 b.1 g)) ⟨by rw[←A];simp[dG],S,tu,?_,fun u v hp=>T (u,v) (by simp[hp]),?_,uE (uE p8 Y) ha,l2⟩ (by simp only[List.length_cons];omega) ⟨?_,?_,aw⟩
                · have:=p4
                  simp only[gJ,List.map_cons,List.sum_cons]at this⊢;omega
                · intro u v hp
                  rcases cD.1 hp with hp|hp
                  · exact p6 (u,v) hp
                  · simp at hp;obtain⟨rfl,_⟩:=hp;exact iC _ _
                · simp[ah,fv,lk,AV.low,AV.low1]
                · intro p hp
                  rcases d_.1 hp with rfl|hp
                  · exact⟨.inl rfl,by show 40000<50000;omega,Ak _ _ _⟩
                  · exact uD aw Q rfl (fun j C=>by
                      have w:∀c,(c<20000∨20008≤c)→¬c=ke j:=fun c hc=>by unfold ke;omega
                      have:=nT 8 20000 (cy (s+a.2) b.2 a.1 (cy s a.2 b.1 g)) j C;simp[lk,w]
                      exact this) p hp
          · have W:q.length≤1:=aq
            rw[Fj W]at A;rw[CZ W]at S;subst S;have aD:up.length+q.length≤10:=by
              have e1:=congrArg List.length A;have e2:=nV o;simp only[b_]at e1;omega
            have J:(lK 0 up).map (fun q=>q.map AV.d)++(lK s q).map (fun q=>q.map AV.d)=(lK 0 (dG o)).map (fun q=>q.map AV.d):=by
              rw[←A,uB,List.map_append,Nat.zero_add,p3]
            have ac:up.length+q.length=(lK 0 (dG o)).length:=(by rw[mO,←A,b_]);refine⟨aq,?_⟩;refine Lj (m,dG o,fF 0 o f) ⟨q1,?_,by show m≤7;omega,?_,?_,p8,?_⟩ (by show m<m+1;omega) [40000] [(7,.d (.ro 34 (lK 0 (dG o))))] (fun p hp=>?_) ⟨?_,?_,aw⟩
            · have:=nV o
              show(dG o).length≤m+1;omega
            · show gJ (dG o)=xs.length
              rw[qk];exact q4
            · intro u v hp
              exact uC o q5 (u,v) hp
            · intro j
              have:=p7 j;show(fF 0 o f j).length+m≤7;split at this<;>omega
            · simp at hp
              subst hp;refine .one (ao ?_);show SnapD _ _ (.own 40000 0 (up.length+q.length) (up.length+q.length)) _;rw[ac];exact eu (ty:=174) (by show some _=some _;rw[J]) aw rfl (we _ _ (uC o q5))
            · simp[ah,fv,lk,AV.low,AV.low1]
            · intro p hp
              exact uD aw Q rfl (fun j C=>by
                have w:∀c,(c<20000∨20008≤c)→¬c=ke j:=fun c hc=>by unfold ke;omega
                have:=nT 8 20000 (fF 0 o f) j C;simp[aN,lk,w];rw[jO,if_neg (by simp;exact fun e=>w 40000 (.inr aq) e.symm)]
                exact this) p hp
      · have aA:o.length≤1:=aq
        rw[Fg aA]at q1;obtain⟨rfl,rfl⟩:o=R∧f=F:=by simpa using q1
        have hF:bp xs=f:=by unfold bp;rw[aa]
        rw[hF]at H;have g:=An inner (lL f xs) O E hi (by rw[Ap];omega) H;have U:SnapD ((10000,(⟨33,34,lc inner ke f xs⟩:Blk))::j9 20000 8 f) (fun _=>True) (.own 10000 0 xs.length xs.length) (.ro 34 ((lL f xs).map (dY inner))):=by
          refine CY (idf:=ke) hi rfl trivial (fun _ _=>trivial) q7 (fun j C=>?_);have w:∀c,(c<20000∨20008≤c)→¬c=ke j:=fun c hc=>by unfold ke;omega
          have:=nT 8 20000 f j aq;rw[lk,if_neg (w _ aq)];exact this
        refine jx g rfl (ak (.one (ao U)) (ak (.deep a9) aC)) trivial ?_;unfold eE;rw[hF];cases aP:rL E (lL f xs)
        · rw [if_neg (by simp [X,h8])]
          simp[go_sem,ai];refine ew (cs':=[.d (.ro 34 ((lL f xs).map (dY inner))),.d (.int .i64 0)]) (fun i c c' B L=>?_) rfl a9 rfl
          match i,B,L with
          |0,B,L=>simp at B L;subst B L;exact ao U
          |1,B,L=>simp at B L;subst B L;exact aM trivial
          |k+2,B,_=>simp at B
        · rw [if_pos (.inr (.inr rfl))]
          simp[go_sem,ai];exact ae a9 rfl
theorem C2:∀(b:List Wd)(a:List Nat),(∀w,w∈b→(dF w).2=true)→uk a b=(a++aQ b,0)
 |[],a,_=>by simp[uk,aQ]
 |w::r,a,h=>by
  have c:=h w aw;rw[uk,if_pos c,C2 r _ (fun v d=>h v (by simp[d])),←rH c];simp[aQ]
theorem Aq{n:Nat}(a:n=0∨77<n):(dF (n,[])).2=true:=by
 unfold dF;rw[if_neg (by simp;omega),if_neg (by simp;omega),if_neg (by simp;omega)];rfl
theorem Hk{n:Nat}(h:n<256):xQ (n,[]):=⟨aw,h⟩
def fy(d:Int):List Wd:=[cN (aU d),(178,[]),(117,[]),(179,[])]
def fZ(a:List Nat):List Wd:=[cN (pG a),(188,[])]
def cH(trig:List Nat)(d:Int):List Wd:=[cN trig,(173,[]),cN (aQ (fy d)),(81,[]),(187,[])]
theorem wh(x:List Nat):bytes (pG x):=ik _
theorem C3(d:Int):∀w,w∈fy d→xQ w∧(dF w).2=true:=by
 intro w a;have b:=iT d;simp[fy]at a;rcases a with rfl|rfl|rfl|rfl;exact⟨kP aq (fi d),oR aq⟩
 all_goals exact⟨Hk aq,Aq aq⟩
theorem wj{b:List Wd}(h:∀w,w∈b→(dF w).2=true∧w.1<256∧bytes w.2):bytes (aQ b):=by
 unfold aQ;intro z a;rw[List.mem_flatten]at a;obtain⟨l,i,a⟩:=a;obtain⟨w,c,rfl⟩:=List.mem_map.1 i;obtain⟨d,g,e⟩:=h w c;rw[rH d]at a;exact vW g e z a
theorem kz:∀(a:List Wd)(n:Nat),(∀w,w∈a→w.2.length≤n)→(aQ a).length≤(n+3)*a.length
 |[],n,_=>by simp[aQ]
 |w::r,n,h=>by
  have d:=LP w;have e:=h w aw;have b:=kz r n (fun v c=>h v (by simp[c]));simp only[aQ,List.map_cons,List.flatten_cons,b_,List.length_cons]at b⊢;rw[Nat.mul_succ];omega
theorem jm(d:Int):(aQ (fy d)).length≤48:=by
 have b:=iT d;have:=kz (fy d) 9 (by
  intro w a;simp[fy]at a;rcases a with rfl|rfl|rfl|rfl;have:=fC (aU d);omega
  all_goals simp)
 simpa[fy]using this
theorem nW(d:Int):bytes (aQ (fy d)):=wj (fun w a=>by
 have:=C3 d w a;refine⟨this.2,this.1.2,?_⟩;simp[fy]at a;rcases a with rfl|rfl|rfl|rfl;exact jS (fi d)
 all_goals exact fun z b=>by simp at b)
theorem QC(a:List Nat):∀w,w∈fZ a→xQ w∧(dF w).2=true:=by
 intro w b;have c:=nR a;simp[fZ]at b;rcases b with rfl|rfl;exact⟨kP aq (wh _),oR aq⟩;exact⟨Hk aq,Aq aq⟩
theorem rM{trig:List Nat}(d:Int)(c:trig.length=32)(b:bytes trig):∀w,w∈cH trig d→xQ w∧(dF w).2=true:=by
 intro w a;have e:=jm d;simp[cH]at a;rcases a with rfl|rfl|rfl|rfl|rfl;exact⟨kP aq b,oR aq⟩;exact⟨Hk aq,Aq aq⟩;exact⟨kP aq (nW d),oR aq⟩
 all_goals exact⟨Hk aq,Aq aq⟩
theorem QD(n:Int)(a:-9223372036854775808≤n)(b:n<9223372036854775808):ap Tryz.prog 25 [.d (.int .i64 n)] (fun r=>r=.agg (rG (cN (aU n)))):=by
 refine bz Tryz.func25 Tryz.ntmps25 (rs:=[.cell 2 42]) a9 ?_;have c:=iT n;simp[go_sem];refine ag (mN n a b) a9 ?_;simp[go_sem];refine ag (oQ (aU n) aq (fi n)) a9 ?_;generalize cN (aU n)=w;simp[go_sem,rG,ai];exact ae a9 rfl
theorem wm(n:Nat):ap Tryz.prog 116 [.d (.int .u8 (n:Int))] (fun r=>r=.agg (rG (n,[]))):=by
 refine bz Tryz.func116 Tryz.ntmps116 (rs:=[.cell 2 42]) a9 ?_;simp[go_sem,rG,ai];refine vA (cs':=[.d (.int .u8 (n:Int)),.d (nb [])]) (fun i c e a b=>?_) rfl a9 rfl
 match i,a,b with
 |0,a,b=>simp at a b;subst a b;exact aM trivial
 |1,a,b=>simp at a b;subst a b;exact ao (.nil 1)
 |k+2,a,_=>simp at a
theorem sW(a:List Wd)(c:∀w,w∈a→xQ w∧(dF w).2=true)(e:a.length≤10000):ap Tryz.prog 115 [.d (.ro 2 (a.map pF))] (fun r=>r=.d (nb (aQ a))):=by
 refine bz Tryz.func115 Tryz.ntmps115 (rs:=[.tmp 2]) a9 ?_;have b:=CN a (fun w h=>(c w h).1) e;rw[C2 a [] (fun w h=>(c w h).2),List.nil_append]at b;simp[go_sem];refine ag b a9 ?_;simp[go_sem,ai];exact ae a9 rfl
def bB(inner a:List Nat)(d:Int)(trig:List Nat):List AV:=cb inner++([.d (nb a),.d (.int .i64 d)]++cb trig)
theorem dK{inner trig:List Nat}(hi:inner.length=32)(b:trig.length=32)(a:List Nat)(d:Int):(bB inner a d trig).length=66:=by simp[bB,aj,hi,b]
theorem bq{inner trig:List Nat}(hi:inner.length=32)(b:trig.length=32)(a:List Nat)(d:Int):List.take 66 (bB inner a d trig)=bB inner a d trig:=cx (by rw[dK hi b];exact cL _)
theorem rN{inner:List Nat}(hi:inner.length=32)(a:List Nat)(d:Int)(trig:List Nat):(bB inner a d trig)[32]?=some (.d (nb a)):=by
 unfold bB;rw[dn (by rw[aj];omega),aj,hi];rfl
theorem wo{inner:List Nat}(hi:inner.length=32)(a:List Nat)(d:Int)(trig:List Nat):(bB inner a d trig)[33]?=some (.d (.int .i64 d)):=by
 unfold bB;rw[dn (by rw[aj];omega),aj,hi];rfl
theorem sX{inner:List Nat}(hi:inner.length=32)(a:List Nat)(d:Int)(trig:List Nat)(b:32<(bB inner a d trig).length):(bB inner a d trig)[32]=.d (nb a):=by
 have:=rN hi a d trig;rw[cm b]at this;exact Option.some.inj this
theorem yO{inner:List Nat}(hi:inner.length=32)(a:List Nat)(d:Int)(trig:List Nat)(b:33<(bB inner a d trig).length):(bB inner a d trig)[33]=.d (.int .i64 d):=by
 have:=wo hi a d trig;rw[cm b]at this;exact Option.some.inj this
theorem C4{inner:List Nat}(hi:inner.length=32)(a:List Nat)(d:Int)(trig:List Nat):List.take 32 (bB inner a d trig)=cb inner:=by
 unfold bB;rw[List.take_append_of_le_length (by rw[aj,hi];exact cL _),al hi]
theorem kS(inner a:List Nat)(d:Int)(trig:List Nat):(AV.agg (bB inner a d trig)).deep:=by
 intro c hc;unfold bB at hc;rcases cD.1 hc with h|h;exact aW _ _ h;rcases cD.1 h with h|h;simp at h;rcases h with rfl|rfl<;>trivial;exact aW _ _ h
theorem de(inner a:List Nat)(d:Int)(trig:List Nat):∀v,v∈[AV.agg (bB inner a d trig)]→v.deep:=by
 intro v b;simp at b;subst b;exact kS _ _ _ _
theorem VS(inner a:List Nat)(d:Int)(trig:List Nat)(hi:inner.length=32)(h:trig.length=32):ap Tryz.prog 69 [.agg (bB inner a d trig)] (fun r=>r=.d (.bool (decide (0≤d∧d≤65535∧a.length≤1000)))):=by
 refine bz Tryz.func69 Tryz.ntmps69 (rs:=[.tmp 2]) (de _ _ _ _) ?_;have j:=dK hi h a d;have g:=sX hi a d trig;have b:=yO hi a d trig;have c:=rN hi a d trig;have e:=wo hi a d trig;by_cases i:0≤d
 ·by_cases k:d≤65535
  ·by_cases l:a.length≤1000
   ·have i3:(a.length:Int)≤1000:=aq;simp[go_sem,j,bq hi h,c,e,g,b,i,k,l,i3,nb,ai];exact ae a9 rfl
   ·have i3:¬(a.length:Int)≤1000:=aq;simp[go_sem,j,bq hi h,c,e,g,b,i,k,l,i3,nb,ai];exact ae a9 rfl
  ·simp[go_sem,j,bq hi h,c,e,g,b,i,k,nb,ai];exact ae a9 rfl
 ·simp[go_sem,j,bq hi h,c,e,g,b,i,nb,ai];exact ae a9 rfl
theorem rO(inner a:List Nat)(d:Int)(trig:List Nat)(hi:inner.length=32)(j:trig.length=32)(k:a.length≤100000):ap Tryz.prog 71 [.agg (bB inner a d trig)] (fun r=>r=.d (nb (aQ (fZ a)))):=by
 refine bz Tryz.func71 Tryz.ntmps71 (rs:=[.tmp 2]) (de _ _ _ _) ?_;have l:=dK hi j a d;have i:=sX hi a d trig;have g:=rN hi a d trig;have h:=nR a;simp[go_sem,l,bq hi j,g,i];refine ag (vV a k) a9 ?_;simp[go_sem,aj,h,al h,bK];refine bn [160] (oQ (pG a) aq (wh a)) rfl (ak (.one (ao (dE rfl aw h))) aC) ?_;have b:=QC a;have c:fZ a=[cN (pG a),(188,[])]:=rfl;rw[c]at b⊢;generalize cN (pG a)=w at *;simp[go_sem,aN];refine ag (wm 188) a9 ?_;simp[go_sem,rG];refine bn [320] (sW [w,(188,[])] b aw) rfl (ak (.one (ao (eu (ty:=42) (e:=2) (es:=[w,(188,[])].map pF) (by simp[lk,pF,rG]) aw rfl (by simp[pF])))) aC) ?_;simp[go_sem,ai];exact ae a9 rfl
theorem C5(inner a:List Nat)(d:Int)(trig:List Nat)(hi:inner.length=32)(i:trig.length=32)(j:-9223372036854775808≤d)(k:d<9223372036854775808):ap Tryz.prog 117 [.agg (bB inner a d trig)] (fun r=>r=.d (nb (aQ (fy d)))):=by
 refine bz Tryz.func117 Tryz.ntmps117 (rs:=[.tmp 2]) (de _ _ _ _) ?_;have l:=dK hi i a d;have c:=yO hi a d trig;have h:=wo hi a d trig;simp[go_sem,l,bq hi i,h,c];refine ag (QD d j k) a9 ?_;have b:=C3 d;have g:fy d=[cN (aU d),(178,[]),(117,[]),(179,[])]:=rfl;rw[g]at b⊢;generalize cN (aU d)=w at *;simp[go_sem];refine ag (wm 178) a9 ?_;simp[go_sem];refine ag (wm 117) a9 ?_;simp[go_sem];refine ag (wm 179) a9 ?_;simp[go_sem,rG];refine bn [256] (sW [w,(178,[]),(117,[]),(179,[])] b aw) rfl (ak (.one (ao (eu (ty:=42) (e:=2) (es:=[w,(178,[]),(117,[]),(179,[])].map pF) (by simp[lk,pF,rG]) aw rfl (by simp[pF])))) aC) ?_;simp[go_sem,ai];exact ae a9 rfl
def tW(inner a:List Nat)(d:Int)(trig:List Nat):List DV:=cd inner++([nb a,.int .i64 d]++cd trig)
theorem sY(inner a:List Nat)(d:Int)(trig:List Nat):(tW inner a d trig).map AV.d=bB inner a d trig:=by simp[tW,bB,cQ]
theorem I0{inner trig:List Nat}(hi:inner.length=32)(b:trig.length=32)(a:List Nat)(d:Int):(tW inner a d trig).length=66:=by simp[tW,bV,hi,b]
theorem L6{inner trig:List Nat}(hi:inner.length=32)(b:trig.length=32)(a:List Nat)(d:Int):List.drop 34 (tW inner a d trig)=cd trig:=by
 unfold tW;rw[←cA,List.drop_append,c_ (by simp[bV,hi]),List.nil_append];simp[bV,hi]
theorem tX(inner a:List Nat)(d:Int)(trig:List Nat)(hi:inner.length=32)(g:trig.length=32)(s:bytes trig)(x:-9223372036854775808≤d)(y:d<9223372036854775808):ap Tryz.prog 72 [.agg (bB inner a d trig)] (fun r=>r=.d (nb (aQ (cH trig d)))):=by
 refine mh Tryz.func72 (by kernel_rfl) rfl Tryz.ntmps72 (rs:=[.tmp 2]) rfl (fD rfl) (de _ _ _ _) ?_;have q:=dK hi g a d;refine bQ (aD ?_);simp[go_sem,q,bq hi g];simp only[fN];refine nS (st':=⟨[(1,.rop (tW inner a d trig))],[],9000⟩) (rj [0] [(1,.rop (tW inner a d trig))] ?_ ?_) ?_
 intro p hp;simp only[d_,List.mem_nil_iff,or_false]at hp;subst hp;exact .ptr aw rfl rfl rfl (by rw[List.drop_zero,←sY];exact jg _);simp[av,ah,fv,lk,aN,AV.low,AV.low1];refine aD ?_;have m:=I0 hi g a d;have l:=L6 hi g a d;have A:=jm d;simp[go_sem];refine cG [0,1,4] [(2,[]),(3,[]),(5,[]),(6,[]),(7,[]),(8,[]),(9,[]),(10,[11])] 8 (k:=12) ?_;intro G j
 have o:List.map (fun c=>[c]) (List.take 32 (cd trig))=trig.map fun(b:Nat)=>[DV.int .u8 (b:Int)]:=by
  rw[cx (by simp[bV,g])];simp[cd]
 simp[go_sem,m,l,bV,g,sY,bq hi g,o,q];have t:=oQ trig aq s;have u:=oQ (aQ (fy d)) aq (nW d);have i:=rM d g s;have h:cH trig d=[cN trig,(173,[]),cN (aQ (fy d)),(81,[]),(187,[])]:=rfl;rw[h]at i;rw[h]at j;have z:=C5 inner a d trig hi g x y;generalize aQ (fy d)=W at *;generalize cN trig=w at *;generalize cN W=v at *;simp only[nb]at t;refine ag t a9 ?_;simp[go_sem];refine ag (wm 173) a9 ?_;simp[go_sem];refine ag z (de _ _ _ _) ?_;simp[go_sem];refine ag u a9 ?_;simp[go_sem];refine ag (wm 81) a9 ?_;simp[go_sem];refine ag (wm 187) a9 ?_;simp[go_sem,rG];refine bn [9288] (sW [w,(173,[]),v,(81,[]),(187,[])] i aw) rfl (ak (.one (ao (eu (ty:=42) (e:=2) (es:=[w,(173,[]),v,(81,[]),(187,[])].map pF) (by simp[lk,pF,rG]) aw rfl (by simp[pF])))) aC) ?_;simp[go_sem];refine j _ _ ?_;clear j G;simp[go_sem,ai];exact ae a9 rfl
abbrev bL:=List Nat
def j6:List Nat→Nat
 |[]=>0
 |b::r=>b+256*j6 r
theorem mQ:∀(a b:List Nat),j6 (a++b)=j6 a+256 ^ a.length*j6 b
 |[],b=>by simp[j6]
 |x::a,b=>by
  rw[List.cons_append,j6,j6,mQ,List.length_cons,Nat.pow_succ,Nat.mul_add,Nat.add_assoc,←Nat.mul_assoc,Nat.mul_comm 256 (256 ^ a.length)]
theorem wy:∀{b:List Nat},bytes b→j6 b<256 ^ b.length
 |[],_=>by simp[j6]
 |x::b,h=>by
  have c:=wy (b:=b) (fun y a=>h y (cS _ a));have d:x<256:=h x aw;rw[j6,List.length_cons,Nat.pow_succ];omega
theorem Hl:∀(k m:Nat),m<256 ^ k→j6 (yI k m)=m
 |0,m,h=>by simp at h;subst h;rfl
 |k+1,m,h=>by
  rw[yI];split;rename_i e;subst e;rfl;rw[j6,Hl k (m/256) (by rw[Nat.pow_succ]at h;omega)];omega
def Ar(b:bL):Int:=match b.reverse with
 |[]=>0
 |x::r=>if x<128 then(j6 b:Int)else -((j6 b-128*256 ^ (b.length-1):Nat):Int)
theorem jo(a:bL)(x:Nat):Ar (a++[x])=if x<128 then((j6 a+256 ^ a.length*x:Nat):Int)else -((j6 a+256 ^ a.length*x-128*256 ^ a.length:Nat):Int):=by
 unfold Ar;rw[List.reverse_append];simp only[List.reverse_cons,List.reverse_nil,List.nil_append,List.singleton_append,b_,List.length_cons,List.length_nil,Nat.add_sub_cancel];rw[mQ];simp[j6]
theorem I1(n:Int)(j:-9223372036854775808≤n)(l:n<9223372036854775808):Ar (aU n)=n:=by
 have i:n.natAbs<256 ^ 8:=by show n.natAbs<18446744073709551616;omega
 have g:=Hl 8 n.natAbs i;have h:=oS 8 n.natAbs;unfold aU;generalize yI 8 n.natAbs=b at g h;rcases fh b with rfl|⟨a,x,rfl⟩;have:n=0:=by simp[j6]at g;omega
 subst this;rfl;rw[oU];have k:x<256:=h x aw;have c:j6 a+256 ^ a.length*x=n.natAbs:=by
  rw[mQ]at g;simpa[j6]using g
 unfold iR;split;split;rename_i e;have d:n<0:=by simpa using e
 rw[show a++[x,128]=(a++[x])++[128]by simp,jo,if_neg aq,mQ];simp only[b_,List.length_cons,List.length_nil,j6,Nat.mul_zero,Nat.add_zero];rw[c,Nat.mul_comm 128,Nat.add_sub_cancel];omega;rename_i e;have d:¬n<0:=by simpa using e
 rw[show a++[x,0]=(a++[x])++[0]by simp,jo,if_pos aq,mQ];simp only[b_,List.length_cons,List.length_nil,j6,Nat.mul_zero,Nat.add_zero];rw[c];omega;split;rename_i e;have d:n<0:=by simpa using e
 rw[jo,if_neg aq,Nat.mul_add,Nat.mul_comm 128,←Nat.add_assoc,Nat.add_sub_cancel,c];omega;rename_i e;have d:¬n<0:=by simpa using e
 rw[jo,if_pos aq,c];omega
def lM(most:Nat)(b:bL):Option Int:=if b.length≤min most 8∧aU (Ar b)=b then some (Ar b)else none
theorem QE{most:Nat}{n:Int}(a:-9223372036854775808≤n)(b:n<9223372036854775808)(c:(aU n).length≤min most 8):lM most (aU n)=some n:=by
 unfold lM;rw[I1 n a b,if_pos ⟨c,rfl⟩]
def pI:bL→Bool
 |[]=>false
 |[c]=>decide (c≠0∧c≠128)
 |c::r=>decide (c≠0)||pI r
def lh(b:Bool):bL:=if b then[1]else[]
structure Mc where
 main:List bL
 alt:List bL
 e:Int
def qo(x:Int)(m:Mc):Mc:=if m.e=0 then⟨m.main,m.alt,x⟩else m
def ed(n:Nat)(m:Mc):Mc:=if m.main.length<n then qo 12 m else m
def nX(m:Mc):bL×Mc:=if(ed 1 m).e=0 then(m.main.getLastD [],⟨m.main.dropLast,m.alt,m.e⟩)else([],ed 1 m)
def sZ(l:List bL)(m:Mc):Mc:=⟨m.main++l,m.alt,m.e⟩
def TS(most:Nat)(x:bL)(m:Mc):Int×Mc:=if m.e=0 then(match lM most x with|some n=>(n,m)|none=>(0,qo 15 m))else(0,m)
def kT(k:Nat)(a:List Nat)(m:Mc):Mc :=
 if(ed k m).e=0 then⟨m.main.take (m.main.length-k)++a.map (fun i=>(m.main.drop (m.main.length-k)).getD i []),m.alt,m.e⟩else ed k m
def VT(m:Mc):Mc:=⟨(nX m).2.main,(nX m).2.alt++[(nX m).1],(nX m).2.e⟩
def Zw(m:Mc):Mc:=if m.alt.length=0 then qo 12 m else⟨m.main++[m.alt.getLastD []],m.alt.dropLast,m.e⟩
def acz(a:Nat)(m:Mc):Option Mc :=
 if a=97 then some m
 else if a=107 then some (VT m)
 else if a=108 then some (Zw m)
 else if a=109 then some (kT 2 [] m)
 else if a=110 then some (kT 2 [0,1,0,1] m)
 else if a=111 then some (kT 3 [0,1,2,0,1,2] m)
 else if a=112 then some (kT 4 [0,1,2,3,0,1] m)
 else if a=113 then some (kT 6 [2,3,4,5,0,1] m)
 else if a=114 then some (kT 4 [2,3,0,1] m)
 else if a=117 then some (kT 1 [] m)
 else if a=118 then some (kT 1 [0,0] m)
 else if a=119 then some (kT 2 [1] m)
 else if a=120 then some (kT 2 [0,1,0] m)
 else if a=123 then some (kT 3 [1,2,0] m)
 else if a=124 then some (kT 2 [1,0] m)
 else if a=125 then some (kT 2 [1,0,1] m)
 else none
def TT(b:Bool)(m:Mc):Mc :=
 let p:=nX m
 let r:=TS 4 p.1 p.2
 if r.2.e=0 then
  (if r.1<0∨(r.2.main.length:Int)≤r.1 then qo 12 r.2
  else
   let a:=r.2.main.length-1-r.1.toNat
   sZ [r.2.main.getD a []] ⟨if b then r.2.main.eraseIdx a else r.2.main,r.2.alt,r.2.e⟩)
 else r.2
def L8(b:Bool)(m:Mc):Mc:=if b then m else qo 16 m
def L9(m:Mc):bL:=m.main.getLastD []
def Zx(m:Mc):bL:=m.main.getD (m.main.length-2) []
def Zy(m:Mc):Mc:=if(ed 2 m).e=0 then sZ [Zx m++L9 m] (kT 2 [] m)else ed 2 m
def Hm(m:Mc):Bool×Mc:=if(ed 2 m).e=0 then(decide (L9 m=Zx m),kT 2 [] m)else(false,ed 2 m)
def TU(f:bL→bL)(m:Mc):Mc:=if(ed 1 m).e=0 then sZ [f (nX m).1] (nX m).2 else ed 1 m
def rdM(b c:bL→bL)(a:Nat)(m:Mc):Option Mc :=
 if a=121 then some (TT false m)
 else if a=122 then some (TT true m)
 else if a=105 then some (L8 (pI (nX m).1) (nX m).2)
 else if a=115 then some (if(ed 1 m).e=0 then(if pI (L9 m)then sZ [L9 m] m else m)else ed 1 m)
 else if a=116 then some (sZ [aU (m.main.length:Int)] m)
 else if a=126 then some (Zy m)
 else if a=130 then some (if(ed 1 m).e=0 then sZ [aU ((L9 m).length:Int)] m else ed 1 m)
 else if a=135 then some (sZ [lh (Hm m).1] (Hm m).2)
 else if a=136 then some (L8 (Hm m).1 (Hm m).2)
 else if a=168 then some (TU b m)
 else if a=170 then some (TU c m)
 else none
def unM(b:Nat)(a:Int):Option Int :=
 if b=139 then some (a+1)else if b=140 then some (a-1)else if b=143 then some (-a)else if b=144 then some (max a (-a))
 else if b=145 then some (if a=0 then 1 else 0)else if b=146 then some (if a=0 then 0 else 1)else none
def cmM(c:Nat)(a b:Int):Option Bool :=
 if c=154 then some (decide (a≠0)&&decide (b≠0))else if c=155 then some (decide (a≠0)||decide (b≠0))
 else if c=156∨c=157 then some (decide (a=b))else if c=158 then some (decide (a≠b))
 else if c=159 then some (decide (a<b))else if c=160 then some (decide (b<a))
 else if c=161 then some (decide (a≤b))else if c=162 then some (decide (b≤a))else none
def biM(c:Nat)(a b:Int):Option Int :=
 if c=147 then some (a+b)else if c=148 then some (a-b)else if c=163 then some (min a b)else if c=164 then some (max a b)
 else(cmM c a b).map fun v=>if v then 1 else 0
def Zz:Nat→Mc→List Int×Mc
 |0,m=>([],m)
 |k+1,m =>
  let p:=nX m
  let r:=TS 4 p.1 p.2
  let q:=Zz k r.2
  (q.1++[r.1],q.2)
def Md(n:Nat)(m:Mc):List Int×Mc:=if(ed n m).e=0 then Zz n m else(List.replicate n 0,ed n m)
def acA (a:Nat) (m:Mc):Option Mc :=
 if a=165 then
  some (let p:=Md 3 m;sZ [lh (decide (p.1.getD 1 0≤p.1.getD 0 0)&&decide (p.1.getD 0 0<p.1.getD 2 0))] p.2)
 else match unM a 0 with
  |some _=>some (let p:=Md 1 m;sZ [aU ((unM a (p.1.getD 0 0)).getD 0)] p.2)
  | none=>match biM a 0 0 with
   |none=>none
   |some _=>some (
    let p:=Md 2 m
    let n:=(biM a (p.1.getD 0 0) (p.1.getD 1 0)).getD 0
    if a=157 then L8 (decide (n≠0)) p.2 else sZ [aU n] p.2)
def fG(main alt:List bL):Int:=if(main.all fun x=>decide (x.length≤520))&&(alt.all fun x=>decide (x.length≤520))then(if main.length+alt.length≤100 then 0 else 13)else 14
def iD(m:Mc):List bL×List bL×Int :=
 if m.e=0 then(if fG m.main m.alt=0 then(m.main,m.alt,0)else([],[],fG m.main m.alt))else([],[],m.e)
def doM(b c:bL→bL)(a:Nat)(main alt:List bL):List bL×List bL×Int :=
 match acz a ⟨main,alt,0⟩with
 |some m=>iD m
 | none=>match rdM b c a ⟨main,alt,0⟩ with
  |some m=>iD m
  |none=>match acA a ⟨main,alt,0⟩with
   |some m=>iD m
   |none=>([],[],10)
end Go.Proofs.YtmfnimjnneflnaaGreat
namespace Go.Am
def Me(hp:Hp)(a:List Nat)(v b:AV):Prop:=b=v∨∃d,b=.d d∧SnapD hp (fun id=>id∈a) v d
theorem Fo{st:St}{L:Nat}{b:Blk}{es':List (List AV)}(l:List Nat)(hL:L ∉ l)(hb:lk L st.hp=some b)(hz:b.e≠0)(hl:es'.length=b.es.length)
  (hc:∀(i:Nat)(x V:List AV),b.es[i]?=some x→es'[i]?=some V→V.length=x.length∧∀(j:Nat)(v v':AV),x[j]?=some v→V[j]?=some v'→Me st.hp l v v'):Wk st ⟨st.fr,bJ L ⟨b.ty,b.e,es'⟩ (aN l st.hp),st.nx⟩:=by
 intro c a w hs;obtain⟨h1,h2,σ,s,hf,F⟩:=hs;obtain⟨R,M⟩:=rf l s;have I:lk L (aN l st.hp)=some b:=by rw[jO,if_neg (by simpa using hL)];exact hb
 have p:∀i o,lk i (bJ L ⟨b.ty,b.e,es'⟩ (aN l st.hp))=some o→∃q,lk i (aN l st.hp)=some q∧o.ty=q.ty∧o.e=q.e∧o.es.length=q.es.length∧(i≠L→o=q)∧(i=L→o=⟨b.ty,b.e,es'⟩∧q=b):=by
  intro i o h;rw[km]at h;by_cases B:i=L;subst B;rw[if_pos rfl,I]at h;simp only[Option.map_some,Option.some.injEq]at h;subst h;exact⟨b,I,rfl,rfl,hl,fun e=>absurd rfl e,fun _=>⟨rfl,rfl⟩⟩;rw[if_neg B]at h;exact⟨o,h,rfl,rfl,rfl,fun _=>rfl,fun e=>absurd e B⟩
 have Y:∀q,bD c w σ (aN l st.hp) q→bD c w σ (bJ L ⟨b.ty,b.e,es'⟩ (aN l st.hp)) q:=fun q t=>⟨⟨t.1.1,fun id C g h A=>by
  obtain⟨m,r,_⟩:=p id C h
  exact t.1.2 id m g r A⟩,t.2⟩
 have step:Step w (bD c w σ (aN l st.hp)) σ (aN l st.hp) (fun i=>i<st.nx) w (bD c w σ (bJ L ⟨b.ty,b.e,es'⟩ (aN l st.hp))) σ (bJ L ⟨b.ty,b.e,es'⟩ (aN l st.hp)) (fun i=>i<st.nx) :=
  ⟨Y,fun _ _=>rfl,fun _ h=>h,fun id o _ h=>by
   obtain⟨m,r,K,h5,h6,_⟩:=p id o h
   exact⟨m,r,h5,K,aq,fun _ g A=>⟨A,fun _ h=>h⟩⟩⟩
 have H:∀(v:AV)(d:DV)(x:Value),SnapD st.hp (fun id=>id∈l) v d→AIs w (bD c w σ st.hp) σ st.hp (fun i=>i<st.nx) v x→DIs w (bD c w σ (bJ L ⟨b.ty,b.e,es'⟩ (aN l st.hp))) d x:=by
  intro v d x D X;refine vj (fun q t=>Y _ (M.sub q t)) (fun id C g S Z A=>Y _ ⟨⟨dS (s.at Z A),fun W J g' u U e=>?_⟩,?_⟩) s D X;subst e;rw[jO]at u;split at u;cases u;rename_i Q;have:=s.inj id W C J g Z u A U;subst this;exact Q (by simpa using S);rcases s.mine id C g Z A with h|h;exact .inl (c.hM g h);exact .inr h
 refine⟨h1,h2,σ,⟨fun i j bi bj g B O ab aa=>?_,fun i o h=>?_,fun i o h=>?_,fun i o g h A=>?_,s.os,s.tape,s.output,s.size,s.old⟩,fun n=>((hf n).step M).step step,(F.trans M).trans step⟩;obtain⟨m,r,_⟩:=p i bi B;obtain⟨b2,K,_⟩:=p j bj O;exact R.inj i j m b2 g r K ab aa;obtain⟨m,r,_⟩:=p i o h;exact R.lt i m r;obtain⟨m,r,K,h5,h6,h7,h8⟩:=p i o h;by_cases B:i=L;obtain⟨rfl,rfl⟩:=h8 B;subst B;rcases s.blk i m hb with ⟨G,k2⟩|⟨g,G,T,k2,k3,k4,k5,k6⟩;have:=k2.none hz;exact .inl ⟨G,.inl (List.length_eq_zero_iff.1 (by rw[h6,this];rfl))⟩;refine .inr ⟨g,G,T,k2,k3,?_,by rw[h6];exact k5,?_⟩;intro x X;obtain⟨n,Q,rfl⟩:=List.mem_iff_getElem.1 X;have z:n<m.es.length:=by simp only at Q;omega
 obtain⟨q1,_⟩:=hc n m.es[n] _ (cm z) (cm Q);rw[q1];exact k4 _ (List.getElem_mem _);intro E j x y v a1 a2 a3;have z:E<m.es.length:=by have:=(ci.1 a1).1;simp only at this;omega
 obtain⟨q1,q2⟩:=hc E m.es[E] x (cm z) a1;have O:j<m.es[E].length:=by have:=(ci.1 a2).1;omega
 have hv:=k6 E j m.es[E] m.es[E][j] v (cm z) (cm O) a3;rcases q2 j _ y (cm O) a2 with rfl|⟨d,rfl,D⟩;exact(hv.step M).step step;exact .d (H _ _ _ D hv);rw[h7 B];rcases R.blk i m r with k|⟨g,G,k2⟩;exact .inl k;exact .inr ⟨g,G,k2.step step rfl⟩;obtain⟨m,r,_⟩:=p i o h;exact R.mine i m g r A
end Go.Am
namespace Go.Am
section
variable {P:Program}
def j6(n:Nat)(v a:AV):Prop:=a=v∨a=.any∨((v=.nil∨∃e,v=.d (.rof e []))∧((∃id,id<n∧a=.own id 0 0 0)∨∃e,a=.d (.ro e [])))
theorem VU{n:Nat}{v b:AV}(h:j6 n v b){w:World}{S:Nat→Prop}{σ:Nat→Option Nat}{hp:Hp}{x:Value}(a:AIs w S σ hp (fun i=>i<n) v x):AIs w S σ hp (fun i=>i<n) b x:=by
 rcases h with rfl|rfl|⟨h,g⟩;exact a;exact .any _;have own:∀A,AIs w S σ hp (fun i=>i<n) b (.slice A 0 0):=fun A=>by
  rcases g with ⟨id,c,rfl⟩|⟨e,rfl⟩;exact .own id 0 0 0 A 0 c (cL _) (fun _=>rfl) fun b2 j=>⟨Nat.zero_le _,fun _=>⟨cL _,cL _,fun h=>aq⟩⟩;exact .d (.ro e [] A 0 (fun _ _=>undef) aw aw aw aw aw)
 rcases h with rfl|⟨e,rfl⟩;cases a with
 |nil=>exact own none
 ·cases a with
  |d a =>
   cases a with
   |rof _ _ A vs h1 g h3 h4=>exact own A
theorem ZA{st:St}{L:Nat}{b:Blk}{es':List (List AV)}(U:lk L st.hp=some b)(hz:b.e≠0)(Z:es'.length=b.es.length)
  (hc:∀(i:Nat)(x F:List AV),b.es[i]?=some x→es'[i]?=some F→F.length=x.length∧∀(j:Nat)(v S:AV),x[j]?=some v→F[j]?=some S→j6 st.nx v S):Wk st ⟨st.fr,bJ L ⟨b.ty,b.e,es'⟩ st.hp,st.nx⟩:=by
 intro c a w hs;obtain⟨h1,h2,σ,r,hf,u⟩:=hs;have l:∀i k,lk i (bJ L ⟨b.ty,b.e,es'⟩ st.hp)=some k→∃p,lk i st.hp=some p∧k.ty=p.ty∧k.e=p.e∧k.es.length=p.es.length∧(i≠L→k=p)∧(i=L→k=⟨b.ty,b.e,es'⟩∧p=b):=by
  intro i k h;rw[km]at h;by_cases m:i=L;subst m;rw[if_pos rfl,U]at h;simp only[Option.map_some,Option.some.injEq]at h;subst h;exact⟨b,U,rfl,rfl,Z,fun e=>absurd rfl e,fun _=>⟨rfl,rfl⟩⟩;rw[if_neg m]at h;exact⟨k,h,rfl,rfl,rfl,fun _=>rfl,fun e=>absurd e m⟩
 have Y:∀p,bD c w σ st.hp p→bD c w σ (bJ L ⟨b.ty,b.e,es'⟩ st.hp) p:=fun p t=>⟨⟨t.1.1,fun id K g h A=>by
  obtain⟨d,o,_⟩:=l id K h
  exact t.1.2 id d g o A⟩,t.2⟩
 have step:Step w (bD c w σ st.hp) σ st.hp (fun i=>i<st.nx) w (bD c w σ (bJ L ⟨b.ty,b.e,es'⟩ st.hp)) σ (bJ L ⟨b.ty,b.e,es'⟩ st.hp) (fun i=>i<st.nx) :=
  ⟨Y,fun _ _=>rfl,fun _ h=>h,fun id k _ h=>by
   obtain⟨d,o,z,D,M,_⟩:=l id k h
   exact⟨d,o,D,z,aq,fun _ g A=>⟨A,fun _ h=>h⟩⟩⟩
 refine⟨h1,h2,σ,⟨fun i j bi bj g m C H I=>?_,fun i k h=>?_,fun i k h=>?_,fun i k g h A=>?_,r.os,r.tape,r.output,r.size,r.old⟩,fun n=>(hf n).step step,u.trans step⟩;obtain⟨d,o,_⟩:=l i bi m;obtain⟨b2,z,_⟩:=l j bj C;exact r.inj i j d b2 g o z H I;obtain⟨d,o,_⟩:=l i k h;exact r.lt i d o;obtain⟨d,o,z,D,M,R,J⟩:=l i k h;rcases r.blk i d o with ⟨E,k2⟩|⟨g,E,O,k2,k3,k4,k5,W⟩;refine .inl ⟨E,?_⟩;by_cases m:i=L;obtain⟨rfl,rfl⟩:=J m;have:=k2.none hz;exact .inl (List.length_eq_zero_iff.1 (by rw[M,this];rfl));rw[R m];exact k2;refine .inr ⟨g,E,O,by rw[z];exact k2,k3,?_,by rw[M,D];exact k5,?_⟩;by_cases m:i=L;obtain⟨rfl,rfl⟩:=J m;intro x X;obtain⟨n,V,rfl⟩:=List.mem_iff_getElem.1 X;have q:n<d.es.length:=by simp only at V;omega
 obtain⟨T,_⟩:=hc n d.es[n] _ (cm q) (cm V);rw[T];exact k4 _ (List.getElem_mem _);rw[R m];exact k4;intro s j x y v B Q G;rw[D]at G;by_cases m:i=L;obtain⟨rfl,rfl⟩:=J m;have q:s<d.es.length:=by have:=(ci.1 B).1;simp only at this;omega
 obtain⟨T,q2⟩:=hc s d.es[s] x (cm q) B;have C:j<d.es[s].length:=by have:=(ci.1 Q).1;omega
 have hv:=W s j d.es[s] d.es[s][j] v (cm q) (cm C) G;exact(VU (q2 j _ y (cm C) Q) hv).step step;rw[R m]at B;exact(W s j x y v B Q G).step step;obtain⟨d,o,_⟩:=l i k h;exact r.mine i d g o A
def MA(n:Nat)(x a:List AV):Prop:=a.length=x.length∧∀(j:Nat)(v b:AV),x[j]?=some v→a[j]?=some b→j6 n v b
theorem I2{n:Nat}(l r:List AV){a a':AV}(h:j6 n a a'):MA n (l++a::r) (l++a'::r):=by
 refine⟨aw,fun j v g c b=>?_⟩;rcases Nat.lt_or_ge j l.length with d|d;rw[List.getElem?_append_left d]at c b;rw[c]at b;exact .inl (Option.some.inj b).symm;rw[dn d]at c b;cases e:j-l.length with
 |zero =>
  rw[e]at c b;simp at c b;subst c;subst b;exact h
 |succ k =>
  rw[e]at c b;simp at c b;rw[c]at b;exact .inl (Option.some.inj b).symm
theorem VV{st:St}{L:Nat}{ty:TypeId}{e:Nat}{x b:List AV}(d:lk L st.hp=some ⟨ty,e,[x]⟩)(g:e≠0)(h:MA st.nx x b):Wk st ⟨st.fr,bJ L ⟨ty,e,[b]⟩ st.hp,st.nx⟩ :=
 ZA d g rfl fun i y j a c=>by
  cases i with
  |zero=>simp at a c;subst a;subst c;exact h
  |succ i=>simp at a
end
end Go.Am
namespace Go.Am
def qp(n:Nat)(f:Nat→Nat):Prop:=∀i j,i<n→j<n→f i=f j→i=j
def li(n:Nat)(f g:Nat→Nat):List (Nat×Nat):=(List.range n).map fun i=>(f i,g i)
theorem dx{n:Nat}{f g:Nat→Nat}{p:Nat×Nat}:p∈li n f g↔∃i,i<n∧p=(f i,g i):=by
 simp only[li,List.mem_map,List.mem_range];constructor;rintro⟨i,h,rfl⟩;exact⟨i,h,rfl⟩;rintro⟨i,h,rfl⟩;exact⟨i,h,rfl⟩
theorem ie(n:Nat):qp n id:=fun i j _ _ h=>h
theorem ZB{n:Nat}{f g:Nat→Nat}(c:qp n f)(d:qp n g):ii (li n f g)=true:=by
 refine d7.2 fun p hp=>d7.2 fun q e=>?_;obtain⟨i,b,rfl⟩:=dx.1 hp;obtain⟨j,a,rfl⟩:=dx.1 e;rw[beq_iff_eq,Bool.eq_iff_iff,beq_iff_eq,beq_iff_eq];exact⟨fun h=>by rw[c i j b a h],fun h=>by rw[d i j b a h]⟩
theorem Hn(n:Nat)(f g:Nat→Nat):iy (li n f g)=li n g f:=by simp[iy,li]
theorem MB{n:Nat}{f:Nat→Nat}(g:Nat→Nat)(h:qp n f){i:Nat}(hi:i<n):lk (f i) (li n f g)=some (g i) :=
 lY (fun a b c e l=>by
  obtain⟨i,hi,k⟩:=dx.1 e;obtain⟨j,m,d⟩:=dx.1 l;cases k;simp only[Prod.mk.injEq]at d;obtain⟨d,rfl⟩:=d
  rw[h i j hi m d]) (dx.2 ⟨i,hi,rfl⟩)
theorem As{n:Nat}{f:Nat→Nat}(g:Nat→Nat)(d:Nat)(a:qp n f){i:Nat}(hi:i<n):bX (li n f g) d (f i)=g i:=zV (MB g a hi)
def hpL(n:Nat)(f:Nat→Nat)(b:Nat→Blk):Hp:=(List.range n).map fun i=>(f i,b i)
theorem oW{n:Nat}{f:Nat→Nat}{b:Nat→Blk}{p:Nat×Blk}:p∈hpL n f b↔∃i,i<n∧p=(f i,b i):=by
 simp only[hpL,List.mem_map,List.mem_range];constructor;rintro⟨i,h,rfl⟩;exact⟨i,h,rfl⟩;rintro⟨i,h,rfl⟩;exact⟨i,h,rfl⟩
theorem wC{α:Type}{n:Nat}{v:α}:∀{l:List (Nat×α)},(n,v)∈l→(∀u,(n,u)∈l→u=v)→lk n l=some v
 | (m,u) :: t,h,hu=>by
  simp only[lk];by_cases e:m=n;subst e;rw[if_pos rfl,hu u (dz ..)];rw[if_neg e];rcases d_.1 h with h|h;cases h;exact absurd rfl e;exact wC h fun u a=>hu u (cS _ a)
theorem Fp{n:Nat}{f:Nat→Nat}(b:Nat→Blk)(c:qp n f){i:Nat}(hi:i<n):lk (f i) (hpL n f b)=some (b i) :=
 wC (oW.2 ⟨i,hi,rfl⟩) fun u a=>by
  obtain⟨j,d,e⟩:=oW.1 a;simp only[Prod.mk.injEq]at e;obtain⟨e,rfl⟩:=e;rw[c i j hi d e]
theorem TV{F:Nat→Option Blk}{x y:Nat}:∀{l:List (Nat×Nat)},(x,y)∈l→(∀z,(z,y)∈l→z=x)→(∃v,F x=some v)→lk y (l.filterMap fun p=>(F p.1).map fun b=>(p.2,b))=F x
 | (a,c) :: t,h,hu,hv=>by
  obtain⟨v,d⟩:=hv;by_cases e:c=y;subst e;obtain rfl:a=x:=hu a (dz ..);rw[List.filterMap_cons_some (b:=(c,v)) (by simp[d])];simp[lk,d];have j:(x,y)∈t:=by
   rcases d_.1 h with h|h;cases h;exact absurd rfl e;exact h
  have i:=TV (F:=F) j (fun z k=>hu z (cS _ k)) ⟨v,d⟩;cases g:F a with
  |none=>rw[List.filterMap_cons_none (by simp[g])];exact i
  |some w =>
   rw[List.filterMap_cons_some (b:=(c,w)) (by simp[g])];simp only[lk,if_neg e];exact i
theorem Fq{F:Nat→Option Blk}{y:Nat}:∀{l:List (Nat×Nat)},(∀x,(x,y) ∉ l)→lk y (l.filterMap fun p=>(F p.1).map fun b=>(p.2,b))=none:=by
 intro l h;cases i:lk y (l.filterMap fun p=>(F p.1).map fun b=>(p.2,b))with
 |none=>rfl
 | some v =>
  have:=bN i;rw[List.mem_filterMap]at this;obtain⟨⟨a,c⟩,g,d⟩:=this;simp only at d;cases e:F a with
  |none=>rw[e]at d;simp at d
  |some w =>
   rw[e]at d;simp only[Option.map_some,Option.some.injEq,Prod.mk.injEq]at d;obtain⟨rfl,_⟩:=d;exact absurd g (h a)
section
variable {P:Program} {n:Nat} {f:Nat→Nat} {news:List (Nat × Nat)} {N:Nat} {hp hp':Hp}
def Bv(n:Nat)(f:Nat→Nat)(news:List (Nat×Nat))(N:Nat):Nat→Nat:=bX (bF (li n id f) news N) (N+31)
theorem C6(a:dp (li n id f) news=true):(∀c j,(c,j)∈news→j<31∧n≤c)∧ii news=true:=by
 simp only[dp,Bool.and_eq_true,d7,decide_eq_true_eq,bne_iff_ne,ne_eq]at a;refine⟨fun c j h=>⟨(a.2 _ h).1,?_⟩,a.1⟩;rcases Nat.lt_or_ge c n with d|b;exact absurd rfl ((a.2 _ h).2 (c,f c) (dx.2 ⟨c,d,rfl⟩));exact b
theorem MC(q:dp (li n id f) news=true)(o:qp n f)(l:∀i,i<n→f i<N){x z y:Nat}(b:(x,y)∈bF (li n id f) news N)(d:(z,y)∈bF (li n id f) news N):z=x:=by
 obtain⟨s,p⟩:=C6 q;rcases cD.1 b with b|b<;>rcases cD.1 d with d|d;obtain⟨i,g,e⟩:=dx.1 b;obtain⟨j,h,a⟩:=dx.1 d;cases e;simp only[Prod.mk.injEq,id_eq]at a⊢;obtain⟨m,a⟩:=a;rw[m];exact(o _ _ g h a).symm;obtain⟨i,g,e⟩:=dx.1 b;obtain⟨⟨c,j⟩,h,a⟩:=List.mem_map.1 d;cases e;simp only[Prod.mk.injEq]at a;have:=l i g;omega;obtain⟨i,g,e⟩:=dx.1 d;obtain⟨⟨c,j⟩,h,a⟩:=List.mem_map.1 b;cases e;simp only[Prod.mk.injEq]at a;have:=l i g;omega;obtain⟨⟨c,j⟩,h,e⟩:=List.mem_map.1 b;obtain⟨⟨c2,r⟩,k,a⟩:=List.mem_map.1 d;simp only[Prod.mk.injEq]at e a;obtain⟨rfl,e⟩:=e;obtain⟨rfl,a⟩:=a;exact((gj p h k).2 aq).symm
theorem Ho(o:dp (li n id f) news=true){x y z:Nat}(b:(x,y)∈bF (li n id f) news N)(d:(x,z)∈bF (li n id f) news N):y=z:=by
 obtain⟨l,m⟩:=C6 o;rcases cD.1 b with b|b<;>rcases cD.1 d with d|d;obtain⟨i,k,e⟩:=dx.1 b;obtain⟨j,g,a⟩:=dx.1 d;cases e;simp only[Prod.mk.injEq,id_eq]at a;obtain⟨rfl,rfl⟩:=a;rfl;obtain⟨i,k,e⟩:=dx.1 b;obtain⟨⟨c,j⟩,g,a⟩:=List.mem_map.1 d;cases e;simp only[Prod.mk.injEq,id_eq]at a;have:=(l _ _ g).2;omega;obtain⟨i,k,e⟩:=dx.1 d;obtain⟨⟨c,j⟩,g,a⟩:=List.mem_map.1 b;cases e;simp only[Prod.mk.injEq,id_eq]at a;have:=(l _ _ g).2;omega;obtain⟨⟨c,j⟩,g,e⟩:=List.mem_map.1 b;obtain⟨⟨c2,p⟩,h,a⟩:=List.mem_map.1 d;simp only[Prod.mk.injEq]at e a;obtain⟨rfl,rfl⟩:=e;obtain⟨rfl,rfl⟩:=a;rw[(gj m g h).1 rfl]
theorem Ft(g:dp (li n id f) news=true){i:Nat}(hi:i<n):Bv n f news N i=f i :=
 zV (lY (fun a b c d e=>Ho g d e) (List.mem_append_left _ (dx.2 ⟨i,hi,rfl⟩)))
theorem Hq(g:dp (li n id f) news=true){c j:Nat}(h:(c,j)∈news):Bv n f news N c=N+j :=
 zV (lY (fun a b c d e=>Ho g d e) (List.mem_append_right _ (List.mem_map.2 ⟨(c,j),h,rfl⟩)))
theorem Hr(k:dp (li n id f) news=true)(h:qp n f)(g:∀i,i<n→f i<N){x y:Nat}(d:(x,y)∈bF (li n id f) news N){b:Blk}(c:lk x hp'=some b) :
  lk y (bZ (li n id f) news N hp' hp)=some (b.ren (Bv n f news N)):=by
 have:=TV (F:=fun a=>(lk a hp').map fun b=>b.ren (Bv n f news N)) d (fun z j=>MC k h g d j) ⟨b.ren (Bv n f news N),by simp[c]⟩;simp only[c,Option.map_some]at this;unfold bZ;rw[nL];have e:(bF (li n id f) news N).filterMap (fun p=>(lk p.1 hp').map fun b=>(p.2,b.ren (bX (bF (li n id f) news N) (N+31))))=(bF (li n id f) news N).filterMap (fun p=>((lk p.1 hp').map fun b=>b.ren (Bv n f news N)).map fun b=>(p.2,b)):=by
  congr 1;funext p;cases lk p.1 hp'<;>rfl
 rw[e,this]
theorem QF(q:∀i,i<n→f i<N){y:Nat}(r:y<N)(l:∀i,i<n→f i≠y):lk y (bZ (li n id f) news N hp' hp)=lk y hp:=by
 have k:∀x,(x,y) ∉ bF (li n id f) news N:=by
  intro x d;rcases cD.1 d with d|d;obtain⟨i,h,e⟩:=dx.1 d;cases e;exact l i h rfl;obtain⟨⟨c,j⟩,s,o⟩:=List.mem_map.1 d;simp only[Prod.mk.injEq]at o;omega
 have:=Fq (F:=fun a=>(lk a hp').map fun b=>b.ren (Bv n f news N)) k;unfold bZ;rw[nL];have e:(bF (li n id f) news N).filterMap (fun p=>(lk p.1 hp').map fun b=>(p.2,b.ren (bX (bF (li n id f) news N) (N+31))))=(bF (li n id f) news N).filterMap (fun p=>((lk p.1 hp').map fun b=>b.ren (Bv n f news N)).map fun b=>(p.2,b)):=by
  congr 1;funext p;cases lk p.1 hp'<;>rfl
 rw[e,this];simp only;rw[sR fun m=>!((li n id f).map (·.2)).contains m,if_pos];simp only[Bool.not_eq_true',List.contains_eq_mem,decide_eq_false_iff_not,List.mem_map,not_exists,not_and];intro p g e;obtain⟨i,h,rfl⟩:=dx.1 g;exact l i h e
end
end Go.Am
namespace Go.Am
section
variable {P:Program}
theorem C7{c:Ctx}{hp d:Hp}{U:Nat→Prop}{σ:Nat→Option Nat}{w:World}(a:∀i b,lk i d=some b→lk i hp=some b)(e:Rel c hp U σ w) :
  Rel c d U σ w∧Step w (bD c w σ hp) σ hp U w (bD c w σ d) σ d U:=by
 have l:Step w (bD c w σ hp) σ hp U w (bD c w σ d) σ d U :=
  ⟨fun b h=>⟨⟨h.1.1,fun id m g q o=>h.1.2 id m g (a _ _ q) o⟩,h.2⟩,fun _ _=>rfl,fun _ h=>h,fun id s _ h=>⟨s,a _ _ h,rfl,rfl,cL _,fun _ g o=>⟨o,fun _ h=>h⟩⟩⟩
 refine⟨⟨fun i j u t g r v=>e.inj i j u t g (a _ _ r) (a _ _ v),fun i b h=>e.lt i b (a _ _ h),fun i b h=>?_,fun i b g h=>e.mine i b g (a _ _ h),e.os,e.tape,e.output,e.size,e.old⟩,l⟩;rcases e.blk i b (a _ _ h)with k|⟨g,p,k2⟩;exact .inl k;exact .inr ⟨g,p,k2.step l rfl⟩
theorem C9{g:FuncId}{args:List AV}{hp:Hp}{N:Nat}{K K':AV→Hp→Prop}(h:fP P g args hp N K')(k:∀r hp',K' r hp'→∃a,(∀i b,lk i a=some b→lk i hp'=some b)∧K r a):fP P g args hp N K:=by
 refine⟨h.1,fun c U σ w s l t m u=>(h.2 c U σ w s l t m u).mono fun e z o=>?_⟩;obtain⟨x,rfl,v,hp',σ',j,k2,k3,k4⟩:=o;obtain⟨a,q,p⟩:=k v hp' j;obtain⟨y,d⟩:=C7 q k2;exact⟨x,rfl,v,a,σ',p,y,k3.trans d,k4.step d⟩
theorem s5{n:Nat}{N:Nat}{hp:Hp}{g:FuncId}{args d:List AV}{K:AV→Hp→Prop}{Q:AV→Hp→Prop}{m:Hp}{b0:Nat→Blk}(f:Nat→Nat)(h:c7 P g n m d Q)(G:∀i b,lk i m=some b→i<n∧b=b0 i)(q:qp n f)(t:∀i,i<n→f i<N)
  (x:∀i,i<n→∃b,lk (f i) hp=some b∧b.e≠0∧b0 i=b.ren (bX (li n f id) n))
  (A:d=AV.renL (bX (li n f id) n) args) (news:List (Nat×Nat)) (u:dp (li n id f) news=true)
  (C:∀r hp',Q r hp'→∀a,(∀i,i<n→∀b,lk i hp'=some b→lk (f i) a=some (b.ren (Bv n f news N)))→(∀c j,(c,j)∈news→∀b,lk c hp'=some b→lk (N+j) a=some (b.ren (Bv n f news N))) →
   (∀y,y<N→(∀i,i<n→f i≠y)→lk y a=lk y hp)→∃hp2,(∀i b,lk i hp2=some b→lk i a=some b)∧K (r.ren (Bv n f news N)) hp2):fP P g args hp N K:=by
 refine(C9 (K':=fun v a=>∃hp2,(∀i b,lk i hp2=some b→lk i a=some b)∧K v hp2) ?_ fun r hp' E=>E);refine pX (li n id f) h (ZB (ie n) q) ?_ ?_ ?_ ?_ ?_;intro p k;obtain⟨i,l,rfl⟩:=dx.1 k;exact l;intro p k;obtain⟨i,l,rfl⟩:=dx.1 k;obtain⟨b,s,w,_⟩:=x i l;exact⟨b,s,w⟩;intro i D l;obtain⟨z,rfl⟩:=G i D l;obtain⟨b,s,w,H⟩:=x i z;exact⟨f i,b,MB f (ie n) z,s,by rw[Hn];exact H⟩;rw[Hn];exact A;intro r hp' B;refine⟨news,u,C r hp' B _ (fun i l b o=>?_) (fun c j F b o=>?_) (fun y J I=>?_)⟩;exact Hr u q t (List.mem_append_left _ (dx.2 ⟨i,l,rfl⟩)) o;exact Hr u q t (List.mem_append_right _ (List.mem_map.2 ⟨(c,j),F,rfl⟩)) o;exact QF t J I
theorem uF{i:Nat}{Q:Hp}:∀{P:Hp},lk i (P++Q)=match lk i P with
  |some b=>some b
  |none=>lk i Q
 |[]=>rfl
 |(j,b)::P=>by
  simp only[List.cons_append,lk];split;rfl;exact uF
theorem MD{n:Nat}{f:Nat→Nat}{c:Nat}(hc:n≤c):dp (li n id f) [(c,0)]=true:=by
 simp only[dp,ii,List.all_cons,List.all_nil,Bool.and_true,Bool.and_eq_true,beq_self_eq_true,true_and,decide_eq_true_eq,d7];refine⟨by decide,fun p hp=>?_⟩;obtain⟨i,a,rfl⟩:=dx.1 hp;simp only[id,bne_iff_ne,ne_eq];omega
def Fv{S:Type}(n:Nat)(b:S→(Nat→Nat)→Nat→Blk)(s:S)(f:Nat→Nat)(hp:Hp):Prop:=∀i,i<n→lk (f i) hp=some (b s f i)
def kg{S:Type}(n:Nat)(b:S→(Nat→Nat)→Nat→Blk)(s:S)(f:Nat→Nat):Hp:=hpL n f (b s f)
def ME{S:Type}(n:Nat)(b:S→(Nat→Nat)→Nat→Blk):Prop:=(∀s f ρ g i,i<n→(∀j,j<n→ρ (f j)=g j)→(b s f i).ren ρ=b s g i)∧∀s f i,i<n→(b s f i).e≠0
def fH{S:Type}(P:Program)(n:Nat)(b:S→(Nat→Nat)→Nat→Blk)(g:FuncId)(s:S)(args:List AV)(R:AV→S→Prop):Prop :=
 c7 P g n (kg n b s id) args fun a hp'=>∃s',R a s'∧Fv n b s' id hp'
theorem MF{S:Type}{n:Nat}{b:S→(Nat→Nat)→Nat→Blk}{s:S}:∀i x,lk i (kg n b s id)=some x→i<n∧x=b s id i:=by
 intro i x h;obtain⟨j,a,e⟩:=oW.1 (bN h);cases e;exact⟨a,rfl⟩
theorem tY{S:Type}{n N:Nat}{b:S→(Nat→Nat)→Nat→Blk}(t:ME n b){f:Nat→Nat}{Pp:Hp}{g:FuncId}{s:S}{args a:List AV}{R:AV→S→Prop}{K:AV→Hp→Prop}(h:fH P n b g s a R)(w:qp n f)(I:∀j,j<n→f j<N)
  (A:∀p,p∈Pp→p.1<N∧∀j,j<n→f j≠p.1) (B:a=AV.renL (bX (li n f id) n) args) (D:∀v o ρ,R v o→(∀j,j<n→ρ j=f j)→K (v.ren ρ) (Pp++kg n b o f)):fP P g args (Pp++kg n b s f) N K:=by
 have u:∀j,j<n→bX (li n f id) n (f j)=j:=fun j c=>As id n w c;have q:dp (li n id f) []=true:=rfl;have z:Fv n b s f (Pp++kg n b s f):=fun j c=>by
  rw[uF];cases l:lk (f j) Pp with
  |none=>exact Fp _ w c
  |some x=>exact absurd rfl ((A _ (bN l)).2 j c)
 refine s5 (n:=n) (b0:=b s id) f h (fun i x d=>MF i x d) w I (fun j c=>⟨_,z j c,t.2 _ _ _ c,(t.1 s f _ id j c u).symm⟩) B [] q ?_;rintro r hp'⟨o,J,y⟩F G L E;have m:∀j,j<n→Bv n f [] N (id j)=f j:=fun j c=>Ft q c;refine⟨_,fun i x d=>?_,D _ o _ J m⟩;rw[uF]at d;cases l:lk i Pp with
 |some x' =>
  rw[l]at d;cases d;obtain⟨H,C⟩:=A _ (bN l);rw[E i H C,uF,l]
 |none =>
  rw[l]at d;obtain⟨j,k,e⟩:=oW.1 (bN d);cases e;have:=G j k _ (y j k);rw[t.1 o id _ f j k m]at this;exact this
theorem uG{S:Type}{n N:Nat}{b:S→(Nat→Nat)→Nat→Blk}(e:ME n b){f:Nat→Nat}{Pp:Hp}{g:FuncId}{s:S}{args a:List AV}{R:AV→S→Prop}{K:AV→Hp→Prop}(h:fH P n b g s a R)(i:qp n f)(l:∀j,j<n→f j<N)
  (k:∀p,p∈Pp→p.1<N∧∀j,j<n→f j≠p.1) (c:a=AV.renL (bX (li n f id) n) args) (d:∀v s' ρ,R v s'→(∀j,j<n→ρ j=f j)→K (v.ren ρ) (Pp++kg n b s' f)):uh P g args (Pp++kg n b s f) N K:=.inl (tY e h i l k c d)
end
end Go.Am
namespace Go.Sha
inductive Jk where
 |n
 |a
 |i (x:List Nat)
end Go.Sha
namespace Go.Proofs.YtmfnimjnneflnaaGreat
open Go.Am Go.Sha
def avJ:Jk→AV
 | .n=>.nil
 | .a=>.any
 | .i x=>.d (nb x)
def Au(x:bL):List AV:=[.d (nb x)]
def jkR(j:Jk):List AV:=[avJ j]
def iH(l:List bL)(J:List Jk):List (List AV):=l.map Au++J.map jkR
theorem uH(l:List bL)(J:List Jk):(iH l J).length=l.length+J.length:=by simp[iH]
theorem oY(ρ:Nat→Nat)(l:List bL)(J:List Jk):aS ρ (iH l J)=iH l J:=by
 simp only[aS,iH,List.map_append,List.map_map];congr 1;refine List.map_congr_left fun j _=>?_;cases j<;>rfl
theorem uI(n:Nat)(l:List bL)(J:List Jk):∀r,r∈iH l J→∀v,v∈r→v.low1 n:=by
 intro r b v a;rcases cD.1 b with h|h;obtain⟨x,_,rfl⟩:=List.mem_map.1 h;simp only[Au,d_,List.mem_nil_iff,or_false]at a;subst a;trivial;obtain⟨x,_,rfl⟩:=List.mem_map.1 h;simp only[jkR,d_,List.mem_nil_iff,or_false]at a;subst a;cases x<;>trivial
theorem VW{l:List bL}{J:List Jk}{k:Nat}{x:bL}(h:l[k]?=some x):(iH l J)[k]?=some [.d (nb x)]:=by
 unfold iH;rw[List.getElem?_append_left (by have:=(ci.1 h).1;simpa using this),cU,h];rfl
theorem wE{l:List bL}{J:List Jk}{k:Nat}(h:k≤l.length):(iH l J).take k=(l.take k).map Au:=by
 unfold iH;rw[List.take_append_of_le_length (by simpa using h),List.map_take]
theorem QG{l:List bL}{j:Jk}{J:List Jk}(x:bL):(l.map Au)++Au x::(iH l (j::J)).drop (l.length+1)=iH (l++[x]) J:=by
 unfold iH;rw[List.drop_append,List.length_map,List.drop_of_length_le aw,Nat.add_sub_cancel_left];simp
theorem QH{l:List bL}(x:bL):(l.map Au)++[Au x]=iH (l++[x]) []:=by simp[iH]
structure McS where
 m:Mc
 J:List Jk
 H:List Jk
def nD:McS→(Nat→Nat)→Nat→Blk
 |⟨m,J,H⟩,f,0=>⟨283,3,[[.own (f 1) 0 m.main.length (m.main.length+J.length),.own (f 2) 0 m.alt.length (m.alt.length+H.length),.d (.int .i64 m.e)]]⟩
 |⟨m,J,H⟩,f,1=>⟨31,1,iH m.main J⟩
 |⟨m,J,H⟩,f,_=>⟨31,1,iH m.alt H⟩
theorem Av:ME 3 nD:=by
 refine⟨fun s f ρ g i a h=>?_,fun s f i a=>?_⟩
 ·obtain⟨m,J,H⟩:=s
  match i with
  |0=>simp[nD,Blk.ren,aS,AV.renL,AV.ren,h 1 aq,h 2 aq]
  |1=>simp only[nD,Blk.ren,oY]
  |i+2=>simp only[nD,Blk.ren,oY]
 ·obtain⟨m,J,H⟩:=s
  match i with
  |0=>exact Nat.succ_ne_zero 2
  |1=>exact Nat.succ_ne_zero 0
  |i+2=>exact Nat.succ_ne_zero 0
theorem Eu(s:McS)(f:Nat→Nat):kg 3 nD s f=[(f 0,nD s f 0),(f 1,nD s f 1),(f 2,nD s f 2)]:=rfl
theorem nY{m:Mc}{J H:List Jk}{hp:Hp}(g:lk 0 hp=some ⟨283,3,[[.own 1 0 m.main.length (m.main.length+J.length),.own 2 0 m.alt.length (m.alt.length+H.length),.d (.int .i64 m.e)]]⟩)
  (a:lk 1 hp=some ⟨31,1,iH m.main J⟩) (c:lk 2 hp=some ⟨31,1,iH m.alt H⟩):Fv 3 nD ⟨m,J,H⟩ id hp:=by
 intro i b
 match i,b with
 |0,_=>exact g
 |1,_=>exact a
 |2,_=>exact c
theorem VX{N:Nat}{Pp:Hp}{g:FuncId}{s:McS}{a:List AV}{R:AV→McS→Prop}{K:AV→Hp→Prop}(h:fH Tryz.prog 3 nD g s (.ptr 0 0 0 1::a) R)(i:3≤N)(c:∀p,p∈Pp→p.1<N∧3≤p.1)(b:∀ ρ,AV.renL ρ a=a)
  (d:∀v s' ρ,R v s'→(∀j,j<3→ρ j=j)→K (v.ren ρ) (Pp++kg 3 nD s' id)):uh Tryz.prog g (.ptr 0 0 0 1::a) (Pp++kg 3 nD s id) N K:=by
 refine uG Av h (ie 3) (fun j e=>by show j<N;omega) (fun p hp=>⟨(c p hp).1,fun j e=>by have:=(c p hp).2;show j≠p.1;omega⟩) ?_ d;rw[AV.renL,b,AV.ren];rfl
theorem wF{α β:Type}{f:α→β}{l:List α}{k:Nat}{x:α}(h:l[k]?=some x):(l.take k).map f++[f x]=(l.take (k+1)).map f:=by
 rw[List.take_add_one,h];simp
theorem ZC{m:Mc}{J H:List Jk}{hp:Hp}{nx N:Nat}(h:lk 0 hp=some ⟨283,3,[[.own 1 0 m.main.length (m.main.length+J.length),.own 2 0 m.alt.length (m.alt.length+H.length),.d (.int .i64 m.e)]]⟩)
  (c:lk 1 hp=some ⟨31,1,iH m.main J⟩) (g:lk 2 hp=some ⟨31,1,iH m.alt H⟩) (i:3≤N) (j:True) :
  ∀p,p∈[(0,(⟨283,3,[[.own 1 0 m.main.length (m.main.length+J.length),.own 2 0 m.alt.length (m.alt.length+H.length),.d (.int .i64 m.e)]]⟩:Blk)),(1,⟨31,1,iH m.main J⟩),(2,⟨31,1,iH m.alt H⟩)] →
   (lk p.1 hp=some p.2∨(nx≤p.1∧p.2.es=[]))∧p.1<N∧∀r,r∈p.2.es→∀v,v∈r→v.low1 N:=by
 intro p hp';simp only[d_,List.mem_nil_iff,or_false]at hp';rcases hp' with rfl|rfl|rfl;refine⟨.inl h,by show 0<N;omega,?_⟩;intro r b v a;simp only[d_,List.mem_nil_iff,or_false]at b;subst b;simp only[d_,List.mem_nil_iff,or_false]at a;rcases a with rfl|rfl|rfl;show 1<N;omega;show 2<N;omega;trivial;exact⟨.inl c,by show 1<N;omega,uI _ _ _⟩;exact⟨.inl g,by show 2<N;omega,uI _ _ _⟩
theorem VY(m:Mc)(J H:List Jk)(x:Int):fH Tryz.prog 3 nD 257 ⟨m,J,H⟩ [.ptr 0 0 0 1,.d (.int .i64 x)] (fun v a=>a=⟨qo x m,J,H⟩):=by
 refine aB Tryz.func257 (by kernel_rfl) rfl Tryz.ntmps257 (rs:=[]) rfl (fD rfl) (by decide) ?_;rw[Eu];simp only[nD,id];by_cases h:m.e=0
 ·simp[go_sem,h,ai];refine nY ?_ ?_ ?_
  simp[qo,h,lk];simp[qo,h,lk];simp[qo,h,lk]
 ·simp[go_sem,h,ai];refine nY ?_ ?_ ?_
  simp[qo,h,lk];simp[qo,h,lk];simp[qo,h,lk]
theorem QI(m:Mc)(J H:List Jk)(n:Nat):fH Tryz.prog 3 nD 248 ⟨m,J,H⟩ [.ptr 0 0 0 1,.d (.int .i64 (n:Int))] (fun v c=>v=.d (.bool (decide ((ed n m).e=0)))∧c=⟨ed n m,J,H⟩):=by
 refine aB Tryz.func248 (by kernel_rfl) rfl Tryz.ntmps248 (rs:=[.tmp 4]) rfl (fD rfl) (by decide) ?_;rw[Eu];simp only[nD,id];by_cases h:m.main.length<n
 ·have a:(m.main.length:Int)<(n:Int):=aq;simp[go_sem,h,a];refine VX (Pp:=[]) (s:=⟨m,J,H⟩) (VY m J H 12) aq aw (by simp[AV.renL,AV.ren]) ?_;rintro v c ρ rfl g;rw[Eu];have b:ed n m=qo 12 m:=if_pos h;rw[b];generalize qo 12 m=m' at *;simp[go_sem,nD,ai];refine nY ?_ ?_ ?_<;>rfl
 ·have a:¬(m.main.length:Int)<(n:Int):=aq;have b:ed n m=m:=if_neg h;rw[b];simp[go_sem,h,a,ai];refine nY ?_ ?_ ?_<;>rfl
theorem ZD(m:Mc)(J H:List Jk)(n:Nat)(x:bL)(j:m.main[m.main.length-1-n]?=some x)(p:n<m.main.length)(q:m.main.length≤1000000):fH Tryz.prog 3 nD 249 ⟨m,J,H⟩ [.ptr 0 0 0 1,.d (.int .i64 (n:Int))] (fun v l=>v=.d (nb x)∧l=⟨m,J,H⟩):=by
 refine aB Tryz.func249 (by kernel_rfl) rfl Tryz.ntmps249 (rs:=[.tmp 4]) rfl (fD rfl) (by decide) ?_;rw[Eu];simp only[nD,id];have i:IntKind.i64.wrap ((m.main.length:Int)-1)=((m.main.length-1:Nat):Int):=by rw[IntWalk.i64_in _ aq];omega
 have o:IntKind.i64.wrap (((m.main.length-1:Nat):Int)-(n:Int))=((m.main.length-1-n:Nat):Int):=by rw[IntWalk.i64_in _ aq];omega
 have h:=VW (J:=J) j;have c:m.main.length-1-n<m.main.length:=aq;have a:((m.main.length-1-n:Nat):Int)<(m.main.length:Int):=aq;have b:∀g:m.main.length-1-n<(iH m.main J).length,(iH m.main J)[m.main.length-1-n]=[.d (nb x)]:=fun g=>Option.some.inj ((cm g).symm.trans h);generalize m.main.length-1-n=k at *;simp[go_sem];refine cG [0,1,2,3,4,5,6,7,8,9,10,11,12,13,14] [] 0 (k:=15) ?_;intro G e;simp[go_sem,i,o,h,c,a,b,uH];refine e _ _ ?_;clear e G;simp[go_sem,ai];refine nY ?_ ?_ ?_<;>rfl
theorem MG{n:Nat}{m:Mc}(h:(ed n m).e=0):n≤m.main.length∧m.e=0∧ed n m=m:=by
 unfold ed at h⊢;split at h;unfold qo at h;split at h;simp at h;rename_i a;exact absurd h a;rename_i a;exact⟨aq,h,if_neg a⟩
theorem QJ{l:List bL}(h:1≤l.length):l[l.length-1]?=some (l.getLastD []):=by
 rw[List.getLastD_eq_getLast?,List.getLast?_eq_getElem?];cases a:l[l.length-1]? with
 |none=>rw[List.getElem?_eq_none_iff]at a;omega
 |some x=>rfl
theorem VZ(m:Mc)(J H:List Jk)(x:bL)(b:m.main[m.main.length-1]?=some x)(h:1≤m.main.length)(c:m.main.length≤1000000):fH Tryz.prog 3 nD 249 ⟨m,J,H⟩ [.ptr 0 0 0 1,.d (.int .i64 0)] (fun v a=>v=.d (nb x)∧a=⟨m,J,H⟩) :=
 ZD m J H 0 _ b aq c
theorem QK{l:List bL}{x:bL}(h:l[l.length-1]?=some x):∃a,l=a++[x]:=by
 rcases b:l.reverse with _|⟨y,r⟩;have:l=[]:=by simpa using b
 subst this;simp at h;have e:l=r.reverse++[y]:=by rw[←List.reverse_reverse l,b,List.reverse_cons]
 subst e;simp at h;subst h;exact⟨_,rfl⟩
theorem ZE(m:Mc)(J H:List Jk)(q:m.main.length≤1000000):fH Tryz.prog 3 nD 243 ⟨m,J,H⟩ [.ptr 0 0 0 1]
  (fun v o=>(v=if(ed 1 m).e=0 then .d (nb (nX m).1)else .nil)∧∃J',o=⟨(nX m).2,J',H⟩):=by
 refine aB Tryz.func243 (by kernel_rfl) rfl Tryz.ntmps243 (rs:=[.tmp 2]) rfl (fD rfl) (by decide) ?_;rw[Eu];simp only[nD,id];simp[go_sem];refine VX (Pp:=[]) (s:=⟨m,J,H⟩) (QI m J H 1) aq aw (by simp[AV.renL,AV.ren]) ?_;rintro v o ρ ⟨rfl,rfl⟩ w;rw[Eu];by_cases h:(ed 1 m).e=0
 ·obtain⟨l,r,u⟩:=MG h;have g:=QJ l;have c:nX m=(m.main.getLastD [],⟨m.main.dropLast,m.alt,m.e⟩):=if_pos h;rw[u]at *;rw[c];obtain⟨b,alt,e⟩:=m;simp only at l r q g;subst r;generalize b.getLastD []=x at *;have t:IntKind.i64.wrap ((b.length:Int)-1)=((b.length-1:Nat):Int):=by rw[IntWalk.i64_in _ aq];omega
  have j:((b.length-1:Nat):Int)≤(b.length:Int):=aq;simp[go_sem,AV.ren,nD];refine VX (Pp:=[]) (s:=⟨⟨b,alt,0⟩,J,H⟩) (VZ ⟨b,alt,0⟩ J H x g l q) aq aw (by simp[AV.renL,AV.ren]) ?_;rintro v o ρ ⟨rfl,rfl⟩ w;rw[Eu];simp[go_sem,AV.ren,nD,nb];refine cG [0,1,2,3,4,5,6,7,8,9,10,11,12,13] [(14,[])] 0 (k:=15) ?_;intro G p;simp[go_sem,t,j];refine p _ _ ?_;clear p G;simp[go_sem,ai];obtain⟨a,rfl⟩:=QK g;refine⟨_,⟨.i x::J,rfl⟩,nY ?_ ?_ ?_⟩
  simp[lk];omega;simp[lk,iH,Au,jkR,avJ];rfl
 ·have c:nX m=([],ed 1 m):=if_neg h;rw[c];generalize ed 1 m=m' at *;simp[go_sem,AV.ren,nD,h,ai];exact⟨_,⟨J,rfl⟩,by refine nY ?_ ?_ ?_<;>rfl⟩
theorem V0 (m:Mc) (J H:List Jk) (x:bL) (p:m.main.length≤1000000) (t:x.length≤1000000):fH Tryz.prog 3 nD 222 ⟨m,J,H⟩ [.ptr 0 0 0 1,.d (.ro 1 [[nb x]])]
    (fun v s=>∃J',s=⟨sZ [x] m,J',H⟩):=by
  refine aB Tryz.func222 (by kernel_rfl) rfl Tryz.ntmps222 (rs:=[]) rfl (fD rfl) (by decide) ?_;obtain⟨a,alt,e⟩:=m;simp only at p;rw[Eu];simp only[nD,id,sZ];simp[go_sem]
  refine au (fun u:Nat×List bL×List Jk=>⟨[(0,.ptr 0 0 0 1),(6,.d (.ro 1 [[nb x]])),(7,.d (.int .i64 1)),(8,.d (.int .i64 (u.1:Int)))],
      [(0,⟨283,3,[[.own 1 0 u.2.1.length (u.2.1.length+u.2.2.length),.own 2 0 alt.length (alt.length+H.length),.d (.int .i64 e)]]⟩),(1,⟨31,1,iH u.2.1 u.2.2⟩),(2,⟨31,1,iH alt H⟩)],9000⟩)
    (fun u=>(u.1=0∧u.2=(a,J))∨(u.1=1∧u.2.1=a++[x])) (fun u=>1-u.1) (0,a,J) (.inl ⟨rfl,rfl⟩) ⟨by simp[ah,fv,lk,AV.low,AV.low1],ZC (m:=⟨a,alt,e⟩) rfl rfl rfl (fD rfl) trivial,aw⟩ ?_
  rintro⟨k,l,K⟩g;rcases g with ⟨rfl,c⟩|⟨g,rfl⟩
  · simp only [Prod.mk.injEq] at c
    obtain⟨rfl,rfl⟩:=c;simp only[go_sem,Nat.reduceEqDiff,Nat.reduceAdd,Nat.reduceLT,↓reduceIte,Nat.reduceMul];simp[go_sem,bP];rcases K with _|⟨j,K⟩
    · simp only [List.length_nil,Nat.add_zero]
      refine cO [1,2,3,4,5] [0,6,7,8,9,10,11] [1,2,3,4,5] (.alt (bt 0 (bt 6 (bt 7 (a_ [8,9,10,11])))) (bt 6 (.alt (bt 0 (bt 7 (a_ [8,9,10,11]))) (bt 7 (.alt (bt 0 (a_ [8,9,10,11])) (a_ [8,0,9,10,11])))))) ⟨[(0,.ptr 0 0 0 1),(6,.d (.ro 1 [[nb x]])),(7,.d (.int .i64 1)),(8,.d (.int .i64 0))],[(0,⟨283,3,[[.own 1 0 (l++[x]).length ((l++[x]).length+([]:List Jk).length),.own 2 0 alt.length (alt.length+H.length),.d (.int .i64 e)]]⟩),(1,⟨31,1,iH (l++[x]) []⟩),(2,⟨31,1,iH alt H⟩)],9000⟩ (k:=12) ?h3 ?hq
      case h3 =>
        intro G h;have hc:=ek x aq;have i:List.take l.length (iH l [])=l.map Au:=wE (cL _) |>.trans (by rw[List.take_length]);have b:(iH l []).length=l.length+([]:List Jk).length:=uH _ _;simp (config := { maxSteps := 3000000 }) [go_sem]
        repeat' apply And.intro
        all_goals
          refine ag hc a9 ?_;simp (config := { maxSteps := 3000000 }) [go_sem,jP,P4,i,b]
          repeat' apply And.intro
          all_goals first
            |omega
            |(intro q;omega)
            | (refine h _ _ (aV ⟨by simp [ah,fv,lk,AV.low,AV.low1],ZC (m:=⟨l ++ [x],alt,e⟩) ?_ ?_ rfl (fD rfl) trivial,aw⟩)
               · simp[lk]<;>omega
               · exact congrArg (fun r=>some (⟨31,1,r⟩:Blk)) (QH x))
      case hq =>
        have o:IntKind.i64.wrap 1=1:=IntWalk.i64_in _ aq;simp[go_sem,o];refine am (1,l++[x],[]) (.inr ⟨rfl,rfl⟩) (by show 1-1<1-0;omega) ⟨by simp[ah,fv,lk,AV.low,AV.low1],ZC (m:=⟨l++[x],alt,e⟩) (by simp[lk]) rfl rfl (fD rfl) trivial,aw⟩
    · simp only [List.length_cons]
      refine cO [1,2,3,4,5] [0,6,7,8,9,10,11] [1,2,3,4,5] (.alt (bt 0 (bt 6 (bt 7 (a_ [8,9,10,11])))) (bt 6 (.alt (bt 0 (bt 7 (a_ [8,9,10,11]))) (bt 7 (.alt (bt 0 (a_ [8,9,10,11])) (a_ [8,0,9,10,11])))))) ⟨[(0,.ptr 0 0 0 1),(6,.d (.ro 1 [[nb x]])),(7,.d (.int .i64 1)),(8,.d (.int .i64 0))],[(0,⟨283,3,[[.own 1 0 (l++[x]).length ((l++[x]).length+(K:List Jk).length),.own 2 0 alt.length (alt.length+H.length),.d (.int .i64 e)]]⟩),(1,⟨31,1,iH (l++[x]) K⟩),(2,⟨31,1,iH alt H⟩)],9000⟩ (k:=12) ?h3 ?hq
      case h3 =>
        intro G h;have hc:=ek x aq;have i:List.take l.length (iH l (j::K))=l.map Au:=wE (cL _) |>.trans (by rw[List.take_length]);have b:(iH l (j::K)).length=l.length+(j::K:List Jk).length:=uH _ _;simp (config := { maxSteps := 3000000 }) [go_sem]
        repeat' apply And.intro
        all_goals
          refine ag hc a9 ?_;simp (config := { maxSteps := 3000000 }) [go_sem,jP,P4,i,b]
          repeat' apply And.intro
          all_goals first
            |omega
            |(intro q;omega)
            | (refine h _ _ (aV ⟨by simp [ah,fv,lk,AV.low,AV.low1],ZC (m:=⟨l ++ [x],alt,e⟩) ?_ ?_ rfl (fD rfl) trivial,aw⟩)
               · simp[lk]<;>omega
               · exact congrArg (fun r=>some (⟨31,1,r⟩:Blk)) (QG x))
      case hq =>
        have o:IntKind.i64.wrap 1=1:=IntWalk.i64_in _ aq;simp[go_sem,o];refine am (1,l++[x],K) (.inr ⟨rfl,rfl⟩) (by show 1-1<1-0;omega) ⟨by simp[ah,fv,lk,AV.low,AV.low1],ZC (m:=⟨l++[x],alt,e⟩) (by simp[lk]) rfl rfl (fD rfl) trivial,aw⟩
  · simp only at g
    subst g;simp[go_sem,ai];exact⟨_,⟨K,rfl⟩,nY (by simp[lk]) rfl rfl⟩
theorem MH(l:List bL)(u:l.length≤1000000)(j:∀x,x∈l→x.length≤1000000):c7 Tryz.prog 241 0 [] [.d (.ro 1 (l.map bP))] (fun r hp'=>r=.own 129 0 l.length l.length∧lk 129 hp'=some ⟨31,1,iH l []⟩):=by
 refine aB Tryz.func241 (by kernel_rfl) rfl Tryz.ntmps241 (rs:=[.tmp 2]) rfl (fD rfl) (by decide) ?_;have i:IntKind.i64.wrap ((l.length:Int)+4)=((l.length+4:Nat):Int):=by rw[IntWalk.i64_in _ aq];omega
 simp[go_sem,i];refine⟨aq,aq,aq,aq,?_⟩
 refine au (fun k:Nat=>⟨[(3,.own 129 0 k k),(10,.d (.ro 1 (l.map bP))),(11,.d (.int .i64 (l.length:Int))),(12,.d (.int .i64 (k:Int)))],[(129,⟨31,1,(l.take k).map Au⟩)],6000⟩)
  (fun k=>k≤l.length) (fun k=>l.length-k) 0 aq (by simp[av,ah,fv,lk,AV.low,AV.low1]) ?_
 intro k t;simp only[go_sem,Nat.reduceEqDiff,Nat.reduceAdd,Nat.reduceLT,↓reduceIte,Nat.reduceMul];refine⟨fun q=>?_,fun q=>?_⟩
 ·obtain⟨y,a,w⟩:=bg (l:=l) (k:=k) aq;have s:=az (k:=k) aq;have e:=wF (f:=Au) a;have c:min k l.length=k:=aq;have o:=j y (cr a);simp[go_sem,a,bP,c];refine ag (ek y aq) a9 ?_;simp[go_sem,s,c];have b:List.take k (l.map Au)++[[.d (nb y)]]=List.take (k+1) (l.map Au):=by rw[←List.map_take,←List.map_take];exact e
  rw[b];refine⟨aq,?_⟩;refine am (k+1) aq aq ?_;refine⟨by simp[ah,fv,lk,AV.low,AV.low1],?_,aw⟩;intro p hp;simp only[d_,List.mem_nil_iff,or_false]at hp;subst hp;refine⟨.inl ?_,by show 129<6000;omega,?_⟩;simp[lk];intro r m v h;obtain⟨z,_,rfl⟩:=List.mem_map.1 (List.mem_of_mem_take m);simp only[Au,d_,List.mem_nil_iff,or_false]at h;subst h;trivial
 ·have g:k=l.length:=aq;subst g;simp[go_sem,ai,iH]
end Go.Proofs.YtmfnimjnneflnaaGreat
namespace Go.Sha
def Da(a b:List Nat):Nat→Int
 |0=>0
 |k+1=>if a.getD k 0<b.getD k 0 then -1 else if b.getD k 0<a.getD k 0 then 1 else Da a b k
def eo(l:List Nat):Nat:=l.foldl (fun a x=>a*256+x) 0
theorem MI(l:List Nat)(x:Nat):eo (l++[x])=eo l*256+x:=by simp[eo]
def part(b:List Nat)(i j:Nat):List Nat:=((b.take i).drop (8*(3-j))).take 8
theorem rP(b:List Nat)(i j k:Nat):(part b i j)[k]?=if k<8∧8*(3-j)+k<i then b[8*(3-j)+k]? else none:=by
 unfold part;rw[List.getElem?_take];by_cases a:k<8;rw[if_pos a,List.getElem?_drop,List.getElem?_take];by_cases c:8*(3-j)+k<i;rw[if_pos c,if_pos ⟨a,c⟩];rw[if_neg c,if_neg (fun h=>c h.2)];rw[if_neg a,if_neg (fun h=>a h.1)]
theorem wG{b:List Nat}(a:b.length=32){i j:Nat}(hi:i≤32)(hj:j≤3):(part b i j).length=min 8 (i-8*(3-j)):=by
 unfold part;rw[List.length_take,et,List.length_take,a];omega
theorem I3{b:List Nat}{i j:Nat}(hi:i<32)(hj:j≤3)(h:j≠3-i/8):part b (i+1) j=part b i j:=by
 refine List.ext_getElem? fun k=>?_;rw[rP,rP];by_cases a:k<8∧8*(3-j)+k<i;rw[if_pos a,if_pos ⟨a.1,aq⟩];rw[if_neg a];by_cases c:k<8∧8*(3-j)+k<i+1;omega;rw[if_neg c]
theorem I4{b:List Nat}(d:b.length=32){i c:Nat}(hc:b[i]?=some c):part b (i+1) (3-i/8)=part b i (3-i/8)++[c]:=by
 have h:i<32:=by have:=(ci.1 hc).1;omega
 have g:(part b i (3-i/8)).length=i%8:=by rw[wG d aq aq];omega
 refine List.ext_getElem? fun k=>?_;rw[List.getElem?_append,g,rP,rP];by_cases a:k<i%8;rw[if_pos a,if_pos ⟨aq,aq⟩,if_pos ⟨aq,aq⟩];rw[if_neg a];by_cases e:k=i%8;subst e;rw[if_pos ⟨aq,aq⟩,show 8*(3-(3-i/8))+i%8=i by omega,hc];simp;rw[if_neg aq];rw[List.getElem?_eq_none (by simp;omega)]
theorem I5(b:List Nat)(j:Nat):part b 0 j=[]:=by simp[part]
def Bw(b:List Nat)(i:Nat):List Nat:=(List.range 4).map fun j=>eo (part b i j)*256 ^ (8-(part b i j).length)
def xR(b:List Nat)(i:Nat):List Nat:=(List.range 4).map fun j=>eo (part b i j)
theorem QL{b:List Nat}(a:b.length=32):Bw b 32=xR b 32:=by
 unfold Bw xR;refine List.map_congr_left fun j c=>?_;rw[List.mem_range]at c;rw[wG a aq aq,show 8-min 8 (32-8*(3-j))=0 by omega];simp
theorem Db(b:List Nat):Bw b 0=[0,0,0,0]:=by simp[Bw,I5,eo,List.range,List.range.loop]
theorem Fz:∀(l:List Nat),(∀x,x∈l→x<256)→eo l<256 ^ l.length:=by
 intro l;have b:∀(l:List Nat)(a n:Nat),(∀x,x∈l→x<256)→a<256 ^ n→l.foldl (fun a x=>a*256+x) a<256 ^ (n+l.length):=by
  intro l
  induction l with
  |nil=>intro a n _ h;simpa using h
  |cons x l ih =>
   intro a n c h;have e:=c x aw;rw[List.foldl_cons,List.length_cons,show n+(l.length+1)=(n+1)+l.length by omega];exact ih _ (n+1) (fun y d=>c y (by simp[d])) (by rw[Nat.pow_succ];omega)
 intro h;have:=b l 0 0 h aw;simpa[eo]using this
theorem QM(a b:Nat)(c:a<18446744073709551616)(d:b<18446744073709551616):Go.bits .or .u64 (a:Int) (b:Int)=((a ||| b:Nat):Int):=by
 show IntKind.u64.wrap (((BitVec.ofInt 64 (a:Int)) ||| (BitVec.ofInt 64 (b:Int))).toNat:Int)=_;rw[BitVec.toNat_or,fB,fB,←Nat.or_mod_two_pow,ij];have:a ||| b<2 ^ 64:=Nat.or_lt_two_pow aq aq;omega
theorem MJ{b:List Nat}(u:b.length=32)(g:∀x,x∈b→x<256){i c:Nat}(hc:b[i]?=some c) :
  ∃a,(Bw b i)[3-i/8]?=some a∧a<18446744073709551616∧c*2 ^ (8*((31-i)%8))<18446744073709551616∧(Bw b i).set (3-i/8) (a ||| c*2 ^ (8*((31-i)%8)))=Bw b (i+1):=by
 have y:i<32:=by have:=(ci.1 hc).1;omega
 have l:c<256:=g c (cr hc);have m:(part b i (3-i/8)).length=i%8:=by rw[wG u aq aq];omega
 have k:=I4 u hc;have e:=Fz (part b i (3-i/8)) (fun x w=>g x (List.mem_of_mem_take (List.mem_of_mem_drop (List.mem_of_mem_take w))));rw[m]at e;have s:(31-i)%8=7-i%8:=aq;have d:∀n,(256:Nat) ^ n=2 ^ (8*n):=fun n=>by rw[Nat.pow_mul]
 generalize t:eo (part b i (3-i/8))=A at e;have E:i%8<8:=aq;generalize D:i%8=r at *;have q:(256:Nat) ^ (8-r)=256*256 ^ (7-r):=by rw[show 8-r=(7-r)+1 by omega,Nat.pow_succ,Nat.mul_comm]
 have B:(256:Nat) ^ r*256 ^ (8-r)=18446744073709551616:=by rw[←Nat.pow_add,show r+(8-r)=8 by omega]
 have o:c*2 ^ (8*(7-r))<2 ^ (8*(8-r)):=by
  rw[←d,←d,q];exact Nat.mul_lt_mul_of_pos_right l (Nat.pow_pos aq)
 have z:(2:Nat) ^ (8*(8-r))≤18446744073709551616:=by
  rw[←d]
  calc (256:Nat) ^ (8-r)≤256 ^ 8:=Nat.pow_le_pow_right aq aq
   _=18446744073709551616:=by decide
 have h:A*256 ^ (8-r)<18446744073709551616:=by
  rw[←B];exact Nat.mul_lt_mul_of_pos_right e (Nat.pow_pos aq)
 refine⟨A*256 ^ (8-r),?_,h,by rw[s];omega,?_⟩;unfold Bw;rw[cU,List.getElem?_range aq];simp[t,m];rw[s];refine List.ext_getElem? fun j=>?_;rw[List.getElem?_set];have p:(Bw b i).length=4:=by simp[Bw]
 by_cases v:3-i/8=j;subst v;rw[if_pos rfl,if_pos aq];unfold Bw;rw[cU,List.getElem?_range aq,Option.map_some,k,MI,b_,m,t];congr 1;have:=Nat.two_pow_add_eq_or_of_lt o A;rw[←d,Nat.mul_comm]at this;rw[←this,List.length_singleton,show 8-(r+1)=7-r by omega,q,←d,Nat.add_mul,Nat.mul_assoc];rw[if_neg v];unfold Bw;rw[cU,cU];by_cases C:j<4;rw[List.getElem?_range C,Option.map_some,Option.map_some,I3 y aq aq];rw[List.getElem?_eq_none (by simp;omega)];rfl
end Go.Sha
namespace Go.Proofs.YtmfnimjnneflnaaGreat
open Go.Am Go.Sha
def cW(l:List Nat):List AV:=l.map fun(x:Nat)=>AV.d (.int .u64 (x:Int))
theorem qq(l:List Nat):(cW l).length=l.length:=by simp[cW]
theorem FA(l:List Nat)(i:Nat):(cW l)[i]?=(l[i]?).map fun(x:Nat)=>AV.d (.int .u64 (x:Int)):=by simp[cW]
theorem V1(l:List Nat)(i x:Nat):(cW l).set i (.d (.int .u64 (x:Int)))=cW (l.set i x):=by simp[cW,List.map_set]
theorem Ht(l:List Nat):(AV.agg (cW l)).deep:=by
 intro c hc;simp only[cW,List.mem_map]at hc;obtain⟨x,_,rfl⟩:=hc;trivial
theorem qu(n:Nat)(l:List Nat):∀v,v∈cW l→v.low1 n:=by
 intro c hc;simp only[cW,List.mem_map]at hc;obtain⟨x,_,rfl⟩:=hc;trivial
def iI:List Int:=(List.range 256).map fun y=>if y=0 then 0 else((Nat.log2 y+1:Nat):Int)
theorem iE{L:List Int}(c:L=iI){y:Nat}{b:Int}(h:L[y]?=some b):∃n:Nat,b=(n:Int)∧(if y=0 then n=0 else 1≤n∧n≤8):=by
 subst c;unfold iI at h;rw[cU]at h;by_cases d:y<256;rw[List.getElem?_range d,Option.map_some,Option.some.injEq]at h;by_cases a:y=0;rw[if_pos a]at h;exact⟨0,h.symm,by rw[if_pos a]⟩;rw[if_neg a]at h;refine⟨_,h.symm,?_⟩;rw[if_neg a];have:=Nat.log2_lt (n:=y) (k:=8) a;omega;rw[List.getElem?_eq_none (by simp;omega)]at h;cases h
theorem iF{L:List Int}(a:L=iI){y:Nat}(b:y<256)(h:L[y]?=none):False:=by
 subst a;unfold iI at h;rw[cU,List.getElem?_range b]at h;cases h
def QN:Nat→Int
 |0=>-1
 |k+1=>k
theorem TW:QN 0=-1:=rfl
theorem MK(k:Nat):QN (k+1)=(k:Int):=rfl
theorem ML(k:Nat)(h:k<1000):IntKind.i64.wrap ((k:Int)-1)=QN k:=by
 cases k with
 |zero=>rfl
 |succ k=>rw[IntWalk.i64_in _ aq];show((k+1:Nat):Int)-1=(k:Int);omega
theorem V2(a b:List Nat)(m:a.length=4)(o:b.length=4):ap Tryz.prog 206 [.agg (cW a),.agg (cW b)] (fun r=>r=.d (.int .i64 (Da a b 4))):=by
 refine bz Tryz.func206 Tryz.ntmps206 (rs:=[.tmp 4]) (by intro v p;simp at p;rcases p with rfl|rfl<;>exact Ht _) ?_;generalize s:Da a b 4=F;simp[go_sem]
 refine au (fun k:Nat=>⟨[(2,.ptr 0 0 0 1),(3,.ptr 32 0 0 1),(5,.d (.int .i64 (QN k)))],[(32,⟨96,4,[cW b]⟩),(0,⟨96,4,[cW a]⟩)],500⟩)
  (fun k=>k≤4∧Da a b k=F) (fun k=>k) 4 ⟨aq,s⟩ (by
   simp[av,ah,fv,lk,AV.low,AV.low1,qq,m,o,QN]
   exact⟨qu _ _,qu _ _⟩) ?_
 rintro k⟨w,c⟩;cases k with
 |zero =>
  simp only[Da]at c;subst c;simp[go_sem,TW,ai];exact ae a9 rfl
 | succ k =>
  obtain⟨x,h,_⟩:=bg (l:=a) (k:=k) aq;obtain⟨y,j,_⟩:=bg (l:=b) (k:=k) aq;have u:a.getD k 0=x:=by rw[cR,h];rfl
  have q:b.getD k 0=y:=by rw[cR,j];rfl
  simp only[Da,u,q]at c;have t:=ML k aq;simp[go_sem,MK];refine cG [0,1,2,3,4,5,6,7] [] 0 (k:=8) ?_;intro G i;simp[go_sem,FA,h,j];refine⟨aq,i _ _ ?_⟩;by_cases e:x<y
  ·rw[if_pos e]at c;subst c;simp[go_sem,e,ai];exact ae a9 rfl
  ·rw[if_neg e]at c;simp[go_sem,e];refine cG [0,1,2,3,4,5,6,7] [] 0 (k:=8) ?_;intro G i;simp[go_sem,FA,h,j];refine⟨aq,i _ _ ?_⟩;by_cases g:y<x
   ·rw[if_pos g]at c;subst c;simp[go_sem,g,ai];exact ae a9 rfl
   ·rw[if_neg g]at c;simp[go_sem,g,t];refine am k ⟨aq,c⟩ aq ?_;simp[av,ah,fv,lk,AV.low,AV.low1,qq,m,o];exact⟨qu _ _,qu _ _⟩
theorem Aw(b:List Nat)(i:Nat):(Bw b i).length=4:=by simp[Bw]
theorem QO(b:List Nat)(u:b.length=32)(p:∀x,x∈b→x<256):ap Tryz.prog 164 [.agg (cb b)] (fun r=>r=.agg (cW (xR b 32))):=by
 refine bz Tryz.func164 Tryz.ntmps164 (rs:=[.cell 2 96]) (by intro v F;simp at F;subst F;exact dc _) ?_;rw[←QL u];have B:(cb b).length=32:=by rw[aj];exact u
 have C:(cb b).take 32=cb b:=cx aq;have V:[AV.d (DV.int .u64 0),AV.d (DV.int .u64 0),AV.d (DV.int .u64 0),AV.d (DV.int .u64 0)]=cW (Bw b 0):=by rw[Db];rfl
 simp[go_sem,B,C]
 refine au (fun i:Nat=>⟨[(2,.ptr 32 0 0 1),(3,.ptr 64 0 0 1),(7,.agg (cb b)),(8,.d (.int .i64 (i:Int)))],[(32,⟨96,4,[cW [0,0,0,0]]⟩),(64,⟨96,4,[cW (Bw b i)]⟩)],500⟩)
  (fun i=>i≤32) (fun i=>32-i) 0 aq (by
   simp[av,ah,fv,lk,AV.low,AV.low1,qq,Db]
   exact⟨aE _ _,rfl,qu _ _⟩) ?_
 intro i U;simp only[go_sem,Nat.reduceEqDiff,Nat.reduceAdd,Nat.reduceLT,↓reduceIte,Nat.reduceMul];refine⟨fun h=>?_,fun h=>?_⟩
 ·obtain⟨c,hc,_⟩:=bg (l:=b) (k:=i) aq;obtain⟨w,g,A,e,a⟩:=MJ u p hc;have E:IntKind.i64.wrap (31-(i:Int))=((31-i:Nat):Int):=by rw[IntWalk.i64_in _ aq];omega
  have S:=az (k:=i) aq;have K:=p c (cr hc);obtain⟨m,O⟩:∃m,m=31-i:=⟨_,rfl⟩;rw[←O]at E e a;have T:m/8=3-i/8:=aq;rw[←T]at g a;have Q:IntKind.i64.wrap ((m:Int)/8)=((m/8:Nat):Int):=by rw[IntWalk.i64_in _ aq];omega
  have H:IntKind.i64.wrap (8*Int.tmod (m:Int) 8)=((8*(m%8):Nat):Int):=by rw[show Int.tmod (m:Int) 8=((m%8:Nat):Int)from rfl,IntWalk.i64_in _ aq];omega
  have I:IntKind.u64.wrap (c:Int)=(c:Int):=by rw[ij];omega
  have t:m/8<4:=aq;have D:8*(m%8)≤64:=aq;generalize m/8=j at *;generalize 8*(m%8)=s at *;have L:min s 64=s:=aq;have R:IntKind.u64.wrap ((c:Int)*2 ^ s)=((c*2 ^ s:Nat):Int):=by
   rw[ij,show(2:Int) ^ s=((2 ^ s:Nat):Int)by rw[Int.natCast_pow];rfl,←Int.natCast_mul];omega
  have J:=QM w (c*2 ^ s) A e;generalize c*2 ^ s=y at *;generalize w ||| y=z at *;simp[go_sem,EZ,hc,E];refine⟨aq,?_⟩;refine cG [0,1,2,3,4,5,6,7,8,9,10,11] [(12,[])] 0 (k:=13) ?_;intro G M;simp[go_sem,Q,H,I,FA,g,L,R,J,IntKind.bits,qq,Aw,V1,a];refine⟨aq,t,M _ _ ?_⟩;simp[go_sem,S];refine am (i+1) aq aq ?_;simp[av,ah,fv,lk,AV.low,AV.low1,qq];exact⟨aE _ _,qu _ _,qu _ _⟩
 ·have q:i=32:=aq;subst q;have o:(cW (Bw b 32)).take 4=cW (Bw b 32):=cx (by rw[qq,Aw];omega);simp[go_sem,ai,qq,Aw,o];exact ae (Ht _) rfl
end Go.Proofs.YtmfnimjnneflnaaGreat
