/-
 Part 7.
-/
import Derived.Test.YtmfnimjnneflnaaGreatN5
set_option linter.unusedVariables false
set_option linter.unusedSimpArgs false
set_option maxRecDepth 100000
set_option maxHeartbeats 16000000
open Go.Proofs.Tryz
namespace Go.Proofs.YtmfnimjnneflnaaGreat
def nU(x:List Nat):List DV:=[nb x]
def MH(inner:List Nat)(xs:List (List Nat)):List (List AV):=xs.map fun x=>au inner .nil (.d (nb x))
theorem Aq{α:Type}{l:List α}{k:Nat}{x:α}(h:l[k]?=some x):l.take (k+1)=l.take k++[x]:=by
 rw[List.take_add_one,h];rfl
theorem K3{fr:Fr}{inner:List Nat}(xs:List (List Nat))(k:xs.length≤8):Wk ⟨fr,(10000,⟨33,34,MH inner xs⟩)::kQ 20000 8 (fun _=>[]),30000⟩ ⟨fr,(10000,⟨33,34,mi inner kR (fun _=>[]) xs⟩)::kQ 20000 8 (fun _=>[]),30000⟩:=by
 refine Oz (st:=⟨fr,(10000,⟨33,34,MH inner xs⟩)::kQ 20000 8 (fun _=>[]),30000⟩) (L:=10000) (b:=⟨33,34,MH inner xs⟩) (es':=mi inner kR (fun _=>[]) xs) rfl aw (by simp[mi,MH]) ?_;intro i x p g d;simp only[MH,cU,Option.map_eq_some_iff]at g;obtain⟨y,e,rfl⟩:=g;rw[BG e]at d;simp only[Option.some.injEq]at d;subst d;refine⟨by simp[au],fun j v l c a=>?_⟩;unfold au at c a;by_cases h:j<(cb inner).length;rw[List.getElem?_append_left h]at c a;rw[c]at a;exact .inl (Option.some.inj a).symm
 ·rw[dn aq]at c a;have o:=(ci.1 e).1
  match hj2:j-(cb inner).length,c,a with
  |0,c,a =>
   simp only[List.getElem?_cons_zero,Option.some.injEq]at c a;subst c a;exact .inr ⟨rfl,kR i,by unfold kR;show 20000+i<30000;omega,rfl⟩
  |1,c,a =>
   simp only[List.getElem?_cons_succ,List.getElem?_cons_zero,Option.some.injEq]at c a;subst c a;exact .inl rfl
  |m+2,c,a=>simp at c
theorem wC{inner:List Nat}{xs:List (List Nat)}{f:jB}{hp:Hp}{nx N:Nat}(e:20008≤N)(d:xs.length≤8)(c:lk 10000 hp=some ⟨33,34,mi inner kR f xs⟩)(b:∀j,j<8→lk (kR j) hp=some (pB (f j))) :
  ∀p,p∈(10000,(⟨33,34,mi inner kR f xs⟩:Blk))::kQ 20000 8 f→(lk p.1 hp=some p.2∨(nx≤p.1∧p.2.es=[]))∧p.1<N∧∀r,r∈p.2.es→∀v,v∈r→v.l N:=by
 intro p hp';rcases d_.1 hp' with rfl|hp';exact⟨.inl c,by show 10000<N;omega,IW (fun j a=>by show 20000+j<N;omega)⟩
 obtain⟨j,a,rfl⟩:=j9 8 20000 f p hp';exact⟨.inl (b j a),by show 20000+j<N;omega,GX _ _⟩
def Wb(f:jB):Prop:=∀j p,p∈f j→p.length=32
theorem wE{first k:Nat}{h:List Nat}{f:jB}(a:Wb f)(b:h.length=32):Wb (cM first k h f):=by
 intro j p hp;unfold cM at hp;split at hp;rcases cD.1 hp with q|q;exact a j p q;simp at q;subst q;exact b;exact a j p hp
theorem G2:∀{q:Row},q.length≤1→dW q=q
 |[],_=>rfl
 |[a],_=>rfl
 |a::b::r,h=>by simp at h
theorem EA:∀{q:Row}{s:Nat}{g:jB},q.length≤1→gJ s q g=g
 |[],_,_,_=>rfl
 |[a],_,_,_=>rfl
 |a::b::r,_,_,h=>by simp at h
def fJ(inner:List Nat)(xs:List (List Nat))(E:Lf→Int):AV :=
 if xs.length=0∨8<xs.length∨sT E (nn (bS xs) xs)=true then .tup [.nil,.d (.int .i64 1)]else .tup [.d (.ro 34 ((nn (bS xs) xs).map (eP inner))),.d (.int .i64 0)]
theorem EB (inner:List Nat) (xs:List (List Nat)) (hi:inner.length=32) (hx:∀ x,x ∈ xs→x.length≤100000)
    (aE:∀b:List Nat,b.length≤100000000000→fm prog 52 [.d (nb b)] (.d (nb b))) (O:Lf→List Nat) (E:Lf→Int)
    (I:∀l,l∈nn (bS xs) xs→fm prog 46 [.agg (au inner (.d (cz l.1)) (.d (nb l.2)))] (.tup [.d (nb (O l)),.d (.int .i64 (E l))])) :
    fm prog 70 [.agg (cb inner),.d (.ro 1 (xs.map nU))] (fJ inner xs E):=by
  refine bL func70 ntmps70 (rs:=[.tmp 4,.tmp 5]) (by
    intro v hv;simp at hv;rcases hv with rfl|rfl
    · exact bp _
    · trivial) ?_
  by_cases Z:xs.length=0
  · have hV:fJ inner xs E=.tup [.nil,.d (.int .i64 1)]:=by unfold fJ;rw [if_pos (.inl Z)]
    rw[hV];have af:xs=[]:=List.eq_nil_of_length_eq_zero Z;subst af;simp[go_sem,aj,hi,ah];exact aa a9 rfl
  by_cases h8:8<xs.length
  · have hV:fJ inner xs E=.tup [.nil,.d (.int .i64 1)]:=by unfold fJ;rw [if_pos (.inr (.inl h8))]
    rw[hV];have i0:¬(xs.length:Int)=0:=aq;have i8:(8:Int)<(xs.length:Int):=aq;simp[go_sem,aj,hi,i8,Z,ah];exact aa a9 rfl
  have Q:xs.length≤8:=aq;have i0:¬(xs.length:Int)=0:=aq;have i8:¬(8:Int)<(xs.length:Int):=aq;simp[go_sem,aj,hi,i8,Z]
  refine av (fun k:Nat=>⟨[(2,.ptr 0 0 0 1),(6,.own 10000 0 k k),(7,.own 10001 0 k k),(20,.d (.ro 1 (xs.map nU))),(21,.d (.int .i64 (xs.length:Int))),(22,.d (.int .i64 (k:Int)))],
      [(10001,⟨174,34,(mR 0 (fS (xs.take k))).map (fun q=>q.map AV.d)⟩),(10000,⟨33,34,MH inner (xs.take k)⟩),(0,⟨29,32,[cb inner]⟩)],11000⟩)
    (fun k=>k≤xs.length) (fun k=>xs.length-k) 0 aq (by
      simp[aA,ai,fv,lk,AV.low,AV.l,mR,fS,MH]
      exact aI _ _) ?_
  intro k hk;simp only[go_sem,Nat.reduceEqDiff,Nat.reduceAdd,Nat.reduceLT,↓reduceIte];refine⟨fun h=>?_,fun h=>?_⟩
  · obtain ⟨x,C,hd⟩:=bu (l:=xs) (k:=k) aq
    have w3:=ay (k:=k) aq;have aL:=hx x (cr C);have zl:(au z32 .nil .nil).length=34:=rfl;have an:(mR 0 (fS (xs.take k))).length=k:=by rw[nT,fS,List.length_map,List.length_take];omega
    have ax:(MH inner (xs.take k)).length=k:=by rw[MH,List.length_map,List.length_take];omega
    have D:=nh x;simp[go_sem,C,nU];refine cK [0,1,2] [(3,[4]),(5,[]),(6,[]),(7,[])] 2 (k:=8) ?_;intro G hG;simp[go_sem,aj,hi,al hi];refine ag (aE x aq) a9 ?_;have zd:List.drop 32 (au z32 .nil .nil)=[.nil,.nil]:=rfl;have b2:=BH hi .nil .nil;have b3:=BI hi .nil .nil;simp[go_sem,aj,hi,zl,ax,zd,b2,b3];refine⟨aq,hG _ _ ?_⟩;clear hG G;have L:fm prog 93 [.d (nb x)] (.agg (cb (eD x))):=o8 x aq;simp[go_sem];refine ag L a9 ?_;have zs:(bU z32 0 0).length=34:=rfl;have hz:List.drop 32 (bU z32 0 0)=[.d (.int .i64 0),.d (.int .i64 0)]:=rfl;have aN:List.drop 34 (bU z32 0 0)=[]:=rfl;have X:=IX D;have e2:=BH D;have e3:=BI D;simp[go_sem,D,aj,zs,hz,X,e2,e3,an,w3];refine⟨aq,?_⟩;have E1:MH inner (xs.take (k+1))=MH inner (xs.take k)++[cb inner++[.nil,.d (nb x)]]:=by rw[Aq C];simp[MH,au]
    have E2:(mR 0 (fS (xs.take (k+1)))).map (fun q=>q.map AV.d)=(mR 0 (fS (xs.take k))).map (fun q=>q.map AV.d)++[cb (eD x)++[.d (.int .i64 (k:Int)),.d (.int .i64 1)]]:=by
      rw[Aq C,OA,wo,List.map_append,rC,List.length_take,Nat.min_eq_left aq];simp[fS,mR,Ew,dc]
    refine ao (k+1) aq aq ⟨?_,?_,aw⟩
    · simp[ai,fv,lk,AV.low,AV.l]
    · intro p hp
      simp only[d_,List.mem_nil_iff,or_false]at hp;rcases hp with rfl|rfl|rfl
      · exact⟨.inl (by simp[lk,E2]),by show 10001<11000;omega,BJ _ _ _⟩
      · exact⟨.inl (by simp[lk,E1]),by show 10000<11000;omega,fun r H=>by
          obtain⟨y,_,rfl⟩:=List.mem_map.1 H
          exact ry _ _ _ _ trivial trivial⟩
      · exact⟨.inl rfl,by show 0<11000;omega,by intro r H;simp at H;subst H;exact aI _ _⟩
  · have az:k=xs.length:=aq
    subst az;simp[go_sem];obtain⟨R,F,ae⟩:∃R F,eg 7 (fS xs) (fun _=>[])=(R,F):=⟨_,_,rfl⟩;have ac:(fS xs).length=xs.length:=(by simp[fS])
    refine na (fun t:Nat×Row×jB=>⟨[(6,.own 10000 0 xs.length xs.length),(7,.d (.ro 34 (mR 0 t.2.1)))],(10000,⟨33,34,mi inner kR t.2.2 xs⟩)::kQ 20000 8 t.2.2,30000⟩)
      (fun t=>eg t.1 t.2.1 t.2.2=(R,F)∧t.2.1.length≤t.1+1∧t.1≤7∧iI t.2.1=xs.length∧(∀p,p∈t.2.1→p.1.length=32)∧Wb t.2.2∧∀j,(t.2.2 j).length+t.1≤7) (fun t=>t.1) (7,fS xs,fun _=>[])
      ⟨ae,by simp only[ac];omega,cL _,rC xs,sR xs,(fun j p hp=>by simp at hp),fun j=>aw⟩ ?_ ?_
    · refine (ID [10001] [(7,.d (.ro 34 (mR 0 (fS xs))))] (fun p hp=>?_)).trans ((b8 ?_).trans (K3 xs Q))
      · simp at hp
        subst hp;exact .one (am (eB rfl aw (by rw[nT,ac]) (xR _ _ (sR xs))))
      · refine ⟨?_,?_,aw⟩
        · simp[ai,fv,lk,AV.low,AV.l]
        · intro p hp
          rcases d_.1 hp with rfl|hp
          · exact⟨.inl rfl,by show 10000<30000;omega,fun r H=>by
              obtain⟨y,_,rfl⟩:=List.mem_map.1 H
              exact ry _ _ _ _ trivial trivial⟩
          · obtain ⟨j,z,rfl⟩:=j9 8 20000 _ p hp
            exact⟨.inr ⟨by show 11032≤20000+j;omega,rfl⟩,by show 20000+j<30000;omega,GX _ _⟩
    · rintro ⟨n,o,f⟩ ⟨W,q2,q3,q4,q5,q7,q6⟩
      simp only at W q2 q3 q4 q5 q6 q7;simp only;simp[go_sem,nT];refine⟨fun h=>?_,fun h=>?_⟩
      · have h':1<o.length:=aq
        obtain⟨m,rfl⟩:∃m,n=m+1:=⟨n-1,aq⟩;rw[eg,if_pos h']at W;refine av (fun t:Nat×Row×Row×jB=>⟨[(6,.own 10000 0 xs.length xs.length),(7,.d (.ro 34 (mR t.1 t.2.1))),(10,.own 40000 0 t.2.2.1.length t.2.2.1.length)],
            (40000,⟨174,34,(mR 0 t.2.2.1).map (fun q=>q.map AV.d)⟩)::(10000,⟨33,34,mi inner kR t.2.2.2 xs⟩)::kQ 20000 8 t.2.2.2,50000⟩)
          (fun t=>t.2.2.1++dW t.2.1=dW o∧gJ t.1 t.2.1 t.2.2.2=gJ 0 o f∧iI t.2.2.1=t.1∧t.1+iI t.2.1=xs.length∧(∀p,p∈t.2.1→p.1.length=32)∧(∀p,p∈t.2.2.1→p.1.length=32)∧Wb t.2.2.2∧∀j,(t.2.2.2 j).length≤if j<t.1 then(6-m)+1 else 6-m)
          (fun t=>t.2.1.length) (0,o,[],f) ⟨rfl,rfl,rfl,by simp only;omega,q5,aw,q7,fun j=>by have:=q6 j;simp only[Nat.not_lt_zero,if_false];omega⟩ ⟨?_,?_,aw⟩ ?_
        · simp[ai,fv,lk,AV.low,AV.l,mR]
        · intro p hp
          rcases d_.1 hp with rfl|hp
          · exact⟨.inr ⟨by show 30128≤40000;omega,rfl⟩,by show 40000<50000;omega,by intro r H;simp[mR]at H⟩
          · exact wC aw Q rfl (fun j z=>by
              show lk (kR j) ((10000,_)::kQ 20000 8 f)=_;rw[lk,if_neg (by unfold kR;omega)]
              exact pa 8 20000 f j z) p hp
        · rintro ⟨s,q,up,g⟩ ⟨B,T,p3,p4,S,p6,p8,p7⟩
          simp only at B T p3 p4 S p6 p7 p8;simp only;simp[go_sem,nT];refine⟨fun hh=>?_,fun hh=>?_⟩
          · match q,B,T,p4,S,hh with
            | a :: b :: r,B,T,p4,S,_ =>
              have V:=S a aw;have hb:=S b aw;have aO:=xQ V s a.2;have aP:=xQ hb (s+a.2) b.2;simp only[mR];skip;refine dI [1,2,3,4,5,6,7] [0,8,9,10,11] [1,2,3,4,5,6,7] (.alt (bt 0 (a_ [8,9,10,11])) (bx 8 (.alt (a_ [0,9,10,11]) (a_ [9,0,10,11])))) ⟨[(6,.own 10000 0 xs.length xs.length),(7,.d (.ro 34 (mR s (a::b::r)))),(10,.own 40000 0 (up.length+1) (up.length+1))],(40000,⟨174,34,(mR 0 (up++[(cG a.1 b.1,a.2+b.2)])).map (fun q=>q.map AV.d)⟩)::(10000,⟨33,34,mi inner kR (cM (s+a.2) b.2 a.1 (cM s a.2 b.1 g)) xs⟩)::kQ 20000 8 (cM (s+a.2) b.2 a.1 (cM s a.2 b.1 g)),60000⟩ (k:=12) ?h3 ?hq
              case h3 =>
                intro G hG;simp[go_sem,Ey,lN V,lN hb,dQ V,dQ hb]
                have aK:s+(a.2+(b.2+iI r))=xs.length:=by
                  have:=p4;simp only[iI,List.map_cons,List.sum_cons]at this⊢;exact this
                have aJ:∀j,(g j).length≤100:=fun j=>by
                  have:=p7 j;split at this<;>omega
                have aD:=Ou inner a.1 b.1 xs g s a.2 (s+a.2) b.2 hi V hb Q aq aq aJ;have ab:∀(N:Nat)(K:AV→Hp→Prop),K (.agg (bU (cG a.1 b.1) s (a.2+b.2))) ((10000,⟨33,34,mi inner kR (cM (s+a.2) b.2 a.1 (cM s a.2 b.1 g)) xs⟩)::(kQ 20000 8 (cM (s+a.2) b.2 a.1 (cM s a.2 b.1 g))++[(40000,⟨174,34,(mR 0 up).map (fun q=>q.map AV.d)⟩)])) →
                    uX prog 112 [.own 10000 0 xs.length xs.length,.agg (bU a.1 s a.2),.agg (bU b.1 (s+a.2) b.2)] ((40000,⟨174,34,(mR 0 up).map (fun q=>q.map AV.d)⟩)::(10000,⟨33,34,mi inner kR g xs⟩)::kQ 20000 8 g) N K:=by
                  intro N K hK;exact Oy (pre:=[(40000,⟨174,34,(mR 0 up).map (fun q=>q.map AV.d)⟩)]) inner a.1 b.1 xs g s a.2 (s+a.2) b.2 Q aD (by intro p hp;simp at hp;subst hp;exact⟨aw,.inr aw⟩) hK
                have aH:=jd a.1 b.1;have aG:up.length≤10:=by
                  have X:=congrArg List.length B;have e2:=pg o;simp only[b_]at X;omega
                have hW:∀(fr:Fr)(hp:Hp),fv 6 fr=.own 10000 0 xs.length xs.length→fv 7 fr=.d (.ro 34 (mR s (a::b::r)))→fv 10 fr=.own 40000 0 (up.length+1) (up.length+1) →
                    lk 40000 hp=some ⟨174,34,(mR 0 up).map (fun q=>q.map AV.d)++[bU (cG a.1 b.1) s (a.2+b.2)]⟩→lk 10000 hp=some ⟨33,34,mi inner kR (cM (s+a.2) b.2 a.1 (cM s a.2 b.1 g)) xs⟩→(∀j,j<8→lk (kR j) hp=some (pB (cM (s+a.2) b.2 a.1 (cM s a.2 b.1 g) j)))→G fr hp:=by
                  intro fr hp v1 v2 v3 v4 v5 v6;refine hG _ _ (b8 ⟨?_,?_,aw⟩)
                  · simp[ai,AV.low,AV.l,v1,v2,v3]
                  · intro p hp'
                    rcases d_.1 hp' with rfl|hp'
                    · refine ⟨.inl ?_,by show 40000<60000;omega,BJ _ _ _⟩
                      show lk 40000 hp=_;rw[v4,wo,Nat.zero_add,p3,List.map_append];simp[mR,Ey]
                    · exact wC aw Q v5 v6 p hp'
                refine⟨ab _ _ ?_,ab _ _ ?_⟩
                all_goals
                  simp[go_sem,lN aH,Eu,GZ,nT]
                  repeat' apply And.intro
                all_goals first
                  |omega
                  | (refine hW _ _ rfl rfl rfl (by simp [lk,Eu]) (by simp [lk]) (fun j z=>?_)
                     have w:∀c,(c<20000∨20008≤c)→¬c=kR j:=fun c hc=>by unfold kR;omega
                     simp[lk,w,Yf z])
              case hq =>
                have aB:List.drop 2 (List.take ((((mR (s+a.2+b.2) r).length:Int)+1+1).toNat) (Ew a.1 s a.2::Ew b.1 (s+a.2) b.2::mR (s+a.2+b.2) r))=mR (s+a.2+b.2) r:=by
                  rw[cx (by simp only[List.length_cons];omega)];rfl
                simp only[mR];simp[go_sem,aB,-List.drop_succ_cons];refine⟨aq,?_⟩;have l1:=sS (first:=s) (k:=a.2) (h:=b.1) p7 (cL _);have l2:=sS (first:=s+a.2) (k:=b.2) (h:=a.1) l1 (cL _)
                have tu:iI (up++[(cG a.1 b.1,a.2+b.2)])=s+a.2+b.2:=by
                  have:=p3;simp only[iI,List.map_append,List.sum_append,List.map_cons,List.map_nil,List.sum_cons,List.sum_nil]at this⊢;omega
                refine ao (s+a.2+b.2,r,up++[(cG a.1 b.1,a.2+b.2)],cM (s+a.2) b.2 a.1 (cM s a.2 b.1 g)) ⟨by rw[←B];simp[dW],T,tu,?_,fun u v hp=>S (u,v) (by simp[hp]),?_,wE (wE p8 hb) V,l2⟩ (by simp only[List.length_cons];omega) ⟨?_,?_,aw⟩
                · have:=p4
                  simp only[iI,List.map_cons,List.sum_cons]at this⊢;omega
                · intro u v hp
                  rcases cD.1 hp with hp|hp
                  · exact p6 (u,v) hp
                  · simp at hp;obtain⟨rfl,_⟩:=hp;exact jd _ _
                · simp[ai,fv,lk,AV.low,AV.l]
                · intro p hp
                  rcases d_.1 hp with rfl|hp
                  · exact⟨.inl rfl,by show 40000<50000;omega,BJ _ _ _⟩
                  · exact wC aw Q rfl (fun j z=>by
                      have w:∀c,(c<20000∨20008≤c)→¬c=kR j:=fun c hc=>by unfold kR;omega
                      have:=pa 8 20000 (cM (s+a.2) b.2 a.1 (cM s a.2 b.1 g)) j z;simp[lk,w]
                      exact this) p hp
          · have U:q.length≤1:=aq
            rw[G2 U]at B;rw[EA U]at T;subst T;have aG:up.length+q.length≤10:=by
              have X:=congrArg List.length B;have e2:=pg o;simp only[b_]at X;omega
            have M:(mR 0 up).map (fun q=>q.map AV.d)++(mR s q).map (fun q=>q.map AV.d)=(mR 0 (dW o)).map (fun q=>q.map AV.d):=by
              rw[←B,wo,List.map_append,Nat.zero_add,p3]
            have Y:up.length+q.length=(mR 0 (dW o)).length:=(by rw[nT,←B,b_]);refine⟨aq,?_⟩;refine NU (m,dW o,gJ 0 o f) ⟨W,?_,by show m≤7;omega,?_,?_,p8,?_⟩ (by show m<m+1;omega) [40000] [(7,.d (.ro 34 (mR 0 (dW o))))] (fun p hp=>?_) ⟨?_,?_,aw⟩
            · have:=pg o
              show(dW o).length≤m+1;omega
            · show iI (dW o)=xs.length
              rw[rB];exact q4
            · intro u v hp
              exact wy o q5 (u,v) hp
            · intro j
              have:=p7 j;show(gJ 0 o f j).length+m≤7;split at this<;>omega
            · simp at hp
              subst hp;refine .one (am ?_);show SnapD _ _ (.own 40000 0 (up.length+q.length) (up.length+q.length)) _;rw[Y];exact eB (ty:=174) (by show some _=some _;rw[M]) aw rfl (xR _ _ (wy o q5))
            · simp[ai,fv,lk,AV.low,AV.l]
            · intro p hp
              exact wC aw Q rfl (fun j z=>by
                have w:∀c,(c<20000∨20008≤c)→¬c=kR j:=fun c hc=>by unfold kR;omega
                have:=pa 8 20000 (gJ 0 o f) j z;simp[aC,lk,w];rw[kz,if_neg (by simp;exact fun e=>w 40000 (.inr aq) e.symm)]
                exact this) p hp
      · have ap:o.length≤1:=aq
        rw[G0 ap]at W;obtain⟨rfl,rfl⟩:o=R∧f=F:=by simpa using W
        have hF:bS xs=f:=by unfold bS;rw[ae]
        rw[hF]at I;have g:=BK inner (nn f xs) O E hi (by rw[BM];omega) I;have ad:SnapD ((10000,(⟨33,34,mi inner kR f xs⟩:Blk))::kQ 20000 8 f) (fun _=>True) (.own 10000 0 xs.length xs.length) (.ro 34 ((nn f xs).map (eP inner))):=by
          refine Ez (idf:=kR) hi rfl trivial (fun _ _=>trivial) q7 (fun j z=>?_);have w:∀c,(c<20000∨20008≤c)→¬c=kR j:=fun c hc=>by unfold kR;omega
          have:=pa 8 20000 f j aq;rw[lk,if_neg (w _ aq)];exact this
        refine ju g rfl (ak (.one (am ad)) (ak (.deep a9) aF)) trivial ?_;unfold fJ;rw[hF];cases aQ:sT E (nn f xs)
        · rw [if_neg (by simp [Z,h8])]
          simp[go_sem,ah];refine eC (cs':=[.d (.ro 34 ((nn f xs).map (eP inner))),.d (.int .i64 0)]) (fun i c c' A J=>?_) rfl a9 rfl
          match i,A,J with
          |0,A,J=>simp at A J;subst A J;exact am ad
          |1,A,J=>simp at A J;subst A J;exact aM trivial
          |k+2,A,_=>simp at A
        · rw [if_pos (.inr (.inr rfl))]
          simp[go_sem,ah];exact aa a9 rfl
theorem EC:∀(a:List Wd)(out:List Nat),(∀w,w∈a→(ef w).2=true)→vP out a=(out++bw a,0)
 |[],out,_=>by simp[vP,bw]
 |w::r,out,h=>by
  have b:=h w aw;rw[vP,if_pos b,EC r _ (fun v c=>h v (by simp[c])),←wh b];simp[bw]
theorem BN{n:Nat}(a:n=0∨77<n):(ef (n,[])).2=true:=by
 unfold ef;rw[if_neg (by simp;omega),if_neg (by simp;omega),if_neg (by simp;omega)];rfl
theorem IY{n:Nat}(h:n<256):zi (n,[]):=⟨aw,h⟩
def fU(d:Int):List Wd:=[c6 (dk d),(178,[]),(117,[]),(179,[])]
def ie(a:List Nat):List Wd:=[c6 (qM a),(188,[])]
def je(a:List Nat)(d:Int):List Wd:=[c6 a,(173,[]),c6 (bw (fU d)),(81,[]),(187,[])]
theorem xT(x:List Nat):bytes (qM x):=eE _
theorem sU(d:Int):∀w,w∈fU d→zi w∧(ef w).2=true:=by
 intro w a;have b:=iH d;simp[fU]at a;rcases a with rfl|rfl|rfl|rfl;exact⟨kC aq (eG d),my aq⟩
 all_goals exact⟨IY aq,BN aq⟩
theorem xU{b:List Wd}(h:∀w,w∈b→(ef w).2=true∧w.1<256∧bytes w.2):bytes (bw b):=by
 unfold bw;intro z a;rw[List.mem_flatten]at a;obtain⟨l,g,a⟩:=a;obtain⟨w,c,rfl⟩:=List.mem_map.1 g;obtain⟨i,e,d⟩:=h w c;rw[wh i]at a;exact xM e d z a
theorem lr:∀(a:List Wd)(n:Nat),(∀w,w∈a→w.2.length≤n)→(bw a).length≤(n+3)*a.length
 |[],n,_=>by simp[bw]
 |w::r,n,h=>by
  have e:=Oq w;have d:=h w aw;have b:=lr r n (fun v c=>h v (by simp[c]));simp only[bw,List.map_cons,List.flatten_cons,b_,List.length_cons]at b⊢;rw[Nat.mul_succ];omega
theorem np(d:Int):(bw (fU d)).length≤48:=by
 have b:=iH d;have:=lr (fU d) 9 (by
  intro w a;simp[fU]at a;rcases a with rfl|rfl|rfl|rfl;have:=gk (dk d);omega
  all_goals simp)
 simpa[fU]using this
theorem vg(d:Int):bytes (bw (fU d)):=xU (fun w a=>by
 have:=sU d w a;refine⟨this.2,this.1.2,?_⟩;simp[fU]at a;rcases a with rfl|rfl|rfl|rfl;exact kD (eG d)
 all_goals exact fun z b=>by simp at b)
theorem TR(a:List Nat):∀w,w∈ie a→zi w∧(ef w).2=true:=by
 intro w b;have c:=o9 a;simp[ie]at b;rcases b with rfl|rfl;exact⟨kC aq (xT _),my aq⟩;exact⟨IY aq,BN aq⟩
theorem OE{a:List Nat}(d:Int)(e:a.length=32)(c:bytes a):∀w,w∈je a d→zi w∧(ef w).2=true:=by
 intro w b;have g:=np d;simp[je]at b;rcases b with rfl|rfl|rfl|rfl|rfl;exact⟨kC aq c,my aq⟩;exact⟨IY aq,BN aq⟩;exact⟨kC aq (vg d),my aq⟩
 all_goals exact⟨IY aq,BN aq⟩
theorem TS(n:Int)(b:-9223372036854775808≤n)(a:n<9223372036854775808):fm prog 25 [.d (.int .i64 n)] (.agg (sP (c6 (dk n)))):=by
 refine bL func25 ntmps25 (rs:=[.cell 2 42]) a9 ?_;have c:=iH n;simp[go_sem];refine ag (mO n b a) a9 ?_;simp[go_sem];refine ag (pY (dk n) aq (eG n)) a9 ?_;generalize c6 (dk n)=w;simp[go_sem,sP,ah];exact aa a9 rfl
theorem xW(n:Nat):fm prog 116 [.d (.int .u8 (n:Int))] (.agg (sP (n,[]))):=by
 refine bL func116 ntmps116 (rs:=[.cell 2 42]) a9 ?_;simp[go_sem,sP,ah];refine xm (cs':=[.d (.int .u8 (n:Int)),.d (nb [])]) (fun i c e a b=>?_) rfl a9 rfl
 match i,a,b with
 |0,a,b=>simp at a b;subst a b;exact aM trivial
 |1,a,b=>simp at a b;subst a b;exact am (.nil 1)
 |k+2,a,_=>simp at a
theorem uv(a:List Wd)(b:∀w,w∈a→zi w∧(ef w).2=true)(e:a.length≤10000):fm prog 115 [.d (.ro 2 (a.map qL))] (.d (nb (bw a))):=by
 refine bL func115 ntmps115 (rs:=[.tmp 2]) a9 ?_;have c:=Em a (fun w h=>(b w h).1) e;rw[EC a [] (fun w h=>(b w h).2),List.nil_append]at c;simp[go_sem];refine ag c a9 ?_;simp[go_sem,ah];exact aa a9 rfl
def cg(inner b:List Nat)(d:Int)(a:List Nat):List AV:=cb inner++([.d (nb b),.d (.int .i64 d)]++cb a)
theorem ep{inner a:List Nat}(hi:inner.length=32)(c:a.length=32)(b:List Nat)(d:Int):(cg inner b d a).length=66:=by simp[cg,aj,hi,c]
theorem bF{inner a:List Nat}(hi:inner.length=32)(c:a.length=32)(b:List Nat)(d:Int):List.take 66 (cg inner b d a)=cg inner b d a:=cx (by rw[ep hi c];exact cL _)
theorem sV{inner:List Nat}(hi:inner.length=32)(b:List Nat)(d:Int)(a:List Nat):(cg inner b d a)[32]?=some (.d (nb b)):=by
 unfold cg;rw[dn (by rw[aj];omega),aj,hi];rfl
theorem sW{inner:List Nat}(hi:inner.length=32)(b:List Nat)(d:Int)(a:List Nat):(cg inner b d a)[33]?=some (.d (.int .i64 d)):=by
 unfold cg;rw[dn (by rw[aj];omega),aj,hi];rfl
theorem uw{inner:List Nat}(hi:inner.length=32)(b:List Nat)(d:Int)(a:List Nat)(c:32<(cg inner b d a).length):(cg inner b d a)[32]=.d (nb b):=by
 have:=sV hi b d a;rw[cm c]at this;exact Option.some.inj this
theorem uy{inner:List Nat}(hi:inner.length=32)(b:List Nat)(d:Int)(a:List Nat)(c:33<(cg inner b d a).length):(cg inner b d a)[33]=.d (.int .i64 d):=by
 have:=sW hi b d a;rw[cm c]at this;exact Option.some.inj this
theorem ED{inner:List Nat}(hi:inner.length=32)(b:List Nat)(d:Int)(a:List Nat):List.take 32 (cg inner b d a)=cb inner:=by
 unfold cg;rw[List.take_append_of_le_length (by rw[aj,hi];exact cL _),al hi]
theorem xX(inner b:List Nat)(d:Int)(a:List Nat):(AV.agg (cg inner b d a)).deep:=by
 intro c hc;unfold cg at hc;rcases cD.1 hc with h|h;exact bp _ _ h;rcases cD.1 h with h|h;simp at h;rcases h with rfl|rfl<;>trivial;exact bp _ _ h
theorem dC(inner b:List Nat)(d:Int)(a:List Nat):∀v,v∈[AV.agg (cg inner b d a)]→v.deep:=by
 intro v c;simp at c;subst c;exact xX _ _ _ _
theorem Yh(inner a:List Nat)(d:Int)(b:List Nat)(hi:inner.length=32)(m:b.length=32):ar prog 69 [.agg (cg inner a d b)] (fun r=>r=.d (.bool (decide (0≤d∧d≤65535∧a.length≤1000)))):=by
 refine bL func69 ntmps69 (rs:=[.tmp 2]) (dC _ _ _ _) ?_;have g:=ep hi m a d;have e:=uw hi a d b;have c:=uy hi a d b;have k:=sV hi a d b;have l:=sW hi a d b;by_cases h:0≤d
 ·by_cases i:d≤65535
  ·by_cases j:a.length≤1000
   ·have i3:(a.length:Int)≤1000:=aq;simp[go_sem,g,e,c,h,i,j,i3,nb,ah];exact aa a9 rfl
   ·have i3:¬(a.length:Int)≤1000:=aq;simp[go_sem,g,e,c,h,i,j,i3,nb,ah];exact aa a9 rfl
  ·simp[go_sem,g,c,h,i,ah];exact aa a9 rfl
 ·simp[go_sem,g,c,h,ah];exact aa a9 rfl
theorem sX(inner a:List Nat)(d:Int)(b:List Nat)(hi:inner.length=32)(l:b.length=32)(k:a.length≤100000):fm prog 71 [.agg (cg inner a d b)] (.d (nb (bw (ie a)))):=by
 refine bL func71 ntmps71 (rs:=[.tmp 2]) (dC _ _ _ _) ?_;have m:=ep hi l a d;have g:=uw hi a d b;have j:=sV hi a d b;have i:=o9 a;simp[go_sem,m,g];refine ag (xJ a k) a9 ?_;simp[go_sem,aj,i,cf];refine bJ [160] (pY (qM a) aq (xT a)) rfl (ak (.one (am (fh rfl aw i))) aF) ?_;have c:=TR a;have h:ie a=[c6 (qM a),(188,[])]:=rfl;rw[h]at c⊢;generalize c6 (qM a)=w at *;simp[go_sem,aC];refine ag (xW 188) a9 ?_;simp[go_sem,sP];refine bJ [320] (uv [w,(188,[])] c aw) rfl (ak (.one (am (eB (ty:=42) (e:=2) (es:=[w,(188,[])].map qL) (by simp[lk,qL]) aw rfl (by simp[qL])))) aF) ?_;simp[go_sem,ah];exact aa a9 rfl
theorem EE(inner b:List Nat)(d:Int)(a:List Nat)(hi:inner.length=32)(k:a.length=32)(m:-9223372036854775808≤d)(j:d<9223372036854775808):fm prog 117 [.agg (cg inner b d a)] (.d (nb (bw (fU d)))):=by
 refine bL func117 ntmps117 (rs:=[.tmp 2]) (dC _ _ _ _) ?_;have l:=ep hi k b d;have g:=uy hi b d a;have i:=sW hi b d a;simp[go_sem,l,g];refine ag (TS d m j) a9 ?_;have c:=sU d;have h:fU d=[c6 (dk d),(178,[]),(117,[]),(179,[])]:=rfl;rw[h]at c⊢;generalize c6 (dk d)=w at *;simp[go_sem];refine ag (xW 178) a9 ?_;simp[go_sem];refine ag (xW 117) a9 ?_;simp[go_sem];refine ag (xW 179) a9 ?_;simp[go_sem,sP];refine bJ [256] (uv [w,(178,[]),(117,[]),(179,[])] c aw) rfl (ak (.one (am (eB (ty:=42) (e:=2) (es:=[w,(178,[]),(117,[]),(179,[])].map qL) (by simp[lk,qL]) aw rfl (by simp[qL])))) aF) ?_;simp[go_sem,ah];exact aa a9 rfl
def vh(inner b:List Nat)(d:Int)(a:List Nat):List DV:=cd inner++([nb b,.int .i64 d]++cd a)
theorem uz(inner b:List Nat)(d:Int)(a:List Nat):(vh inner b d a).map AV.d=cg inner b d a:=by simp[vh,cg,dc]
theorem K4{inner a:List Nat}(hi:inner.length=32)(c:a.length=32)(b:List Nat)(d:Int):(vh inner b d a).length=66:=by simp[vh,b7,hi,c]
theorem OF{inner a:List Nat}(hi:inner.length=32)(c:a.length=32)(b:List Nat)(d:Int):List.drop 34 (vh inner b d a)=cd a:=by
 unfold vh;rw[←cA,List.drop_append,c_ (by simp[b7,hi]),List.nil_append];simp[b7,hi]
theorem EG(inner g:List Nat)(d:Int)(a:List Nat)(hi:inner.length=32)(h:a.length=32)(t:bytes a)(z:-9223372036854775808≤d)(y:d<9223372036854775808):fm prog 72 [.agg (cg inner g d a)] (.d (nb (bw (je a d)))):=by
 refine qd func72 (by kernel_rfl) rfl ntmps72 (rs:=[.tmp 2]) rfl (dN rfl) (dC _ _ _ _) ?_;have s:=ep hi h g d;refine dh (aN ?_);simp[go_sem,s];simp only[jP];refine uo (st':=⟨[(1,.rop (vh inner g d a))],[],9000⟩) (xk [0] [(1,.rop (vh inner g d a))] ?_ ?_) ?_
 intro p hp;simp only[d_,List.mem_nil_iff,or_false]at hp;subst hp;exact .ptr aw rfl rfl rfl (by rw[List.drop_zero,←uz];exact lp _);simp[aA,ai,fv,lk,aC,AV.low,AV.l];refine aN ?_;have u:=K4 hi h g d;have m:=OF hi h g d;have B:=np d;simp[go_sem];refine cK [0,1,4] [(2,[]),(3,[]),(5,[]),(6,[]),(7,[]),(8,[]),(9,[]),(10,[11])] 8 (k:=12) ?_;intro G o
 have l:List.map (fun c=>[c]) (List.take 32 (cd a))=a.map fun(b:Nat)=>[DV.int .u8 (b:Int)]:=by
  rw[cx (by simp[b7,h])];simp[cd]
 simp[go_sem,m,b7,h,uz,bF hi h,l,s];have q:=pY a aq t;have x:=pY (bw (fU d)) aq (vg d);have i:=OE d h t;have j:je a d=[c6 a,(173,[]),c6 (bw (fU d)),(81,[]),(187,[])]:=rfl;rw[j]at i;rw[j]at o;have A:=EE inner g d a hi h z y;generalize bw (fU d)=W at *;generalize c6 a=w at *;generalize c6 W=v at *;simp only[nb]at q;refine ag q a9 ?_;simp[go_sem];refine ag (xW 173) a9 ?_;simp[go_sem];refine ag A (dC _ _ _ _) ?_;simp[go_sem];refine ag x a9 ?_;simp[go_sem];refine ag (xW 81) a9 ?_;simp[go_sem];refine ag (xW 187) a9 ?_;simp[go_sem,sP];refine bJ [9288] (uv [w,(173,[]),v,(81,[]),(187,[])] i aw) rfl (ak (.one (am (eB (ty:=42) (e:=2) (es:=[w,(173,[]),v,(81,[]),(187,[])].map qL) (by simp[lk,qL]) aw rfl (by simp[qL])))) aF) ?_;simp[go_sem];refine o _ _ ?_;clear o G;simp[go_sem,ah];exact aa a9 rfl
abbrev bm:=List Nat
def kK:List Nat→Nat
 |[]=>0
 |b::r=>b+256*kK r
theorem nV:∀(a b:List Nat),kK (a++b)=kK a+256 ^ a.length*kK b
 |[],b=>by simp[kK]
 |x::a,b=>by
  rw[List.cons_append,kK,kK,nV,List.length_cons,Nat.pow_succ,Nat.mul_add,Nat.add_assoc,←Nat.mul_assoc,Nat.mul_comm 256 (256 ^ a.length)]
theorem uA:∀{b:List Nat},bytes b→kK b<256 ^ b.length
 |[],_=>by simp[kK]
 |x::b,h=>by
  have d:=uA (b:=b) (fun y a=>h y (cS _ a));have c:x<256:=h x aw;rw[kK,List.length_cons,Nat.pow_succ];omega
theorem IZ:∀(k m:Nat),m<256 ^ k→kK (vQ k m)=m
 |0,m,h=>by simp at h;subst h;rfl
 |k+1,m,h=>by
  rw[vQ];split;rename_i e;subst e;rfl;rw[kK,IZ k (m/256) (by rw[Nat.pow_succ]at h;omega)];omega
def BO(b:bm):Int:=match b.reverse with
 |[]=>0
 |x::r=>if x<128 then(kK b:Int)else -((kK b-128*256 ^ (b.length-1):Nat):Int)
theorem jf(a:bm)(x:Nat):BO (a++[x])=if x<128 then((kK a+256 ^ a.length*x:Nat):Int)else -((kK a+256 ^ a.length*x-128*256 ^ a.length:Nat):Int):=by
 unfold BO;rw[List.reverse_append];simp only[List.reverse_cons,List.reverse_nil,List.nil_append,List.singleton_append,b_,List.length_cons,List.length_nil,Nat.add_sub_cancel];rw[nV];simp[kK]
theorem K5(n:Int)(k:-9223372036854775808≤n)(j:n<9223372036854775808):BO (dk n)=n:=by
 have i:n.natAbs<256 ^ 8:=by show n.natAbs<18446744073709551616;omega
 have g:=IZ 8 n.natAbs i;have h:=qa 8 n.natAbs;unfold dk;generalize vQ 8 n.natAbs=b at g h;rcases eF b with rfl|⟨a,x,rfl⟩;have:n=0:=by simp[kK]at g;omega
 subst this;rfl;rw[nk];have l:x<256:=h x aw;have c:kK a+256 ^ a.length*x=n.natAbs:=by
  rw[nV]at g;simpa[kK]using g
 unfold jl;split;split;rename_i d;have e:n<0:=by simpa using d
 rw[show a++[x,128]=(a++[x])++[128]by simp,jf,if_neg aq,nV];simp only[b_,List.length_cons,List.length_nil,kK,Nat.mul_zero,Nat.add_zero];rw[c,Nat.mul_comm 128,Nat.add_sub_cancel];omega;rename_i d;have e:¬n<0:=by simpa using d
 rw[show a++[x,0]=(a++[x])++[0]by simp,jf,if_pos aq,nV];simp only[b_,List.length_cons,List.length_nil,kK,Nat.mul_zero,Nat.add_zero];rw[c];omega;split;rename_i d;have e:n<0:=by simpa using d
 rw[jf,if_neg aq,Nat.mul_add,Nat.mul_comm 128,←Nat.add_assoc,Nat.add_sub_cancel,c];omega;rename_i d;have e:¬n<0:=by simpa using d
 rw[jf,if_pos aq,c];omega
def gK(most:Nat)(b:bm):Option Int:=if b.length≤min most 8∧dk (BO b)=b then some (BO b)else none
theorem TT{most:Nat}{n:Int}(c:-9223372036854775808≤n)(a:n<9223372036854775808)(b:(dk n).length≤min most 8):gK most (dk n)=some n:=by
 unfold gK;rw[K5 n c a,if_pos ⟨b,rfl⟩]
def gu:bm→Bool
 |[]=>false
 |[c]=>decide (c≠0∧c≠128)
 |c::r=>decide (c≠0)||gu r
def jX(b:Bool):bm:=if b then[1]else[]
structure Mc where
 main:List bm
 alt:List bm
 e:Int
def jm(x:Int)(m:Mc):Mc:=if m.e=0 then⟨m.main,m.alt,x⟩else m
def aT(n:Nat)(m:Mc):Mc:=if m.main.length<n then jm 12 m else m
def dY(m:Mc):bm×Mc:=if(aT 1 m).e=0 then(m.main.getLastD [],⟨m.main.dropLast,m.alt,m.e⟩)else([],aT 1 m)
def fj(l:List bm)(m:Mc):Mc:=⟨m.main++l,m.alt,m.e⟩
def gP(most:Nat)(x:bm)(m:Mc):Int×Mc:=if m.e=0 then(match gK most x with|some n=>(n,m)|none=>(0,jm 15 m))else(0,m)
def c7(k:Nat)(put:List Nat)(m:Mc):Mc :=
 if(aT k m).e=0 then⟨m.main.take (m.main.length-k)++put.map (fun i=>(m.main.drop (m.main.length-k)).getD i []),m.alt,m.e⟩else aT k m
def nW(m:Mc):Mc:=⟨(dY m).2.main,(dY m).2.alt++[(dY m).1],(dY m).2.e⟩
def qT(m:Mc):Mc:=if m.alt.length=0 then jm 12 m else⟨m.main++[m.alt.getLastD []],m.alt.dropLast,m.e⟩
def jC(a:Nat)(m:Mc):Option Mc :=
 if a=97 then some m
 else if a=107 then some (nW m)
 else if a=108 then some (qT m)
 else if a=109 then some (c7 2 [] m)
 else if a=110 then some (c7 2 [0,1,0,1] m)
 else if a=111 then some (c7 3 [0,1,2,0,1,2] m)
 else if a=112 then some (c7 4 [0,1,2,3,0,1] m)
 else if a=113 then some (c7 6 [2,3,4,5,0,1] m)
 else if a=114 then some (c7 4 [2,3,0,1] m)
 else if a=117 then some (c7 1 [] m)
 else if a=118 then some (c7 1 [0,0] m)
 else if a=119 then some (c7 2 [1] m)
 else if a=120 then some (c7 2 [0,1,0] m)
 else if a=123 then some (c7 3 [1,2,0] m)
 else if a=124 then some (c7 2 [1,0] m)
 else if a=125 then some (c7 2 [1,0,1] m)
 else none
def kS(b:Bool)(m:Mc):Mc :=
 let p:=dY m
 let r:=gP 4 p.1 p.2
 if r.2.e=0 then
  (if r.1<0∨(r.2.main.length:Int)≤r.1 then jm 12 r.2
  else
   let a:=r.2.main.length-1-r.1.toNat
   fj [r.2.main.getD a []] ⟨if b then r.2.main.eraseIdx a else r.2.main,r.2.alt,r.2.e⟩)
 else r.2
def kT(b:Bool)(m:Mc):Mc:=if b then m else jm 16 m
def rD(m:Mc):bm:=m.main.getLastD []
def EH(m:Mc):bm:=m.main.getD (m.main.length-2) []
def qU(m:Mc):Mc:=if(aT 2 m).e=0 then fj [EH m++rD m] (c7 2 [] m)else aT 2 m
def iJ(m:Mc):Bool×Mc:=if(aT 2 m).e=0 then(decide (rD m=EH m),c7 2 [] m)else(false,aT 2 m)
def mz(f:bm→bm)(m:Mc):Mc:=if(aT 1 m).e=0 then fj [f (dY m).1] (dY m).2 else aT 1 m
def yZ(c b:bm→bm)(a:Nat)(m:Mc):Option Mc :=
 if a=121 then some (kS false m)
 else if a=122 then some (kS true m)
 else if a=105 then some (kT (gu (dY m).1) (dY m).2)
 else if a=115 then some (if(aT 1 m).e=0 then(if gu (rD m)then fj [rD m] m else m)else aT 1 m)
 else if a=116 then some (fj [dk (m.main.length:Int)] m)
 else if a=126 then some (qU m)
 else if a=130 then some (if(aT 1 m).e=0 then fj [dk ((rD m).length:Int)] m else aT 1 m)
 else if a=135 then some (fj [jX (iJ m).1] (iJ m).2)
 else if a=136 then some (kT (iJ m).1 (iJ m).2)
 else if a=168 then some (mz c m)
 else if a=170 then some (mz b m)
 else none
def wF(b:Nat)(a:Int):Option Int :=
 if b=139 then some (a+1)else if b=140 then some (a-1)else if b=143 then some (-a)else if b=144 then some (max a (-a))
 else if b=145 then some (if a=0 then 1 else 0)else if b=146 then some (if a=0 then 0 else 1)else none
def F9(c:Nat)(a b:Int):Option Bool :=
 if c=154 then some (decide (a≠0)&&decide (b≠0))else if c=155 then some (decide (a≠0)||decide (b≠0))
 else if c=156∨c=157 then some (decide (a=b))else if c=158 then some (decide (a≠b))
 else if c=159 then some (decide (a<b))else if c=160 then some (decide (b<a))
 else if c=161 then some (decide (a≤b))else if c=162 then some (decide (b≤a))else none
def xY(c:Nat)(a b:Int):Option Int :=
 if c=147 then some (a+b)else if c=148 then some (a-b)else if c=163 then some (min a b)else if c=164 then some (max a b)
 else(F9 c a b).map fun v=>if v then 1 else 0
def oM:Nat→Mc→List Int×Mc
 |0,m=>([],m)
 |k+1,m =>
  let p:=dY m
  let r:=gP 4 p.1 p.2
  let q:=oM k r.2
  (q.1++[r.1],q.2)
def ek(n:Nat)(m:Mc):List Int×Mc:=if(aT n m).e=0 then oM n m else(List.replicate n 0,aT n m)
def qN (a:Nat) (m:Mc):Option Mc :=
 if a=165 then
  some (let p:=ek 3 m;fj [jX (decide (p.1.getD 1 0≤p.1.getD 0 0)&&decide (p.1.getD 0 0<p.1.getD 2 0))] p.2)
 else match wF a 0 with
  |some _=>some (let p:=ek 1 m;fj [dk ((wF a (p.1.getD 0 0)).getD 0)] p.2)
  | none=>match xY a 0 0 with
   |none=>none
   |some _=>some (
    let p:=ek 2 m
    let n:=(xY a (p.1.getD 0 0) (p.1.getD 1 0)).getD 0
    if a=157 then kT (decide (n≠0)) p.2 else fj [dk n] p.2)
def gm(main alt:List bm):Int:=if(main.all fun x=>decide (x.length≤520))&&(alt.all fun x=>decide (x.length≤520))then(if main.length+alt.length≤100 then 0 else 13)else 14
def dR(m:Mc):List bm×List bm×Int :=
 if m.e=0 then(if gm m.main m.alt=0 then(m.main,m.alt,0)else([],[],gm m.main m.alt))else([],[],m.e)
def xZ(c b:bm→bm)(a:Nat)(main alt:List bm):List bm×List bm×Int :=
 match jC a ⟨main,alt,0⟩with
 |some m=>dR m
 | none=>match yZ c b a ⟨main,alt,0⟩ with
  |some m=>dR m
  |none=>match qN a ⟨main,alt,0⟩with
   |some m=>dR m
   |none=>([],[],10)
def OG(hp:Hp)(a:List Nat)(v b:AV):Prop:=b=v∨∃d,b=.d d∧SnapD hp (fun id=>id∈a) v d
theorem x4{st:St}{L:Nat}{b:Blk}{es':List (List AV)}(l:List Nat)(hL:L ∉ l)(hb:lk L st.hp=some b)(hz:b.e≠0)(hl:es'.length=b.es.length)
  (hc:∀(i:Nat)(x S:List AV),b.es[i]?=some x→es'[i]?=some S→S.length=x.length∧∀(j:Nat)(v v':AV),x[j]?=some v→S[j]?=some v'→OG st.hp l v v'):Wk st ⟨st.fr,bV L ⟨b.ty,b.e,es'⟩ (aC l st.hp),st.nx⟩:=by
 intro c a w hs;obtain⟨h1,h2,σ,r,hf,F⟩:=hs;obtain⟨R,O⟩:=sB l r;have G:lk L (aC l st.hp)=some b:=by rw[kz,if_neg (by simpa using hL)];exact hb
 have p:∀i o,lk i (bV L ⟨b.ty,b.e,es'⟩ (aC l st.hp))=some o→∃q,lk i (aC l st.hp)=some q∧o.ty=q.ty∧o.e=q.e∧o.es.length=q.es.length∧(i≠L→o=q)∧(i=L→o=⟨b.ty,b.e,es'⟩∧q=b):=by
  intro i o h;rw[kW]at h;by_cases A:i=L;subst A;rw[if_pos rfl,G]at h;simp only[Option.map_some,Option.some.injEq]at h;subst h;exact⟨b,G,rfl,rfl,hl,fun e=>absurd rfl e,fun _=>⟨rfl,rfl⟩⟩;rw[if_neg A]at h;exact⟨o,h,rfl,rfl,rfl,fun _=>rfl,fun e=>absurd e A⟩
 have U:∀q,bQ c w σ (aC l st.hp) q→bQ c w σ (bV L ⟨b.ty,b.e,es'⟩ (aC l st.hp)) q:=fun q t=>⟨⟨t.1.1,fun id u g h B=>by
  obtain⟨m,s,_⟩:=p id u h
  exact t.1.2 id m g s B⟩,t.2⟩
 have step:Step w (bQ c w σ (aC l st.hp)) σ (aC l st.hp) (fun i=>i<st.nx) w (bQ c w σ (bV L ⟨b.ty,b.e,es'⟩ (aC l st.hp))) σ (bV L ⟨b.ty,b.e,es'⟩ (aC l st.hp)) (fun i=>i<st.nx) :=
  ⟨U,fun _ _=>rfl,fun _ h=>h,fun id o _ h=>by
   obtain⟨m,s,M,h5,h6,_⟩:=p id o h
   exact⟨m,s,h5,M,aq,fun _ g B=>⟨B,fun _ h=>h⟩⟩⟩
 have I:∀(v:AV)(d:DV)(x:Value),SnapD st.hp (fun id=>id∈l) v d→AIs w (bQ c w σ st.hp) σ st.hp (fun i=>i<st.nx) v x→DIs w (bQ c w σ (bV L ⟨b.ty,b.e,es'⟩ (aC l st.hp))) d x:=by
  intro v d x E Z;refine xi (fun q t=>U _ (O.sub q t)) (fun id u g Y hk B=>U _ ⟨⟨ee (r.at hk B),fun X H g' C T e=>?_⟩,?_⟩) r E Z;subst e;rw[kz]at C;split at C;cases C;rename_i Q;have:=r.inj id X u H g hk C B T;subst this;exact Q (by simpa using Y);rcases r.mine id u g hk B with h|h;exact .inl (c.hM g h);exact .inr h
 refine⟨h1,h2,σ,⟨fun i j bi bj g A K aa W=>?_,fun i o h=>?_,fun i o h=>?_,fun i o g h B=>?_,r.os,r.tape,r.output,r.size,r.old⟩,fun n=>((hf n).step O).step step,(F.trans O).trans step⟩;obtain⟨m,s,_⟩:=p i bi A;obtain⟨b2,M,_⟩:=p j bj K;exact R.inj i j m b2 g s M aa W;obtain⟨m,s,_⟩:=p i o h;exact R.lt i m s;obtain⟨m,s,M,h5,h6,h7,h8⟩:=p i o h;by_cases A:i=L;obtain⟨rfl,rfl⟩:=h8 A;subst A;rcases r.blk i m hb with ⟨J,k2⟩|⟨g,J,V,k2,k3,k4,k5,k6⟩;have:=k2.none hz;exact .inl ⟨J,.inl (List.length_eq_zero_iff.1 (by rw[h6,this];rfl))⟩;refine .inr ⟨g,J,V,k2,k3,?_,by rw[h6];exact k5,?_⟩;intro x Z;obtain⟨n,Q,rfl⟩:=List.mem_iff_getElem.1 Z;have z:n<m.es.length:=by simp only at Q;omega
 obtain⟨q1,_⟩:=hc n m.es[n] _ (cm z) (cm Q);rw[q1];exact k4 _ (List.getElem_mem _);intro D j x y v a1 a2 a3;have z:D<m.es.length:=by have:=(ci.1 a1).1;simp only at this;omega
 obtain⟨q1,q2⟩:=hc D m.es[D] x (cm z) a1;have K:j<m.es[D].length:=by have:=(ci.1 a2).1;omega
 have hv:=k6 D j m.es[D] m.es[D][j] v (cm z) (cm K) a3;rcases q2 j _ y (cm K) a2 with rfl|⟨d,rfl,E⟩;exact(hv.step O).step step;exact .d (I _ _ _ E hv);rw[h7 A];rcases R.blk i m s with k|⟨g,J,k2⟩;exact .inl k;exact .inr ⟨g,J,k2.step step rfl⟩;obtain⟨m,s,_⟩:=p i o h;exact R.mine i m g s B
section
variable {P:Program}
def et(n:Nat)(v a:AV):Prop:=a=v∨a=.any∨((v=.nil∨∃e,v=.d (.rof e []))∧((∃id,id<n∧a=.own id 0 0 0)∨∃e,a=.d (.ro e [])))
theorem Yi{n:Nat}{v b:AV}(h:et n v b){w:World}{S:Nat→Prop}{σ:Nat→Option Nat}{hp:Hp}{x:Value}(a:AIs w S σ hp (fun i=>i<n) v x):AIs w S σ hp (fun i=>i<n) b x:=by
 rcases h with rfl|rfl|⟨h,g⟩;exact a;exact .any _;have own:∀A,AIs w S σ hp (fun i=>i<n) b (.slice A 0 0):=fun A=>by
  rcases g with ⟨id,c,rfl⟩|⟨e,rfl⟩;exact .own id 0 0 0 A 0 c (cL _) (fun _=>rfl) fun b2 j=>⟨Nat.zero_le _,fun _=>⟨cL _,cL _,fun h=>aq⟩⟩;exact .d (.ro e [] A 0 (fun _ _=>undef) aw aw aw aw aw)
 rcases h with rfl|⟨e,rfl⟩;cases a with
 |nil=>exact own none
 ·cases a with
  |d a =>
   cases a with
   |rof _ _ A vs h1 g h3 h4=>exact own A
theorem abu{st:St}{L:Nat}{b:Blk}{es':List (List AV)}(W:lk L st.hp=some b)(hz:b.e≠0)(hl:es'.length=b.es.length)
  (hc:∀(i:Nat)(x O:List AV),b.es[i]?=some x→es'[i]?=some O→O.length=x.length∧∀(j:Nat)(v T:AV),x[j]?=some v→O[j]?=some T→et st.nx v T):Wk st ⟨st.fr,bV L ⟨b.ty,b.e,es'⟩ st.hp,st.nx⟩:=by
 intro c a w hs;obtain⟨h1,h2,σ,q,hf,z⟩:=hs;have l:∀i k,lk i (bV L ⟨b.ty,b.e,es'⟩ st.hp)=some k→∃p,lk i st.hp=some p∧k.ty=p.ty∧k.e=p.e∧k.es.length=p.es.length∧(i≠L→k=p)∧(i=L→k=⟨b.ty,b.e,es'⟩∧p=b):=by
  intro i k h;rw[kW]at h;by_cases m:i=L;subst m;rw[if_pos rfl,W]at h;simp only[Option.map_some,Option.some.injEq]at h;subst h;exact⟨b,W,rfl,rfl,hl,fun e=>absurd rfl e,fun _=>⟨rfl,rfl⟩⟩;rw[if_neg m]at h;exact⟨k,h,rfl,rfl,rfl,fun _=>rfl,fun e=>absurd e m⟩
 have X:∀p,bQ c w σ st.hp p→bQ c w σ (bV L ⟨b.ty,b.e,es'⟩ st.hp) p:=fun p t=>⟨⟨t.1.1,fun id J g h u=>by
  obtain⟨d,o,_⟩:=l id J h
  exact t.1.2 id d g o u⟩,t.2⟩
 have step:Step w (bQ c w σ st.hp) σ st.hp (fun i=>i<st.nx) w (bQ c w σ (bV L ⟨b.ty,b.e,es'⟩ st.hp)) σ (bV L ⟨b.ty,b.e,es'⟩ st.hp) (fun i=>i<st.nx) :=
  ⟨X,fun _ _=>rfl,fun _ h=>h,fun id k _ h=>by
   obtain⟨d,o,A,D,Q,_⟩:=l id k h
   exact⟨d,o,D,A,aq,fun _ g u=>⟨u,fun _ h=>h⟩⟩⟩
 refine⟨h1,h2,σ,⟨fun i j Y Z g m B M G=>?_,fun i k h=>?_,fun i k h=>?_,fun i k g h u=>?_,q.os,q.tape,q.output,q.size,q.old⟩,fun n=>(hf n).step step,z.trans step⟩;obtain⟨d,o,_⟩:=l i Y m;obtain⟨b2,A,_⟩:=l j Z B;exact q.inj i j d b2 g o A M G;obtain⟨d,o,_⟩:=l i k h;exact q.lt i d o;obtain⟨d,o,A,D,Q,F,I⟩:=l i k h;rcases q.blk i d o with ⟨R,k2⟩|⟨g,R,H,k2,k3,k4,k5,V⟩;refine .inl ⟨R,?_⟩;by_cases m:i=L;obtain⟨rfl,rfl⟩:=I m;have:=k2.none hz;exact .inl (List.length_eq_zero_iff.1 (by rw[Q,this];rfl));rw[F m];exact k2;refine .inr ⟨g,R,H,by rw[A];exact k2,k3,?_,by rw[Q,D];exact k5,?_⟩;by_cases m:i=L;obtain⟨rfl,rfl⟩:=I m;intro x hx;obtain⟨n,S,rfl⟩:=List.mem_iff_getElem.1 hx;have r:n<d.es.length:=by simp only at S;omega
 obtain⟨U,_⟩:=hc n d.es[n] _ (cm r) (cm S);rw[U];exact k4 _ (List.getElem_mem _);rw[F m];exact k4;intro s j x y v C K E;rw[D]at E;by_cases m:i=L;obtain⟨rfl,rfl⟩:=I m;have r:s<d.es.length:=by have:=(ci.1 C).1;simp only at this;omega
 obtain⟨U,q2⟩:=hc s d.es[s] x (cm r) C;have B:j<d.es[s].length:=by have:=(ci.1 K).1;omega
 have hv:=V s j d.es[s] d.es[s][j] v (cm r) (cm B) E;exact(Yi (q2 j _ y (cm B) K) hv).step step;rw[F m]at C;exact(V s j x y v C K E).step step;obtain⟨d,o,_⟩:=l i k h;exact q.mine i d g o u
def OH(n:Nat)(x a:List AV):Prop:=a.length=x.length∧∀(j:Nat)(v b:AV),x[j]?=some v→a[j]?=some b→et n v b
theorem K6{n:Nat}(l r:List AV){a a':AV}(h:et n a a'):OH n (l++a::r) (l++a'::r):=by
 refine⟨aw,fun j v g c b=>?_⟩;rcases Nat.lt_or_ge j l.length with d|d;rw[List.getElem?_append_left d]at c b;rw[c]at b;exact .inl (Option.some.inj b).symm;rw[dn d]at c b;cases e:j-l.length with
 |zero =>
  rw[e]at c b;simp at c b;subst c;subst b;exact h
 |succ k =>
  rw[e]at c b;simp at c b;rw[c]at b;exact .inl (Option.some.inj b).symm
theorem Yj{st:St}{L:Nat}{ty:TypeId}{e:Nat}{x b:List AV}(d:lk L st.hp=some ⟨ty,e,[x]⟩)(g:e≠0)(h:OH st.nx x b):Wk st ⟨st.fr,bV L ⟨ty,e,[b]⟩ st.hp,st.nx⟩ :=
 abu d g rfl fun i y j a c=>by
  cases i with
  |zero=>simp at a c;subst a;subst c;exact h
  |succ i=>simp at a
end
def rE(n:Nat)(f:Nat→Nat):Prop:=∀i j,i<n→j<n→f i=f j→i=j
def lR(n:Nat)(f g:Nat→Nat):List (Nat×Nat):=(List.range n).map fun i=>(f i,g i)
theorem dJ{n:Nat}{f g:Nat→Nat}{p:Nat×Nat}:p∈lR n f g↔∃i,i<n∧p=(f i,g i):=by
 simp only[lR,List.mem_map,List.mem_range];constructor;rintro⟨i,h,rfl⟩;exact⟨i,h,rfl⟩;rintro⟨i,h,rfl⟩;exact⟨i,h,rfl⟩
theorem a8(n:Nat):rE n id:=fun i j _ _ h=>h
theorem abv{n:Nat}{f g:Nat→Nat}(e:rE n f)(c:rE n g):gB (lR n f g)=true:=by
 refine fa.2 fun p hp=>fa.2 fun q d=>?_;obtain⟨i,b,rfl⟩:=dJ.1 hp;obtain⟨j,a,rfl⟩:=dJ.1 d;rw[beq_iff_eq,Bool.eq_iff_iff,beq_iff_eq,beq_iff_eq];exact⟨fun h=>by rw[e i j b a h],fun h=>by rw[c i j b a h]⟩
theorem I0(n:Nat)(f g:Nat→Nat):iV (lR n f g)=lR n g f:=by simp[iV,lR]
theorem OI{n:Nat}{f:Nat→Nat}(g:Nat→Nat)(e:rE n f){i:Nat}(hi:i<n):lk (f i) (lR n f g)=some (g i) :=
 nc (fun a b c m l=>by
  obtain⟨i,hi,k⟩:=dJ.1 m;obtain⟨j,h,d⟩:=dJ.1 l;cases k;simp only[Prod.mk.injEq]at d;obtain⟨d,rfl⟩:=d
  rw[e i j hi h d]) (dJ.2 ⟨i,hi,rfl⟩)
theorem wG{n:Nat}{f:Nat→Nat}(g:Nat→Nat)(d:Nat)(a:rE n f){i:Nat}(hi:i<n):cn (lR n f g) d (f i)=g i:=Bq (OI g a hi)
def hpL(n:Nat)(f:Nat→Nat)(b:Nat→Blk):Hp:=(List.range n).map fun i=>(f i,b i)
theorem nX{n:Nat}{f:Nat→Nat}{b:Nat→Blk}{p:Nat×Blk}:p∈hpL n f b↔∃i,i<n∧p=(f i,b i):=by
 simp only[hpL,List.mem_map,List.mem_range];constructor;rintro⟨i,h,rfl⟩;exact⟨i,h,rfl⟩;rintro⟨i,h,rfl⟩;exact⟨i,h,rfl⟩
theorem x5{α:Type}{n:Nat}{v:α}:∀{l:List (Nat×α)},(n,v)∈l→(∀u,(n,u)∈l→u=v)→lk n l=some v
 | (m,u) :: t,h,hu=>by
  simp only[lk];by_cases e:m=n;subst e;rw[if_pos rfl,hu u (dz ..)];rw[if_neg e];rcases d_.1 h with h|h;cases h;exact absurd rfl e;exact x5 h fun u a=>hu u (cS _ a)
theorem BP{n:Nat}{f:Nat→Nat}(b:Nat→Blk)(c:rE n f){i:Nat}(hi:i<n):lk (f i) (hpL n f b)=some (b i) :=
 x5 (nX.2 ⟨i,hi,rfl⟩) fun u a=>by
  obtain⟨j,d,e⟩:=nX.1 a;simp only[Prod.mk.injEq]at e;obtain⟨e,rfl⟩:=e;rw[c i j hi d e]
theorem Wc{F:Nat→Option Blk}{x y:Nat}:∀{l:List (Nat×Nat)},(x,y)∈l→(∀z,(z,y)∈l→z=x)→(∃v,F x=some v)→lk y (l.filterMap fun p=>(F p.1).map fun b=>(p.2,b))=F x
 | (a,c) :: t,h,hu,hv=>by
  obtain⟨v,d⟩:=hv;by_cases e:c=y;subst e;obtain rfl:a=x:=hu a (dz ..);rw[List.filterMap_cons_some (b:=(c,v)) (by simp[d])];simp[lk,d];have k:(x,y)∈t:=by
   rcases d_.1 h with h|h;cases h;exact absurd rfl e;exact h
  have i:=Wc (F:=F) k (fun z j=>hu z (cS _ j)) ⟨v,d⟩;cases g:F a with
  |none=>rw[List.filterMap_cons_none (by simp[g])];exact i
  |some w =>
   rw[List.filterMap_cons_some (b:=(c,w)) (by simp[g])];simp only[lk,if_neg e];exact i
theorem G3{F:Nat→Option Blk}{y:Nat}:∀{l:List (Nat×Nat)},(∀x,(x,y) ∉ l)→lk y (l.filterMap fun p=>(F p.1).map fun b=>(p.2,b))=none:=by
 intro l h;cases g:lk y (l.filterMap fun p=>(F p.1).map fun b=>(p.2,b))with
 |none=>rfl
 | some v =>
  have:=bR g;rw[List.mem_filterMap]at this;obtain⟨⟨a,c⟩,i,d⟩:=this;simp only at d;cases e:F a with
  |none=>rw[e]at d;simp at d
  |some w =>
   rw[e]at d;simp only[Option.map_some,Option.some.injEq,Prod.mk.injEq]at d;obtain⟨rfl,_⟩:=d;exact absurd i (h a)
section
variable {P:Program} {n:Nat} {f:Nat→Nat} {news:List (Nat × Nat)} {N:Nat} {hp hp':Hp}
def Ar(n:Nat)(f:Nat→Nat)(news:List (Nat×Nat))(N:Nat):Nat→Nat:=cn (bK (lR n id f) news N) (N+31)
theorem EI(a:de (lR n id f) news=true):(∀c j,(c,j)∈news→j<31∧n≤c)∧gB news=true:=by
 simp only[de,Bool.and_eq_true,fa,decide_eq_true_eq,bne_iff_ne,ne_eq]at a;refine⟨fun c j h=>⟨(a.2 _ h).1,?_⟩,a.1⟩;rcases Nat.lt_or_ge c n with d|b;exact absurd rfl ((a.2 _ h).2 (c,f c) (dJ.2 ⟨c,d,rfl⟩));exact b
theorem OJ(m:de (lR n id f) news=true)(p:rE n f)(l:∀i,i<n→f i<N){x z y:Nat}(d:(x,y)∈bK (lR n id f) news N)(b:(z,y)∈bK (lR n id f) news N):z=x:=by
 obtain⟨r,q⟩:=EI m;rcases cD.1 d with d|d<;>rcases cD.1 b with b|b;obtain⟨i,h,e⟩:=dJ.1 d;obtain⟨j,g,a⟩:=dJ.1 b;cases e;simp only[Prod.mk.injEq,id_eq]at a⊢;obtain⟨o,a⟩:=a;rw[o];exact(p _ _ h g a).symm;obtain⟨i,h,e⟩:=dJ.1 d;obtain⟨⟨c,j⟩,g,a⟩:=List.mem_map.1 b;cases e;simp only[Prod.mk.injEq]at a;have:=l i h;omega;obtain⟨i,h,e⟩:=dJ.1 b;obtain⟨⟨c,j⟩,g,a⟩:=List.mem_map.1 d;cases e;simp only[Prod.mk.injEq]at a;have:=l i h;omega;obtain⟨⟨c,j⟩,g,e⟩:=List.mem_map.1 d;obtain⟨⟨c2,s⟩,k,a⟩:=List.mem_map.1 b;simp only[Prod.mk.injEq]at e a;obtain⟨rfl,e⟩:=e;obtain⟨rfl,a⟩:=a;exact((hJ q g k).2 aq).symm
theorem I1(m:de (lR n id f) news=true){x y z:Nat}(d:(x,y)∈bK (lR n id f) news N)(b:(x,z)∈bK (lR n id f) news N):y=z:=by
 obtain⟨k,o⟩:=EI m;rcases cD.1 d with d|d<;>rcases cD.1 b with b|b;obtain⟨i,l,e⟩:=dJ.1 d;obtain⟨j,g,a⟩:=dJ.1 b;cases e;simp only[Prod.mk.injEq,id_eq]at a;obtain⟨rfl,rfl⟩:=a;rfl;obtain⟨i,l,e⟩:=dJ.1 d;obtain⟨⟨c,j⟩,g,a⟩:=List.mem_map.1 b;cases e;simp only[Prod.mk.injEq,id_eq]at a;have:=(k _ _ g).2;omega;obtain⟨i,l,e⟩:=dJ.1 b;obtain⟨⟨c,j⟩,g,a⟩:=List.mem_map.1 d;cases e;simp only[Prod.mk.injEq,id_eq]at a;have:=(k _ _ g).2;omega;obtain⟨⟨c,j⟩,g,e⟩:=List.mem_map.1 d;obtain⟨⟨c2,p⟩,h,a⟩:=List.mem_map.1 b;simp only[Prod.mk.injEq]at e a;obtain⟨rfl,rfl⟩:=e;obtain⟨rfl,rfl⟩:=a;rw[(hJ o g h).1 rfl]
theorem BQ(d:de (lR n id f) news=true){i:Nat}(hi:i<n):Ar n f news N i=f i :=
 Bq (nc (fun a b c g e=>I1 d g e) (List.mem_append_left _ (dJ.2 ⟨i,hi,rfl⟩)))
theorem BR(d:de (lR n id f) news=true){c j:Nat}(h:(c,j)∈news):Ar n f news N c=N+j :=
 Bq (nc (fun a b c g e=>I1 d g e) (List.mem_append_right _ (List.mem_map.2 ⟨(c,j),h,rfl⟩)))
theorem I2(h:de (lR n id f) news=true)(j:rE n f)(k:∀i,i<n→f i<N){x y:Nat}(d:(x,y)∈bK (lR n id f) news N){b:Blk}(c:lk x hp'=some b) :
  lk y (cj (lR n id f) news N hp' hp)=some (b.r (Ar n f news N)):=by
 have:=Wc (F:=fun a=>(lk a hp').map fun b=>b.r (Ar n f news N)) d (fun z g=>OJ h j k d g) ⟨b.r (Ar n f news N),by simp[c]⟩;simp only[c,Option.map_some]at this;unfold cj;rw[oZ];have e:(bK (lR n id f) news N).filterMap (fun p=>(lk p.1 hp').map fun b=>(p.2,b.r (cn (bK (lR n id f) news N) (N+31))))=(bK (lR n id f) news N).filterMap (fun p=>((lk p.1 hp').map fun b=>b.r (Ar n f news N)).map fun b=>(p.2,b)):=by
  congr 1;funext p;cases lk p.1 hp'<;>rfl
 rw[e,this]
theorem TU(s:∀i,i<n→f i<N){y:Nat}(q:y<N)(l:∀i,i<n→f i≠y):lk y (cj (lR n id f) news N hp' hp)=lk y hp:=by
 have g:∀x,(x,y) ∉ bK (lR n id f) news N:=by
  intro x d;rcases cD.1 d with d|d;obtain⟨i,k,e⟩:=dJ.1 d;cases e;exact l i k rfl;obtain⟨⟨c,j⟩,r,m⟩:=List.mem_map.1 d;simp only[Prod.mk.injEq]at m;omega
 have:=G3 (F:=fun a=>(lk a hp').map fun b=>b.r (Ar n f news N)) g;unfold cj;rw[oZ];have e:(bK (lR n id f) news N).filterMap (fun p=>(lk p.1 hp').map fun b=>(p.2,b.r (cn (bK (lR n id f) news N) (N+31))))=(bK (lR n id f) news N).filterMap (fun p=>((lk p.1 hp').map fun b=>b.r (Ar n f news N)).map fun b=>(p.2,b)):=by
  congr 1;funext p;cases lk p.1 hp'<;>rfl
 rw[e,this];simp only;rw[uh fun o=>!((lR n id f).map (·.2)).contains o,if_pos];simp only[Bool.not_eq_true',List.contains_eq_mem,decide_eq_false_iff_not,List.mem_map,not_exists,not_and];intro p h e;obtain⟨i,k,rfl⟩:=dJ.1 h;exact l i k e
end
section
variable {P:Program}
theorem EJ{c:Ctx}{hp d:Hp}{U:Nat→Prop}{σ:Nat→Option Nat}{w:World}(a:∀i b,lk i d=some b→lk i hp=some b)(e:Rel c hp U σ w) :
  Rel c d U σ w∧Step w (bQ c w σ hp) σ hp U w (bQ c w σ d) σ d U:=by
 have l:Step w (bQ c w σ hp) σ hp U w (bQ c w σ d) σ d U :=
  ⟨fun b h=>⟨⟨h.1.1,fun id o g u m=>h.1.2 id o g (a _ _ u) m⟩,h.2⟩,fun _ _=>rfl,fun _ h=>h,fun id s _ h=>⟨s,a _ _ h,rfl,rfl,cL _,fun _ g m=>⟨m,fun _ h=>h⟩⟩⟩
 refine⟨⟨fun i j p r g t q=>e.inj i j p r g (a _ _ t) (a _ _ q),fun i b h=>e.lt i b (a _ _ h),fun i b h=>?_,fun i b g h=>e.mine i b g (a _ _ h),e.os,e.tape,e.output,e.size,e.old⟩,l⟩;rcases e.blk i b (a _ _ h)with k|⟨g,v,k2⟩;exact .inl k;exact .inr ⟨g,v,k2.step l rfl⟩
theorem EK{g:FuncId}{args:List AV}{hp:Hp}{N:Nat}{K K':AV→Hp→Prop}(h:gx P g args hp N K')(s:∀r hp',K' r hp'→∃a,(∀i b,lk i a=some b→lk i hp'=some b)∧K r a):gx P g args hp N K:=by
 refine⟨h.1,fun c U σ w l k j m o=>(h.2 c U σ w l k j m o).mono fun e z u=>?_⟩;obtain⟨x,rfl,v,hp',σ',y,k2,k3,k4⟩:=u;obtain⟨a,q,p⟩:=s v hp' y;obtain⟨t,d⟩:=EJ q k2;exact⟨x,rfl,v,a,σ',p,t,k3.trans d,k4.step d⟩
theorem qf{n:Nat}{N:Nat}{hp:Hp}{g:FuncId}{args d:List AV}{K:AV→Hp→Prop}{Q:AV→Hp→Prop}{m:Hp}{b0:Nat→Blk}(f:Nat→Nat)(h:cZ P g n m d Q)(B:∀i b,lk i m=some b→i<n∧b=b0 i)(t:rE n f)(q:∀i,i<n→f i<N)
  (z:∀i,i<n→∃b,lk (f i) hp=some b∧b.e≠0∧b0 i=b.r (cn (lR n f id) n))
  (C:d=AV.R (cn (lR n f id) n) args) (news:List (Nat×Nat)) (o:de (lR n id f) news=true)
  (J:∀r hp',Q r hp'→∀a,(∀i,i<n→∀b,lk i hp'=some b→lk (f i) a=some (b.r (Ar n f news N)))→(∀c j,(c,j)∈news→∀b,lk c hp'=some b→lk (N+j) a=some (b.r (Ar n f news N))) →
   (∀y,y<N→(∀i,i<n→f i≠y)→lk y a=lk y hp)→∃hp2,(∀i b,lk i hp2=some b→lk i a=some b)∧K (r.r (Ar n f news N)) hp2):gx P g args hp N K:=by
 refine(EK (K':=fun v a=>∃hp2,(∀i b,lk i hp2=some b→lk i a=some b)∧K v hp2) ?_ fun r hp' D=>D);refine rh (lR n id f) h (abv (a8 n) t) ?_ ?_ ?_ ?_ ?_;intro p k;obtain⟨i,l,rfl⟩:=dJ.1 k;exact l;intro p k;obtain⟨i,l,rfl⟩:=dJ.1 k;obtain⟨b,u,x,_⟩:=z i l;exact⟨b,u,x⟩;intro i G l;obtain⟨w,rfl⟩:=B i G l;obtain⟨b,u,x,E⟩:=z i w;exact⟨f i,b,OI f (a8 n) w,u,by rw[I0];exact E⟩;rw[I0];exact C;intro r hp' F;refine⟨news,o,J r hp' F _ (fun i l b s=>?_) (fun c j I b s=>?_) (fun y A H=>?_)⟩;exact I2 o t q (List.mem_append_left _ (dJ.2 ⟨i,l,rfl⟩)) s;exact I2 o t q (List.mem_append_right _ (List.mem_map.2 ⟨(c,j),I,rfl⟩)) s;exact TU q A H
theorem nY{i:Nat}{Q:Hp}:∀{P:Hp},lk i (P++Q)=match lk i P with
  |some b=>some b
  |none=>lk i Q
 |[]=>rfl
 |(j,b)::P=>by
  simp only[List.cons_append,lk];split;rfl;exact nY
theorem G4{n:Nat}{f:Nat→Nat}{c:Nat}(hc:n≤c):de (lR n id f) [(c,0)]=true:=by
 simp only[de,gB,List.all_cons,List.all_nil,Bool.and_true,Bool.and_eq_true,beq_self_eq_true,true_and,decide_eq_true_eq,fa];refine⟨by decide,fun p hp=>?_⟩;obtain⟨i,a,rfl⟩:=dJ.1 hp;simp only[id,bne_iff_ne,ne_eq];omega
def vS{S:Type}(n:Nat)(b:S→(Nat→Nat)→Nat→Blk)(s:S)(f:Nat→Nat)(hp:Hp):Prop:=∀i,i<n→lk (f i) hp=some (b s f i)
def jD{S:Type}(n:Nat)(b:S→(Nat→Nat)→Nat→Blk)(s:S)(f:Nat→Nat):Hp:=hpL n f (b s f)
def K7{S:Type}(n:Nat)(b:S→(Nat→Nat)→Nat→Blk):Prop:=(∀s f ρ g i,i<n→(∀j,j<n→ρ (f j)=g j)→(b s f i).r ρ=b s g i)∧∀s f i,i<n→(b s f i).e≠0
def dB{S:Type}(P:Program)(n:Nat)(b:S→(Nat→Nat)→Nat→Blk)(g:FuncId)(s:S)(args:List AV)(R:AV→S→Prop):Prop :=
 cZ P g n (jD n b s id) args fun a hp'=>∃s',R a s'∧vS n b s' id hp'
theorem I3{S:Type}{n:Nat}{b:S→(Nat→Nat)→Nat→Blk}{s:S}:∀i x,lk i (jD n b s id)=some x→i<n∧x=b s id i:=by
 intro i x h;obtain⟨j,a,e⟩:=nX.1 (bR h);cases e;exact⟨a,rfl⟩
theorem vi{S:Type}{n N:Nat}{b:S→(Nat→Nat)→Nat→Blk}(t:K7 n b){f:Nat→Nat}{Pp:Hp}{g:FuncId}{s:S}{args a:List AV}{R:AV→S→Prop}{K:AV→Hp→Prop}(h:dB P n b g s a R)(u:rE n f)(G:∀j,j<n→f j<N)
  (A:∀p,p∈Pp→p.1<N∧∀j,j<n→f j≠p.1) (C:a=AV.R (cn (lR n f id) n) args) (J:∀v m ρ,R v m→(∀j,j<n→ρ j=f j)→K (v.r ρ) (Pp++jD n b m f)):gx P g args (Pp++jD n b s f) N K:=by
 have w:∀j,j<n→cn (lR n f id) n (f j)=j:=fun j c=>wG id n u c;have q:de (lR n id f) []=true:=rfl;have y:vS n b s f (Pp++jD n b s f):=fun j c=>by
  rw[nY];cases l:lk (f j) Pp with
  |none=>exact BP _ u c
  |some x=>exact absurd rfl ((A _ (bR l)).2 j c)
 refine qf (n:=n) (b0:=b s id) f h (fun i x k=>I3 i x k) u G (fun j c=>⟨_,y j c,t.2 _ _ _ c,(t.1 s f _ id j c w).symm⟩) C [] q ?_;rintro r hp'⟨m,B,z⟩E I L H;have o:∀j,j<n→Ar n f [] N (id j)=f j:=fun j c=>BQ q c;refine⟨_,fun i x k=>?_,J _ m _ B o⟩;rw[nY]at k;cases l:lk i Pp with
 |some x' =>
  rw[l]at k;cases k;obtain⟨F,D⟩:=A _ (bR l);rw[H i F D,nY,l]
 |none =>
  rw[l]at k;obtain⟨j,d,e⟩:=nX.1 (bR k);cases e;have:=I j d _ (z j d);rw[t.1 m id _ f j d o]at this;exact this
theorem wH{S:Type}{n N:Nat}{b:S→(Nat→Nat)→Nat→Blk}(c:K7 n b){f:Nat→Nat}{Pp:Hp}{g:FuncId}{s:S}{args a:List AV}{R:AV→S→Prop}{K:AV→Hp→Prop}(h:dB P n b g s a R)(i:rE n f)(e:∀j,j<n→f j<N)
  (l:∀p,p∈Pp→p.1<N∧∀j,j<n→f j≠p.1) (d:a=AV.R (cn (lR n f id) n) args) (k:∀v s' ρ,R v s'→(∀j,j<n→ρ j=f j)→K (v.r ρ) (Pp++jD n b s' f)):uX P g args (Pp++jD n b s f) N K:=.inl (vi c h i e l d k)
end
inductive Jk where
 |n
 |a
 |i (x:List Nat)
def avJ:Jk→AV
 | .n=>.nil
 | .a=>.any
 | .i x=>.d (nb x)
def qh(x:bm):List AV:=[.d (nb x)]
def Yk(j:Jk):List AV:=[avJ j]
def dy(l:List bm)(J:List Jk):List (List AV):=l.map qh++J.map Yk
theorem ki(l:List bm)(J:List Jk):(dy l J).length=l.length+J.length:=by simp[dy]
theorem mA(ρ:Nat→Nat)(l:List bm)(J:List Jk):aQ ρ (dy l J)=dy l J:=by
 simp only[aQ,dy,List.map_append,List.map_map];congr 1;refine List.map_congr_left fun j _=>?_;cases j<;>rfl
theorem mB(n:Nat)(l:List bm)(J:List Jk):∀r,r∈dy l J→∀v,v∈r→v.l n:=by
 intro r b v a;rcases cD.1 b with h|h;obtain⟨x,_,rfl⟩:=List.mem_map.1 h;simp only[qh,d_,List.mem_nil_iff,or_false]at a;subst a;trivial;obtain⟨x,_,rfl⟩:=List.mem_map.1 h;simp only[Yk,d_,List.mem_nil_iff,or_false]at a;subst a;cases x<;>trivial
theorem x7{l:List bm}{J:List Jk}{k:Nat}{x:bm}(h:l[k]?=some x):(dy l J)[k]?=some [.d (nb x)]:=by
 unfold dy;rw[List.getElem?_append_left (by have:=(ci.1 h).1;simpa using this),cU,h];rfl
theorem pj{l:List bm}{J:List Jk}{k:Nat}(h:k≤l.length):(dy l J).take k=(l.take k).map qh:=by
 unfold dy;rw[List.take_append_of_le_length (by simpa using h),List.map_take]
theorem I4{l:List bm}{j:Jk}{J:List Jk}(x:bm):(l.map qh)++qh x::(dy l (j::J)).drop (l.length+1)=dy (l++[x]) J:=by
 unfold dy;rw[List.drop_append,List.length_map,List.drop_of_length_le aw,Nat.add_sub_cancel_left];simp
theorem I5{l:List bm}(x:bm):(l.map qh)++[qh x]=dy (l++[x]) []:=by simp[dy]
theorem I6{l:List bm}{J:List Jk}(k:Nat)(h:k≤l.length):dy l J=dy (l.take k) ((l.drop k).map Jk.i++J):=by
 have e:(l.drop k).map qh=((l.drop k).map Jk.i).map Yk:=by
  rw[List.map_map];rfl
 unfold dy;rw[List.map_append,←e,←cA,←List.map_append,List.take_append_drop]
structure McS where
 m:Mc
 J:List Jk
 H:List Jk
def bA:McS→(Nat→Nat)→Nat→Blk
 |⟨m,J,H⟩,f,0=>⟨283,3,[[.own (f 1) 0 m.main.length (m.main.length+J.length),.own (f 2) 0 m.alt.length (m.alt.length+H.length),.d (.int .i64 m.e)]]⟩
 |⟨m,J,H⟩,f,1=>⟨31,1,dy m.main J⟩
 |⟨m,J,H⟩,f,_=>⟨31,1,dy m.alt H⟩
theorem bT:K7 3 bA:=by
 refine⟨fun s f ρ g i a h=>?_,fun s f i a=>?_⟩
 ·obtain⟨m,J,H⟩:=s
  match i with
  |0=>simp[bA,Blk.r,aQ,AV.R,AV.r,h 1 aq,h 2 aq]
  |1=>simp only[bA,Blk.r,mA]
  |i+2=>simp only[bA,Blk.r,mA]
 ·obtain⟨m,J,H⟩:=s
  match i with
  |0=>exact Nat.succ_ne_zero 2
  |1=>exact Nat.succ_ne_zero 0
  |i+2=>exact Nat.succ_ne_zero 0
theorem cq(s:McS)(f:Nat→Nat):jD 3 bA s f=[(f 0,bA s f 0),(f 1,bA s f 1),(f 2,bA s f 2)]:=rfl
theorem bf{m:Mc}{J H:List Jk}{hp:Hp}(a:lk 0 hp=some ⟨283,3,[[.own 1 0 m.main.length (m.main.length+J.length),.own 2 0 m.alt.length (m.alt.length+H.length),.d (.int .i64 m.e)]]⟩)
  (g:lk 1 hp=some ⟨31,1,dy m.main J⟩) (b:lk 2 hp=some ⟨31,1,dy m.alt H⟩):vS 3 bA ⟨m,J,H⟩ id hp:=by
 intro i c
 match i,c with
 |0,_=>exact a
 |1,_=>exact g
 |2,_=>exact b
theorem eU{N:Nat}{Pp:Hp}{g:FuncId}{s:McS}{a:List AV}{R:AV→McS→Prop}{K:AV→Hp→Prop}(h:dB prog 3 bA g s (.ptr 0 0 0 1::a) R)(i:3≤N)(c:∀p,p∈Pp→p.1<N∧3≤p.1)(b:∀ ρ,AV.R ρ a=a)
  (d:∀v s' ρ,R v s'→(∀j,j<3→ρ j=j)→K (v.r ρ) (Pp++jD 3 bA s' id)):uX prog g (.ptr 0 0 0 1::a) (Pp++jD 3 bA s id) N K:=by
 refine wH bT h (a8 3) (fun j e=>by show j<N;omega) (fun p hp=>⟨(c p hp).1,fun j e=>by have:=(c p hp).2;show j≠p.1;omega⟩) ?_ d;rw[AV.R,b,AV.r];rfl
theorem pn{α β:Type}{f:α→β}{l:List α}{k:Nat}{x:α}(h:l[k]?=some x):(l.take k).map f++[f x]=(l.take (k+1)).map f:=by
 rw[List.take_add_one,h];simp
theorem OK{m:Mc}{J H:List Jk}{hp:Hp}{nx N:Nat}(c:lk 0 hp=some ⟨283,3,[[.own 1 0 m.main.length (m.main.length+J.length),.own 2 0 m.alt.length (m.alt.length+H.length),.d (.int .i64 m.e)]]⟩)
  (h:lk 1 hp=some ⟨31,1,dy m.main J⟩) (g:lk 2 hp=some ⟨31,1,dy m.alt H⟩) (j:3≤N) (i:True) :
  ∀p,p∈[(0,(⟨283,3,[[.own 1 0 m.main.length (m.main.length+J.length),.own 2 0 m.alt.length (m.alt.length+H.length),.d (.int .i64 m.e)]]⟩:Blk)),(1,⟨31,1,dy m.main J⟩),(2,⟨31,1,dy m.alt H⟩)] →
   (lk p.1 hp=some p.2∨(nx≤p.1∧p.2.es=[]))∧p.1<N∧∀r,r∈p.2.es→∀v,v∈r→v.l N:=by
 intro p hp';simp only[d_,List.mem_nil_iff,or_false]at hp';rcases hp' with rfl|rfl|rfl;refine⟨.inl c,by show 0<N;omega,?_⟩;intro r a v b;simp only[d_,List.mem_nil_iff,or_false]at a;subst a;simp only[d_,List.mem_nil_iff,or_false]at b;rcases b with rfl|rfl|rfl;show 1<N;omega;show 2<N;omega;trivial;exact⟨.inl h,by show 1<N;omega,mB _ _ _⟩;exact⟨.inl g,by show 2<N;omega,mB _ _ _⟩
theorem rF(m:Mc)(J H:List Jk)(x:Int):dB prog 3 bA 257 ⟨m,J,H⟩ [.ptr 0 0 0 1,.d (.int .i64 x)] (fun v a=>a=⟨jm x m,J,H⟩):=by
 refine ap func257 (by kernel_rfl) rfl ntmps257 (rs:=[]) rfl (dN rfl) (by decide) ?_;rw[cq];simp only[bA,id];by_cases h:m.e=0
 ·simp[go_sem,h];refine bf ?_ ?_ ?_
  simp[jm,h,lk];simp[jm,h,lk];simp[jm,h,lk]
 ·simp[go_sem,h];refine bf ?_ ?_ ?_
  simp[jm,h,lk];simp[jm,h,lk];simp[jm,h,lk]
theorem mC(m:Mc)(J H:List Jk)(n:Nat):dB prog 3 bA 248 ⟨m,J,H⟩ [.ptr 0 0 0 1,.d (.int .i64 (n:Int))] (fun v c=>v=.d (.bool (decide ((aT n m).e=0)))∧c=⟨aT n m,J,H⟩):=by
 refine ap func248 (by kernel_rfl) rfl ntmps248 (rs:=[.tmp 4]) rfl (dN rfl) (by decide) ?_;rw[cq];simp only[bA,id];by_cases h:m.main.length<n
 ·have b:(m.main.length:Int)<(n:Int):=aq;simp[go_sem,b];refine eU (Pp:=[]) (s:=⟨m,J,H⟩) (rF m J H 12) aq aw (by simp[AV.R,AV.r]) ?_;rintro v c ρ rfl g;rw[cq];have a:aT n m=jm 12 m:=if_pos h;rw[a];generalize jm 12 m=m' at *;simp[go_sem,bA,ah];refine bf ?_ ?_ ?_<;>rfl
 ·have b:¬(m.main.length:Int)<(n:Int):=aq;have a:aT n m=m:=if_neg h;rw[a];simp[go_sem,b,ah];refine bf ?_ ?_ ?_<;>rfl
theorem OL(m:Mc)(J H:List Jk)(n:Nat)(x:bm)(j:m.main[m.main.length-1-n]?=some x)(p:n<m.main.length)(q:m.main.length≤1000000):dB prog 3 bA 249 ⟨m,J,H⟩ [.ptr 0 0 0 1,.d (.int .i64 (n:Int))] (fun v g=>v=.d (nb x)∧g=⟨m,J,H⟩):=by
 refine ap func249 (by kernel_rfl) rfl ntmps249 (rs:=[.tmp 4]) rfl (dN rfl) (by decide) ?_;rw[cq];simp only[bA,id];have h:IntKind.i64.wrap ((m.main.length:Int)-1)=((m.main.length-1:Nat):Int):=by rw[IntWalk.i64_in _ aq];omega
 have l:IntKind.i64.wrap (((m.main.length-1:Nat):Int)-(n:Int))=((m.main.length-1-n:Nat):Int):=by rw[IntWalk.i64_in _ aq];omega
 have c:=x7 (J:=J) j;have i:m.main.length-1-n<m.main.length:=aq;have a:((m.main.length-1-n:Nat):Int)<(m.main.length:Int):=aq;have o:∀b:m.main.length-1-n<(dy m.main J).length,(dy m.main J)[m.main.length-1-n]=[.d (nb x)]:=fun b=>Option.some.inj ((cm b).symm.trans c);generalize m.main.length-1-n=k at *;simp[go_sem];refine cK [0,1,2,3,4,5,6,7,8,9,10,11,12,13,14] [] 0 (k:=15) ?_;intro G e;simp[go_sem,h,l,c,a,ki];refine e _ _ ?_;clear e G;simp[go_sem,ah];refine bf ?_ ?_ ?_<;>rfl
theorem jE{n:Nat}{m:Mc}(h:(aT n m).e=0):n≤m.main.length∧m.e=0∧aT n m=m:=by
 unfold aT at h⊢;split at h;unfold jm at h;split at h;simp at h;rename_i a;exact absurd h a;rename_i a;exact⟨aq,h,if_neg a⟩
theorem I7{l:List bm}(h:1≤l.length):l[l.length-1]?=some (l.getLastD []):=by
 rw[List.getLastD_eq_getLast?,List.getLast?_eq_getElem?];cases a:l[l.length-1]? with
 |none=>rw[List.getElem?_eq_none_iff]at a;omega
 |some x=>rfl
theorem rG(m:Mc)(J H:List Jk)(x:bm)(c:m.main[m.main.length-1]?=some x)(h:1≤m.main.length)(b:m.main.length≤1000000):dB prog 3 bA 249 ⟨m,J,H⟩ [.ptr 0 0 0 1,.d (.int .i64 0)] (fun v a=>v=.d (nb x)∧a=⟨m,J,H⟩) :=
 OL m J H 0 _ c aq b
theorem TV{l:List bm}{x:bm}(h:l[l.length-1]?=some x):∃a,l=a++[x]:=by
 rcases b:l.reverse with _|⟨y,r⟩;have:l=[]:=by simpa using b
 subst this;simp at h;have e:l=r.reverse++[y]:=by rw[←List.reverse_reverse l,b,List.reverse_cons]
 subst e;simp at h;subst h;exact⟨_,rfl⟩
theorem As(m:Mc)(J H:List Jk)(p:m.main.length≤1000000):dB prog 3 bA 243 ⟨m,J,H⟩ [.ptr 0 0 0 1]
  (fun v g=>(v=if(aT 1 m).e=0 then .d (nb (dY m).1)else .nil)∧∃J',g=⟨(dY m).2,J',H⟩):=by
 refine ap func243 (by kernel_rfl) rfl ntmps243 (rs:=[.tmp 2]) rfl (dN rfl) (by decide) ?_;rw[cq];simp only[bA,id];simp[go_sem];refine eU (Pp:=[]) (s:=⟨m,J,H⟩) (mC m J H 1) aq aw (by simp[AV.R,AV.r]) ?_;rintro v g ρ ⟨rfl,rfl⟩ w;rw[cq];by_cases h:(aT 1 m).e=0
 ·obtain⟨o,q,t⟩:=jE h;have l:=I7 o;have c:dY m=(m.main.getLastD [],⟨m.main.dropLast,m.alt,m.e⟩):=if_pos h;rw[t]at *;rw[c];obtain⟨b,alt,e⟩:=m;simp only at o q p l;subst q;generalize b.getLastD []=x at *;have u:IntKind.i64.wrap ((b.length:Int)-1)=((b.length-1:Nat):Int):=by rw[IntWalk.i64_in _ aq];omega
  have j:((b.length-1:Nat):Int)≤(b.length:Int):=aq;simp[go_sem,AV.r,bA];refine eU (Pp:=[]) (s:=⟨⟨b,alt,0⟩,J,H⟩) (rG ⟨b,alt,0⟩ J H x l o p) aq aw (by simp[AV.R,AV.r]) ?_;rintro v g ρ ⟨rfl,rfl⟩ w;rw[cq];simp[go_sem,AV.r,bA,nb];refine cK [0,1,2,3,4,5,6,7,8,9,10,11,12,13] [(14,[])] 0 (k:=15) ?_;intro G r;simp[go_sem,u,j];refine r _ _ ?_;clear r G;simp[go_sem,ah];obtain⟨a,rfl⟩:=TV l;refine⟨_,⟨.i x::J,rfl⟩,bf ?_ ?_ ?_⟩
  simp[lk];omega;simp[lk,dy,qh,Yk,avJ];rfl
 ·have c:dY m=([],aT 1 m):=if_neg h;rw[c];generalize aT 1 m=m' at *;simp[go_sem,AV.r,bA,h,ah];exact⟨_,⟨J,rfl⟩,by refine bf ?_ ?_ ?_<;>rfl⟩
theorem iq (m:Mc) (J H:List Jk) (x:bm) (s:m.main.length≤1000000) (t:x.length≤1000000):dB prog 3 bA 222 ⟨m,J,H⟩ [.ptr 0 0 0 1,.d (.ro 1 [[nb x]])]
    (fun v p=>∃J',p=⟨fj [x] m,J',H⟩):=by
  refine ap func222 (by kernel_rfl) rfl ntmps222 (rs:=[]) rfl (dN rfl) (by decide) ?_;obtain⟨a,alt,e⟩:=m;simp only at s;rw[cq];simp only[bA,id,fj];simp[go_sem]
  refine av (fun u:Nat×List bm×List Jk=>⟨[(0,.ptr 0 0 0 1),(6,.d (.ro 1 [[nb x]])),(7,.d (.int .i64 1)),(8,.d (.int .i64 (u.1:Int)))],
      [(0,⟨283,3,[[.own 1 0 u.2.1.length (u.2.1.length+u.2.2.length),.own 2 0 alt.length (alt.length+H.length),.d (.int .i64 e)]]⟩),(1,⟨31,1,dy u.2.1 u.2.2⟩),(2,⟨31,1,dy alt H⟩)],9000⟩)
    (fun u=>(u.1=0∧u.2=(a,J))∨(u.1=1∧u.2.1=a++[x])) (fun u=>1-u.1) (0,a,J) (.inl ⟨rfl,rfl⟩) ⟨by simp[ai,fv,lk,AV.low,AV.l],OK (m:=⟨a,alt,e⟩) rfl rfl rfl (dN rfl) trivial,aw⟩ ?_
  rintro⟨k,l,K⟩g;rcases g with ⟨rfl,c⟩|⟨g,rfl⟩
  · simp only [Prod.mk.injEq] at c
    obtain⟨rfl,rfl⟩:=c;simp only[go_sem,Nat.reduceEqDiff,Nat.reduceAdd,Nat.reduceLT,↓reduceIte];simp[go_sem];rcases K with _|⟨j,K⟩
    · simp only [List.length_nil,Nat.add_zero]
      refine dI [1,2,3,4,5] [0,6,7,8,9,10,11] [1,2,3,4,5] (.alt (bt 0 (bt 6 (bt 7 (a_ [8,9,10,11])))) (bt 6 (.alt (bt 0 (bt 7 (a_ [8,9,10,11]))) (bt 7 (.alt (bt 0 (a_ [8,9,10,11])) (a_ [8,0,9,10,11])))))) ⟨[(0,.ptr 0 0 0 1),(6,.d (.ro 1 [[nb x]])),(7,.d (.int .i64 1)),(8,.d (.int .i64 0))],[(0,⟨283,3,[[.own 1 0 (l++[x]).length ((l++[x]).length+([]:List Jk).length),.own 2 0 alt.length (alt.length+H.length),.d (.int .i64 e)]]⟩),(1,⟨31,1,dy (l++[x]) []⟩),(2,⟨31,1,dy alt H⟩)],9000⟩ (k:=12) ?h3 ?hq
      case h3 =>
        intro G o;have hc:=eo x aq;have i:List.take l.length (dy l [])=l.map qh:=pj (cL _) |>.trans (by rw[List.take_length]);have b:(dy l []).length=l.length+([]:List Jk).length:=ki _ _;simp (config := { maxSteps := 3000000 }) [go_sem]
        repeat' apply And.intro
        all_goals
          refine ag hc a9 ?_;simp (config := { maxSteps := 3000000 }) [go_sem,fy,IE,i,b]
          repeat' apply And.intro
          all_goals first
            |omega
            |(intro q;omega)
            | (refine o _ _ (b8 ⟨by simp [ai,fv,lk,AV.low,AV.l],OK (m:=⟨l ++ [x],alt,e⟩) ?_ ?_ rfl (dN rfl) trivial,aw⟩)
               · simp[lk]<;>omega
               · exact congrArg (fun r=>some (⟨31,1,r⟩:Blk)) (I5 x))
      case hq =>
        have h:IntKind.i64.wrap 1=1:=IntWalk.i64_in _ aq;simp[go_sem,h];refine ao (1,l++[x],[]) (.inr ⟨rfl,rfl⟩) (by show 1-1<1-0;omega) ⟨by simp[ai,fv,lk,AV.low,AV.l],OK (m:=⟨l++[x],alt,e⟩) (by simp[lk]) rfl rfl (dN rfl) trivial,aw⟩
    · simp only [List.length_cons]
      refine dI [1,2,3,4,5] [0,6,7,8,9,10,11] [1,2,3,4,5] (.alt (bt 0 (bt 6 (bt 7 (a_ [8,9,10,11])))) (bt 6 (.alt (bt 0 (bt 7 (a_ [8,9,10,11]))) (bt 7 (.alt (bt 0 (a_ [8,9,10,11])) (a_ [8,0,9,10,11])))))) ⟨[(0,.ptr 0 0 0 1),(6,.d (.ro 1 [[nb x]])),(7,.d (.int .i64 1)),(8,.d (.int .i64 0))],[(0,⟨283,3,[[.own 1 0 (l++[x]).length ((l++[x]).length+(K:List Jk).length),.own 2 0 alt.length (alt.length+H.length),.d (.int .i64 e)]]⟩),(1,⟨31,1,dy (l++[x]) K⟩),(2,⟨31,1,dy alt H⟩)],9000⟩ (k:=12) ?h3 ?hq
      case h3 =>
        intro G o;have hc:=eo x aq;have i:List.take l.length (dy l (j::K))=l.map qh:=pj (cL _) |>.trans (by rw[List.take_length]);have b:(dy l (j::K)).length=l.length+(j::K:List Jk).length:=ki _ _;simp (config := { maxSteps := 3000000 }) [go_sem]
        repeat' apply And.intro
        all_goals
          refine ag hc a9 ?_;simp (config := { maxSteps := 3000000 }) [go_sem,fy,IE,i,b]
          repeat' apply And.intro
          all_goals first
            |omega
            |(intro q;omega)
            | (refine o _ _ (b8 ⟨by simp [ai,fv,lk,AV.low,AV.l],OK (m:=⟨l ++ [x],alt,e⟩) ?_ ?_ rfl (dN rfl) trivial,aw⟩)
               · simp[lk]<;>omega
               · exact congrArg (fun r=>some (⟨31,1,r⟩:Blk)) (I4 x))
      case hq =>
        have h:IntKind.i64.wrap 1=1:=IntWalk.i64_in _ aq;simp[go_sem,h];refine ao (1,l++[x],K) (.inr ⟨rfl,rfl⟩) (by show 1-1<1-0;omega) ⟨by simp[ai,fv,lk,AV.low,AV.l],OK (m:=⟨l++[x],alt,e⟩) (by simp[lk]) rfl rfl (dN rfl) trivial,aw⟩
  · simp only at g
    subst g;simp[go_sem];exact⟨_,⟨K,rfl⟩,bf (by simp[lk]) rfl rfl⟩
theorem OM(l:List bm)(t:l.length≤1000000)(q:∀x,x∈l→x.length≤1000000):cZ prog 241 0 [] [.d (.ro 1 (l.map bX))] (fun r hp'=>r=.own 129 0 l.length l.length∧lk 129 hp'=some ⟨31,1,dy l []⟩):=by
 refine ap func241 (by kernel_rfl) rfl ntmps241 (rs:=[.tmp 2]) rfl (dN rfl) (by decide) ?_;have j:IntKind.i64.wrap ((l.length:Int)+4)=((l.length+4:Nat):Int):=by rw[IntWalk.i64_in _ aq];omega
 simp[go_sem,j];refine⟨aq,aq,aq,aq,?_⟩
 refine av (fun k:Nat=>⟨[(3,.own 129 0 k k),(10,.d (.ro 1 (l.map bX))),(11,.d (.int .i64 (l.length:Int))),(12,.d (.int .i64 (k:Int)))],[(129,⟨31,1,(l.take k).map qh⟩)],6000⟩)
  (fun k=>k≤l.length) (fun k=>l.length-k) 0 aq (by simp[aA,ai,fv,lk,AV.low,AV.l]) ?_
 intro k w;simp only[go_sem,Nat.reduceEqDiff,Nat.reduceAdd,Nat.reduceLT,↓reduceIte];refine⟨fun m=>?_,fun m=>?_⟩
 ·obtain⟨y,a,u⟩:=bu (l:=l) (k:=k) aq;have s:=ay (k:=k) aq;have e:=pn (f:=qh) a;have c:min k l.length=k:=aq;have i:=q y (cr a);simp[go_sem,a,bX];refine ag (eo y aq) a9 ?_;simp[go_sem,s,c];have b:List.take k (l.map qh)++[[.d (nb y)]]=List.take (k+1) (l.map qh):=by rw[←List.map_take,←List.map_take];exact e
  rw[b];refine⟨aq,?_⟩;refine ao (k+1) aq aq ?_;refine⟨by simp[ai,fv,lk,AV.low,AV.l],?_,aw⟩;intro p hp;simp only[d_,List.mem_nil_iff,or_false]at hp;subst hp;refine⟨.inl ?_,by show 129<6000;omega,?_⟩;simp[lk];intro r o v h;obtain⟨z,_,rfl⟩:=List.mem_map.1 (List.mem_of_mem_take o);simp only[qh,d_,List.mem_nil_iff,or_false]at h;subst h;trivial
 ·have g:k=l.length:=aq;subst g;simp[go_sem,dy]
theorem TW(l:List bm)(J:List Jk)(c n:Nat)(C:c+n≤l.length)(F:l.length≤1000000)(B:∀x,x∈l→x.length≤1000000):cZ prog 241 1 [(0,⟨31,1,dy l J⟩)] [.own 0 c n (l.length+J.length)]
  (fun r hp'=>r=.own 130 0 n n∧lk 130 hp'=some ⟨31,1,dy ((l.drop c).take n) []⟩∧lk 0 hp'=some ⟨31,1,dy l J⟩):=by
 refine ap func241 (by kernel_rfl) rfl ntmps241 (rs:=[.tmp 2]) rfl (dN rfl) (by decide) ?_;have u:IntKind.i64.wrap ((n:Int)+4)=((n+4:Nat):Int):=by rw[IntWalk.i64_in _ aq];omega
 simp[go_sem,u];refine⟨aq,aq,aq,aq,?_⟩
 refine av (fun k:Nat=>⟨[(3,.own 130 0 k k),(10,.own 0 c n (l.length+J.length)),(11,.d (.int .i64 (n:Int))),(12,.d (.int .i64 (k:Int)))],[(130,⟨31,1,((l.drop c).take k).map qh⟩),(0,⟨31,1,dy l J⟩)],6000⟩)
  (fun k=>k≤n) (fun k=>n-k) 0 aq ⟨by simp[ai,fv,lk,AV.low,AV.l],?_,aw⟩ ?_
 intro p hp;simp only[d_,List.mem_nil_iff,or_false]at hp;rcases hp with rfl|rfl;exact⟨.inl (by simp[lk]),by show 130<6000;omega,aw⟩;exact⟨.inl (by simp[lk]),by show 0<6000;omega,mB _ _ _⟩;intro k G;simp only[go_sem,Nat.reduceEqDiff,Nat.reduceAdd,Nat.reduceLT,↓reduceIte];refine⟨fun w=>?_,fun w=>?_⟩
 ·have g:k<n:=aq;obtain⟨y,b⟩:∃y,l[c+k]?=some y:=⟨_,cm aq⟩;have j:(l.drop c)[k]?=some y:=by rw[List.getElem?_drop];exact b
  have E:=ay (k:=k) aq;have i:=pn (f:=qh) j;have t:=B y (cr b);have o:=x7 (J:=J) b;have D:∀h:c+k<(dy l J).length,(dy l J)[c+k]=[.d (nb y)]:=fun h=>Option.some.inj ((cm h).symm.trans o);have e:min k (l.length-c)=k:=aq;simp[go_sem,o,g,ki];refine ag (eo y aq) a9 ?_;have q:min k (List.drop c (l.map qh)).length=k:=by simp;omega
  have a:List.take k (List.drop c (l.map qh))++[[.d (nb y)]]=List.take (k+1) (List.drop c (l.map qh)):=by rw[←List.map_drop,←List.map_take,←List.map_take];exact i
  simp[go_sem,E,e];rw[a];refine⟨aq,?_⟩;refine ao (k+1) aq aq ?_;refine⟨by simp[ai,fv,lk,AV.low,AV.l],?_,aw⟩;intro p hp;simp only[d_,List.mem_nil_iff,or_false]at hp;rcases hp with rfl|rfl
  refine⟨.inl (by simp[lk]),by show 130<6000;omega,?_⟩;intro r A v s;obtain⟨z,_,rfl⟩:=List.mem_map.1 (List.mem_of_mem_drop (List.mem_of_mem_take A));simp only[qh,d_,List.mem_nil_iff,or_false]at s;subst s;trivial;exact⟨.inl (by simp[lk]),by show 0<6000;omega,mB _ _ _⟩
 ·have m:k=n:=aq;subst m;simp[go_sem,dy]
def EL(a b:List Nat):Nat→Int
 |0=>0
 |k+1=>if a.getD k 0<b.getD k 0 then -1 else if b.getD k 0<a.getD k 0 then 1 else EL a b k
def gv(l:List Nat):Nat:=l.foldl (fun a x=>a*256+x) 0
theorem ON(l:List Nat)(x:Nat):gv (l++[x])=gv l*256+x:=by simp[gv]
def part(b:List Nat)(i j:Nat):List Nat:=((b.take i).drop (8*(3-j))).take 8
theorem sY(b:List Nat)(i j k:Nat):(part b i j)[k]?=if k<8∧8*(3-j)+k<i then b[8*(3-j)+k]? else none:=by
 unfold part;rw[List.getElem?_take];by_cases c:k<8;rw[if_pos c,List.getElem?_drop,List.getElem?_take];by_cases a:8*(3-j)+k<i;rw[if_pos a,if_pos ⟨c,a⟩];rw[if_neg a,if_neg (fun h=>a h.2)];rw[if_neg c,if_neg (fun h=>c h.1)]
theorem x8{b:List Nat}(a:b.length=32){i j:Nat}(hi:i≤32)(hj:j≤3):(part b i j).length=min 8 (i-8*(3-j)):=by
 unfold part;rw[List.length_take,e_,List.length_take,a];omega
theorem K8{b:List Nat}{i j:Nat}(hi:i<32)(hj:j≤3)(h:j≠3-i/8):part b (i+1) j=part b i j:=by
 refine List.ext_getElem? fun k=>?_;rw[sY,sY];by_cases a:k<8∧8*(3-j)+k<i;rw[if_pos a,if_pos ⟨a.1,aq⟩];rw[if_neg a];by_cases c:k<8∧8*(3-j)+k<i+1;omega;rw[if_neg c]
theorem K9{b:List Nat}(d:b.length=32){i c:Nat}(hc:b[i]?=some c):part b (i+1) (3-i/8)=part b i (3-i/8)++[c]:=by
 have h:i<32:=by have:=(ci.1 hc).1;omega
 have g:(part b i (3-i/8)).length=i%8:=by rw[x8 d aq aq];omega
 refine List.ext_getElem? fun k=>?_;rw[List.getElem?_append,g,sY,sY];by_cases a:k<i%8;rw[if_pos a,if_pos ⟨aq,aq⟩,if_pos ⟨aq,aq⟩];rw[if_neg a];by_cases e:k=i%8;subst e;rw[if_pos ⟨aq,aq⟩,show 8*(3-(3-i/8))+i%8=i by omega,hc];simp;rw[if_neg aq];rw[List.getElem?_eq_none (by simp;omega)]
theorem Lc(b:List Nat)(j:Nat):part b 0 j=[]:=by simp[part]
def Dq(b:List Nat)(i:Nat):List Nat:=(List.range 4).map fun j=>gv (part b i j)*256 ^ (8-(part b i j).length)
def zk(b:List Nat)(i:Nat):List Nat:=(List.range 4).map fun j=>gv (part b i j)
theorem TX{b:List Nat}(a:b.length=32):Dq b 32=zk b 32:=by
 unfold Dq zk;refine List.map_congr_left fun j c=>?_;rw[List.mem_range]at c;rw[x8 a aq aq,show 8-min 8 (32-8*(3-j))=0 by omega];simp
theorem EM(b:List Nat):Dq b 0=[0,0,0,0]:=by simp[Dq,Lc,gv,List.range,List.range.loop]
theorem G5:∀(l:List Nat),(∀x,x∈l→x<256)→gv l<256 ^ l.length:=by
 intro l;have b:∀(l:List Nat)(a n:Nat),(∀x,x∈l→x<256)→a<256 ^ n→l.foldl (fun a x=>a*256+x) a<256 ^ (n+l.length):=by
  intro l
  induction l with
  |nil=>intro a n _ h;simpa using h
  |cons x l ih =>
   intro a n c h;have e:=c x aw;rw[List.foldl_cons,List.length_cons,show n+(l.length+1)=(n+1)+l.length by omega];exact ih _ (n+1) (fun y d=>c y (by simp[d])) (by rw[Nat.pow_succ];omega)
 intro h;have:=b l 0 0 h aw;simpa[gv]using this
theorem TY(a b:Nat)(c:a<18446744073709551616)(d:b<18446744073709551616):Go.bits .or .u64 (a:Int) (b:Int)=((a ||| b:Nat):Int):=by
 show IntKind.u64.wrap (((BitVec.ofInt 64 (a:Int)) ||| (BitVec.ofInt 64 (b:Int))).toNat:Int)=_;rw[BitVec.toNat_or,gj,gj,←Nat.or_mod_two_pow,iW];have:a ||| b<2 ^ 64:=Nat.or_lt_two_pow aq aq;omega
theorem OO{b:List Nat}(s:b.length=32)(g:∀x,x∈b→x<256){i c:Nat}(hc:b[i]?=some c) :
  ∃a,(Dq b i)[3-i/8]?=some a∧a<18446744073709551616∧c*2 ^ (8*((31-i)%8))<18446744073709551616∧(Dq b i).set (3-i/8) (a ||| c*2 ^ (8*((31-i)%8)))=Dq b (i+1):=by
 have B:i<32:=by have:=(ci.1 hc).1;omega
 have l:c<256:=g c (cr hc);have k:(part b i (3-i/8)).length=i%8:=by rw[x8 s aq aq];omega
 have m:=K9 s hc;have e:=G5 (part b i (3-i/8)) (fun x y=>g x (List.mem_of_mem_take (List.mem_of_mem_drop (List.mem_of_mem_take y))));rw[k]at e;have u:(31-i)%8=7-i%8:=aq;have d:∀n,(256:Nat) ^ n=2 ^ (8*n):=fun n=>by rw[Nat.pow_mul]
 generalize v:gv (part b i (3-i/8))=A at e;have E:i%8<8:=aq;generalize w:i%8=r at *;have q:(256:Nat) ^ (8-r)=256*256 ^ (7-r):=by rw[show 8-r=(7-r)+1 by omega,Nat.pow_succ,Nat.mul_comm]
 have z:(256:Nat) ^ r*256 ^ (8-r)=18446744073709551616:=by rw[←Nat.pow_add,show r+(8-r)=8 by omega]
 have o:c*2 ^ (8*(7-r))<2 ^ (8*(8-r)):=by
  rw[←d,←d,q];exact Nat.mul_lt_mul_of_pos_right l (Nat.pow_pos aq)
 have D:(2:Nat) ^ (8*(8-r))≤18446744073709551616:=by
  rw[←d]
  calc (256:Nat) ^ (8-r)≤256 ^ 8:=Nat.pow_le_pow_right aq aq
   _=18446744073709551616:=by decide
 have h:A*256 ^ (8-r)<18446744073709551616:=by
  rw[←z];exact Nat.mul_lt_mul_of_pos_right e (Nat.pow_pos aq)
 refine⟨A*256 ^ (8-r),?_,h,by rw[u];omega,?_⟩;unfold Dq;rw[cU,List.getElem?_range aq];simp[v,k];rw[u];refine List.ext_getElem? fun j=>?_;rw[List.getElem?_set];have t:(Dq b i).length=4:=by simp[Dq]
 by_cases p:3-i/8=j;subst p;rw[if_pos rfl,if_pos aq];unfold Dq;rw[cU,List.getElem?_range aq,Option.map_some,m,ON,b_,k,v];congr 1;have:=Nat.two_pow_add_eq_or_of_lt o A;rw[←d,Nat.mul_comm]at this;rw[←this,List.length_singleton,show 8-(r+1)=7-r by omega,q,←d,Nat.add_mul,Nat.mul_assoc];rw[if_neg p];unfold Dq;rw[cU,cU];by_cases C:j<4;rw[List.getElem?_range C,Option.map_some,Option.map_some,K8 B aq aq];rw[List.getElem?_eq_none (by simp;omega)];rfl
def cW(l:List Nat):List AV:=l.map fun(x:Nat)=>AV.d (.int .u64 (x:Int))
theorem rH(l:List Nat):(cW l).length=l.length:=by simp[cW]
theorem G6(l:List Nat)(i:Nat):(cW l)[i]?=(l[i]?).map fun(x:Nat)=>AV.d (.int .u64 (x:Int)):=by simp[cW]
theorem Yl(l:List Nat)(i x:Nat):(cW l).set i (.d (.int .u64 (x:Int)))=cW (l.set i x):=by simp[cW,List.map_set]
theorem I8(l:List Nat):(AV.agg (cW l)).deep:=by
 intro c hc;simp only[cW,List.mem_map]at hc;obtain⟨x,_,rfl⟩:=hc;trivial
theorem rI(n:Nat)(l:List Nat):∀v,v∈cW l→v.l n:=by
 intro c hc;simp only[cW,List.mem_map]at hc;obtain⟨x,_,rfl⟩:=hc;trivial
def jo:List Int:=(List.range 256).map fun y=>if y=0 then 0 else((Nat.log2 y+1:Nat):Int)
theorem jg{L:List Int}(d:L=jo){y:Nat}{b:Int}(h:L[y]?=some b):∃n:Nat,b=(n:Int)∧(if y=0 then n=0 else 1≤n∧n≤8):=by
 subst d;unfold jo at h;rw[cU]at h;by_cases c:y<256;rw[List.getElem?_range c,Option.map_some,Option.some.injEq]at h;by_cases a:y=0;rw[if_pos a]at h;exact⟨0,h.symm,by rw[if_pos a]⟩;rw[if_neg a]at h;refine⟨_,h.symm,?_⟩;rw[if_neg a];have:=Nat.log2_lt (n:=y) (k:=8) a;omega;rw[List.getElem?_eq_none (by simp;omega)]at h;cases h
theorem jh{L:List Int}(b:L=jo){y:Nat}(a:y<256)(h:L[y]?=none):False:=by
 subst b;unfold jo at h;rw[cU,List.getElem?_range a]at h;cases h
def TZ:Nat→Int
 |0=>-1
 |k+1=>k
theorem We:TZ 0=-1:=rfl
theorem OP(k:Nat):TZ (k+1)=(k:Int):=rfl
theorem OQ(k:Nat)(h:k<1000):IntKind.i64.wrap ((k:Int)-1)=TZ k:=by
 cases k with
 |zero=>rfl
 |succ k=>rw[IntWalk.i64_in _ aq];show((k+1:Nat):Int)-1=(k:Int);omega
theorem Ym(a b:List Nat)(o:a.length=4)(s:b.length=4):fm prog 206 [.agg (cW a),.agg (cW b)] (.d (.int .i64 (EL a b 4))):=by
 refine bL func206 ntmps206 (rs:=[.tmp 4]) (by intro v m;simp at m;rcases m with rfl|rfl<;>exact I8 _) ?_;generalize p:EL a b 4=F;simp[go_sem]
 refine av (fun k:Nat=>⟨[(2,.ptr 0 0 0 1),(3,.ptr 32 0 0 1),(5,.d (.int .i64 (TZ k)))],[(32,⟨96,4,[cW b]⟩),(0,⟨96,4,[cW a]⟩)],500⟩)
  (fun k=>k≤4∧EL a b k=F) (fun k=>k) 4 ⟨aq,p⟩ (by
   simp[aA,ai,fv,lk,AV.low,AV.l,rH,o,s,TZ]
   exact⟨rI _ _,rI _ _⟩) ?_
 rintro k⟨w,c⟩;cases k with
 |zero =>
  simp only[EL]at c;subst c;simp[go_sem,We,ah];exact aa a9 rfl
 | succ k =>
  obtain⟨x,i,_⟩:=bu (l:=a) (k:=k) aq;obtain⟨y,h,_⟩:=bu (l:=b) (k:=k) aq;have t:a.getD k 0=x:=by rw[cR,i];rfl
  have q:b.getD k 0=y:=by rw[cR,h];rfl
  simp only[EL,t,q]at c;have u:=OQ k aq;simp[go_sem,OP];refine cK [0,1,2,3,4,5,6,7] [] 0 (k:=8) ?_;intro G j;simp[go_sem,G6,i,h];refine⟨aq,j _ _ ?_⟩;by_cases g:x<y
  ·rw[if_pos g]at c;subst c;simp[go_sem,g,ah];exact aa a9 rfl
  ·rw[if_neg g]at c;simp[go_sem,g];refine cK [0,1,2,3,4,5,6,7] [] 0 (k:=8) ?_;intro G j;simp[go_sem,G6,i,h];refine⟨aq,j _ _ ?_⟩;by_cases e:y<x
   ·rw[if_pos e]at c;subst c;simp[go_sem,e,ah];exact aa a9 rfl
   ·rw[if_neg e]at c;simp[go_sem,e,u];refine ao k ⟨aq,c⟩ aq ?_;simp[aA,ai,fv,lk,AV.low,AV.l];exact⟨rI _ _,rI _ _⟩
theorem BS(b:List Nat)(i:Nat):(Dq b i).length=4:=by simp[Dq]
theorem T0(b:List Nat)(A:b.length=32)(e:∀x,x∈b→x<256):fm prog 164 [.agg (cb b)] (.agg (cW (zk b 32))):=by
 refine bL func164 ntmps164 (rs:=[.cell 2 96]) (by intro v F;simp at F;subst F;exact d6 _) ?_;rw[←TX A];have C:(cb b).length=32:=by rw[aj];exact A
 have q:(cb b).take 32=cb b:=cx aq;have U:[AV.d (DV.int .u64 0),AV.d (DV.int .u64 0),AV.d (DV.int .u64 0),AV.d (DV.int .u64 0)]=cW (Dq b 0):=by rw[EM];rfl
 simp[go_sem,C,q]
 refine av (fun i:Nat=>⟨[(2,.ptr 32 0 0 1),(3,.ptr 64 0 0 1),(7,.agg (cb b)),(8,.d (.int .i64 (i:Int)))],[(32,⟨96,4,[cW [0,0,0,0]]⟩),(64,⟨96,4,[cW (Dq b i)]⟩)],500⟩)
  (fun i=>i≤32) (fun i=>32-i) 0 aq (by
   simp[aA,ai,fv,lk,AV.low,AV.l,EM]
   exact⟨aI _ _,rfl,rI _ _⟩) ?_
 intro i V;simp only[go_sem,Nat.reduceEqDiff,Nat.reduceAdd,Nat.reduceLT,↓reduceIte];refine⟨fun h=>?_,fun h=>?_⟩
 ·obtain⟨c,hc,_⟩:=bu (l:=b) (k:=i) aq;obtain⟨w,p,t,o,a⟩:=OO A e hc;have E:IntKind.i64.wrap (31-(i:Int))=((31-i:Nat):Int):=by rw[IntWalk.i64_in _ aq];omega
  have S:=ay (k:=i) aq;have M:=e c (cr hc);obtain⟨m,L⟩:∃m,m=31-i:=⟨_,rfl⟩;rw[←L]at E o a;have H:m/8=3-i/8:=aq;rw[←H]at p a;have K:IntKind.i64.wrap ((m:Int)/8)=((m/8:Nat):Int):=by rw[IntWalk.i64_in _ aq];omega
  have I:IntKind.i64.wrap (8*Int.tmod (m:Int) 8)=((8*(m%8):Nat):Int):=by rw[show Int.tmod (m:Int) 8=((m%8:Nat):Int)from rfl,IntWalk.i64_in _ aq];omega
  have J:IntKind.u64.wrap (c:Int)=(c:Int):=by rw[iW];omega
  have u:m/8<4:=aq;have D:8*(m%8)≤64:=aq;generalize m/8=j at *;generalize 8*(m%8)=s at *;have R:min s 64=s:=aq;have Q:IntKind.u64.wrap ((c:Int)*2 ^ s)=((c*2 ^ s:Nat):Int):=by
   rw[iW,show(2:Int) ^ s=((2 ^ s:Nat):Int)by rw[Int.natCast_pow];rfl,←Int.natCast_mul];omega
  have T:=TY w (c*2 ^ s) t o;generalize c*2 ^ s=y at *;generalize w ||| y=z at *;simp[go_sem,GM,hc,E];refine⟨aq,?_⟩;refine cK [0,1,2,3,4,5,6,7,8,9,10,11] [(12,[])] 0 (k:=13) ?_;intro G O;simp[go_sem,K,I,J,G6,p,R,Q,T,IntKind.bits,rH,BS,Yl,a];refine⟨aq,u,O _ _ ?_⟩;simp[go_sem,S];refine ao (i+1) aq aq ?_;simp[aA,ai,fv,lk,AV.low,AV.l];exact⟨aI _ _,rI _ _,rI _ _⟩
 ·have B:i=32:=aq;subst B;have g:(cW (Dq b 32)).take 4=cW (Dq b 32):=cx (by rw[rH,BS];omega);simp[go_sem,rH,BS,g];exact aa (I8 _) rfl
end Go.Proofs.YtmfnimjnneflnaaGreat
