/-
 Part 14 of what the claim rests on.
-/
import Derived.Test.YtldccnbokbieiaaGreatO2
import Derived.Test.YtldccnbokbieiaaGreatO11
import Derived.Test.YtldccnbokbieiaaGreatO12
set_option linter.unusedVariables false
set_option linter.unusedSimpArgs false
set_option maxRecDepth 100000
set_option maxHeartbeats 16000000
namespace Go.Proofs.YtldccnbokbieiaaGreat
open Go.Am Go.Sha
def Xv (s m:Nat):DV:=.ro 1 ((List.range' s m).map fun (j:Nat)=>[DV.int .i64 (j:Int)])
def ajF (h:List Nat) (s m:Nat):List DV:=cd h ++ [Xv s m]
def Ue (h:List Nat) (b:AV):List AV:=cb h ++ [b]
def Ug:Nat→Row→List (List DV)
 | _,[]=>[]
 | s,p :: r=>ajF p.1 s p.2 :: Ug (s+p.2) r
theorem We (h:List Nat) (s m:Nat):(ajF h s m).map AV.d=Ue h (.d (Xv s m)):=by simp [ajF,Ue,Tj]
theorem Yo {h:List Nat} (hh:h.length=32) (s m:Nat):(ajF h s m).length=33:=by simp [ajF,H3,hh]
theorem L6 {h:List Nat} (hh:h.length=32) (b:AV):(Ue h b).length=33:=by simp [Ue,d0,hh]
theorem aa4 {h:List Nat} (hh:h.length=32) (b:AV):List.take 33 (Ue h b)=Ue h b:=aq (by rw [L6 hh];exact av _)
theorem Xw {h:List Nat} (hh:h.length=32) (b:AV):(Ue h b)[32]?=some b:=by
 unfold Ue;rw [aB (by rw [d0];omega),d0,hh];rfl
theorem adR {h:List Nat} (hh:h.length=32) (b:AV):List.take 32 (Ue h b)=cb h:=by
 unfold Ue;rw [List.take_append_of_le_length (by rw [d0,hh];exact av _),aq (by rw [d0,hh];exact av _)]
theorem Sr:∀ (s:Nat) (r:Row),(Ug s r).length=r.length
 | _,[]=>rfl
 | s,p :: r=>by rw [Ug,List.length_cons,List.length_cons,Sr]
theorem Yp:∀ (s:Nat) (a b:Row),Ug s (a ++ b)=Ug s a ++ Ug (s+D5 a) b
 | s,[],b=>by simp [Ug,D5]
 | s,p :: a,b=>by
  rw [List.cons_append,Ug,Ug,Yp (s+p.2) a b,List.cons_append];congr 2;simp [D5,Nat.add_assoc]
theorem aa5:∀ (s:Nat) (r:Row),(∀ p,p ∈ r→p.1.length=32)→∀ x,x ∈ Ug s r→x.length=33
 | _,[],_,x,h=>by simp [Ug] at h
 | s,p :: r,hp,x,h=>by
  rcases aF.1 h with rfl | h
  ·exact Yo (hp p (aC ..)) _ _
  ·exact aa5 _ r (fun q hq=>hp q (ax _ hq)) x h
theorem Y4 (a b:Row):D5 (a ++ b)=D5 a+D5 b:=by simp [D5]
theorem Xx:∀ r:Row,(∀ p,p ∈ r→bytes p.1)→∀ p,p ∈ D0 r→bytes p.1
 | [],h=>h
 | [a],h=>h
 | a :: b :: r,h=>by
  intro p hp;rcases aF.1 hp with rfl | hp
  ·exact D3 _
  ·exact Xx r (fun q hq=>h q (by simp [hq])) p hp
theorem ag6 {row r:Row} {i:Nat} {p:List Nat × Nat} (h:row.drop i=p :: r):(Ug 0 row)[i]?=some (ajF p.1 (D5 (row.take i)) p.2):=by
 have hi:i<row.length:=by
  have:=congrArg List.length h;simp at this;omega
 conv=>lhs;rw [← List.take_append_drop i row,h]
 rw [Yp,Nat.zero_add,aB (by rw [Sr,List.length_take];omega),Sr,List.length_take,Nat.min_eq_left aa,Nat.sub_self];rfl
theorem Yq (n:Nat) (l:List (List DV)):∀ x,x ∈ l.map (fun q=>q.map AV.d)→∀ v,v ∈ x→v.low1 n:=by
 intro x hx v hv;obtain ⟨q,_,rfl⟩:=List.mem_map.1 hx;obtain ⟨d,_,rfl⟩:=List.mem_map.1 hv
 trivial
theorem P4 (n:Nat) (h:List Nat) (d:DV):∀ v,v ∈ Ue h (.d d)→v.low1 n:=by
 intro v hv;rcases au.1 hv with q | q
 ·exact o5 _ _ v q
 ·simp at q;subst q;trivial
theorem avY:O6 Tryz.prog 102=some (Ue z32 .nil):=by kernel_rfl
attribute [go_sem] avY
theorem Y5 {st:St} {L e:Nat} {ty:TypeId} {ids:List Nat} {A:List (List AV)} {u u':List AV} (hb:lk L st.hp=some ⟨ty,e,A ++ [u]⟩) (he:e ≠ 0) (hL:L ∉ ids) (hu:u'.length=u.length)
  (hc:∀ (j:Nat) (v v':AV),u[j]?=some v→u'[j]?=some v'→aam st.hp ids v v'):Wk st ⟨st.fr,y5 L ⟨ty,e,A ++ [u']⟩ (p9 ids st.hp),st.nx⟩:=by
 refine agm (b:=⟨ty,e,A ++ [u]⟩) ids hL hb he ab ?_;intro i x x' h1 h2;simp only at h1;by_cases hi:i<A.length
 ·rw [List.getElem?_append_left hi] at h1 h2;rw [h1] at h2
  cases h2
  exact ⟨rfl,fun j v v' a1 a2=>by rw [a1] at a2;cases a2;exact .inl rfl⟩
 ·rw [aB aa] at h1 h2
  have:i - A.length=0:=by
   have:=(ak.1 h1).1;simp at this;omega
  rw [this] at h1 h2;simp only [List.getElem?_cons_zero,Option.some.injEq] at h1 h2;subst h1 h2;exact ⟨hu,hc⟩
theorem adS {hp:Hp} {ids:List Nat} {pre a b:List AV} (h:∀ (j:Nat) (v v':AV),a[j]?=some v→b[j]?=some v'→aam hp ids v v'):∀ (j:Nat) (v v':AV),(pre ++ a)[j]?=some v→(pre ++ b)[j]?=some v'→aam hp ids v v':=by
 intro j v v' h1 h2;by_cases hj:j<pre.length
 ·rw [List.getElem?_append_left hj] at h1 h2;rw [h1] at h2
  cases h2
  exact .inl rfl
 ·rw [aB aa] at h1 h2;exact h _ v v' h1 h2
theorem ag7 {hp:Hp} {ids:List Nat} {v:AV} {d:DV} (h:SnapD hp (fun id=>id ∈ ids) v d):∀ (j:Nat) (a b:AV),[v][j]?=some a→[AV.d d][j]?=some b→aam hp ids a b:=by
 intro j a b h1 h2
 match j,h1,h2 with
 | 0,h1,h2=>simp at h1 h2;subst h1 h2;exact .inr ⟨d,rfl,h⟩
 | j+1,h1,_=>simp at h1
def prH (inner:List Nat) (xs:List (List Nat)) (za zb:List AV) (ups:List (List DV)) (f:Q4):Hp :=
 (50608,⟨102,33,[zb]⟩) :: (50576,⟨102,33,[za]⟩) :: (30096,⟨102,33,ups.map (fun q=>q.map AV.d)⟩) :: (10000,⟨27,34,SH inner M1 f xs⟩) :: RN 20000 8 f
theorem US {inner:List Nat} {xs:List (List Nat)} {za zb:List AV} {ups:List (List DV)} {f:Q4} {hp:Hp} {nx N:Nat} (hN:51000≤N) (hn:xs.length≤8) (ha:∀ v,v ∈ za→v.low1 N) (hb:∀ v,v ∈ zb→v.low1 N)
  (v7:lk 50608 hp=some ⟨102,33,[zb]⟩) (v8:lk 50576 hp=some ⟨102,33,[za]⟩) (v9:lk 30096 hp=some ⟨102,33,ups.map (fun q=>q.map AV.d)⟩) (v10:lk 10000 hp=some ⟨27,34,SH inner M1 f xs⟩) (v11:∀ j,j<8→lk (M1 j) hp=some (pB (f j))) :
  ∀ p,p ∈ prH inner xs za zb ups f→(lk p.1 hp=some p.2 ∨ (nx≤p.1∧p.2.es=[]))∧p.1<N∧∀ r,r ∈ p.2.es→∀ v,v ∈ r→v.low1 N:=by
 intro p hp';unfold prH at hp';rcases aF.1 hp' with rfl | hp'
 ·exact ⟨.inl v7,by show 50608<N;omega,by intro r hr;simp at hr;subst hr;exact hb⟩
 rcases aF.1 hp' with rfl | hp'
 ·exact ⟨.inl v8,by show 50576<N;omega,by intro r hr;simp at hr;subst hr;exact ha⟩
 rcases aF.1 hp' with rfl | hp'
 ·exact ⟨.inl v9,by show 30096<N;omega,Yq _ _⟩
 ·exact SY aa hn v10 v11 p hp'
theorem Ub {j:Nat} (hj:j<8) (c:Nat) (hc:c<20000 ∨ 20008≤c):(c=M1 j)=False:=by unfold M1;simp;omega
theorem Uc {f:Q4} {j:Nat} (hj:j<8):lk (M1 j) (RN 20000 8 f)=some (pB (f j)):=Tp 8 20000 f j hj
theorem afB {f:Q4} {j:Nat} (q:List (List Nat)) (hj:j<8):y5 (M1 j) (pB q) (RN 20000 8 f)=RN 20000 8 (upd f j q):=aaX 8 20000 f j q hj
def atc:List Nat:=[10000,20000,20001,20002,20003,20004,20005,20006,20007]
theorem anh:∀ j,j<8→M1 j ∈ atc:=by decide
theorem WT {h:List Nat} (hh:h.length=32) (b:AV) (hl:32<(Ue h b).length):(Ue h b)[32]=b:=by
 have:=Xw hh b;rw [am hl] at this;exact Option.some.inj this
theorem ajG (inner:List Nat) (xs:List (List Nat)) (hi:inner.length=32) (hib:bytes inner) (hxb:∀ x,x ∈ xs→bytes x) (hx:∀ x,x ∈ xs→x.length≤100000) (O:Lf→List Nat) (E:Lf→Int) (hE:∀ l,l ∈ Uo (D1 xs) xs→E l=0 ∨ E l=1)
    (hout:∀ l,l ∈ Uo (D1 xs) xs→m6 Tryz.prog 19 [.agg (s5 inner (.d (J1 l.1)) (.d (nb l.2)))] (fun r=>r=.tup [.d (nb (O l)),.d (.int .i64 (E l))])) :
    m6 Tryz.prog 25 [.agg (cb inner),.d (.ro 1 (xs.map W5))] (fun r=>r=F9 inner xs E):=by
  refine t6 Tryz.func25 Tryz.ntmps25 (rs:=[.tmp 4,.tmp 5]) (by
    intro v hv;simp at hv;rcases hv with rfl | rfl
    · exact r6 _
    · trivial) ?_
  by_cases h0:xs.length=0
  · have hV:F9 inner xs E=.tup [.nil,.d (.int .i64 1)]:=by unfold F9;rw [if_pos (.inl h0)]
    rw [hV];have hxs:xs=[]:=List.eq_nil_of_length_eq_zero h0;subst hxs;simp [go_sem,d0,hi,d6 hi,d7];exact b7 ae rfl
  by_cases h8:8<xs.length
  · have hV:F9 inner xs E=.tup [.nil,.d (.int .i64 1)]:=by unfold F9;rw [if_pos (.inr (.inl h8))]
    rw [hV];have i0:¬ (xs.length:Int)<1:=aa;have i8:(8:Int)<(xs.length:Int):=aa;simp [go_sem,d0,hi,d6 hi,i0,i8,h0,h8,d7];exact b7 ae rfl
  have hn:xs.length≤8:=aa;have i0:¬ (xs.length:Int)<1:=aa;have i8:¬ (8:Int)<(xs.length:Int):=aa;have hne:¬ xs=[]:=fun e=>h0 (by rw [e];rfl);simp [go_sem,d0,hi,d6 hi,i0,i8,h0,h8,hne]
  refine Sb (fun k:Nat=>⟨[(1,.d (.ro 1 (xs.map W5))),(2,.ptr 0 0 0 1),(6,.own 10000 0 k k),(7,.own 10001 0 k k),(8,.d (.int .i64 (k:Int)))],
      [(10001,⟨102,33,(Ug 0 (K2 (xs.take k))).map (fun q=>q.map AV.d)⟩),(10000,⟨27,34,lvN inner (xs.take k)⟩),(0,⟨23,32,[cb inner]⟩)],11000⟩)
    (fun k=>k≤xs.length) (fun k=>xs.length - k) 0 aa ((akL [(352,10000),(416,10001),(0,0)] 10999 rfl ab ab aa).trans (E5 (by
      simp [m7,c6,fv,lk,AV.low,AV.low1,Ug,K2,lvN,Zy,YG,AV.ren,D9,Blk.ren,x7,UP,adM]
      exact o5 _ _))) ?_
  intro k hk;simp only [go_sem,Nat.reduceEqDiff,Nat.reduceAdd,Nat.reduceLT,↓reduceIte,Nat.reduceMul];refine ⟨fun h=>?_,fun h=>?_⟩
  · obtain ⟨x,hxk,hd⟩:=t5 (l:=xs) (k:=k) (by simpa using h)
    have w3:=j6 (k:=k) aa;have hxl:=hx x (ao hxk);have zl:(s5 z32 .nil .nil).length=34:=rfl;have hst:(Ug 0 (K2 (xs.take k))).length=k:=by rw [Sr,K2,List.length_map,List.length_take];omega
    have hlv:(lvN inner (xs.take k)).length=k:=by rw [lvN,List.length_map,List.length_take];omega
    have hlB:=RU x;have zd:List.drop 32 (s5 z32 .nil .nil)=[.nil,.nil]:=rfl;have b2:=ZV hi .nil .nil;have b3:=ZW hi .nil .nil;simp [go_sem];refine B7 [0,1,3,4,5,6] [(2,[]),(7,[8]),(9,[]),(10,[]),(11,[])] 3 (k:=12) ?_;intro G hG;simp [go_sem,hxk,W5,d0,hi,d6 hi,zl,hlv,zd,b2,b3,nb];refine ⟨aa,aa,hG _ _ ?_⟩;clear hG G;have hash1:m6 Tryz.prog 59 [.d (nb x)] (fun r=>r=.agg (cb (E9 x))):=Vh x aa (hxb x (ao hxk));have zn:(Ue z32 .nil).length=33:=rfl;have zd2:List.drop 32 (Ue z32 .nil)=[.nil]:=rfl;have zd3:List.drop 33 (Ue z32 .nil)=[]:=rfl;simp [go_sem,hxk,W5];refine a9 hash1 ae ?_;simp [go_sem,hlB,d6 hlB,d0,zn,zd2,zd3,hst,w3];have e4:List.drop 33 (cb (E9 x) ++ [AV.nil])=[]:=az (by simp [d0,hlB]);rw [e4]
    refine ⟨aa,aaj (k+1) (by have:=(ak.1 hxk).1;omega) (by have:=(ak.1 hxk).1;omega)
      ((Y5 (L:=10001) (ids:=[11736]) (u':=Ue (E9 x) (.d (Xv k 1))) rfl ab ab (by simp [Ue]) (adS (ag7 (H2 (es:=[[.int .i64 (k:Int)]]) rfl ab rfl ab)))).trans
       ((Y5 (L:=10000) (ids:=[11192]) (u':=cb inner ++ ([.nil] ++ [.d (nb x)])) rfl ab ab ab (adS (adS (pre:=[AV.nil]) (ag7 (H2 (ty:=5) (es:=x.map fun (b:Nat)=>[DV.int .u8 (b:Int)]) (by simp [lk,y5,p9]) ab ab ab))))).trans (E5 ⟨?_,?_,ab⟩)))⟩
    · simp [c6,fv,lk,AV.low,AV.low1]
    · have E1:lvN inner (xs.take (k+1))=lvN inner (xs.take k) ++ [cb inner ++ [.nil,.d (nb x)]]:=by rw [WR hxk];simp [lvN,s5]
      have E2:(Ug 0 (K2 (xs.take (k+1)))).map (fun q=>q.map AV.d)=(Ug 0 (K2 (xs.take k))).map (fun q=>q.map AV.d) ++ [Ue (E9 x) (.d (Xv k 1))]:=by
        rw [WR hxk,afv,Yp,List.map_append,T9,List.length_take,Nat.min_eq_left aa];simp [K2,Ug,We]
      intro p hp;simp only [aF,List.mem_nil_iff,or_false] at hp;rcases hp with rfl | rfl | rfl
      · exact ⟨.inl (by simp [lk,y5,p9,E2]),by show 10001<11000;omega,Yq _ _⟩
      · exact ⟨.inl (by simp [lk,y5,p9,E1]),by show 10000<11000;omega,fun r hr=>by
          obtain ⟨y,_,rfl⟩:=List.mem_map.1 hr
          exact T5 _ _ _ _ trivial trivial⟩
      · exact ⟨.inl rfl,by show 0<11000;omega,by intro r hr;simp at hr;subst hr;exact o5 _ _⟩
  · have hkn:k=xs.length:=by
      simp at h;omega
    subst hkn;simp [go_sem];obtain ⟨R,F,hRF⟩:∃ R F,G7 7 (K2 xs) (fun _=>[])=(R,F):=⟨_,_,rfl⟩;have hr0:(K2 xs).length=xs.length:=by simp [K2]
    refine Sb (fun t:Nat × Row × Q4=>⟨[(6,.own 10000 0 xs.length xs.length),(7,.d (.ro 33 (Ug 0 t.2.1)))],(10000,⟨27,34,SH inner M1 t.2.2 xs⟩) :: RN 20000 8 t.2.2,30000⟩)
      (fun t=>G7 t.1 t.2.1 t.2.2=(R,F)∧t.2.1.length≤t.1+1∧t.1≤7∧D5 t.2.1=xs.length∧(∀ p,p ∈ t.2.1→p.1.length=32)∧(∀ p,p ∈ t.2.1→bytes p.1)∧P32 t.2.2∧∀ j,(t.2.2 j).length+t.1≤7) (fun t=>t.1) (7,K2 xs,fun _=>[])
      ⟨hRF,by simp only [hr0];omega,av _,T9 xs,Ym xs,(by
        intro p hp;obtain ⟨x,_,rfl⟩:=List.mem_map.1 hp
        exact D3 _),(fun j p hp=>by simp at hp),fun j=>ab⟩ ?_ ?_
    · refine (acS [10001] [(7,.d (.ro 33 (Ug 0 (K2 xs))))] (fun p hp=>?_)).trans ((E5 ?_).trans (acr xs hn))
      · simp at hp
        subst hp;exact .one (d9 (H2 rfl ab (by rw [Sr,hr0]) (aa5 _ _ (Ym xs))))
      · refine ⟨?_,?_,ab⟩
        · simp [c6,fv,lk,AV.low,AV.low1]
        · intro p hp
          rcases aF.1 hp with rfl | hp
          · exact ⟨.inl rfl,by show 10000<30000;omega,fun r hr=>by
              obtain ⟨y,_,rfl⟩:=List.mem_map.1 hr
              exact T5 _ _ _ _ trivial trivial⟩
          · obtain ⟨j,hj,rfl⟩:=P2 8 20000 _ p hp
            exact ⟨.inr ⟨by show _≤20000+j;simp;omega,rfl⟩,by show 20000+j<30000;omega,adL _ _⟩
    · rintro ⟨n,row,f⟩ ⟨q1,q2,q3,q4,q5,qb,q7,q6⟩
      simp only at q1 q2 q3 q4 q5 q6 q7 qb;simp only;simp [go_sem,Sr];refine ⟨fun h=>?_,fun h=>?_⟩
      · have h':1<row.length:=aa
        obtain ⟨m,rfl⟩:∃ m,n=m+1:=⟨n - 1,aa⟩;rw [G7,if_pos h'] at q1
        refine j9 (fun t:Nat × Nat × Row × Row × Q4=>⟨[(6,.own 10000 0 xs.length xs.length),(7,.d (.ro 33 (Ug 0 row))),(9,.own 30096 0 t.2.2.2.1.length t.2.2.2.1.length),(10,.d (.int .i64 (t.1:Int)))],
            (30096,⟨102,33,(Ug 0 t.2.2.2.1).map (fun q=>q.map AV.d)⟩) :: (10000,⟨27,34,SH inner M1 t.2.2.2.2 xs⟩) :: RN 20000 8 t.2.2.2.2,50000⟩)
          (fun t=>t.2.2.1=row.drop t.1∧t.2.1=D5 (row.take t.1)∧t.1≤row.length+1∧t.2.2.2.1 ++ D0 t.2.2.1=D0 row∧I9 t.2.1 t.2.2.1 t.2.2.2.2=I9 0 row f∧D5 t.2.2.2.1=t.2.1∧P32 t.2.2.2.2∧∀ j,(t.2.2.2.2 j).length≤if j<t.2.1 then (6 - m)+1 else 6 - m)
          (fun t=>t.2.2.1.length) (0,0,row,[],f) ⟨rfl,rfl,ab,rfl,rfl,rfl,q7,fun j=>by have:=q6 j;simp only [Nat.not_lt_zero,if_false];omega⟩ ⟨?_,?_,ab⟩ ?_
        · simp [c6,fv,lk,AV.low,AV.low1,Ug]
        · intro p hp
          rcases aF.1 hp with rfl | hp
          · exact ⟨.inl rfl,by show 30096<50000;omega,by intro r hr;simp [Ug] at hr⟩
          · exact SY ab hn rfl (fun j hj=>by
              have hne:∀ c,(c<20000 ∨ 20008≤c)→¬ c=M1 j:=fun c hc=>by unfold M1;omega
              have:=Tp 8 20000 f j hj;simp [lk,hne]
              exact this) p hp
        · rintro ⟨i,s,q,up,g⟩ ⟨p1,p2,p3,p4,p5,p6,p8,p7⟩
          simp only at p1 p2 p3 p4 p5 p6 p7 p8;simp only;simp [go_sem,Sr];refine ⟨fun hh=>?_,fun hh=>?_⟩
          · have hil:i<row.length:=aa
            have hdl:q.length=row.length - i:=by rw [p1,aG]
            have hrl8:row.length≤8:=aa;have w1:=j6 (k:=i) aa
            match q,p1,p4,p5,hdl with
            | [],_,_,_,hdl=>simp at hdl;omega
            | [a],p1,p4,p5,hdl =>
              have hl1:i+1=row.length:=by simp at hdl;omega
              have ha:=q5 a (List.mem_of_mem_drop (by rw [← p1];simp));have hat:=ag6 p1.symm;rw [← p2] at hat
              have hla:=Yo ha s a.2
              have hul:up.length≤10:=by
                have e1:=congrArg List.length p4;have e2:=Tc row;simp only [aj] at e1;omega
              have hw2:IntKind.i64.wrap ((i:Int)+2)=((i+2:Nat):Int):=by rw [IntWalk.i64_in _ aa];omega
              have w1':IntKind.i64.wrap ((i:Int)+1)=(row.length:Int):=by rw [w1,hl1]
              simp [go_sem,w1',Sr,hat,hla,We,L6 ha,aa4 ha,hw2,-Int.natCast_add];refine ⟨aa,?_⟩;have hd2:row.drop (i+2)=[]:=az aa
              have ht2:D5 (row.take (i+2))=s+a.2:=by
                rw [aq aa]
                conv=>lhs;rw [← List.take_append_drop i row,← p1]
                rw [p2];simp [D5]
              refine c8 (i+2,s+a.2,[],up ++ [a],g) ⟨hd2.symm,ht2.symm,by show i+2≤_;omega,by rw [← p4];simp [D0],p5,?_,p8,?_⟩ ab ⟨?_,?_,ab⟩
              · have:=p6
                simp only [D5,List.map_append,List.sum_append,List.map_cons,List.map_nil,List.sum_cons,List.sum_nil] at this ⊢;omega
              · intro j
                have:=p7 j;show (g j).length≤if j<s+a.2 then 6 - m+1 else 6 - m
                split at this
                · rw [if_pos aa];omega
                · split <;> omega
              · simp [c6,fv,lk,AV.low,AV.low1]
              · intro p hp
                rcases aF.1 hp with rfl | hp
                · refine ⟨.inl ?_,by show 30096<50000;omega,Yq _ _⟩
                  simp [lk,y5,Yp,p6,Ug,We]
                · exact SY ab hn rfl (fun j hj=>by
                    have hne:∀ c,(c<20000 ∨ 20008≤c)→¬ c=M1 j:=fun c hc=>by unfold M1;omega
                    have:=Tp 8 20000 g j hj;simp [lk,hne]
                    exact this) p hp
            | a :: b :: r,p1,p4,p5,hdl =>
              have hl1:¬ i+1=row.length:=by simp at hdl;omega
              have hl1':¬ ((i+1:Nat):Int)=(row.length:Int):=aa;have ha:=q5 a (List.mem_of_mem_drop (by rw [← p1];simp));have hb:=q5 b (List.mem_of_mem_drop (by rw [← p1];simp));have hba:=qb a (List.mem_of_mem_drop (by rw [← p1];simp));have hbb:=qb b (List.mem_of_mem_drop (by rw [← p1];simp));have hat:=ag6 p1.symm;rw [← p2] at hat
              have hla:=Yo ha s a.2;have hd1:row.drop (i+1)=b :: r:=by rw [← List.drop_drop,← p1];rfl
              have hta:D5 (row.take (i+1))=s+a.2:=by
                rw [List.take_add,← p1,p2];simp [D5]
              have hbt:=ag6 hd1;rw [hta] at hbt;have hlb:=Yo hb (s+a.2) b.2;have zn:(Ue z32 .nil).length=33:=rfl;simp [go_sem,w1,hl1,hl1',Sr,-Int.natCast_add];skip;refine C4 [0,1,2,3,4,5,6,7,8] [9,10,11,12] [0,1,2,3,4,5,6,7,8] (.alt (ah 9 (ah 10 (ah 11 (ag [12])))) (ah 10 (ah 9 (ah 11 (ag [12]))))) ⟨[(6,.own 10000 0 xs.length xs.length),(7,.d (.ro 33 (Ug 0 row))),(9,.own 30096 0 up.length up.length),(10,.d (.int .i64 (i:Int))),(11,.ptr 50576 0 0 1),(12,.ptr 50608 0 0 1)],(50608,⟨102,33,[Ue b.1 (.d (Xv (s+a.2) b.2))]⟩) :: (50576,⟨102,33,[Ue a.1 (.d (Xv s a.2))]⟩) :: (30096,⟨102,33,(Ug 0 up).map (fun q=>q.map AV.d)⟩) :: (10000,⟨27,34,SH inner M1 g xs⟩) :: RN 20000 8 g,60000⟩ (k:=13) ?h3 ?hq
              case h3 =>
                --[
                intro G hG;have zd3:List.drop 33 (Ue z32 .nil)=[]:=rfl
                have hW:∀ (fr:Fr) (hp:Hp),(fv 6 fr=.own 10000 0 xs.length xs.length∧fv 7 fr=.d (.ro 33 (Ug 0 row))∧fv 9 fr=.own 30096 0 up.length up.length∧fv 10 fr=.d (.int .i64 (i:Int))∧fv 11 fr=.ptr 50576 0 0 1∧fv 12 fr=.ptr 50608 0 0 1 ∧
                    lk 50608 hp=some ⟨102,33,[Ue b.1 (.d (Xv (s+a.2) b.2))]⟩∧lk 50576 hp=some ⟨102,33,[Ue a.1 (.d (Xv s a.2))]⟩∧lk 30096 hp=some ⟨102,33,(Ug 0 up).map (fun q=>q.map AV.d)⟩∧lk 10000 hp=some ⟨27,34,SH inner M1 g xs⟩)→(∀ j,j<8→lk (M1 j) hp=some (pB (g j)))→G fr hp:=by
                  rintro fr hp ⟨v1,v2,v3,v4,v5,v6,v7,v8,v9,v10⟩ v11;refine hG _ _ (E5 ⟨?_,?_,ab⟩)
                  · simp [c6,AV.low,AV.low1,v1,v2,v3,v4,v5,v6]
                  · intro p hp'
                    rcases aF.1 hp' with rfl | hp'
                    · exact ⟨.inl v7,by show 50608<60000;omega,by intro r hr;simp at hr;subst hr;exact P4 _ _ _⟩
                    rcases aF.1 hp' with rfl | hp'
                    · exact ⟨.inl v8,by show 50576<60000;omega,by intro r hr;simp at hr;subst hr;exact P4 _ _ _⟩
                    rcases aF.1 hp' with rfl | hp'
                    · exact ⟨.inl v9,by show 30096<60000;omega,Yq _ _⟩
                    · exact SY ab hn v10 v11 p hp'
                have hne:∀ j,j<8→∀ c,(c<20000 ∨ 20008≤c)→(c=M1 j)=False:=fun j hj c hc=>by unfold M1;simp;omega
                have lkj:∀ j,j<8→lk (M1 j) (RN 20000 8 g)=some (pB (g j)):=fun j hj=>Tp 8 20000 g j hj
                have far:∀ (c:Nat),20008≤c→∀ (u:Nat) (v:Blk),(u,v) ∈ RN 20000 8 g→¬ c=u:=by
                  intro c hc u v hm e;obtain ⟨j,hj,e2⟩:=P2 8 20000 g _ hm;simp only [Prod.mk.injEq] at e2;omega
                simp [go_sem,hat,hbt,hla,hlb,We,w1,zn,zd3,L6 ha,L6 hb,aa4 ha,aa4 hb,-Int.natCast_add]
                repeat' apply And.intro
                all_goals first
                  | (refine hW _ _ (by simp [fv,lk]) (fun j hj=>?_);simp [lk,hne j hj,lkj j hj])
                  | (intro u v hm;simp [far 50608 aa u v hm,far 50576 aa u v hm])
                --]
              case hq =>
                have hfr:(50608,(⟨102,33,[Ue b.1 (.d (Xv (s+a.2) b.2))]⟩:Blk)) :: (50576,⟨102,33,[Ue a.1 (.d (Xv s a.2))]⟩) :: (30096,⟨102,33,(Ug 0 up).map (fun q=>q.map AV.d)⟩) :: (10000,⟨27,34,SH inner M1 g xs⟩) :: RN 20000 8 g=prH inner xs (Ue a.1 (.d (Xv s a.2))) (Ue b.1 (.d (Xv (s+a.2) b.2))) (Ug 0 up) g:=rfl
                have tot:s+(a.2+(b.2+D5 r))=xs.length:=by
                  have e1:D5 row=D5 (row.take i)+D5 (row.drop i):=by rw [← Y4,List.take_append_drop]
                  rw [q4,← p2,← p1] at e1;simp only [D5,List.map_cons,List.sum_cons] at e1 ⊢;omega
                have hgl:∀ j,(g j).length≤100:=fun j=>by
                  have:=p7 j
                  split at this <;> omega
                simp [go_sem]
                refine j9 (fun k:Nat=>⟨[(6,.own 10000 0 xs.length xs.length),(7,.d (.ro 33 (Ug 0 row))),(9,.own 30096 0 up.length up.length),(10,.d (.int .i64 (i:Int))),(11,.ptr 50576 0 0 1),(12,.ptr 50608 0 0 1),(13,.d (.int .i64 (k:Int)))],
                    prH inner xs (Ue a.1 (.d (Xv s a.2))) (Ue b.1 (.d (Xv (s+a.2) b.2))) (Ug 0 up) (x9 s k b.1 g),70000⟩) (fun k=>k≤a.2) (fun k=>a.2 - k) 0 aa ⟨?_,?_,ab⟩ ?_
                · simp [c6,fv,lk,AV.low,AV.low1]
                · rw [WM]
                  exact US (Ut rfl) hn (P4 _ _ _) (P4 _ _ _) rfl rfl rfl rfl (fun j hj=>by simp [lk,Ub hj,Uc hj])
                intro k hk;simp only [prH];simp [go_sem,L6 ha,L6 hb,Xw ha,WT ha,Xv];refine ⟨fun hlt=>?_,fun hge=>?_⟩
                · have hrk:(List.range' s a.2)[k]?=some (s+k):=by rw [List.getElem?_range' hlt];simp
                  have hj8:s+k<8:=aa;have hjx:s+k<xs.length:=aa;obtain ⟨x,hxk⟩:∃ x,xs[s+k]?=some x:=⟨_,am hjx⟩;have w3:=j6 (k:=k) aa;have hlv:=Y0 (inner:=inner) (idf:=M1) (f:=x9 s k b.1 g) hxk;have hls:=fun q=>ZT (inner:=inner) (idf:=M1) (f:=x9 s k b.1 g) q hxk;rw [Un] at hlv;have hset:=hls (g (s+k) ++ [b.1]);have hsetH:=afB (f:=x9 s k b.1 g) (g (s+k) ++ [b.1]) hj8;rw [WN] at hset hsetH;simp only [aj,List.length_cons,List.length_nil,Nat.zero_add,s5,pB,List.map_append,List.map_cons,List.map_nil] at hset hsetH;have hfk:=hgl (s+k);have hnj:=Ub hj8;have haj:=Un s k b.1 g;generalize s+k=j at hrk hj8 hjx hxk hlv hset hsetH hfk hnj haj;simp [go_sem,hrk,P3];refine C4 [2,3,4,5,6,7,8] [0,1,9,10,11,12,13] [2,3,4,5,6,7,8] (.alt (ah 0 (.alt (ah 1 (ah 9 (ag [10,11,12,13]))) (ah 9 (.alt (ah 1 (ag [10,11,12,13])) (ag [10,1,11,12,13]))))) (.alt (ah 1 (.alt (ah 0 (ah 9 (ag [10,11,12,13]))) (ah 9 (.alt (ah 0 (ag [10,11,12,13])) (ag [10,0,11,12,13]))))) (ah 9 (.alt (ah 0 (.alt (ah 1 (ag [10,11,12,13])) (ag [10,1,11,12,13]))) (.alt (ah 1 (.alt (ah 0 (ag [10,11,12,13])) (ag [10,0,11,12,13]))) (ai 10 (.alt (ag [0,1,11,12,13]) (ag [1,0,11,12,13])))))))) ⟨[(6,.own 10000 0 xs.length xs.length),(7,.d (.ro 33 (Ug 0 row))),(9,.own 30096 0 up.length up.length),(10,.d (.int .i64 (i:Int))),(11,.ptr 50576 0 0 1),(12,.ptr 50608 0 0 1),(13,.d (.int .i64 (k:Int)))],prH inner xs (Ue a.1 (.d (Xv s a.2))) (Ue b.1 (.d (Xv (s+a.2) b.2))) (Ug 0 up) (x9 s (k+1) b.1 g),80000⟩ (k:=14) ?h3 ?hq
                  case h3 =>
                    --[
                    intro G hG
                    have hW:∀ (fr:Fr) (hp:Hp),(fv 6 fr=.own 10000 0 xs.length xs.length∧fv 7 fr=.d (.ro 33 (Ug 0 row))∧fv 9 fr=.own 30096 0 up.length up.length∧fv 10 fr=.d (.int .i64 (i:Int))∧fv 11 fr=.ptr 50576 0 0 1∧fv 12 fr=.ptr 50608 0 0 1∧fv 13 fr=.d (.int .i64 (k:Int)) ∧
                        lk 50608 hp=some ⟨102,33,[Ue b.1 (.d (Xv (s+a.2) b.2))]⟩∧lk 50576 hp=some ⟨102,33,[Ue a.1 (.d (Xv s a.2))]⟩∧lk 30096 hp=some ⟨102,33,(Ug 0 up).map (fun q=>q.map AV.d)⟩∧lk 10000 hp=some ⟨27,34,SH inner M1 (x9 s (k+1) b.1 g) xs⟩)→(∀ j,j<8→lk (M1 j) hp=some (pB (x9 s (k+1) b.1 g j)))→G fr hp:=by
                      rintro fr hp ⟨v1,v2,v3,v4,v5,v6,v0,v7,v8,v9,v10⟩ v11;refine hG _ _ (E5 ⟨?_,?_,ab⟩)
                      · simp [c6,AV.low,AV.low1,v1,v2,v3,v4,v5,v6,v0]
                      · exact US (Ut rfl) hn (P4 _ _ _) (P4 _ _ _) v7 v8 v9 v10 v11
                    have far:∀ (c:Nat),20008≤c→∀ (u:Nat) (v:Blk),(u,v) ∈ RN 20000 8 (x9 s k b.1 g)→¬ c=u:=by
                      intro c hc u v hm e;obtain ⟨j,hj,e2⟩:=P2 8 20000 _ _ hm;simp only [Prod.mk.injEq] at e2;omega
                    simp [go_sem,hlv,hb,hi,L6 ha,L6 hb,adR hb,s5,K0 hi,Uc hj8,P3,hnj,haj,aiv,apT,aiw,Vq hi,hset,hsetH,Xv]
                    repeat' apply And.intro
                    all_goals first
                      | omega
                      | (refine hW _ _ (by simp [fv,lk,Xv]) (fun j hj=>?_);simp [lk,Ub hj,Uc hj])
                      | exact fun u v hm e=>absurd e (far _ aa _ _ hm)
                    --]
                  case hq =>
                    simp [go_sem,w3];refine c8 (k+1) aa aa ⟨?_,?_,ab⟩
                    · simp [c6,fv,lk,AV.low,AV.low1]
                    · exact US (Ut rfl) hn (P4 _ _ _) (P4 _ _ _) rfl rfl rfl rfl (fun j hj=>by simp [prH,lk,Ub hj,Uc hj])
                · have hka:k=a.2:=aa
                  rw [hka]
                  have hg1l:∀ j,(x9 s a.2 b.1 g j).length≤101:=by
                    intro j;have:=hgl j;unfold x9
                    split
                    · simp;omega
                    · omega
                  have l1:=UQ (first:=s) (k:=a.2) (h:=b.1) p7 (av _);have p81:P32 (x9 s a.2 b.1 g):=WS p8 hb;rw [I9] at p5;generalize x9 s a.2 b.1 g=g1 at *;have hg1:=hg1l;simp [go_sem,L6 ha,L6 hb,Xw ha,WT ha,Xw hb,WT hb]
                  refine j9 (fun k:Nat=>⟨[(6,.own 10000 0 xs.length xs.length),(7,.d (.ro 33 (Ug 0 row))),(9,.own 30096 0 up.length up.length),(10,.d (.int .i64 (i:Int))),(11,.ptr 50576 0 0 1),(12,.ptr 50608 0 0 1),(15,.d (.int .i64 (k:Int)))],
                      prH inner xs (Ue a.1 (.d (Xv s a.2))) (Ue b.1 (.d (Xv (s+a.2) b.2))) (Ug 0 up) (x9 (s+a.2) k a.1 g1),70000⟩) (fun k=>k≤b.2) (fun k=>b.2 - k) 0 aa ⟨?_,?_,ab⟩ ?_
                  · simp [c6,fv,lk,AV.low,AV.low1]
                  · rw [WM]
                    exact US (Ut rfl) hn (P4 _ _ _) (P4 _ _ _) rfl rfl rfl rfl (fun j hj=>by simp [lk,Ub hj,Uc hj])
                  clear hk hge hka;intro k hk;simp only [prH];simp [go_sem,L6 ha,L6 hb,Xw hb,WT hb,Xv];refine ⟨fun hlt=>?_,fun hge=>?_⟩
                  · have hrk:(List.range' (s+a.2) b.2)[k]?=some ((s+a.2)+k):=by rw [List.getElem?_range' hlt];simp
                    have hj8:(s+a.2)+k<8:=aa;have hjx:(s+a.2)+k<xs.length:=aa;obtain ⟨x,hxk⟩:∃ x,xs[(s+a.2)+k]?=some x:=⟨_,am hjx⟩;have w3:=j6 (k:=k) aa;have hlv:=Y0 (inner:=inner) (idf:=M1) (f:=x9 (s+a.2) k a.1 g1) hxk;have hls:=fun q=>ZT (inner:=inner) (idf:=M1) (f:=x9 (s+a.2) k a.1 g1) q hxk;rw [Un] at hlv;have hset:=hls (g1 ((s+a.2)+k) ++ [a.1]);have hsetH:=afB (f:=x9 (s+a.2) k a.1 g1) (g1 ((s+a.2)+k) ++ [a.1]) hj8;rw [WN] at hset hsetH;simp only [aj,List.length_cons,List.length_nil,Nat.zero_add,s5,pB,List.map_append,List.map_cons,List.map_nil] at hset hsetH;have hfk:=hg1 ((s+a.2)+k);have hnj:=Ub hj8;have haj:=Un (s+a.2) k a.1 g1;generalize (s+a.2)+k=j at hrk hj8 hjx hxk hlv hset hsetH hfk hnj haj;simp [go_sem,hrk,P3];refine C4 [2,3,4,5,6,7,8] [0,1,9,10,11,12,13] [2,3,4,5,6,7,8] (.alt (ah 0 (.alt (ah 1 (ah 9 (ag [10,11,12,13]))) (ah 9 (.alt (ah 1 (ag [10,11,12,13])) (ag [10,1,11,12,13]))))) (.alt (ah 1 (.alt (ah 0 (ah 9 (ag [10,11,12,13]))) (ah 9 (.alt (ah 0 (ag [10,11,12,13])) (ag [10,0,11,12,13]))))) (ah 9 (.alt (ah 0 (.alt (ah 1 (ag [10,11,12,13])) (ag [10,1,11,12,13]))) (.alt (ah 1 (.alt (ah 0 (ag [10,11,12,13])) (ag [10,0,11,12,13]))) (ai 10 (.alt (ag [0,1,11,12,13]) (ag [1,0,11,12,13])))))))) ⟨[(6,.own 10000 0 xs.length xs.length),(7,.d (.ro 33 (Ug 0 row))),(9,.own 30096 0 up.length up.length),(10,.d (.int .i64 (i:Int))),(11,.ptr 50576 0 0 1),(12,.ptr 50608 0 0 1),(15,.d (.int .i64 (k:Int)))],prH inner xs (Ue a.1 (.d (Xv s a.2))) (Ue b.1 (.d (Xv (s+a.2) b.2))) (Ug 0 up) (x9 (s+a.2) (k+1) a.1 g1),80000⟩ (k:=14) ?h3 ?hq
                    case h3 =>
                      --[
                      intro G hG
                      have hW:∀ (fr:Fr) (hp:Hp),(fv 6 fr=.own 10000 0 xs.length xs.length∧fv 7 fr=.d (.ro 33 (Ug 0 row))∧fv 9 fr=.own 30096 0 up.length up.length∧fv 10 fr=.d (.int .i64 (i:Int))∧fv 11 fr=.ptr 50576 0 0 1∧fv 12 fr=.ptr 50608 0 0 1∧fv 15 fr=.d (.int .i64 (k:Int)) ∧
                          lk 50608 hp=some ⟨102,33,[Ue b.1 (.d (Xv (s+a.2) b.2))]⟩∧lk 50576 hp=some ⟨102,33,[Ue a.1 (.d (Xv s a.2))]⟩∧lk 30096 hp=some ⟨102,33,(Ug 0 up).map (fun q=>q.map AV.d)⟩∧lk 10000 hp=some ⟨27,34,SH inner M1 (x9 (s+a.2) (k+1) a.1 g1) xs⟩)→(∀ j,j<8→lk (M1 j) hp=some (pB (x9 (s+a.2) (k+1) a.1 g1 j)))→G fr hp:=by
                        rintro fr hp ⟨v1,v2,v3,v4,v5,v6,v0,v7,v8,v9,v10⟩ v11;refine hG _ _ (E5 ⟨?_,?_,ab⟩)
                        · simp [c6,AV.low,AV.low1,v1,v2,v3,v4,v5,v6,v0]
                        · exact US (Ut rfl) hn (P4 _ _ _) (P4 _ _ _) v7 v8 v9 v10 v11
                      have far:∀ (c:Nat),20008≤c→∀ (u:Nat) (v:Blk),(u,v) ∈ RN 20000 8 (x9 (s+a.2) k a.1 g1)→¬ c=u:=by
                        intro c hc u v hm e;obtain ⟨j,hj,e2⟩:=P2 8 20000 _ _ hm;simp only [Prod.mk.injEq] at e2;omega
                      simp [go_sem,hlv,ha,hi,L6 ha,L6 hb,adR ha,s5,K0 hi,Uc hj8,P3,hnj,haj,aiv,apT,aiw,Vq hi,hset,hsetH,Xv]
                      repeat' apply And.intro
                      all_goals first
                        | omega
                        | (refine hW _ _ (by simp [fv,lk,Xv]) (fun j hj=>?_);simp [lk,Ub hj,Uc hj])
                        | exact fun u v hm e=>absurd e (far _ aa _ _ hm)
                      --]
                    case hq =>
                      simp [go_sem,w3];refine c8 (k+1) aa aa ⟨?_,?_,ab⟩
                      · simp [c6,fv,lk,AV.low,AV.low1]
                      · exact US (Ut rfl) hn (P4 _ _ _) (P4 _ _ _) rfl rfl rfl rfl (fun j hj=>by simp [prH,lk,Ub hj,Uc hj])
                  · have hkb:k=b.2:=aa
                    rw [hkb];have l2:=UQ (first:=s+a.2) (k:=b.2) (h:=a.1) l1 (av _);have p82:P32 (x9 (s+a.2) b.2 a.1 g1):=WS p81 ha;generalize x9 (s+a.2) b.2 a.1 g1=g2 at *;simp [go_sem,L6 ha,L6 hb,Xw ha,WT ha,Xw hb,WT hb,adR ha,adR hb];refine ⟨aa,aa,?_⟩;refine a9 (aaA a.1 b.1 ha hb hba hbb) (by intro v hv;simp at hv;rcases hv with rfl | rfl <;> exact r6 _) ?_;have hBl:=M6 a.1 b.1;have zd2:List.drop 32 (Ue z32 .nil)=[.nil]:=rfl;have zd3:List.drop 33 (Ue z32 .nil)=[]:=rfl;have e4:List.drop 33 (cb (w9 a.1 b.1) ++ [AV.nil])=[]:=az (by simp [d0,hBl]);have hw2:IntKind.i64.wrap ((i:Int)+2)=((i+2:Nat):Int):=by rw [IntWalk.i64_in _ aa];omega
                    simp [go_sem,hBl,d6 hBl,d0,zn,zd2,zd3,e4,Sr,hw2,-Int.natCast_add]
                    have hul:up.length≤10:=by
                      have e1:=congrArg List.length p4;have e2:=Tc row;simp only [aj] at e1;omega
                    have hd2:row.drop (i+2)=r:=by rw [show i+2=(i+1)+1 from rfl,← List.drop_drop,hd1];rfl
                    have ht2:D5 (row.take (i+2))=s+a.2+b.2:=by
                      rw [show i+2=(i+1)+1 from rfl,List.take_add,hd1,Y4,hta];simp [D5]
                    have hB2:D5 (up ++ [(w9 a.1 b.1,a.2+b.2)])=s+a.2+b.2:=by
                      rw [Y4,p6];simp [D5];omega
                    have hrange:List.range' s (a.2+b.2)=List.range' s a.2 ++ List.range' (s+a.2) b.2:=List.range'_append_1.symm
                    refine ⟨aa,aaj (i+2,s+a.2+b.2,r,up ++ [(w9 a.1 b.1,a.2+b.2)],g2) ⟨hd2.symm,ht2.symm,by show i+2≤row.length+1;omega,by rw [← p4];simp [D0],p5,hB2,p82,l2⟩ (by simp only [List.length_cons];omega)
                      ((Y5 (L:=30096) (ids:=[70160]) (u':=Ue (w9 a.1 b.1) (.d (Xv s (a.2+b.2)))) rfl ab ab (by simp [Ue]) (adS (ag7 (H2 (ty:=3) (es:=(List.range' s (a.2+b.2)).map fun (j:Nat)=>[DV.int .i64 (j:Int)]) (by rw [hrange];simp [lk,-List.range'_append_1]) ab ab (fun r hr=>by obtain ⟨j,_,rfl⟩:=List.mem_map.1 hr;rfl))))).trans (E5 ⟨?_,?_,ab⟩))⟩
                    · simp [c6,fv,lk,AV.low,AV.low1]
                    · intro p hp
                      rcases aF.1 hp with rfl | hp
                      · refine ⟨.inl ?_,by show 30096<50000;omega,Yq _ _⟩
                        simp [lk,y5,p9,Yp,p6,Ug,We]
                      · exact SY ab hn (by simp [lk,y5,p9]) (fun j hj=>by
                          simp [p9,y5,lk,Ub hj]
                          rw [Rt,if_neg (by simp;unfold M1;omega),Uc hj]) p hp
          · have hq0:q=[]:=by
              rw [p1];exact az aa
            subst hq0;rw [show D0 []=[] from rfl,List.append_nil] at p4;have p5':g=I9 0 row f:=p5;subst p5';subst p4;have hst:s=xs.length:=by rw [← p6,T8,q4]
            refine aez (m,D0 row,I9 0 row f) ⟨q1,?_,by show m≤7;omega,?_,?_,?_,p8,?_⟩ (by show m<m+1;omega) [30096] [(7,.d (.ro 33 (Ug 0 (D0 row))))] (fun p hp=>?_) ⟨?_,?_,ab⟩
            · have:=Tc row
              show (D0 row).length≤m+1;omega
            · show D5 (D0 row)=xs.length
              rw [T8];exact q4
            · intro u v hp
              exact WO row q5 (u,v) hp
            · intro u v hp
              exact Xx row qb (u,v) hp
            · intro j
              have:=p7 j;show (I9 0 row f j).length+m≤7
              split at this <;> omega
            · simp at hp
              subst hp;exact .one (d9 (H2 (ty:=102) rfl ab (by rw [Sr]) (aa5 _ _ (WO row q5))))
            · simp [c6,fv,lk,AV.low,AV.low1]
            · intro p hp
              exact SY ab hn rfl (fun j hj=>by
                simp [p9,lk,Ub hj]
                rw [Rt,if_neg (by simp;unfold M1;omega),Uc hj]) p hp
      · have hrl:row.length≤1:=aa
        rw [aa1 hrl] at q1;obtain ⟨rfl,rfl⟩:row=R∧f=F:=by simpa using q1
        have hF:D1 xs=f:=by unfold D1;rw [hRF]
        rw [hF] at hout hE
        have hsn:SnapD ((10000,(⟨27,34,SH inner M1 f xs⟩:Blk)) :: RN 20000 8 f) (fun id=>id ∈ atc) (.own 10000 0 xs.length xs.length) (.ro 34 ((Uo f xs).map (Q0 inner))):=by
          refine Zo (idf:=M1) hi rfl (by decide) (fun j hj=>anh j aa) q7 (fun j hj=>?_);have hj8:j<8:=aa;simp [lk,Ub hj8,Uc hj8]
        refine aeA (fun k:Nat=>⟨[(6,.d (.ro 34 ((Uo f xs).map (Q0 inner)))),(18,.d (.int .i64 (k:Int)))],[],40000⟩) (fun k=>k≤xs.length∧Yn E ((Uo f xs).drop k)=Yn E (Uo f xs)) (fun k=>xs.length - k) 0 ⟨aa,rfl⟩
          atc [(6,.d (.ro 34 ((Uo f xs).map (Q0 inner))))] (fun p hp=>?_) ⟨?_,?_,ab⟩ ?_
        · simp at hp
          subst hp;exact .one (d9 hsn)
        · simp [c6,fv,lk,AV.low,AV.low1]
        · intro p hp
          simp at hp
        rintro k ⟨hk,ho⟩;have hll:=ZZ f xs;simp [go_sem,hll];refine ⟨fun h=>?_,fun h=>?_⟩
        · obtain ⟨l,hl1,hd⟩:=t5 (l:=Uo f xs) (k:=k) aa
          have w3:=j6 (k:=k) aa;have hrow:=WP hi l;have ml:=ao hl1;simp [go_sem,hl1,hrow,acq,WQ hi,Xu hi];refine a9 (hout l ml) (ZY _ _ _) ?_;by_cases he:E l=0
          · simp [go_sem,he,w3]
            refine c8 (k+1) ⟨aa,afw hd ho he⟩ aa ?_;simp [m7,c6,fv,lk,AV.low,AV.low1]
          · have hb1:=afx hd ho he
            have he1:E l=1:=(hE l ml).resolve_left he;have hV:F9 inner xs E=.tup [.nil,.d (.int .i64 1)]:=by unfold F9;rw [hF,if_pos (.inr (.inr hb1))]
            rw [hV];simp [go_sem,he1,d7];exact b7 ae rfl
        · have hkl:k=xs.length:=aa
          subst hkl;rw [← hll,List.drop_length] at ho
          have hV:F9 inner xs E=.tup [.d (.ro 34 ((Uo f xs).map (Q0 inner))),.d (.int .i64 0)]:=by
            unfold F9
            rw [hF,if_neg (by
              rintro (h | h | h)
              · exact h0 h
              · exact h8 h
              · rw [← ho] at h;cases h)]
          rw [hV];simp [go_sem,d7];exact b7 ae rfl
end Go.Proofs.YtldccnbokbieiaaGreat
