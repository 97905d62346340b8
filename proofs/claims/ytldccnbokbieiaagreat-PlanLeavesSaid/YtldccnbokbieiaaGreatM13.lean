/-
 Part 14 of what the claim rests on.
-/
import Derived.Test.YtldccnbokbieiaaGreatM2
import Derived.Test.YtldccnbokbieiaaGreatM11
import Derived.Test.YtldccnbokbieiaaGreatM12
set_option linter.unusedVariables false
set_option linter.unusedSimpArgs false
set_option maxRecDepth 100000
set_option maxHeartbeats 16000000
namespace Go.Proofs.YtldccnbokbieiaaGreat
open Go.Am Go.Sha
def mD (s m:Nat):DV:=.ro 1 ((List.range' s m).map fun (j:Nat)=>[DV.int .i64 (j:Int)])
def B3 (h:List Nat) (s m:Nat):List DV:=cd h ++ [mD s m]
def iK (h:List Nat) (b:AV):List AV:=cb h ++ [b]
def iM:Nat→Row→List (List DV)
 | _,[]=>[]
 | s,p :: r=>B3 p.1 s p.2 :: iM (s+p.2) r
theorem kM (h:List Nat) (s m:Nat):(B3 h s m).map AV.d=iK h (.d (mD s m)):=by simp [B3,iK,fP]
theorem np {h:List Nat} (hh:h.length=32) (s m:Nat):(B3 h s m).length=33:=by simp [B3,dJ,hh]
theorem dE {h:List Nat} (hh:h.length=32) (b:AV):(iK h b).length=33:=by simp [iK,am,hh]
theorem qU {h:List Nat} (hh:h.length=32) (b:AV):List.take 33 (iK h b)=iK h b:=List.take_of_length_le (by rw [dE hh];exact Nat.le_refl _)
theorem mE {h:List Nat} (hh:h.length=32) (b:AV):(iK h b)[32]?=some b:=by
 unfold iK;rw [List.getElem?_append_right (by rw [am];omega),am,hh];rfl
theorem uw {h:List Nat} (hh:h.length=32) (b:AV):List.take 32 (iK h b)=cb h:=by
 unfold iK;rw [List.take_append_of_le_length (by rw [am,hh];exact Nat.le_refl _),List.take_of_length_le (by rw [am,hh];exact Nat.le_refl _)]
theorem fI:∀ (s:Nat) (r:Row),(iM s r).length=r.length
 | _,[]=>rfl
 | s,p :: r=>by rw [iM,List.length_cons,List.length_cons,fI]
theorem nq:∀ (s:Nat) (a b:Row),iM s (a ++ b)=iM s a ++ iM (s+bM a) b
 | s,[],b=>by simp [iM,bM]
 | s,p :: a,b=>by
  rw [List.cons_append,iM,iM,nq (s+p.2) a b,List.cons_append]
  congr 2
  simp [bM,Nat.add_assoc]
theorem qV:∀ (s:Nat) (r:Row),(∀ p,p ∈ r→p.1.length=32)→∀ x,x ∈ iM s r→x.length=33
 | _,[],_,x,h=>by simp [iM] at h
 | s,p :: r,hp,x,h=>by
  rcases List.mem_cons.1 h with rfl | h
  ·exact np (hp p (List.mem_cons_self ..)) _ _
  ·exact qV _ r (fun q hq=>hp q (List.mem_cons_of_mem _ hq)) x h
theorem oo (a b:Row):bM (a ++ b)=bM a+bM b:=by simp [bM]
theorem mF:∀ r:Row,(∀ p,p ∈ r→bytes p.1)→∀ p,p ∈ bF r→bytes p.1
 | [],h=>h
 | [a],h=>h
 | a :: b :: r,h=>by
  intro p hp
  rcases List.mem_cons.1 hp with rfl | hp
  ·exact cQ _
  ·exact mF r (fun q hq=>h q (by simp [hq])) p hp
theorem zw {row r:Row} {i:Nat} {p:List Nat × Nat} (h:row.drop i=p :: r):(iM 0 row)[i]?=some (B3 p.1 (bM (row.take i)) p.2):=by
 have hi:i<row.length:=by
  have:=congrArg List.length h
  simp at this
  omega
 conv=>lhs;rw [← List.take_append_drop i row,h]
 rw [nq,Nat.zero_add,List.getElem?_append_right (by rw [fI,List.length_take];omega),fI,List.length_take,Nat.min_eq_left (by omega),Nat.sub_self]
 rfl
theorem nt (n:Nat) (l:List (List DV)):∀ x,x ∈ l.map (fun q=>q.map AV.d)→∀ v,v ∈ x→v.low1 n:=by
 intro x hx v hv
 obtain ⟨q,_,rfl⟩:=List.mem_map.1 hx
 obtain ⟨d,_,rfl⟩:=List.mem_map.1 hv
 trivial
theorem d9 (n:Nat) (h:List Nat) (d:DV):∀ v,v ∈ iK h (.d d)→v.low1 n:=by
 intro v hv
 rcases List.mem_append.1 hv with q | q
 ·exact aF _ _ v q
 ·simp at q;subst q;trivial
theorem Mm:eH Tryz.prog 102=some (iK z32 .nil):=by kernel_rfl
attribute [go_sem] Mm
theorem oq {st:St} {L e:Nat} {ty:TypeId} {ids:List Nat} {A:List (List AV)} {u u':List AV} (hb:lk L st.hp=some ⟨ty,e,A ++ [u]⟩) (he:e ≠ 0) (hL:L ∉ ids) (hu:u'.length=u.length)
  (hc:∀ (j:Nat) (v v':AV),u[j]?=some v→u'[j]?=some v'→rp st.hp ids v v'):Wk st ⟨st.fr,bn L ⟨ty,e,A ++ [u']⟩ (aQ ids st.hp),st.nx⟩:=by
 refine zJ (b:=⟨ty,e,A ++ [u]⟩) ids hL hb he (by simp) ?_
 intro i x x' h1 h2
 simp only at h1
 by_cases hi:i<A.length
 ·rw [List.getElem?_append_left hi] at h1 h2
  rw [h1] at h2
  cases h2
  exact ⟨rfl,fun j v v' a1 a2=>by rw [a1] at a2;cases a2;exact .inl rfl⟩
 ·rw [List.getElem?_append_right (by omega)] at h1 h2
  have:i - A.length=0:=by
   have:=(List.getElem?_eq_some_iff.1 h1).1
   simp at this
   omega
  rw [this] at h1 h2
  simp only [List.getElem?_cons_zero,Option.some.injEq] at h1 h2
  subst h1 h2
  exact ⟨hu,hc⟩
theorem uy {hp:Hp} {ids:List Nat} {pre a b:List AV} (h:∀ (j:Nat) (v v':AV),a[j]?=some v→b[j]?=some v'→rp hp ids v v'):∀ (j:Nat) (v v':AV),(pre ++ a)[j]?=some v→(pre ++ b)[j]?=some v'→rp hp ids v v':=by
 intro j v v' h1 h2
 by_cases hj:j<pre.length
 ·rw [List.getElem?_append_left hj] at h1 h2
  rw [h1] at h2
  cases h2
  exact .inl rfl
 ·rw [List.getElem?_append_right (by omega)] at h1 h2
  exact h _ v v' h1 h2
theorem zx {hp:Hp} {ids:List Nat} {v:AV} {d:DV} (h:SnapD hp (fun id=>id ∈ ids) v d):∀ (j:Nat) (a b:AV),[v][j]?=some a→[AV.d d][j]?=some b→rp hp ids a b:=by
 intro j a b h1 h2
 match j,h1,h2 with
 | 0,h1,h2=>simp at h1 h2;subst h1 h2;exact .inr ⟨d,rfl,h⟩
 | j+1,h1,_=>simp at h1
def DE (inner:List Nat) (xs:List (List Nat)) (za zb:List AV) (ups:List (List DV)) (f:eF):Hp :=
 (50608,⟨102,33,[zb]⟩) :: (50576,⟨102,33,[za]⟩) :: (30096,⟨102,33,ups.map (fun q=>q.map AV.d)⟩) :: (10000,⟨27,34,ga inner dI f xs⟩) :: fi 20000 8 f
theorem jq {inner:List Nat} {xs:List (List Nat)} {za zb:List AV} {ups:List (List DV)} {f:eF} {hp:Hp} {nx N:Nat} (hN:51000≤N) (hn:xs.length≤8) (ha:∀ v,v ∈ za→v.low1 N) (hb:∀ v,v ∈ zb→v.low1 N)
  (v7:lk 50608 hp=some ⟨102,33,[zb]⟩) (v8:lk 50576 hp=some ⟨102,33,[za]⟩) (v9:lk 30096 hp=some ⟨102,33,ups.map (fun q=>q.map AV.d)⟩) (v10:lk 10000 hp=some ⟨27,34,ga inner dI f xs⟩) (v11:∀ j,j<8→lk (dI j) hp=some (pB (f j))) :
  ∀ p,p ∈ DE inner xs za zb ups f→(lk p.1 hp=some p.2 ∨ (nx≤p.1∧p.2.es=[]))∧p.1<N∧∀ r,r ∈ p.2.es→∀ v,v ∈ r→v.low1 N:=by
 intro p hp'
 unfold DE at hp'
 rcases List.mem_cons.1 hp' with rfl | hp'
 ·exact ⟨.inl v7,by show 50608<N;omega,by intro r hr;simp at hr;subst hr;exact hb⟩
 rcases List.mem_cons.1 hp' with rfl | hp'
 ·exact ⟨.inl v8,by show 50576<N;omega,by intro r hr;simp at hr;subst hr;exact ha⟩
 rcases List.mem_cons.1 hp' with rfl | hp'
 ·exact ⟨.inl v9,by show 30096<N;omega,nt _ _⟩
 ·exact gq (by omega) hn v10 v11 p hp'
theorem iw {j:Nat} (hj:j<8) (c:Nat) (hc:c<20000 ∨ 20008≤c):(c=dI j)=False:=by unfold dI;simp;omega
theorem iy {f:eF} {j:Nat} (hj:j<8):lk (dI j) (fi 20000 8 f)=some (pB (f j)):=gL 8 20000 f j hj
theorem xw {f:eF} {j:Nat} (q:List (List Nat)) (hj:j<8):bn (dI j) (pB q) (fi 20000 8 f)=fi 20000 8 (GL f j q):=qM 8 20000 f j q hj
def JL:List Nat:=[10000,20000,20001,20002,20003,20004,20005,20006,20007]
theorem DF:∀ j,j<8→dI j ∈ JL:=by decide
theorem lF {h:List Nat} (hh:h.length=32) (b:AV) (hl:32<(iK h b).length):(iK h b)[32]=b:=by
 have:=mE hh b
 rw [List.getElem?_eq_getElem hl] at this
 exact Option.some.inj this
theorem B4 (inner:List Nat) (xs:List (List Nat)) (hi:inner.length=32) (hib:bytes inner) (hxb:∀ x,x ∈ xs→bytes x) (hx:∀ x,x ∈ xs→x.length≤100000) (O:Lf→List Nat) (E:Lf→Int) (hE:∀ l,l ∈ gK (bc xs) xs→E l=0 ∨ E l=1)
    (hout:∀ l,l ∈ gK (bc xs) xs→aq Tryz.prog 19 [.agg (aB inner (.d (cF l.1)) (.d (nb l.2)))] (fun r=>r=.tup [.d (nb (O l)),.d (.int .i64 (E l))])) :
    aq Tryz.prog 25 [.agg (cb inner),.d (.ro 1 (xs.map me))] (fun r=>r=bN inner xs E):=by
  refine aS Tryz.func25 Tryz.ntmps25 (rs:=[.tmp 4,.tmp 5]) (by
    intro v hv;simp at hv;rcases hv with rfl | rfl
    · exact aL _
    · trivial) ?_
  by_cases h0:xs.length=0
  · have hV:bN inner xs E=.tup [.nil,.d (.int .i64 1)]:=by unfold bN;rw [if_pos (.inl h0)]
    rw [hV]
    have hxs:xs=[]:=List.eq_nil_of_length_eq_zero h0
    subst hxs
    simp [go_sem,am,hi,aj hi,ak]
    exact ae (by simp [AV.deep,AV.deep1]) rfl
  by_cases h8:8<xs.length
  · have hV:bN inner xs E=.tup [.nil,.d (.int .i64 1)]:=by unfold bN;rw [if_pos (.inr (.inl h8))]
    rw [hV]
    have i0:¬ (xs.length:Int)<1:=by omega
    have i8:(8:Int)<(xs.length:Int):=by omega
    simp [go_sem,am,hi,aj hi,i0,i8,h0,h8,ak]
    exact ae (by simp [AV.deep,AV.deep1]) rfl
  have hn:xs.length≤8:=by omega
  have i0:¬ (xs.length:Int)<1:=by omega
  have i8:¬ (8:Int)<(xs.length:Int):=by omega
  have hne:¬ xs=[]:=fun e=>h0 (by rw [e];rfl)
  simp [go_sem,am,hi,aj hi,i0,i8,h0,h8,hne]
  refine kS (fun k:Nat=>⟨[(1,.d (.ro 1 (xs.map me))),(2,.ptr 0 0 0 1),(6,.own 10000 0 k k),(7,.own 10001 0 k k),(8,.d (.int .i64 (k:Int)))],
      [(10001,⟨102,33,(iM 0 (dk (xs.take k))).map (fun q=>q.map AV.d)⟩),(10000,⟨27,34,uv inner (xs.take k)⟩),(0,⟨23,32,[cb inner]⟩)],11000⟩)
    (fun k=>k≤xs.length) (fun k=>xs.length - k) 0 (by omega) ((DT [(352,10000),(416,10001),(0,0)] 10999 rfl (by simp) (by simp) (by omega)).trans (cK (by
      simp [av,ag,fv,lk,AV.low,AV.low1,iM,dk,uv,zH,xQ,AV.ren,dL,Blk.ren,cZ,jl,um]
      exact aF _ _))) ?_
  intro k hk
  simp only [go_sem,Nat.reduceEqDiff,Nat.reduceAdd,Nat.reduceLT,↓reduceIte,Nat.reduceMul]
  refine ⟨fun h=>?_,fun h=>?_⟩
  · obtain ⟨x,hxk,hd⟩:=cN (l:=xs) (k:=k) (by simpa using h)
    have w3:=ax (k:=k) (by omega)
    have hxl:=hx x (List.mem_of_getElem? hxk)
    have zl:(aB z32 .nil .nil).length=34:=rfl
    have hst:(iM 0 (dk (xs.take k))).length=k:=by rw [fI,dk,List.length_map,List.length_take];omega
    have hlv:(uv inner (xs.take k)).length=k:=by rw [uv,List.length_map,List.length_take];omega
    have hlB:=ie x
    have zd:List.drop 32 (aB z32 .nil .nil)=[.nil,.nil]:=rfl
    have b2:=pN hi .nil .nil
    have b3:=pO hi .nil .nil
    simp [go_sem]
    refine bk [0,1,3,4,5,6] [(2,[]),(7,[8]),(9,[]),(10,[]),(11,[])] 3 (k:=12) ?_
    intro G hG
    simp [go_sem,hxk,me,am,hi,aj hi,zl,hlv,zd,b2,b3,nb]
    refine ⟨by omega,by omega,hG _ _ ?_⟩
    clear hG G
    have hash1:aq Tryz.prog 59 [.d (nb x)] (fun r=>r=.agg (cb (ct x))):=nH x (by omega) (hxb x (List.mem_of_getElem? hxk))
    have zn:(iK z32 .nil).length=33:=rfl
    have zd2:List.drop 32 (iK z32 .nil)=[.nil]:=rfl
    have zd3:List.drop 33 (iK z32 .nil)=[]:=rfl
    simp [go_sem,hxk,me]
    refine ab hash1 (by simp [AV.deep,AV.deep1]) ?_
    simp [go_sem,hlB,aj hlB,am,zn,zd2,zd3,hst,w3]
    have e4:List.drop 33 (cb (ct x) ++ [AV.nil])=[]:=List.drop_eq_nil_of_le (by simp [am,hlB])
    rw [e4]
    refine ⟨by omega,rm (k+1) (by have:=(List.getElem?_eq_some_iff.1 hxk).1;omega) (by have:=(List.getElem?_eq_some_iff.1 hxk).1;omega)
      ((oq (L:=10001) (ids:=[11736]) (u':=iK (ct x) (.d (mD k 1))) rfl (by simp) (by simp) (by simp [iK]) (uy (zx (cq (es:=[[.int .i64 (k:Int)]]) rfl (by simp) rfl (by simp))))).trans
       ((oq (L:=10000) (ids:=[11192]) (u':=cb inner ++ ([.nil] ++ [.d (nb x)])) rfl (by simp) (by simp) (by simp) (uy (uy (pre:=[AV.nil]) (zx (cq (ty:=5) (es:=x.map fun (b:Nat)=>[DV.int .u8 (b:Int)]) (by simp [lk,bn,aQ]) (by simp) (by simp) (by simp)))))).trans (cK ⟨?_,?_,by simp⟩)))⟩
    · simp [ag,fv,lk,AV.low,AV.low1]
    · have E1:uv inner (xs.take (k+1))=uv inner (xs.take k) ++ [cb inner ++ [.nil,.d (nb x)]]:=by rw [lD hxk];simp [uv,aB]
      have E2:(iM 0 (dk (xs.take (k+1)))).map (fun q=>q.map AV.d)=(iM 0 (dk (xs.take k))).map (fun q=>q.map AV.d) ++ [iK (ct x) (.d (mD k 1))]:=by
        rw [lD hxk,xk,nq,List.map_append,iv,List.length_take,Nat.min_eq_left (by omega)]
        simp [dk,iM,kM]
      intro p hp
      simp only [List.mem_cons,List.mem_nil_iff,or_false] at hp
      rcases hp with rfl | rfl | rfl
      · exact ⟨.inl (by simp [lk,bn,aQ,E2]),by show 10001<11000;omega,nt _ _⟩
      · exact ⟨.inl (by simp [lk,bn,aQ,E1]),by show 10000<11000;omega,fun r hr=>by
          obtain ⟨y,_,rfl⟩:=List.mem_map.1 hr
          exact ip _ _ _ _ trivial trivial⟩
      · exact ⟨.inl rfl,by show 0<11000;omega,by intro r hr;simp at hr;subst hr;exact aF _ _⟩
  · have hkn:k=xs.length:=by
      simp at h
      omega
    subst hkn
    simp [go_sem]
    obtain ⟨R,F,hRF⟩:∃ R F,cx 7 (dk xs) (fun _=>[])=(R,F):=⟨_,_,rfl⟩
    have hr0:(dk xs).length=xs.length:=by simp [dk]
    refine kS (fun t:Nat × Row × eF=>⟨[(6,.own 10000 0 xs.length xs.length),(7,.d (.ro 33 (iM 0 t.2.1)))],(10000,⟨27,34,ga inner dI t.2.2 xs⟩) :: fi 20000 8 t.2.2,30000⟩)
      (fun t=>cx t.1 t.2.1 t.2.2=(R,F)∧t.2.1.length≤t.1+1∧t.1≤7∧bM t.2.1=xs.length∧(∀ p,p ∈ t.2.1→p.1.length=32)∧(∀ p,p ∈ t.2.1→bytes p.1)∧CT t.2.2∧∀ j,(t.2.2 j).length+t.1≤7) (fun t=>t.1) (7,dk xs,fun _=>[])
      ⟨hRF,by simp only [hr0];omega,Nat.le_refl _,iv xs,nk xs,(by
        intro p hp
        obtain ⟨x,_,rfl⟩:=List.mem_map.1 hp
        exact cQ _),(fun j p hp=>by simp at hp),fun j=>by simp⟩ ?_ ?_
    · refine (ud [10001] [(7,.d (.ro 33 (iM 0 (dk xs))))] (fun p hp=>?_)).trans ((cK ?_).trans (sR xs hn))
      · simp at hp
        subst hp
        exact .one (aw (cq rfl (by simp) (by rw [fI,hr0]) (qV _ _ (nk xs))))
      · refine ⟨?_,?_,by simp⟩
        · simp [ag,fv,lk,AV.low,AV.low1]
        · intro p hp
          rcases List.mem_cons.1 hp with rfl | hp
          · exact ⟨.inl rfl,by show 10000<30000;omega,fun r hr=>by
              obtain ⟨y,_,rfl⟩:=List.mem_map.1 hr
              exact ip _ _ _ _ trivial trivial⟩
          · obtain ⟨j,hj,rfl⟩:=d6 8 20000 _ p hp
            exact ⟨.inr ⟨by show _≤20000+j;simp;omega,rfl⟩,by show 20000+j<30000;omega,uk _ _⟩
    · rintro ⟨n,row,f⟩ ⟨q1,q2,q3,q4,q5,qb,q7,q6⟩
      simp only at q1 q2 q3 q4 q5 q6 q7 qb
      simp only
      simp [go_sem,fI]
      refine ⟨fun h=>?_,fun h=>?_⟩
      · have h':1<row.length:=by omega
        obtain ⟨m,rfl⟩:∃ m,n=m+1:=⟨n - 1,by omega⟩
        rw [cx,if_pos h'] at q1
        refine au (fun t:Nat × Nat × Row × Row × eF=>⟨[(6,.own 10000 0 xs.length xs.length),(7,.d (.ro 33 (iM 0 row))),(9,.own 30096 0 t.2.2.2.1.length t.2.2.2.1.length),(10,.d (.int .i64 (t.1:Int)))],
            (30096,⟨102,33,(iM 0 t.2.2.2.1).map (fun q=>q.map AV.d)⟩) :: (10000,⟨27,34,ga inner dI t.2.2.2.2 xs⟩) :: fi 20000 8 t.2.2.2.2,50000⟩)
          (fun t=>t.2.2.1=row.drop t.1∧t.2.1=bM (row.take t.1)∧t.1≤row.length+1∧t.2.2.2.1 ++ bF t.2.2.1=bF row∧cU t.2.1 t.2.2.1 t.2.2.2.2=cU 0 row f∧bM t.2.2.2.1=t.2.1∧CT t.2.2.2.2∧∀ j,(t.2.2.2.2 j).length≤if j<t.2.1 then (6 - m)+1 else 6 - m)
          (fun t=>t.2.2.1.length) (0,0,row,[],f) ⟨rfl,rfl,by simp,rfl,rfl,rfl,q7,fun j=>by have:=q6 j;simp only [Nat.not_lt_zero,if_false];omega⟩ ⟨?_,?_,by simp⟩ ?_
        · simp [ag,fv,lk,AV.low,AV.low1,iM]
        · intro p hp
          rcases List.mem_cons.1 hp with rfl | hp
          · exact ⟨.inl rfl,by show 30096<50000;omega,by intro r hr;simp [iM] at hr⟩
          · exact gq (by simp) hn rfl (fun j hj=>by
              have hne:∀ c,(c<20000 ∨ 20008≤c)→¬ c=dI j:=fun c hc=>by unfold dI;omega
              have:=gL 8 20000 f j hj
              simp [lk,hne]
              exact this) p hp
        · rintro ⟨i,s,q,up,g⟩ ⟨p1,p2,p3,p4,p5,p6,p8,p7⟩
          simp only at p1 p2 p3 p4 p5 p6 p7 p8
          simp only
          simp [go_sem,fI]
          refine ⟨fun hh=>?_,fun hh=>?_⟩
          · have hil:i<row.length:=by omega
            have hdl:q.length=row.length - i:=by rw [p1,List.length_drop]
            have hrl8:row.length≤8:=by omega
            have w1:=ax (k:=i) (by omega)
            match q,p1,p4,p5,hdl with
            | [],_,_,_,hdl=>simp at hdl;omega
            | [a],p1,p4,p5,hdl =>
              have hl1:i+1=row.length:=by simp at hdl;omega
              have ha:=q5 a (List.mem_of_mem_drop (by rw [← p1];simp))
              have hat:=zw p1.symm
              rw [← p2] at hat
              have hla:=np ha s a.2
              have hul:up.length≤10:=by
                have e1:=congrArg List.length p4
                have e2:=gF row
                simp only [List.length_append] at e1
                omega
              have hw2:IntKind.i64.wrap ((i:Int)+2)=((i+2:Nat):Int):=by rw [IntWalk.i64_in _ (by omega)];omega
              have w1':IntKind.i64.wrap ((i:Int)+1)=(row.length:Int):=by rw [w1,hl1]
              simp [go_sem,w1',fI,hat,hla,kM,dE ha,qU ha,hw2,-Int.natCast_add]
              refine ⟨by omega,?_⟩
              have hd2:row.drop (i+2)=[]:=List.drop_eq_nil_of_le (by omega)
              have ht2:bM (row.take (i+2))=s+a.2:=by
                rw [List.take_of_length_le (by omega)]
                conv=>lhs;rw [← List.take_append_drop i row,← p1]
                rw [p2]
                simp [bM]
              refine ai (i+2,s+a.2,[],up ++ [a],g) ⟨hd2.symm,ht2.symm,by show i+2≤_;omega,by rw [← p4];simp [bF],p5,?_,p8,?_⟩ (by simp) ⟨?_,?_,by simp⟩
              · have:=p6
                simp only [bM,List.map_append,List.sum_append,List.map_cons,List.map_nil,List.sum_cons,List.sum_nil] at this ⊢
                omega
              · intro j
                have:=p7 j
                show (g j).length≤if j<s+a.2 then 6 - m+1 else 6 - m
                split at this
                · rw [if_pos (by omega)];omega
                · split <;> omega
              · simp [ag,fv,lk,AV.low,AV.low1]
              · intro p hp
                rcases List.mem_cons.1 hp with rfl | hp
                · refine ⟨.inl ?_,by show 30096<50000;omega,nt _ _⟩
                  simp [lk,bn,nq,p6,iM,kM]
                · exact gq (by simp) hn rfl (fun j hj=>by
                    have hne:∀ c,(c<20000 ∨ 20008≤c)→¬ c=dI j:=fun c hc=>by unfold dI;omega
                    have:=gL 8 20000 g j hj
                    simp [lk,hne]
                    exact this) p hp
            | a :: b :: r,p1,p4,p5,hdl =>
              have hl1:¬ i+1=row.length:=by simp at hdl;omega
              have hl1':¬ ((i+1:Nat):Int)=(row.length:Int):=by omega
              have ha:=q5 a (List.mem_of_mem_drop (by rw [← p1];simp))
              have hb:=q5 b (List.mem_of_mem_drop (by rw [← p1];simp))
              have hba:=qb a (List.mem_of_mem_drop (by rw [← p1];simp))
              have hbb:=qb b (List.mem_of_mem_drop (by rw [← p1];simp))
              have hat:=zw p1.symm
              rw [← p2] at hat
              have hla:=np ha s a.2
              have hd1:row.drop (i+1)=b :: r:=by rw [← List.drop_drop,← p1];rfl
              have hta:bM (row.take (i+1))=s+a.2:=by
                rw [List.take_add,← p1,p2]
                simp [bM]
              have hbt:=zw hd1
              rw [hta] at hbt
              have hlb:=np hb (s+a.2) b.2
              have zn:(iK z32 .nil).length=33:=rfl
              simp [go_sem,w1,hl1,hl1',fI,-Int.natCast_add]
              skip
              refine bD [0,1,2,3,4,5,6,7,8] [9,10,11,12] [0,1,2,3,4,5,6,7,8] (.alt (.step 9 [] true (.step 10 [] true (.step 11 [] true (.step 12 [] false .done)))) (.step 10 [] true (.step 9 [] true (.step 11 [] true (.step 12 [] false .done))))) ⟨[(6,.own 10000 0 xs.length xs.length),(7,.d (.ro 33 (iM 0 row))),(9,.own 30096 0 up.length up.length),(10,.d (.int .i64 (i:Int))),(11,.ptr 50576 0 0 1),(12,.ptr 50608 0 0 1)],(50608,⟨102,33,[iK b.1 (.d (mD (s+a.2) b.2))]⟩) :: (50576,⟨102,33,[iK a.1 (.d (mD s a.2))]⟩) :: (30096,⟨102,33,(iM 0 up).map (fun q=>q.map AV.d)⟩) :: (10000,⟨27,34,ga inner dI g xs⟩) :: fi 20000 8 g,60000⟩ (k:=13) ?h3 ?hq
              case h3 =>
                --[
                intro G hG
                have zd3:List.drop 33 (iK z32 .nil)=[]:=rfl
                have hW:∀ (fr:Fr) (hp:Hp),(fv 6 fr=.own 10000 0 xs.length xs.length∧fv 7 fr=.d (.ro 33 (iM 0 row))∧fv 9 fr=.own 30096 0 up.length up.length∧fv 10 fr=.d (.int .i64 (i:Int))∧fv 11 fr=.ptr 50576 0 0 1∧fv 12 fr=.ptr 50608 0 0 1 ∧
                    lk 50608 hp=some ⟨102,33,[iK b.1 (.d (mD (s+a.2) b.2))]⟩∧lk 50576 hp=some ⟨102,33,[iK a.1 (.d (mD s a.2))]⟩∧lk 30096 hp=some ⟨102,33,(iM 0 up).map (fun q=>q.map AV.d)⟩∧lk 10000 hp=some ⟨27,34,ga inner dI g xs⟩)→(∀ j,j<8→lk (dI j) hp=some (pB (g j)))→G fr hp:=by
                  rintro fr hp ⟨v1,v2,v3,v4,v5,v6,v7,v8,v9,v10⟩ v11
                  refine hG _ _ (cK ⟨?_,?_,by simp⟩)
                  · simp [ag,AV.low,AV.low1,v1,v2,v3,v4,v5,v6]
                  · intro p hp'
                    rcases List.mem_cons.1 hp' with rfl | hp'
                    · exact ⟨.inl v7,by show 50608<60000;omega,by intro r hr;simp at hr;subst hr;exact d9 _ _ _⟩
                    rcases List.mem_cons.1 hp' with rfl | hp'
                    · exact ⟨.inl v8,by show 50576<60000;omega,by intro r hr;simp at hr;subst hr;exact d9 _ _ _⟩
                    rcases List.mem_cons.1 hp' with rfl | hp'
                    · exact ⟨.inl v9,by show 30096<60000;omega,nt _ _⟩
                    · exact gq (by simp) hn v10 v11 p hp'
                have hne:∀ j,j<8→∀ c,(c<20000 ∨ 20008≤c)→(c=dI j)=False:=fun j hj c hc=>by unfold dI;simp;omega
                have lkj:∀ j,j<8→lk (dI j) (fi 20000 8 g)=some (pB (g j)):=fun j hj=>gL 8 20000 g j hj
                have far:∀ (c:Nat),20008≤c→∀ (u:Nat) (v:Blk),(u,v) ∈ fi 20000 8 g→¬ c=u:=by
                  intro c hc u v hm e
                  obtain ⟨j,hj,e2⟩:=d6 8 20000 g _ hm
                  simp only [Prod.mk.injEq] at e2
                  omega
                simp [go_sem,hat,hbt,hla,hlb,kM,w1,zn,zd3,dE ha,dE hb,qU ha,qU hb,-Int.natCast_add]
                repeat' apply And.intro
                all_goals first
                  | (refine hW _ _ (by simp [fv,lk]) (fun j hj=>?_);simp [lk,hne j hj,lkj j hj])
                  | (intro u v hm;simp [far 50608 (by omega) u v hm,far 50576 (by omega) u v hm])
                --]
              case hq =>
                have hfr:(50608,(⟨102,33,[iK b.1 (.d (mD (s+a.2) b.2))]⟩:Blk)) :: (50576,⟨102,33,[iK a.1 (.d (mD s a.2))]⟩) :: (30096,⟨102,33,(iM 0 up).map (fun q=>q.map AV.d)⟩) :: (10000,⟨27,34,ga inner dI g xs⟩) :: fi 20000 8 g=DE inner xs (iK a.1 (.d (mD s a.2))) (iK b.1 (.d (mD (s+a.2) b.2))) (iM 0 up) g:=rfl
                have tot:s+(a.2+(b.2+bM r))=xs.length:=by
                  have e1:bM row=bM (row.take i)+bM (row.drop i):=by rw [← oo,List.take_append_drop]
                  rw [q4,← p2,← p1] at e1
                  simp only [bM,List.map_cons,List.sum_cons] at e1 ⊢
                  omega
                have hgl:∀ j,(g j).length≤100:=fun j=>by
                  have:=p7 j
                  split at this <;> omega
                simp [go_sem]
                refine au (fun k:Nat=>⟨[(6,.own 10000 0 xs.length xs.length),(7,.d (.ro 33 (iM 0 row))),(9,.own 30096 0 up.length up.length),(10,.d (.int .i64 (i:Int))),(11,.ptr 50576 0 0 1),(12,.ptr 50608 0 0 1),(13,.d (.int .i64 (k:Int)))],
                    DE inner xs (iK a.1 (.d (mD s a.2))) (iK b.1 (.d (mD (s+a.2) b.2))) (iM 0 up) (aU s k b.1 g),70000⟩) (fun k=>k≤a.2) (fun k=>a.2 - k) 0 (by omega) ⟨?_,?_,by simp⟩ ?_
                · simp [ag,fv,lk,AV.low,AV.low1]
                · rw [lA]
                  exact jq (jy rfl) hn (d9 _ _ _) (d9 _ _ _) rfl rfl rfl rfl (fun j hj=>by simp [lk,iw hj,iy hj])
                intro k hk
                simp only [DE]
                simp [go_sem,dE ha,dE hb,mE ha,lF ha,mD]
                refine ⟨fun hlt=>?_,fun hge=>?_⟩
                · have hrk:(List.range' s a.2)[k]?=some (s+k):=by rw [List.getElem?_range' hlt];simp
                  have hj8:s+k<8:=by omega
                  have hjx:s+k<xs.length:=by omega
                  obtain ⟨x,hxk⟩:∃ x,xs[s+k]?=some x:=⟨_,List.getElem?_eq_getElem hjx⟩
                  have w3:=ax (k:=k) (by omega)
                  have hlv:=oj (inner:=inner) (idf:=dI) (f:=aU s k b.1 g) hxk
                  have hls:=fun q=>pK (inner:=inner) (idf:=dI) (f:=aU s k b.1 g) q hxk
                  rw [iR] at hlv
                  have hset:=hls (g (s+k) ++ [b.1])
                  have hsetH:=xw (f:=aU s k b.1 g) (g (s+k) ++ [b.1]) hj8
                  rw [lB] at hset hsetH
                  simp only [List.length_append,List.length_cons,List.length_nil,Nat.zero_add,aB,pB,List.map_append,List.map_cons,List.map_nil] at hset hsetH
                  have hfk:=hgl (s+k)
                  have hnj:=iw hj8
                  have haj:=iR s k b.1 g
                  generalize s+k=j at hrk hj8 hjx hxk hlv hset hsetH hfk hnj haj
                  simp [go_sem,hrk,d7]
                  refine bD [2,3,4,5,6,7,8] [0,1,9,10,11,12,13] [2,3,4,5,6,7,8] (.alt (.step 0 [] true (.alt (.step 1 [] true (.step 9 [] true (.step 10 [] false (.step 11 [] false (.step 12 [] false (.step 13 [] false .done)))))) (.step 9 [] true (.alt (.step 1 [] true (.step 10 [] false (.step 11 [] false (.step 12 [] false (.step 13 [] false .done))))) (.step 10 [] false (.step 1 [] false (.step 11 [] false (.step 12 [] false (.step 13 [] false .done))))))))) (.alt (.step 1 [] true (.alt (.step 0 [] true (.step 9 [] true (.step 10 [] false (.step 11 [] false (.step 12 [] false (.step 13 [] false .done)))))) (.step 9 [] true (.alt (.step 0 [] true (.step 10 [] false (.step 11 [] false (.step 12 [] false (.step 13 [] false .done))))) (.step 10 [] false (.step 0 [] false (.step 11 [] false (.step 12 [] false (.step 13 [] false .done))))))))) (.step 9 [] true (.alt (.step 0 [] true (.alt (.step 1 [] true (.step 10 [] false (.step 11 [] false (.step 12 [] false (.step 13 [] false .done))))) (.step 10 [] false (.step 1 [] false (.step 11 [] false (.step 12 [] false (.step 13 [] false .done))))))) (.alt (.step 1 [] true (.alt (.step 0 [] true (.step 10 [] false (.step 11 [] false (.step 12 [] false (.step 13 [] false .done))))) (.step 10 [] false (.step 0 [] false (.step 11 [] false (.step 12 [] false (.step 13 [] false .done))))))) (.step 10 [] false (.alt (.step 0 [] false (.step 1 [] false (.step 11 [] false (.step 12 [] false (.step 13 [] false .done))))) (.step 1 [] false (.step 0 [] false (.step 11 [] false (.step 12 [] false (.step 13 [] false .done)))))))))))) ⟨[(6,.own 10000 0 xs.length xs.length),(7,.d (.ro 33 (iM 0 row))),(9,.own 30096 0 up.length up.length),(10,.d (.int .i64 (i:Int))),(11,.ptr 50576 0 0 1),(12,.ptr 50608 0 0 1),(13,.d (.int .i64 (k:Int)))],DE inner xs (iK a.1 (.d (mD s a.2))) (iK b.1 (.d (mD (s+a.2) b.2))) (iM 0 up) (aU s (k+1) b.1 g),80000⟩ (k:=14) ?h3 ?hq
                  case h3 =>
                    --[
                    intro G hG
                    have hW:∀ (fr:Fr) (hp:Hp),(fv 6 fr=.own 10000 0 xs.length xs.length∧fv 7 fr=.d (.ro 33 (iM 0 row))∧fv 9 fr=.own 30096 0 up.length up.length∧fv 10 fr=.d (.int .i64 (i:Int))∧fv 11 fr=.ptr 50576 0 0 1∧fv 12 fr=.ptr 50608 0 0 1∧fv 13 fr=.d (.int .i64 (k:Int)) ∧
                        lk 50608 hp=some ⟨102,33,[iK b.1 (.d (mD (s+a.2) b.2))]⟩∧lk 50576 hp=some ⟨102,33,[iK a.1 (.d (mD s a.2))]⟩∧lk 30096 hp=some ⟨102,33,(iM 0 up).map (fun q=>q.map AV.d)⟩∧lk 10000 hp=some ⟨27,34,ga inner dI (aU s (k+1) b.1 g) xs⟩)→(∀ j,j<8→lk (dI j) hp=some (pB (aU s (k+1) b.1 g j)))→G fr hp:=by
                      rintro fr hp ⟨v1,v2,v3,v4,v5,v6,v0,v7,v8,v9,v10⟩ v11
                      refine hG _ _ (cK ⟨?_,?_,by simp⟩)
                      · simp [ag,AV.low,AV.low1,v1,v2,v3,v4,v5,v6,v0]
                      · exact jq (jy rfl) hn (d9 _ _ _) (d9 _ _ _) v7 v8 v9 v10 v11
                    have far:∀ (c:Nat),20008≤c→∀ (u:Nat) (v:Blk),(u,v) ∈ fi 20000 8 (aU s k b.1 g)→¬ c=u:=by
                      intro c hc u v hm e
                      obtain ⟨j,hj,e2⟩:=d6 8 20000 _ _ hm
                      simp only [Prod.mk.injEq] at e2
                      omega
                    simp [go_sem,hlv,hb,hi,dE ha,dE hb,uw hb,aB,da hi,iy hj8,d7,hnj,haj,AG,GM,AH,jO hi,hset,hsetH,mD]
                    repeat' apply And.intro
                    all_goals first
                      | omega
                      | (refine hW _ _ (by simp [fv,lk,mD]) (fun j hj=>?_);simp [lk,iw hj,iy hj])
                      | exact fun u v hm e=>absurd e (far _ (by omega) _ _ hm)
                    --]
                  case hq =>
                    simp [go_sem,w3]
                    refine ai (k+1) (by omega) (by omega) ⟨?_,?_,by simp⟩
                    · simp [ag,fv,lk,AV.low,AV.low1]
                    · exact jq (jy rfl) hn (d9 _ _ _) (d9 _ _ _) rfl rfl rfl rfl (fun j hj=>by simp [DE,lk,iw hj,iy hj])
                · have hka:k=a.2:=by omega
                  rw [hka]
                  have hg1l:∀ j,(aU s a.2 b.1 g j).length≤101:=by
                    intro j
                    have:=hgl j
                    unfold aU
                    split
                    · simp;omega
                    · omega
                  have l1:=jm (first:=s) (k:=a.2) (h:=b.1) p7 (Nat.le_refl _)
                  have p81:CT (aU s a.2 b.1 g):=lE p8 hb
                  rw [cU] at p5
                  generalize aU s a.2 b.1 g=g1 at *
                  have hg1:=hg1l
                  simp [go_sem,dE ha,dE hb,mE ha,lF ha,mE hb,lF hb]
                  refine au (fun k:Nat=>⟨[(6,.own 10000 0 xs.length xs.length),(7,.d (.ro 33 (iM 0 row))),(9,.own 30096 0 up.length up.length),(10,.d (.int .i64 (i:Int))),(11,.ptr 50576 0 0 1),(12,.ptr 50608 0 0 1),(15,.d (.int .i64 (k:Int)))],
                      DE inner xs (iK a.1 (.d (mD s a.2))) (iK b.1 (.d (mD (s+a.2) b.2))) (iM 0 up) (aU (s+a.2) k a.1 g1),70000⟩) (fun k=>k≤b.2) (fun k=>b.2 - k) 0 (by omega) ⟨?_,?_,by simp⟩ ?_
                  · simp [ag,fv,lk,AV.low,AV.low1]
                  · rw [lA]
                    exact jq (jy rfl) hn (d9 _ _ _) (d9 _ _ _) rfl rfl rfl rfl (fun j hj=>by simp [lk,iw hj,iy hj])
                  clear hk hge hka
                  intro k hk
                  simp only [DE]
                  simp [go_sem,dE ha,dE hb,mE hb,lF hb,mD]
                  refine ⟨fun hlt=>?_,fun hge=>?_⟩
                  · have hrk:(List.range' (s+a.2) b.2)[k]?=some ((s+a.2)+k):=by rw [List.getElem?_range' hlt];simp
                    have hj8:(s+a.2)+k<8:=by omega
                    have hjx:(s+a.2)+k<xs.length:=by omega
                    obtain ⟨x,hxk⟩:∃ x,xs[(s+a.2)+k]?=some x:=⟨_,List.getElem?_eq_getElem hjx⟩
                    have w3:=ax (k:=k) (by omega)
                    have hlv:=oj (inner:=inner) (idf:=dI) (f:=aU (s+a.2) k a.1 g1) hxk
                    have hls:=fun q=>pK (inner:=inner) (idf:=dI) (f:=aU (s+a.2) k a.1 g1) q hxk
                    rw [iR] at hlv
                    have hset:=hls (g1 ((s+a.2)+k) ++ [a.1])
                    have hsetH:=xw (f:=aU (s+a.2) k a.1 g1) (g1 ((s+a.2)+k) ++ [a.1]) hj8
                    rw [lB] at hset hsetH
                    simp only [List.length_append,List.length_cons,List.length_nil,Nat.zero_add,aB,pB,List.map_append,List.map_cons,List.map_nil] at hset hsetH
                    have hfk:=hg1 ((s+a.2)+k)
                    have hnj:=iw hj8
                    have haj:=iR (s+a.2) k a.1 g1
                    generalize (s+a.2)+k=j at hrk hj8 hjx hxk hlv hset hsetH hfk hnj haj
                    simp [go_sem,hrk,d7]
                    refine bD [2,3,4,5,6,7,8] [0,1,9,10,11,12,13] [2,3,4,5,6,7,8] (.alt (.step 0 [] true (.alt (.step 1 [] true (.step 9 [] true (.step 10 [] false (.step 11 [] false (.step 12 [] false (.step 13 [] false .done)))))) (.step 9 [] true (.alt (.step 1 [] true (.step 10 [] false (.step 11 [] false (.step 12 [] false (.step 13 [] false .done))))) (.step 10 [] false (.step 1 [] false (.step 11 [] false (.step 12 [] false (.step 13 [] false .done))))))))) (.alt (.step 1 [] true (.alt (.step 0 [] true (.step 9 [] true (.step 10 [] false (.step 11 [] false (.step 12 [] false (.step 13 [] false .done)))))) (.step 9 [] true (.alt (.step 0 [] true (.step 10 [] false (.step 11 [] false (.step 12 [] false (.step 13 [] false .done))))) (.step 10 [] false (.step 0 [] false (.step 11 [] false (.step 12 [] false (.step 13 [] false .done))))))))) (.step 9 [] true (.alt (.step 0 [] true (.alt (.step 1 [] true (.step 10 [] false (.step 11 [] false (.step 12 [] false (.step 13 [] false .done))))) (.step 10 [] false (.step 1 [] false (.step 11 [] false (.step 12 [] false (.step 13 [] false .done))))))) (.alt (.step 1 [] true (.alt (.step 0 [] true (.step 10 [] false (.step 11 [] false (.step 12 [] false (.step 13 [] false .done))))) (.step 10 [] false (.step 0 [] false (.step 11 [] false (.step 12 [] false (.step 13 [] false .done))))))) (.step 10 [] false (.alt (.step 0 [] false (.step 1 [] false (.step 11 [] false (.step 12 [] false (.step 13 [] false .done))))) (.step 1 [] false (.step 0 [] false (.step 11 [] false (.step 12 [] false (.step 13 [] false .done)))))))))))) ⟨[(6,.own 10000 0 xs.length xs.length),(7,.d (.ro 33 (iM 0 row))),(9,.own 30096 0 up.length up.length),(10,.d (.int .i64 (i:Int))),(11,.ptr 50576 0 0 1),(12,.ptr 50608 0 0 1),(15,.d (.int .i64 (k:Int)))],DE inner xs (iK a.1 (.d (mD s a.2))) (iK b.1 (.d (mD (s+a.2) b.2))) (iM 0 up) (aU (s+a.2) (k+1) a.1 g1),80000⟩ (k:=14) ?h3 ?hq
                    case h3 =>
                      --[
                      intro G hG
                      have hW:∀ (fr:Fr) (hp:Hp),(fv 6 fr=.own 10000 0 xs.length xs.length∧fv 7 fr=.d (.ro 33 (iM 0 row))∧fv 9 fr=.own 30096 0 up.length up.length∧fv 10 fr=.d (.int .i64 (i:Int))∧fv 11 fr=.ptr 50576 0 0 1∧fv 12 fr=.ptr 50608 0 0 1∧fv 15 fr=.d (.int .i64 (k:Int)) ∧
                          lk 50608 hp=some ⟨102,33,[iK b.1 (.d (mD (s+a.2) b.2))]⟩∧lk 50576 hp=some ⟨102,33,[iK a.1 (.d (mD s a.2))]⟩∧lk 30096 hp=some ⟨102,33,(iM 0 up).map (fun q=>q.map AV.d)⟩∧lk 10000 hp=some ⟨27,34,ga inner dI (aU (s+a.2) (k+1) a.1 g1) xs⟩)→(∀ j,j<8→lk (dI j) hp=some (pB (aU (s+a.2) (k+1) a.1 g1 j)))→G fr hp:=by
                        rintro fr hp ⟨v1,v2,v3,v4,v5,v6,v0,v7,v8,v9,v10⟩ v11
                        refine hG _ _ (cK ⟨?_,?_,by simp⟩)
                        · simp [ag,AV.low,AV.low1,v1,v2,v3,v4,v5,v6,v0]
                        · exact jq (jy rfl) hn (d9 _ _ _) (d9 _ _ _) v7 v8 v9 v10 v11
                      have far:∀ (c:Nat),20008≤c→∀ (u:Nat) (v:Blk),(u,v) ∈ fi 20000 8 (aU (s+a.2) k a.1 g1)→¬ c=u:=by
                        intro c hc u v hm e
                        obtain ⟨j,hj,e2⟩:=d6 8 20000 _ _ hm
                        simp only [Prod.mk.injEq] at e2
                        omega
                      simp [go_sem,hlv,ha,hi,dE ha,dE hb,uw ha,aB,da hi,iy hj8,d7,hnj,haj,AG,GM,AH,jO hi,hset,hsetH,mD]
                      repeat' apply And.intro
                      all_goals first
                        | omega
                        | (refine hW _ _ (by simp [fv,lk,mD]) (fun j hj=>?_);simp [lk,iw hj,iy hj])
                        | exact fun u v hm e=>absurd e (far _ (by omega) _ _ hm)
                      --]
                    case hq =>
                      simp [go_sem,w3]
                      refine ai (k+1) (by omega) (by omega) ⟨?_,?_,by simp⟩
                      · simp [ag,fv,lk,AV.low,AV.low1]
                      · exact jq (jy rfl) hn (d9 _ _ _) (d9 _ _ _) rfl rfl rfl rfl (fun j hj=>by simp [DE,lk,iw hj,iy hj])
                  · have hkb:k=b.2:=by omega
                    rw [hkb]
                    have l2:=jm (first:=s+a.2) (k:=b.2) (h:=a.1) l1 (Nat.le_refl _)
                    have p82:CT (aU (s+a.2) b.2 a.1 g1):=lE p81 ha
                    generalize aU (s+a.2) b.2 a.1 g1=g2 at *
                    simp [go_sem,dE ha,dE hb,mE ha,lF ha,mE hb,lF hb,uw ha,uw hb]
                    refine ⟨by omega,by omega,?_⟩
                    refine ab (rG a.1 b.1 ha hb hba hbb) (by intro v hv;simp at hv;rcases hv with rfl | rfl <;> exact aL _) ?_
                    have hBl:=dQ a.1 b.1
                    have zd2:List.drop 32 (iK z32 .nil)=[.nil]:=rfl
                    have zd3:List.drop 33 (iK z32 .nil)=[]:=rfl
                    have e4:List.drop 33 (cb (aO a.1 b.1) ++ [AV.nil])=[]:=List.drop_eq_nil_of_le (by simp [am,hBl])
                    have hw2:IntKind.i64.wrap ((i:Int)+2)=((i+2:Nat):Int):=by rw [IntWalk.i64_in _ (by omega)];omega
                    simp [go_sem,hBl,aj hBl,am,zn,zd2,zd3,e4,fI,hw2,-Int.natCast_add]
                    have hul:up.length≤10:=by
                      have e1:=congrArg List.length p4
                      have e2:=gF row
                      simp only [List.length_append] at e1
                      omega
                    have hd2:row.drop (i+2)=r:=by rw [show i+2=(i+1)+1 from rfl,← List.drop_drop,hd1];rfl
                    have ht2:bM (row.take (i+2))=s+a.2+b.2:=by
                      rw [show i+2=(i+1)+1 from rfl,List.take_add,hd1,oo,hta]
                      simp [bM]
                    have hB2:bM (up ++ [(aO a.1 b.1,a.2+b.2)])=s+a.2+b.2:=by
                      rw [oo,p6]
                      simp [bM]
                      omega
                    have hrange:List.range' s (a.2+b.2)=List.range' s a.2 ++ List.range' (s+a.2) b.2:=List.range'_append_1.symm
                    refine ⟨by omega,rm (i+2,s+a.2+b.2,r,up ++ [(aO a.1 b.1,a.2+b.2)],g2) ⟨hd2.symm,ht2.symm,by show i+2≤row.length+1;omega,by rw [← p4];simp [bF],p5,hB2,p82,l2⟩ (by simp only [List.length_cons];omega)
                      ((oq (L:=30096) (ids:=[70160]) (u':=iK (aO a.1 b.1) (.d (mD s (a.2+b.2)))) rfl (by simp) (by simp) (by simp [iK]) (uy (zx (cq (ty:=3) (es:=(List.range' s (a.2+b.2)).map fun (j:Nat)=>[DV.int .i64 (j:Int)]) (by rw [hrange];simp [lk,-List.range'_append_1]) (by simp) (by simp) (fun r hr=>by obtain ⟨j,_,rfl⟩:=List.mem_map.1 hr;rfl))))).trans (cK ⟨?_,?_,by simp⟩))⟩
                    · simp [ag,fv,lk,AV.low,AV.low1]
                    · intro p hp
                      rcases List.mem_cons.1 hp with rfl | hp
                      · refine ⟨.inl ?_,by show 30096<50000;omega,nt _ _⟩
                        simp [lk,bn,aQ,nq,p6,iM,kM]
                      · exact gq (by simp) hn (by simp [lk,bn,aQ]) (fun j hj=>by
                          simp [aQ,bn,lk,iw hj]
                          rw [eT,if_neg (by simp;unfold dI;omega),iy hj]) p hp
          · have hq0:q=[]:=by
              rw [p1]
              exact List.drop_eq_nil_of_le (by omega)
            subst hq0
            rw [show bF []=[] from rfl,List.append_nil] at p4
            have p5':g=cU 0 row f:=p5
            subst p5'
            subst p4
            have hst:s=xs.length:=by rw [← p6,iu,q4]
            refine xT (m,bF row,cU 0 row f) ⟨q1,?_,by show m≤7;omega,?_,?_,?_,p8,?_⟩ (by show m<m+1;omega) [30096] [(7,.d (.ro 33 (iM 0 (bF row))))] (fun p hp=>?_) ⟨?_,?_,by simp⟩
            · have:=gF row
              show (bF row).length≤m+1
              omega
            · show bM (bF row)=xs.length
              rw [iu];exact q4
            · intro u v hp
              exact lC row q5 (u,v) hp
            · intro u v hp
              exact mF row qb (u,v) hp
            · intro j
              have:=p7 j
              show (cU 0 row f j).length+m≤7
              split at this <;> omega
            · simp at hp
              subst hp
              exact .one (aw (cq (ty:=102) rfl (by simp) (by rw [fI]) (qV _ _ (lC row q5))))
            · simp [ag,fv,lk,AV.low,AV.low1]
            · intro p hp
              exact gq (by simp) hn rfl (fun j hj=>by
                simp [aQ,lk,iw hj]
                rw [eT,if_neg (by simp;unfold dI;omega),iy hj]) p hp
      · have hrl:row.length≤1:=by omega
        rw [qQ hrl] at q1
        obtain ⟨rfl,rfl⟩:row=R∧f=F:=by simpa using q1
        have hF:bc xs=f:=by unfold bc;rw [hRF]
        rw [hF] at hout hE
        have hsn:SnapD ((10000,(⟨27,34,ga inner dI f xs⟩:Blk)) :: fi 20000 8 f) (fun id=>id ∈ JL) (.own 10000 0 xs.length xs.length) (.ro 34 ((gK f xs).map (cS inner))):=by
          refine o4 (idf:=dI) hi rfl (by decide) (fun j hj=>DF j (by omega)) q7 (fun j hj=>?_)
          have hj8:j<8:=by omega
          simp [lk,iw hj8,iy hj8]
        refine xU (fun k:Nat=>⟨[(6,.d (.ro 34 ((gK f xs).map (cS inner)))),(18,.d (.int .i64 (k:Int)))],[],40000⟩) (fun k=>k≤xs.length∧nl E ((gK f xs).drop k)=nl E (gK f xs)) (fun k=>xs.length - k) 0 ⟨by omega,rfl⟩
          JL [(6,.d (.ro 34 ((gK f xs).map (cS inner))))] (fun p hp=>?_) ⟨?_,?_,by simp⟩ ?_
        · simp at hp
          subst hp
          exact .one (aw hsn)
        · simp [ag,fv,lk,AV.low,AV.low1]
        · intro p hp
          simp at hp
        rintro k ⟨hk,ho⟩
        have hll:=nn f xs
        simp [go_sem,hll]
        refine ⟨fun h=>?_,fun h=>?_⟩
        · obtain ⟨l,hl1,hd⟩:=cN (l:=gK f xs) (k:=k) (by omega)
          have w3:=ax (k:=k) (by omega)
          have hrow:=jn hi l
          have ml:=List.mem_of_getElem? hl1
          simp [go_sem,hl1,hrow,om,jo hi,jQ hi]
          refine ab (hout l ml) (pR _ _ _) ?_
          by_cases he:E l=0
          · simp [go_sem,he,w3]
            refine ai (k+1) ⟨by omega,xm hd ho he⟩ (by omega) ?_
            simp [av,ag,fv,lk,AV.low,AV.low1]
          · have hb1:=xn hd ho he
            have he1:E l=1:=(hE l ml).resolve_left he
            have hV:bN inner xs E=.tup [.nil,.d (.int .i64 1)]:=by unfold bN;rw [hF,if_pos (.inr (.inr hb1))]
            rw [hV]
            simp [go_sem,he1,ak]
            exact ae (by simp [AV.deep,AV.deep1]) rfl
        · have hkl:k=xs.length:=by omega
          subst hkl
          rw [← hll,List.drop_length] at ho
          have hV:bN inner xs E=.tup [.d (.ro 34 ((gK f xs).map (cS inner))),.d (.int .i64 0)]:=by
            unfold bN
            rw [hF,if_neg (by
              rintro (h | h | h)
              · exact h0 h
              · exact h8 h
              · rw [← ho] at h;cases h)]
          rw [hV]
          simp [go_sem,ak]
          exact ae (by simp [AV.deep,AV.deep1]) rfl
end Go.Proofs.YtldccnbokbieiaaGreat
