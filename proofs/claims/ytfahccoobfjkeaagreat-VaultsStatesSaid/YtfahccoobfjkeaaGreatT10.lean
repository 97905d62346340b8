/-
  Part 11 of what the claim rests on.
-/
import Derived.Test.YtfahccoobfjkeaaGreatT2
import Derived.Test.YtfahccoobfjkeaaGreatT3
import Derived.Test.YtfahccoobfjkeaaGreatT7
set_option linter.unusedVariables false
set_option linter.unusedSimpArgs false
set_option maxRecDepth 100000
set_option maxHeartbeats 16000000
namespace Go.Proofs.YtfahccoobfjkeaaGreat
open Go.Am Go.Sha
abbrev Pth:=Nat→List (List Nat)
def pB (q:List (List Nat)):Blk:=⟨22,32,q.map cb⟩
def hpF (P:Nat):Nat→Pth→Hp
  | 0,_=>[]
  | n+1,f=>(P,pB (f 0)) :: hpF (P+1) n (fun j=>f (j+1))
def upd (f:Pth) (j:Nat) (q:List (List Nat)):Pth:=fun i=>if i=j then q else f i
def pid (j:Nat):Nat:=1+j
theorem pid_ne {j:Nat} (h:j<8) (c:Nat) (hc:9≤c):(c=pid j)=False:=by unfold pid;simp;omega
theorem pid_z (j:Nat):(0=pid j)=False:=by unfold pid;simp;omega
theorem lk_hpF:∀ (n P:Nat) (f:Pth) (j:Nat),j<n→lk (P+j) (hpF P n f)=some (pB (f j))
  | n+1,P,f,0,_=>by simp [hpF,lk]
  | n+1,P,f,j+1,h=>by
    have:=lk_hpF n (P+1) (fun j=>f (j+1)) j (by omega)
    rw [hpF,lk,if_neg (by omega),show P+(j+1)=P+1+j by omega,this]
theorem setH_hpF:∀ (n P:Nat) (f:Pth) (j:Nat) (q:List (List Nat)),j<n→setH (P+j) (pB q) (hpF P n f)=hpF P n (upd f j q)
  | n+1,P,f,0,q,_=>by
    simp only [hpF,setH,Nat.add_zero,if_true]
    congr 1
  | n+1,P,f,j+1,q,h=>by
    have:=setH_hpF n (P+1) (fun j=>f (j+1)) j q (by omega)
    rw [hpF,setH,if_neg (by omega),show P+(j+1)=P+1+j by omega,this,hpF]
    simp [upd]
    congr 1
theorem mem_hpF:∀ (n P:Nat) (f:Pth) (p:Nat × Blk),p ∈ hpF P n f→∃ j,j<n∧p=(P+j,pB (f j))
  | 0,_,_,p,h=>by simp [hpF] at h
  | n+1,P,f,p,h=>by
    rw [hpF] at h
    rcases List.mem_cons.1 h with rfl | h
    · exact ⟨0,by omega,rfl⟩
    · obtain ⟨j,hj,rfl⟩:=mem_hpF n (P+1) _ p h
      exact ⟨j+1,by omega,by rw [show P+1+j=P+(j+1) by omega]⟩
theorem lk_pid {f:Pth} {j:Nat} (h:j<8):lk (pid j) (hpF 1 8 f)=some (pB (f j)):=lk_hpF 8 1 f j h
theorem setH_pid {f:Pth} {j:Nat} (q:List (List Nat)) (h:j<8):setH (pid j) (pB q) (hpF 1 8 f)=hpF 1 8 (upd f j q):=setH_hpF 8 1 f j q h
theorem pB_ty (q:List (List Nat)):(pB q).ty=22:=rfl
theorem pB_e (q:List (List Nat)):(pB q).e=32:=rfl
theorem pB_es (q:List (List Nat)):(pB q).es=q.map cb:=rfl
theorem leaf_set32 {inner:List Nat} (hi:inner.length=32) (a b c:AV):(cb inner ++ [a,b]).set 32 c=cb inner ++ [c,b]:=by
  have hl:(cb inner).length=32:=by rw [cb_len,hi]
  rw [List.set_append_right _ _ (by omega),hl]
  rfl
def lvR (inner:List Nat) (idf:Nat→Nat) (f:Pth) (xs:List (List Nat)):List (List AV):=xs.mapIdx fun j x=>leafC inner (.own (idf j) 0 (f j).length (f j).length) (.d (nb x))
theorem lvR_len {inner:List Nat} {idf:Nat→Nat} {f:Pth} {xs:List (List Nat)}:(lvR inner idf f xs).length=xs.length:=by simp [lvR]
theorem lvR_at {inner:List Nat} {idf:Nat→Nat} {f:Pth} {xs:List (List Nat)} {j:Nat} {x:List Nat} (h:xs[j]?=some x):(lvR inner idf f xs)[j]?=some (leafC inner (.own (idf j) 0 (f j).length (f j).length) (.d (nb x))):=by
  simp [lvR,h]
theorem lvR_set {inner:List Nat} {idf:Nat→Nat} {f:Pth} {xs:List (List Nat)} {j:Nat} {x:List Nat} (q:List (List Nat)) (h:xs[j]?=some x):(lvR inner idf f xs).set j (leafC inner (.own (idf j) 0 q.length q.length) (.d (nb x)))=lvR inner idf (upd f j q) xs:=by
  have hj:=(List.getElem?_eq_some_iff.1 h).1
  apply List.ext_getElem?
  intro i
  rw [List.getElem?_set]
  by_cases hi:j=i
  · subst hi
    rw [if_pos rfl,if_pos (by rw [lvR_len];exact hj),lvR_at h]
    simp [upd]
  · rw [if_neg hi]
    simp only [lvR,List.getElem?_mapIdx,upd]
    rw [if_neg (fun e=>hi e.symm)]
theorem leafC_lowP (n:Nat) (inner:List Nat) (a b:AV) (ha:a.low1 n) (hb:b.low1 n):∀ v,v ∈ leafC inner a b→v.low1 n:=by
  intro v hv
  unfold leafC at hv
  rcases List.mem_append.1 hv with h | h
  · exact cb_low _ _ v h
  · simp at h
    rcases h with rfl | rfl
    · exact ha
    · exact hb
theorem lvR_low {n:Nat} {inner:List Nat} {idf:Nat→Nat} {f:Pth} {xs:List (List Nat)} (h:∀ j,j<xs.length→idf j<n):∀ r,r ∈ lvR inner idf f xs→∀ v,v ∈ r→v.low1 n:=by
  intro r hr
  simp only [lvR,List.mem_mapIdx] at hr
  obtain ⟨j,hj,rfl⟩:=hr
  exact leafC_lowP _ _ _ _ (h j hj) trivial
theorem pB_low (n:Nat) (q:List (List Nat)):∀ r,r ∈ (pB q).es→∀ v,v ∈ r→v.low1 n:=by
  intro r hr
  simp only [pB,List.mem_map] at hr
  obtain ⟨p,_,rfl⟩:=hr
  exact cb_low _ _
def stemC (h:List Nat) (first many:Nat):List AV:=cb h ++ [.d (.int .i64 (first:Int)),.d (.int .i64 (many:Int))]
theorem stem_len {h:List Nat} (hh:h.length=32) (a b:Nat):(stemC h a b).length=34:=by simp [stemC,cb_len,hh]
theorem stem_take {h:List Nat} (hh:h.length=32) (a b:Nat):List.take 34 (stemC h a b)=stemC h a b:=List.take_of_length_le (by rw [stem_len hh];exact Nat.le_refl _)
theorem stem32 {h:List Nat} (hh:h.length=32) (a b:Nat):(stemC h a b)[32]?=some (.d (.int .i64 (a:Int))):=leaf32 hh _ _
theorem stem33 {h:List Nat} (hh:h.length=32) (a b:Nat):(stemC h a b)[33]?=some (.d (.int .i64 (b:Int))):=leaf33 hh _ _
theorem stem32g {h:List Nat} (hh:h.length=32) (a b:Nat) (hl:32<(stemC h a b).length):(stemC h a b)[32]=.d (.int .i64 (a:Int)):=by
  have:=stem32 hh a b
  rw [List.getElem?_eq_getElem hl] at this
  exact Option.some.inj this
theorem stem33g {h:List Nat} (hh:h.length=32) (a b:Nat) (hl:33<(stemC h a b).length):(stemC h a b)[33]=.d (.int .i64 (b:Int)):=by
  have:=stem33 hh a b
  rw [List.getElem?_eq_getElem hl] at this
  exact Option.some.inj this
theorem stem_cb {h:List Nat} (hh:h.length=32) (a b:Nat):List.take 32 (stemC h a b)=cb h:=by
  unfold stemC;rw [List.take_append_of_le_length (by rw [cb_len,hh];exact Nat.le_refl _),List.take_of_length_le (by rw [cb_len,hh];exact Nat.le_refl _)]
theorem stem_b1 {h:List Nat} (hh:h.length=32) (a b:AV):List.drop 33 (cb h ++ [a,b])=[b]:=by
  rw [List.drop_append,cb_len,hh,List.drop_eq_nil_of_le (by rw [cb_len];omega)];rfl
theorem stem_b2 {h:List Nat} (hh:h.length=32) (a b:AV):List.take 33 (cb h ++ [a,b])=cb h ++ [a]:=by
  rw [List.take_append,cb_len,hh,List.take_of_length_le (by rw [cb_len];omega)];rfl
theorem stem_b3 {h:List Nat} (hh:h.length=32) (a b:AV):List.drop 34 (cb h ++ [a,b])=[]:=List.drop_eq_nil_of_le (by simp [cb_len,hh])
theorem stem_low (n:Nat) (h:List Nat) (a b:Nat):∀ v,v ∈ stemC h a b→v.low1 n:=by
  intro v hv
  rcases List.mem_append.1 hv with q | q
  · exact cb_low _ _ v q
  · simp at q;rcases q with rfl | rfl <;> trivial
theorem zstem:tzO Tryz.prog 153=some (stemC z32 0 0):=by kernel_rfl
attribute [go_sem] zstem
def addP (first k:Nat) (h:List Nat) (f:Pth):Pth:=fun j=>if first≤j∧j<first+k then f j ++ [h] else f j
theorem addP_zero (first:Nat) (h:List Nat) (f:Pth):addP first 0 h f=f:=by
  funext j;unfold addP;rw [if_neg (by omega)]
theorem addP_at (first k:Nat) (h:List Nat) (f:Pth):addP first k h f (first+k)=f (first+k):=by unfold addP;rw [if_neg (by omega)]
theorem addP_succ (first k:Nat) (h:List Nat) (f:Pth):upd (addP first k h f) (first+k) (f (first+k) ++ [h])=addP first (k+1) h f:=by
  funext j
  unfold upd addP
  by_cases h1:j=first+k
  · subst h1;rw [if_pos rfl,if_pos (by omega)]
  · rw [if_neg h1]
    by_cases h2:first≤j∧j<first+k
    · rw [if_pos h2,if_pos (by omega)]
    · rw [if_neg h2,if_neg (by omega)]
def grH (inner:List Nat) (xs:List (List Nat)) (za zb zc:List AV) (f:Pth):Hp :=
  (74,⟨153,34,[za]⟩) :: (42,⟨153,34,[zb]⟩) :: (10,⟨153,34,[zc]⟩) :: (0,⟨93,34,lvR inner pid f xs⟩) :: hpF 1 8 f
theorem grH_weak {inner:List Nat} {xs:List (List Nat)} {za zb zc:List AV} {f:Pth} {hp:Hp} {nx N:Nat} (hN:100≤N) (hn:xs.length≤8) (ha:∀ v,v ∈ za→v.low1 N) (hb:∀ v,v ∈ zb→v.low1 N) (hc:∀ v,v ∈ zc→v.low1 N)
    (h1:lk 74 hp=some ⟨153,34,[za]⟩) (h2:lk 42 hp=some ⟨153,34,[zb]⟩) (h3:lk 10 hp=some ⟨153,34,[zc]⟩) (h4:lk 0 hp=some ⟨93,34,lvR inner pid f xs⟩) (h5:∀ j,j<8→lk (pid j) hp=some (pB (f j))) :
    ∀ p,p ∈ grH inner xs za zb zc f→(lk p.1 hp=some p.2 ∨ (nx≤p.1∧p.2.es=[]))∧p.1<N∧∀ r,r ∈ p.2.es→∀ v,v ∈ r→v.low1 N:=by
  intro p hp'
  unfold grH at hp'
  simp only [List.mem_cons] at hp'
  rcases hp' with rfl | rfl | rfl | rfl | hp'
  · exact ⟨.inl h1,by show 74<N;omega,by intro r hr;simp at hr;subst hr;exact ha⟩
  · exact ⟨.inl h2,by show 42<N;omega,by intro r hr;simp at hr;subst hr;exact hb⟩
  · exact ⟨.inl h3,by show 10<N;omega,by intro r hr;simp at hr;subst hr;exact hc⟩
  · exact ⟨.inl h4,by show 0<N;omega,lvR_low (fun j hj=>by show 1+j<N;omega)⟩
  · obtain ⟨j,hj,rfl⟩:=mem_hpF 8 1 f p hp'
    exact ⟨.inl (h5 j hj),by show 1+j<N;omega,pB_low _ _⟩
theorem graft_fn (inner a b:List Nat) (xs:List (List Nat)) (f:Pth) (fa ma fb mb:Nat) (hi:inner.length=32) (ha:a.length=32) (hb:b.length=32) (hn:xs.length≤8) (h1:fa+ma≤xs.length) (h2:fb+mb≤xs.length) (hf:∀ j,(f j).length≤100) :
    RetsE Tryz.prog 78 9 ((0,⟨93,34,lvR inner pid f xs⟩) :: hpF 1 8 f) [.own 0 0 xs.length xs.length,.agg (stemC a fa ma),.agg (stemC b fb mb)]
      (fun r hp'=>r=.agg (stemC (branchB a b) fa (ma+mb))∧lk 0 hp'=some ⟨93,34,lvR inner pid (addP fb mb a (addP fa ma b f)) xs⟩∧∀ j,j<8→lk (pid j) hp'=some (pB (addP fb mb a (addP fa ma b f) j))):=by
  refine fnE_of_awp Tryz.func78 (by kernel_rfl) rfl Tryz.ntmps78 (rs:=[.cell 6 153]) rfl (nlb rfl) (nlb rfl) ?_
  have sa:=stem_len ha fa ma
  have sb:=stem_len hb fb mb
  have w1:IntKind.i64.wrap ((fa:Int)+ma)=((fa+ma:Nat):Int):=by rw [IntWalk.i64_in _ (by omega)];omega
  have w2:IntKind.i64.wrap ((fb:Int)+mb)=((fb+mb:Nat):Int):=by rw [IntWalk.i64_in _ (by omega)];omega
  have zs:(stemC z32 0 0).length=34:=rfl
  simp [go_sem,sa,sb,zs,stem_take ha,stem_take hb,stem32g ha,stem33g ha,stem32g hb,stem33g hb,lvR_len,w1,-Int.natCast_add]
  refine ⟨by omega,?_⟩
  refine loop_of (fun k:Nat=>⟨[(0,.own 0 0 xs.length xs.length),(4,.ptr 10 0 0 1),(5,.ptr 42 0 0 1),(6,.ptr 74 0 0 1),(20,.d (.int .i64 (ma:Int))),(21,.d (.int .i64 (k:Int)))],
      grH inner xs (stemC z32 0 0) (stemC b fb mb) (stemC a fa ma) (addP fa k b f),10000⟩)
    (fun k=>k≤ma) (fun k=>ma - k) 0 (by omega) (by
      rw [addP_zero]
      refine ⟨?_,?_,by simp⟩
      · simp [slotOk,fv,lk,AV.low,AV.low1]
      · exact grH_weak (nlb rfl) hn (stem_low _ _ _ _) (stem_low _ _ _ _) (stem_low _ _ _ _) rfl rfl rfl rfl (fun j hj=>by simp [lk,pid_ne hj,pid_z,lk_pid hj])) ?_
  intro k hk
  simp only [grH]
  simp only [go_sem,Nat.reduceEqDiff,Nat.reduceAdd,Nat.reduceLT,↓reduceIte,Nat.reduceMul]
  refine ⟨fun h=>?_,fun h=>?_⟩
  · have hj:fa+k<xs.length:=by omega
    obtain ⟨x,hx⟩:∃ x,xs[fa+k]?=some x:=⟨_,List.getElem?_eq_getElem hj⟩
    have w3:=next_i64 (k:=k) (by omega)
    have w4:IntKind.i64.wrap ((fa:Int)+k)=((fa+k:Nat):Int):=by rw [IntWalk.i64_in _ (by omega)];omega
    have hla:=lvR_at (inner:=inner) (idf:=pid) (f:=addP fa k b f) hx
    have hls:=fun q=>lvR_set (inner:=inner) (idf:=pid) (f:=addP fa k b f) q hx
    have hp8:fa+k<8:=by omega
    have hne:=pid_ne hp8
    have h0:=pid_z (fa+k)
    rw [addP_at] at hla
    simp [go_sem,sa,sb,zs,stem_take ha,stem_take hb,stem32g ha,stem33g ha,stem32g hb,stem33g hb,stem32 ha,lvR_len,w4,-Int.natCast_add]
    refine ⟨by omega,?_⟩
    have far:∀ (f:Pth) (c:Nat),9≤c→∀ (a:Nat) (b:Blk),(a,b) ∈ hpF 1 8 f→¬ c=a:=by
      intro f c hc a b hm e
      obtain ⟨j,hj,e2⟩:=mem_hpF 8 1 f _ hm
      simp only [Prod.mk.injEq] at e2
      omega
    refine drw3 [1,2,3,4,5,6] [0,7,8,9,10,11] [1,2,3,4,5,6] (.alt (.step 0 [] true (.step 7 [] true (.step 8 [] false (.step 9 [] false (.step 10 [] false (.step 11 [] false .done)))))) (.step 7 [] true (.alt (.step 0 [] true (.step 8 [] false (.step 9 [] false (.step 10 [] false (.step 11 [] false .done))))) (.step 8 [] false (.step 0 [] false (.step 9 [] false (.step 10 [] false (.step 11 [] false .done)))))))) ⟨[(0,.own 0 0 xs.length xs.length),(4,.ptr 10 0 0 1),(5,.ptr 42 0 0 1),(6,.ptr 74 0 0 1),(20,.d (.int .i64 (ma:Int))),(21,.d (.int .i64 (k:Int)))],grH inner xs (stemC z32 0 0) (stemC b fb mb) (stemC a fa ma) (addP fa (k+1) b f),20000⟩ (k:=12) ?h3 ?hq
    case h3 =>
      intro G hG
      have hW:∀ (fr:Fr) (hp:Hp),(fv 0 fr=.own 0 0 xs.length xs.length∧fv 4 fr=.ptr 10 0 0 1∧fv 5 fr=.ptr 42 0 0 1∧fv 6 fr=.ptr 74 0 0 1∧fv 20 fr=.d (.int .i64 (ma:Int))∧fv 21 fr=.d (.int .i64 (k:Int)) ∧
          hp=(10544,⟨22,32,[cb b]⟩) :: (74,⟨153,34,[stemC z32 0 0]⟩) :: (42,⟨153,34,[stemC b fb mb]⟩) :: (10,⟨153,34,[stemC a fa ma]⟩) :: (0,⟨93,34,lvR inner pid (addP fa (k+1) b f) xs⟩) :: hpF 1 8 (addP fa (k+1) b f))→G fr hp:=by
        rintro fr hp ⟨q0,q1,q2,q3,q4,q5,rfl⟩
        refine hG _ _ (weak_wk ⟨?_,?_,by simp⟩)
        · simp [slotOk,AV.low,AV.low1,q0,q1,q2,q3,q4,q5]
        · exact grH_weak (nlb rfl) hn (stem_low _ _ _ _) (stem_low _ _ _ _) (stem_low _ _ _ _) rfl rfl rfl rfl (fun j hj=>by simp [lk,pid_ne hj,pid_z,lk_pid hj])
      have hset:=hls (f (fa+k) ++ [b])
      have hsetH:=setH_pid (f:=addP fa k b f) (f (fa+k) ++ [b]) hp8
      rw [addP_succ] at hset hsetH
      simp [leafC,pB] at hset hsetH
      have hfk:=hf (fa+k)
      simp [go_sem,sb,hla,hb,hi,leafC,leaf32 hi,stem_cb hb,lk_pid hp8,lvR_len,hne,h0,addP_at,pB_ty,pB_e,pB_es,leaf_set32 hi,hset,hsetH]
      repeat' apply And.intro
      all_goals first | exact hW _ _ (by simp [fv,lk]) | omega | exact fun a c hm e=>absurd e (far _ _ (by omega) _ _ hm)
    case hq =>
      simp [go_sem,w3]
      refine next_of (k+1) (by omega) (by omega) ⟨?_,?_,by simp⟩
      · simp [slotOk,fv,lk,AV.low,AV.low1]
      · exact grH_weak (nlb rfl) hn (stem_low _ _ _ _) (stem_low _ _ _ _) (stem_low _ _ _ _) rfl rfl rfl rfl (fun j hj=>by simp [grH,lk,pid_ne hj,pid_z,lk_pid hj])
  · have hk2:k=ma:=by omega
    subst hk2
    simp [go_sem,sa,sb,zs,stem_take ha,stem_take hb,stem32g ha,stem33g ha,stem32g hb,stem33g hb,stem32 ha,stem33 ha,stem32 hb,stem33 hb,lvR_len,w2,-Int.natCast_add]
    refine ⟨by omega,?_⟩
    have hg:∀ j,(addP fa k b f j).length≤101:=by
      intro j
      have:=hf j
      unfold addP
      split
      · simp;omega
      · omega
    have hna:fa+k≤8:=by omega
    generalize addP fa k b f=g at *
    clear hk h w1
    revert sa
    revert h1
    generalize k=ka
    intro h1 sa
    refine loop_of (fun k:Nat=>⟨[(0,.own 0 0 xs.length xs.length),(4,.ptr 10 0 0 1),(5,.ptr 42 0 0 1),(6,.ptr 74 0 0 1),(51,.d (.int .i64 (mb:Int))),(52,.d (.int .i64 (k:Int)))],
        grH inner xs (stemC z32 0 0) (stemC b fb mb) (stemC a fa ka) (addP fb k a g),10000⟩)
      (fun k=>k≤mb) (fun k=>mb - k) 0 (by omega) (by
        rw [addP_zero]
        refine ⟨?_,?_,by simp⟩
        · simp [slotOk,fv,lk,AV.low,AV.low1]
        · exact grH_weak (nlb rfl) hn (stem_low _ _ _ _) (stem_low _ _ _ _) (stem_low _ _ _ _) rfl rfl rfl rfl (fun j hj=>by simp [lk,pid_ne hj,pid_z,lk_pid hj])) ?_
    intro k hk
    simp only [grH]
    simp only [go_sem,Nat.reduceEqDiff,Nat.reduceAdd,Nat.reduceLT,↓reduceIte,Nat.reduceMul]
    refine ⟨fun h=>?_,fun h=>?_⟩
    · have hj:fb+k<xs.length:=by omega
      obtain ⟨x,hx⟩:∃ x,xs[fb+k]?=some x:=⟨_,List.getElem?_eq_getElem hj⟩
      have w3:=next_i64 (k:=k) (by omega)
      have w4:IntKind.i64.wrap ((fb:Int)+k)=((fb+k:Nat):Int):=by rw [IntWalk.i64_in _ (by omega)];omega
      have hla:=lvR_at (inner:=inner) (idf:=pid) (f:=addP fb k a g) hx
      have hls:=fun q=>lvR_set (inner:=inner) (idf:=pid) (f:=addP fb k a g) q hx
      have hp8:fb+k<8:=by omega
      have hne:=pid_ne hp8
      have h0:=pid_z (fb+k)
      rw [addP_at] at hla
      simp [go_sem,sa,sb,zs,stem_take ha,stem_take hb,stem32g ha,stem33g ha,stem32g hb,stem33g hb,stem32 hb,lvR_len,w4,-Int.natCast_add]
      refine ⟨by omega,?_⟩
      have far:∀ (f:Pth) (c:Nat),9≤c→∀ (u:Nat) (v:Blk),(u,v) ∈ hpF 1 8 f→¬ c=u:=by
        intro f c hc u v hm e
        obtain ⟨j,hj,e2⟩:=mem_hpF 8 1 f _ hm
        simp only [Prod.mk.injEq] at e2
        omega
      refine drw3 [1,2,3,4,5,6] [0,7,8,9,10,11] [1,2,3,4,5,6] (.alt (.step 0 [] true (.step 7 [] true (.step 8 [] false (.step 9 [] false (.step 10 [] false (.step 11 [] false .done)))))) (.step 7 [] true (.alt (.step 0 [] true (.step 8 [] false (.step 9 [] false (.step 10 [] false (.step 11 [] false .done))))) (.step 8 [] false (.step 0 [] false (.step 9 [] false (.step 10 [] false (.step 11 [] false .done)))))))) ⟨[(0,.own 0 0 xs.length xs.length),(4,.ptr 10 0 0 1),(5,.ptr 42 0 0 1),(6,.ptr 74 0 0 1),(51,.d (.int .i64 (mb:Int))),(52,.d (.int .i64 (k:Int)))],grH inner xs (stemC z32 0 0) (stemC b fb mb) (stemC a fa ka) (addP fb (k+1) a g),20000⟩ (k:=12) ?h3 ?hq
      case h3 =>
        intro G hG
        have hW:∀ (fr:Fr) (hp:Hp),(fv 0 fr=.own 0 0 xs.length xs.length∧fv 4 fr=.ptr 10 0 0 1∧fv 5 fr=.ptr 42 0 0 1∧fv 6 fr=.ptr 74 0 0 1∧fv 51 fr=.d (.int .i64 (mb:Int))∧fv 52 fr=.d (.int .i64 (k:Int)) ∧
            hp=(10544,⟨22,32,[cb a]⟩) :: (74,⟨153,34,[stemC z32 0 0]⟩) :: (42,⟨153,34,[stemC b fb mb]⟩) :: (10,⟨153,34,[stemC a fa ka]⟩) :: (0,⟨93,34,lvR inner pid (addP fb (k+1) a g) xs⟩) :: hpF 1 8 (addP fb (k+1) a g))→G fr hp:=by
          rintro fr hp ⟨q0,q1,q2,q3,q4,q5,rfl⟩
          refine hG _ _ (weak_wk ⟨?_,?_,by simp⟩)
          · simp [slotOk,AV.low,AV.low1,q0,q1,q2,q3,q4,q5]
          · exact grH_weak (nlb rfl) hn (stem_low _ _ _ _) (stem_low _ _ _ _) (stem_low _ _ _ _) rfl rfl rfl rfl (fun j hj=>by simp [lk,pid_ne hj,pid_z,lk_pid hj])
        have hset:=hls (g (fb+k) ++ [a])
        have hsetH:=setH_pid (f:=addP fb k a g) (g (fb+k) ++ [a]) hp8
        rw [addP_succ] at hset hsetH
        simp [leafC,pB] at hset hsetH
        have hfk:=hg (fb+k)
        simp [go_sem,sa,hla,ha,hi,leafC,leaf32 hi,stem_cb ha,lk_pid hp8,lvR_len,hne,h0,addP_at,pB_ty,pB_e,pB_es,leaf_set32 hi,hset,hsetH]
        repeat' apply And.intro
        all_goals first | exact hW _ _ (by simp [fv,lk]) | omega | exact fun a c hm e=>absurd e (far _ _ (by omega) _ _ hm)
      case hq =>
        simp [go_sem,w3]
        refine next_of (k+1) (by omega) (by omega) ⟨?_,?_,by simp⟩
        · simp [slotOk,fv,lk,AV.low,AV.low1]
        · exact grH_weak (nlb rfl) hn (stem_low _ _ _ _) (stem_low _ _ _ _) (stem_low _ _ _ _) rfl rfl rfl rfl (fun j hj=>by simp [grH,lk,pid_ne hj,pid_z,lk_pid hj])
    · have hk2:k=mb:=by omega
      subst hk2
      have w5:IntKind.i64.wrap ((ka:Int)+k)=((ka+k:Nat):Int):=by rw [IntWalk.i64_in _ (by omega)];omega
      have hL:=branchB_len a b
      skip
      refine drw3 [0,1,2,3,5,6,7,8,9,10,11] [4,13] [0,1,2,3,5,6,7,8,9,10,11,12] (.step 4 [12] true (.step 13 [] false .done)) ⟨[(6,.ptr 74 0 0 1)],grH inner xs (stemC (branchB a b) fa (ka+k)) (stemC b fb k) (stemC a fa ka) (addP fb k a g),30000⟩ (k:=14) ?h3 ?hq
      case h3 =>
        intro G hG
        simp [go_sem,sa,sb,zs,stem_cb ha,stem_cb hb,ha,hb,stem_take ha,stem_take hb,stem32g ha,stem33g ha,stem32g hb,stem33g hb,stem32 ha,stem33 ha,stem32 hb,stem33 hb,w5,-Int.natCast_add]
        refine cl_eq (branch_fn a b ha hb) (by intro v hv;simp at hv;rcases hv with rfl | rfl <;> exact cb_deep _) ?_
        have hz:List.drop 32 (stemC z32 0 0)=[.d (.int .i64 0),.d (.int .i64 0)]:=rfl
        have hz2:List.drop 34 (stemC z32 0 0)=[]:=rfl
        have e1:=stem_b1 hL
        have e2:=stem_b2 hL
        have e3:=stem_b3 hL
        simp [go_sem,hL,cb_take hL,cb_len,zs,hz,hz2,e1,e2,e3]
        refine hG _ _ (weak_wk ⟨?_,?_,by simp⟩)
        · simp [slotOk,fv,lk,AV.low,AV.low1]
        · exact grH_weak (nlb rfl) hn (stem_low _ _ _ _) (stem_low _ _ _ _) (stem_low _ _ _ _) (by simp [lk,stemC]) rfl rfl rfl (fun j hj=>by simp [lk,pid_ne hj,pid_z,lk_pid hj])
      case hq =>
        simp [go_sem,grH,stem_take hL,stem_len hL]
        intro j hj
        simp [pid_ne hj,pid_z,lk_pid hj]
def idP (j:Nat):Nat:=20000+j
def prsP:List (Nat × Nat):=[(0,10000),(1,20000),(2,20001),(3,20002),(4,20003),(5,20004),(6,20005),(7,20006),(8,20007)]
theorem renL_map (ρ:Nat→Nat):∀ l:List AV,AV.renL ρ l=l.map (AV.ren ρ)
  | []=>rfl
  | a :: r=>by rw [AV.renL,List.map_cons,renL_map ρ r]
theorem ren_cb (ρ:Nat→Nat) (l:List Nat):(cb l).map (AV.ren ρ)=cb l:=by simp [cb,AV.ren]
theorem renR_lvR {ρ:Nat→Nat} {inner:List Nat} {idf idf':Nat→Nat} {f:Pth} {xs:List (List Nat)} (h:∀ j,j<xs.length→ρ (idf j)=idf' j):renR ρ (lvR inner idf f xs)=lvR inner idf' f xs:=by
  apply List.ext_getElem?
  intro i
  simp only [renR,lvR,List.getElem?_map,List.getElem?_mapIdx,Option.map_map]
  cases hx:xs[i]? with
  | none=>rfl
  | some x =>
    have hi:=(List.getElem?_eq_some_iff.1 hx).1
    simp [leafC,renL_map,ren_cb,AV.ren,h i hi]
theorem ren_pB (ρ:Nat→Nat) (q:List (List Nat)):(pB q).ren ρ=pB q:=by
  unfold Blk.ren pB
  simp only [renR,List.map_map,Blk.mk.injEq,true_and]
  apply List.map_congr_left
  intro l _
  simp only [Function.comp_apply,renL_map,ren_cb]
theorem ren_stem (ρ:Nat→Nat) (h:List Nat) (a b:Nat):(AV.agg (stemC h a b)).ren ρ=.agg (stemC h a b):=by
  rw [AV.ren,renL_map,stemC,List.map_append,ren_cb]
  rfl
theorem rhoA:∀ j,j<8→rho (swp prsP) 9 (idP j)=pid j:=by decide
theorem rhoB (N:Nat):∀ j,j<8→rho (outP prsP [] N) (N+31) (pid j)=idP j:=by
  have h:∀ j,j<8→lk (pid j) prsP=some (idP j):=by decide
  intro j hj
  unfold rho outP
  rw [List.map_nil,List.append_nil,h j hj]
  rfl
theorem lk_pnone {f:Pth} {i:Nat} (h:i<20000 ∨ 20008≤i):lk i (hpF 20000 8 f)=none:=by
  cases hl:lk i (hpF 20000 8 f) with
  | none=>rfl
  | some b =>
    obtain ⟨j,hj,e⟩:=mem_hpF 8 20000 f _ (lk_mem hl)
    simp only [Prod.mk.injEq] at e
    omega
theorem lk_pskip {f:Pth} {i:Nat} {r:Hp} (h:i<20000 ∨ 20008≤i):lk i (hpF 20000 8 f ++ r)=lk i r:=by
  rw [lk_app,lk_pnone h]
theorem setH_skip {i:Nat} {b:Blk}:∀ {a r:Hp},(∀ p,p ∈ a→p.1 ≠ i)→setH i b (a ++ r)=a ++ setH i b r
  | [],r,_=>rfl
  | (m,v) :: t,r,h=>by
    rw [List.cons_append,setH,if_neg (h _ (List.mem_cons_self ..)),setH_skip (fun p hp=>h p (List.mem_cons_of_mem _ hp))]
    rfl
theorem setH_pskip {f:Pth} {i:Nat} {b:Blk} {r:Hp} (h:i<20000 ∨ 20008≤i):setH i b (hpF 20000 8 f ++ r)=hpF 20000 8 f ++ setH i b r :=
  setH_skip (fun p hp=>by
    obtain ⟨j,hj,rfl⟩:=mem_hpF 8 20000 f p hp
    show 20000+j ≠ i
    omega)
theorem lk_idP {f:Pth} {j:Nat} {r:Hp} (h:j<8):lk (idP j) (hpF 20000 8 f ++ r)=some (pB (f j)):=by
  rw [lk_app,show lk (idP j) (hpF 20000 8 f)=some (pB (f j)) from lk_hpF 8 20000 f j h]
theorem cl_graft {P:Program} {N:Nat} {K:AV→Hp→Prop} {pre:Hp} (inner a b:List Nat) (xs:List (List Nat)) (f:Pth) (fa ma fb mb:Nat) (hn:xs.length≤8)
    (hg:RetsE P 78 9 ((0,⟨93,34,lvR inner pid f xs⟩) :: hpF 1 8 f) [.own 0 0 xs.length xs.length,.agg (stemC a fa ma),.agg (stemC b fb mb)]
      (fun r hp'=>r=.agg (stemC (branchB a b) fa (ma+mb))∧lk 0 hp'=some ⟨93,34,lvR inner pid (addP fb mb a (addP fa ma b f)) xs⟩∧∀ j,j<8→lk (pid j) hp'=some (pB (addP fb mb a (addP fa ma b f) j))))
    (hpre:∀ p,p ∈ pre→p.1 ≠ 10000∧(p.1<20000 ∨ 20008≤p.1))
    (hK:K (.agg (stemC (branchB a b) fa (ma+mb))) ((10000,⟨93,34,lvR inner idP (addP fb mb a (addP fa ma b f)) xs⟩) :: (hpF 20000 8 (addP fb mb a (addP fa ma b f)) ++ pre))) :
    ClW P 78 [.own 10000 0 xs.length xs.length,.agg (stemC a fa ma),.agg (stemC b fb mb)] (pre ++ (10000,⟨93,34,lvR inner idP f xs⟩) :: hpF 20000 8 f) N K:=by
  have pnone:∀ i,(i=10000 ∨ (20000≤i∧i<20008))→lk i pre=none:=by
    intro i hi
    cases hl:lk i pre with
    | none=>rfl
    | some b =>
      have:=hpre _ (lk_mem hl)
      simp only at this
      omega
  have lL0:lk 10000 (pre ++ (10000,⟨93,34,lvR inner idP f xs⟩) :: hpF 20000 8 f)=some ⟨93,34,lvR inner idP f xs⟩:=by
    rw [lk_app,pnone 10000 (.inl rfl)];rfl
  have lP:∀ j,j<8→lk (idP j) (pre ++ (10000,⟨93,34,lvR inner idP f xs⟩) :: hpF 20000 8 f)=some (pB (f j)):=by
    intro j hj
    rw [lk_app,pnone (idP j) (.inr ⟨by unfold idP;omega,by unfold idP;omega⟩)]
    show lk (idP j) ((10000,_) :: hpF 20000 8 f)=_
    rw [lk,if_neg (by unfold idP;omega)]
    exact lk_hpF 8 20000 f j hj
  have mem9:∀ p,p ∈ prsP→p=(0,10000) ∨ ∃ j,j<8∧p=(pid j,idP j):=by decide
  refine cl_eff prsP hg rfl ?_ ?_ ?_ ?_ ?_
  · decide
  · intro p hp
    rcases mem9 p hp with rfl | ⟨j,hj,rfl⟩
    · exact ⟨_,lL0,by simp⟩
    · exact ⟨_,lP j hj,by simp [pB]⟩
  · intro p hp
    rcases List.mem_cons.1 hp with rfl | hp
    · refine ⟨10000,_,rfl,lL0,?_⟩
      simp only [Blk.ren,Blk.mk.injEq,true_and]
      exact (renR_lvR (fun j hj=>rhoA j (by omega))).symm
    · obtain ⟨j,hj,rfl⟩:=mem_hpF 8 1 f p hp
      have hlk:∀ j,j<8→lk (1+j) prsP=some (idP j):=by decide
      exact ⟨idP j,_,hlk j hj,lP j hj,(ren_pB _ _).symm⟩
  · simp only [renL_map,List.map_cons,List.map_nil,ren_stem]
    rfl
  · rintro r hp' ⟨rfl,h0,h1⟩
    refine ⟨[],rfl,?_⟩
    rw [ren_stem]
    have e1:outH prsP [] N hp' (pre ++ (10000,⟨93,34,lvR inner idP f xs⟩) :: hpF 20000 8 f)=(10000,⟨93,34,lvR inner idP (addP fb mb a (addP fa ma b f)) xs⟩) :: (hpF 20000 8 (addP fb mb a (addP fa ma b f)) ++ pre):=by
      unfold outH
      have hfil:((pre ++ (10000,⟨93,34,lvR inner idP f xs⟩) :: hpF 20000 8 f).filter fun p=>!(prsP.map (·.2)).contains p.1)=pre:=by
        rw [List.filter_append]
        have f1:pre.filter (fun p=>!(prsP.map (·.2)).contains p.1)=pre:=by
          rw [List.filter_eq_self]
          intro p hp
          have:=hpre p hp
          simp [prsP]
          omega
        have f2:((10000,(⟨93,34,lvR inner idP f xs⟩:Blk)) :: hpF 20000 8 f).filter (fun p=>!(prsP.map (·.2)).contains p.1)=[]:=by
          rw [List.filter_eq_nil_iff]
          intro p hp
          rcases List.mem_cons.1 hp with rfl | hp
          · simp [prsP]
          · obtain ⟨j,hj,rfl⟩:=mem_hpF 8 20000 f p hp
            simp [prsP]
            omega
        rw [f1,f2,List.append_nil]
      rw [hfil,← List.cons_append]
      congr 1
      have g0:=h1 0 (by omega)
      have g1:=h1 1 (by omega)
      have g2:=h1 2 (by omega)
      have g3:=h1 3 (by omega)
      have g4:=h1 4 (by omega)
      have g5:=h1 5 (by omega)
      have g6:=h1 6 (by omega)
      have g7:=h1 7 (by omega)
      simp only [pid,Nat.reduceAdd] at g0 g1 g2 g3 g4 g5 g6 g7
      have hL:(⟨93,34,lvR inner pid (addP fb mb a (addP fa ma b f)) xs⟩:Blk).ren (rho (outP prsP [] N) (N+31))=⟨93,34,lvR inner idP (addP fb mb a (addP fa ma b f)) xs⟩:=by
        simp only [Blk.ren,Blk.mk.injEq,true_and]
        exact renR_lvR (fun j hj=>rhoB N j (by omega))
      have hprs:outP prsP [] N=prsP:=by simp [outP]
      rw [hprs] at hL ⊢
      simp only [prsP] at hL ⊢
      simp [h0,g0,g1,g2,g3,g4,g5,g6,g7,ren_pB,hpF,hL]
    rw [e1]
    exact hK
abbrev Row:=List (List Nat × Nat)
def stD1 (h:List Nat) (s m:Nat):List DV:=cd h ++ [.int .i64 (s:Int),.int .i64 (m:Int)]
def stD:Nat→Row→List (List DV)
  | _,[]=>[]
  | s,p :: r=>stD1 p.1 s p.2 :: stD (s+p.2) r
theorem stD1_map (h:List Nat) (s m:Nat):(stD1 h s m).map AV.d=stemC h s m:=by simp [stD1,stemC,cd_map]
theorem stD1_len {h:List Nat} (hh:h.length=32) (s m:Nat):(stD1 h s m).length=34:=by simp [stD1,cd_len,hh]
theorem stD_len:∀ (s:Nat) (r:Row),(stD s r).length=r.length
  | _,[]=>rfl
  | s,p :: r=>by rw [stD,List.length_cons,List.length_cons,stD_len]
def total (r:Row):Nat:=(r.map (·.2)).sum
theorem stD_app:∀ (s:Nat) (a b:Row),stD s (a ++ b)=stD s a ++ stD (s+total a) b
  | s,[],b=>by simp [stD,total]
  | s,p :: a,b=>by
    rw [List.cons_append,stD,stD,stD_app (s+p.2) a b,List.cons_append]
    congr 2
    simp [total,Nat.add_assoc]
theorem stD_rows:∀ (s:Nat) (r:Row),(∀ p,p ∈ r→p.1.length=32)→∀ x,x ∈ stD s r→x.length=34
  | _,[],_,x,h=>by simp [stD] at h
  | s,p :: r,hp,x,h=>by
    rcases List.mem_cons.1 h with rfl | h
    · exact stD1_len (hp p (List.mem_cons_self ..)) _ _
    · exact stD_rows _ r (fun q hq=>hp q (List.mem_cons_of_mem _ hq)) x h
theorem stD_low (n s:Nat) (r:Row):∀ x,x ∈ (stD s r).map (fun q=>q.map AV.d)→∀ v,v ∈ x→v.low1 n:=by
  intro x hx v hv
  obtain ⟨q,_,rfl⟩:=List.mem_map.1 hx
  obtain ⟨d,_,rfl⟩:=List.mem_map.1 hv
  trivial
def pairUp:Row→Row
  | a :: b :: r=>(branchB a.1 b.1,a.2+b.2) :: pairUp r
  | r=>r
def graftF:Nat→Row→Pth→Pth
  | s,a :: b :: r,f=>graftF (s+a.2+b.2) r (addP (s+a.2) b.2 a.1 (addP s a.2 b.1 f))
  | _,_,f=>f
theorem pair_len:∀ r:Row,2*(pairUp r).length≤r.length+1
  | []=>by simp [pairUp]
  | [a]=>by simp [pairUp]
  | a :: b :: r=>by
    have:=pair_len r
    simp only [pairUp,List.length_cons]
    omega
theorem pair_total:∀ r:Row,total (pairUp r)=total r
  | []=>rfl
  | [a]=>rfl
  | a :: b :: r=>by
    have:=pair_total r
    simp only [pairUp,total,List.map_cons,List.sum_cons] at this ⊢
    omega
theorem pair_32:∀ r:Row,(∀ p,p ∈ r→p.1.length=32)→∀ p,p ∈ pairUp r→p.1.length=32
  | [],h=>h
  | [a],h=>h
  | a :: b :: r,h=>by
    intro p hp
    rcases List.mem_cons.1 hp with rfl | hp
    · exact branchB_len _ _
    · exact pair_32 r (fun q hq=>h q (by simp [hq])) p hp
def plantF:Nat→Row→Pth→Row × Pth
  | 0,r,f=>(r,f)
  | n+1,r,f=>if 1<r.length then plantF n (pairUp r) (graftF 0 r f) else (r,f)
theorem plantF_end {n:Nat} {r:Row} {f:Pth} (h:r.length≤1):plantF n r f=(r,f):=by
  cases n with
  | zero=>rfl
  | succ n=>rw [plantF,if_neg (by omega)]
def row0 (xs:List (List Nat)):Row:=xs.map fun x=>(leafB x,1)
theorem row0_total (xs:List (List Nat)):total (row0 xs)=xs.length:=by
  induction xs with
  | nil=>rfl
  | cons a r ih=>simp only [row0,total,List.map_cons,List.sum_cons,List.length_cons] at ih ⊢;omega
theorem row0_32 (xs:List (List Nat)):∀ p,p ∈ row0 xs→p.1.length=32:=by
  intro p hp
  obtain ⟨x,_,rfl⟩:=List.mem_map.1 hp
  exact leafB_len x
theorem row0_app (a b:List (List Nat)):row0 (a ++ b)=row0 a ++ row0 b:=by simp [row0]
def pathsF (xs:List (List Nat)):Pth:=(plantF 7 (row0 xs) fun _=>[]).2
theorem addP_len {first k:Nat} {h:List Nat} {f:Pth} {B s:Nat} (hf:∀ j,(f j).length≤if j<s then B+1 else B) (h1:s≤first):∀ j,((addP first k h f) j).length≤if j<first+k then B+1 else B:=by
  intro j
  have:=hf j
  unfold addP
  by_cases h2:first≤j∧j<first+k
  · rw [if_pos h2,if_pos h2.2]
    rw [if_neg (by omega)] at this
    simp;omega
  · rw [if_neg h2]
    split at this
    · rw [if_pos (by omega)];omega
    · split <;> omega
def leafE (inner:List Nat) (l:List (List Nat) × List Nat):List DV:=cd inner ++ [hs32 l.1,nb l.2]
theorem leafE_len {inner:List Nat} (hi:inner.length=32) (l:List (List Nat) × List Nat):(leafE inner l).length=34:=by simp [leafE,cd_len,hi]
theorem leafE_map (inner:List Nat) (l:List (List Nat) × List Nat):(leafE inner l).map AV.d=leafC inner (.d (hs32 l.1)) (.d (nb l.2)):=by simp [leafE,leafC,cd_map]
theorem leafE_deep (inner:List Nat) (a b:DV):(AV.agg (leafC inner (.d a) (.d b))).deep:=by
  intro c hc
  unfold leafC at hc
  rcases List.mem_append.1 hc with h | h
  · exact cb_deep _ _ h
  · simp at h;rcases h with rfl | rfl <;> trivial
theorem leaf_lenE {inner:List Nat} (hi:inner.length=32) (a b:AV):(leafC inner a b).length=34:=by simp [leafC,cb_len,hi]
theorem leaf_takeE {inner:List Nat} (hi:inner.length=32) (a b:AV):List.take 34 (leafC inner a b)=leafC inner a b:=List.take_of_length_le (by rw [leaf_lenE hi];exact Nat.le_refl _)
theorem leaf_d1 (inner:List Nat) (a b:DV):∀ v,v ∈ [AV.agg (leafC inner (.d a) (.d b))]→v.deep:=by
  intro v hv;simp at hv;subst hv;exact leafE_deep _ _ _
theorem wrong_fn (inner:List Nat) (l:List (List Nat) × List Nat) (O:List Nat) (e:Int) (hi:inner.length=32)
    (g:Rets Tryz.prog 31 [.agg (leafC inner (.d (hs32 l.1)) (.d (nb l.2)))] (fun r=>r=.tup [.d (nb O),.d (.int .i64 e)])) :
    Rets Tryz.prog 79 [.agg (leafC inner (.d (hs32 l.1)) (.d (nb l.2)))] (fun r=>r=.d (.bool (!decide (e=0)))):=by
  refine fna Tryz.func79 Tryz.ntmps79 (rs:=[.tmp 2]) (leaf_d1 _ _ _) ?_
  simp [go_sem,leaf_lenE hi,leaf_takeE hi]
  refine cl_eq g (leaf_d1 _ _ _) ?_
  simp [go_sem,resV]
  exact post_same (by simp [AV.deep,AV.deep1]) rfl
abbrev Lf:=List (List Nat) × List Nat
def badL (E:Lf→Int) (ls:List Lf):Bool:=ls.any fun l=>!decide (E l=0)
theorem bad_step {E:Lf→Int} {l:List Lf} {k:Nat} {x:Lf} {b:Bool} (hd:l.drop k=x :: l.drop (k+1)) (h:badL E (l.drop k)=b) (hx:E x=0):badL E (l.drop (k+1))=b:=by
  rw [hd] at h;rw [← h];simp [badL,hx]
theorem bad_stop {E:Lf→Int} {l:List Lf} {k:Nat} {x:Lf} {b:Bool} (hd:l.drop k=x :: l.drop (k+1)) (h:badL E (l.drop k)=b) (hx:¬ E x=0):b=true:=by
  rw [hd] at h;rw [← h];simp [badL,hx]
theorem indexL_fn (inner:List Nat) (ls:List Lf) (O:Lf→List Nat) (E:Lf→Int) (hi:inner.length=32) (hl:ls.length≤1000000000)
    (g:∀ l,l ∈ ls→Rets Tryz.prog 31 [.agg (leafC inner (.d (hs32 l.1)) (.d (nb l.2)))] (fun r=>r=.tup [.d (nb (O l)),.d (.int .i64 (E l))])) :
    Rets Tryz.prog 122 [.d (.ro 34 (ls.map (leafE inner))),.fn 79 []] (fun r=>∃ n:Int,r=.d (.int .i64 n)∧decide (0≤n)=badL E ls):=by
  refine fna Tryz.func122 Tryz.ntmps122 (rs:=[.tmp 4]) (by simp [AV.deep,AV.deep1]) ?_
  simp [go_sem]
  refine loop_of (fun k:Nat=>⟨[(0,.d (.ro 34 (ls.map (leafE inner)))),(1,.fn 79 []),(7,.d (.int .i64 (ls.length:Int))),(8,.d (.int .i64 (k:Int)))],[],1000⟩)
    (fun k=>k≤ls.length∧badL E (ls.drop k)=badL E ls) (fun k=>ls.length - k) 0 ⟨by omega,rfl⟩ (by
      simp [Weak,slotOk,fv,lk,AV.low,AV.low1]) ?_
  rintro k ⟨hk,ho⟩
  simp only [go_sem,Nat.reduceEqDiff,Nat.reduceAdd,Nat.reduceLT,↓reduceIte,Nat.reduceMul]
  refine ⟨fun h=>?_,fun h=>?_⟩
  · obtain ⟨x,hx1,hd⟩:=drop_of (l:=ls) (k:=k) (by omega)
    have w3:=next_i64 (k:=k) (by omega)
    have hrow:=leafE_len hi x
    simp [go_sem,hx1,hrow,leafE_map,leaf_takeE hi,leaf_lenE hi]
    refine cl_eq (wrong_fn inner x (O x) (E x) hi (g x (List.mem_of_getElem? hx1))) (leaf_d1 _ _ _) ?_
    by_cases hx:E x=0
    · simp [go_sem,hx,w3]
      refine next_of (k+1) ⟨by omega,bad_step hd ho hx⟩ (by omega) ?_
      simp [Weak,slotOk,fv,lk,AV.low,AV.low1]
    · have:=bad_stop hd ho hx
      simp [go_sem,hx]
      exact post_same (by simp [AV.deep,AV.deep1]) ⟨_,rfl,by rw [this];simp⟩
  · have hkl:k=ls.length:=by omega
    subst hkl
    rw [List.drop_length] at ho
    simp [go_sem]
    exact post_same (by simp [AV.deep,AV.deep1]) ⟨_,rfl,by rw [← ho];rfl⟩
theorem containsL_fn (inner:List Nat) (ls:List Lf) (O:Lf→List Nat) (E:Lf→Int) (hi:inner.length=32) (hl:ls.length≤1000000000)
    (g:∀ l,l ∈ ls→Rets Tryz.prog 31 [.agg (leafC inner (.d (hs32 l.1)) (.d (nb l.2)))] (fun r=>r=.tup [.d (nb (O l)),.d (.int .i64 (E l))])) :
    Rets Tryz.prog 80 [.d (.ro 34 (ls.map (leafE inner))),.fn 79 []] (fun r=>r=.d (.bool (badL E ls))):=by
  refine fna Tryz.func80 Tryz.ntmps80 (rs:=[.tmp 4]) (by simp [AV.deep,AV.deep1]) ?_
  simp [go_sem]
  refine cl_fn (indexL_fn inner ls O E hi hl g) (by simp [AV.deep,AV.deep1]) ?_
  rintro r ⟨n,rfl,hn⟩
  rw [← hn]
  simp [go_sem]
  exact post_same (by simp [AV.deep,AV.deep1]) rfl
def lvL (f:Pth) (xs:List (List Nat)):List Lf:=xs.mapIdx fun j x=>(f j,x)
theorem cells_append {hp:Hp} {I:Nat→Prop} {a c:List AV} {b d:List DV} (h:CellsR hp I a b) (h2:CellsR hp I c d):CellsR hp I (a ++ c) (b ++ d):=by
  induction h with
  | nil=>exact h2
  | cons h t ih=>exact .cons h ih
theorem rows_of_get {hp:Hp} {I:Nat→Prop}:∀ (rows:List (List AV)) (es:List (List DV)),rows.length=es.length→(∀ (i:Nat) (x:List AV) (y:List DV),rows[i]?=some x→es[i]?=some y→CellsR hp I x y)→RowsR hp I rows es
  | [],[],_,_=>.nil
  | [],_ :: _,h,_=>by simp at h
  | _ :: _,[],h,_=>by simp at h
  | x :: rows,y :: es,h,hg=>.cons (hg 0 x y rfl rfl) (rows_of_get rows es (by simpa using h) (fun i a b h1 h2=>hg (i+1) a b (by simpa using h1) (by simpa using h2)))
theorem lvL_len (f:Pth) (xs:List (List Nat)):(lvL f xs).length=xs.length:=by simp [lvL]
theorem leaves_snap {hp:Hp} {I:Nat→Prop} {inner:List Nat} {idf:Nat→Nat} {f:Pth} {xs:List (List Nat)} {id:Nat} (hi:inner.length=32) (hb:lk id hp=some ⟨93,34,lvR inner idf f xs⟩) (hI:I id) (hI2:∀ j,j<xs.length→I (idf j))
    (hp32:∀ j p,p ∈ f j→p.length=32) (h5:∀ j,j<xs.length→lk (idf j) hp=some (pB (f j))):SnapD hp I (.own id 0 xs.length xs.length) (.ro 34 ((lvL f xs).map (leafE inner))):=by
  refine own_of hb hI lvR_len ?_ (by rw [List.length_map,lvL_len]) (fun r hr=>?_)
  · rw [List.drop_zero,List.take_of_length_le (by rw [lvR_len];exact Nat.le_refl _)]
    refine rows_of_get _ _ (by simp [lvR_len,lvL_len]) (fun i x y h1 h2=>?_)
    simp only [lvR,lvL,List.getElem?_map,List.getElem?_mapIdx,Option.map_map,Option.map_eq_some_iff] at h1 h2
    obtain ⟨u,hu,rfl⟩:=h1
    obtain ⟨v,hv,rfl⟩:=h2
    rw [hu] at hv
    cases hv
    unfold leafC
    simp only [Function.comp_apply,leafE]
    rw [← cd_map]
    refine cells_append (cells_map _) (.cons ?_ (.cons (.d _) .nil))
    have hiu:=(List.getElem?_eq_some_iff.1 hu).1
    refine snap_row (ty:=22) (e:=32) (es:=(f i).map cd) ?_ (hI2 i hiu) (by simp) (fun r hr=>?_)
    · rw [h5 i hiu]
      simp [pB,cd_map]
    · obtain ⟨p,hp,rfl⟩:=List.mem_map.1 hr
      rw [cd_len];exact hp32 i p hp
  · obtain ⟨l,_,rfl⟩:=List.mem_map.1 hr
    exact leafE_len hi l
def encS (x:List Nat):List DV:=[nb x]
def lvN (inner:List Nat) (xs:List (List Nat)):List (List AV):=xs.map fun x=>leafC inner .nil (.d (nb x))
theorem take_step {α:Type} {l:List α} {k:Nat} {x:α} (h:l[k]?=some x):l.take (k+1)=l.take k ++ [x]:=by
  rw [List.take_add_one,h];rfl
theorem leaves_wk {fr:Fr} {inner:List Nat} (xs:List (List Nat)) (hn:xs.length≤8):Wk ⟨fr,(10000,⟨93,34,lvN inner xs⟩) :: hpF 20000 8 (fun _=>[]),30000⟩ ⟨fr,(10000,⟨93,34,lvR inner idP (fun _=>[]) xs⟩) :: hpF 20000 8 (fun _=>[]),30000⟩:=by
  refine cells_wk (st:=⟨fr,(10000,⟨93,34,lvN inner xs⟩) :: hpF 20000 8 (fun _=>[]),30000⟩) (L:=10000) (b:=⟨93,34,lvN inner xs⟩) (es':=lvR inner idP (fun _=>[]) xs) rfl (by simp) (by simp [lvR,lvN]) ?_
  intro i x x' h1 h2
  simp only [lvN,List.getElem?_map,Option.map_eq_some_iff] at h1
  obtain ⟨y,hy,rfl⟩:=h1
  rw [lvR_at hy] at h2
  simp only [Option.some.injEq] at h2
  subst h2
  refine ⟨by simp [leafC],fun j v v' a1 a2=>?_⟩
  unfold leafC at a1 a2
  by_cases hj:j<(cb inner).length
  · rw [List.getElem?_append_left hj] at a1 a2
    rw [a1] at a2
    exact .inl (Option.some.inj a2).symm
  · rw [List.getElem?_append_right (by omega)] at a1 a2
    have hi:=(List.getElem?_eq_some_iff.1 hy).1
    match hj2:j - (cb inner).length,a1,a2 with
    | 0,a1,a2 =>
      simp only [List.getElem?_cons_zero,Option.some.injEq] at a1 a2
      subst a1 a2
      exact .inr ⟨rfl,idP i,by unfold idP;show 20000+i<30000;omega,rfl⟩
    | 1,a1,a2 =>
      simp only [List.getElem?_cons_succ,List.getElem?_cons_zero,Option.some.injEq] at a1 a2
      subst a1 a2
      exact .inl rfl
    | m+2,a1,a2=>simp at a1
theorem hp_weak {inner:List Nat} {xs:List (List Nat)} {f:Pth} {hp:Hp} {nx N:Nat} (hN:20008≤N) (hn:xs.length≤8) (h4:lk 10000 hp=some ⟨93,34,lvR inner idP f xs⟩) (h5:∀ j,j<8→lk (idP j) hp=some (pB (f j))) :
    ∀ p,p ∈ (10000,(⟨93,34,lvR inner idP f xs⟩:Blk)) :: hpF 20000 8 f→(lk p.1 hp=some p.2 ∨ (nx≤p.1∧p.2.es=[]))∧p.1<N∧∀ r,r ∈ p.2.es→∀ v,v ∈ r→v.low1 N:=by
  intro p hp'
  rcases List.mem_cons.1 hp' with rfl | hp'
  · exact ⟨.inl h4,by show 10000<N;omega,lvR_low (fun j hj=>by show 20000+j<N;omega)⟩
  · obtain ⟨j,hj,rfl⟩:=mem_hpF 8 20000 f p hp'
    exact ⟨.inl (h5 j hj),by show 20000+j<N;omega,pB_low _ _⟩
def P32 (f:Pth):Prop:=∀ j p,p ∈ f j→p.length=32
theorem addP_32 {first k:Nat} {h:List Nat} {f:Pth} (hf:P32 f) (hh:h.length=32):P32 (addP first k h f):=by
  intro j p hp
  unfold addP at hp
  split at hp
  · rcases List.mem_append.1 hp with q | q
    · exact hf j p q
    · simp at q;subst q;exact hh
  · exact hf j p hp
theorem short_pair:∀ {q:Row},q.length≤1→pairUp q=q
  | [],_=>rfl
  | [a],_=>rfl
  | a :: b :: r,h=>by simp at h
theorem short_graft:∀ {q:Row} {s:Nat} {g:Pth},q.length≤1→graftF s q g=g
  | [],_,_,_=>rfl
  | [a],_,_,_=>rfl
  | a :: b :: r,_,_,h=>by simp at h
def plantV (inner:List Nat) (xs:List (List Nat)) (E:Lf→Int):AV :=
  if xs.length=0 ∨ 8<xs.length ∨ badL E (lvL (pathsF xs) xs)=true then .tup [.nil,.d (.int .i64 1)] else .tup [.d (.ro 34 ((lvL (pathsF xs) xs).map (leafE inner))),.d (.int .i64 0)]
theorem plant_fn (inner:List Nat) (xs:List (List Nat)) (hi:inner.length=32) (hx:∀ x,x ∈ xs→x.length≤100000)
    (hcl:∀ b:List Nat,b.length≤100000000000→Rets Tryz.prog 69 [.d (nb b)] (fun r=>r=.d (nb b))) (O:Lf→List Nat) (E:Lf→Int)
    (hout:∀ l,l ∈ lvL (pathsF xs) xs→Rets Tryz.prog 31 [.agg (leafC inner (.d (hs32 l.1)) (.d (nb l.2)))] (fun r=>r=.tup [.d (nb (O l)),.d (.int .i64 (E l))])) :
    Rets Tryz.prog 47 [.agg (cb inner),.d (.ro 1 (xs.map encS))] (fun r=>r=plantV inner xs E):=by
  refine fna Tryz.func47 Tryz.ntmps47 (rs:=[.tmp 4,.tmp 5]) (by
    intro v hv;simp at hv;rcases hv with rfl | rfl
    · exact cb_deep _
    · trivial) ?_
  by_cases h0:xs.length=0
  · have hV:plantV inner xs E=.tup [.nil,.d (.int .i64 1)]:=by unfold plantV;rw [if_pos (.inl h0)]
    rw [hV]
    have hxs:xs=[]:=List.eq_nil_of_length_eq_zero h0
    subst hxs
    simp [go_sem,cb_len,hi,cb_take hi,resV]
    exact post_same (by simp [AV.deep,AV.deep1]) rfl
  by_cases h8:8<xs.length
  · have hV:plantV inner xs E=.tup [.nil,.d (.int .i64 1)]:=by unfold plantV;rw [if_pos (.inr (.inl h8))]
    rw [hV]
    have i0:¬ (xs.length:Int)=0:=by omega
    have i8:(8:Int)<(xs.length:Int):=by omega
    simp [go_sem,cb_len,hi,cb_take hi,i0,i8,h0,h8,resV]
    exact post_same (by simp [AV.deep,AV.deep1]) rfl
  have hn:xs.length≤8:=by omega
  have i0:¬ (xs.length:Int)=0:=by omega
  have i8:¬ (8:Int)<(xs.length:Int):=by omega
  simp [go_sem,cb_len,hi,cb_take hi,i0,i8,h0,h8]
  refine loop_of (fun k:Nat=>⟨[(2,.ptr 0 0 0 1),(6,.own 10000 0 k k),(7,.own 10001 0 k k),(20,.d (.ro 1 (xs.map encS))),(21,.d (.int .i64 (xs.length:Int))),(22,.d (.int .i64 (k:Int)))],
      [(10001,⟨153,34,(stD 0 (row0 (xs.take k))).map (fun q=>q.map AV.d)⟩),(10000,⟨93,34,lvN inner (xs.take k)⟩),(0,⟨22,32,[cb inner]⟩)],11000⟩)
    (fun k=>k≤xs.length) (fun k=>xs.length - k) 0 (by omega) (by
      simp [Weak,slotOk,fv,lk,AV.low,AV.low1,stD,row0,lvN]
      exact cb_low _ _) ?_
  intro k hk
  simp only [go_sem,Nat.reduceEqDiff,Nat.reduceAdd,Nat.reduceLT,↓reduceIte,Nat.reduceMul]
  refine ⟨fun h=>?_,fun h=>?_⟩
  · obtain ⟨x,hxk,hd⟩:=drop_of (l:=xs) (k:=k) (by omega)
    have w3:=next_i64 (k:=k) (by omega)
    have hxl:=hx x (List.mem_of_getElem? hxk)
    have zl:(leafC z32 .nil .nil).length=34:=rfl
    have hst:(stD 0 (row0 (xs.take k))).length=k:=by rw [stD_len,row0,List.length_map,List.length_take];omega
    have hlv:(lvN inner (xs.take k)).length=k:=by rw [lvN,List.length_map,List.length_take];omega
    have hlB:=leafB_len x
    simp [go_sem,hxk,encS]
    refine drw2 [0,1,2] [(3,[4]),(5,[]),(6,[]),(7,[])] 2 (k:=8) ?_
    intro G hG
    simp [go_sem,cb_len,hi,cb_take hi]
    refine cl_eq (hcl x (by omega)) (by simp [AV.deep,AV.deep1]) ?_
    have zd:List.drop 32 (leafC z32 .nil .nil)=[.nil,.nil]:=rfl
    have b2:=stem_b2 hi .nil .nil
    have b3:=stem_b3 hi .nil .nil
    simp [go_sem,cb_len,hi,cb_take hi,zl,hlv,zd,b2,b3]
    refine ⟨by omega,hG _ _ ?_⟩
    clear hG G
    have hash1:Rets Tryz.prog 77 [.d (nb x)] (fun r=>r=.agg (cb (leafB x))):=treeHash_fn x (by omega)
    simp [go_sem]
    refine cl_eq hash1 (by simp [AV.deep,AV.deep1]) ?_
    have zs:(stemC z32 0 0).length=34:=rfl
    have hz:List.drop 32 (stemC z32 0 0)=[.d (.int .i64 0),.d (.int .i64 0)]:=rfl
    have hz2:List.drop 34 (stemC z32 0 0)=[]:=rfl
    have e1:=stem_b1 hlB
    have e2:=stem_b2 hlB
    have e3:=stem_b3 hlB
    simp [go_sem,hlB,cb_take hlB,cb_len,zs,hz,hz2,e1,e2,e3,hst,w3]
    refine ⟨by omega,?_⟩
    have E1:lvN inner (xs.take (k+1))=lvN inner (xs.take k) ++ [cb inner ++ [.nil,.d (nb x)]]:=by rw [take_step hxk];simp [lvN,leafC]
    have E2:(stD 0 (row0 (xs.take (k+1)))).map (fun q=>q.map AV.d)=(stD 0 (row0 (xs.take k))).map (fun q=>q.map AV.d) ++ [cb (leafB x) ++ [.d (.int .i64 (k:Int)),.d (.int .i64 1)]]:=by
      rw [take_step hxk,row0_app,stD_app,List.map_append,row0_total,List.length_take,Nat.min_eq_left (by omega)]
      simp [row0,stD,stD1,cd_map]
    refine next_of (k+1) (by omega) (by omega) ⟨?_,?_,by simp⟩
    · simp [slotOk,fv,lk,AV.low,AV.low1]
    · intro p hp
      simp only [List.mem_cons,List.mem_nil_iff,or_false] at hp
      rcases hp with rfl | rfl | rfl
      · exact ⟨.inl (by simp [lk,E2]),by show 10001<11000;omega,stD_low _ _ _⟩
      · exact ⟨.inl (by simp [lk,E1]),by show 10000<11000;omega,fun r hr=>by
          obtain ⟨y,_,rfl⟩:=List.mem_map.1 hr
          exact leafC_lowP _ _ _ _ trivial trivial⟩
      · exact ⟨.inl rfl,by show 0<11000;omega,by intro r hr;simp at hr;subst hr;exact cb_low _ _⟩
  · have hkn:k=xs.length:=by omega
    subst hkn
    simp [go_sem]
    obtain ⟨R,F,hRF⟩:∃ R F,plantF 7 (row0 xs) (fun _=>[])=(R,F):=⟨_,_,rfl⟩
    have hr0:(row0 xs).length=xs.length:=by simp [row0]
    refine loopW_of (fun t:Nat × Row × Pth=>⟨[(6,.own 10000 0 xs.length xs.length),(7,.d (.ro 34 (stD 0 t.2.1)))],(10000,⟨93,34,lvR inner idP t.2.2 xs⟩) :: hpF 20000 8 t.2.2,30000⟩)
      (fun t=>plantF t.1 t.2.1 t.2.2=(R,F)∧t.2.1.length≤t.1+1∧t.1≤7∧total t.2.1=xs.length∧(∀ p,p ∈ t.2.1→p.1.length=32)∧P32 t.2.2∧∀ j,(t.2.2 j).length+t.1≤7) (fun t=>t.1) (7,row0 xs,fun _=>[])
      ⟨hRF,by simp only [hr0];omega,Nat.le_refl _,row0_total xs,row0_32 xs,(fun j p hp=>by simp at hp),fun j=>by simp⟩ ?_ ?_
    · refine (froz_wk [10001] [(7,.d (.ro 34 (stD 0 (row0 xs))))] (fun p hp=>?_)).trans ((weak_wk ?_).trans (leaves_wk xs hn))
      · simp at hp
        subst hp
        exact .one (snap1_d (snap_row rfl (by simp) (by rw [stD_len,hr0]) (stD_rows _ _ (row0_32 xs))))
      · refine ⟨?_,?_,by simp⟩
        · simp [slotOk,fv,lk,AV.low,AV.low1]
        · intro p hp
          rcases List.mem_cons.1 hp with rfl | hp
          · exact ⟨.inl rfl,by show 10000<30000;omega,fun r hr=>by
              obtain ⟨y,_,rfl⟩:=List.mem_map.1 hr
              exact leafC_lowP _ _ _ _ trivial trivial⟩
          · obtain ⟨j,hj,rfl⟩:=mem_hpF 8 20000 _ p hp
            exact ⟨.inr ⟨by show 11032≤20000+j;omega,rfl⟩,by show 20000+j<30000;omega,pB_low _ _⟩
    · rintro ⟨n,row,f⟩ ⟨q1,q2,q3,q4,q5,q7,q6⟩
      simp only at q1 q2 q3 q4 q5 q6 q7
      simp only
      simp [go_sem,stD_len]
      refine ⟨fun h=>?_,fun h=>?_⟩
      · have h':1<row.length:=by omega
        obtain ⟨m,rfl⟩:∃ m,n=m+1:=⟨n - 1,by omega⟩
        rw [plantF,if_pos h'] at q1
        refine loop_of (fun t:Nat × Row × Row × Pth=>⟨[(6,.own 10000 0 xs.length xs.length),(7,.d (.ro 34 (stD t.1 t.2.1))),(10,.own 40000 0 t.2.2.1.length t.2.2.1.length)],
            (40000,⟨153,34,(stD 0 t.2.2.1).map (fun q=>q.map AV.d)⟩) :: (10000,⟨93,34,lvR inner idP t.2.2.2 xs⟩) :: hpF 20000 8 t.2.2.2,50000⟩)
          (fun t=>t.2.2.1 ++ pairUp t.2.1=pairUp row∧graftF t.1 t.2.1 t.2.2.2=graftF 0 row f∧total t.2.2.1=t.1∧t.1+total t.2.1=xs.length∧(∀ p,p ∈ t.2.1→p.1.length=32)∧(∀ p,p ∈ t.2.2.1→p.1.length=32)∧P32 t.2.2.2∧∀ j,(t.2.2.2 j).length≤if j<t.1 then (6 - m)+1 else 6 - m)
          (fun t=>t.2.1.length) (0,row,[],f) ⟨rfl,rfl,rfl,by simp only;omega,q5,by simp,q7,fun j=>by have:=q6 j;simp only [Nat.not_lt_zero,if_false];omega⟩ ⟨?_,?_,by simp⟩ ?_
        · simp [slotOk,fv,lk,AV.low,AV.low1,stD]
        · intro p hp
          rcases List.mem_cons.1 hp with rfl | hp
          · exact ⟨.inr ⟨by show 30128≤40000;omega,rfl⟩,by show 40000<50000;omega,by intro r hr;simp [stD] at hr⟩
          · exact hp_weak (by simp) hn rfl (fun j hj=>by
              show lk (idP j) ((10000,_) :: hpF 20000 8 f)=_
              rw [lk,if_neg (by unfold idP;omega)]
              exact lk_hpF 8 20000 f j hj) p hp
        · rintro ⟨s,q,up,g⟩ ⟨p1,p2,p3,p4,p5,p6,p8,p7⟩
          simp only at p1 p2 p3 p4 p5 p6 p7 p8
          simp only
          simp [go_sem,stD_len]
          refine ⟨fun hh=>?_,fun hh=>?_⟩
          · match q,p1,p2,p4,p5,hh with
            | a :: b :: r,p1,p2,p4,p5,_ =>
              have ha:=p5 a (by simp)
              have hb:=p5 b (by simp)
              have hla:=stD1_len ha s a.2
              have hlb:=stD1_len hb (s+a.2) b.2
              simp only [stD]
              skip
              refine drw3 [1,2,3,4,5,6,7] [0,8,9,10,11] [1,2,3,4,5,6,7] (.alt (.step 0 [] true (.step 8 [] false (.step 9 [] false (.step 10 [] false (.step 11 [] false .done))))) (.step 8 [] false (.alt (.step 0 [] false (.step 9 [] false (.step 10 [] false (.step 11 [] false .done)))) (.step 9 [] false (.step 0 [] false (.step 10 [] false (.step 11 [] false .done))))))) ⟨[(6,.own 10000 0 xs.length xs.length),(7,.d (.ro 34 (stD s (a :: b :: r)))),(10,.own 40000 0 (up.length+1) (up.length+1))],(40000,⟨153,34,(stD 0 (up ++ [(branchB a.1 b.1,a.2+b.2)])).map (fun q=>q.map AV.d)⟩) :: (10000,⟨93,34,lvR inner idP (addP (s+a.2) b.2 a.1 (addP s a.2 b.1 g)) xs⟩) :: hpF 20000 8 (addP (s+a.2) b.2 a.1 (addP s a.2 b.1 g)),60000⟩ (k:=12) ?h3 ?hq
              case h3 =>
                intro G hG
                simp [go_sem,hla,hlb,stD1_map,stem_len ha,stem_len hb,stem_take ha,stem_take hb,stD]
                have tot:s+(a.2+(b.2+total r))=xs.length:=by
                  have:=p4
                  simp only [total,List.map_cons,List.sum_cons] at this ⊢
                  exact this
                have hgg:∀ j,(g j).length≤100:=fun j=>by
                  have:=p7 j
                  split at this <;> omega
                have hgr:=graft_fn inner a.1 b.1 xs g s a.2 (s+a.2) b.2 hi ha hb hn (by omega) (by omega) hgg
                have hcg:∀ (N:Nat) (K:AV→Hp→Prop),K (.agg (stemC (branchB a.1 b.1) s (a.2+b.2))) ((10000,⟨93,34,lvR inner idP (addP (s+a.2) b.2 a.1 (addP s a.2 b.1 g)) xs⟩) :: (hpF 20000 8 (addP (s+a.2) b.2 a.1 (addP s a.2 b.1 g)) ++ [(40000,⟨153,34,(stD 0 up).map (fun q=>q.map AV.d)⟩)])) →
                    ClW Tryz.prog 78 [.own 10000 0 xs.length xs.length,.agg (stemC a.1 s a.2),.agg (stemC b.1 (s+a.2) b.2)] ((40000,⟨153,34,(stD 0 up).map (fun q=>q.map AV.d)⟩) :: (10000,⟨93,34,lvR inner idP g xs⟩) :: hpF 20000 8 g) N K:=by
                  intro N K hK
                  exact cl_graft (pre:=[(40000,⟨153,34,(stD 0 up).map (fun q=>q.map AV.d)⟩)]) inner a.1 b.1 xs g s a.2 (s+a.2) b.2 hn hgr (by intro p hp;simp at hp;subst hp;exact ⟨by simp,.inr (by simp)⟩) hK
                have hBl:=branchB_len a.1 b.1
                have hul:up.length≤10:=by
                  have e1:=congrArg List.length p1
                  have e2:=pair_len row
                  simp only [List.length_append] at e1
                  omega
                have hW:∀ (fr:Fr) (hp:Hp),fv 6 fr=.own 10000 0 xs.length xs.length→fv 7 fr=.d (.ro 34 (stD s (a :: b :: r)))→fv 10 fr=.own 40000 0 (up.length+1) (up.length+1) →
                    lk 40000 hp=some ⟨153,34,(stD 0 up).map (fun q=>q.map AV.d) ++ [stemC (branchB a.1 b.1) s (a.2+b.2)]⟩→lk 10000 hp=some ⟨93,34,lvR inner idP (addP (s+a.2) b.2 a.1 (addP s a.2 b.1 g)) xs⟩→(∀ j,j<8→lk (idP j) hp=some (pB (addP (s+a.2) b.2 a.1 (addP s a.2 b.1 g) j)))→G fr hp:=by
                  intro fr hp v1 v2 v3 v4 v5 v6
                  refine hG _ _ (weak_wk ⟨?_,?_,by simp⟩)
                  · simp [slotOk,AV.low,AV.low1,v1,v2,v3]
                  · intro p hp'
                    rcases List.mem_cons.1 hp' with rfl | hp'
                    · refine ⟨.inl ?_,by show 40000<60000;omega,stD_low _ _ _⟩
                      show lk 40000 hp=_
                      rw [v4,stD_app,Nat.zero_add,p3,List.map_append]
                      simp [stD,stD1_map]
                    · exact hp_weak (by simp) hn v5 v6 p hp'
                refine ⟨hcg _ _ ?_,hcg _ _ ?_⟩
                all_goals
                  simp [go_sem,stem_len hBl,stem_take hBl,lk_pskip,setH_pskip,stD_len]
                  repeat' apply And.intro
                all_goals first
                  | omega
                  | (refine hW _ _ rfl rfl rfl (by simp [lk,lk_pskip]) (by simp [lk]) (fun j hj=>?_)
                     have hne:∀ c,(c<20000 ∨ 20008≤c)→¬ c=idP j:=fun c hc=>by unfold idP;omega
                     simp [lk,hne,lk_idP hj])
              case hq =>
                have hdr:List.drop 2 (List.take ((((stD (s+a.2+b.2) r).length:Int)+1+1).toNat) (stD1 a.1 s a.2 :: stD1 b.1 (s+a.2) b.2 :: stD (s+a.2+b.2) r))=stD (s+a.2+b.2) r:=by
                  rw [List.take_of_length_le (by simp only [List.length_cons];omega)]
                  rfl
                simp only [stD]
                simp [go_sem,hdr,-List.drop_succ_cons]
                refine ⟨by omega,?_⟩
                have l1:=addP_len (first:=s) (k:=a.2) (h:=b.1) p7 (Nat.le_refl _)
                have l2:=addP_len (first:=s+a.2) (k:=b.2) (h:=a.1) l1 (Nat.le_refl _)
                have tu:total (up ++ [(branchB a.1 b.1,a.2+b.2)])=s+a.2+b.2:=by
                  have:=p3
                  simp only [total,List.map_append,List.sum_append,List.map_cons,List.map_nil,List.sum_cons,List.sum_nil] at this ⊢
                  omega
                refine next_of (s+a.2+b.2,r,up ++ [(branchB a.1 b.1,a.2+b.2)],addP (s+a.2) b.2 a.1 (addP s a.2 b.1 g)) ⟨by rw [← p1];simp [pairUp],p2,tu,?_,fun u v hp=>p5 (u,v) (by simp [hp]),?_,addP_32 (addP_32 p8 hb) ha,l2⟩ (by simp only [List.length_cons];omega) ⟨?_,?_,by simp⟩
                · have:=p4
                  simp only [total,List.map_cons,List.sum_cons] at this ⊢
                  omega
                · intro u v hp
                  rcases List.mem_append.1 hp with hp | hp
                  · exact p6 (u,v) hp
                  · simp at hp;obtain ⟨rfl,_⟩:=hp;exact branchB_len _ _
                · simp [slotOk,fv,lk,AV.low,AV.low1]
                · intro p hp
                  rcases List.mem_cons.1 hp with rfl | hp
                  · exact ⟨.inl rfl,by show 40000<50000;omega,stD_low _ _ _⟩
                  · exact hp_weak (by simp) hn rfl (fun j hj=>by
                      have hne:∀ c,(c<20000 ∨ 20008≤c)→¬ c=idP j:=fun c hc=>by unfold idP;omega
                      have:=lk_hpF 8 20000 (addP (s+a.2) b.2 a.1 (addP s a.2 b.1 g)) j hj
                      simp [lk,hne]
                      exact this) p hp
          · have hql:q.length≤1:=by omega
            rw [short_pair hql] at p1
            rw [short_graft hql] at p2
            subst p2
            have hul:up.length+q.length≤10:=by
              have e1:=congrArg List.length p1
              have e2:=pair_len row
              simp only [List.length_append] at e1
              omega
            have hrows:(stD 0 up).map (fun q=>q.map AV.d) ++ (stD s q).map (fun q=>q.map AV.d)=(stD 0 (pairUp row)).map (fun q=>q.map AV.d):=by
              rw [← p1,stD_app,List.map_append,Nat.zero_add,p3]
            have hlen:up.length+q.length=(stD 0 (pairUp row)).length:=by rw [stD_len,← p1,List.length_append]
            refine ⟨by omega,?_⟩
            refine nextF_of (m,pairUp row,graftF 0 row f) ⟨q1,?_,by show m≤7;omega,?_,?_,p8,?_⟩ (by show m<m+1;omega) [40000] [(7,.d (.ro 34 (stD 0 (pairUp row))))] (fun p hp=>?_) ⟨?_,?_,by simp⟩
            · have:=pair_len row
              show (pairUp row).length≤m+1
              omega
            · show total (pairUp row)=xs.length
              rw [pair_total];exact q4
            · intro u v hp
              exact pair_32 row q5 (u,v) hp
            · intro j
              have:=p7 j
              show (graftF 0 row f j).length+m≤7
              split at this <;> omega
            · simp at hp
              subst hp
              refine .one (snap1_d ?_)
              show SnapD _ _ (.own 40000 0 (up.length+q.length) (up.length+q.length)) _
              rw [hlen]
              exact snap_row (ty:=153) (by show some _=some _;rw [hrows]) (by simp) rfl (stD_rows _ _ (pair_32 row q5))
            · simp [slotOk,fv,lk,AV.low,AV.low1]
            · intro p hp
              exact hp_weak (by simp) hn rfl (fun j hj=>by
                have hne:∀ c,(c<20000 ∨ 20008≤c)→¬ c=idP j:=fun c hc=>by unfold idP;omega
                have:=lk_hpF 8 20000 (graftF 0 row f) j hj
                simp [dropH,lk,hne]
                rw [lk_dropH,if_neg (by simp;exact fun e=>hne 40000 (.inr (by omega)) e.symm)]
                exact this) p hp
      · have hrl:row.length≤1:=by omega
        rw [plantF_end hrl] at q1
        obtain ⟨rfl,rfl⟩:row=R∧f=F:=by simpa using q1
        have hF:pathsF xs=f:=by unfold pathsF;rw [hRF]
        rw [hF] at hout
        have g:=containsL_fn inner (lvL f xs) O E hi (by rw [lvL_len];omega) hout
        have hsn:SnapD ((10000,(⟨93,34,lvR inner idP f xs⟩:Blk)) :: hpF 20000 8 f) (fun _=>True) (.own 10000 0 xs.length xs.length) (.ro 34 ((lvL f xs).map (leafE inner))):=by
          refine leaves_snap (idf:=idP) hi rfl trivial (fun _ _=>trivial) q7 (fun j hj=>?_)
          have hne:∀ c,(c<20000 ∨ 20008≤c)→¬ c=idP j:=fun c hc=>by unfold idP;omega
          have:=lk_hpF 8 20000 f j (by omega)
          rw [lk,if_neg (hne _ (by omega))]
          exact this
        refine cl_snap g rfl (snap_cons (.one (snap1_d hsn)) (snap_cons (.deep (by simp [AV.deep,AV.deep1])) snap_nil)) trivial ?_
        unfold plantV
        rw [hF]
        cases hbd:badL E (lvL f xs)
        · rw [if_neg (by simp [h0,h8])]
          simp [go_sem,resV]
          refine post_tup (cs':=[.d (.ro 34 ((lvL f xs).map (leafE inner))),.d (.int .i64 0)]) (fun i c c' h1 h2=>?_) rfl (by simp [AV.deep,AV.deep1]) rfl
          match i,h1,h2 with
          | 0,h1,h2=>simp at h1 h2;subst h1 h2;exact snap1_d hsn
          | 1,h1,h2=>simp at h1 h2;subst h1 h2;exact snap1_same trivial
          | k+2,h1,_=>simp at h1
        · rw [if_pos (.inr (.inr rfl))]
          simp [go_sem,resV]
          exact post_same (by simp [AV.deep,AV.deep1]) rfl
theorem plant_len:∀ (n:Nat) (q:Row) (g:Pth) (B:Nat),(∀ j,(g j).length≤B)→∀ j,((plantF n q g).2 j).length≤B+n
  | 0,q,g,B,h=>h
  | n+1,q,g,B,h=>by
    rw [plantF]
    split
    · intro j
      have key:∀ (r:Row) (s:Nat) (f:Pth),(∀ j,(f j).length≤if j<s then B+1 else B)→∀ j,(graftF s r f j).length≤B+1:=by
        intro r
        induction r using pairUp.induct with
        | case1 a b r ih =>
          intro s f hf
          exact ih _ _ (addP_len (addP_len hf (Nat.le_refl _)) (Nat.le_refl _))
        | case2 r hr =>
          intro s f hf j
          have:=hf j
          have hg:graftF s r f=f:=by
            match r,hr with
            | [],_=>rfl
            | [a],_=>rfl
            | a :: b :: r,hr=>exact absurd rfl (hr a b r)
          rw [hg]
          split at this <;> omega
      have:=plant_len n (pairUp q) (graftF 0 q g) (B+1) (key q 0 g (fun j=>by have:=h j;simp;exact this)) j
      omega
    · intro j
      have:=h j
      show (g j).length≤_
      omega
theorem plant_32:∀ (n:Nat) (q:Row) (g:Pth),(∀ p,p ∈ q→p.1.length=32)→P32 g→P32 (plantF n q g).2
  | 0,q,g,_,h=>h
  | n+1,q,g,hq,h=>by
    rw [plantF]
    split
    · refine plant_32 n _ _ (pair_32 q hq) ?_
      have key:∀ (r:Row) (s:Nat) (f:Pth),(∀ p,p ∈ r→p.1.length=32)→P32 f→P32 (graftF s r f):=by
        intro r
        induction r using pairUp.induct with
        | case1 a b r ih =>
          intro s f hr hf
          exact ih _ _ (fun p hp=>hr p (by simp [hp])) (addP_32 (addP_32 hf (hr b (by simp))) (hr a (by simp)))
        | case2 r hr =>
          intro s f _ hf
          match r,hr with
          | [],_=>exact hf
          | [a],_=>exact hf
          | a :: b :: r,hr=>exact absurd rfl (hr a b r)
      exact key q 0 g hq h
    · exact h
open Go.Am Go.Sha Go.Ec
theorem lvL_mem {f:Pth} {xs:List (List Nat)} {l:Lf} (h:l ∈ lvL f xs):∃ j:Nat,l.1=f j∧l.2 ∈ xs:=by
  simp only [lvL,List.mem_mapIdx] at h
  obtain ⟨j,hj,rfl⟩:=h
  exact ⟨j,rfl,List.getElem_mem _⟩
def outT (inner:List Nat) (l:Lf) (O:List Nat) (e:Int):Prop:=(e=0∧∃ k o,k.length=32∧bytes k∧O=81 :: 32 :: k∧leafTurn inner l.1 l.2 k o 0) ∨ (e=1∧O=[])
theorem out_ex1 (inner:List Nat) (xs:List (List Nat)) (hi:inner.length=32) (hib:bytes inner) (hx:∀ x,x ∈ xs→x.length≤100000) (l:Lf) (hl:l ∈ lvL (pathsF xs) xs) :
    ∃ p:List Nat × Int,outT inner l p.1 p.2∧Rets Tryz.prog 31 [.agg (leafC inner (.d (hs32 l.1)) (.d (nb l.2)))] (fun r=>r=.tup [.d (nb p.1),.d (.int .i64 p.2)]):=by
  obtain ⟨j,h1,h2⟩:=lvL_mem hl
  have q1:∀ p,p ∈ l.1→p.length=32:=by
    rw [h1]
    exact plant_32 7 (row0 xs) (fun _=>[]) (row0_32 xs) (fun j p hp=>by simp at hp) j
  have q2:l.1.length≤1000:=by
    rw [h1]
    have:=plant_len 7 (row0 xs) (fun _=>[]) 0 (fun _=>by simp) j
    show ((plantF 7 (row0 xs) fun _=>[]).2 j).length≤1000
    omega
  obtain ⟨k,o,e,hk,hkb,he,f1,_,t1⟩:=turned_ex inner l.1 l.2 hi hib q1 q2 (hx _ h2)
  rcases he with rfl | rfl
  · exact ⟨(81 :: 32 :: k,0),.inl ⟨rfl,k,o,hk,hkb,rfl,t1⟩,output_ok hi hk f1⟩
  · exact ⟨([],1),.inr ⟨rfl,rfl⟩,output_no hi hk f1⟩
theorem planted (inner:List Nat) (xs:List (List Nat)) (hi:inner.length=32) (hib:bytes inner) (hx:∀ x,x ∈ xs→x.length≤100000) :
    ∃ (O:Lf→List Nat) (E:Lf→Int),∀ l,l ∈ lvL (pathsF xs) xs→outT inner l (O l) (E l)∧Rets Tryz.prog 31 [.agg (leafC inner (.d (hs32 l.1)) (.d (nb l.2)))] (fun r=>r=.tup [.d (nb (O l)),.d (.int .i64 (E l))]):=by
  obtain ⟨F,hF⟩:=Classical.axiomOfChoice (r:=fun (l:Lf) (p:List Nat × Int)=>l ∈ lvL (pathsF xs) xs→outT inner l p.1 p.2∧Rets Tryz.prog 31 [.agg (leafC inner (.d (hs32 l.1)) (.d (nb l.2)))] (fun r=>r=.tup [.d (nb p.1),.d (.int .i64 p.2)])) (fun l=>by
    by_cases h:l ∈ lvL (pathsF xs) xs
    · obtain ⟨p,hp⟩:=out_ex1 inner xs hi hib hx l h
      exact ⟨p,fun _=>hp⟩
    · exact ⟨([],0),fun h'=>absurd h' h⟩)
  exact ⟨fun l=>(F l).1,fun l=>(F l).2,hF⟩
end Go.Proofs.YtfahccoobfjkeaaGreat
