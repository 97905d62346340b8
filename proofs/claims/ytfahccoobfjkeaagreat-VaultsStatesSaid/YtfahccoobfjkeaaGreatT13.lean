/-
  Part 14 of what the claim rests on.
-/
import Derived.Test.YtfahccoobfjkeaaGreatT12
set_option linter.unusedVariables false
set_option linter.unusedSimpArgs false
set_option maxRecDepth 100000
set_option maxHeartbeats 16000000
namespace Go.Proofs.YtfahccoobfjkeaaGreat
open Go.Am Go.Sha Go.Ec
section
variable {PO:Wt→List Nat→Option (List Nat)} {EN:Wt→En→List (List Nat)→Int}
def partE (EN:Wt→En→List (List Nat)→Int) (W:List Wt) (i:Ip) (h k:Nat) (E:List En):List En:=(E.take k).map (stepE EN W i h) ++ E.drop k
theorem partE_len {W:List Wt} {i:Ip} {h k:Nat} {E:List En}:(partE EN W i h k E).length=E.length:=by
  simp only [partE,List.length_append,List.length_map,List.length_take,List.length_drop];omega
theorem partE_at {W:List Wt} {i:Ip} {h k:Nat} {E:List En} {e:En} (he:E[k]?=some e):(partE EN W i h k E)[k]?=some e:=by
  have hk:=(List.getElem?_eq_some_iff.1 he).1
  unfold partE
  rw [List.getElem?_append_right (by simp;omega)]
  simp only [List.length_map,List.length_take,Nat.min_eq_left (Nat.le_of_lt hk),Nat.sub_self,List.getElem?_drop,Nat.add_zero]
  exact he
theorem partE_set {W:List Wt} {i:Ip} {h k:Nat} {E:List En} {e:En} (he:E[k]?=some e):(partE EN W i h k E).set k (stepE EN W i h e)=partE EN W i h (k+1) E:=by
  have hk:=(List.getElem?_eq_some_iff.1 he).1
  have hd:E.drop k=e :: E.drop (k+1):=by
    rw [List.drop_eq_getElem_cons hk,(List.getElem?_eq_some_iff.1 he).2]
  have hl:((E.take k).map (stepE EN W i h)).length=k:=by rw [List.length_map,List.length_take];omega
  unfold partE
  rw [List.set_append_right _ _ (by omega),hl,Nat.sub_self,hd,List.set_cons_zero,List.take_add_one,he]
  simp
theorem partE_same {W:List Wt} {i:Ip} {h k:Nat} {E:List En} {e:En} (he:E[k]?=some e) (hn:hitE i e=false):partE EN W i h (k+1) E=partE EN W i h k E:=by
  rw [← partE_set he]
  unfold stepE
  rw [if_neg (by simp [hn])]
  apply List.ext_getElem?
  intro j
  rw [List.getElem?_set]
  by_cases e1:k=j
  · subst e1
    have:=partE_at (EN:=EN) (W:=W) (i:=i) (h:=h) he
    rw [if_pos rfl,if_pos (List.getElem?_eq_some_iff.1 this).1,this]
  · rw [if_neg e1]
theorem partE_zero {W:List Wt} {i:Ip} {h:Nat} {E:List En}:partE EN W i h 0 E=E:=by simp [partE]
theorem partE_all {W:List Wt} {i:Ip} {h:Nat} {E:List En}:partE EN W i h E.length E=E.map (stepE EN W i h):=by simp [partE]
def partL (PO:Wt→List Nat→Option (List Nat)) (EN:Wt→En→List (List Nat)→Int) (W:List Wt) (i:Ip) (k:Nat) (E:List En):List Bg:=(E.take k).filterMap (begE PO EN W i)
theorem partL_some {W:List Wt} {i:Ip} {k:Nat} {E:List En} {e:En} {b:Bg} (he:E[k]?=some e) (hb:begE PO EN W i e=some b):partL PO EN W i (k+1) E=partL PO EN W i k E ++ [b]:=by
  unfold partL
  rw [List.take_add_one,he,List.filterMap_append]
  simp [hb]
theorem partL_none {W:List Wt} {i:Ip} {k:Nat} {E:List En} {e:En} (he:E[k]?=some e) (hb:begE PO EN W i e=none):partL PO EN W i (k+1) E=partL PO EN W i k E:=by
  unfold partL
  rw [List.take_add_one,he,List.filterMap_append]
  simp [hb]
theorem partL_len {W:List Wt} {i:Ip} {k:Nat} {E:List En}:(partL PO EN W i k E).length≤k:=by
  unfold partL
  exact Nat.le_trans (List.length_filterMap_le _ _) (by rw [List.length_take];omega)
theorem enR_step {e:En} (h1:e.tx.length=32) {S:Int} {h:Nat}:((enR e).set 35 (.d (.int .i64 S))).set 36 (.d (.int .u32 (h:Int)))=enR { e with st:=S,ht:=h }:=by
  have hl:(cb e.tx).length=32:=by rw [cb_len,h1]
  unfold enR enC
  rw [List.set_append_right _ _ (by omega),List.set_append_right _ _ (by omega),hl]
  rfl
theorem rows_set (E:List En) (k:Nat) (e:En):(E.map enR).set k (enR e)=(E.set k e).map enR:=by rw [List.map_set]
def spX (i:Ip):Blk:=⟨86,35,[cIp i]⟩
theorem spH_weak {W:List Wt} {E:List En} {B:Nat→List En} {m t nx N:Nat} {i:Ip} {L:List Bg} {hp:Hp} (hm:m≤24) (hN:6000≤N) (h5:lk 5000 hp=some (bgB L) ∨ (nx≤5000∧L=[])) (h28:lk 28 hp=some (spX i)) (h:∀ j,j<27→lk j hp=some (vxB W E B m t id j)) :
    ∀ p,p ∈ (5000,bgB L) :: (28,spX i) :: vxI W E B m t→(lk p.1 hp=some p.2 ∨ (nx≤p.1∧p.2.es=[]))∧p.1<N∧∀ r,r ∈ p.2.es→∀ v,v ∈ r→v.low1 N:=by
  intro p hp'
  simp only [List.mem_cons] at hp'
  rcases hp' with rfl | rfl | hp'
  · refine ⟨?_,by show 5000<N;omega,bgB_low _ _⟩
    rcases h5 with h5 | ⟨h5,rfl⟩
    · exact .inl h5
    · exact .inr ⟨h5,rfl⟩
  · refine ⟨.inl h28,by show 28<N;omega,?_⟩
    intro r hr
    simp only [spX,List.mem_cons,List.mem_nil_iff,or_false] at hr
    subst hr
    exact cIp_low _ _
  · exact vxI_weak hm (by omega) h p hp'
theorem vxI_lk2 {W:List Wt} {E:List En} {B:Nat→List En} {m t c j:Nat} {b:Blk} (hc:27≤c) (hj:j<27):lk j ((c,b) :: vxI W E B m t)=some (vxB W E B m t id j):=by
  simp only [lk]
  rw [if_neg (by omega)]
  exact vxI_lk hj
theorem vxI_lk3 {W:List Wt} {E:List En} {B:Nat→List En} {m t c d j:Nat} {b b':Blk} (hc:27≤c) (hd:27≤d) (hj:j<27):lk j ((c,b) :: (d,b') :: vxI W E B m t)=some (vxB W E B m t id j):=by
  simp only [lk]
  rw [if_neg (by omega),if_neg (by omega)]
  exact vxI_lk hj
theorem vxI_lk4 {W:List Wt} {E:List En} {B:Nat→List En} {m t c d f j:Nat} {b b' b2:Blk} (hc:27≤c) (hd:27≤d) (hf:27≤f) (hj:j<27):lk j ((c,b) :: (d,b') :: (f,b2) :: vxI W E B m t)=some (vxB W E B m t id j):=by
  simp only [lk]
  rw [if_neg (by omega),if_neg (by omega),if_neg (by omega)]
  exact vxI_lk hj
theorem cbm_flat (X:List Nat):(List.map (List.map AV.d ∘ fun (b:Nat)=>[DV.int IntKind.u8 (b:Int)]) X).flatten=cb X:=by
  induction X with
  | nil=>rfl
  | cons x X ih=>rw [List.map_cons,List.flatten_cons,ih];rfl
theorem cbm_sum (X:List Nat):(List.map (List.length ∘ List.map AV.d ∘ fun (b:Nat)=>[DV.int IntKind.u8 (b:Int)]) X).sum=X.length:=by
  induction X with
  | nil=>rfl
  | cons x X ih=>rw [List.map_cons,List.sum_cons,ih,List.length_cons];show 1+X.length=_;omega
theorem vxI_lk5 {W:List Wt} {E:List En} {B:Nat→List En} {m t c d f g j:Nat} {b b' b2 b3:Blk} (hc:27≤c) (hd:27≤d) (hf:27≤f) (hg:27≤g) (hj:j<27):lk j ((c,b) :: (d,b') :: (f,b2) :: (g,b3) :: vxI W E B m t)=some (vxB W E B m t id j):=by
  simp only [lk]
  rw [if_neg (by omega),if_neg (by omega),if_neg (by omega),if_neg (by omega)]
  exact vxI_lk hj
def zBg:List AV:=.d (.int .i64 0) :: (cb z32 ++ [.nil])
theorem zBg_z:tzO Tryz.prog 183=some zBg:=by kernel_rfl
theorem vxI_lk6 {W:List Wt} {E:List En} {B:Nat→List En} {m t c d f g l j:Nat} {b b' b2 b3 b4:Blk} (hc:27≤c) (hd:27≤d) (hf:27≤f) (hg:27≤g) (hl:27≤l) (hj:j<27):lk j ((c,b) :: (d,b') :: (f,b2) :: (g,b3) :: (l,b4) :: vxI W E B m t)=some (vxB W E B m t id j):=by
  simp only [lk]
  rw [if_neg (by omega),if_neg (by omega),if_neg (by omega),if_neg (by omega),if_neg (by omega)]
  exact vxI_lk hj
theorem spH7_weak {W:List Wt} {E:List En} {B:Nat→List En} {m t nx N c:Nat} {i:Ip} {L:List Bg} {w:Wt} {T:Nat} (hm:m≤24) (hN:6000≤c∧c<N) (_:w.ok) :
    ∀ p,p ∈ (c,(⟨T,69,[wtC w]⟩:Blk)) :: (5000,bgB L) :: (28,spX i) :: vxI W E B m t→(lk p.1 ((c,(⟨T,69,[wtC w]⟩:Blk)) :: (5000,bgB L) :: (28,spX i) :: vxI W E B m t)=some p.2 ∨ (nx≤p.1∧p.2.es=[]))∧p.1<N∧∀ r,r ∈ p.2.es→∀ v,v ∈ r→v.low1 N:=by
  intro p hp'
  rcases List.mem_cons.1 hp' with rfl | hp'
  · refine ⟨.inl (by simp [lk]),hN.2,?_⟩
    intro r hr
    simp only [List.mem_cons,List.mem_nil_iff,or_false] at hr
    subst hr
    exact wtC_low _ _
  · have:=spH_weak (W:=W) (E:=E) (B:=B) (m:=m) (t:=t) (nx:=nx) (N:=N) (i:=i) (L:=L) (hp:=(5000,bgB L) :: (28,spX i) :: vxI W E B m t) hm (by omega) (.inl rfl) rfl (fun j hj=>vxI_lk3 (by omega) (by omega) hj) p hp'
    have hp7:p.1 ≠ c:=by
      have:=(spH_weak (W:=W) (E:=E) (B:=B) (m:=m) (t:=t) (nx:=10000000) (N:=6000) (i:=i) (L:=L) (hp:=(5000,bgB L) :: (28,spX i) :: vxI W E B m t) hm (Nat.le_refl _) (.inl rfl) rfl (fun j hj=>vxI_lk3 (by omega) (by omega) hj) p hp').2.1
      omega
    refine ⟨?_,this.2⟩
    rcases this.1 with h | h
    · left
      simp only [lk]
      rw [if_neg (by omega)]
      exact h
    · exact .inr h
theorem spend_fn (hPO:HPO PO) (hEN:HEN EN) (W:List Wt) (E:List En) (B:Nat→List En) (m t:Nat) (i:Ip) (h:Nat) (hW:∀ w,w ∈ W→w.ok) (hWn:W.length≤8) (hE:∀ e,e ∈ E→e.ok W.length) (hEn:E.length≤100000)
    (hi:i.ok) (hwn:i.wit.length≤1000) (hwl:∀ x,x ∈ i.wit→x.length≤100000) (hwb:∀ x,x ∈ i.wit→bytes x) (hh:h<4294967296) (hm:m≤24) :
    RetsE Tryz.prog 67 27 (vxI W E B m t) [.ptr 0 0 0 1,.agg (cIp i),.d (.int .u32 (h:Int))]
      (fun r hp'=>r=.own 5000 0 (spendL PO EN W i E).length (spendL PO EN W i E).length∧lk 5000 hp'=some (bgB (spendL PO EN W i E))∧∀ j,j<27→lk j hp'=some (vxB W (E.map (stepE EN W i h)) B m t id j)):=by
  refine fnE_of_awp Tryz.func67 (by kernel_rfl) rfl Tryz.ntmps67 (rs:=[.tmp 6]) rfl (nlb rfl) (by decide) ?_
  obtain ⟨hi32,hidx,hseq⟩:=hi
  have hcl:=cIp_len hi32
  have hct:=cIp_take hi32
  have h34:=cI34 hi32
  have h34g:=cI34g hi32
  have hx:=annex_fn i.wit hwn hwl
  have hAn:(annexW i.wit).length≤1000:=by have:=annexW_len i.wit;omega
  have hAb:∀ x,x ∈ annexW i.wit→bytes x:=fun x hx=>hwb x (annexW_mem hx)
  simp [go_sem,hcl,hct,h34,h34g]
  refine cl_eq hx (by simp [AV.deep,AV.deep1]) ?_
  have hEl:(vxB W E B m t id 0).es[0]?=some [.d (.ro 69 (W.map wtD)),.own 1 0 E.length E.length,.own 2 0 m t]:=rfl
  simp [go_sem,vxI,vxB]
  refine loop_of (fun k:Nat=>⟨[(0,.ptr 0 0 0 1),(2,.d (.int .u32 (h:Int))),(4,.ptr 28 0 0 1),(7,.own 5000 0 (partL PO EN W i k E).length (partL PO EN W i k E).length),(8,.d (.ro 1 ((annexW i.wit).map encT))),(24,.d (.int .i64 (E.length:Int))),(25,.d (.int .i64 (k:Int)))],
      (5000,bgB (partL PO EN W i k E)) :: (28,spX i) :: vxI W (partE EN W i h k E) B m t,6000⟩)
    (fun k=>k≤E.length) (fun k=>E.length - k) 0 (by omega) ⟨by simp [slotOk,fv,lk,AV.low,AV.low1,partL,bgB,encT,nb],spH_weak hm (Nat.le_refl _) (.inr ⟨by show 572≤5000;omega,by simp [partL]⟩) rfl (by
      intro j hj
      rw [partE_zero]
      exact vxI_lk2 (by omega) hj),by simp⟩ ?_
  intro k hk
  have hpl:=partE_len (EN:=EN) (W:=W) (i:=i) (h:=h) (k:=k) (E:=E)
  simp only [vxI,vxB,spX]
  simp only [go_sem,Nat.reduceEqDiff,Nat.reduceAdd,Nat.reduceLT,↓reduceIte,Nat.reduceMul]
  refine ⟨fun hlt=>?_,fun hlt=>?_⟩
  · obtain ⟨e,he1,hd⟩:=drop_of (l:=E) (k:=k) (by omega)
    have heok:=hE e (List.mem_of_getElem? he1)
    have w3:=next_i64 (k:=k) (by omega)
    have hpe:=partE_at (EN:=EN) (W:=W) (i:=i) (h:=h) he1
    have hel:=enR_len heok
    have a33:List.take 33 (enR e)=cR e.tx e.ix:=enC_33 heok.1 _ _ _ _ _
    have b33:List.take 33 (cIp i)=cR i.hash i.idx:=by
      unfold cIp cR
      rw [List.take_append,cb_len,hi32,List.take_of_length_le (by rw [cb_len];omega)];rfl
    have c33l:=cR_len heok.1 e.ix
    have hrow:∀ x,List.take 69 (enR e ++ x)=enR e:=fun x=>by rw [List.take_append_of_le_length (by omega),List.take_of_length_le (by omega)]
    have het:List.take 69 (enR e)=enR e:=List.take_of_length_le (by omega)
    have hlv:=lives_fn e heok
    have hle:∀ v,v ∈ [AV.agg (enR e)]→v.deep:=by intro v hv;simp at hv;subst hv;exact enR_deep e
    have k1:=cR_kinds heok.1 e.ix
    have k2:=cR_kinds hi32 i.idx
    have hR:(l1B e.tx ++ [L1.i .u32 (e.ix:Int)]=l1B i.hash ++ [L1.i .u32 (i.idx:Int)]) ↔ (e.tx=i.hash∧e.ix=i.idx):=cR_eq heok.1 hi32
    have z1:=cR_lits e.tx e.ix
    have z2:=cR_lits i.hash i.idx
    generalize l1B e.tx ++ [L1.i .u32 (e.ix:Int)]=us at *
    generalize l1B i.hash ++ [L1.i .u32 (i.idx:Int)]=vs at *
    simp [go_sem,hpe,hpl]
    refine ⟨by omega,?_⟩
    refine drw2 [0,1,2,3,4,5,6,7,8,9,10] [(11,[12,13])] 1 (k:=14) ?_
    intro G hG
    simp [go_sem,hpe,hel,hcl,a33,b33,z1,z2,ks88,k1,k2,hpl,eg88]
    have hX:∀ X:List En,X.length=E.length→(0,(⟨108,3,[[.d (.ro 69 (W.map wtD)),.own 1 0 E.length E.length,.own 2 0 m t]]⟩:Blk)) :: (1,⟨28,69,X.map enR⟩) :: (2,⟨49,1,((List.range m).map fun k=>[AV.own (3+k) 0 (B k).length (B k).length]) ++ List.replicate (t - m) [.any]⟩) :: vxT B=vxI W X B m t:=by
      intro X hx
      simp only [vxI,vxB,id,hx]
    have hNX:hitE i e=false→∀ (fr:Fr) (nx:Nat),(fv 0 fr=.ptr 0 0 0 1∧fv 2 fr=.d (.int .u32 (h:Int))∧fv 4 fr=.ptr 28 0 0 1∧fv 7 fr=.own 5000 0 (partL PO EN W i k E).length (partL PO EN W i k E).length∧fv 8 fr=.d (.ro 1 ((annexW i.wit).map encT))∧fv 24 fr=.d (.int .i64 (E.length:Int))∧fv 25 fr=.d (.int .i64 ((k+1:Nat):Int))∧nx ≥ 64) →
        Weak ⟨fr,(5000,bgB (partL PO EN W i k E)) :: (28,spX i) :: vxI W (partE EN W i h k E) B m t,nx⟩ ⟨[(0,.ptr 0 0 0 1),(2,.d (.int .u32 (h:Int))),(4,.ptr 28 0 0 1),(7,.own 5000 0 (partL PO EN W i (k+1) E).length (partL PO EN W i (k+1) E).length),(8,.d (.ro 1 ((annexW i.wit).map encT))),(24,.d (.int .i64 (E.length:Int))),(25,.d (.int .i64 ((k+1:Nat):Int)))],
      (5000,bgB (partL PO EN W i (k+1) E)) :: (28,spX i) :: vxI W (partE EN W i h (k+1) E) B m t,6000⟩:=by
      rintro hn fr nx ⟨q0,q2,q4,q7,q8,q24,q25,qn⟩
      rw [partE_same he1 hn,partL_none he1 (by simp [begE,hn])]
      exact ⟨by simp [slotOk,AV.low,AV.low1,q0,q2,q4,q7,q8,q24,q25],spH_weak hm (Nat.le_refl _) (.inl rfl) rfl (fun j hj=>vxI_lk3 (by omega) (by omega) hj),by simp⟩
    by_cases hr:us=vs
    · have hr2:=hR.1 hr
      by_cases hs:e.st≤2
      · simp [hr,hs,go_sem,hpe,hel,hrow,het,hpl]
        refine cl_eq hlv hle ?_
        simp [go_sem,hs]
        refine hG _ _ ?_
        clear hG G
        have hpl2:=heok.2.2.1
        have wat:=atW_get hpl2
        have wok:=hW _ (atW_mem hpl2)
        have wl:=wtC_len wok
        have wtk:=wtC_take wok
        have epg:∀ hl:34<(enR e).length,(enR e)[34]=.d (.int .i64 (e.pl:Int)):=fun hl=>Option.some.inj ((List.getElem?_eq_getElem hl).symm.trans (enC_e34 heok.1 _ _ _ _ _))
        have f27:∀ (c:Nat) (a:Nat) (b:Blk) (P:Prop),27≤c→(a,b) ∈ vxT B→c=a→P:=by
          intro c a b P hc hab he
          obtain ⟨i',hi',e'⟩:=vxT_mem hab
          cases e';omega
        have epl:(enR e)[34]?=some (.d (.int .i64 (e.pl:Int))):=enC_e34 heok.1 _ _ _ _ _
        simp [go_sem]
        refine drw3 [0,1,2,3,4,5,6,7,8,9] [10,11] [0,1,2,3,4,5,6,7,8,9] (.step 10 [] true (.step 11 [] false .done)) ⟨[(0,.ptr 0 0 0 1),(2,.d (.int .u32 (h:Int))),(4,.ptr 28 0 0 1),(7,.own 5000 0 (partL PO EN W i k E).length (partL PO EN W i k E).length),(8,.d (.ro 1 ((annexW i.wit).map encT))),(24,.d (.int .i64 (E.length:Int))),(25,.d (.int .i64 (k:Int))),(11,.ptr 1 k 0 E.length),(12,.ptr 7088 0 0 1)],(7088,⟨111,69,[wtC (atW W e.pl)]⟩) :: (5000,bgB (partL PO EN W i k E)) :: (28,spX i) :: vxI W (partE EN W i h k E) B m t,7152⟩ (k:=12) ?h3 ?hq
        case h3 =>
          intro G hG
          simp [go_sem,hpe,hel,hpl,epl,epg,wat,wl,wtk,wtD_map,zWt_len,zWt_drop]
          refine ⟨fun a b hab he=>f27 7088 a b _ (by omega) hab he,?_⟩
          rw [hX _ hpl]
          refine hG _ _ (weak_wk ⟨?_,?_,by simp⟩)
          · simp [slotOk,fv,lk,AV.low,AV.low1,encT,nb]
          · exact spH7_weak hm ⟨nlb rfl,nlb rfl⟩ wok
        case hq =>
          simp only [vxI,vxB,spX]
          simp [go_sem,hpl]
          have hend:=hEN (atW W e.pl) W.length e (annexW i.wit) wok heok hAn hAb
          have hde:∀ v,v ∈ [AV.agg (wtC (atW W e.pl)),AV.agg (enR e),AV.d (.ro 1 ((annexW i.wit).map encT))]→v.deep:=by
            intro v hv
            simp at hv
            rcases hv with rfl | rfl | rfl
            · exact wtC_deep _
            · exact enR_deep e
            · trivial
          generalize hS:EN (atW W e.pl) e (annexW i.wit)=S at hend
          refine drw3 [0,2,3,4,5,6] [1,7,8,11,12,13,14] [0,2,3,4,5,6,9,10] (.alt (.step 1 [] true (.alt (.step 7 [9,10] true (.alt (.step 8 [] true (.step 11 [] false (.step 12 [] false (.step 13 [] false (.step 14 [] false .done))))) (.step 11 [] false (.step 8 [] false (.step 12 [] false (.step 13 [] false (.step 14 [] false .done))))))) (.step 8 [] true (.step 7 [9,10] true (.step 11 [] false (.step 12 [] false (.step 13 [] false (.step 14 [] false .done)))))))) (.alt (.step 7 [9,10] true (.alt (.step 1 [] true (.alt (.step 8 [] true (.step 11 [] false (.step 12 [] false (.step 13 [] false (.step 14 [] false .done))))) (.step 11 [] false (.step 8 [] false (.step 12 [] false (.step 13 [] false (.step 14 [] false .done))))))) (.alt (.step 8 [] true (.alt (.step 1 [] true (.step 11 [] false (.step 12 [] false (.step 13 [] false (.step 14 [] false .done))))) (.step 11 [] false (.step 1 [] false (.step 12 [] false (.step 13 [] false (.step 14 [] false .done))))))) (.step 11 [] false (.alt (.step 1 [] false (.step 8 [] false (.step 12 [] false (.step 13 [] false (.step 14 [] false .done))))) (.step 8 [] false (.step 1 [] false (.step 12 [] false (.step 13 [] false (.step 14 [] false .done)))))))))) (.step 8 [] true (.alt (.step 1 [] true (.step 7 [9,10] true (.step 11 [] false (.step 12 [] false (.step 13 [] false (.step 14 [] false .done)))))) (.step 7 [9,10] true (.alt (.step 1 [] true (.step 11 [] false (.step 12 [] false (.step 13 [] false (.step 14 [] false .done))))) (.step 11 [] false (.step 1 [] false (.step 12 [] false (.step 13 [] false (.step 14 [] false .done))))))))))) ⟨[(0,.ptr 0 0 0 1),(2,.d (.int .u32 (h:Int))),(4,.ptr 28 0 0 1),(7,.own 5000 0 (partL PO EN W i k E).length (partL PO EN W i k E).length),(8,.d (.ro 1 ((annexW i.wit).map encT))),(24,.d (.int .i64 (E.length:Int))),(25,.d (.int .i64 (k:Int))),(11,.ptr 1 k 0 E.length),(12,.ptr 7088 0 0 1)],(7088,⟨111,69,[wtC (atW W e.pl)]⟩) :: (5000,bgB (partL PO EN W i k E)) :: (28,spX i) :: vxI W (partE EN W i h (k+1) E) B m t,7632⟩ (k:=15) ?h3 ?hq
          case h3 =>
            intro G hG
            have hR1:(List.map enR (partE EN W i h k E))[k]?=some (enR e):=by simp [hpe]
            have hR2:(List.map enR (partE EN W i h k E)).length=E.length:=by simp [hpl]
            have hkl:k<E.length:=by omega
            have hst2:stepE EN W i h e={ e with st:=S,ht:=h }:=by
              unfold stepE
              rw [if_pos (by simp [hitE,hr2,hs]),hS]
            have hset:(List.map enR (partE EN W i h k E)).set k (((enR e).set 35 (.d (.int .i64 S))).set 36 (.d (.int .u32 (h:Int))))=List.map enR (partE EN W i h (k+1) E):=by
              rw [enR_step heok.1,← hst2,rows_set,partE_set he1]
            generalize List.map enR (partE EN W i h k E)=R at *
            have hR3:∀ hl:k<R.length,R[k]=enR e:=fun hl=>Option.some.inj ((List.getElem?_eq_getElem hl).symm.trans hR1)
            simp [go_sem,hR1,hR2,hR3,hel,wl,wtk,het,hkl]
            have hWk:∀ fr:Fr,(fv 0 fr=.ptr 0 0 0 1∧fv 2 fr=.d (.int .u32 (h:Int))∧fv 4 fr=.ptr 28 0 0 1∧fv 7 fr=.own 5000 0 (partL PO EN W i k E).length (partL PO EN W i k E).length∧fv 8 fr=.d (.ro 1 ((annexW i.wit).map encT))∧fv 24 fr=.d (.int .i64 (E.length:Int))∧fv 25 fr=.d (.int .i64 (k:Int))∧fv 11 fr=.ptr 1 k 0 E.length∧fv 12 fr=.ptr 7088 0 0 1) →
                G fr ((7088,⟨111,69,[wtC (atW W e.pl)]⟩) :: (5000,bgB (partL PO EN W i k E)) :: (28,⟨86,35,[cIp i]⟩) :: (0,(⟨108,3,[[.d (.ro 69 (W.map wtD)),.own 1 0 E.length E.length,.own 2 0 m t]]⟩:Blk)) :: (1,⟨28,69,List.map enR (partE EN W i h (k+1) E)⟩) :: (2,⟨49,1,((List.range m).map fun k=>[AV.own (3+k) 0 (B k).length (B k).length]) ++ List.replicate (t - m) [.any]⟩) :: vxT B):=by
              rintro fr ⟨q0,q2,q4,q7,q8,q24,q25,q11,q12⟩
              rw [hX _ partE_len]
              refine hG _ _ (weak_wk ⟨?_,?_,by simp⟩)
              · simp [slotOk,AV.low,AV.low1,q0,q2,q4,q7,q8,q24,q25,q11,q12]
              · exact spH7_weak hm ⟨nlb rfl,nlb rfl⟩ wok
            repeat' apply And.intro
            all_goals
              refine cl_eq hend.2 hde ?_
              simp (config := { maxSteps := 3000000 }) [go_sem,hR1,hR2,hR3,hel,hkl,hset]
              repeat' apply And.intro
              all_goals (refine hWk _ ?_;simp [fv,lk])
          case hq =>
            have hst2:stepE EN W i h e={ e with st:=S,ht:=h }:=by
              unfold stepE
              rw [if_pos (by simp [hitE,hr2,hs]),hS]
            have hpk:=partE_len (EN:=EN) (W:=W) (i:=i) (h:=h) (k:=k+1) (E:=E)
            have hpe2:(partE EN W i h (k+1) E)[k]?=some { e with st:=S,ht:=h }:=by
              rw [← partE_set he1,hst2,List.getElem?_set_self (by omega)]
            generalize hE2:({ e with st:=S,ht:=h }:En)=e2 at *
            have h2l:(enR e2).length=69:=by subst hE2;exact enR_len (n:=W.length) (by exact heok) |> fun _=>by simp [enR,enC,cb_len,heok.1,heok.2.1]
            have e2s:(enR e2)[35]?=some (.d (.int .i64 S)):=by subst hE2;exact enC_e35 heok.1 _ _ _ _ _
            have e2p:(enR e2)[34]?=some (.d (.int .i64 (e.pl:Int))):=by subst hE2;exact enC_e34 heok.1 _ _ _ _ _
            have e2sg:∀ hl:35<(enR e2).length,(enR e2)[35]=.d (.int .i64 S):=fun hl=>Option.some.inj ((List.getElem?_eq_getElem hl).symm.trans e2s)
            have e2pg:∀ hl:34<(enR e2).length,(enR e2)[34]=.d (.int .i64 (e.pl:Int)):=fun hl=>Option.some.inj ((List.getElem?_eq_getElem hl).symm.trans e2p)
            have hbe:begE PO EN W i e=if S=4∧(annexW i.wit).length=7∧((annexW i.wit).getD 3 []).length=32 then some ⟨e.pl,(annexW i.wit).getD 3 [],PO (atW W e.pl) ((annexW i.wit).getD 3 [])⟩ else none:=by
              simp only [begE,hS]
              rw [show hitE i e=true by simp [hitE,hr2,hs]]
              simp [and_assoc]
            simp only [vxI,vxB,spX]
            have hNY:begE PO EN W i e=none→∀ (fr:Fr) (nx:Nat),(fv 0 fr=.ptr 0 0 0 1∧fv 2 fr=.d (.int .u32 (h:Int))∧fv 4 fr=.ptr 28 0 0 1∧fv 7 fr=.own 5000 0 (partL PO EN W i k E).length (partL PO EN W i k E).length∧fv 8 fr=.d (.ro 1 ((annexW i.wit).map encT))∧fv 24 fr=.d (.int .i64 (E.length:Int))∧fv 25 fr=.d (.int .i64 ((k+1:Nat):Int))∧nx ≥ 64) →
                Weak ⟨fr,(7088,⟨111,69,[wtC (atW W e.pl)]⟩) :: (5000,bgB (partL PO EN W i k E)) :: (28,spX i) :: vxI W (partE EN W i h (k+1) E) B m t,nx⟩ ⟨[(0,.ptr 0 0 0 1),(2,.d (.int .u32 (h:Int))),(4,.ptr 28 0 0 1),(7,.own 5000 0 (partL PO EN W i (k+1) E).length (partL PO EN W i (k+1) E).length),(8,.d (.ro 1 ((annexW i.wit).map encT))),(24,.d (.int .i64 (E.length:Int))),(25,.d (.int .i64 ((k+1:Nat):Int)))],
      (5000,bgB (partL PO EN W i (k+1) E)) :: (28,spX i) :: vxI W (partE EN W i h (k+1) E) B m t,6000⟩:=by
              rintro hn fr nx ⟨q0,q2,q4,q7,q8,q24,q25,qn⟩
              rw [partL_none he1 hn]
              exact ⟨by simp [slotOk,AV.low,AV.low1,q0,q2,q4,q7,q8,q24,q25],spH_weak hm (Nat.le_refl _) (.inl rfl) rfl (fun j hj=>vxI_lk4 (by omega) (by omega) (by omega) hj),by simp⟩
            by_cases c1:S=4
            · by_cases c2:(annexW i.wit).length=7
              · have c2':((annexW i.wit).length:Int)=7:=by omega
                have x3:(annexW i.wit)[3]?=some ((annexW i.wit).getD 3 []):=by
                  rw [List.getD_eq_getElem?_getD,List.getElem?_eq_getElem (by omega)];rfl
                generalize hX3:(annexW i.wit).getD 3 []=X at *
                have x3g:∀ hl:3<(annexW i.wit).length,(annexW i.wit)[3]=X:=fun hl=>Option.some.inj ((List.getElem?_eq_getElem hl).symm.trans x3)
                have xb:bytes X:=hAb X (List.mem_of_getElem? x3)
                by_cases c3:X.length=32
                · have c3':(X.length:Int)=32:=by omega
                  have q1:(List.map (List.map AV.d ∘ fun (b:Nat)=>[DV.int IntKind.u8 (b:Int)]) X).flatten=cb X:=cbm_flat X
                  have q2:(List.map (List.length ∘ List.map AV.d ∘ fun (b:Nat)=>[DV.int IntKind.u8 (b:Int)]) X).sum=X.length:=cbm_sum X
                  have q3:List.take 32 (cb X)=cb X:=List.take_of_length_le (by rw [cb_len];omega)
                  have q4:(cb X).length=32:=by rw [cb_len,c3]
                  simp [go_sem,hpk,hpe2,h2l,e2s,e2sg,c1,c2,c2',c3,x3,x3g,encT,nb,q1,q2,q3,q4]
                  have hbs:partL PO EN W i (k+1) E=partL PO EN W i k E ++ [⟨e.pl,X,PO (atW W e.pl) X⟩]:=partL_some he1 (by rw [hbe,if_pos ⟨c1,c2,c3⟩])
                  have hpo:=hPO (atW W e.pl) X wok c3 xb
                  have hdp:∀ v,v ∈ [AV.agg (wtC (atW W e.pl)),AV.agg (cb X)]→v.deep:=by
                    intro v hv
                    simp at hv
                    rcases hv with rfl | rfl
                    · exact wtC_deep _
                    · exact cb_deepA _
                  refine drw3 [1,2,3,4,5,6,7] [0,8,9,10,11,12] [1,2,3,4,5,6,7] (.alt (.step 0 [] true (.step 8 [] true (.step 9 [] false (.step 10 [] false (.step 11 [] false (.step 12 [] false .done)))))) (.step 8 [] true (.alt (.step 0 [] true (.step 9 [] false (.step 10 [] false (.step 11 [] false (.step 12 [] false .done))))) (.step 9 [] false (.alt (.step 0 [] false (.step 10 [] false (.step 11 [] false (.step 12 [] false .done)))) (.step 10 [] false (.step 0 [] false (.step 11 [] false (.step 12 [] false .done))))))))) ⟨[(0,.ptr 0 0 0 1),(2,.d (.int .u32 (h:Int))),(4,.ptr 28 0 0 1),(7,.own 5000 0 (partL PO EN W i (k+1) E).length (partL PO EN W i (k+1) E).length),(8,.d (.ro 1 ((annexW i.wit).map encT))),(24,.d (.int .i64 (E.length:Int))),(25,.d (.int .i64 (k:Int)))],(5000,bgB (partL PO EN W i (k+1) E)) :: (28,spX i) :: vxI W (partE EN W i h (k+1) E) B m t,9000⟩ (k:=13) ?h3 ?hq
                  case h3 =>
                    intro G hG
                    have zd:List.drop 32 (cb z32)=[]:=rfl
                    have hWk:∀ (fr:Fr) (a8 a13:Blk) (o:AV),o=(match PO (atW W e.pl) X with | none=>.nil | some a=>.d (nb a))→(fv 0 fr=.ptr 0 0 0 1∧fv 2 fr=.d (.int .u32 (h:Int))∧fv 4 fr=.ptr 28 0 0 1∧fv 7 fr=.own 5000 0 ((partL PO EN W i k E).length+1) ((partL PO EN W i k E).length+1)∧fv 8 fr=.d (.ro 1 ((annexW i.wit).map encT))∧fv 24 fr=.d (.int .i64 (E.length:Int))∧fv 25 fr=.d (.int .i64 (k:Int))) →
                        G fr ((8720,a8) :: (8336,a13) :: (7088,⟨111,69,[wtC (atW W e.pl)]⟩) :: (5000,⟨183,34,List.map bgR (partL PO EN W i k E) ++ [AV.d (.int .i64 (e.pl:Int)) :: (cb X ++ [o])]⟩) :: (28,⟨86,35,[cIp i]⟩) :: (0,(⟨108,3,[[.d (.ro 69 (W.map wtD)),.own 1 0 E.length E.length,.own 2 0 m t]]⟩:Blk)) :: (1,⟨28,69,List.map enR (partE EN W i h (k+1) E)⟩) :: (2,⟨49,1,((List.range m).map fun k=>[AV.own (3+k) 0 (B k).length (B k).length]) ++ List.replicate (t - m) [.any]⟩) :: vxT B):=by
                      rintro fr a8 a13 o rfl ⟨q0,q2,q4,q7,q8,q24,q25⟩
                      have hbB:(⟨183,34,List.map bgR (partL PO EN W i k E) ++ [AV.d (.int .i64 (e.pl:Int)) :: (cb X ++ [match PO (atW W e.pl) X with | none=>.nil | some a=>.d (nb a)])]⟩:Blk)=bgB (partL PO EN W i (k+1) E):=by
                        rw [hbs];simp [bgB,bgR];cases PO (atW W e.pl) X <;> rfl
                      have hbl:(partL PO EN W i (k+1) E).length=(partL PO EN W i k E).length+1:=by rw [hbs];simp
                      rw [hX _ hpk,hbB]
                      refine hG _ _ (weak_wk ⟨?_,?_,by simp⟩)
                      · simp [slotOk,AV.low,AV.low1,q0,q2,q4,q7,q8,q24,q25,hbl]
                      · exact spH_weak hm (nlb rfl) (.inl rfl) rfl (fun j hj=>vxI_lk6 (by omega) (by omega) (by omega) (by omega) (by omega) hj)
                    have zb1:List.drop 33 zBg=[.nil]:=rfl
                    have zb2:zBg.length=34:=rfl
                    have zb3:List.drop 33 (cb X ++ [AV.nil])=[]:=List.drop_of_length_le (by simp [q4])
                    simp [go_sem,hpk,hpe2,h2l,e2p,e2pg,wl,wtk,q3,q4,zd]
                    have hpl5:=partL_len (PO:=PO) (EN:=EN) (W:=W) (i:=i) (k:=k) (E:=E)
                    have hcl2:=hpo.2
                    cases hP:PO (atW W e.pl) X with
                    | none =>
                      rw [hP] at hcl2
                      repeat' apply And.intro
                      all_goals
                        refine cl_eq hcl2 hdp ?_
                        simp [go_sem,q4,bgB,zBg_z,zb1,zb2,zb3]
                        repeat' apply And.intro
                        all_goals first
                          | omega
                          | (refine hWk _ _ _ _ (by rw [hP]) ?_;simp [fv,lk];done)
                    | some a =>
                      rw [hP] at hcl2
                      repeat' apply And.intro
                      all_goals
                        refine cl_eq hcl2 hdp ?_
                        simp [go_sem,q4,bgB,zBg_z,zb1,zb2,zb3]
                        repeat' apply And.intro
                        all_goals first
                          | omega
                          | (refine hWk _ _ _ _ (by rw [hP]) ?_;simp [fv,lk];done)
                  case hq =>
                    simp only [vxI,vxB,spX]
                    simp [go_sem,w3,hpk]
                    refine next_of (k+1) (by omega) (by omega) ?_
                    rw [hX _ hpk]
                    exact ⟨by simp [slotOk,fv,lk,AV.low,AV.low1,encT,nb],spH_weak hm (Nat.le_refl _) (.inl rfl) rfl (fun j hj=>vxI_lk3 (by omega) (by omega) hj),by simp⟩
                · have c3':¬ (X.length:Int)=32:=by omega
                  simp [go_sem,hpk,hpe2,h2l,e2s,e2sg,c1,c2,c2',c3,c3',x3,x3g,encT,nb,w3]
                  refine next_of (k+1) (by omega) (by omega) ?_
                  rw [hX _ hpk]
                  refine hNY (by rw [hbe,if_neg (by simp [c3])]) _ _ ?_
                  simp [fv,lk,encT]
              · have c2':¬ ((annexW i.wit).length:Int)=7:=by omega
                simp [go_sem,hpk,hpe2,h2l,e2s,e2sg,c1,c2,c2',w3]
                refine next_of (k+1) (by omega) (by omega) ?_
                rw [hX _ hpk]
                refine hNY (by rw [hbe,if_neg (by simp [c2])]) _ _ ?_
                simp [fv,lk]
            · simp [go_sem,hpk,hpe2,h2l,e2s,e2sg,c1,w3]
              refine next_of (k+1) (by omega) (by omega) ?_
              rw [hX _ hpk]
              refine hNY (by rw [hbe,if_neg (by simp [c1])]) _ _ ?_
              simp [fv,lk]
      · have hn:hitE i e=false:=by simp [hitE,hs]
        simp [hr,hs,go_sem,hpe,hel,hrow,het,hpl]
        refine cl_eq hlv hle ?_
        simp [go_sem,hs]
        refine hG _ _ ?_
        clear hG G
        simp [go_sem,w3]
        refine next_of (k+1) (by omega) (by omega) ?_
        rw [hX _ hpl]
        refine hNX hn _ _ ?_
        simp [fv,lk]
    · have hn:hitE i e=false:=by
        have:¬ (e.tx=i.hash∧e.ix=i.idx):=fun h=>hr (hR.2 h)
        simp only [hitE,decide_eq_false_iff_not]
        exact fun h=>this ⟨h.1,h.2.1⟩
      simp [hr,go_sem]
      refine hG _ _ ?_
      clear hG G
      simp [go_sem,w3]
      refine next_of (k+1) (by omega) (by omega) ?_
      rw [hX _ hpl]
      refine hNX hn _ _ ?_
      simp [fv,lk]
  · have hk2:k=E.length:=by omega
    subst hk2
    simp [go_sem,hpl,resV]
    have e1:partL PO EN W i E.length E=spendL PO EN W i E:=by simp [partL,spendL]
    rw [e1]
    refine ⟨rfl,rfl,fun j hj=>?_⟩
    match j,hj with
    | 0,_=>simp
    | 1,_=>simp [partE_all]
    | 2,_=>simp
    | j+3,hj =>
      rw [if_neg (by omega),if_neg (by omega),if_neg (by omega),if_neg (by omega),if_neg (by omega),vxT_lk (by omega)]
end
end Go.Proofs.YtfahccoobfjkeaaGreat
