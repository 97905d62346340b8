/-
  Part 10 of what the claim rests on.
-/
import Derived.Test.YtfahccoobfjkeaaGreatT2
import Derived.Test.YtfahccoobfjkeaaGreatT8
set_option linter.unusedVariables false
set_option linter.unusedSimpArgs false
set_option maxRecDepth 100000
set_option maxHeartbeats 16000000
namespace Go.Sha
structure Hd where
  ver:Nat
  prev:List Nat
  root:List Nat
  time:Nat
  bits:Nat
  nonce:Nat
def Hd.ok (h:Hd):Prop:=h.ver<4294967296∧h.prev.length=32∧h.root.length=32∧h.time<4294967296∧h.bits<4294967296∧h.nonce<4294967296∧(∀ x,x ∈ h.prev→x<256)∧∀ x,x ∈ h.root→x<256
end Go.Sha
namespace Go.Proofs.YtfahccoobfjkeaaGreat
open Go.Am Go.Sha
def eH (h:Hd):List AV:=.d (.int .u32 (h.ver:Int)) :: (cb h.prev ++ (cb h.root ++ [.d (.int .u32 (h.time:Int)),.d (.int .u32 (h.bits:Int)),.d (.int .u32 (h.nonce:Int))]))
theorem eH_len {h:Hd} (hp:h.prev.length=32) (hr:h.root.length=32):(eH h).length=68:=by simp [eH,cb_len,hp,hr]
theorem eH_deep (h:Hd):(AV.agg (eH h)).deep:=by
  intro c hc
  simp only [eH,List.mem_cons,List.mem_append,List.mem_nil_iff,or_false] at hc
  rcases hc with rfl | hc | hc | rfl | rfl | rfl
  · trivial
  · exact cb_deep _ _ hc
  · exact cb_deep _ _ hc
  · trivial
  · trivial
  · trivial
theorem eH_low (n:Nat) (h:Hd):∀ v,v ∈ eH h→v.low1 n:=by
  intro c hc
  simp only [eH,List.mem_cons,List.mem_append,List.mem_nil_iff,or_false] at hc
  rcases hc with rfl | hc | hc | rfl | rfl | rfl
  · trivial
  · exact cb_low _ _ _ hc
  · exact cb_low _ _ _ hc
  · trivial
  · trivial
  · trivial
theorem one_eT (t:Tn):∀ v,v ∈ [AV.agg (eT t)]→v.deep:=by simp [AV.deep,AV.deep1,eT]
def eTd (t:Tn):List DV:=[.int .u32 (t.ver:Int),.ro 35 (t.ins.map eI),.ro 2 (t.outs.map eO),.int .u32 (t.lock:Int)]
theorem eTd_map (t:Tn):(eTd t).map AV.d=eT t:=rfl
theorem eTd_len (t:Tn):(eTd t).length=4:=rfl
theorem eT_len (t:Tn):(eT t).length=4:=rfl
theorem eT_take (t:Tn):(eT t).take 4=eT t:=rfl
def txsD (ts:List Tn):DV:=.ro 4 (ts.map eTd)
def eB (h:Hd) (ts:List Tn):List AV:=eH h ++ [.d (.ro 4 (ts.map eTd))]
theorem eB_take {h:Hd} (hk:h.ok) (ts:List Tn):(eB h ts).take 68=eH h:=by
  unfold eB
  rw [List.take_append_of_le_length (by rw [eH_len hk.2.1 hk.2.2.1];omega),List.take_of_length_le (by rw [eH_len hk.2.1 hk.2.2.1];omega)]
theorem eB_drop {h:Hd} (hk:h.ok) (ts:List Tn):(eB h ts).drop 68=[.d (.ro 4 (ts.map eTd))]:=by
  unfold eB
  rw [List.drop_append_of_le_length (by rw [eH_len hk.2.1 hk.2.2.1];omega),List.drop_eq_nil_of_le (by rw [eH_len hk.2.1 hk.2.2.1];omega)]
  rfl
theorem eB_get {h:Hd} (hk:h.ok) (ts:List Tn):(eB h ts)[68]?=some (.d (.ro 4 (ts.map eTd))):=by
  have:=List.getElem?_drop (xs:=eB h ts) (i:=68) (j:=0)
  rw [eB_drop hk] at this
  exact this.symm
theorem eB_len {h:Hd} (hk:h.ok) (ts:List Tn):(eB h ts).length=69:=by
  unfold eB
  rw [List.length_append,eH_len hk.2.1 hk.2.2.1];rfl
theorem eB_g {h:Hd} (hk:h.ok) (ts:List Tn) (hh:68<(eB h ts).length):(eB h ts)[68]=.d (.ro 4 (ts.map eTd)):=(List.getElem?_eq_some_iff.1 (eB_get hk ts)).2
theorem eB_all {h:Hd} (hk:h.ok) (ts:List Tn):(eB h ts).take 69=eB h ts:=List.take_of_length_le (by rw [eB_len hk];omega)
theorem eB_low (n:Nat) (h:Hd) (ts:List Tn):∀ v,v ∈ eB h ts→v.low1 n:=by
  intro v hv
  unfold eB at hv
  rcases List.mem_append.1 hv with hv | hv
  · exact eH_low n h v hv
  · simp at hv;subst hv;trivial
theorem eB_deep (h:Hd) (ts:List Tn):(AV.agg (eB h ts)).deep:=by
  intro v hv
  unfold eB at hv
  rcases List.mem_append.1 hv with hv | hv
  · exact eH_deep h v hv
  · simp at hv;subst hv;trivial
def smallB (ts:List Tn):Bool:=decide (ts.length≤8) && ts.all (within 6 6 600)
theorem within_no {ts:List Tn} {k:Nat} {t:Tn} (h:ts[k]?=some t) (hw:within 6 6 600 t=false):smallB ts=false:=by
  have:ts.all (within 6 6 600)=false:=by
    rw [List.all_eq_false]
    exact ⟨t,List.mem_of_getElem? h,by simp [hw]⟩
  simp [smallB,this]
theorem smallB_fn (ts:List Tn) (hok:∀ t,t ∈ ts→t.ok):Rets Tryz.prog 12 [.d (txsD ts)] (fun r=>r=.d (.bool (smallB ts))):=by
  refine fna Tryz.func12 Tryz.ntmps12 (rs:=[.tmp 2]) (by simp [AV.deep,AV.deep1]) ?_
  simp [go_sem,txsD]
  refine loop_of (fun k:Nat=>⟨[(0,.d (.ro 4 (ts.map eTd))),(3,.d (.int .i64 (k:Int)))],[],1000⟩)
    (fun k=>k≤8∧k≤ts.length∧∀ t,t ∈ ts.take k→within 6 6 600 t=true) (fun k=>ts.length - k) 0 ⟨by omega,by omega,by simp⟩ (by
      simp [Weak,slotOk,fv,lk,AV.low,AV.low1]) ?_
  rintro k ⟨h8,hk,hall⟩
  simp only [go_sem,Nat.reduceEqDiff,Nat.reduceAdd,Nat.reduceLT,↓reduceIte,Nat.reduceMul]
  refine ⟨fun hh=>?_,fun hh=>?_⟩
  · obtain ⟨t,ht1,hd⟩:=drop_of (l:=ts) (k:=k) (by omega)
    have w3:=next_i64 (k:=k) (by omega)
    by_cases hk8:k=8
    · have hs:smallB ts=false:=by simp [smallB];intro h;omega
      subst hk8
      simp [go_sem,resV]
      exact post_same (by simp [AV.deep,AV.deep1]) (by rw [hs])
    · have i8:¬ (k:Int)=8:=by omega
      simp [go_sem,i8,ht1,eTd_map,eTd_len,eT_len,eT_take]
      refine cl_eq (small09_fn t (hok t (List.mem_of_getElem? ht1))) (one_eT t) ?_
      cases hw:within 6 6 600 t
      · simp [go_sem,resV]
        exact post_same (by simp [AV.deep,AV.deep1]) (by rw [within_no ht1 hw])
      · simp [go_sem,w3]
        refine next_of (k+1) ⟨by omega,by omega,?_⟩ (by omega) ?_
        · intro x hx
          rw [List.take_add_one,ht1] at hx
          simp at hx
          rcases hx with hx | rfl
          · exact hall x hx
          · exact hw
        simp [Weak,slotOk,fv,lk,AV.low,AV.low1]
  · have hkl:k=ts.length:=by omega
    subst hkl
    have hs:smallB ts=true:=by
      rw [List.take_length] at hall
      simp only [smallB,Bool.and_eq_true,decide_eq_true_eq,List.all_eq_true]
      exact ⟨h8,hall⟩
    simp [go_sem,resV]
    exact post_same (by simp [AV.deep,AV.deep1]) (by rw [hs])
def hd0:Hd:=⟨0,z32,z32,0,0,0⟩
def zBc:List AV:=eH hd0 ++ [.nil]
theorem zBc_z:tzO Tryz.prog 42=some zBc:=by kernel_rfl
attribute [go_sem] zBc_z
theorem zBc_len:zBc.length=69:=by kernel_rfl
theorem zBc_get:zBc[68]?=some .nil:=by kernel_rfl
theorem zBc_g (h:68<zBc.length):zBc[68]=.nil:=(List.getElem?_eq_some_iff.1 zBc_get).2
theorem zBc_take:zBc.take 69=zBc:=List.take_of_length_le (by rw [zBc_len];omega)
def zEc:List AV:=cb z32 ++ [.d (.int .u32 0),.d (.int .u64 0),.d (.int .i64 0),.d (.int .i64 0),.d (.int .u32 0)] ++ cb z32
theorem zEc_z:tzO Tryz.prog 28=some zEc:=by kernel_rfl
attribute [go_sem] zEc_z
theorem zEc_len:zEc.length=69:=by kernel_rfl
theorem zEc_take:zEc.take 69=zEc:=List.take_of_length_le (by rw [zEc_len];omega)
theorem zEc_drop:zEc.drop 69=[]:=List.drop_eq_nil_of_le (by rw [zEc_len];omega)
theorem isPtrX:isPtr Tryz.prog 45=true:=by kernel_rfl
attribute [go_sem] isPtrX
theorem clone0_fn:Rets Tryz.prog 38 [.d (.ro 69 [])] (fun r=>r=.d (.ro 69 [])):=by
  refine fna Tryz.func38 Tryz.ntmps38 (rs:=[.tmp 2]) (by simp [AV.deep,AV.deep1]) ?_
  simp [go_sem,resV]
  refine ⟨?_,post_one (snap1_d (.nil 69)) (by simp [AV.deep,AV.deep1]) rfl⟩
  exact post_one (snap1_d (snap_row (es:=[]) (e:=69) rfl trivial rfl (by simp))) (by simp [AV.deep,AV.deep1]) rfl
theorem newV_fn:RetsE Tryz.prog 19 0 [] [.nil] (fun r hp'=>r=.tup [.ptr 193 0 0 1,.d (.int .i64 0)]∧lk 193 hp'=some ⟨108,3,[[.nil,.nil,.nil]]⟩):=by
  refine fnE_of_awp Tryz.func19 (by kernel_rfl) rfl Tryz.ntmps19 (rs:=[.tmp 2,.tmp 3]) rfl (nlb rfl) (by decide) ?_
  simp [go_sem]
  refine loop_of (fun _:Unit=>⟨[(4,.ptr 193 0 0 1),(15,.d (.int .i64 0)),(16,.d (.int .i64 0))],[(193,⟨108,3,[[.nil,.nil,.nil]]⟩)],1000⟩)
    (fun _=>True) (fun _=>0) () trivial (by
      simp [Weak,slotOk,fv,lk,AV.low,AV.low1]) ?_
  intro _ _
  simp [go_sem,resV,lk]
def ixB (e b:AV):Blk:=⟨108,3,[[.nil,e,b]]⟩
theorem connectX_fn:RetsE Tryz.prog 15 1 [(0,⟨108,3,[[.nil,.nil,.nil]]⟩)] [.ptr 0 0 0 1,.agg zBc,.d (.int .u32 1)]
    (fun r hp'=>r=.tup []∧lk 0 hp'=some ⟨108,3,[[.nil,.nil,.own 450 0 1 1]]⟩∧lk 450 hp'=some ⟨49,1,[[.d (.ro 69 [])]]⟩):=by
  refine fnE_of_awp Tryz.func15 (by kernel_rfl) rfl Tryz.ntmps15 (rs:=[]) rfl (nlb rfl) (by decide) ?_
  simp [go_sem,zBc_len,zBc_take]
  refine drw2 [0,1,2,3,4,5,6,7,8] [(9,[]),(10,[]),(11,[12,13]),(14,[])] 3 (k:=15) ?_
  intro G hG
  simp [go_sem]
  refine cl_froz [] clone0_fn rfl (snap_cons (.one (snap1_d (.nil 69))) snap_nil) ?_
  simp [go_sem,dropH]
  refine hG _ _ ?_
  clear hG G
  simp [go_sem,zBc_len,zBc_g,zBc_get]
  refine loop_of (fun _:Unit=>⟨[(0,.ptr 0 0 0 1),(26,.d (.int .i64 0)),(27,.d (.int .i64 0))],[(450,⟨49,1,[[.d (.ro 69 [])]]⟩),(0,⟨108,3,[[.nil,.nil,.own 450 0 1 1]]⟩)],1000⟩)
    (fun _=>True) (fun _=>0) () trivial (by
      simp [Weak,slotOk,fv,lk,AV.low,AV.low1]) ?_
  intro _ _
  simp [go_sem,resV,lk]
theorem lenX1_fn:RetsE Tryz.prog 14 2 [(0,⟨108,3,[[.nil,.nil,.own 1 0 1 1]]⟩),(1,⟨49,1,[[.d (.ro 69 [])]]⟩)] [.ptr 0 0 0 1] (fun r hp'=>r=.d (.int .i64 1)∧lk 0 hp'=some ⟨108,3,[[.nil,.nil,.own 1 0 1 1]]⟩∧lk 1 hp'=some ⟨49,1,[[.d (.ro 69 [])]]⟩):=by
  refine fnE_of_awp Tryz.func14 (by kernel_rfl) rfl Tryz.ntmps14 (rs:=[.tmp 2]) rfl (nlb rfl) (by decide) ?_
  simp [go_sem,resV,lk]
theorem lenX0_fn:RetsE Tryz.prog 14 2 [(0,⟨108,3,[[.nil,.d (.ro 69 []),.own 1 0 0 1]]⟩),(1,⟨49,1,[[.d (.ro 69 [])]]⟩)] [.ptr 0 0 0 1] (fun r hp'=>r=.d (.int .i64 0)∧lk 0 hp'=some ⟨108,3,[[.nil,.d (.ro 69 []),.own 1 0 0 1]]⟩∧lk 1 hp'=some ⟨49,1,[[.d (.ro 69 [])]]⟩):=by
  refine fnE_of_awp Tryz.func14 (by kernel_rfl) rfl Tryz.ntmps14 (rs:=[.tmp 2]) rfl (nlb rfl) (by decide) ?_
  simp [go_sem,resV,lk]
theorem disX0_fn:RetsE Tryz.prog 16 2 [(0,⟨108,3,[[.nil,.d (.ro 69 []),.own 1 0 0 1]]⟩),(1,⟨49,1,[[.d (.ro 69 [])]]⟩)] [.ptr 0 0 0 1] (fun r hp'=>r=.d (.bool false)∧lk 0 hp'=some ⟨108,3,[[.nil,.d (.ro 69 []),.own 1 0 0 1]]⟩∧lk 1 hp'=some ⟨49,1,[[.d (.ro 69 [])]]⟩):=by
  refine fnE_of_awp Tryz.func16 (by kernel_rfl) rfl Tryz.ntmps16 (rs:=[.tmp 2]) rfl (nlb rfl) (by decide) ?_
  simp [go_sem,resV,lk]
theorem disX1_fn:RetsE Tryz.prog 16 2 [(0,⟨108,3,[[.nil,.nil,.own 1 0 1 1]]⟩),(1,⟨49,1,[[.d (.ro 69 [])]]⟩)] [.ptr 0 0 0 1] (fun r hp'=>r=.d (.bool true)∧lk 0 hp'=some ⟨108,3,[[.nil,.d (.ro 69 []),.own 1 0 0 1]]⟩∧lk 1 hp'=some ⟨49,1,[[.d (.ro 69 [])]]⟩):=by
  refine fnE_of_awp Tryz.func16 (by kernel_rfl) rfl Tryz.ntmps16 (rs:=[.tmp 2]) rfl (nlb rfl) (by decide) ?_
  have w0:IntKind.i64.wrap 0=0:=IntWalk.i64_in _ (by omega)
  simp [go_sem,w0]
  refine drw3 [0,2,3,4,5,6,7,8,9,10,11,12,15,16] [1,13,14,17,18,19,20] [0,2,3,4,5,6,7,8,9,10,11,12,15,16] (.alt (.step 1 [] true (.alt (.step 13 [] true (.alt (.step 14 [] true (.step 17 [] false (.step 18 [] false (.step 19 [] false (.step 20 [] false .done))))) (.step 17 [] false (.step 14 [] false (.step 18 [] false (.step 19 [] false (.step 20 [] false .done))))))) (.step 17 [] false (.step 13 [] false (.step 14 [] false (.step 18 [] false (.step 19 [] false (.step 20 [] false .done)))))))) (.alt (.step 13 [] true (.alt (.step 1 [] true (.alt (.step 14 [] true (.step 17 [] false (.step 18 [] false (.step 19 [] false (.step 20 [] false .done))))) (.step 17 [] false (.step 14 [] false (.step 18 [] false (.step 19 [] false (.step 20 [] false .done))))))) (.alt (.step 14 [] true (.alt (.step 1 [] true (.step 17 [] false (.step 18 [] false (.step 19 [] false (.step 20 [] false .done))))) (.step 17 [] false (.step 1 [] false (.step 18 [] false (.step 19 [] false (.step 20 [] false .done))))))) (.step 17 [] false (.alt (.step 1 [] false (.step 14 [] false (.step 18 [] false (.step 19 [] false (.step 20 [] false .done))))) (.step 14 [] false (.step 1 [] false (.step 18 [] false (.step 19 [] false (.step 20 [] false .done)))))))))) (.step 17 [] false (.alt (.step 1 [] false (.step 13 [] false (.step 14 [] false (.step 18 [] false (.step 19 [] false (.step 20 [] false .done)))))) (.step 13 [] false (.alt (.step 1 [] false (.step 14 [] false (.step 18 [] false (.step 19 [] false (.step 20 [] false .done))))) (.step 14 [] false (.step 1 [] false (.step 18 [] false (.step 19 [] false (.step 20 [] false .done))))))))))) ⟨[(0,.ptr 0 0 0 1)],[(0,⟨108,3,[[.nil,.d (.ro 69 []),.own 1 0 0 1]]⟩),(1,⟨49,1,[[.d (.ro 69 [])]]⟩)],9000⟩ (k:=21) ?h3 ?hq
  case h3 =>
    intro G hG
    have hW:∀ fr:Fr,fv 0 fr=.ptr 0 0 0 1→G fr [(0,⟨108,3,[[.nil,.d (.ro 69 []),.own 1 0 0 1]]⟩),(1,⟨49,1,[[.d (.ro 69 [])]]⟩)]:=by
      intro fr e0
      refine hG _ _ (weak_wk ?_)
      simp only [Weak,slotOk]
      refine ⟨fun p hp=>?_,fun p hp=>?_,by simp⟩
      · simp only [List.mem_cons,List.mem_nil_iff,or_false] at hp
        subst hp
        exact ⟨.inl e0.symm,by simp [AV.low,AV.low1]⟩
      · simp only [List.mem_cons,List.mem_nil_iff,or_false] at hp
        rcases hp with rfl | rfl
        · exact ⟨.inl rfl,by simp,by simp [AV.low1]⟩
        · exact ⟨.inl rfl,by simp,by simp [AV.low1]⟩
    simp (maxSteps:=3000000) [go_sem,w0,SaW]
    and_intros <;> first | exact hW _ rfl | (refine hW _ ?_;simp [fv,lk])
  case hq =>
    simp [go_sem,resV,lk]
theorem zBc_ren (ρ:Nat→Nat):AV.renL ρ zBc=zBc:=rfl
def eP:List AV:=cb z32 ++ [.d (.int .u32 0),.d (.int .u64 0),.d (.int .i64 0),.d (.int .i64 2),.d (.int .u32 3)] ++ cb z32
theorem eP_is:List.take 36 (List.take 35 zEc ++ AV.d (DV.int IntKind.i64 2) :: List.drop 36 zEc) ++ AV.d (DV.int IntKind.u32 3) :: List.drop 37 (List.take 35 zEc ++ AV.d (DV.int IntKind.i64 2) :: List.drop 36 zEc)=eP:=rfl
def zPl:List AV:=cb z32 ++ [.nil,.d (.int .i64 0)] ++ cb z32
def pP:List AV:=cb z32 ++ [.nil,.d (.int .i64 4)] ++ cb z32
theorem zPl_z:tzO Tryz.prog 31=some zPl:=by kernel_rfl
attribute [go_sem] zPl_z
theorem zPl_len:zPl.length=66:=rfl
theorem pP_is:List.take 33 zPl ++ AV.d (DV.int IntKind.i64 4) :: List.drop 34 zPl=pP:=rfl
theorem eP_len:eP.length=69:=rfl
theorem pP_len:pP.length=66:=rfl
theorem eP_g35 (h:35<eP.length):eP[35]=.d (.int .i64 2):=rfl
theorem eP_g36 (h:36<eP.length):eP[36]=.d (.int .u32 3):=rfl
theorem pP_g33 (h:33<pP.length):pP[33]=.d (.int .i64 4):=rfl
theorem eP_o35:eP[35]?=some (.d (.int .i64 2)):=rfl
theorem eP_o36:eP[36]?=some (.d (.int .u32 3)):=rfl
theorem pP_o33:pP[33]?=some (.d (.int .i64 4)):=rfl
theorem eP_ren (ρ:Nat→Nat):AV.renL ρ eP=eP:=rfl
theorem pP_ren (ρ:Nat→Nat):AV.renL ρ pP=pP:=rfl
theorem ready7_fn:RetsE Tryz.prog 9 0 [] [.agg eP,.agg pP,.d (.int .u32 7)] (fun r hp'=>r=.d (.bool true)):=by
  refine fnE_of_awp Tryz.func9 (by kernel_rfl) rfl Tryz.ntmps9 (rs:=[.tmp 6]) rfl (nlb rfl) (by decide) ?_
  have w7:IntKind.i64.wrap 7=7:=IntWalk.i64_in _ (by omega)
  have w3:IntKind.i64.wrap 3=3:=IntWalk.i64_in _ (by omega)
  have w4:IntKind.i64.wrap 4=4:=IntWalk.i64_in _ (by omega)
  simp [go_sem,eP_len,pP_len,eP_g35,eP_g36,pP_g33,eP_o35,eP_o36,pP_o33,resV,w7,w3,w4]
theorem ready6_fn:RetsE Tryz.prog 9 0 [] [.agg eP,.agg pP,.d (.int .u32 6)] (fun r hp'=>r=.d (.bool false)):=by
  refine fnE_of_awp Tryz.func9 (by kernel_rfl) rfl Tryz.ntmps9 (rs:=[.tmp 6]) rfl (nlb rfl) (by decide) ?_
  have w7:IntKind.i64.wrap 6=6:=IntWalk.i64_in _ (by omega)
  have w3:IntKind.i64.wrap 3=3:=IntWalk.i64_in _ (by omega)
  have w4:IntKind.i64.wrap 4=4:=IntWalk.i64_in _ (by omega)
  simp [go_sem,eP_len,pP_len,eP_g35,eP_g36,pP_g33,eP_o35,eP_o36,pP_o33,resV,w7,w3,w4]
theorem alive31_fn:Rets Tryz.prog 8 [] (fun r=>r=.d (.bool true)):=by
  refine fna Tryz.func8 Tryz.ntmps8 (rs:=[.tmp 0]) (by simp [AV.deep,AV.deep1]) ?_
  simp [go_sem]
  refine cl_eff [] newV_fn rfl (by simp) (by simp) (by simp) (by simp [AV.renL,AV.ren]) ?_
  rintro r hp' ⟨rfl,h0⟩
  refine ⟨[(193,0)],rfl,?_⟩
  simp [go_sem,outH,outP,h0,Blk.ren,renR,AV.ren,AV.renL,rho]
  clear h0 hp'
  refine cl_eff [(0,32)] connectX_fn rfl (by simp) (by simp [lk]) (by simp [lk,Blk.ren,renR,AV.ren,AV.renL,rho,swp]) (by simp [AV.renL,AV.ren,rho,swp,lk,zBc_ren]) ?_
  rintro r hp' ⟨rfl,h0,h1⟩
  refine ⟨[(450,0)],rfl,?_⟩
  simp [go_sem,outH,outP,h0,h1,Blk.ren,renR,AV.ren,AV.renL,rho,lk]
  clear h0 h1 hp'
  refine cl_eff [(0,32),(1,480)] lenX1_fn rfl (by simp) (by simp [lk]) (by simp [lk,Blk.ren,renR,AV.ren,AV.renL,rho,swp]) (by simp [AV.renL,AV.ren,rho,swp,lk]) ?_
  rintro r hp' ⟨rfl,h0,h1⟩
  refine ⟨[],rfl,?_⟩
  simp [go_sem,outH,outP,h0,h1,Blk.ren,renR,AV.ren,AV.renL,rho,lk]
  clear h0 h1 hp'
  refine cl_eff [(0,32),(1,480)] disX1_fn rfl (by simp) (by simp [lk]) (by simp [lk,Blk.ren,renR,AV.ren,AV.renL,rho,swp]) (by simp [AV.renL,AV.ren,rho,swp,lk]) ?_
  rintro r hp' ⟨rfl,h0,h1⟩
  refine ⟨[],rfl,?_⟩
  simp [go_sem,outH,outP,h0,h1,Blk.ren,renR,AV.ren,AV.renL,rho,lk]
  clear h0 h1 hp'
  refine cl_eff [(0,32),(1,480)] disX0_fn rfl (by simp) (by simp [lk]) (by simp [lk,Blk.ren,renR,AV.ren,AV.renL,rho,swp]) (by simp [AV.renL,AV.ren,rho,swp,lk]) ?_
  rintro r hp' ⟨rfl,h0,h1⟩
  refine ⟨[],rfl,?_⟩
  simp [go_sem,outH,outP,h0,h1,Blk.ren,renR,AV.ren,AV.renL,rho,lk]
  clear h0 h1 hp'
  refine cl_eff [(0,32),(1,480)] lenX0_fn rfl (by simp) (by simp [lk]) (by simp [lk,Blk.ren,renR,AV.ren,AV.renL,rho,swp]) (by simp [AV.renL,AV.ren,rho,swp,lk]) ?_
  rintro r hp' ⟨rfl,h0,h1⟩
  refine ⟨[],rfl,?_⟩
  simp [go_sem,outH,outP,h0,h1,Blk.ren,renR,AV.ren,AV.renL,rho,lk]
  clear h0 h1 hp'
  simp [go_sem,zEc_len,zPl_len,eP_is,pP_is]
  refine cl_eff [] ready7_fn rfl (by simp) (by simp) (by simp) (by simp [AV.renL,AV.ren,eP_ren,pP_ren]) ?_
  rintro r hp' rfl
  refine ⟨[],rfl,?_⟩
  simp [go_sem,outH,outP,Blk.ren,renR,AV.ren,AV.renL,rho,lk,zEc_len,zPl_len,eP_is,pP_is]
  refine cl_eff [] ready6_fn rfl (by simp) (by simp) (by simp) (by simp [AV.renL,AV.ren,eP_ren,pP_ren]) ?_
  rintro r hp' rfl
  refine ⟨[],rfl,?_⟩
  simp [go_sem,outH,outP,Blk.ren,renR,AV.ren,AV.renL,rho,lk,resV]
  exact post_same (by simp [AV.deep,AV.deep1]) rfl
theorem ty_hd {n:Nat} {ds:List DV} (h:TyD Tryz.prog (n+4) 39 ds):∃ g:Hd,ds.map .d=eH g∧g.ok:=by
  rw [TyD] at h
  simp only [Tryz.underlying39,List.map_cons,List.map_nil] at h
  obtain ⟨a,b,rfl,ha,ha2,a',b',rfl,hb,hb2,a3,b3,rfl,hc,hc2,a4,b4,rfl,hd,hd2,a5,b5,rfl,he,he2,a6,b6,rfl,hf,hf2,rfl⟩:=h
  obtain ⟨x,rfl,hx⟩:=ty_u32 ha2
  obtain ⟨p,rfl,hp1,hp2⟩:=ty_h32 hb2
  obtain ⟨r,rfl,hr1,hr2⟩:=ty_h32 hc2
  obtain ⟨t,rfl,ht⟩:=ty_u32 hd2
  obtain ⟨b,rfl,hb⟩:=ty_u32 he2
  obtain ⟨o,rfl,ho⟩:=ty_u32 hf2
  exact ⟨⟨x,p,r,t,b,o⟩,by simp [eH,cd_map],hx,hp1,hr1,ht,hb,ho,hp2,hr2⟩
theorem d_inj:∀ {a b:List DV},a.map AV.d=b.map AV.d→a=b
  | [],[],_=>rfl
  | [],_ :: _,h=>by simp at h
  | _ :: _,[],h=>by simp at h
  | x :: a,y :: b,h=>by
    simp only [List.map_cons,List.cons.injEq,AV.d.injEq] at h
    rw [h.1,d_inj h.2]
def enC (tx:List Nat) (ix v pl st ht:Int) (tpl:List Nat):List AV:=cb tx ++ ([.d (.int .u32 ix),.d (.int .u64 v),.d (.int .i64 pl),.d (.int .i64 st),.d (.int .u32 ht)] ++ cb tpl)
def plC (inner rec:List Nat) (d:Int) (trig:List Nat):List AV:=cb inner ++ ([.d (nb rec),.d (.int .i64 d)] ++ cb trig)
theorem plC_len {inner trig:List Nat} (hi:inner.length=32) (ht:trig.length=32) (rec:List Nat) (d:Int):(plC inner rec d trig).length=66:=by simp [plC,cb_len,hi,ht]
theorem plC_take {inner trig:List Nat} (hi:inner.length=32) (ht:trig.length=32) (rec:List Nat) (d:Int):List.take 66 (plC inner rec d trig)=plC inner rec d trig:=List.take_of_length_le (by rw [plC_len hi ht];exact Nat.le_refl _)
theorem plC_deep (inner rec:List Nat) (d:Int) (trig:List Nat):(AV.agg (plC inner rec d trig)).deep:=by
  intro c hc
  unfold plC at hc
  rcases List.mem_append.1 hc with h | h
  · exact cb_deep _ _ h
  · rcases List.mem_append.1 h with h | h
    · simp at h;rcases h with rfl | rfl <;> trivial
    · exact cb_deep _ _ h
section
variable {tx tpl:List Nat} (h1:tx.length=32) (h2:tpl.length=32) (ix v pl st ht:Int)
include h1 h2
theorem enC_len:(enC tx ix v pl st ht tpl).length=69:=by simp [enC,cb_len,h1,h2]
omit h2
theorem enC_33:List.take 33 (enC tx ix v pl st ht tpl)=cb tx ++ [.d (.int .u32 ix)]:=by
  unfold enC
  rw [List.take_append,cb_len,h1,List.take_of_length_le (by rw [cb_len,h1];omega)];rfl
theorem enC_at (k:Nat):(enC tx ix v pl st ht tpl)[32+k]?=([AV.d (.int .u32 ix),.d (.int .u64 v),.d (.int .i64 pl),.d (.int .i64 st),.d (.int .u32 ht)] ++ cb tpl)[k]?:=by
  unfold enC;rw [List.getElem?_append_right (by rw [cb_len];omega),cb_len,h1,show 32+k - 32=k by omega]
theorem enC_e33:(enC tx ix v pl st ht tpl)[33]?=some (.d (.int .u64 v)):=enC_at h1 ix v pl st ht 1
theorem enC_e34:(enC tx ix v pl st ht tpl)[34]?=some (.d (.int .i64 pl)):=enC_at h1 ix v pl st ht 2
theorem enC_e35:(enC tx ix v pl st ht tpl)[35]?=some (.d (.int .i64 st)):=enC_at h1 ix v pl st ht 3
theorem enC_e36:(enC tx ix v pl st ht tpl)[36]?=some (.d (.int .u32 ht)):=enC_at h1 ix v pl st ht 4
theorem enC_37:List.drop 37 (enC tx ix v pl st ht tpl)=cb tpl:=by
  unfold enC
  rw [List.drop_append,cb_len,h1,List.drop_eq_nil_of_le (by rw [cb_len,h1];omega)];rfl
end
theorem get_at {l:List AV} {n:Nat} {v:AV} (h:l[n]?=some v) (hl:n<l.length):l[n]=v:=by
  rw [List.getElem?_eq_getElem hl] at h
  exact Option.some.inj h
theorem enC_deep (tx:List Nat) (ix v pl st ht:Int) (tpl:List Nat):(AV.agg (enC tx ix v pl st ht tpl)).deep:=by
  intro c hc
  unfold enC at hc
  rcases List.mem_append.1 hc with h | h
  · exact cb_deep _ _ h
  · rcases List.mem_append.1 h with h | h
    · simp at h;rcases h with rfl | rfl | rfl | rfl | rfl <;> trivial
    · exact cb_deep _ _ h
def zER:List AV:=cb z32 ++ [.d (.int .u32 0),.d (.int .u64 0),.d (.int .i64 0),.d (.int .i64 0),.d (.int .u32 0)] ++ cb z32
theorem zER_z:tzO Tryz.prog 32=some zER:=by kernel_rfl
attribute [go_sem] zER_z
theorem r_b_beqV {P:Program} {K:AV→Hp→Prop} {hp:Hp} (t:TypeId) (a b:Bool):binW P .eql t (.d (.bool a)) (.d (.bool b)) K hp=(P.underlying t=some .bool∧K (.d (.bool (a == b))) hp):=rfl
theorem und_boolV:Tryz.prog.underlying 4=some .bool:=by kernel_rfl
attribute [go_sem] r_b_beqV und_boolV
theorem ty_i64v {n:Nat} {ds:List DV} (h:TyD Tryz.prog (n+1) 2 ds):∃ x:Int,ds=[.int .i64 x]∧-9223372036854775808≤x∧x<9223372036854775808:=by
  rw [TyD] at h
  simp only [Tryz.underlying2] at h
  obtain ⟨x,rfl,hx⟩:=h
  have hx':-9223372036854775808≤x∧x<9223372036854775808:=by simp [IntKind.has,IntKind.min,IntKind.max,IntKind.signed,IntKind.bits] at hx;omega
  exact ⟨x,rfl,hx'⟩
theorem ty_intv {n:Nat} {ds:List DV} (h:TyD Tryz.prog (n+1) 3 ds):∃ x:Int,ds=[.int .i64 x]∧-9223372036854775808≤x∧x<9223372036854775808:=by
  rw [TyD] at h
  simp only [Tryz.underlying3] at h
  obtain ⟨x,rfl,hx⟩:=h
  have hx':-9223372036854775808≤x∧x<9223372036854775808:=by simp [IntKind.has,IntKind.min,IntKind.max,IntKind.signed,IntKind.bits] at hx;omega
  exact ⟨x,rfl,hx'⟩
end Go.Proofs.YtfahccoobfjkeaaGreat
namespace Go.Sha
structure En where
  tx:List Nat
  ix:Nat
  v:Nat
  pl:Nat
  st:Int
  ht:Nat
  tpl:List Nat
structure Wt where
  inner:List Nat
  rcv:List Nat
  d:Int
  trig:List Nat
  out:List Nat
  rs:List Nat
  ts:List Nat
structure Bg where
  pl:Nat
  t:List Nat
  o:Option (List Nat)
def by8 (l:List Nat):Prop:=∀ x,x ∈ l→x<256
def En.ok (n:Nat) (e:En):Prop:=e.tx.length=32∧e.tpl.length=32∧e.pl<n∧e.ix<4294967296∧e.ht<4294967296∧1≤e.st∧e.st≤6∧by8 e.tpl
def Wt.ok (w:Wt):Prop:=w.inner.length=32∧by8 w.inner∧by8 w.rcv∧w.rcv.length≤1000∧(-9223372036854775808≤w.d∧w.d<9223372036854775808)∧w.trig.length=32∧by8 w.trig∧w.out.length≤40∧by8 w.out∧w.rs.length≤1000∧w.ts.length≤1000∧by8 w.rs∧by8 w.ts
section
variable (PO:Wt→List Nat→Option (List Nat)) (EN:Wt→En→List (List Nat)→Int) (W:List Wt)
def annexW (ws:List (List Nat)):List (List Nat):=if 2≤ws.length∧(ws.getLastD []).head?=some 80 then ws.dropLast else ws
def hitE (i:Ip) (e:En):Bool:=decide (e.tx=i.hash∧e.ix=i.idx∧e.st≤2)
def atW (k:Nat):Wt:=W.getD k ⟨[],[],0,[],[],[],[]⟩
def stepE (i:Ip) (h:Nat) (e:En):En:=if hitE i e then { e with st:=EN (atW W e.pl) e (annexW i.wit),ht:=h } else e
def begE (i:Ip) (e:En):Option Bg :=
  if hitE i e && decide (EN (atW W e.pl) e (annexW i.wit)=4) && decide ((annexW i.wit).length=7) && decide (((annexW i.wit).getD 3 []).length=32)
  then some ⟨e.pl,(annexW i.wit).getD 3 [],PO (atW W e.pl) ((annexW i.wit).getD 3 [])⟩ else none
def spendL (i:Ip) (E:List En):List Bg:=E.filterMap (begE PO EN W i)
def insE (h:Nat):List Ip→List En→List En
  | [],E=>E
  | i :: is,E=>insE h is (E.map (stepE EN W i h))
def insL (h:Nat):List Ip→List En→List Bg→List Bg
  | [],E,L=>L
  | i :: is,E,L=>insL h is (E.map (stepE EN W i h)) (L ++ spendL PO EN W i E)
def entV (k:Nat) (o:Nat × List Nat) (L:List Bg):Option En :=
  if o.2=(atW W k).out then some ⟨List.replicate 32 0,0,o.1,k,1,0,List.replicate 32 0⟩
  else (L.find? fun b=>decide (b.pl=k) && decide (b.o=some o.2)).map fun b=>⟨List.replicate 32 0,0,o.1,k,2,0,b.t⟩
def fstV (o:Nat × List Nat) (L:List Bg):Nat→Nat→Option En
  | 0,_=>none
  | n+1,k=>match entV W k o L with
    | some e=>some e
    | none=>fstV o L n (k+1)
def outE (name:List Nat) (h:Nat) (L:List Bg) (k:Nat) (o:Nat × List Nat):List En :=
  match fstV W o L W.length 0 with
  | some e=>[{ e with tx:=name,ix:=k,ht:=h }]
  | none=>[]
def outsE (name:List Nat) (h:Nat) (L:List Bg):Nat→List (Nat × List Nat)→List En→List En
  | _,[],E=>E
  | k,o :: os,E=>outsE name h L (k+1) os (E ++ outE W name h L k o)
def thruE (name:Tn→List Nat) (h:Nat) (first:Bool) (t:Tn) (E:List En):List En :=
  if first then outsE W (name t) h [] 0 t.outs E else outsE W (name t) h (insL PO EN W h t.ins E []) 0 t.outs (insE EN W h t.ins E)
def thrusE (name:Tn→List Nat) (h:Nat):Bool→List Tn→List En→List En
  | _,[],E=>E
  | f,t :: ts,E=>thrusE name h false ts (thruE PO EN W name h f t E)
end
end Go.Sha
namespace Go.Proofs.YtfahccoobfjkeaaGreat
open Go.Am Go.Sha
def enR (e:En):List AV:=enC e.tx (e.ix:Int) (e.v:Int) (e.pl:Int) e.st (e.ht:Int) e.tpl
def wtD (w:Wt):List DV:=cd w.inner ++ ([nb w.rcv,.int .i64 w.d] ++ (cd w.trig ++ [nb w.out,nb w.rs,nb w.ts]))
def wtC (w:Wt):List AV:=plC w.inner w.rcv w.d w.trig ++ [.d (nb w.out),.d (nb w.rs),.d (nb w.ts)]
theorem wtD_map (w:Wt):(wtD w).map AV.d=wtC w:=by simp [wtD,wtC,plC,cd_map]
def vxB (W:List Wt) (E:List En) (B:Nat→List En) (m t:Nat) (f:Nat→Nat):Nat→Blk
  | 0=>⟨108,3,[[.d (.ro 69 (W.map wtD)),.own (f 1) 0 E.length E.length,.own (f 2) 0 m t]]⟩
  | 1=>⟨28,69,E.map enR⟩
  | 2=>⟨49,1,((List.range m).map fun k=>[AV.own (f (3+k)) 0 (B k).length (B k).length]) ++ List.replicate (t - m) [.any]⟩
  | i+3=>⟨28,69,(B i).map enR⟩
theorem renL_apV (ρ:Nat→Nat):∀ l m:List AV,AV.renL ρ (l ++ m)=AV.renL ρ l ++ AV.renL ρ m
  | [],m=>by simp [AV.renL]
  | a :: l,m=>by simp [AV.renL,renL_apV ρ l m]
theorem enR_ren (ρ:Nat→Nat) (e:En):AV.renL ρ (enR e)=enR e:=by
  unfold enR enC
  rw [renL_apV,cb_ren,renL_apV,cb_ren]
  rfl
theorem rows_ren (ρ:Nat→Nat) (E:List En):renR ρ (E.map enR)=E.map enR:=by
  simp only [renR,List.map_map]
  exact List.map_congr_left fun e _=>enR_ren ρ e
theorem vxB_ren {W:List Wt} {E:List En} {B:Nat→List En} {m t:Nat} {f g ρ:Nat→Nat} (hm:m≤24) (h:∀ i,i<27→ρ (f i)=g i) (i:Nat):(vxB W E B m t f i).ren ρ=vxB W E B m t g i:=by
  match i with
  | 0=>simp [vxB,Blk.ren,renR,AV.renL,AV.ren,h 1 (by omega),h 2 (by omega)]
  | 1=>simp only [vxB,Blk.ren,rows_ren]
  | 2 =>
    simp only [vxB,Blk.ren,renR,List.map_append,List.map_map,List.map_replicate]
    congr 2
    refine List.map_congr_left fun k hk=>?_
    have:=List.mem_range.1 hk
    simp [AV.renL,AV.ren,h (3+k) (by omega)]
  | i+3=>simp only [vxB,Blk.ren,rows_ren]
theorem vxB_e (W:List Wt) (E:List En) (B:Nat→List En) (m t:Nat) (f:Nat→Nat) (i:Nat):(vxB W E B m t f i).e ≠ 0:=by
  match i with
  | 0=>simp [vxB]
  | 1=>simp [vxB]
  | 2=>simp [vxB]
  | i+3=>simp [vxB]
theorem enR_len {n:Nat} {e:En} (h:e.ok n):(enR e).length=69:=enC_len h.1 h.2.1 _ _ _ _ _
theorem enR_low (n:Nat) (e:En):∀ v,v ∈ enR e→v.low1 n:=by
  intro c hc
  unfold enR enC at hc
  rcases List.mem_append.1 hc with h | h
  · exact cb_low _ _ _ h
  · rcases List.mem_append.1 h with h | h
    · simp at h;rcases h with rfl | rfl | rfl | rfl | rfl <;> trivial
    · exact cb_low _ _ _ h
end Go.Proofs.YtfahccoobfjkeaaGreat
