/-
  Vaults: no index, and an index of one empty block.
-/
import Derived.Test.YtpnbpojpcbnejaaGreatVry
namespace Go.Sha
/-- A header. -/
structure Hd where
  ver : Nat
  prev : List Nat
  root : List Nat
  time : Nat
  bits : Nat
  nonce : Nat
def Hd.ok (h : Hd) : Prop := h.ver < 4294967296 ∧ h.prev.length = 32 ∧ h.root.length = 32 ∧ h.time < 4294967296 ∧ h.bits < 4294967296 ∧ h.nonce < 4294967296 ∧ (∀ x, x ∈ h.prev → x < 256) ∧ ∀ x, x ∈ h.root → x < 256
end Go.Sha
namespace Go.Proofs.YtpnbpojpcbnejaaGreat
open Go.Am Go.Sha
set_option linter.unusedSimpArgs false
set_option linter.unusedVariables false

def eH (h : Hd) : List AV := .d (.int .u32 (h.ver : Int)) :: (cb h.prev ++ (cb h.root ++ [.d (.int .u32 (h.time : Int)), .d (.int .u32 (h.bits : Int)), .d (.int .u32 (h.nonce : Int))]))
theorem eH_len {h : Hd} (hp : h.prev.length = 32) (hr : h.root.length = 32) : (eH h).length = 68 := by simp [eH, cb_len, hp, hr]
theorem eH_deep (h : Hd) : (AV.agg (eH h)).deep := by
  intro c hc
  simp only [eH, List.mem_cons, List.mem_append, List.mem_nil_iff, or_false] at hc
  rcases hc with rfl | hc | hc | rfl | rfl | rfl
  · trivial
  · exact cb_deep _ _ hc
  · exact cb_deep _ _ hc
  · trivial
  · trivial
  · trivial
theorem eH_low (n : Nat) (h : Hd) : ∀ v, v ∈ eH h → v.low1 n := by
  intro c hc
  simp only [eH, List.mem_cons, List.mem_append, List.mem_nil_iff, or_false] at hc
  rcases hc with rfl | hc | hc | rfl | rfl | rfl
  · trivial
  · exact cb_low _ _ _ hc
  · exact cb_low _ _ _ hc
  · trivial
  · trivial
  · trivial
def Byt (t : Tn) : Prop := (∀ o, o ∈ t.outs → bytes o.2) ∧ ∀ i, i ∈ t.ins → bytes i.hash
theorem one_eT (t : Tn) : ∀ v, v ∈ [AV.agg (eT t)] → v.deep := by simp [AV.deep, AV.deep1, eT]
def eTd (t : Tn) : List DV := [.int .u32 (t.ver : Int), .ro 35 (t.ins.map eI), .ro 2 (t.outs.map eO), .int .u32 (t.lock : Int)]
theorem eTd_map (t : Tn) : (eTd t).map AV.d = eT t := rfl
theorem eTd_len (t : Tn) : (eTd t).length = 4 := rfl
theorem eT_len (t : Tn) : (eT t).length = 4 := rfl
theorem eT_take (t : Tn) : (eT t).take 4 = eT t := rfl
theorem eT_low (n : Nat) (t : Tn) : ∀ v, v ∈ eT t → v.low1 n := by
  intro v hv
  simp [eT] at hv
  rcases hv with rfl | rfl | rfl | rfl <;> trivial
theorem ztx : tzO Tryz.prog 58 = some [.d (.int .u32 0), .nil, .nil, .d (.int .u32 0)] := by kernel_rfl
def txsD (ts : List Tn) : DV := .ro 4 (ts.map eTd)
def eB (h : Hd) (ts : List Tn) : List AV := eH h ++ [.d (.ro 4 (ts.map eTd))]
theorem eB_take {h : Hd} (hk : h.ok) (ts : List Tn) : (eB h ts).take 68 = eH h := by
  unfold eB
  rw [List.take_append_of_le_length (by rw [eH_len hk.2.1 hk.2.2.1]; omega), List.take_of_length_le (by rw [eH_len hk.2.1 hk.2.2.1]; omega)]
theorem eB_drop {h : Hd} (hk : h.ok) (ts : List Tn) : (eB h ts).drop 68 = [.d (.ro 4 (ts.map eTd))] := by
  unfold eB
  rw [List.drop_append_of_le_length (by rw [eH_len hk.2.1 hk.2.2.1]; omega), List.drop_eq_nil_of_le (by rw [eH_len hk.2.1 hk.2.2.1]; omega)]
  rfl
theorem eB_get {h : Hd} (hk : h.ok) (ts : List Tn) : (eB h ts)[68]? = some (.d (.ro 4 (ts.map eTd))) := by
  have := List.getElem?_drop (xs := eB h ts) (i := 68) (j := 0)
  rw [eB_drop hk] at this
  exact this.symm
theorem eB_len {h : Hd} (hk : h.ok) (ts : List Tn) : (eB h ts).length = 69 := by
  unfold eB
  rw [List.length_append, eH_len hk.2.1 hk.2.2.1]; rfl
theorem eB_g {h : Hd} (hk : h.ok) (ts : List Tn) (hh : 68 < (eB h ts).length) : (eB h ts)[68] = .d (.ro 4 (ts.map eTd)) := (List.getElem?_eq_some_iff.1 (eB_get hk ts)).2
theorem eB_all {h : Hd} (hk : h.ok) (ts : List Tn) : (eB h ts).take 69 = eB h ts := List.take_of_length_le (by rw [eB_len hk]; omega)
theorem eB_low (n : Nat) (h : Hd) (ts : List Tn) : ∀ v, v ∈ eB h ts → v.low1 n := by
  intro v hv
  unfold eB at hv
  rcases List.mem_append.1 hv with hv | hv
  · exact eH_low n h v hv
  · simp at hv; subst hv; trivial
theorem eB_deep (h : Hd) (ts : List Tn) : (AV.agg (eB h ts)).deep := by
  intro v hv
  unfold eB at hv
  rcases List.mem_append.1 hv with hv | hv
  · exact eH_deep h v hv
  · simp at hv; subst hv; trivial
theorem one_eB (h : Hd) (ts : List Tn) : ∀ v, v ∈ [AV.agg (eB h ts)] → v.deep := by intro v hv; simp at hv; subst hv; exact eB_deep h ts
def smallB (ts : List Tn) : Bool := decide (ts.length ≤ 8) && ts.all (within 6 6 600)
theorem within_no {ts : List Tn} {k : Nat} {t : Tn} (h : ts[k]? = some t) (hw : within 6 6 600 t = false) : smallB ts = false := by
  have : ts.all (within 6 6 600) = false := by
    rw [List.all_eq_false]
    exact ⟨t, List.mem_of_getElem? h, by simp [hw]⟩
  simp [smallB, this]
set_option maxHeartbeats 4000000 in
theorem smallB_fn (ts : List Tn) (hok : ∀ t, t ∈ ts → t.ok) : Rets Tryz.prog 12 [.d (txsD ts)] (fun r => r = .d (.bool (smallB ts))) := by
  refine fn_of_awp Tryz.func12 (by kernel_rfl) rfl Tryz.ntmps12 (rs := [.tmp 2]) rfl (Nat.le_of_ble_eq_true rfl) (by simp [AV.deep, AV.deep1]) ?_
  simp [go_sem, txsD]
  refine loop_of (fun k : Nat => ⟨[(0, .d (.ro 4 (ts.map eTd))), (3, .d (.int .i64 (k : Int)))], [], 1000⟩)
    (fun k => k ≤ 8 ∧ k ≤ ts.length ∧ ∀ t, t ∈ ts.take k → within 6 6 600 t = true) (fun k => ts.length - k) 0 ⟨by omega, by omega, by simp⟩ (by
      simp [Weak, slotOk, fv, lk, AV.low, AV.low1]) ?_
  rintro k ⟨h8, hk, hall⟩
  simp only [go_sem, Nat.reduceEqDiff, Nat.reduceAdd, Nat.reduceLT, ↓reduceIte, Nat.reduceMul]
  refine ⟨fun hh => ?_, fun hh => ?_⟩
  · obtain ⟨t, ht1, hd⟩ := drop_of (l := ts) (k := k) (by omega)
    have w3 := next_i64 (k := k) (by omega)
    by_cases hk8 : k = 8
    · have hs : smallB ts = false := by simp [smallB]; intro h; omega
      subst hk8
      simp [go_sem, resV]
      exact post_same (by simp [AV.deep, AV.deep1]) (by rw [hs])
    · have i8 : ¬ (k : Int) = 8 := by omega
      simp [go_sem, i8, ht1, eTd_map, eTd_len, eT_len, eT_take]
      refine cl_eq (small09_fn t (hok t (List.mem_of_getElem? ht1))) (one_eT t) ?_
      cases hw : within 6 6 600 t
      · simp [go_sem, resV]
        exact post_same (by simp [AV.deep, AV.deep1]) (by rw [within_no ht1 hw])
      · simp [go_sem, w3]
        refine next_of (k + 1) ⟨by omega, by omega, ?_⟩ (by omega) ?_
        · intro x hx
          rw [List.take_add_one, ht1] at hx
          simp at hx
          rcases hx with hx | rfl
          · exact hall x hx
          · exact hw
        simp [Weak, slotOk, fv, lk, AV.low, AV.low1]
  · have hkl : k = ts.length := by omega
    subst hkl
    have hs : smallB ts = true := by
      rw [List.take_length] at hall
      simp only [smallB, Bool.and_eq_true, decide_eq_true_eq, List.all_eq_true]
      exact ⟨h8, hall⟩
    simp [go_sem, resV]
    exact post_same (by simp [AV.deep, AV.deep1]) (by rw [hs])
def hd0 : Hd := ⟨0, z32, z32, 0, 0, 0⟩
def zBc : List AV := eH hd0 ++ [.nil]
theorem zBc_z : tzO Tryz.prog 42 = some zBc := by kernel_rfl
attribute [go_sem] zBc_z
theorem zBc_len : zBc.length = 69 := by kernel_rfl
theorem zBc_get : zBc[68]? = some .nil := by kernel_rfl
theorem zBc_g (h : 68 < zBc.length) : zBc[68] = .nil := (List.getElem?_eq_some_iff.1 zBc_get).2
theorem zBc_take : zBc.take 69 = zBc := List.take_of_length_le (by rw [zBc_len]; omega)
theorem zBc_low (n : Nat) : ∀ v, v ∈ zBc → v.low1 n := by
  intro v hv
  unfold zBc at hv
  rcases List.mem_append.1 hv with hv | hv
  · exact eH_low n hd0 v hv
  · simp at hv; subst hv; trivial
def zEc : List AV := cb z32 ++ [.d (.int .u32 0), .d (.int .u64 0), .d (.int .i64 0), .d (.int .i64 0), .d (.int .u32 0)] ++ cb z32
theorem zEc_z : tzO Tryz.prog 28 = some zEc := by kernel_rfl
attribute [go_sem] zEc_z
theorem zEc_len : zEc.length = 69 := by kernel_rfl
theorem zEc_take : zEc.take 69 = zEc := List.take_of_length_le (by rw [zEc_len]; omega)
theorem zEc_drop : zEc.drop 69 = [] := List.drop_eq_nil_of_le (by rw [zEc_len]; omega)
theorem zEc_deep : (AV.agg zEc).deep := by
  intro v hv
  unfold zEc at hv
  rcases List.mem_append.1 hv with hv | hv
  · rcases List.mem_append.1 hv with hv | hv
    · exact cb_deep _ _ hv
    · simp at hv
      rcases hv with rfl | rfl | rfl | rfl | rfl <;> trivial
  · exact cb_deep _ _ hv

theorem isPtrX : isPtr Tryz.prog 45 = true := by kernel_rfl
attribute [go_sem] isPtrX
/-- Without an index. -/
theorem connectN_fn (h : Hd) (ts : List Tn) (hk : h.ok) : Rets Tryz.prog 15 [.d .nilp, .agg (eB h ts), .d (.int .u32 1)] (fun r => r = .tup []) := by
  refine fn_of_awp Tryz.func15 (by kernel_rfl) rfl Tryz.ntmps15 (rs := []) rfl (Nat.le_of_ble_eq_true rfl) (by
    intro v hv
    simp at hv
    rcases hv with rfl | rfl | rfl
    · trivial
    · exact eB_deep _ _
    · trivial) ?_
  simp [go_sem, eB_len hk, resV]
  exact post_same (by simp [AV.deep]) rfl
def eRf (h : List Nat) (x : Int) : List AV := cb h ++ [.d (.int .u32 x)]
theorem eRf_deep (h : List Nat) (x : Int) : (AV.agg (eRf h x)).deep := by
  intro v hv
  unfold eRf at hv
  rcases List.mem_append.1 hv with hv | hv
  · exact cb_deep _ _ hv
  · simp at hv; subst hv; trivial
theorem eRf_len {h : List Nat} (hl : h.length = 32) (x : Int) : (eRf h x).length = 33 := by simp [eRf, cb_len, hl]
theorem getN_fn (h : List Nat) (x : Int) (hl : h.length = 32) : Rets Tryz.prog 23 [.d .nilp, .agg (eRf h x)] (fun r => r = .tup [.agg zEc, .d (.bool false)]) := by
  refine fn_of_awp Tryz.func23 (by kernel_rfl) rfl Tryz.ntmps23 (rs := [.cell 4 28, .cell 5 4]) rfl (Nat.le_of_ble_eq_true rfl) (by
    intro v hv
    simp at hv
    rcases hv with rfl | rfl
    · trivial
    · exact eRf_deep _ _) ?_
  simp [go_sem, eRf_len hl, zEc_len, zEc_take, zEc_drop, resV]
  exact post_same (by
    intro c hc
    simp at hc
    rcases hc with rfl | rfl
    · exact .inr ⟨_, rfl, zEc_deep⟩
    · exact .inl trivial) rfl
theorem sumN_fn : Rets Tryz.prog 32 [.d .nilp, .d (.int .i64 0), .d (.int .i64 1)] (fun r => r = .tup [.d (.int .u64 0), .d (.int .i64 0)]) := by
  refine fn_of_awp Tryz.func32 (by kernel_rfl) rfl Tryz.ntmps32 (rs := [.tmp 6, .tmp 7]) rfl (Nat.le_of_ble_eq_true rfl) (by simp [AV.deep, AV.deep1]) ?_
  simp [go_sem, resV]
  exact post_same (by simp [AV.deep, AV.deep1]) rfl
theorem disN_fn : Rets Tryz.prog 16 [.d .nilp] (fun r => r = .d (.bool false)) := by
  refine fn_of_awp Tryz.func16 (by kernel_rfl) rfl Tryz.ntmps16 (rs := [.tmp 2]) rfl (Nat.le_of_ble_eq_true rfl) (by simp [AV.deep, AV.deep1]) ?_
  simp [go_sem, resV]
  exact post_same (by simp [AV.deep, AV.deep1]) rfl
theorem lenN_fn : Rets Tryz.prog 14 [.d .nilp] (fun r => r = .d (.int .i64 0)) := by
  refine fn_of_awp Tryz.func14 (by kernel_rfl) rfl Tryz.ntmps14 (rs := [.tmp 2]) rfl (Nat.le_of_ble_eq_true rfl) (by simp [AV.deep, AV.deep1]) ?_
  simp [go_sem, resV]
  exact post_same (by simp [AV.deep, AV.deep1]) rfl
theorem entriesN_fn : Rets Tryz.prog 13 [.d .nilp] (fun r => r = .d (.ro 69 [])) := by
  refine fn_of_awp Tryz.func13 (by kernel_rfl) rfl Tryz.ntmps13 (rs := [.tmp 2]) rfl (Nat.le_of_ble_eq_true rfl) (by simp [AV.deep, AV.deep1]) ?_
  simp [go_sem, resV]
  exact post_one (snap1_d (.nil 69)) (by simp [AV.deep, AV.deep1]) rfl

/-- An index of one empty block. -/
theorem clone0_fn : Rets Tryz.prog 38 [.d (.ro 69 [])] (fun r => r = .d (.ro 69 [])) := by
  refine fn_of_awp Tryz.func38 (by kernel_rfl) rfl Tryz.ntmps38 (rs := [.tmp 2]) rfl (Nat.le_of_ble_eq_true rfl) (by simp [AV.deep, AV.deep1]) ?_
  simp [go_sem, resV]
  refine ⟨?_, post_one (snap1_d (.nil 69)) (by simp [AV.deep, AV.deep1]) rfl⟩
  exact post_one (snap1_d (snap_row (es := []) (e := 69) rfl trivial rfl (by simp))) (by simp [AV.deep, AV.deep1]) rfl
theorem newV_fn : RetsE Tryz.prog 19 0 [] [.nil] (fun r hp' => r = .tup [.ptr 193 0 0 1, .d (.int .i64 0)] ∧ lk 193 hp' = some ⟨108, 3, [[.nil, .nil, .nil]]⟩) := by
  refine fnE_of_awp Tryz.func19 (by kernel_rfl) rfl Tryz.ntmps19 (rs := [.tmp 2, .tmp 3]) rfl (Nat.le_of_ble_eq_true rfl) (by decide) ?_
  simp [go_sem]
  refine loop_of (fun _ : Unit => ⟨[(4, .ptr 193 0 0 1), (15, .d (.int .i64 0)), (16, .d (.int .i64 0))], [(193, ⟨108, 3, [[.nil, .nil, .nil]]⟩)], 1000⟩)
    (fun _ => True) (fun _ => 0) () trivial (by
      simp [Weak, slotOk, fv, lk, AV.low, AV.low1]) ?_
  intro _ _
  simp [go_sem, resV, lk]
def ixB (e b : AV) : Blk := ⟨108, 3, [[.nil, e, b]]⟩
set_option maxRecDepth 20000 in
theorem connectX_fn : RetsE Tryz.prog 15 1 [(0, ⟨108, 3, [[.nil, .nil, .nil]]⟩)] [.ptr 0 0 0 1, .agg zBc, .d (.int .u32 1)]
    (fun r hp' => r = .tup [] ∧ lk 0 hp' = some ⟨108, 3, [[.nil, .nil, .own 450 0 1 1]]⟩ ∧ lk 450 hp' = some ⟨49, 1, [[.d (.ro 69 [])]]⟩) := by
  refine fnE_of_awp Tryz.func15 (by kernel_rfl) rfl Tryz.ntmps15 (rs := []) rfl (Nat.le_of_ble_eq_true rfl) (by decide) ?_
  simp [go_sem, zBc_len, zBc_take]
  apply draw2 (0 :: 1 :: 2 :: 3 :: 4 :: 5 :: 6 :: 7 :: 8 :: []) ((9, ([])) :: (10, ([])) :: (11, (12 :: 13 :: [])) :: (14, ([])) :: []) 3 (k := 15) (by kernel_rfl) (by kernel_rfl) rfl
  case hz => repeat (first | exact Its.nil | apply Its.plain rfl | apply Its.guard rfl rfl)
  case hj => repeat (first | exact Jts.nil | exact Its.nil | apply Its.plain rfl | apply Its.guard rfl rfl | apply Jts.plain rfl | apply Jts.guard rfl rfl)
  intro G hG
  simp [go_sem]
  refine cl_froz [] clone0_fn rfl (snap_cons (.one (snap1_d (.nil 69))) snap_nil) ?_
  simp [go_sem, dropH]
  refine hG _ _ ?_
  clear hG G
  simp [go_sem, zBc_len, zBc_g, zBc_get]
  refine loop_of (fun _ : Unit => ⟨[(0, .ptr 0 0 0 1), (26, .d (.int .i64 0)), (27, .d (.int .i64 0))], [(450, ⟨49, 1, [[.d (.ro 69 [])]]⟩), (0, ⟨108, 3, [[.nil, .nil, .own 450 0 1 1]]⟩)], 1000⟩)
    (fun _ => True) (fun _ => 0) () trivial (by
      simp [Weak, slotOk, fv, lk, AV.low, AV.low1]) ?_
  intro _ _
  simp [go_sem, resV, lk]
theorem lenX1_fn : RetsE Tryz.prog 14 2 [(0, ⟨108, 3, [[.nil, .nil, .own 1 0 1 1]]⟩), (1, ⟨49, 1, [[.d (.ro 69 [])]]⟩)] [.ptr 0 0 0 1] (fun r hp' => r = .d (.int .i64 1) ∧ lk 0 hp' = some ⟨108, 3, [[.nil, .nil, .own 1 0 1 1]]⟩ ∧ lk 1 hp' = some ⟨49, 1, [[.d (.ro 69 [])]]⟩) := by
  refine fnE_of_awp Tryz.func14 (by kernel_rfl) rfl Tryz.ntmps14 (rs := [.tmp 2]) rfl (Nat.le_of_ble_eq_true rfl) (by decide) ?_
  simp [go_sem, resV, lk]
theorem lenX0_fn : RetsE Tryz.prog 14 2 [(0, ⟨108, 3, [[.nil, .d (.ro 69 []), .own 1 0 0 1]]⟩), (1, ⟨49, 1, [[.d (.ro 69 [])]]⟩)] [.ptr 0 0 0 1] (fun r hp' => r = .d (.int .i64 0) ∧ lk 0 hp' = some ⟨108, 3, [[.nil, .d (.ro 69 []), .own 1 0 0 1]]⟩ ∧ lk 1 hp' = some ⟨49, 1, [[.d (.ro 69 [])]]⟩) := by
  refine fnE_of_awp Tryz.func14 (by kernel_rfl) rfl Tryz.ntmps14 (rs := [.tmp 2]) rfl (Nat.le_of_ble_eq_true rfl) (by decide) ?_
  simp [go_sem, resV, lk]
theorem disX0_fn : RetsE Tryz.prog 16 2 [(0, ⟨108, 3, [[.nil, .d (.ro 69 []), .own 1 0 0 1]]⟩), (1, ⟨49, 1, [[.d (.ro 69 [])]]⟩)] [.ptr 0 0 0 1] (fun r hp' => r = .d (.bool false) ∧ lk 0 hp' = some ⟨108, 3, [[.nil, .d (.ro 69 []), .own 1 0 0 1]]⟩ ∧ lk 1 hp' = some ⟨49, 1, [[.d (.ro 69 [])]]⟩) := by
  refine fnE_of_awp Tryz.func16 (by kernel_rfl) rfl Tryz.ntmps16 (rs := [.tmp 2]) rfl (Nat.le_of_ble_eq_true rfl) (by decide) ?_
  simp [go_sem, resV, lk]
set_option maxHeartbeats 8000000 in
theorem disX1_fn : RetsE Tryz.prog 16 2 [(0, ⟨108, 3, [[.nil, .nil, .own 1 0 1 1]]⟩), (1, ⟨49, 1, [[.d (.ro 69 [])]]⟩)] [.ptr 0 0 0 1] (fun r hp' => r = .d (.bool true) ∧ lk 0 hp' = some ⟨108, 3, [[.nil, .d (.ro 69 []), .own 1 0 0 1]]⟩ ∧ lk 1 hp' = some ⟨49, 1, [[.d (.ro 69 [])]]⟩) := by
  refine fnE_of_awp Tryz.func16 (by kernel_rfl) rfl Tryz.ntmps16 (rs := [.tmp 2]) rfl (Nat.le_of_ble_eq_true rfl) (by decide) ?_
  have w0 : IntKind.i64.wrap 0 = 0 := IntWalk.i64_in _ (by omega)
  simp [go_sem, w0]
  apply draw3 (0 :: 2 :: 3 :: 4 :: 5 :: 6 :: 7 :: 8 :: 9 :: 10 :: 11 :: 12 :: 15 :: 16 :: []) (1 :: 13 :: 14 :: 17 :: 18 :: 19 :: 20 :: []) (0 :: 2 :: 3 :: 4 :: 5 :: 6 :: 7 :: 8 :: 9 :: 10 :: 11 :: 12 :: 15 :: 16 :: []) (.alt (.step 1 ([]) true (.alt (.step 13 ([]) true (.alt (.step 14 ([]) true (.step 17 ([]) false (.step 18 ([]) false (.step 19 ([]) false (.step 20 ([]) false .done))))) (.step 17 ([]) false (.step 14 ([]) false (.step 18 ([]) false (.step 19 ([]) false (.step 20 ([]) false .done))))))) (.step 17 ([]) false (.step 13 ([]) false (.step 14 ([]) false (.step 18 ([]) false (.step 19 ([]) false (.step 20 ([]) false .done)))))))) (.alt (.step 13 ([]) true (.alt (.step 1 ([]) true (.alt (.step 14 ([]) true (.step 17 ([]) false (.step 18 ([]) false (.step 19 ([]) false (.step 20 ([]) false .done))))) (.step 17 ([]) false (.step 14 ([]) false (.step 18 ([]) false (.step 19 ([]) false (.step 20 ([]) false .done))))))) (.alt (.step 14 ([]) true (.alt (.step 1 ([]) true (.step 17 ([]) false (.step 18 ([]) false (.step 19 ([]) false (.step 20 ([]) false .done))))) (.step 17 ([]) false (.step 1 ([]) false (.step 18 ([]) false (.step 19 ([]) false (.step 20 ([]) false .done))))))) (.step 17 ([]) false (.alt (.step 1 ([]) false (.step 14 ([]) false (.step 18 ([]) false (.step 19 ([]) false (.step 20 ([]) false .done))))) (.step 14 ([]) false (.step 1 ([]) false (.step 18 ([]) false (.step 19 ([]) false (.step 20 ([]) false .done)))))))))) (.step 17 ([]) false (.alt (.step 1 ([]) false (.step 13 ([]) false (.step 14 ([]) false (.step 18 ([]) false (.step 19 ([]) false (.step 20 ([]) false .done)))))) (.step 13 ([]) false (.alt (.step 1 ([]) false (.step 14 ([]) false (.step 18 ([]) false (.step 19 ([]) false (.step 20 ([]) false .done))))) (.step 14 ([]) false (.step 1 ([]) false (.step 18 ([]) false (.step 19 ([]) false (.step 20 ([]) false .done))))))))))) ⟨[(0, .ptr 0 0 0 1)], [(0, ⟨108, 3, [[.nil, .d (.ro 69 []), .own 1 0 0 1]]⟩), (1, ⟨49, 1, [[.d (.ro 69 [])]]⟩)], 9000⟩ (k := 21) (by kernel_rfl) (by kernel_rfl) rfl
  case hz => repeat (first | exact Its.nil | apply Its.plain rfl | apply Its.guard rfl rfl)
  case hj => repeat (first | exact Tts.done | exact Its.nil | apply Tts.alt | apply Its.plain rfl | apply Its.guard rfl rfl | apply Tts.plain rfl | apply Tts.guard rfl rfl)
  case h3 =>
    intro G hG
    have hW : ∀ fr : Fr, fv 0 fr = .ptr 0 0 0 1 → G fr [(0, ⟨108, 3, [[.nil, .d (.ro 69 []), .own 1 0 0 1]]⟩), (1, ⟨49, 1, [[.d (.ro 69 [])]]⟩)] := by
      intro fr e0
      refine hG _ _ (weak_wk ?_)
      simp only [Weak, slotOk]
      refine ⟨fun p hp => ?_, fun p hp => ?_, by simp⟩
      · simp only [List.mem_cons, List.mem_nil_iff, or_false] at hp
        subst hp
        exact ⟨.inl e0.symm, by simp [AV.low, AV.low1]⟩
      · simp only [List.mem_cons, List.mem_nil_iff, or_false] at hp
        rcases hp with rfl | rfl
        · exact ⟨.inl rfl, by simp, by simp [AV.low1]⟩
        · exact ⟨.inl rfl, by simp, by simp [AV.low1]⟩
    simp (maxSteps := 3000000) [go_sem, w0, SaW]
    and_intros <;> first | exact hW _ rfl | (refine hW _ ?_; simp [fv, lk])
  case hq =>
    simp [go_sem, resV, lk]
theorem zBc_ren (ρ : Nat → Nat) : AV.renL ρ zBc = zBc := rfl
/-- An entry that is pending since height 3. -/
def eP : List AV := cb z32 ++ [.d (.int .u32 0), .d (.int .u64 0), .d (.int .i64 0), .d (.int .i64 2), .d (.int .u32 3)] ++ cb z32
theorem eP_is : List.take 36 (List.take 35 zEc ++ AV.d (DV.int IntKind.i64 2) :: List.drop 36 zEc) ++ AV.d (DV.int IntKind.u32 3) :: List.drop 37 (List.take 35 zEc ++ AV.d (DV.int IntKind.i64 2) :: List.drop 36 zEc) = eP := rfl
def zPl : List AV := cb z32 ++ [.nil, .d (.int .i64 0)] ++ cb z32
def pP : List AV := cb z32 ++ [.nil, .d (.int .i64 4)] ++ cb z32
theorem zPl_z : tzO Tryz.prog 31 = some zPl := by kernel_rfl
attribute [go_sem] zPl_z
theorem zPl_len : zPl.length = 66 := rfl
theorem pP_is : List.take 33 zPl ++ AV.d (DV.int IntKind.i64 4) :: List.drop 34 zPl = pP := rfl
theorem eP_len : eP.length = 69 := rfl
theorem pP_len : pP.length = 66 := rfl
theorem eP_g35 (h : 35 < eP.length) : eP[35] = .d (.int .i64 2) := rfl
theorem eP_g36 (h : 36 < eP.length) : eP[36] = .d (.int .u32 3) := rfl
theorem pP_g33 (h : 33 < pP.length) : pP[33] = .d (.int .i64 4) := rfl
theorem eP_o35 : eP[35]? = some (.d (.int .i64 2)) := rfl
theorem eP_o36 : eP[36]? = some (.d (.int .u32 3)) := rfl
theorem pP_o33 : pP[33]? = some (.d (.int .i64 4)) := rfl
theorem eP_ren (ρ : Nat → Nat) : AV.renL ρ eP = eP := rfl
theorem pP_ren (ρ : Nat → Nat) : AV.renL ρ pP = pP := rfl
theorem ready7_fn : RetsE Tryz.prog 9 0 [] [.agg eP, .agg pP, .d (.int .u32 7)] (fun r hp' => r = .d (.bool true)) := by
  refine fnE_of_awp Tryz.func9 (by kernel_rfl) rfl Tryz.ntmps9 (rs := [.tmp 6]) rfl (Nat.le_of_ble_eq_true rfl) (by decide) ?_
  have w7 : IntKind.i64.wrap 7 = 7 := IntWalk.i64_in _ (by omega)
  have w3 : IntKind.i64.wrap 3 = 3 := IntWalk.i64_in _ (by omega)
  have w4 : IntKind.i64.wrap 4 = 4 := IntWalk.i64_in _ (by omega)
  simp [go_sem, eP_len, pP_len, eP_g35, eP_g36, pP_g33, eP_o35, eP_o36, pP_o33, resV, w7, w3, w4]
theorem ready6_fn : RetsE Tryz.prog 9 0 [] [.agg eP, .agg pP, .d (.int .u32 6)] (fun r hp' => r = .d (.bool false)) := by
  refine fnE_of_awp Tryz.func9 (by kernel_rfl) rfl Tryz.ntmps9 (rs := [.tmp 6]) rfl (Nat.le_of_ble_eq_true rfl) (by decide) ?_
  have w7 : IntKind.i64.wrap 6 = 6 := IntWalk.i64_in _ (by omega)
  have w3 : IntKind.i64.wrap 3 = 3 := IntWalk.i64_in _ (by omega)
  have w4 : IntKind.i64.wrap 4 = 4 := IntWalk.i64_in _ (by omega)
  simp [go_sem, eP_len, pP_len, eP_g35, eP_g36, pP_g33, eP_o35, eP_o36, pP_o33, resV, w7, w3, w4]
set_option maxRecDepth 20000 in
theorem alive31_fn : Rets Tryz.prog 8 [] (fun r => r = .d (.bool true)) := by
  refine fn_of_awp Tryz.func8 (by kernel_rfl) rfl Tryz.ntmps8 (rs := [.tmp 0]) rfl (Nat.le_of_ble_eq_true rfl) (by simp [AV.deep, AV.deep1]) ?_
  simp [go_sem]
  refine cl_eff [] newV_fn rfl (by simp) (by simp) (by simp) (by simp [AV.renL, AV.ren]) ?_
  rintro r hp' ⟨rfl, h0⟩
  refine ⟨[(193, 0)], rfl, ?_⟩
  simp [go_sem, outH, outP, h0, Blk.ren, renR, AV.ren, AV.renL, rho]
  clear h0 hp'
  refine cl_eff [(0, 32)] connectX_fn rfl (by simp) (by simp [lk]) (by simp [lk, Blk.ren, renR, AV.ren, AV.renL, rho, swp]) (by simp [AV.renL, AV.ren, rho, swp, lk, zBc_ren]) ?_
  rintro r hp' ⟨rfl, h0, h1⟩
  refine ⟨[(450, 0)], rfl, ?_⟩
  simp [go_sem, outH, outP, h0, h1, Blk.ren, renR, AV.ren, AV.renL, rho, lk]
  clear h0 h1 hp'
  refine cl_eff [(0, 32), (1, 480)] lenX1_fn rfl (by simp) (by simp [lk]) (by simp [lk, Blk.ren, renR, AV.ren, AV.renL, rho, swp]) (by simp [AV.renL, AV.ren, rho, swp, lk]) ?_
  rintro r hp' ⟨rfl, h0, h1⟩
  refine ⟨[], rfl, ?_⟩
  simp [go_sem, outH, outP, h0, h1, Blk.ren, renR, AV.ren, AV.renL, rho, lk]
  clear h0 h1 hp'
  refine cl_eff [(0, 32), (1, 480)] disX1_fn rfl (by simp) (by simp [lk]) (by simp [lk, Blk.ren, renR, AV.ren, AV.renL, rho, swp]) (by simp [AV.renL, AV.ren, rho, swp, lk]) ?_
  rintro r hp' ⟨rfl, h0, h1⟩
  refine ⟨[], rfl, ?_⟩
  simp [go_sem, outH, outP, h0, h1, Blk.ren, renR, AV.ren, AV.renL, rho, lk]
  clear h0 h1 hp'
  refine cl_eff [(0, 32), (1, 480)] disX0_fn rfl (by simp) (by simp [lk]) (by simp [lk, Blk.ren, renR, AV.ren, AV.renL, rho, swp]) (by simp [AV.renL, AV.ren, rho, swp, lk]) ?_
  rintro r hp' ⟨rfl, h0, h1⟩
  refine ⟨[], rfl, ?_⟩
  simp [go_sem, outH, outP, h0, h1, Blk.ren, renR, AV.ren, AV.renL, rho, lk]
  clear h0 h1 hp'
  refine cl_eff [(0, 32), (1, 480)] lenX0_fn rfl (by simp) (by simp [lk]) (by simp [lk, Blk.ren, renR, AV.ren, AV.renL, rho, swp]) (by simp [AV.renL, AV.ren, rho, swp, lk]) ?_
  rintro r hp' ⟨rfl, h0, h1⟩
  refine ⟨[], rfl, ?_⟩
  simp [go_sem, outH, outP, h0, h1, Blk.ren, renR, AV.ren, AV.renL, rho, lk]
  clear h0 h1 hp'
  simp [go_sem, zEc_len, zPl_len, eP_is, pP_is]
  refine cl_eff [] ready7_fn rfl (by simp) (by simp) (by simp) (by simp [AV.renL, AV.ren, eP_ren, pP_ren]) ?_
  rintro r hp' rfl
  refine ⟨[], rfl, ?_⟩
  simp [go_sem, outH, outP, Blk.ren, renR, AV.ren, AV.renL, rho, lk, zEc_len, zPl_len, eP_is, pP_is]
  refine cl_eff [] ready6_fn rfl (by simp) (by simp) (by simp) (by simp [AV.renL, AV.ren, eP_ren, pP_ren]) ?_
  rintro r hp' rfl
  refine ⟨[], rfl, ?_⟩
  simp [go_sem, outH, outP, Blk.ren, renR, AV.ren, AV.renL, rho, lk, resV]
  exact post_same (by simp [AV.deep, AV.deep1]) rfl

def lE : List L1 := (List.replicate 32 (L1.i .u8 0)) ++ [.i .u32 0, .i .u64 0, .i .i64 0, .i .i64 0, .i .u32 0] ++ List.replicate 32 (L1.i .u8 0)
theorem zE_lits : litsOf zEc = some lE := rfl
theorem zE_kinds : kindsOf Tryz.prog 8 28 = some (lE.map L1.k) := by kernel_rfl
theorem egE : Tryz.prog.eqGuardType Tryz.prog.depth 28 = false := by kernel_rfl
set_option maxRecDepth 100000
theorem ty_hd {n : Nat} {ds : List DV} (h : TyD Tryz.prog (n + 4) 39 ds) : ∃ g : Hd, ds.map .d = eH g ∧ g.ok := by
  rw [TyD] at h
  simp only [Tryz.underlying39, List.map_cons, List.map_nil] at h
  obtain ⟨a, b, rfl, ha, ha2, a', b', rfl, hb, hb2, a3, b3, rfl, hc, hc2, a4, b4, rfl, hd, hd2, a5, b5, rfl, he, he2, a6, b6, rfl, hf, hf2, rfl⟩ := h
  obtain ⟨x, rfl, hx⟩ := ty_u32 ha2
  obtain ⟨p, rfl, hp1, hp2⟩ := ty_h32 hb2
  obtain ⟨r, rfl, hr1, hr2⟩ := ty_h32 hc2
  obtain ⟨t, rfl, ht⟩ := ty_u32 hd2
  obtain ⟨b, rfl, hb⟩ := ty_u32 he2
  obtain ⟨o, rfl, ho⟩ := ty_u32 hf2
  exact ⟨⟨x, p, r, t, b, o⟩, by simp [eH, cd_map], hx, hp1, hr1, ht, hb, ho, hp2, hr2⟩
theorem d_inj : ∀ {a b : List DV}, a.map AV.d = b.map AV.d → a = b
  | [], [], _ => rfl
  | [], _ :: _, h => by simp at h
  | _ :: _, [], h => by simp at h
  | x :: a, y :: b, h => by
    simp only [List.map_cons, List.cons.injEq, AV.d.injEq] at h
    rw [h.1, d_inj h.2]
theorem ty_txs {n : Nat} {ds : List DV} (h : TyD Tryz.prog (n + 7) 40 ds) : ∃ ts : List Tn, ds = [.ro 4 (ts.map eTd)] ∧ ∀ t, t ∈ ts → t.ok ∧ Byt t := by
  rw [TyD] at h
  simp only [Tryz.underlying40] at h
  obtain ⟨es, rfl, hl, hr⟩ := h
  obtain ⟨ts, rfl, hts⟩ := map_of (enc := eTd) (R := fun t => t.ok ∧ Byt t) (es := es) (fun r hr' => by
    obtain ⟨h1, h2⟩ := hr r hr'
    obtain ⟨t, e, q1, q2, q3⟩ := ty_tx h1
    exact ⟨t, d_inj (by rw [e]; rfl), q1, q2, q3⟩)
  exact ⟨ts, by rw [show Tryz.prog.cellsOf 58 = 4 by kernel_rfl], hts⟩
end Go.Proofs.YtpnbpojpcbnejaaGreat
