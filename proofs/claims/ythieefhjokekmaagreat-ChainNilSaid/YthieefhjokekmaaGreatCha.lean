/-
  Chain: no chain, and a new one that is handed an empty block.
-/
import Derived.Test.YthieefhjokekmaaGreatBkd
namespace Go.Proofs.YthieefhjokekmaaGreat
open Go.Am Go.Sha
set_option linter.unusedSimpArgs false
set_option linter.unusedVariables false

def smallB (ts : List Tn) : Bool := decide (ts.length ≤ 8) && ts.all (within 6 6 600)
theorem within_no {ts : List Tn} {k : Nat} {t : Tn} (h : ts[k]? = some t) (hw : within 6 6 600 t = false) : smallB ts = false := by
  have : ts.all (within 6 6 600) = false := by
    rw [List.all_eq_false]
    exact ⟨t, List.mem_of_getElem? h, by simp [hw]⟩
  simp [smallB, this]
set_option maxHeartbeats 4000000 in
theorem smallB_fn (ts : List Tn) (hok : ∀ t, t ∈ ts → t.ok) : Rets Tryz.prog 47 [.d (txsD ts)] (fun r => r = .d (.bool (smallB ts))) := by
  refine fn_of_awp Tryz.func47 (by kernel_rfl) rfl Tryz.ntmps47 (rs := [.tmp 2]) rfl (Nat.le_of_ble_eq_true rfl) (by simp [AV.deep, AV.deep1]) ?_
  simp [go_sem, txsD]
  refine loop_of (fun k : Nat => ⟨[(0, .d (.ro 4 (ts.map eTd))), (3, .d (.int .i64 (k : Int)))], [], 1000⟩)
    (fun k => k ≤ 8 ∧ k ≤ ts.length ∧ ∀ t, t ∈ ts.take k → within 6 6 600 t = true) (fun k => ts.length - k) 0 ⟨by omega, by omega, by simp⟩ (by
      simp [Weak, slotOk, fv, lk, AV.low, AV.low1]) ?_
  rintro k ⟨h8, hk, hall⟩
  simp only [go_sem, Nat.reduceEqDiff, Nat.reduceAdd, Nat.reduceLT, ↓reduceIte, Nat.reduceMul]
  refine ⟨fun hh => ?_, fun hh => ?_⟩
  · obtain ⟨t, ht1, hd⟩ := drop_of (l := ts) (k := k) (by omega)
    have w3 := next_i64 (k := k) (by omega)
    by_cases hk8 : k = 8
    · have hs : smallB ts = false := by simp [smallB]; intro h; omega
      subst hk8
      simp [go_sem, resV]
      exact post_same (by simp [AV.deep, AV.deep1]) (by rw [hs])
    · have i8 : ¬ (k : Int) = 8 := by omega
      simp [go_sem, i8, ht1, eTd_map, eTd_len, eT_len, eT_take]
      refine cl_eq (small09_fn t (hok t (List.mem_of_getElem? ht1))) (one_eT t) ?_
      cases hw : within 6 6 600 t
      · simp [go_sem, resV]
        exact post_same (by simp [AV.deep, AV.deep1]) (by rw [within_no ht1 hw])
      · simp [go_sem, w3]
        refine next_of (k + 1) ⟨by omega, by omega, ?_⟩ (by omega) ?_
        · intro x hx
          rw [List.take_add_one, ht1] at hx
          simp at hx
          rcases hx with hx | rfl
          · exact hall x hx
          · exact hw
        simp [Weak, slotOk, fv, lk, AV.low, AV.low1]
  · have hkl : k = ts.length := by omega
    subst hkl
    have hs : smallB ts = true := by
      rw [List.take_length] at hall
      simp only [smallB, Bool.and_eq_true, decide_eq_true_eq, List.all_eq_true]
      exact ⟨h8, hall⟩
    simp [go_sem, resV]
    exact post_same (by simp [AV.deep, AV.deep1]) (by rw [hs])
def hd0 : Hd := ⟨0, z32, z32, 0, 0, 0⟩
def zBc : List AV := eH hd0 ++ [.nil]
theorem zBc_z : tzO Tryz.prog 52 = some zBc := by kernel_rfl
theorem zBc_len : zBc.length = 69 := by kernel_rfl
theorem zBc_get : zBc[68]? = some .nil := by kernel_rfl
theorem zBc_g (h : 68 < zBc.length) : zBc[68] = .nil := (List.getElem?_eq_some_iff.1 zBc_get).2
theorem zBc_take : zBc.take 69 = zBc := List.take_of_length_le (by rw [zBc_len]; omega)
theorem zBc_low (n : Nat) : ∀ v, v ∈ zBc → v.low1 n := by
  intro v hv
  unfold zBc at hv
  rcases List.mem_append.1 hv with hv | hv
  · exact eH_low n hd0 v hv
  · simp at hv; subst hv; trivial
theorem zBc_ren (ρ : Nat → Nat) : AV.renL ρ zBc = zBc := rfl
set_option maxRecDepth 100000
theorem d_inj : ∀ {a b : List DV}, a.map AV.d = b.map AV.d → a = b
  | [], [], _ => rfl
  | [], _ :: _, h => by simp at h
  | _ :: _, [], h => by simp at h
  | x :: a, y :: b, h => by
    simp only [List.map_cons, List.cons.injEq, AV.d.injEq] at h
    rw [h.1, d_inj h.2]
theorem ty_txs {n : Nat} {ds : List DV} (h : TyD Tryz.prog (n + 7) 39 ds) : ∃ ts : List Tn, ds = [.ro 4 (ts.map eTd)] ∧ ∀ t, t ∈ ts → t.ok ∧ Byt t := by
  rw [TyD] at h
  simp only [Tryz.underlying39] at h
  obtain ⟨es, rfl, hl, hr⟩ := h
  obtain ⟨ts, rfl, hts⟩ := map_of (enc := eTd) (R := fun t => t.ok ∧ Byt t) (es := es) (fun r hr' => by
    obtain ⟨h1, h2⟩ := hr r hr'
    obtain ⟨t, e, q1, q2, q3⟩ := ty_tx h1
    exact ⟨t, d_inj (by rw [e]; rfl), q1, q2, q3⟩)
  exact ⟨ts, by rw [show Tryz.prog.cellsOf 26 = 4 by kernel_rfl], hts⟩
attribute [go_sem] zBc_z
theorem zBc_deep : (AV.agg zBc).deep := by
  intro v hv
  unfold zBc at hv
  rcases List.mem_append.1 hv with hv | hv
  · exact eH_deep hd0 v hv
  · simp at hv; subst hv; trivial
theorem one_zBc : ∀ v, v ∈ [AV.agg zBc] → v.deep := by intro v hv; simp at hv; subst hv; exact zBc_deep
theorem isPtrC : isPtr Tryz.prog 53 = true := by kernel_rfl
theorem isPtrW : isPtr Tryz.prog 31 = true := by kernel_rfl
attribute [go_sem] isPtrC isPtrW
def cz : List AV := cb z32
theorem cz_deep : (AV.agg cz).deep := fun v hv => cb_deep _ _ hv
theorem cz_len : cz.length = 32 := by kernel_rfl
theorem cz_take : cz.take 32 = cz := List.take_of_length_le (by rw [cz_len]; omega)
theorem cz_drop : cz.drop 32 = [] := List.drop_eq_nil_of_le (by rw [cz_len]; omega)
theorem cz_z : tzO Tryz.prog 27 = some cz := by kernel_rfl
theorem cb_is : cb z32 = cz := rfl
def z4W : List AV := [.d (.int .u64 0), .d (.int .u64 0), .d (.int .u64 0), .d (.int .u64 0)]
theorem z4W_len : z4W.length = 4 := rfl
theorem z4W_take : z4W.take 4 = z4W := rfl
theorem z4W_drop : z4W.drop 4 = [] := rfl
theorem z4W_deep : (AV.agg z4W).deep := by intro v hv; simp [z4W] at hv; subst hv; trivial
theorem tipN_fn : Rets Tryz.prog 20 [.d .nilp] (fun r => r = .tup [.agg cz, .d (.int .u32 0)]) := by
  refine fn_of_awp Tryz.func20 (by kernel_rfl) rfl Tryz.ntmps20 (rs := [.cell 2 27, .tmp 3]) rfl (Nat.le_of_ble_eq_true rfl) (by simp [AV.deep, AV.deep1]) ?_
  simp [go_sem, resV, cb_is, cz_len, cz_take, cz_drop]
  exact post_same (by
    intro c hc
    simp at hc
    rcases hc with rfl | rfl
    · exact .inr ⟨_, rfl, cz_deep⟩
    · exact .inl trivial) rfl
theorem getN_fn (h : List Nat) (hl : h.length = 32) : Rets Tryz.prog 21 [.d .nilp, .agg (cb h)] (fun r => r = .tup [.agg zBc, .d (.int .u32 0), .d (.bool false)]) := by
  refine fn_of_awp Tryz.func21 (by kernel_rfl) rfl Tryz.ntmps21 (rs := [.cell 4 52, .tmp 5, .tmp 6]) rfl (Nat.le_of_ble_eq_true rfl) (by
    intro v hv
    simp at hv
    rcases hv with rfl | rfl
    · trivial
    · exact cb_deep _) ?_
  simp [go_sem, resV, cb_len, hl, zBc_len, zBc_take, List.drop_eq_nil_of_le (show zBc.length ≤ 69 by rw [zBc_len]; omega)]
  exact post_same (by
    intro c hc
    simp at hc
    rcases hc with rfl | rfl | rfl
    · exact .inr ⟨_, rfl, zBc_deep⟩
    · exact .inl trivial
    · exact .inl trivial) rfl
theorem atN_fn : Rets Tryz.prog 22 [.d .nilp, .d (.int .u32 0)] (fun r => r = .tup [.agg cz, .d (.bool false)]) := by
  refine fn_of_awp Tryz.func22 (by kernel_rfl) rfl Tryz.ntmps22 (rs := [.cell 4 27, .tmp 5]) rfl (Nat.le_of_ble_eq_true rfl) (by simp [AV.deep, AV.deep1]) ?_
  simp [go_sem, resV, cb_is, cz_len, cz_take, cz_drop]
  exact post_same (by
    intro c hc
    simp at hc
    rcases hc with rfl | rfl
    · exact .inr ⟨_, rfl, cz_deep⟩
    · exact .inl trivial) rfl
theorem nextN_fn : Rets Tryz.prog 23 [.d .nilp] (fun r => r = .tup [.d (.int .u32 0), .d (.int .u32 0), .d (.int .u32 0)]) := by
  refine fn_of_awp Tryz.func23 (by kernel_rfl) rfl Tryz.ntmps23 (rs := [.tmp 2, .tmp 3, .tmp 4]) rfl (Nat.le_of_ble_eq_true rfl) (by simp [AV.deep, AV.deep1]) ?_
  simp [go_sem, resV]
  exact post_same (by simp [AV.deep, AV.deep1]) rfl
theorem turnN_fn (h : List Nat) (hl : h.length = 32) : Rets Tryz.prog 24 [.d .nilp, .agg (cb h)] (fun r => r = .tup [.nil, .nil, .d (.bool false)]) := by
  refine fn_of_awp Tryz.func24 (by kernel_rfl) rfl Tryz.ntmps24 (rs := [.tmp 4, .tmp 5, .tmp 6]) rfl (Nat.le_of_ble_eq_true rfl) (by
    intro v hv
    simp at hv
    rcases hv with rfl | rfl
    · trivial
    · exact cb_deep _) ?_
  simp [go_sem, resV, cb_len, hl]
  exact post_same (by simp [AV.deep, AV.deep1]) rfl
theorem acceptN_fn (g : Hd) (ts : List Tn) (hk : g.ok) : Rets Tryz.prog 25 [.d .nilp, .agg (eB g ts), .d (.int .u32 1)] (fun r => r = .d (.int .i64 1)) := by
  refine fn_of_awp Tryz.func25 (by kernel_rfl) rfl Tryz.ntmps25 (rs := [.tmp 6]) rfl (Nat.le_of_ble_eq_true rfl) (by
    intro v hv
    simp at hv
    rcases hv with rfl | rfl | rfl
    · trivial
    · exact eB_deep _ _
    · trivial) ?_
  simp [go_sem, resV, eB_len hk]
  exact post_same (by simp [AV.deep, AV.deep1]) rfl
theorem lenN_fn : Rets Tryz.prog 26 [.d .nilp] (fun r => r = .d (.int .i64 0)) := by
  refine fn_of_awp Tryz.func26 (by kernel_rfl) rfl Tryz.ntmps26 (rs := [.tmp 2]) rfl (Nat.le_of_ble_eq_true rfl) (by simp [AV.deep, AV.deep1]) ?_
  simp [go_sem, resV]
  exact post_same (by simp [AV.deep, AV.deep1]) rfl
theorem waitingN_fn : Rets Tryz.prog 27 [.d .nilp] (fun r => r = .d (.int .i64 0)) := by
  refine fn_of_awp Tryz.func27 (by kernel_rfl) rfl Tryz.ntmps27 (rs := [.tmp 2]) rfl (Nat.le_of_ble_eq_true rfl) (by simp [AV.deep, AV.deep1]) ?_
  simp [go_sem, resV]
  exact post_same (by simp [AV.deep, AV.deep1]) rfl
theorem coinsN_fn : Rets Tryz.prog 28 [.d .nilp] (fun r => r = .d .nilp) := by
  refine fn_of_awp Tryz.func28 (by kernel_rfl) rfl Tryz.ntmps28 (rs := [.tmp 2]) rfl (Nat.le_of_ble_eq_true rfl) (by simp [AV.deep, AV.deep1]) ?_
  simp [go_sem, resV]
  exact post_same (by simp [AV.deep, AV.deep1]) rfl
theorem workN_fn : Rets Tryz.prog 29 [.d .nilp] (fun r => r = .agg z4W) := by
  refine fn_of_awp Tryz.func29 (by kernel_rfl) rfl Tryz.ntmps29 (rs := [.cell 2 68]) rfl (Nat.le_of_ble_eq_true rfl) (by simp [AV.deep, AV.deep1]) ?_
  simp [go_sem, resV, z4W_len, z4W_take, z4W_drop]
  exact post_same z4W_deep rfl
theorem blocksN_fn : Rets Tryz.prog 30 [.d .nilp] (fun r => r = .d (.ro 69 [])) := by
  refine fn_of_awp Tryz.func30 (by kernel_rfl) rfl Tryz.ntmps30 (rs := [.tmp 2]) rfl (Nat.le_of_ble_eq_true rfl) (by simp [AV.deep, AV.deep1]) ?_
  simp [go_sem, resV]
  exact post_one (snap1_d (.nil 69)) (by simp [AV.deep, AV.deep1]) rfl
theorem copyN_fn : Rets Tryz.prog 31 [.d .nilp] (fun r => r = .d .nilp) := by
  refine fn_of_awp Tryz.func31 (by kernel_rfl) rfl Tryz.ntmps31 (rs := [.tmp 2]) rfl (Nat.le_of_ble_eq_true rfl) (by simp [AV.deep, AV.deep1]) ?_
  simp [go_sem, resV]
  exact post_same (by simp [AV.deep, AV.deep1]) rfl
end Go.Proofs.YthieefhjokekmaaGreat
