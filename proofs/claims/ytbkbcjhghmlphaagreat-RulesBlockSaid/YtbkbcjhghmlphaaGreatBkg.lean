/-
  The law RulesBlock.
-/
import Derived.Test.YtbkbcjhghmlphaaGreatBkf
namespace Go.Proofs.YtbkbcjhghmlphaaGreat
open Go.Am Go.Sha
set_option linter.unusedSimpArgs false
set_option linter.unusedVariables false

theorem check_04 (h : Hd) (ts : List Tn) : checkB h ts ≠ 0 → checkB h ts = 4 := by
  intro hh
  unfold checkB at hh ⊢
  split at hh
  · rename_i q; rw [if_pos q]
  · rename_i q
    rw [if_neg q]
    split at hh
    · rename_i q2; rw [if_pos q2]
    · exact absurd rfl hh
set_option maxRecDepth 20000 in
set_option maxHeartbeats 4000000 in
theorem block26R_fn (h : Hd) (ts : List Tn) (hk : h.ok) (hs : Bs ts) : Rets Tryz.prog 7 [.agg (eB h ts)] (fun r => r = .d (.int .i64 (blockV h ts))) := by
  refine fn_of_awp Tryz.func7 (by kernel_rfl) rfl Tryz.ntmps7 (rs := [.tmp 2]) rfl (Nat.le_of_ble_eq_true rfl) (one_eB h ts) ?_
  have hs0 := hs
  obtain ⟨hn, hts⟩ := hs
  generalize hF : blockV h ts = F
  unfold blockV at hF
  have hgo := show goV ts true = goV (ts.drop 0) (fst 0) from rfl
  simp [go_sem, eB_len hk, eB_all hk]
  refine cl_fn (encodeR_fn h ts hk hs0) (one_eB h ts) ?_
  rintro r ⟨b, rfl⟩
  by_cases h1 : checkB h ts = 0
  · rw [if_neg (by simpa using h1)] at hF
    by_cases h2 : ts.length = 0
    · rw [if_pos h2] at hF
      have h2' : ts = [] := List.length_eq_zero_iff.1 h2
      subst h2'
      simp [go_sem, h1, eB_len hk, eB_all hk, eB_get hk, eB_g hk, resV]
      exact post_same (by simp [AV.deep, AV.deep1]) (by rw [hF])
    · rw [if_neg h2] at hF
      have h2' : ts ≠ [] := fun e => h2 (by rw [e]; rfl)
      simp [go_sem, h1, eB_len hk, eB_all hk, eB_get hk, eB_g hk, h2']
      refine loop_of (fun k : Nat => ⟨[(1, .ptr 0 0 0 1), (5, .d (.int .i64 (k : Int)))], [(0, ⟨28, 69, [eB h ts]⟩)], 1000⟩)
        (fun k => k ≤ ts.length ∧ goV (ts.drop k) (fst k) = goV ts true) (fun k => ts.length - k) 0 ⟨by omega, rfl⟩ (by
          simp [Weak, slotOk, fv, lk, AV.low, AV.low1]
          exact eB_low _ _ _) ?_
      rintro k ⟨hk2, hg⟩
      simp [go_sem, eB_len hk, eB_get hk, eB_g hk]
      refine ⟨fun hh => ?_, fun hh => ?_⟩
      · obtain ⟨t, ht1, hd⟩ := drop_of (l := ts) (k := k) (by omega)
        obtain ⟨hsm, hby⟩ := hts t (List.mem_of_getElem? ht1)
        have w3 := next_i64 (k := k) (by omega)
        rw [hd, goV] at hg
        simp [go_sem, ht1, eTd_map, eTd_len, eT_len, eT_take, eB_len hk, eB_get hk, eB_g hk]
        refine cl_eq (checkR26_fn t (fst k) hsm) (two_eT t _) ?_
        by_cases h0 : checkV t (fst k) = 0
        · rw [if_neg (by simpa using h0), ← fst_s k] at hg
          simp [go_sem, h0, w3]
          refine next_of (k + 1) ⟨by omega, hg⟩ (by omega) ?_
          simp [Weak, slotOk, fv, lk, AV.low, AV.low1]
          exact eB_low _ _ _
        · rw [if_pos h0] at hg
          rw [← hg, if_pos h0] at hF
          simp [go_sem, h0, resV]
          exact post_same (by simp [AV.deep, AV.deep1]) (by rw [hF])
      · have hkl : k = ts.length := by omega
        subst hkl
        rw [List.drop_length] at hg
        rw [← hg, if_neg (by simp [goV])] at hF
        simp [go_sem, eB_len hk, eB_get hk, eB_g hk]
        refine cl_eq (rootBkR_fn ts hs0) (by simp [AV.deep, AV.deep1]) ?_
        have hrl := rootL_len (ts.map nameT).length (ts.map nameT) false (by omega) (names_ws ts)
        generalize rootL (ts.map nameT) false = R at *
        have hhr := hk.2.2.1
        obtain ⟨Rh, Rb⟩ := R
        simp only at hrl hF
        by_cases hR : Rh = h.root
        · cases Rb
          · rw [if_neg (by simp [hR])] at hF
            simp [go_sem, cb_len, hrl, cb_take hrl, z32_drop, eB_len hk, eB_root hk, eB_get hk, eB_g hk, ints_cb, natmap_inj, hhr, hR, cb_take hhr]
            refine cl_eq (weightBkR_fn ts hs0) (by simp [AV.deep, AV.deep1]) ?_
            by_cases hw : 120000 < sumW ts
            · have iw : (120000 : Int) < (sumW ts : Int) := by omega
              rw [if_pos hw] at hF
              simp [go_sem, iw, resV]
              exact post_same (by simp [AV.deep, AV.deep1]) (by rw [hF])
            · have iw : ¬ (120000 : Int) < (sumW ts : Int) := by omega
              rw [if_neg hw] at hF
              simp [go_sem, iw, resV]
              exact post_same (by simp [AV.deep, AV.deep1]) (by rw [hF])
          · rw [if_pos (by simp)] at hF
            simp [go_sem, cb_len, hrl, cb_take hrl, z32_drop, eB_len hk, eB_root hk, eB_get hk, eB_g hk, ints_cb, natmap_inj, hhr, hR, cb_take hhr, resV]
            exact post_same (by simp [AV.deep, AV.deep1]) (by rw [hF])
        · rw [if_pos (.inl hR)] at hF
          simp [go_sem, cb_len, hrl, cb_take hrl, z32_drop, eB_len hk, eB_root hk, eB_get hk, eB_g hk, ints_cb, natmap_inj, hhr, hR, resV]
          exact post_same (by simp [AV.deep, AV.deep1]) (by rw [hF])
  · rw [if_pos h1] at hF
    have e4 := check_04 h ts h1
    rw [e4]
    simp [go_sem, resV]
    exact post_same (by simp [AV.deep, AV.deep1]) (by rw [hF])

def smallB (ts : List Tn) : Bool := decide (ts.length ≤ 8) && ts.all (within 6 6 600)
theorem within_no {ts : List Tn} {k : Nat} {t : Tn} (h : ts[k]? = some t) (hw : within 6 6 600 t = false) : smallB ts = false := by
  have : ts.all (within 6 6 600) = false := by
    rw [List.all_eq_false]
    exact ⟨t, List.mem_of_getElem? h, by simp [hw]⟩
  simp [smallB, this]
set_option maxHeartbeats 4000000 in
theorem smallB_fn (ts : List Tn) (hok : ∀ t, t ∈ ts → t.ok) : Rets Tryz.prog 4 [.d (txsD ts)] (fun r => r = .d (.bool (smallB ts))) := by
  refine fn_of_awp Tryz.func4 (by kernel_rfl) rfl Tryz.ntmps4 (rs := [.tmp 2]) rfl (Nat.le_of_ble_eq_true rfl) (by simp [AV.deep, AV.deep1]) ?_
  simp [go_sem, txsD]
  refine loop_of (fun k : Nat => ⟨[(0, .d (.ro 4 (ts.map eTd))), (3, .d (.int .i64 (k : Int)))], [], 1000⟩)
    (fun k => k ≤ 8 ∧ k ≤ ts.length ∧ ∀ t, t ∈ ts.take k → within 6 6 600 t = true) (fun k => ts.length - k) 0 ⟨by omega, by omega, by simp⟩ (by
      simp [Weak, slotOk, fv, lk, AV.low, AV.low1]) ?_
  rintro k ⟨h8, hk, hall⟩
  simp only [go_sem, Nat.reduceEqDiff, Nat.reduceAdd, Nat.reduceLT, ↓reduceIte, Nat.reduceMul]
  refine ⟨fun hh => ?_, fun hh => ?_⟩
  · obtain ⟨t, ht1, hd⟩ := drop_of (l := ts) (k := k) (by omega)
    have w3 := next_i64 (k := k) (by omega)
    by_cases hk8 : k = 8
    · have hs : smallB ts = false := by simp [smallB]; intro h; omega
      subst hk8
      simp [go_sem, resV]
      exact post_same (by simp [AV.deep, AV.deep1]) (by rw [hs])
    · have i8 : ¬ (k : Int) = 8 := by omega
      simp [go_sem, i8, ht1, eTd_map, eTd_len, eT_len, eT_take]
      refine cl_eq (small09_fn t (hok t (List.mem_of_getElem? ht1))) (one_eT t) ?_
      cases hw : within 6 6 600 t
      · simp [go_sem, resV]
        exact post_same (by simp [AV.deep, AV.deep1]) (by rw [within_no ht1 hw])
      · simp [go_sem, w3]
        refine next_of (k + 1) ⟨by omega, by omega, ?_⟩ (by omega) ?_
        · intro x hx
          rw [List.take_add_one, ht1] at hx
          simp at hx
          rcases hx with hx | rfl
          · exact hall x hx
          · exact hw
        simp [Weak, slotOk, fv, lk, AV.low, AV.low1]
  · have hkl : k = ts.length := by omega
    subst hkl
    have hs : smallB ts = true := by
      rw [List.take_length] at hall
      simp only [smallB, Bool.and_eq_true, decide_eq_true_eq, List.all_eq_true]
      exact ⟨h8, hall⟩
    simp [go_sem, resV]
    exact post_same (by simp [AV.deep, AV.deep1]) (by rw [hs])

set_option maxRecDepth 20000 in
set_option maxHeartbeats 4000000 in
theorem block_law (h : Hd) (ts : List Tn) (hk : h.ok) (hok : ∀ t, t ∈ ts → t.ok ∧ Byt t) : Rets Tryz.prog 3 [.agg (eB h ts)] (fun r => r = .d (.bool true)) := by
  refine fn_of_awp Tryz.func3 (by kernel_rfl) rfl Tryz.ntmps3 (rs := [.tmp 2]) rfl (Nat.le_of_ble_eq_true rfl) (one_eB h ts) ?_
  simp [go_sem, eB_len hk, eB_all hk, eB_get hk, eB_g hk]
  refine cl_eq (smallB_fn ts fun t ht => (hok t ht).1) (by simp [AV.deep, AV.deep1]) ?_
  cases hs : smallB ts
  · simp [go_sem]
    refine cl_eq alive26_fn (by simp) ?_
    simp [go_sem, resV]
    exact post_same (by simp [AV.deep, AV.deep1]) rfl
  · have hB : Bs ts := by
      simp only [smallB, Bool.and_eq_true, decide_eq_true_eq, List.all_eq_true] at hs
      exact ⟨hs.1, fun t ht => ⟨sm_of (hok t ht).1 (hs.2 t ht), (hok t ht).2⟩⟩
    simp [go_sem]
    apply draw2 ([]) ((0, (1 :: 2 :: 4 :: [])) :: (3, ([])) :: (5, (6 :: 7 :: 8 :: [])) :: []) 3 (k := 9) (by kernel_rfl) (by kernel_rfl) rfl
    case hz => repeat (first | exact Its.nil | apply Its.plain rfl | apply Its.guard rfl rfl)
    case hj => repeat (first | exact Jts.nil | exact Its.nil | apply Its.plain rfl | apply Its.guard rfl rfl | apply Jts.plain rfl | apply Jts.guard rfl rfl)
    intro G hG
    simp [go_sem]
    refine cl_eq alive26_fn (by simp) ?_
    simp [go_sem, eB_len hk, eB_all hk]
    refine cl_eq (block26_fn h ts hk hB) (one_eB h ts) ?_
    simp [go_sem, eB_len hk, eB_all hk]
    refine cl_eq (block26R_fn h ts hk hB) (one_eB h ts) ?_
    simp [go_sem]
    refine hG _ _ ?_
    simp [go_sem, resV]
    exact post_same (by simp [AV.deep, AV.deep1]) rfl

set_option maxRecDepth 100000
theorem d_inj : ∀ {a b : List DV}, a.map AV.d = b.map AV.d → a = b
  | [], [], _ => rfl
  | [], _ :: _, h => by simp at h
  | _ :: _, [], h => by simp at h
  | x :: a, y :: b, h => by
    simp only [List.map_cons, List.cons.injEq, AV.d.injEq] at h
    rw [h.1, d_inj h.2]
theorem ty_txs {n : Nat} {ds : List DV} (h : TyD Tryz.prog (n + 7) 26 ds) : ∃ ts : List Tn, ds = [.ro 4 (ts.map eTd)] ∧ ∀ t, t ∈ ts → t.ok ∧ Byt t := by
  rw [TyD] at h
  simp only [Tryz.underlying26] at h
  obtain ⟨es, rfl, hl, hr⟩ := h
  obtain ⟨ts, rfl, hts⟩ := map_of (enc := eTd) (R := fun t => t.ok ∧ Byt t) (es := es) (fun r hr' => by
    obtain ⟨h1, h2⟩ := hr r hr'
    obtain ⟨t, e, q1, q2, q3⟩ := ty_tx h1
    exact ⟨t, d_inj (by rw [e]; rfl), q1, q2, q3⟩)
  exact ⟨ts, by rw [show Tryz.prog.cellsOf 38 = 4 by kernel_rfl], hts⟩
theorem block_args (l : List AV) (h : ArgTys Tryz.prog 8 [28] l) : Rets Tryz.prog 3 l (fun r => r = .d (.bool true)) := by
  obtain ⟨a0, r0, rfl, h0, rfl⟩ := h
  unfold ArgTy at h0
  simp only [Tryz.underlying28] at h0
  obtain ⟨ds, rfl, h0⟩ := h0
  rw [TyD] at h0
  simp only [Tryz.underlying28, List.map_cons, List.map_nil] at h0
  obtain ⟨a, b, rfl, ha, ha2, a', b', rfl, hb, hb2, rfl⟩ := h0
  obtain ⟨g, e1, q1⟩ := ty_hd ha2
  obtain ⟨ts, rfl, q2⟩ := ty_txs hb2
  have e : AV.agg ((a ++ ([DV.ro 4 (ts.map eTd)] ++ [])).map AV.d) = .agg (eB g ts) := by rw [List.map_append, e1]; rfl
  rw [e]
  exact block_law g ts q1 q2
end Go.Proofs.YtbkbcjhghmlphaaGreat
