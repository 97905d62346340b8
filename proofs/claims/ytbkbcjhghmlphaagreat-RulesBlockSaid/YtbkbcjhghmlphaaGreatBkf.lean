/-
  Whether a block may be by itself: by the other text; the law RulesBlock.
-/
import Derived.Test.YtbkbcjhghmlphaaGreatBke
namespace Go.Proofs.YtbkbcjhghmlphaaGreat
open Go.Am Go.Sha
set_option linter.unusedSimpArgs false
set_option linter.unusedVariables false

set_option maxRecDepth 20000 in
set_option maxHeartbeats 4000000 in
theorem bytesR_fn (h : Hd) (ts : List Tn) (hk : h.ok) (hs : Bs ts) (hfit : ∀ t, t ∈ ts → checkT t = 0) : Rets Tryz.prog 33 [.agg (eB h ts)] (fun r => r = .d (nb (encB h ts))) := by
  refine fn_of_awp Tryz.func33 (by kernel_rfl) rfl Tryz.ntmps33 (rs := [.tmp 2]) rfl (Nat.le_of_ble_eq_true rfl) (one_eB h ts) ?_
  obtain ⟨hn, hts⟩ := hs
  have w1 : IntKind.u64.wrap (ts.length : Int) = (ts.length : Int) := by rw [u64w]; omega
  simp [go_sem, eB_len hk, eB_all hk]
  apply draw2 (0 :: 1 :: 3 :: 4 :: 5 :: 6 :: []) ((2, ([])) :: (7, (8 :: [])) :: []) 2 (k := 9) (by kernel_rfl) (by kernel_rfl) rfl
  case hz => repeat (first | exact Its.nil | apply Its.plain rfl | apply Its.guard rfl rfl)
  case hj => repeat (first | exact Jts.nil | exact Its.nil | apply Its.plain rfl | apply Its.guard rfl rfl | apply Jts.plain rfl | apply Jts.guard rfl rfl)
  intro G hG
  simp [go_sem, eB_len hk, eB_take hk, eB_get hk, eB_g hk, w1]
  refine cl_eq (putHeaderR_fn h hk) (one_eH h) ?_
  simp [go_sem, eB_len hk, eB_take hk, eB_get hk, eB_g hk, w1]
  refine cl_eff [] (putSizeR_own (headB h) ts.length (by rw [headB_len hk]; omega) (by omega)) rfl (by simp) (by simp) (by simp) (by simp [AV.renL, AV.ren]) ?_
  rintro r hp' ⟨I, rfl, h0⟩
  refine ⟨[(I, 0)], by simp [newsB, prsB], ?_⟩
  have hB0 : (headB h ++ putSize ts.length).length ≤ 85 := by rw [List.length_append, headB_len hk]; have := putSize_len ts.length; omega
  have hR0 : (headB h ++ putSize ts.length) ++ tailB wholeB ts 0 = encB h ts := rfl
  generalize headB h ++ putSize ts.length = B0 at *
  simp [go_sem, outH, outP, h0, Blk.ren, renR, rb_ren, AV.renL, AV.ren, rho]
  refine hG _ _ ?_
  clear hG G
  simp [go_sem, eB_len hk, eB_take hk, eB_get hk, eB_g hk, w1]
  generalize encB h ts = R at *
  refine loop_of (fun u : Nat × List Nat => ⟨[(1, .ptr 0 0 0 1), (3, .own 288 0 u.2.length u.2.length), (4, .d (.int .i64 (u.1 : Int)))], [(288, ⟨5, 1, rb u.2⟩), (0, ⟨28, 69, [eB h ts]⟩)], 2000⟩)
    (fun u => u.1 ≤ ts.length ∧ u.2.length ≤ 85 + 12000 * u.1 ∧ u.2 ++ tailB wholeB ts u.1 = R) (fun u => ts.length - u.1) (0, B0) ⟨by simp, by simp; omega, hR0⟩ (by
      simp [Weak, slotOk, fv, lk, AV.low, AV.low1]
      exact ⟨rb_low _ _, eB_low _ _ _⟩) ?_
  rintro ⟨k, B⟩ ⟨hk2, hBl, hR⟩
  simp only at hk2 hBl hR
  simp [go_sem, eB_len hk, eB_get hk, eB_g hk]
  refine ⟨fun hh => ?_, fun hh => ?_⟩
  · obtain ⟨t, ht1, hd⟩ := drop_of (l := ts) (k := k) (by omega)
    have htm := List.mem_of_getElem? ht1
    obtain ⟨hsm, hby⟩ := hts t htm
    have w3 := next_i64 (k := k) (by omega)
    have h0 := hfit t htm
    have hwl := fit_len h0
    simp [go_sem, eB_len hk, eB_get hk, eB_g hk, ht1, eTd_map, eTd_len, eT_len, eT_take]
    refine cl_eq (wholeTR_fn t hsm h0) (one_eT t) ?_
    simp [go_sem, nb, rb_of, eT_len, eT_take, w3, rb_len, rb_app]
    have hl2 : (B ++ wholeB t).length = B.length + (wholeB t).length := List.length_append
    refine ⟨by omega, ?_⟩
    refine next_of (k + 1, B ++ wholeB t) ⟨by simp only; omega, by simp only; omega, rest_step hd hR⟩ (by simp only; omega) ?_
    simp [Weak, slotOk, fv, lk, AV.low, AV.low1]
    exact ⟨rb_low _ _, eB_low _ _ _⟩
  · have hkl : k = ts.length := by omega
    subst hkl
    have := rest_done hR
    subst this
    simp [go_sem, resV]
    exact post_words_b rfl rfl

theorem all_fit {ts : List Tn} (h : ts.all fitT = true) : ∀ t, t ∈ ts → checkT t = 0 := by
  intro t ht
  rw [List.all_eq_true] at h
  simpa [fitT] using h t ht
set_option maxRecDepth 20000 in
set_option maxHeartbeats 4000000 in
theorem encodeR_fn (h : Hd) (ts : List Tn) (hk : h.ok) (hs : Bs ts) : Rets Tryz.prog 16 [.agg (eB h ts)] (fun r => ∃ b, r = .tup [.d (nb b), .d (.int .i64 (checkB h ts))]) := by
  refine fn_of_awp Tryz.func16 (by kernel_rfl) rfl Tryz.ntmps16 (rs := [.tmp 2, .tmp 3]) rfl (Nat.le_of_ble_eq_true rfl) (one_eB h ts) ?_
  have hs0 := hs
  obtain ⟨hn, hts⟩ := hs
  have i1 : ¬ (30 : Int) < (ts.length : Int) := by omega
  simp [go_sem, eB_len hk, eB_all hk, eB_get hk, eB_g hk, i1]
  refine loop_of (fun k : Nat => ⟨[(1, .ptr 0 0 0 1), (4, .d (.int .i64 (k : Int)))], [(0, ⟨28, 69, [eB h ts]⟩)], 1000⟩)
    (fun k => k ≤ ts.length ∧ (ts.drop k).all fitT = ts.all fitT) (fun k => ts.length - k) 0 ⟨by omega, rfl⟩ (by
      simp [Weak, slotOk, fv, lk, AV.low, AV.low1]
      exact eB_low _ _ _) ?_
  rintro k ⟨hk2, hF⟩
  simp [go_sem, eB_len hk, eB_get hk, eB_g hk]
  refine ⟨fun hh => ?_, fun hh => ?_⟩
  · obtain ⟨t, ht1, hd⟩ := drop_of (l := ts) (k := k) (by omega)
    obtain ⟨hsm, hby⟩ := hts t (List.mem_of_getElem? ht1)
    have w3 := next_i64 (k := k) (by omega)
    simp [go_sem, eB_len hk, eB_get hk, eB_g hk, ht1, eTd_map, eTd_len, eT_len, eT_take]
    refine cl_eq (checkTR_fn t hsm) (one_eT t) ?_
    by_cases h0 : checkT t = 0
    · simp [go_sem, h0, w3]
      refine next_of (k + 1) ⟨by omega, fit_step hd hF h0⟩ (by omega) ?_
      simp [Weak, slotOk, fv, lk, AV.low, AV.low1]
      exact eB_low _ _ _
    · simp [go_sem, h0, resV]
      refine post_bld0 ⟨[], ?_⟩
      have : ts.all fitT = false := by rw [← hF, hd]; simp [fitT, h0]
      simp [checkB, this]
  · have hkl : k = ts.length := by omega
    subst hkl
    rw [List.drop_length] at hF
    simp only [List.all_nil] at hF
    simp [go_sem, eB_len hk, eB_all hk]
    refine cl_eq (bytesR_fn h ts hk hs0 (all_fit hF.symm)) (one_eB h ts) ?_
    simp [go_sem, nb, resV]
    refine ⟨fun hh => ?_, fun hh => ?_⟩
    · refine post_bld0 ⟨[], ?_⟩
      have e : checkB h ts = 4 := by unfold checkB; rw [← hF, if_neg (by simp), if_pos (by omega)]
      rw [e]; rfl
    · have e : checkB h ts = 0 := by unfold checkB; rw [← hF, if_neg (by simp), if_neg (by omega)]
      rw [e]
      exact post_same (by simp [AV.deep, AV.deep1]) ⟨encB h ts, rfl⟩

set_option maxHeartbeats 2000000 in
theorem rootBkR_fn (ts : List Tn) (hs : Bs ts) : Rets Tryz.prog 18 [.d (txsD ts)] (fun r => r = .tup [.agg (cb (rootL (ts.map nameT) false).1), .d (.bool (rootL (ts.map nameT) false).2)]) := by
  refine fn_of_awp Tryz.func18 (by kernel_rfl) rfl Tryz.ntmps18 (rs := [.cell 2 23, .tmp 3]) rfl (Nat.le_of_ble_eq_true rfl) (by simp [AV.deep, AV.deep1]) ?_
  obtain ⟨hn, hts⟩ := hs
  have hrl := rootL_len (ts.map nameT).length (ts.map nameT) false (by omega) (names_ws ts)
  simp [go_sem, txsD]
  refine loop_of (fun k : Nat => ⟨[(0, .d (.ro 4 (ts.map eTd))), (2, .ptr 0 0 0 1), (4, .own 64 0 k k), (5, .d (.int .i64 (k : Int)))], [(64, ⟨23, 32, ((ts.map nameT).take k).map cb⟩), (0, ⟨23, 32, [cb z32]⟩)], 1000⟩)
    (fun k => k ≤ ts.length) (fun k => ts.length - k) 0 (by omega) (by
      simp [Weak, slotOk, fv, lk, AV.low, AV.low1]
      exact cb_low _ _) ?_
  intro k hk
  simp only [go_sem, Nat.reduceEqDiff, Nat.reduceAdd, Nat.reduceLT, ↓reduceIte, Nat.reduceMul]
  refine ⟨fun hh => ?_, fun hh => ?_⟩
  · obtain ⟨t, ht1, hd⟩ := drop_of (l := ts) (k := k) (by omega)
    obtain ⟨hsm, hby⟩ := hts t (List.mem_of_getElem? ht1)
    have w3 := next_i64 (k := k) (by omega)
    have htk : (ts.map nameT).take k ++ [nameT t] = (ts.map nameT).take (k + 1) := take_snoc (by simp [ht1])
    have htl : ((ts.map nameT).take k).length = k := by rw [List.length_take, List.length_map]; omega
    have hrow : List.map cb ((ts.map nameT).take k) ++ [cb (nameT t)] = List.map cb ((ts.map nameT).take (k + 1)) := by rw [← htk]; simp
    have hlow : ∀ r, r ∈ List.map cb ((ts.map nameT).take (k + 1)) → ∀ v, v ∈ r → v.low1 1000 := hs_low _ _
    generalize hL' : List.map cb ((ts.map nameT).take (k + 1)) = L' at *
    have hlk : (List.map cb ((ts.map nameT).take k)).length = k := by simpa using htl
    generalize List.map cb ((ts.map nameT).take k) = L at *
    simp [go_sem, ht1, eTd_map, eTd_len, eT_len, eT_take]
    refine cl_eq (nameTR_fn t hsm hby) (one_eT t) ?_
    have hnl := nameT_len t
    simp [go_sem, hnl, cb_len, hlk, hrow, w3, List.take_of_length_le]
    refine ⟨by omega, ?_⟩
    refine next_of (k + 1) (by omega) (by omega) ?_
    simp [Weak, slotOk, fv, lk, AV.low]
    have e : List.take (k + 1) (List.map (cb ∘ nameT) ts) = L' := by rw [← hL']; simp
    rw [e]
    exact ⟨⟨trivial, by simp [AV.low1], by simp [AV.low1], trivial⟩, ⟨rfl, hlow⟩, cb_low _ _⟩
  · have hkl : k = ts.length := by omega
    subst hkl
    simp [go_sem]
    refine cl_froz [64] (mrootR_fn (ts.map nameT) (names_ws ts) (by simp; omega)) rfl (snap_cons (.one (snap1_d (snap_hs (ps := ts.map nameT) (by simp) (names_ws ts) (by simp [lk, List.take_of_length_le]) (by simp)))) snap_nil) ?_
    generalize rootL (ts.map nameT) false = R at *
    simp [go_sem, dropH, cb_len, hrl, cb_take hrl, z32_drop, resV]
    exact post_root rfl
theorem weightBkR_fn (ts : List Tn) (hs : Bs ts) : Rets Tryz.prog 19 [.d (txsD ts)] (fun r => r = .d (.int .i64 (sumW ts : Int))) := by
  refine fn_of_awp Tryz.func19 (by kernel_rfl) rfl Tryz.ntmps19 (rs := [.tmp 2]) rfl (Nat.le_of_ble_eq_true rfl) (by simp [AV.deep, AV.deep1]) ?_
  obtain ⟨hn, hts⟩ := hs
  simp [go_sem, txsD]
  refine loop_of (fun k : Nat => ⟨[(0, .d (.ro 4 (ts.map eTd))), (3, .d (.int .i64 (sumW (ts.take k) : Int))), (4, .d (.int .i64 (k : Int)))], [], 1000⟩)
    (fun k => k ≤ ts.length) (fun k => ts.length - k) 0 (by omega) (by
      simp [Weak, slotOk, fv, lk, AV.low, AV.low1, sumW]) ?_
  intro k hk
  simp only [go_sem, Nat.reduceEqDiff, Nat.reduceAdd, Nat.reduceLT, ↓reduceIte, Nat.reduceMul]
  refine ⟨fun hh => ?_, fun hh => ?_⟩
  · obtain ⟨t, ht1, hd⟩ := drop_of (l := ts) (k := k) (by omega)
    obtain ⟨hsm, hby⟩ := hts t (List.mem_of_getElem? ht1)
    have w3 := next_i64 (k := k) (by omega)
    have hsn := sumW_snoc ht1
    have hle := sumW_le (ts.take (k + 1)) (fun x hx => (hts x (List.mem_of_mem_take hx)).1)
    have htl : (ts.take (k + 1)).length ≤ 8 := by rw [List.length_take]; omega
    have w4 : IntKind.i64.wrap ((sumW (ts.take k) : Int) + (weightT t : Int)) = (sumW (ts.take (k + 1)) : Int) := by rw [IntWalk.i64_in _ (by omega)]; omega
    generalize sumW (ts.take k) = S at *
    generalize hS' : sumW (ts.take (k + 1)) = S' at *
    simp [go_sem, ht1, eTd_map, eTd_len, eT_len, eT_take]
    refine cl_eq (weightTR_fn t hsm) (one_eT t) ?_
    simp [go_sem, w3, w4]
    refine next_of (k + 1) (by omega) (by omega) ?_
    simp [Weak, slotOk, fv, lk, AV.low, AV.low1, hS']
  · have hkl : k = ts.length := by omega
    subst hkl
    simp [go_sem, resV]
    exact post_same (by simp [AV.deep, AV.deep1]) rfl
end Go.Proofs.YtbkbcjhghmlphaaGreat
