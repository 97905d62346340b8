/-
  Whether a block may be by itself: by the program; the other text's bytes, roots, weights.
-/
import Derived.Test.YtbkbcjhghmlphaaGreatBkd
namespace Go.Proofs.YtbkbcjhghmlphaaGreat
open Go.Am Go.Sha
set_option linter.unusedSimpArgs false
set_option linter.unusedVariables false

def goV : List Tn → Bool → Int
  | [], _ => 0
  | t :: r, f => if checkV t f ≠ 0 then checkV t f else goV r false
def blockV (h : Hd) (ts : List Tn) : Int :=
  if checkB h ts ≠ 0 then 4 else if ts.length = 0 then 30 else if goV ts true ≠ 0 then goV ts true
  else if (rootL (ts.map nameT) false).1 ≠ h.root ∨ (rootL (ts.map nameT) false).2 = true then 37
  else if 120000 < sumW ts then 39 else 0
theorem eB_root {h : Hd} (hk : h.ok) (ts : List Tn) : ((eB h ts).drop 33).take 32 = cb h.root := by
  have e : eB h ts = (.d (.int .u32 (h.ver : Int)) :: cb h.prev) ++ (cb h.root ++ ([.d (.int .u32 (h.time : Int)), .d (.int .u32 (h.bits : Int)), .d (.int .u32 (h.nonce : Int))] ++ [.d (.ro 4 (ts.map eTd))])) := by simp [eB, eH]
  rw [e, List.drop_append, List.drop_eq_nil_of_le (by simp [cb_len, hk.2.1]), List.nil_append, show 33 - (AV.d (DV.int IntKind.u32 (h.ver : Int)) :: cb h.prev).length = 0 by simp [cb_len, hk.2.1], List.drop_zero, List.take_append_of_le_length (by rw [cb_len, hk.2.2.1]; omega), cb_take hk.2.2.1]
def fst (k : Nat) : Bool := decide (k = 0)
theorem fst_s (k : Nat) : fst (k + 1) = false := by unfold fst; exact decide_eq_false (by omega)
theorem two_eT (t : Tn) (d : DV) : ∀ v, v ∈ [AV.agg (eT t), AV.d d] → v.deep := by
  intro v hv
  simp only [List.mem_cons, List.mem_nil_iff, or_false] at hv
  rcases hv with rfl | rfl
  · exact one_eT t _ (by simp)
  · trivial
theorem fst_0 : fst 0 = true := rfl

set_option maxRecDepth 20000 in
set_option maxHeartbeats 4000000 in
theorem block26_fn (h : Hd) (ts : List Tn) (hk : h.ok) (hs : Bs ts) : Rets Tryz.prog 6 [.agg (eB h ts)] (fun r => r = .d (.int .i64 (blockV h ts))) := by
  refine fn_of_awp Tryz.func6 (by kernel_rfl) rfl Tryz.ntmps6 (rs := [.tmp 2]) rfl (Nat.le_of_ble_eq_true rfl) (one_eB h ts) ?_
  have hs0 := hs
  obtain ⟨hn, hts⟩ := hs
  generalize hF : blockV h ts = F
  unfold blockV at hF
  have hgo := show goV ts true = goV (ts.drop 0) (fst 0) from rfl
  simp [go_sem, eB_len hk, eB_all hk]
  refine cl_eq (checkBk_fn h ts hk hs0) (one_eB h ts) ?_
  by_cases h1 : checkB h ts = 0
  · rw [if_neg (by simpa using h1)] at hF
    by_cases h2 : ts.length = 0
    · rw [if_pos h2] at hF
      have h2' : ts = [] := List.length_eq_zero_iff.1 h2
      subst h2'
      simp [go_sem, h1, eB_len hk, eB_all hk, eB_get hk, eB_g hk, resV]
      exact post_same (by simp [AV.deep, AV.deep1]) (by rw [hF])
    · rw [if_neg h2] at hF
      have h2' : ts ≠ [] := fun e => h2 (by rw [e]; rfl)
      simp [go_sem, h1, eB_len hk, eB_all hk, eB_get hk, eB_g hk, h2']
      refine loop_of (fun k : Nat => ⟨[(1, .ptr 0 0 0 1), (18, .d (.ro 4 (ts.map eTd))), (19, .d (.int .i64 (ts.length : Int))), (20, .d (.int .i64 (k : Int)))], [(0, ⟨28, 69, [eB h ts]⟩)], 1000⟩)
        (fun k => k ≤ ts.length ∧ goV (ts.drop k) (fst k) = goV ts true) (fun k => ts.length - k) 0 ⟨by omega, rfl⟩ (by
          simp [Weak, slotOk, fv, lk, AV.low, AV.low1]
          exact eB_low _ _ _) ?_
      rintro k ⟨hk2, hg⟩
      simp only [go_sem, Nat.reduceEqDiff, Nat.reduceAdd, Nat.reduceLT, ↓reduceIte, Nat.reduceMul]
      refine ⟨fun hh => ?_, fun hh => ?_⟩
      · obtain ⟨t, ht1, hd⟩ := drop_of (l := ts) (k := k) (by omega)
        obtain ⟨hsm, hby⟩ := hts t (List.mem_of_getElem? ht1)
        have w3 := next_i64 (k := k) (by omega)
        rw [hd, goV] at hg
        simp [go_sem, ht1, eTd_map, eTd_len, eT_len, eT_take]
        refine cl_eq (check26_fn refs_ok t (fst k) hsm hby.2) (two_eT t _) ?_
        by_cases h0 : checkV t (fst k) = 0
        · rw [if_neg (by simpa using h0), ← fst_s k] at hg
          simp [go_sem, h0, w3]
          refine next_of (k + 1) ⟨by omega, hg⟩ (by omega) ?_
          simp [Weak, slotOk, fv, lk, AV.low, AV.low1]
          exact eB_low _ _ _
        · rw [if_pos h0] at hg
          rw [← hg, if_pos h0] at hF
          simp [go_sem, h0, resV]
          exact post_same (by simp [AV.deep, AV.deep1]) (by rw [hF])
      · have hkl : k = ts.length := by omega
        subst hkl
        rw [List.drop_length] at hg
        rw [← hg, if_neg (by simp [goV])] at hF
        simp [go_sem, eB_len hk, eB_get hk, eB_g hk]
        refine cl_eq (rootBk_fn ts hs0) (by simp [AV.deep, AV.deep1]) ?_
        have hrl := rootL_len (ts.map nameT).length (ts.map nameT) false (by omega) (names_ws ts)
        generalize rootL (ts.map nameT) false = R at *
        have hhr := hk.2.2.1
        obtain ⟨Rh, Rb⟩ := R
        simp only at hrl hF
        by_cases hR : Rh = h.root
        · cases Rb
          · rw [if_neg (by simp [hR])] at hF
            simp [go_sem, cb_len, hrl, cb_take hrl, z32_drop, eB_len hk, eB_root hk, eB_get hk, eB_g hk, ints_cb, natmap_inj, hhr, hR, cb_take hhr]
            refine cl_eq (weightBk_fn ts hs0) (by simp [AV.deep, AV.deep1]) ?_
            by_cases hw : 120000 < sumW ts
            · have iw : (120000 : Int) < (sumW ts : Int) := by omega
              rw [if_pos hw] at hF
              simp [go_sem, iw, resV]
              exact post_same (by simp [AV.deep, AV.deep1]) (by rw [hF])
            · have iw : ¬ (120000 : Int) < (sumW ts : Int) := by omega
              rw [if_neg hw] at hF
              simp [go_sem, iw, resV]
              exact post_same (by simp [AV.deep, AV.deep1]) (by rw [hF])
          · rw [if_pos (by simp)] at hF
            simp [go_sem, cb_len, hrl, cb_take hrl, z32_drop, eB_len hk, eB_root hk, eB_get hk, eB_g hk, ints_cb, natmap_inj, hhr, hR, cb_take hhr, resV]
            exact post_same (by simp [AV.deep, AV.deep1]) (by rw [hF])
        · rw [if_pos (.inl hR)] at hF
          simp [go_sem, cb_len, hrl, cb_take hrl, z32_drop, eB_len hk, eB_root hk, eB_get hk, eB_g hk, ints_cb, natmap_inj, hhr, hR, resV]
          exact post_same (by simp [AV.deep, AV.deep1]) (by rw [hF])
  · rw [if_pos h1] at hF
    simp [go_sem, h1, resV]
    exact post_same (by simp [AV.deep, AV.deep1]) (by rw [hF])
end Go.Proofs.YtbkbcjhghmlphaaGreat
