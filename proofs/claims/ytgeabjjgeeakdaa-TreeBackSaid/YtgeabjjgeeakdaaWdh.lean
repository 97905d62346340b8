/-
  Shifts by two, inverses, roots in the field.
-/
import Derived.Test.YtgeabjjgeeakdaaWdg
namespace Go.Proofs.Ytgeabjjgeeakdaa
open Go.Am Go.Sha
set_option linter.unusedSimpArgs false
set_option linter.unusedVariables false

theorem orR {x y : Int} (hx : R64 x) (hy : R64 y) : R64 (Go.bits .or .u64 x y) := by
  obtain ⟨X, rfl⟩ := Int.eq_ofNat_of_zero_le hx.1
  obtain ⟨Y, rfl⟩ := Int.eq_ofNat_of_zero_le hy.1
  have h1 := hx.2
  have h2 := hy.2
  rw [or64 X Y (by omega) (by omega)]
  have := Nat.or_lt_two_pow (x := X) (y := Y) (n := 64) (by omega) (by omega)
  exact ⟨Int.natCast_nonneg _, by omega⟩
theorem fdR {x : Int} (hx : R64 x) : R64 (Int.fdiv x 4) := by
  obtain ⟨h1, h2⟩ := hx
  rw [Int.fdiv_eq_ediv_of_nonneg _ (by omega)]
  exact ⟨by omega, by omega⟩
set_option maxHeartbeats 4000000 in
theorem finv_ex (a : List Int) (ha : Wn 4 a) : ∃ r, Wn 4 r ∧ W1 80 a r := by
  obtain ⟨n, c, hn, hc, f1⟩ := wsub_ex prI [2, 0, 0, 0] prI_W (fromI_W ⟨by omega, by omega⟩)
  obtain ⟨r, hr, f2⟩ := pow_ex a n ha hn
  unfold W2 at f2
  have hal := ha.1
  have hnl := hn.1
  have hrl := hr.1
  have hz : List.drop 4 (cI zI) = [] := cI_drop rfl
  refine ⟨r, hr, ?_⟩
  unfold W1
  refine fn_of_awp Try.func80 (by kernel_rfl) rfl Try.ntmps80 (rs := [.cell 2 69]) rfl (Nat.le_of_ble_eq_true rfl) (one_cI a) ?_
  simp [go_sem, hal, cI_take hal]
  refine cl_eq primeI_fn (by simp) ?_
  simp [go_sem]
  refine cl_eq (fromI_fn 2) (by simp [AV.deep, AV.deep1]) ?_
  simp [go_sem]
  refine cl_eq f1 (two_cI _ _) ?_
  simp [go_sem, hal, hnl, cI_take hal, cI_take hnl, hz]
  refine cl_eq f2 (two_cI _ _) ?_
  simp [go_sem, hrl, cI_take hrl, hz, resV]
  exact post_w rfl
def hiS (x : Int) : Int := IntKind.u64.wrap (x * 4611686018427387904)
def stpH (a : List Int) (k : Nat) (s : List Int) : List Int :=
  if k < 3 then s.set k (Go.bits .or .u64 (Int.fdiv (gI a k) 4) (hiS (gI a (pl k 1)))) else s.set k (Int.fdiv (gI a k) 4)
set_option maxRecDepth 20000 in
set_option maxHeartbeats 4000000 in
theorem shr2_ex (a : List Int) (ha : Wn 4 a) : ∃ r, Wn 4 r ∧ Rets Try.prog 68 [.agg (cI a), .d (.int .i64 2)] (fun x => x = .agg (cI r)) := by
  have hS : ∀ k, Wn 4 (itr (stpH a) zI k) := itr_inv (P := fun _ (s : List Int) => Wn 4 s) zI_W fun k s hs => by
    unfold stpH
    split
    · exact Wn_set hs (orR (fdR (Wn_getD ha)) (u64R _))
    · exact Wn_set hs (fdR (Wn_getD ha))
  refine ⟨itr (stpH a) zI 4, hS 4, ?_⟩
  refine fn_of_awp Try.func68 (by kernel_rfl) rfl Try.ntmps68 (rs := [.cell 4 69]) rfl (Nat.le_of_ble_eq_true rfl) (by intro v hv; simp at hv; rcases hv with rfl | rfl; exact cI_deepA _; trivial) ?_
  have hal := ha.1
  generalize hSS : itr (stpH a) zI = S at *
  have wz : IntKind.i64.wrap 0 = 0 := IntWalk.i64_in _ (by omega)
  have hz : List.drop 4 (cI zI) = [] := cI_drop rfl
  simp [go_sem, hal, cI_take hal, wz]
  refine loop_of (fun k : Nat => ⟨[(2, .ptr 0 0 0 1), (4, .ptr 32 0 0 1), (5, .ptr 192 0 0 1), (6, .d (.int .i64 0)), (7, .d (.int .i64 2)), (8, .d (.int .i64 (k : Int)))], [(192, ⟨69, 4, [cI (S k)]⟩), (32, ⟨69, 4, [cI zI]⟩), (0, ⟨69, 4, [cI a]⟩)], 1000⟩)
    (fun k => k ≤ 4) (fun k => 4 - k) 0 (by omega) (by
      rw [← hSS]
      simp [Weak, slotOk, fv, lk, AV.low, AV.low1, itr]
      first | (and_intros <;> first | rfl | exact cI_low _ _)) ?_
  intro k hk
  have hs1 := hS k
  have hsl := hs1.1
  have w3 := next_i64 (k := k) (by omega)
  have w62 : IntKind.i64.wrap 62 = 62 := IntWalk.i64_in _ (by omega)
  simp only [go_sem, Nat.reduceEqDiff, Nat.reduceAdd, Nat.reduceLT, ↓reduceIte]
  by_cases h4 : k < 4
  · refine ⟨fun h => ?_, fun h => absurd (by exact_mod_cast h4) h⟩
    have hka := get_D (l := a) (k := k) (by omega)
    have hk4 : (k : Int) < 4 := by omega
    have hsn : S (k + 1) = stpH a k (S k) := by rw [← hSS]; rfl
    have wk0 : IntKind.i64.wrap ((k : Int) - 0) = (k : Int) := IntWalk.i64_in _ (by omega)
    have wk1 : IntKind.i64.wrap (k : Int) = (k : Int) := IntWalk.i64_in _ (by omega)
    unfold stpH at hsn
    have hpl : pl k 1 = k + 1 := rfl
    have w5 : IntKind.i64.wrap ((k : Int) + 1) = (pl k 1 : Int) := by rw [hpl]; exact w3
    by_cases h3 : k < 3
    · rw [if_pos h3] at hsn
      have hkb := get_D (l := a) (k := pl k 1) (by omega)
      have i3 : (pl k 1 : Int) < 4 := by omega
      have i3n : pl k 1 < 4 := by omega
      have hkk : (S k)[k]? = some (gI (S k) k) := get_D (by omega)
      have hst : ((S k).set k (Int.fdiv (gI a k) 4))[k]? = some (Int.fdiv (gI a k) 4) := by rw [List.getElem?_set_self (by omega)]
      simp [go_sem, hka, hal, hsl, hk4, wk0, wk1, cI_set, w5, i3, i3n, IntKind.bits]
      refine ⟨h4, ?_⟩
      apply draw2 (0 :: 1 :: 2 :: 3 :: 4 :: 5 :: 6 :: 7 :: 8 :: 9 :: 10 :: 11 :: 12 :: 13 :: []) ((14, ([])) :: []) 0 (k := 15) (by kernel_rfl) (by kernel_rfl) rfl
      case hz => repeat (first | exact Its.nil | apply Its.plain rfl | apply Its.guard rfl rfl)
      case hj => repeat (first | exact Jts.nil | exact Its.nil | apply Its.plain rfl | apply Its.guard rfl rfl | apply Jts.plain rfl | apply Jts.guard rfl rfl)
      intro G hG
      simp [go_sem, hka, hkb, hal, hsl, hk4, wk0, wk1, cI_set, w5, i3, IntKind.bits, hst, w62, List.length_set, hiS]
      first | refine ⟨h4, hG _ _ ?_⟩ | refine hG _ _ ?_ | refine ⟨by omega, hG _ _ ?_⟩
      clear hG G
      simp [go_sem, w5]
      refine next_of (k + 1) (by omega) (by omega) ?_
      rw [hsn]
      simp [Weak, slotOk, fv, lk, AV.low, AV.low1, hpl, hiS]
      first | (and_intros <;> exact cI_low _ _)
    · rw [if_neg h3] at hsn
      have i3 : ¬ (pl k 1 : Int) < 4 := by omega
      have i3n : ¬ pl k 1 < 4 := by omega
      simp [go_sem, hka, hal, hsl, hk4, wk0, wk1, cI_set, w5, i3, i3n, IntKind.bits]
      first | refine ⟨h4, next_of (k + 1) (by omega) (by omega) ?_⟩ | refine next_of (k + 1) (by omega) (by omega) ?_
      rw [hsn]
      simp [Weak, slotOk, fv, lk, AV.low, AV.low1, hpl]
      first | (and_intros <;> exact cI_low _ _)
  · refine ⟨fun h => absurd (by exact_mod_cast h) h4, fun h => ?_⟩
    have hk4 : k = 4 := by omega
    subst hk4
    simp [go_sem, hsl, cI_take hsl, hz, resV]
    exact post_w rfl
end Go.Proofs.Ytgeabjjgeeakdaa
