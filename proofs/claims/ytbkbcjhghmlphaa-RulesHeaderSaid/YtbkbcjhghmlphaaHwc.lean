/-
  Targets: by the program.
-/
import Derived.Test.YtbkbcjhghmlphaaHwb
namespace Go.Sha
def toldV (W : List Nat) : Int := if W = [0, 0, 0, 0] then 3 else 0
def overE (e m : Nat) : Prop := if m = 0 then 35 < e else if m < 256 then 35 ≤ e else if m < 65536 then 34 ≤ e else 33 ≤ e
instance (e m : Nat) : Decidable (overE e m) := by unfold overE; infer_instance
def shlV (m n : Nat) : List Nat := stS (n / 64) 4 (m * 2 ^ (n % 64) % 18446744073709551616) (m / 2 ^ (64 - n % 64))
/-- The target that bits tell, and the error. -/
def expV (b : Nat) : List Nat × Int :=
  if b / 8388608 % 2 = 1 then ([0, 0, 0, 0], 3)
  else if b / 16777216 < 3 then ([r32 (8 * (3 - b / 16777216)) (b % 8388608), 0, 0, 0], toldV [r32 (8 * (3 - b / 16777216)) (b % 8388608), 0, 0, 0])
  else if overE (b / 16777216) (b % 8388608) then ([0, 0, 0, 0], 3)
  else (shlV (b % 8388608) (8 * (b / 16777216 - 3)), toldV (shlV (b % 8388608) (8 * (b / 16777216 - 3))))
theorem shlV_len (m n : Nat) : (shlV m n).length = 4 := stS_len _ _ _ _
theorem expV_len (b : Nat) : (expV b).1.length = 4 := by
  unfold expV
  split
  · rfl
  · split
    · rfl
    · split
      · rfl
      · exact shlV_len _ _
/-- Does a hash meet bits? -/
def meetsV (h : List Nat) (b : Nat) : Bool := decide ((expV b).2 = 0) && decide (cmpF (mulW h.reverse 32) (expV b).1 4 ≤ 0)
theorem and_powA (x i : Nat) : x &&& 2 ^ i = if x.testBit i then 2 ^ i else 0 := by
  apply Nat.eq_of_testBit_eq
  intro j
  rw [Nat.testBit_and, Nat.testBit_two_pow]
  by_cases h : i = j
  · subst h
    cases hx : x.testBit i <;> simp
  · cases hx : x.testBit i <;> simp [h]
theorem and23a (x : Nat) : x &&& 8388608 = if x / 8388608 % 2 = 1 then 8388608 else 0 := by
  have := and_powA x 23
  have h2 : x.testBit 23 = decide (x / 8388608 % 2 = 1) := by
    rw [Nat.testBit_eq_decide_div_mod_eq]
  rw [h2] at this
  by_cases h3 : x / 8388608 % 2 = 1 <;> simp [h3] at this ⊢ <;> exact this
end Go.Sha
namespace Go.Proofs.Ytbkbcjhghmlphaa
open Go.Am Go.Sha
set_option linter.unusedSimpArgs false
set_option linter.unusedVariables false

set_option maxHeartbeats 4000000 in
theorem shr_fn (m r : Nat) (hm : m < 16777216) (h0 : 0 < r) (hr : r < 64) :
    Rets Try.prog 112 [.agg (cW [m, 0, 0, 0]), .d (.int .i64 (r : Int))] (fun x => x = .agg (cW [r32 r m, 0, 0, 0])) := by
  refine fn_of_awp Try.func112 (by kernel_rfl) rfl Try.ntmps112 (rs := [.cell 4 114]) rfl (Nat.le_of_ble_eq_true rfl) (by intro v hv; simp at hv; rcases hv with rfl | rfl <;> first | exact cW_deep _ | trivial) ?_
  have i1 : ¬ ((r : Int) < 0) := by omega
  have i2 : ¬ ((256 : Int) < (r : Int)) := by omega
  have q1 : IntKind.i64.wrap ((r : Int) / 64) = 0 := by rw [IntWalk.i64_in _ (by omega)]; omega
  have q2 : Int.tmod (r : Int) 64 = (r : Int) := by rw [show Int.tmod (r : Int) 64 = ((r % 64 : Nat) : Int) from rfl]; omega
  simp [go_sem, i1, i2, q1, q2]
  have wz : IntKind.i64.wrap 0 = 0 := IntWalk.i64_in _ (by omega)
  have w1 : IntKind.i64.wrap 1 = 1 := IntWalk.i64_in _ (by omega)
  have w2 : IntKind.i64.wrap 2 = 2 := IntWalk.i64_in _ (by omega)
  have w3 : IntKind.i64.wrap 3 = 3 := IntWalk.i64_in _ (by omega)
  have w4 : IntKind.i64.wrap 4 = 4 := IntWalk.i64_in _ (by omega)
  have uz : IntKind.u64.wrap 0 = 0 := by rw [u64w]; rfl
  have hmn : min r 64 = r := by omega
  have w64 : IntKind.i64.wrap (64 - (r : Int)) = ((64 - r : Nat) : Int) := by rw [IntWalk.i64_in _ (by omega)]; omega
  have hmn2 : min (64 - r) 64 = 64 - r := by omega
  obtain ⟨d, hd⟩ : ∃ d, d = r32 r m := ⟨_, rfl⟩
  have dm : Int.fdiv (m : Int) (2 ^ r) = (d : Int) := by rw [d_r, hd]
  have hd64 : d < 18446744073709551616 := by
    rw [hd]
    exact Nat.lt_of_le_of_lt (Nat.div_le_self _ _) (by omega)
  have or0 : Go.bits .or .u64 (d : Int) 0 = (d : Int) := by
    have := or64 d 0 hd64 (by omega)
    rw [Nat.or_zero] at this
    exact this
  have or00 : Go.bits .or .u64 0 0 = 0 := by
    have := or64 0 0 (by omega) (by omega)
    exact this
  have f0 : ∀ x : Int, Int.fdiv 0 x = 0 := Int.zero_fdiv
  have hr1 : ¬ r = 0 := by omega
  have hr2 := h0
  rw [← hd]
  generalize 64 - r = t at *
  refine loop_of (fun u : Nat × List Nat => ⟨[(2, .ptr 0 0 0 1), (4, .ptr 32 0 0 1), (5, .ptr 192 0 0 1), (6, .d (.int .i64 0)), (7, .d (.int .i64 (r : Int))), (8, .d (.int .i64 (u.1 : Int)))], [(192, ⟨114, 4, [cW u.2]⟩), (32, ⟨114, 4, [cW [0, 0, 0, 0]]⟩), (0, ⟨114, 4, [cW [m, 0, 0, 0]]⟩)], 1000⟩)
    (fun u => u.1 ≤ 4 ∧ u.2 = (if u.1 = 0 then [0, 0, 0, 0] else [d, 0, 0, 0])) (fun u => 4 - u.1) (0, [0, 0, 0, 0]) ⟨by simp, rfl⟩ (by
      simp [Weak, slotOk, fv, lk, AV.low, AV.low1, cW_len]
      repeat' apply And.intro
      all_goals first | rfl | exact cW_low _ _) ?_
  rintro ⟨k, L⟩ ⟨hk2, hL⟩
  simp only at hk2 hL
  by_cases hk4 : k = 4
  · subst hk4
    obtain rfl : L = [d, 0, 0, 0] := hL
    simp [go_sem, cW, resV]
    exact post_same (cW_deep [d, 0, 0, 0]) rfl
  · have hqk : k = 0 ∨ k = 1 ∨ k = 2 ∨ k = 3 := by omega
    rcases hqk with rfl | rfl | rfl | rfl
    · obtain rfl : L = [0, 0, 0, 0] := hL
      simp [go_sem, cW, wz, w1, w2, w3, w4, uz, hmn, hmn2, dm, or0, or00, f0, w64, IntKind.bits, hr1, hr2]
      apply draw2 (0 :: 1 :: 2 :: 3 :: 4 :: 5 :: 6 :: 7 :: 8 :: 9 :: 10 :: 11 :: 12 :: 13 :: []) ((14, ([])) :: []) 0 (k := 15) (by kernel_rfl) (by kernel_rfl) rfl
      case hz => repeat (first | exact Its.nil | apply Its.plain rfl | apply Its.guard rfl rfl)
      case hj => repeat (first | exact Jts.nil | exact Its.nil | apply Its.plain rfl | apply Its.guard rfl rfl | apply Jts.plain rfl | apply Jts.guard rfl rfl)
      intro G hG
      simp [go_sem, cW, wz, w1, w2, w3, w4, uz, hmn, hmn2, dm, or0, or00, f0, w64, IntKind.bits, hr1, hr2]
      refine hG _ _ ?_
      simp [go_sem, cW, wz, w1, w2, w3, w4, uz, hmn, hmn2, dm, or0, or00, f0, w64, IntKind.bits, hr1, hr2]
      refine next_of (1, [d, 0, 0, 0]) (by simp) (by simp) ?_
      simp [Weak, slotOk, fv, lk, AV.low, AV.low1, cW]
    · obtain rfl : L = [d, 0, 0, 0] := hL
      simp [go_sem, cW, wz, w1, w2, w3, w4, uz, hmn, hmn2, dm, or0, or00, f0, w64, IntKind.bits, hr1, hr2]
      apply draw2 (0 :: 1 :: 2 :: 3 :: 4 :: 5 :: 6 :: 7 :: 8 :: 9 :: 10 :: 11 :: 12 :: 13 :: []) ((14, ([])) :: []) 0 (k := 15) (by kernel_rfl) (by kernel_rfl) rfl
      case hz => repeat (first | exact Its.nil | apply Its.plain rfl | apply Its.guard rfl rfl)
      case hj => repeat (first | exact Jts.nil | exact Its.nil | apply Its.plain rfl | apply Its.guard rfl rfl | apply Jts.plain rfl | apply Jts.guard rfl rfl)
      intro G hG
      simp [go_sem, cW, wz, w1, w2, w3, w4, uz, hmn, hmn2, dm, or0, or00, f0, w64, IntKind.bits, hr1, hr2]
      refine hG _ _ ?_
      simp [go_sem, cW, wz, w1, w2, w3, w4, uz, hmn, hmn2, dm, or0, or00, f0, w64, IntKind.bits, hr1, hr2]
      refine next_of (2, [d, 0, 0, 0]) (by simp) (by simp) ?_
      simp [Weak, slotOk, fv, lk, AV.low, AV.low1, cW]
    · obtain rfl : L = [d, 0, 0, 0] := hL
      simp [go_sem, cW, wz, w1, w2, w3, w4, uz, hmn, hmn2, dm, or0, or00, f0, w64, IntKind.bits, hr1, hr2]
      apply draw2 (0 :: 1 :: 2 :: 3 :: 4 :: 5 :: 6 :: 7 :: 8 :: 9 :: 10 :: 11 :: 12 :: 13 :: []) ((14, ([])) :: []) 0 (k := 15) (by kernel_rfl) (by kernel_rfl) rfl
      case hz => repeat (first | exact Its.nil | apply Its.plain rfl | apply Its.guard rfl rfl)
      case hj => repeat (first | exact Jts.nil | exact Its.nil | apply Its.plain rfl | apply Its.guard rfl rfl | apply Jts.plain rfl | apply Jts.guard rfl rfl)
      intro G hG
      simp [go_sem, cW, wz, w1, w2, w3, w4, uz, hmn, hmn2, dm, or0, or00, f0, w64, IntKind.bits, hr1, hr2]
      refine hG _ _ ?_
      simp [go_sem, cW, wz, w1, w2, w3, w4, uz, hmn, hmn2, dm, or0, or00, f0, w64, IntKind.bits, hr1, hr2]
      refine next_of (3, [d, 0, 0, 0]) (by simp) (by simp) ?_
      simp [Weak, slotOk, fv, lk, AV.low, AV.low1, cW]
    · obtain rfl : L = [d, 0, 0, 0] := hL
      simp [go_sem, cW, wz, w1, w2, w3, w4, uz, hmn, hmn2, dm, or0, or00, f0, w64, IntKind.bits, hr1, hr2]
      refine next_of (4, [d, 0, 0, 0]) (by simp) (by simp) ?_
      simp [Weak, slotOk, fv, lk, AV.low, AV.low1, cW]

theorem pair_deep (W : List Nat) (d : DV) : (AV.tup [.agg (cW W), .d d]).deep := by
  intro c hc
  simp only [List.mem_cons, List.mem_nil_iff, or_false] at hc
  rcases hc with rfl | rfl
  · exact .inr ⟨_, rfl, cW_deep W⟩
  · exact .inl trivial
theorem toldL_fn (W : List Nat) (h : W.length = 4) : Rets Try.prog 113 [.agg (cW W)] (fun r => r = .d (.int .i64 (toldV W))) := by
  match W, h with
  | [a, b, c, d], _ =>
    have := told_fn a b c d
    have e : toldV [a, b, c, d] = if a = 0 ∧ b = 0 ∧ c = 0 ∧ d = 0 then 3 else 0 := by
      unfold toldV
      simp
    rw [e]
    exact this
theorem b_23 (x : Nat) : Go.bits .and .u32 (x : Int) 8388608 = ((if x / 8388608 % 2 = 1 then 8388608 else 0 : Nat) : Int) := by
  have := w_and x 8388608
  unfold n32 at this
  rw [and23a x] at this
  rw [show (8388608 : Int) = ((8388608 : Nat) : Int) from rfl, this]
  split <;> rfl
theorem b_m23 (x : Nat) : Go.bits .and .u32 (x : Int) 8388607 = ((x % 8388608 : Nat) : Int) := by
  have := w_and x 8388607
  unfold n32 at this
  have e : x &&& 8388607 = x % 8388608 := Nat.and_two_pow_sub_one_eq_mod x 23
  rw [e] at this
  rw [show (8388607 : Int) = ((8388607 : Nat) : Int) from rfl, this]
  congr 1
  omega
set_option maxHeartbeats 4000000 in
theorem expand_fn (b : Nat) (hb : b < 4294967296) : Rets Try.prog 79 [.d (.int .u32 (b : Int))] (fun r => r = .tup [.agg (cW (expV b).1), .d (.int .i64 (expV b).2)]) := by
  refine fn_of_awp Try.func79 (by kernel_rfl) rfl Try.ntmps79 (rs := [.cell 2 114, .tmp 3]) rfl (Nat.le_of_ble_eq_true rfl) (by simp [AV.deep, AV.deep1]) ?_
  generalize hF : expV b = F
  unfold expV at hF
  have e24 : Int.fdiv (b : Int) 16777216 = ((b / 16777216 : Nat) : Int) := fdiv_nat b 16777216
  have he : b / 16777216 < 256 := by omega
  have hm : b % 8388608 < 16777216 := by omega
  have b1 := b_23 b
  have b2 := b_m23 b
  generalize b / 16777216 = e at *
  generalize b % 8388608 = m at *
  have wi : IntKind.i64.wrap (e : Int) = (e : Int) := i64n (by omega)
  have wu : IntKind.u64.wrap (m : Int) = (m : Int) := by rw [u64w]; omega
  by_cases c1 : b / 8388608 % 2 = 1
  · rw [if_pos c1] at hF b1
    subst hF
    simp [go_sem, e24, wi, b1, b2, wu, IntKind.bits]
    exact post_same (by simp [AV.deep, AV.deep1]) rfl
  · rw [if_neg c1] at hF b1
    simp [go_sem, e24, wi, b1, b2, wu, IntKind.bits]
    refine cl_eq (from_fn m) (by simp [AV.deep, AV.deep1]) ?_
    have h4 : ∀ x : Nat, (cW [x, 0, 0, 0]).length = 4 := fun x => rfl
    have t4 : ∀ W : List Nat, W.length = 4 → (cW W).take 4 = cW W := fun W h => List.take_of_length_le (by rw [cW_len]; omega)
    have d4 : (cW [0, 0, 0, 0]).drop 4 = [] := rfl
    have dz : [AV.d (DV.int IntKind.u64 0), AV.d (DV.int IntKind.u64 0), AV.d (DV.int IntKind.u64 0), AV.d (DV.int IntKind.u64 0)].drop 4 = [] := rfl
    have tm := t4 [m, 0, 0, 0] rfl
    have hd1 : ∀ (W : List Nat) (x : AV), x.deep → ∀ v, v ∈ [AV.agg (cW W), x] → v.deep := by
      intro W x hx v hv
      simp only [List.mem_cons, List.mem_nil_iff, or_false] at hv
      rcases hv with rfl | rfl
      · exact cW_deep _
      · exact hx
    have hd2 : ∀ (W : List Nat), ∀ v, v ∈ [AV.agg (cW W)] → v.deep := by
      intro W v hv
      simp only [List.mem_cons, List.mem_nil_iff, or_false] at hv
      subst hv
      exact cW_deep _
    by_cases c2 : e < 3
    · have w1 : IntKind.i64.wrap (3 - (e : Int)) = ((3 - e : Nat) : Int) := by rw [IntWalk.i64_in _ (by omega)]; omega
      have w2 : IntKind.i64.wrap (8 * ((3 - e : Nat) : Int)) = ((8 * (3 - e) : Nat) : Int) := by rw [IntWalk.i64_in _ (by omega)]; omega
      have hr0 : 0 < 8 * (3 - e) := by omega
      have hr1 : 8 * (3 - e) < 64 := by omega
      have i2 : (e : Int) < 3 := by omega
      rw [if_pos c2] at hF
      generalize 8 * (3 - e) = r at *
      generalize 3 - e = e3 at *
      simp [go_sem, i2, h4, d4, dz, tm, w1, w2, cW_len]
      refine cl_eq (shr_fn m r hm hr0 hr1) (hd1 _ _ trivial) ?_
      have hWl : ([r32 r m, 0, 0, 0] : List Nat).length = 4 := rfl
      generalize [r32 r m, 0, 0, 0] = W at *
      have tW := t4 W hWl
      simp [go_sem, cW_len, hWl, d4, dz, tW]
      apply draw2 (0 :: 1 :: []) ((2, ([])) :: (3, ([])) :: (4, ([])) :: []) 1 (k := 5) (by kernel_rfl) (by kernel_rfl) rfl
      case hz => repeat (first | exact Its.nil | apply Its.plain rfl | apply Its.guard rfl rfl)
      case hj => repeat (first | exact Jts.nil | exact Its.nil | apply Its.plain rfl | apply Its.guard rfl rfl | apply Jts.plain rfl | apply Jts.guard rfl rfl)
      intro G hG
      simp [go_sem, cW_len, hWl, d4, dz, tW]
      refine cl_eq (toldL_fn W hWl) (hd2 _) ?_
      simp [go_sem, cW_len, hWl, d4, dz, tW]
      refine hG _ _ ?_
      simp [go_sem, resV, cW_len, hWl, tW]
      rw [← hF]
      exact post_same (pair_deep _ _) rfl
    · have i2 : ¬ (e : Int) < 3 := by omega
      rw [if_neg c2] at hF
      have w1 : IntKind.i64.wrap ((e : Int) - 3) = ((e - 3 : Nat) : Int) := by rw [IntWalk.i64_in _ (by omega)]; omega
      have w2 : IntKind.i64.wrap (8 * ((e - 3 : Nat) : Int)) = ((8 * (e - 3) : Nat) : Int) := by rw [IntWalk.i64_in _ (by omega)]; omega
      obtain ⟨y, hy⟩ : ∃ y, y = 8 * (e - 3) := ⟨_, rfl⟩
      rw [← hy] at hF w2
      generalize he3 : e - 3 = e3 at *
      simp [go_sem, i2, h4, d4, dz, tm, w1, w2, cW_len]
      refine cl_fn (lenW_fn m hm) (hd2 _) ?_
      rintro r ⟨n, rfl, hn⟩
      have hn24 : n ≤ 24 := by unfold lenK at hn; split at hn <;> (try split at hn) <;> (try split at hn) <;> omega
      have w3 : IntKind.i64.wrap ((n : Int) + (y : Int)) = ((n + y : Nat) : Int) := by rw [IntWalk.i64_in _ (by omega)]; omega
      obtain ⟨ny, hny⟩ : ∃ ny, ny = n + y := ⟨_, rfl⟩
      rw [← hny] at w3
      by_cases c3 : overE e m
      · have i3 : (256 : Int) < (ny : Int) := by
          unfold overE at c3
          unfold lenK at hn
          split at c3
          · rw [if_pos ‹_›] at hn; omega
          · rw [if_neg ‹_›] at hn
            split at c3
            · rw [if_pos ‹_›] at hn; omega
            · rw [if_neg ‹_›] at hn
              split at c3
              · rw [if_pos ‹_›] at hn; omega
              · rw [if_neg ‹_›] at hn; omega
        rw [if_pos c3] at hF
        subst hF
        simp [go_sem, w3, i3, resV]
        exact post_same (by simp [AV.deep, AV.deep1]) rfl
      · have i3 : ¬ (256 : Int) < (ny : Int) := by
          unfold overE at c3
          unfold lenK at hn
          split at c3
          · rw [if_pos ‹_›] at hn; omega
          · rw [if_neg ‹_›] at hn
            split at c3
            · rw [if_pos ‹_›] at hn; omega
            · rw [if_neg ‹_›] at hn
              split at c3
              · rw [if_pos ‹_›] at hn; omega
              · rw [if_neg ‹_›] at hn; omega
        have hy256 : y ≤ 256 := by omega
        rw [if_neg c3] at hF
        have hsh := shl_fn m (y / 64) (y % 64) hm (by omega) (by omega) (by omega)
        have hyy : 64 * (y / 64) + y % 64 = y := by omega
        rw [hyy] at hsh
        have hsv : shlV m y = stS (y / 64) 4 (m * 2 ^ (y % 64) % 18446744073709551616) (m / 2 ^ (64 - y % 64)) := rfl
        rw [← hsv] at hsh
        have hWl := shlV_len m y
        generalize shlV m y = W at *
        have tW := t4 W hWl
        simp [go_sem, w3, i3, cW_len, tm, h4]
        refine cl_eq hsh (hd1 _ _ trivial) ?_
        simp [go_sem, cW_len, hWl, d4, dz, tW]
        apply draw2 (0 :: 1 :: []) ((2, ([])) :: (3, ([])) :: (4, ([])) :: []) 1 (k := 5) (by kernel_rfl) (by kernel_rfl) rfl
        case hz => repeat (first | exact Its.nil | apply Its.plain rfl | apply Its.guard rfl rfl)
        case hj => repeat (first | exact Jts.nil | exact Its.nil | apply Its.plain rfl | apply Its.guard rfl rfl | apply Jts.plain rfl | apply Jts.guard rfl rfl)
        intro G hG
        simp [go_sem, cW_len, hWl, d4, dz, tW]
        refine cl_eq (toldL_fn W hWl) (hd2 _) ?_
        simp [go_sem, cW_len, hWl, d4, dz, tW]
        refine hG _ _ ?_
        simp [go_sem, resV, cW_len, hWl, tW]
        rw [← hF]
        exact post_same (pair_deep _ _) rfl

theorem mulW_len (b : List Nat) (i : Nat) : (mulW b i).length = 4 := by simp [mulW]
theorem meets_fn (h : List Nat) (b : Nat) (hl : h.length = 32) (hby : ∀ x, x ∈ h → x < 256) (hb : b < 4294967296) :
    Rets Try.prog 43 [.agg (cb h), .d (.int .u32 (b : Int))] (fun r => r = .d (.bool (meetsV h b))) := by
  refine fn_of_awp Try.func43 (by kernel_rfl) rfl Try.ntmps43 (rs := [.tmp 4]) rfl (Nat.le_of_ble_eq_true rfl) (by intro v hv; simp at hv; rcases hv with rfl | rfl <;> first | exact cb_deepA _ | trivial) ?_
  generalize hF : meetsV h b = F
  unfold meetsV at hF
  have hcl : (cb h).length = 32 := by rw [cb_len]; exact hl
  have htk : (cb h).take 32 = cb h := List.take_of_length_le (by omega)
  simp [go_sem, hcl, htk]
  refine cl_eq (expand_fn b hb) (by simp [AV.deep, AV.deep1]) ?_
  have hel := expV_len b
  generalize expV b = E at *
  obtain ⟨W, e⟩ := E
  simp only at hF hel
  have dz : [AV.d (DV.int IntKind.u64 0), AV.d (DV.int IntKind.u64 0), AV.d (DV.int IntKind.u64 0), AV.d (DV.int IntKind.u64 0)].drop 4 = [] := rfl
  have tW : (cW W).take 4 = cW W := List.take_of_length_le (by rw [cW_len]; omega)
  by_cases c1 : e = 0
  · subst c1
    simp [go_sem, cW_len, hel, tW, dz]
    apply draw2 (0 :: 1 :: 2 :: 3 :: 5 :: []) ((4, ([])) :: (6, (7 :: 8 :: 9 :: [])) :: []) 2 (k := 10) (by kernel_rfl) (by kernel_rfl) rfl
    case hz => repeat (first | exact Its.nil | apply Its.plain rfl | apply Its.guard rfl rfl)
    case hj => repeat (first | exact Jts.nil | exact Its.nil | apply Its.plain rfl | apply Its.guard rfl rfl | apply Jts.plain rfl | apply Jts.guard rfl rfl)
    intro G hG
    simp [go_sem, hcl, htk, cW_len, hel, tW]
    refine cl_eq (number_fn h hl hby) (by intro v hv; simp at hv; subst hv; exact cb_deepA _) ?_
    simp [go_sem, hcl, htk, cW_len, hel, tW]
    refine cl_eq (cmp_fn _ W (mulW_len _ _) hel) (by intro v hv; simp at hv; rcases hv with rfl | rfl <;> exact cW_deep _) ?_
    simp [go_sem]
    refine hG _ _ ?_
    simp [go_sem, resV]
    rw [← hF]
    exact post_same (by simp [AV.deep, AV.deep1]) (by simp)
  · have i1 : decide (e = 0) = false := decide_eq_false c1
    rw [i1, Bool.false_and] at hF
    subst hF
    simp [go_sem, cW_len, hel, tW, dz, c1]
    apply draw2 (0 :: 1 :: 2 :: 3 :: 5 :: []) ((4, ([])) :: (6, (7 :: 8 :: 9 :: [])) :: []) 2 (k := 10) (by kernel_rfl) (by kernel_rfl) rfl
    case hz => repeat (first | exact Its.nil | apply Its.plain rfl | apply Its.guard rfl rfl)
    case hj => repeat (first | exact Jts.nil | exact Its.nil | apply Its.plain rfl | apply Its.guard rfl rfl | apply Jts.plain rfl | apply Jts.guard rfl rfl)
    intro G hG
    simp [go_sem, c1]
    refine hG _ _ ?_
    simp [go_sem, resV]
    exact post_same (by simp [AV.deep, AV.deep1]) rfl
end Go.Proofs.Ytbkbcjhghmlphaa
