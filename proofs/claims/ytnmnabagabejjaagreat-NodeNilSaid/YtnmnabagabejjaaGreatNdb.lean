/-
  Bytes taken off, as they stand: splits, numbers of four bytes.
-/
import Derived.Test.YtnmnabagabejjaaGreatNda
namespace Go.Proofs.YtnmnabagabejjaaGreat
open Go.Am Go.Sha
set_option linter.unusedSimpArgs false
set_option linter.unusedVariables false

theorem nb_take (l : List Nat) (n : Nat) : DV.ro 1 ((l.map fun (x : Nat) => [DV.int .u8 (x : Int)]).take n) = nb (l.take n) := by simp [nb, List.map_take]
theorem nb_drop (l : List Nat) (n : Nat) : DV.ro 1 ((l.map fun (x : Nat) => [DV.int .u8 (x : Int)]).drop n) = nb (l.drop n) := by simp [nb, List.map_drop]
theorem split_fn (l : List Nat) (n : Nat) (h : n ≤ l.length) (hb : l.length ≤ 1000000) : Rets Tryz.prog 170 [.d (nb l), .d (.int .i64 (n : Int))] (fun r => r = .tup [.d (nb (l.take n)), .d (nb (l.drop n)), .d (.int .i64 0)]) := by
  refine fn_of_awp Tryz.func170 (by kernel_rfl) rfl Tryz.ntmps170 (rs := [.tmp 4, .tmp 5, .tmp 6]) rfl (Nat.le_of_ble_eq_true rfl) (by simp [AV.deep, AV.deep1]) ?_
  have h1 : ¬ (n : Int) < 0 := by omega
  have h2 : ¬ (l.length : Int) < (n : Int) := by omega
  have h3 : (n : Int) ≤ (l.length : Int) := by omega
  have h4 : (0 : Int) ≤ (n : Int) := by omega
  simp [go_sem, nb, h1, h2]
  apply draw2 (0 :: 1 :: 2 :: 3 :: 4 :: 5 :: 6 :: 7 :: 8 :: []) ([]) 0 (k := 9) (by kernel_rfl) (by kernel_rfl) rfl
  case hz => repeat (first | exact Its.nil | apply Its.plain rfl | apply Its.guard rfl rfl)
  case hj => repeat (first | exact Jts.nil | exact Its.nil | apply Its.plain rfl | apply Its.guard rfl rfl | apply Jts.plain rfl | apply Jts.guard rfl rfl)
  intro G hG
  simp [go_sem, h1, h2, h3, h4]
  refine hG _ _ ?_
  simp [go_sem, resV]
  exact post_same (by simp [AV.deep, AV.deep1]) (by simp [nb]; rw [List.take_of_length_le (by simp)])
theorem copied_fn (l : List Nat) (hb : l.length ≤ 1000000) : Rets Tryz.prog 94 [.d (nb l)] (fun r => r = .d (nb l)) := by
  refine fn_of_awp Tryz.func94 (by kernel_rfl) rfl Tryz.ntmps94 (rs := [.tmp 2]) rfl (Nat.le_of_ble_eq_true rfl) (by simp [AV.deep, AV.deep1]) ?_
  simp [go_sem, nb, resV]
  refine ⟨by omega, ?_⟩
  rw [rb_of]
  exact post_bytes rfl (by simp [nb])
theorem takec_fn (l : List Nat) (n : Nat) (h : n ≤ l.length) (hb : l.length ≤ 1000000) : Rets Tryz.prog 259 [.d (nb l), .d (.int .i64 (n : Int))] (fun r => r = .tup [.d (nb (l.take n)), .d (nb (l.drop n)), .d (.int .i64 0)]) := by
  refine fn_of_awp Tryz.func259 (by kernel_rfl) rfl Tryz.ntmps259 (rs := [.tmp 4, .tmp 5, .tmp 6]) rfl (Nat.le_of_ble_eq_true rfl) (by simp [AV.deep, AV.deep1]) ?_
  simp [go_sem]
  refine cl_eq (split_fn l n h hb) (by simp [AV.deep, AV.deep1]) ?_
  simp [go_sem]
  refine cl_eq (copied_fn (l.take n) (by simp; omega)) (by simp [AV.deep, AV.deep1]) ?_
  simp [go_sem]
  refine cl_eq (copied_fn (l.drop n) (by simp; omega)) (by simp [AV.deep, AV.deep1]) ?_
  simp [go_sem, resV]
  exact post_same (by simp [AV.deep, AV.deep1]) rfl
theorem readc_fn (a : Nat) (t : List Nat) (ha : a < 256) (hb : t.length ≤ 1000) : Rets Tryz.prog 93 [.d (nb (a :: 0 :: 0 :: 0 :: t)), .d (.int .i64 4)] (fun r => r = .tup [.d (.int .u64 (a : Int)), .d (nb t), .d (.int .i64 0)]) := by
  refine fn_of_awp Tryz.func93 (by kernel_rfl) rfl Tryz.ntmps93 (rs := [.tmp 4, .tmp 5, .tmp 6]) rfl (Nat.le_of_ble_eq_true rfl) (by simp [AV.deep, AV.deep1]) ?_
  simp [go_sem]
  refine cl_eq (split_fn (a :: 0 :: 0 :: 0 :: t) 4 (by simp) (by simp; omega)) (by simp [AV.deep, AV.deep1]) ?_
  have hd : List.drop 4 (a :: 0 :: 0 :: 0 :: t) = t := rfl
  have ht : List.take 4 (a :: 0 :: 0 :: 0 :: t) = [a, 0, 0, 0] := rfl
  rw [hd, ht]
  have hn : nb [a, 0, 0, 0] = .ro 1 [[.int .u8 (a : Int)], [.int .u8 0], [.int .u8 0], [.int .u8 0]] := rfl
  simp [go_sem, hn]
  refine loop_of (fun k : Nat => ⟨[(7, .d (.ro 1 [[.int .u8 (a : Int)], [.int .u8 0], [.int .u8 0], [.int .u8 0]])), (8, .d (nb t)), (9, .d (.int .i64 0)), (10, .d (.int .u64 (if k = 0 then 0 else (a : Int)))), (20, .d (.int .i64 4)), (21, .d (.int .i64 (k : Int)))], [], 1000⟩)
    (fun k => k ≤ 4) (fun k => 4 - k) 0 (by omega) (by
      simp [Weak, slotOk, fv, lk, AV.low, AV.low1]) ?_
  intro k hk
  have w0 : IntKind.u64.wrap (a : Int) = (a : Int) := by rw [u64w]; omega
  have wz : IntKind.u64.wrap 0 = 0 := by decide
  have b0 : bits .or .u64 0 (a : Int) = (a : Int) := by have := or64 0 a (by omega) (by omega); simpa using this
  have b1 : bits .or .u64 (a : Int) 0 = (a : Int) := by have := or64 a 0 (by omega) (by omega); simpa using this
  have v0 : IntKind.i64.wrap 0 = 0 := by decide
  have v1 : IntKind.i64.wrap 1 = 1 := by decide
  have v2 : IntKind.i64.wrap 2 = 2 := by decide
  have v3 : IntKind.i64.wrap 3 = 3 := by decide
  have v4 : IntKind.i64.wrap 4 = 4 := by decide
  have v8 : IntKind.i64.wrap 8 = 8 := by decide
  have v16 : IntKind.i64.wrap 16 = 16 := by decide
  have v24 : IntKind.i64.wrap 24 = 24 := by decide
  have hc : k = 0 ∨ k = 1 ∨ k = 2 ∨ k = 3 ∨ k = 4 := by omega
  rcases hc with rfl | rfl | rfl | rfl | rfl
  · simp [go_sem, w0, wz, b0, b1, v0, v1]
    refine next_of 1 (by omega) (by omega) ?_
    simp [Weak, slotOk, fv, lk, AV.low, AV.low1]
  · simp [go_sem, w0, wz, b0, b1, v2, v8]
    refine next_of 2 (by omega) (by omega) ?_
    simp [Weak, slotOk, fv, lk, AV.low, AV.low1]
  · simp [go_sem, w0, wz, b0, b1, v3, v16]
    refine next_of 3 (by omega) (by omega) ?_
    simp [Weak, slotOk, fv, lk, AV.low, AV.low1]
  · simp [go_sem, w0, wz, b0, b1, v4, v24]
    refine next_of 4 (by omega) (by omega) ?_
    simp [Weak, slotOk, fv, lk, AV.low, AV.low1]
  · simp [go_sem, resV]
    exact post_same (by simp [AV.deep, AV.deep1]) rfl
theorem take32_fn (a : Nat) (t : List Nat) (ha : a < 256) (hb : t.length ≤ 1000) : Rets Tryz.prog 51 [.d (nb (a :: 0 :: 0 :: 0 :: t))] (fun r => r = .tup [.d (.int .u32 (a : Int)), .d (nb t), .d (.int .i64 0)]) := by
  refine fn_of_awp Tryz.func51 (by kernel_rfl) rfl Tryz.ntmps51 (rs := [.tmp 2, .tmp 3, .tmp 4]) rfl (Nat.le_of_ble_eq_true rfl) (by simp [AV.deep, AV.deep1]) ?_
  have w0 : IntKind.u32.wrap (a : Int) = (a : Int) := by rw [u32w]; omega
  simp [go_sem]
  refine cl_eq (readc_fn a t ha hb) (by simp [AV.deep, AV.deep1]) ?_
  simp [go_sem]
  refine cl_eq (copied_fn t (by omega)) (by simp [AV.deep, AV.deep1]) ?_
  simp [go_sem, resV, w0]
  exact post_same (by simp [AV.deep, AV.deep1]) rfl
/-- The number of four noughts. -/
theorem snum_fn (l : List Nat) (hl : l.take 4 = [0, 0, 0, 0]) (h4 : 4 ≤ l.length) : Rets Tryz.prog 32 [.d (nb l), .d (.int .i64 0)] (fun r => r = .d (.int .i64 0)) := by
  refine fn_of_awp Tryz.func32 (by kernel_rfl) rfl Tryz.ntmps32 (rs := [.tmp 4]) rfl (Nat.le_of_ble_eq_true rfl) (by simp [AV.deep, AV.deep1]) ?_
  have v4 : IntKind.i64.wrap 4 = 4 := by decide
  have v0 : IntKind.i64.wrap 0 = 0 := by decide
  have h4' : (4 : Int) ≤ (l.length : Int) := by omega
  have e : DV.ro 1 (List.take 4 (l.map fun (x : Nat) => [DV.int .u8 (x : Int)])) = nb [0, 0, 0, 0] := by rw [nb_take, hl]
  simp [go_sem, nb, v4, h4']
  rw [e]
  refine cl_eq (take32_fn 0 [] (by omega) (by simp)) (by simp [AV.deep, AV.deep1]) ?_
  simp [go_sem, resV, v0]
  exact post_same (by simp [AV.deep, AV.deep1]) rfl
theorem cloneE_fn : Rets Tryz.prog 40 [.d (nb [])] (fun r => r = .d (nb [])) := by
  refine fn_of_awp Tryz.func40 (by kernel_rfl) rfl Tryz.ntmps40 (rs := [.tmp 2]) rfl (Nat.le_of_ble_eq_true rfl) (by simp [AV.deep, AV.deep1]) ?_
  simp [go_sem, nb, resV]
  refine ⟨?_, post_one (snap1_d (.nil 1)) (by simp [AV.deep, AV.deep1]) rfl⟩
  exact post_one (snap1_d (snap_row (es := []) (e := 1) rfl trivial rfl (by simp))) (by simp [AV.deep, AV.deep1]) rfl
end Go.Proofs.YtnmnabagabejjaaGreat
