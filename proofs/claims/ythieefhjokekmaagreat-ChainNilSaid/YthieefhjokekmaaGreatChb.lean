/-
  Chain: a new one, and an empty block.
-/
import Derived.Test.YthieefhjokekmaaGreatCha
namespace Go.Proofs.YthieefhjokekmaaGreat
open Go.Am Go.Sha
set_option linter.unusedSimpArgs false
set_option linter.unusedVariables false

def vwB : Blk := ⟨83, 1, [[.nil]]⟩
theorem zvw : tzO Tryz.prog 83 = some [.nil] := by kernel_rfl
theorem zch : tzO Tryz.prog 105 = some [.nil, .nil, .d (.int .i64 0), .d .nilp] := by kernel_rfl
attribute [go_sem] zvw zch
theorem newVw_fn : RetsE Tryz.prog 7 0 [] [] (fun r hp' => r = .ptr 65 0 0 1 ∧ lk 65 hp' = some ⟨83, 1, [[.nil]]⟩) := by
  refine fnE_of_awp Tryz.func7 (by kernel_rfl) rfl Tryz.ntmps7 (rs := [.tmp 0]) rfl (Nat.le_of_ble_eq_true rfl) (by decide) ?_
  simp [go_sem, resV, lk]
theorem newC_fn : RetsE Tryz.prog 48 0 [] [] (fun r hp' => r = .ptr 97 0 0 1 ∧ lk 97 hp' = some ⟨105, 4, [[.nil, .nil, .d (.int .i64 (-1)), .ptr 33 0 0 1]]⟩ ∧ lk 33 hp' = some ⟨83, 1, [[.nil]]⟩) := by
  refine fnE_of_awp Tryz.func48 (by kernel_rfl) rfl Tryz.ntmps48 (rs := [.tmp 0]) rfl (Nat.le_of_ble_eq_true rfl) (by decide) ?_
  simp [go_sem]
  refine cl_eff [] newVw_fn rfl (by simp) (by simp) (by simp) (by simp [AV.renL, AV.ren]) ?_
  rintro r hp' ⟨rfl, h0⟩
  refine ⟨[(65, 0)], rfl, ?_⟩
  simp [go_sem, outH, outP, h0, Blk.ren, renR, AV.ren, AV.renL, rho, resV, lk]
def chB (i : Nat) : Blk := ⟨105, 4, [[.nil, .nil, .d (.int .i64 (-1)), .ptr i 0 0 1]]⟩
theorem heightX_fn : RetsE Tryz.prog 51 2 [(0, ⟨105, 4, [[.nil, .nil, .d (.int .i64 (-1)), .ptr 1 0 0 1]]⟩), (1, ⟨83, 1, [[.nil]]⟩)] [.ptr 0 0 0 1, .d (.int .i64 (-1))] (fun r hp' => r = .d (.int .u32 0) ∧ lk 0 hp' = some ⟨105, 4, [[.nil, .nil, .d (.int .i64 (-1)), .ptr 1 0 0 1]]⟩ ∧ lk 1 hp' = some ⟨83, 1, [[.nil]]⟩) := by
  refine fnE_of_awp Tryz.func51 (by kernel_rfl) rfl Tryz.ntmps51 (rs := [.tmp 4]) rfl (Nat.le_of_ble_eq_true rfl) (by decide) ?_
  simp [go_sem, resV, lk]
theorem bitsX_fn : RetsE Tryz.prog 52 2 [(0, ⟨105, 4, [[.nil, .nil, .d (.int .i64 (-1)), .ptr 1 0 0 1]]⟩), (1, ⟨83, 1, [[.nil]]⟩)] [.ptr 0 0 0 1, .d (.int .i64 (-1))] (fun r hp' => r = .d (.int .u32 545259519) ∧ lk 0 hp' = some ⟨105, 4, [[.nil, .nil, .d (.int .i64 (-1)), .ptr 1 0 0 1]]⟩ ∧ lk 1 hp' = some ⟨83, 1, [[.nil]]⟩) := by
  refine fnE_of_awp Tryz.func52 (by kernel_rfl) rfl Tryz.ntmps52 (rs := [.tmp 4]) rfl (Nat.le_of_ble_eq_true rfl) (by decide) ?_
  simp [go_sem, resV, lk]
theorem rev0_fn : RetsE Tryz.prog 126 0 [] [.nil] (fun r hp' => r = .tup []) := by
  refine fnE_of_awp Tryz.func126 (by kernel_rfl) rfl Tryz.ntmps126 (rs := []) rfl (Nat.le_of_ble_eq_true rfl) (by decide) ?_
  have w1 : IntKind.i64.wrap (-1) = -1 := IntWalk.i64_in _ (by omega)
  simp [go_sem, w1]
  refine loop_of (fun _ : Unit => ⟨[(0, .nil), (2, .d (.int .i64 0)), (3, .d (.int .i64 (-1)))], [], 1000⟩)
    (fun _ => True) (fun _ => 0) () trivial (by
      simp [Weak, slotOk, fv, lk, AV.low, AV.low1]) ?_
  intro _ _
  simp [go_sem, resV, lk]
theorem rowX_fn : RetsE Tryz.prog 90 2 [(0, ⟨105, 4, [[.nil, .nil, .d (.int .i64 (-1)), .ptr 1 0 0 1]]⟩), (1, ⟨83, 1, [[.nil]]⟩)] [.ptr 0 0 0 1, .d (.int .i64 (-1)), .d (.int .i64 11)] (fun r hp' => r = .nil ∧ lk 0 hp' = some ⟨105, 4, [[.nil, .nil, .d (.int .i64 (-1)), .ptr 1 0 0 1]]⟩ ∧ lk 1 hp' = some ⟨83, 1, [[.nil]]⟩) := by
  refine fnE_of_awp Tryz.func90 (by kernel_rfl) rfl Tryz.ntmps90 (rs := [.tmp 6]) rfl (Nat.le_of_ble_eq_true rfl) (by decide) ?_
  simp [go_sem]
  refine loop_of (fun _ : Unit => ⟨[(0, .ptr 0 0 0 1), (1, .d (.int .i64 (-1))), (2, .d (.int .i64 11)), (7, .nil)], [(0, ⟨105, 4, [[.nil, .nil, .d (.int .i64 (-1)), .ptr 1 0 0 1]]⟩), (1, ⟨83, 1, [[.nil]]⟩)], 1000⟩)
    (fun _ => True) (fun _ => 0) () trivial (by
      simp [Weak, slotOk, fv, lk, AV.low, AV.low1]) ?_
  intro _ _
  simp [go_sem]
  refine cl_eff [] rev0_fn rfl (by simp) (by simp) (by simp) (by simp [AV.renL, AV.ren]) ?_
  rintro r hp' rfl
  refine ⟨[], rfl, ?_⟩
  simp [go_sem, outH, outP, Blk.ren, renR, AV.ren, AV.renL, rho, resV, lk]
theorem median0_fn : RetsE Tryz.prog 93 0 [] [.nil] (fun r hp' => r = .d (.int .u32 0)) := by
  refine fnE_of_awp Tryz.func93 (by kernel_rfl) rfl Tryz.ntmps93 (rs := [.tmp 2]) rfl (Nat.le_of_ble_eq_true rfl) (by decide) ?_
  simp [go_sem, resV, lk]
theorem medianX_fn : RetsE Tryz.prog 53 2 [(0, ⟨105, 4, [[.nil, .nil, .d (.int .i64 (-1)), .ptr 1 0 0 1]]⟩), (1, ⟨83, 1, [[.nil]]⟩)] [.ptr 0 0 0 1, .d (.int .i64 (-1))] (fun r hp' => r = .d (.int .u32 0) ∧ lk 0 hp' = some ⟨105, 4, [[.nil, .nil, .d (.int .i64 (-1)), .ptr 1 0 0 1]]⟩ ∧ lk 1 hp' = some ⟨83, 1, [[.nil]]⟩) := by
  refine fnE_of_awp Tryz.func53 (by kernel_rfl) rfl Tryz.ntmps53 (rs := [.tmp 4]) rfl (Nat.le_of_ble_eq_true rfl) (by decide) ?_
  simp [go_sem]
  refine cl_eff [(0, 0), (1, 1)] rowX_fn rfl (by simp) (by simp [lk]) (by simp [lk, Blk.ren, renR, AV.ren, AV.renL, rho, swp]) (by simp [AV.renL, AV.ren, rho, swp, lk]) ?_
  rintro r hp' ⟨rfl, h0, h1⟩
  refine ⟨[], rfl, ?_⟩
  simp [go_sem, outH, outP, h0, h1, Blk.ren, renR, AV.ren, AV.renL, rho, lk]
  clear h0 h1 hp'
  refine loop_of (fun _ : Unit => ⟨[(0, .ptr 0 0 0 1), (5, .nil), (10, .nil), (11, .d (.int .i64 0)), (12, .d (.int .i64 0))], [(0, ⟨105, 4, [[.nil, .nil, .d (.int .i64 (-1)), .ptr 1 0 0 1]]⟩), (1, ⟨83, 1, [[.nil]]⟩)], 1000⟩)
    (fun _ => True) (fun _ => 0) () trivial (by
      simp [Weak, slotOk, fv, lk, AV.low, AV.low1]) ?_
  intro _ _
  simp [go_sem]
  refine cl_eff [] median0_fn rfl (by simp) (by simp) (by simp) (by simp [AV.renL, AV.ren]) ?_
  rintro r hp' rfl
  refine ⟨[], rfl, ?_⟩
  simp [go_sem, outH, outP, Blk.ren, renR, AV.ren, AV.renL, rho, resV, lk]
end Go.Proofs.YthieefhjokekmaaGreat
