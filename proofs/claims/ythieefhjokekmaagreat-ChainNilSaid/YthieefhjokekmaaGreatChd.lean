/-
  Chain: the law ChainNil.
-/
import Derived.Test.YthieefhjokekmaaGreatChc
namespace Go.Proofs.YthieefhjokekmaaGreat
open Go.Am Go.Sha
set_option linter.unusedSimpArgs false
set_option linter.unusedVariables false

theorem cz_ren (ρ : Nat → Nat) : AV.renL ρ cz = cz := rfl
theorem cz_low (n : Nat) : ∀ v, v ∈ cz → v.low1 n := cb_low n z32
theorem atX_fn : RetsE Tryz.prog 22 2 [(0, ⟨105, 4, [[.nil, .nil, .d (.int .i64 (-1)), .ptr 1 0 0 1]]⟩), (1, ⟨83, 1, [[.nil]]⟩)] [.ptr 0 0 0 1, .d (.int .u32 0)] (fun r hp' => r = .tup [.agg cz, .d (.bool true)] ∧ lk 0 hp' = some ⟨105, 4, [[.nil, .nil, .d (.int .i64 (-1)), .ptr 1 0 0 1]]⟩ ∧ lk 1 hp' = some ⟨83, 1, [[.nil]]⟩) := by
  refine fnE_of_awp Tryz.func22 (by kernel_rfl) rfl Tryz.ntmps22 (rs := [.cell 4 27, .tmp 5]) rfl (Nat.le_of_ble_eq_true rfl) (by decide) ?_
  simp [go_sem, cb_is, cz_len, cz_take, cz_drop, cz_ren]
  refine cl_eff [(0, 0), (1, 1)] heightX_fn rfl (by simp) (by simp [lk]) (by simp [lk, Blk.ren, renR, AV.ren, AV.renL, rho, swp]) (by simp [AV.renL, AV.ren, rho, swp, lk, cb_is, cz_len, cz_take, cz_drop, cz_ren]) ?_
  rintro r hp' ⟨rfl, h0, h1⟩
  refine ⟨[], rfl, ?_⟩
  simp [go_sem, outH, outP, h0, h1, Blk.ren, renR, AV.ren, AV.renL, rho, lk, cb_is, cz_len, cz_take, cz_drop, cz_ren]
  clear h0 h1 hp'
  refine loop_of (fun _ : Unit => ⟨[(0, .ptr 0 0 0 1), (1, .d (.int .u32 0)), (4, .ptr 3 0 0 1), (6, .d (.int .i64 (-1)))], [(3, ⟨27, 32, [cz]⟩), (0, ⟨105, 4, [[.nil, .nil, .d (.int .i64 (-1)), .ptr 1 0 0 1]]⟩), (1, ⟨83, 1, [[.nil]]⟩)], 2000⟩)
    (fun _ => True) (fun _ => 0) () trivial (by
      simp [Weak, slotOk, fv, lk, AV.low, AV.low1]
      exact cz_low _) ?_
  intro _ _
  simp [go_sem, cb_is, cz_len, cz_take, cz_drop, cz_ren]
  refine cl_eff [(0, 0), (1, 1)] heightX_fn rfl (by simp) (by simp [lk]) (by simp [lk, Blk.ren, renR, AV.ren, AV.renL, rho, swp]) (by simp [AV.renL, AV.ren, rho, swp, lk, cb_is, cz_len, cz_take, cz_drop, cz_ren]) ?_
  rintro r hp' ⟨rfl, h0, h1⟩
  refine ⟨[], rfl, ?_⟩
  simp [go_sem, outH, outP, h0, h1, Blk.ren, renR, AV.ren, AV.renL, rho, lk, cb_is, cz_len, cz_take, cz_drop, cz_ren, resV]
theorem lenX_fn : RetsE Tryz.prog 26 2 [(0, ⟨105, 4, [[.nil, .nil, .d (.int .i64 (-1)), .ptr 1 0 0 1]]⟩), (1, ⟨83, 1, [[.nil]]⟩)] [.ptr 0 0 0 1] (fun r hp' => r = .d (.int .i64 0) ∧ lk 0 hp' = some ⟨105, 4, [[.nil, .nil, .d (.int .i64 (-1)), .ptr 1 0 0 1]]⟩ ∧ lk 1 hp' = some ⟨83, 1, [[.nil]]⟩) := by
  refine fnE_of_awp Tryz.func26 (by kernel_rfl) rfl Tryz.ntmps26 (rs := [.tmp 2]) rfl (Nat.le_of_ble_eq_true rfl) (by decide) ?_
  simp [go_sem, resV, lk]
theorem listX_fn : RetsE Tryz.prog 101 1 [(0, ⟨83, 1, [[.nil]]⟩)] [.ptr 0 0 0 1] (fun r hp' => r = .nil ∧ lk 0 hp' = some ⟨83, 1, [[.nil]]⟩) := by
  refine fnE_of_awp Tryz.func101 (by kernel_rfl) rfl Tryz.ntmps101 (rs := [.tmp 2]) rfl (Nat.le_of_ble_eq_true rfl) (by decide) ?_
  simp [go_sem]
  refine loop_of (fun _ : Unit => ⟨[(0, .ptr 0 0 0 1), (3, .nil), (11, .nil), (12, .d (.int .i64 0)), (13, .d (.int .i64 0))], [(0, ⟨83, 1, [[.nil]]⟩)], 1000⟩)
    (fun _ => True) (fun _ => 0) () trivial (by
      simp [Weak, slotOk, fv, lk, AV.low, AV.low1]) ?_
  intro _ _
  simp [go_sem, resV, lk]
theorem copyX_fn : RetsE Tryz.prog 61 1 [(0, ⟨83, 1, [[.nil]]⟩)] [.ptr 0 0 0 1] (fun r hp' => r = .ptr 194 0 0 1 ∧ lk 0 hp' = some ⟨83, 1, [[.nil]]⟩ ∧ lk 194 hp' = some ⟨83, 1, [[.nil]]⟩) := by
  refine fnE_of_awp Tryz.func61 (by kernel_rfl) rfl Tryz.ntmps61 (rs := [.tmp 2]) rfl (Nat.le_of_ble_eq_true rfl) (by decide) ?_
  simp [go_sem]
  refine cl_eff [(0, 0)] listX_fn rfl (by simp) (by simp [lk]) (by simp [lk, Blk.ren, renR, AV.ren, AV.renL, rho, swp]) (by simp [AV.renL, AV.ren, rho, swp, lk]) ?_
  rintro r hp' ⟨rfl, h0⟩
  refine ⟨[], rfl, ?_⟩
  simp [go_sem, outH, outP, h0, Blk.ren, renR, AV.ren, AV.renL, rho, lk, resV]
theorem coinsX_fn : RetsE Tryz.prog 28 2 [(0, ⟨105, 4, [[.nil, .nil, .d (.int .i64 (-1)), .ptr 1 0 0 1]]⟩), (1, ⟨83, 1, [[.nil]]⟩)] [.ptr 0 0 0 1] (fun r hp' => r = .ptr 227 0 0 1 ∧ lk 0 hp' = some ⟨105, 4, [[.nil, .nil, .d (.int .i64 (-1)), .ptr 1 0 0 1]]⟩ ∧ lk 1 hp' = some ⟨83, 1, [[.nil]]⟩ ∧ lk 227 hp' = some ⟨83, 1, [[.nil]]⟩) := by
  refine fnE_of_awp Tryz.func28 (by kernel_rfl) rfl Tryz.ntmps28 (rs := [.tmp 2]) rfl (Nat.le_of_ble_eq_true rfl) (by decide) ?_
  simp [go_sem]
  refine cl_eff [(0, 1)] copyX_fn rfl (by simp) (by simp [lk]) (by simp [lk, Blk.ren, renR, AV.ren, AV.renL, rho, swp]) (by simp [AV.renL, AV.ren, rho, swp, lk]) ?_
  rintro r hp' ⟨rfl, h0, h1⟩
  refine ⟨[(194, 0)], rfl, ?_⟩
  simp [go_sem, outH, outP, h0, h1, Blk.ren, renR, AV.ren, AV.renL, rho, lk, resV]
end Go.Proofs.YthieefhjokekmaaGreat
