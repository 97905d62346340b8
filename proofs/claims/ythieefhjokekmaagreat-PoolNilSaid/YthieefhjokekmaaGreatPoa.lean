/-
  Pool: no pool, no view, a new pool.
-/
import Derived.Test.YthieefhjokekmaaGreatBkd
namespace Go.Proofs.YthieefhjokekmaaGreat
open Go.Am Go.Sha
set_option linter.unusedSimpArgs false
set_option linter.unusedVariables false

theorem isPtrP : isPtr Tryz.prog 28 = true := by kernel_rfl
theorem isPtrW : isPtr Tryz.prog 31 = true := by kernel_rfl
theorem zvw : tzO Tryz.prog 83 = some [.nil] := by kernel_rfl
theorem zpl : tzO Tryz.prog 86 = some [.nil] := by kernel_rfl
theorem zat : tzO Tryz.prog 34 = some [.d .nilp, .d (.int .u32 0), .d (.int .u32 0)] := by kernel_rfl
attribute [go_sem] isPtrP isPtrW zvw zpl zat
theorem newVw_fn : RetsE Tryz.prog 7 0 [] [] (fun r hp' => r = .ptr 65 0 0 1 ∧ lk 65 hp' = some ⟨83, 1, [[.nil]]⟩) := by
  refine fnE_of_awp Tryz.func7 (by kernel_rfl) rfl Tryz.ntmps7 (rs := [.tmp 0]) rfl (Nat.le_of_ble_eq_true rfl) (by decide) ?_
  simp [go_sem, resV, lk]
theorem newP_fn : RetsE Tryz.prog 10 0 [] [] (fun r hp' => r = .ptr 65 0 0 1 ∧ lk 65 hp' = some ⟨86, 1, [[.nil]]⟩) := by
  refine fnE_of_awp Tryz.func10 (by kernel_rfl) rfl Tryz.ntmps10 (rs := [.tmp 0]) rfl (Nat.le_of_ble_eq_true rfl) (by decide) ?_
  simp [go_sem, resV, lk]
theorem feeN_fn (h : List Nat) (hl : h.length = 32) : RetsE Tryz.prog 8 0 [] [.d .nilp, .agg (cb h)] (fun r hp' => r = .tup [.d (.int .u64 0), .d (.bool false)]) := by
  refine fnE_of_awp Tryz.func8 (by kernel_rfl) rfl Tryz.ntmps8 (rs := [.tmp 4, .tmp 5]) rfl (Nat.le_of_ble_eq_true rfl) (by decide) ?_
  simp [go_sem, resV, lk, cb_len, hl]
theorem refreshN_fn (t : Tn) : RetsE Tryz.prog 9 2 [(0, ⟨83, 1, [[.nil]]⟩), (1, ⟨26, 4, [eT t]⟩)] [.d .nilp, .own 1 0 1 1, .agg [.ptr 0 0 0 1, .d (.int .u32 0), .d (.int .u32 0)]] (fun r hp' => r = .tup [] ∧ lk 0 hp' = some ⟨83, 1, [[.nil]]⟩ ∧ lk 1 hp' = some ⟨26, 4, [eT t]⟩) := by
  refine fnE_of_awp Tryz.func9 (by kernel_rfl) rfl Tryz.ntmps9 (rs := []) rfl (Nat.le_of_ble_eq_true rfl) (by decide) ?_
  simp [go_sem, resV, lk]
theorem refreshQ_fn (t : Tn) : RetsE Tryz.prog 9 2 [(0, ⟨86, 1, [[.nil]]⟩), (1, ⟨26, 4, [eT t]⟩)] [.ptr 0 0 0 1, .own 1 0 1 1, .agg [.d .nilp, .d (.int .u32 0), .d (.int .u32 0)]] (fun r hp' => r = .tup [] ∧ lk 0 hp' = some ⟨86, 1, [[.nil]]⟩ ∧ lk 1 hp' = some ⟨26, 4, [eT t]⟩) := by
  refine fnE_of_awp Tryz.func9 (by kernel_rfl) rfl Tryz.ntmps9 (rs := []) rfl (Nat.le_of_ble_eq_true rfl) (by decide) ?_
  simp [go_sem, resV, lk]
theorem acceptN_fn (t : Tn) : RetsE Tryz.prog 11 1 [(0, ⟨83, 1, [[.nil]]⟩)] [.d .nilp, .agg (eT t), .agg [.ptr 0 0 0 1, .d (.int .u32 0), .d (.int .u32 0)]] (fun r hp' => r = .d (.int .i64 1) ∧ lk 0 hp' = some ⟨83, 1, [[.nil]]⟩) := by
  refine fnE_of_awp Tryz.func11 (by kernel_rfl) rfl Tryz.ntmps11 (rs := [.tmp 6]) rfl (Nat.le_of_ble_eq_true rfl) (by decide) ?_
  simp [go_sem, resV, lk, eT_len, eT_take]
theorem acceptQ_fn : RetsE Tryz.prog 11 1 [(0, ⟨86, 1, [[.nil]]⟩)] [.ptr 0 0 0 1, .agg [.d (.int .u32 0), .nil, .nil, .d (.int .u32 0)], .agg [.d .nilp, .d (.int .u32 0), .d (.int .u32 0)]] (fun r hp' => r = .d (.int .i64 1) ∧ lk 0 hp' = some ⟨86, 1, [[.nil]]⟩) := by
  refine fnE_of_awp Tryz.func11 (by kernel_rfl) rfl Tryz.ntmps11 (rs := [.tmp 6]) rfl (Nat.le_of_ble_eq_true rfl) (by decide) ?_
  simp [go_sem, resV, lk]
theorem pairN_fn (t : Tn) : RetsE Tryz.prog 12 1 [(0, ⟨83, 1, [[.nil]]⟩)] [.d .nilp, .agg (eT t), .agg (eT t), .agg [.ptr 0 0 0 1, .d (.int .u32 0), .d (.int .u32 0)]] (fun r hp' => r = .d (.int .i64 1) ∧ lk 0 hp' = some ⟨83, 1, [[.nil]]⟩) := by
  refine fnE_of_awp Tryz.func12 (by kernel_rfl) rfl Tryz.ntmps12 (rs := [.tmp 8]) rfl (Nat.le_of_ble_eq_true rfl) (by decide) ?_
  simp [go_sem, resV, lk, eT_len, eT_take]
theorem pairQ_fn (t : Tn) : RetsE Tryz.prog 12 1 [(0, ⟨86, 1, [[.nil]]⟩)] [.ptr 0 0 0 1, .agg (eT t), .agg (eT t), .agg [.d .nilp, .d (.int .u32 0), .d (.int .u32 0)]] (fun r hp' => r = .d (.int .i64 1) ∧ lk 0 hp' = some ⟨86, 1, [[.nil]]⟩) := by
  refine fnE_of_awp Tryz.func12 (by kernel_rfl) rfl Tryz.ntmps12 (rs := [.tmp 8]) rfl (Nat.le_of_ble_eq_true rfl) (by decide) ?_
  simp [go_sem, resV, lk, eT_len, eT_take]
theorem lenN_fn : RetsE Tryz.prog 13 0 [] [.d .nilp] (fun r hp' => r = .d (.int .i64 0)) := by
  refine fnE_of_awp Tryz.func13 (by kernel_rfl) rfl Tryz.ntmps13 (rs := [.tmp 2]) rfl (Nat.le_of_ble_eq_true rfl) (by decide) ?_
  simp [go_sem, resV, lk]
theorem lenQ_fn : RetsE Tryz.prog 13 1 [(0, ⟨86, 1, [[.nil]]⟩)] [.ptr 0 0 0 1] (fun r hp' => r = .d (.int .i64 0) ∧ lk 0 hp' = some ⟨86, 1, [[.nil]]⟩) := by
  refine fnE_of_awp Tryz.func13 (by kernel_rfl) rfl Tryz.ntmps13 (rs := [.tmp 2]) rfl (Nat.le_of_ble_eq_true rfl) (by decide) ?_
  simp [go_sem, resV, lk]
theorem sizeN_fn : RetsE Tryz.prog 14 0 [] [.d .nilp] (fun r hp' => r = .d (.int .i64 0)) := by
  refine fnE_of_awp Tryz.func14 (by kernel_rfl) rfl Tryz.ntmps14 (rs := [.tmp 2]) rfl (Nat.le_of_ble_eq_true rfl) (by decide) ?_
  simp [go_sem, resV, lk]
theorem listN_fn : RetsE Tryz.prog 15 0 [] [.d .nilp] (fun r hp' => r = .nil) := by
  refine fnE_of_awp Tryz.func15 (by kernel_rfl) rfl Tryz.ntmps15 (rs := [.tmp 2]) rfl (Nat.le_of_ble_eq_true rfl) (by decide) ?_
  simp [go_sem, resV, lk]
theorem dropN_fn (h : List Nat) (hl : h.length = 32) : RetsE Tryz.prog 16 0 [] [.d .nilp, .agg (cb h)] (fun r hp' => r = .d (.int .i64 0)) := by
  refine fnE_of_awp Tryz.func16 (by kernel_rfl) rfl Tryz.ntmps16 (rs := [.tmp 4]) rfl (Nat.le_of_ble_eq_true rfl) (by decide) ?_
  simp [go_sem, resV, lk, cb_len, hl]
theorem templateN_fn : RetsE Tryz.prog 17 1 [(0, ⟨83, 1, [[.nil]]⟩)] [.d .nilp, .nil, .agg [.ptr 0 0 0 1, .d (.int .u32 0), .d (.int .u32 0)]] (fun r hp' => r = .nil ∧ lk 0 hp' = some ⟨83, 1, [[.nil]]⟩) := by
  refine fnE_of_awp Tryz.func17 (by kernel_rfl) rfl Tryz.ntmps17 (rs := [.tmp 6]) rfl (Nat.le_of_ble_eq_true rfl) (by decide) ?_
  simp [go_sem, resV, lk]
theorem templateQ_fn : RetsE Tryz.prog 17 1 [(0, ⟨86, 1, [[.nil]]⟩)] [.ptr 0 0 0 1, .nil, .agg [.d .nilp, .d (.int .u32 0), .d (.int .u32 0)]] (fun r hp' => r = .nil ∧ lk 0 hp' = some ⟨86, 1, [[.nil]]⟩) := by
  refine fnE_of_awp Tryz.func17 (by kernel_rfl) rfl Tryz.ntmps17 (rs := [.tmp 6]) rfl (Nat.le_of_ble_eq_true rfl) (by decide) ?_
  simp [go_sem, resV, lk]
end Go.Proofs.YthieefhjokekmaaGreat
