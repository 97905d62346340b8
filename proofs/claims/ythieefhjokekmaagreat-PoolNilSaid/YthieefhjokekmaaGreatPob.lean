/-
  Pool: a first transaction.
-/
import Derived.Test.YthieefhjokekmaaGreatPoa
namespace Go.Proofs.YthieefhjokekmaaGreat
open Go.Am Go.Sha
set_option linter.unusedSimpArgs false
set_option linter.unusedVariables false

theorem subs3_fn : RetsE Tryz.prog 81 0 [] [.d (.int .u32 3)] (fun r hp' => r = .d (.int .u64 5000000000)) := by
  refine fnE_of_awp Tryz.func81 (by kernel_rfl) rfl Tryz.ntmps81 (rs := [.tmp 2]) rfl (Nat.le_of_ble_eq_true rfl) (by decide) ?_
  have w0 : IntKind.u32.wrap 0 = 0 := rfl
  have w1 : IntKind.u32.wrap (Int.tdiv 3 32) = 0 := rfl
  have w2 : IntKind.u64.wrap 5000000000 = 5000000000 := rfl
  simp [go_sem, resV, lk, w0, w1, w2]
theorem clone51_fn : RetsE Tryz.prog 82 1 [(0, ⟨5, 1, [[.d (.int .u8 81)]]⟩)] [.own 0 0 1 1] (fun r hp' => ∃ I, r = .own I 0 1 1 ∧ 1 < I ∧ lk 0 hp' = some ⟨5, 1, [[.d (.int .u8 81)]]⟩ ∧ lk I hp' = some ⟨5, 1, [[.d (.int .u8 81)]]⟩) := by
  refine fnE_of_awp Tryz.func82 (by kernel_rfl) rfl Tryz.ntmps82 (rs := [.tmp 2]) rfl (Nat.le_of_ble_eq_true rfl) (by decide) ?_
  simp [go_sem, resV, lk]
theorem zref0 : tzO Tryz.prog 77 = some (cb z32 ++ [.d (.int .u32 0)]) := by kernel_rfl
def cF : List AV := cb z32 ++ [.d (.int .u32 4294967295), .d (.int .u32 4294967295), .nil]
theorem first_fn : RetsE Tryz.prog 43 1 [(0, ⟨5, 1, [[.d (.int .u8 81)]]⟩)] [.own 0 0 1 1, .d (.int .u32 3), .d (.int .u64 0)] (fun r hp' => r = .agg [.d (.int .u32 2), .own 514 0 1 1, .own 578 0 1 1, .d (.int .u32 3)] ∧ lk 0 hp' = some ⟨5, 1, [[.d (.int .u8 81)]]⟩ ∧ lk 322 hp' = some ⟨5, 1, [[.d (.int .u8 81)]]⟩ ∧ lk 514 hp' = some ⟨80, 35, [cF]⟩ ∧ lk 578 hp' = some ⟨75, 2, [[.d (.int .u64 5000000000), .own 322 0 1 1]]⟩) := by
  refine fnE_of_awp Tryz.func43 (by kernel_rfl) rfl Tryz.ntmps43 (rs := [.cell 6 26]) rfl (Nat.le_of_ble_eq_true rfl) (by decide) ?_
  have w0 : IntKind.u64.wrap 5000000000 = 5000000000 := rfl
  simp [go_sem]
  refine cl_eff [] subs3_fn rfl (by simp) (by simp) (by simp) (by simp [AV.renL, AV.ren]) ?_
  rintro r hp' rfl
  refine ⟨[], rfl, ?_⟩
  simp [go_sem, outH, outP, Blk.ren, renR, AV.ren, AV.renL, rho, lk, w0]
  clear hp'
  refine cl_eff [(0, 0)] clone51_fn rfl (by simp) (by simp [lk]) (by simp [lk, Blk.ren, renR, AV.ren, AV.renL, rho, swp]) (by simp [AV.renL, AV.ren, rho, swp, lk]) ?_
  rintro r hp' ⟨I, rfl, hI, h0, h1⟩
  refine ⟨[(I, 0)], by simp [newsB, prsB]; omega, ?_⟩
  simp [go_sem, outH, outP, h0, h1, Blk.ren, renR, AV.ren, AV.renL, rho, lk, w0]
  have hI0 : ¬ 0 = I := by omega
  simp [hI0]
  rfl
theorem cF_ren (ρ : Nat → Nat) : AV.renL ρ cF = cF := rfl
theorem cF_len : cF.length = 35 := by kernel_rfl
theorem cF_low (n : Nat) : ∀ v, v ∈ cF → v.low1 n := by
  intro v hv
  unfold cF at hv
  rcases List.mem_append.1 hv with hv | hv
  · exact cb_low n z32 v hv
  · simp at hv
    rcases hv with rfl | rfl | rfl <;> trivial
set_option maxHeartbeats 2000000 in
theorem templateX_fn : RetsE Tryz.prog 17 3 [(0, ⟨86, 1, [[.nil]]⟩), (1, ⟨83, 1, [[.nil]]⟩), (2, ⟨5, 1, [[.d (.int .u8 81)]]⟩)] [.ptr 0 0 0 1, .own 2 0 1 1, .agg [.ptr 1 0 0 1, .d (.int .u32 3), .d (.int .u32 0)]] (fun r hp' => r = .own 580 0 1 1 ∧ lk 0 hp' = some ⟨86, 1, [[.nil]]⟩ ∧ lk 1 hp' = some ⟨83, 1, [[.nil]]⟩ ∧ lk 2 hp' = some ⟨5, 1, [[.d (.int .u8 81)]]⟩ ∧ lk 580 hp' = some ⟨26, 4, [[.d (.int .u32 2), .own 2384 0 1 1, .own 2385 0 1 1, .d (.int .u32 3)]]⟩ ∧ lk 2384 hp' = some ⟨80, 35, [cF]⟩ ∧ lk 2385 hp' = some ⟨75, 2, [[.d (.int .u64 5000000000), .own 2386 0 1 1]]⟩ ∧ lk 2386 hp' = some ⟨5, 1, [[.d (.int .u8 81)]]⟩) := by
  refine fnE_of_awp Tryz.func17 (by kernel_rfl) rfl Tryz.ntmps17 (rs := [.tmp 6]) rfl (Nat.le_of_ble_eq_true rfl) (by decide) ?_
  have w0 : IntKind.u64.wrap 0 = 0 := rfl
  simp [go_sem]
  refine cl_eff [(0, 2)] first_fn rfl (by simp) (by simp [lk]) (by simp [lk, Blk.ren, renR, AV.ren, AV.renL, rho, swp]) (by simp [AV.renL, AV.ren, rho, swp, lk]) ?_
  rintro r hp' ⟨rfl, h0, h1, h2, h3⟩
  refine ⟨[(514, 0), (578, 1), (322, 2)], rfl, ?_⟩
  simp [go_sem, outH, outP, h0, h1, h2, h3, Blk.ren, renR, AV.ren, AV.renL, rho, lk, cF_ren]
  clear h0 h1 h2 h3 hp'
  refine loop_of (fun _ : Unit => ⟨[(0, .ptr 0 0 0 1), (1, .own 2 0 1 1), (5, .ptr 4 0 0 1), (7, .own 580 0 1 1), (8, .d (.int .u64 0)), (9, .nil), (10, .d (.int .i64 0))], [(580, ⟨26, 4, [[.d (.int .u32 2), .own 548 0 1 1, .own 549 0 1 1, .d (.int .u32 3)]]⟩), (548, ⟨80, 35, [cF]⟩), (549, ⟨75, 2, [[.d (.int .u64 5000000000), .own 550 0 1 1]]⟩), (550, ⟨5, 1, [[.d (.int .u8 81)]]⟩), (4, ⟨34, 3, [[.ptr 1 0 0 1, .d (.int .u32 3), .d (.int .u32 0)]]⟩), (0, ⟨86, 1, [[.nil]]⟩), (1, ⟨83, 1, [[.nil]]⟩), (2, ⟨5, 1, [[.d (.int .u8 81)]]⟩)], 2000⟩)
    (fun _ => True) (fun _ => 0) () trivial (by
      simp [Weak, slotOk, fv, lk, AV.low, AV.low1]
      exact cF_low _) ?_
  intro _ _
  simp [go_sem]
  refine cl_eff [(0, 2)] first_fn rfl (by simp) (by simp [lk]) (by simp [lk, Blk.ren, renR, AV.ren, AV.renL, rho, swp]) (by simp [AV.renL, AV.ren, rho, swp, lk]) ?_
  rintro r hp' ⟨rfl, h0, h1, h2, h3⟩
  refine ⟨[(514, 0), (578, 1), (322, 2)], rfl, ?_⟩
  simp [go_sem, outH, outP, h0, h1, h2, h3, Blk.ren, renR, AV.ren, AV.renL, rho, lk, cF_ren, resV]
end Go.Proofs.YthieefhjokekmaaGreat
