/-
  Chain: a new one, and an empty block: next, the block, accepted.
-/
import Derived.Test.YthieefhjokekmaaGreatChb
namespace Go.Proofs.YthieefhjokekmaaGreat
open Go.Am Go.Sha
set_option linter.unusedSimpArgs false
set_option linter.unusedVariables false

theorem hd0_ok : hd0.ok := by
  refine ⟨by decide, by decide, by decide, by decide, by decide, by decide, fun x hx => ?_, fun x hx => ?_⟩
  · have : x = 0 := List.eq_of_mem_replicate (show x ∈ List.replicate 32 0 from hx)
    omega
  · have : x = 0 := List.eq_of_mem_replicate (show x ∈ List.replicate 32 0 from hx)
    omega
theorem zBc_t68 : zBc.take 68 = eH hd0 := by kernel_rfl
set_option maxRecDepth 20000 in
theorem encode0_fn : Rets Tryz.prog 88 [.agg zBc] (fun r => ∃ b, r = .tup [.d (nb b), .d (.int .i64 0)]) := by
  refine fn_of_awp Tryz.func88 (by kernel_rfl) rfl Tryz.ntmps88 (rs := [.tmp 2, .tmp 3]) rfl (Nat.le_of_ble_eq_true rfl) one_zBc ?_
  simp [go_sem, zBc_len, zBc_take, zBc_get, zBc_g]
  apply draw2 (0 :: 1 :: 3 :: 4 :: 5 :: 6 :: []) ((2, ([])) :: (7, (8 :: [])) :: []) 2 (k := 9) (by kernel_rfl) (by kernel_rfl) rfl
  case hz => repeat (first | exact Its.nil | apply Its.plain rfl | apply Its.guard rfl rfl)
  case hj => repeat (first | exact Jts.nil | exact Its.nil | apply Its.plain rfl | apply Its.guard rfl rfl | apply Jts.plain rfl | apply Jts.guard rfl rfl)
  intro G hG
  simp [go_sem, zBc_len, zBc_t68, zBc_get, zBc_g]
  refine cl_eq (putHeader_fn hd0 hd0_ok) (one_eH hd0) ?_
  have hl := headB_len hd0_ok
  have w0 : IntKind.u64.wrap 0 = 0 := rfl
  simp [go_sem, zBc_len, zBc_t68, zBc_get, zBc_g]
  refine cl_eff [] (putSize_own (headB hd0) 0 (by rw [hl]; omega) (by omega)) rfl (by simp) (by simp) (by simp) (by simp [AV.renL, AV.ren, w0]) ?_
  rintro r hp' ⟨I, rfl, h0⟩
  refine ⟨[(I, 0)], by simp [newsB, prsB], ?_⟩
  have hB0 : (headB hd0 ++ putSize 0).length ≤ 85 := by rw [List.length_append, hl]; have := putSize_len 0; omega
  generalize headB hd0 ++ putSize 0 = B at *
  simp [go_sem, outH, outP, h0, Blk.ren, renR, rb_ren, AV.renL, AV.ren, rho]
  refine hG _ _ ?_
  clear hG G
  simp [go_sem, zBc_len, zBc_t68, zBc_get, zBc_g]
  refine loop_of (fun u : Unit => ⟨[(1, .ptr 0 0 0 1), (4, .own 448 0 B.length B.length), (20, .nil), (21, .d (.int .i64 0)), (22, .d (.int .i64 0))], [(448, ⟨5, 1, rb B⟩), (0, ⟨52, 69, [zBc]⟩)], 2000⟩)
    (fun u => True) (fun u => 0) () trivial (by
      simp [Weak, slotOk, fv, lk, AV.low, AV.low1]
      exact ⟨rb_low _ _, zBc_low _⟩) ?_
  intro _ _
  have hn : ¬ (40000 : Int) < (B.length : Int) := by omega
  simp [go_sem, resV, hn]
  exact post_bld rfl ⟨_, rfl⟩
theorem checkB0_fn : Rets Tryz.prog 85 [.agg zBc] (fun r => r = .d (.int .i64 0)) := by
  refine fn_of_awp Tryz.func85 (by kernel_rfl) rfl Tryz.ntmps85 (rs := [.tmp 2]) rfl (Nat.le_of_ble_eq_true rfl) one_zBc ?_
  simp [go_sem, zBc_len, zBc_take]
  refine cl_fn encode0_fn one_zBc ?_
  rintro r ⟨b, rfl⟩
  simp [go_sem, resV]
  exact post_same (by simp [AV.deep, AV.deep1]) rfl
theorem block0_fn : Rets Tryz.prog 94 [.agg zBc] (fun r => r = .d (.int .i64 30)) := by
  refine fn_of_awp Tryz.func94 (by kernel_rfl) rfl Tryz.ntmps94 (rs := [.tmp 2]) rfl (Nat.le_of_ble_eq_true rfl) one_zBc ?_
  simp [go_sem, zBc_len, zBc_take, zBc_get, zBc_g]
  refine cl_eq checkB0_fn one_zBc ?_
  simp [go_sem, resV, zBc_len, zBc_take, zBc_get, zBc_g]
  exact post_same (by simp [AV.deep, AV.deep1]) rfl
theorem nextX_fn : RetsE Tryz.prog 23 2 [(0, ⟨105, 4, [[.nil, .nil, .d (.int .i64 (-1)), .ptr 1 0 0 1]]⟩), (1, ⟨83, 1, [[.nil]]⟩)] [.ptr 0 0 0 1] (fun r hp' => r = .tup [.d (.int .u32 1), .d (.int .u32 545259519), .d (.int .u32 0)] ∧ lk 0 hp' = some ⟨105, 4, [[.nil, .nil, .d (.int .i64 (-1)), .ptr 1 0 0 1]]⟩ ∧ lk 1 hp' = some ⟨83, 1, [[.nil]]⟩) := by
  refine fnE_of_awp Tryz.func23 (by kernel_rfl) rfl Tryz.ntmps23 (rs := [.tmp 2, .tmp 3, .tmp 4]) rfl (Nat.le_of_ble_eq_true rfl) (by decide) ?_
  have w1 : IntKind.u32.wrap 1 = 1 := rfl
  simp [go_sem]
  apply draw2 (0 :: 1 :: 2 :: 3 :: 4 :: 7 :: 8 :: 9 :: 10 :: 11 :: 13 :: 14 :: 15 :: 16 :: 17 :: []) ((5, (6 :: [])) :: (12, ([])) :: (18, (19 :: 20 :: 21 :: [])) :: []) 3 (k := 22) (by kernel_rfl) (by kernel_rfl) rfl
  case hz => repeat (first | exact Its.nil | apply Its.plain rfl | apply Its.guard rfl rfl)
  case hj => repeat (first | exact Jts.nil | exact Its.nil | apply Its.plain rfl | apply Its.guard rfl rfl | apply Jts.plain rfl | apply Jts.guard rfl rfl)
  intro G hG
  simp [go_sem]
  refine cl_eff [(0, 0), (1, 1)] heightX_fn rfl (by simp) (by simp [lk]) (by simp [lk, Blk.ren, renR, AV.ren, AV.renL, rho, swp]) (by simp [AV.renL, AV.ren, rho, swp, lk]) ?_
  rintro r hp' ⟨rfl, h0, h1⟩
  refine ⟨[], rfl, ?_⟩
  simp [go_sem, outH, outP, h0, h1, Blk.ren, renR, AV.ren, AV.renL, rho, lk]
  clear h0 h1 hp'
  refine cl_eff [(0, 0), (1, 1)] bitsX_fn rfl (by simp) (by simp [lk]) (by simp [lk, Blk.ren, renR, AV.ren, AV.renL, rho, swp]) (by simp [AV.renL, AV.ren, rho, swp, lk]) ?_
  rintro r hp' ⟨rfl, h0, h1⟩
  refine ⟨[], rfl, ?_⟩
  simp [go_sem, outH, outP, h0, h1, Blk.ren, renR, AV.ren, AV.renL, rho, lk]
  clear h0 h1 hp'
  refine cl_eff [(0, 0), (1, 1)] medianX_fn rfl (by simp) (by simp [lk]) (by simp [lk, Blk.ren, renR, AV.ren, AV.renL, rho, swp]) (by simp [AV.renL, AV.ren, rho, swp, lk]) ?_
  rintro r hp' ⟨rfl, h0, h1⟩
  refine ⟨[], rfl, ?_⟩
  simp [go_sem, outH, outP, h0, h1, Blk.ren, renR, AV.ren, AV.renL, rho, lk]
  clear h0 h1 hp'
  simp [go_sem, w1]
  refine hG _ _ ?_
  clear hG G
  simp [go_sem, resV, lk, w1]
theorem oneX_fn : RetsE Tryz.prog 58 2 [(0, ⟨105, 4, [[.nil, .nil, .d (.int .i64 (-1)), .ptr 1 0 0 1]]⟩), (1, ⟨83, 1, [[.nil]]⟩)] [.ptr 0 0 0 1, .agg zBc, .d (.int .u32 0)] (fun r hp' => r = .d (.int .i64 30) ∧ lk 0 hp' = some ⟨105, 4, [[.nil, .nil, .d (.int .i64 (-1)), .ptr 1 0 0 1]]⟩ ∧ lk 1 hp' = some ⟨83, 1, [[.nil]]⟩) := by
  refine fnE_of_awp Tryz.func58 (by kernel_rfl) rfl Tryz.ntmps58 (rs := [.tmp 6]) rfl (Nat.le_of_ble_eq_true rfl) (by decide) ?_
  simp [go_sem, zBc_len, zBc_take]
  refine cl_eq block0_fn one_zBc ?_
  simp [go_sem, resV, lk]
theorem acceptX_fn : RetsE Tryz.prog 25 2 [(0, ⟨105, 4, [[.nil, .nil, .d (.int .i64 (-1)), .ptr 1 0 0 1]]⟩), (1, ⟨83, 1, [[.nil]]⟩)] [.ptr 0 0 0 1, .agg zBc, .d (.int .u32 0)] (fun r hp' => r = .d (.int .i64 30) ∧ lk 0 hp' = some ⟨105, 4, [[.nil, .nil, .d (.int .i64 (-1)), .ptr 1 0 0 1]]⟩ ∧ lk 1 hp' = some ⟨83, 1, [[.nil]]⟩) := by
  refine fnE_of_awp Tryz.func25 (by kernel_rfl) rfl Tryz.ntmps25 (rs := [.tmp 6]) rfl (Nat.le_of_ble_eq_true rfl) (by decide) ?_
  simp [go_sem, zBc_len, zBc_take]
  refine cl_eff [(0, 0), (1, 1)] oneX_fn rfl (by simp) (by simp [lk]) (by simp [lk, Blk.ren, renR, AV.ren, AV.renL, rho, swp]) (by simp [AV.renL, AV.ren, rho, swp, lk, zBc_ren]) ?_
  rintro r hp' ⟨rfl, h0, h1⟩
  refine ⟨[], rfl, ?_⟩
  simp [go_sem, outH, outP, h0, h1, Blk.ren, renR, AV.ren, AV.renL, rho, lk, zBc_ren, resV]
end Go.Proofs.YthieefhjokekmaaGreat
