/-
  Pool: the law PoolNil, walked.
-/
import Derived.Test.YthieefhjokekmaaGreatPoc
namespace Go.Proofs.YthieefhjokekmaaGreat
open Go.Am Go.Sha
set_option linter.unusedSimpArgs false
set_option linter.unusedVariables false

theorem come0_fn : RetsE Tryz.prog 69 1 [(0, ⟨83, 1, [[.nil]]⟩)] [.nil, .agg zT, .agg [.ptr 0 0 0 1, .d (.int .u32 3), .d (.int .u32 0)]] (fun r hp' => r = .tup [.d (.int .u64 0), .d (.int .i64 30)] ∧ lk 0 hp' = some ⟨83, 1, [[.nil]]⟩) := by
  refine fnE_of_awp Tryz.func69 (by kernel_rfl) rfl Tryz.ntmps69 (rs := [.tmp 6, .tmp 7]) rfl (Nat.le_of_ble_eq_true rfl) (by decide) ?_
  simp [go_sem, zT]
  refine cl_eq check0_fn zT_deep ?_
  simp [go_sem, resV, lk]
theorem alone0_fn : RetsE Tryz.prog 33 1 [(0, ⟨83, 1, [[.nil]]⟩)] [.nil, .agg zT, .agg [.ptr 0 0 0 1, .d (.int .u32 3), .d (.int .u32 0)]] (fun r hp' => r = .tup [.nil, .d (.int .i64 30)] ∧ lk 0 hp' = some ⟨83, 1, [[.nil]]⟩) := by
  refine fnE_of_awp Tryz.func33 (by kernel_rfl) rfl Tryz.ntmps33 (rs := [.tmp 6, .tmp 7]) rfl (Nat.le_of_ble_eq_true rfl) (by decide) ?_
  simp [go_sem, zT]
  refine cl_eff [(0, 0)] come0_fn rfl (by simp) (by simp [lk]) (by simp [lk, Blk.ren, renR, AV.ren, AV.renL, rho, swp, zT]) (by simp [AV.renL, AV.ren, rho, swp, lk, zT]) ?_
  rintro r hp' ⟨rfl, h0⟩
  refine ⟨[], rfl, ?_⟩
  simp [go_sem, outH, outP, h0, Blk.ren, renR, AV.ren, AV.renL, rho, lk, zT, resV]
theorem acceptX_fn : RetsE Tryz.prog 11 2 [(0, ⟨86, 1, [[.nil]]⟩), (1, ⟨83, 1, [[.nil]]⟩)] [.ptr 0 0 0 1, .agg zT, .agg [.ptr 1 0 0 1, .d (.int .u32 3), .d (.int .u32 0)]] (fun r hp' => r = .d (.int .i64 30) ∧ lk 0 hp' = some ⟨86, 1, [[.nil]]⟩ ∧ lk 1 hp' = some ⟨83, 1, [[.nil]]⟩) := by
  refine fnE_of_awp Tryz.func11 (by kernel_rfl) rfl Tryz.ntmps11 (rs := [.tmp 6]) rfl (Nat.le_of_ble_eq_true rfl) (by decide) ?_
  simp [go_sem, zT]
  apply draw2 (0 :: 1 :: 2 :: 3 :: 4 :: 5 :: []) ((6, (7 :: 8 :: 9 :: 10 :: 11 :: [])) :: []) 1 (k := 12) (by kernel_rfl) (by kernel_rfl) rfl
  case hz => repeat (first | exact Its.nil | apply Its.plain rfl | apply Its.guard rfl rfl)
  case hj => repeat (first | exact Jts.nil | exact Its.nil | apply Its.plain rfl | apply Its.guard rfl rfl | apply Jts.plain rfl | apply Jts.guard rfl rfl)
  intro G hG
  simp [go_sem]
  refine cl_eff [(0, 1)] alone0_fn rfl (by simp) (by simp [lk]) (by simp [lk, Blk.ren, renR, AV.ren, AV.renL, rho, swp, zT]) (by simp [AV.renL, AV.ren, rho, swp, lk, zT]) ?_
  rintro r hp' ⟨rfl, h0⟩
  refine ⟨[], rfl, ?_⟩
  simp [go_sem, outH, outP, h0, Blk.ren, renR, AV.ren, AV.renL, rho, lk, zT]
  clear h0 hp'
  refine hG _ _ ?_
  clear hG G
  simp [go_sem, resV, lk]
set_option maxRecDepth 20000 in
set_option maxHeartbeats 4000000 in
theorem alive30_fn : Rets Tryz.prog 6 [] (fun r => r = .d (.bool true)) := by
  refine fn_of_awp Tryz.func6 (by kernel_rfl) rfl Tryz.ntmps6 (rs := [.tmp 0]) rfl (Nat.le_of_ble_eq_true rfl) (by simp [AV.deep, AV.deep1]) ?_
  simp [go_sem]
  refine cl_eff [] newP_fn rfl (by simp) (by simp [lk]) (by simp [lk, Blk.ren, renR, AV.ren, AV.renL, rho, swp]) (by simp [AV.renL, AV.ren, rho, swp, lk]) ?_
  rintro r hp' ⟨rfl, h0⟩
  refine ⟨[(65, 0)], rfl, ?_⟩
  simp [go_sem, outH, outP, h0, Blk.ren, renR, AV.ren, AV.renL, rho, lk]
  clear h0 hp'
  refine cl_eff [] newVw_fn rfl (by simp) (by simp [lk]) (by simp [lk, Blk.ren, renR, AV.ren, AV.renL, rho, swp]) (by simp [AV.renL, AV.ren, rho, swp, lk]) ?_
  rintro r hp' ⟨rfl, h0⟩
  refine ⟨[(65, 0)], rfl, ?_⟩
  simp [go_sem, outH, outP, h0, Blk.ren, renR, AV.ren, AV.renL, rho, lk]
  clear h0 hp'
  refine cl_eff [(0, 32), (1, 96), (2, 512)] templateX_fn rfl (by simp) (by simp [lk]) (by simp [lk, Blk.ren, renR, AV.ren, AV.renL, rho, swp, cF_ren]) (by simp [AV.renL, AV.ren, rho, swp, lk, cF_ren]) ?_
  rintro r hp' ⟨rfl, h0, h1, h2, h3, h4, h5, h6⟩
  refine ⟨[(580, 0), (2384, 1), (2385, 2), (2386, 3)], rfl, ?_⟩
  simp [go_sem, outH, outP, h0, h1, h2, h3, h4, h5, h6, Blk.ren, renR, AV.ren, AV.renL, rho, lk, cF_ren]
  clear h0 h1 h2 h3 h4 h5 h6 hp'
  refine cl_eff [(0, 32), (1, 96)] acceptX_fn rfl (by simp) (by simp [lk]) (by simp [lk, Blk.ren, renR, AV.ren, AV.renL, rho, swp, zT]) (by simp [AV.renL, AV.ren, rho, swp, lk, zT]) ?_
  rintro r hp' ⟨rfl, h0, h1⟩
  refine ⟨[], rfl, ?_⟩
  simp [go_sem, outH, outP, h0, h1, Blk.ren, renR, AV.ren, AV.renL, rho, lk, zT]
  clear h0 h1 hp'
  refine cl_eff [(0, 32)] acceptQ_fn rfl (by simp) (by simp [lk]) (by simp [lk, Blk.ren, renR, AV.ren, AV.renL, rho, swp, zT]) (by simp [AV.renL, AV.ren, rho, swp, lk, zT]) ?_
  rintro r hp' ⟨rfl, h0⟩
  refine ⟨[], rfl, ?_⟩
  simp [go_sem, outH, outP, h0, Blk.ren, renR, AV.ren, AV.renL, rho, lk, zT, resV]
  clear h0 hp'
  exact post_same (by simp [AV.deep, AV.deep1]) rfl
theorem eT_ren (ρ : Nat → Nat) (t : Tn) : AV.renL ρ (eT t) = eT t := rfl
set_option maxRecDepth 20000 in
set_option maxHeartbeats 8000000 in
theorem pool_law (t : Tn) (h : List Nat) (ht : t.ok) (hl : h.length = 32) : Rets Tryz.prog 3 [.agg (eT t), .agg (cb h)] (fun r => r = .d (.bool true)) := by
  refine fn_of_awp Tryz.func3 (by kernel_rfl) rfl Tryz.ntmps3 (rs := [.tmp 4]) rfl (Nat.le_of_ble_eq_true rfl) (by
    intro v hv
    simp only [List.mem_cons, List.mem_nil_iff, or_false] at hv
    rcases hv with rfl | rfl
    · exact one_eT t _ (by simp)
    · exact cb_deep _) ?_
  have hcl : (cb h).length = 32 := by rw [cb_len]; exact hl
  have hct : (cb h).take 32 = cb h := List.take_of_length_le (by omega)
  simp [go_sem, eT_len, eT_take, hcl, hct]
  refine cl_eq (small09_fn t ht) (one_eT t) ?_
  cases hs : within 6 6 600 t
  · simp [go_sem]
    refine cl_eq alive30_fn (by simp) ?_
    simp [go_sem, resV]
    exact post_same (by simp [AV.deep, AV.deep1]) rfl
  · simp [go_sem]
    refine cl_eff [] newVw_fn rfl (by simp) (by simp [lk]) (by simp [lk, Blk.ren, renR, AV.ren, AV.renL, rho, swp, eT_len, eT_take, hcl, hct, eT_ren]) (by simp [AV.renL, AV.ren, rho, swp, lk, eT_len, eT_take, hcl, hct, eT_ren]) ?_
    rintro r hp' ⟨rfl, h0⟩
    refine ⟨[(65, 0)], rfl, ?_⟩
    simp [go_sem, outH, outP, h0, Blk.ren, renR, AV.ren, AV.renL, rho, lk, eT_len, eT_take, hcl, hct, eT_ren]
    clear h0 hp'
    refine cl_eff [] (feeN_fn h hl) rfl (by simp) (by simp) (by simp) (by simp [AV.renL, AV.ren, cb_ren]) ?_
    rintro r hp' rfl
    refine ⟨[], rfl, ?_⟩
    simp [go_sem, outH, outP, Blk.ren, renR, AV.ren, AV.renL, rho, lk, eT_len, eT_take, hcl, hct, eT_ren]
    clear hp'
    refine cl_eff [(0, 224), (1, 672)] (refreshN_fn t) rfl (by simp) (by simp [lk]) (by simp [lk, Blk.ren, renR, AV.ren, AV.renL, rho, swp, eT_len, eT_take, hcl, hct, eT_ren]) (by simp [AV.renL, AV.ren, rho, swp, lk, eT_len, eT_take, hcl, hct, eT_ren]) ?_
    rintro r hp' ⟨rfl, h0, h1⟩
    refine ⟨[], rfl, ?_⟩
    simp [go_sem, outH, outP, h0, h1, Blk.ren, renR, AV.ren, AV.renL, rho, lk, eT_len, eT_take, hcl, hct, eT_ren]
    clear h0 h1 hp'
    refine cl_eff [] newP_fn rfl (by simp) (by simp [lk]) (by simp [lk, Blk.ren, renR, AV.ren, AV.renL, rho, swp, eT_len, eT_take, hcl, hct, eT_ren]) (by simp [AV.renL, AV.ren, rho, swp, lk, eT_len, eT_take, hcl, hct, eT_ren]) ?_
    rintro r hp' ⟨rfl, h0⟩
    refine ⟨[(65, 0)], rfl, ?_⟩
    simp [go_sem, outH, outP, h0, Blk.ren, renR, AV.ren, AV.renL, rho, lk, eT_len, eT_take, hcl, hct, eT_ren]
    clear h0 hp'
    refine cl_eff [(0, 768), (1, 896)] (refreshQ_fn t) rfl (by simp) (by simp [lk]) (by simp [lk, Blk.ren, renR, AV.ren, AV.renL, rho, swp, eT_len, eT_take, hcl, hct, eT_ren]) (by simp [AV.renL, AV.ren, rho, swp, lk, eT_len, eT_take, hcl, hct, eT_ren]) ?_
    rintro r hp' ⟨rfl, h0, h1⟩
    refine ⟨[], rfl, ?_⟩
    simp [go_sem, outH, outP, h0, h1, Blk.ren, renR, AV.ren, AV.renL, rho, lk, eT_len, eT_take, hcl, hct, eT_ren]
    clear h0 h1 hp'
    refine cl_eq alive30_fn (by simp) ?_
    simp [go_sem, eT_len, eT_take, hcl, hct, eT_ren]
    refine cl_eff [(0, 224)] (acceptN_fn t) rfl (by simp) (by simp [lk]) (by simp [lk, Blk.ren, renR, AV.ren, AV.renL, rho, swp, eT_len, eT_take, hcl, hct, eT_ren]) (by simp [AV.renL, AV.ren, rho, swp, lk, eT_len, eT_take, hcl, hct, eT_ren]) ?_
    rintro r hp' ⟨rfl, h0⟩
    refine ⟨[], rfl, ?_⟩
    simp [go_sem, outH, outP, h0, Blk.ren, renR, AV.ren, AV.renL, rho, lk, eT_len, eT_take, hcl, hct, eT_ren]
    clear h0 hp'
    refine cl_eff [(0, 224)] (pairN_fn t) rfl (by simp) (by simp [lk]) (by simp [lk, Blk.ren, renR, AV.ren, AV.renL, rho, swp, eT_len, eT_take, hcl, hct, eT_ren]) (by simp [AV.renL, AV.ren, rho, swp, lk, eT_len, eT_take, hcl, hct, eT_ren]) ?_
    rintro r hp' ⟨rfl, h0⟩
    refine ⟨[], rfl, ?_⟩
    simp [go_sem, outH, outP, h0, Blk.ren, renR, AV.ren, AV.renL, rho, lk, eT_len, eT_take, hcl, hct, eT_ren]
    clear h0 hp'
    refine cl_eff [(0, 768)] (pairQ_fn t) rfl (by simp) (by simp [lk]) (by simp [lk, Blk.ren, renR, AV.ren, AV.renL, rho, swp, eT_len, eT_take, hcl, hct, eT_ren]) (by simp [AV.renL, AV.ren, rho, swp, lk, eT_len, eT_take, hcl, hct, eT_ren]) ?_
    rintro r hp' ⟨rfl, h0⟩
    refine ⟨[], rfl, ?_⟩
    simp [go_sem, outH, outP, h0, Blk.ren, renR, AV.ren, AV.renL, rho, lk, eT_len, eT_take, hcl, hct, eT_ren]
    clear h0 hp'
    refine cl_eff [] lenN_fn rfl (by simp) (by simp) (by simp) (by simp [AV.renL, AV.ren, cb_ren]) ?_
    rintro r hp' rfl
    refine ⟨[], rfl, ?_⟩
    simp [go_sem, outH, outP, Blk.ren, renR, AV.ren, AV.renL, rho, lk, eT_len, eT_take, hcl, hct, eT_ren]
    clear hp'
    refine cl_eff [] sizeN_fn rfl (by simp) (by simp) (by simp) (by simp [AV.renL, AV.ren, cb_ren]) ?_
    rintro r hp' rfl
    refine ⟨[], rfl, ?_⟩
    simp [go_sem, outH, outP, Blk.ren, renR, AV.ren, AV.renL, rho, lk, eT_len, eT_take, hcl, hct, eT_ren]
    clear hp'
    refine cl_eff [] listN_fn rfl (by simp) (by simp) (by simp) (by simp [AV.renL, AV.ren, cb_ren]) ?_
    rintro r hp' rfl
    refine ⟨[], rfl, ?_⟩
    simp [go_sem, outH, outP, Blk.ren, renR, AV.ren, AV.renL, rho, lk, eT_len, eT_take, hcl, hct, eT_ren]
    clear hp'
    refine cl_eff [] (dropN_fn h hl) rfl (by simp) (by simp) (by simp) (by simp [AV.renL, AV.ren, cb_ren]) ?_
    rintro r hp' rfl
    refine ⟨[], rfl, ?_⟩
    simp [go_sem, outH, outP, Blk.ren, renR, AV.ren, AV.renL, rho, lk, eT_len, eT_take, hcl, hct, eT_ren]
    clear hp'
    refine cl_eff [(0, 224)] templateN_fn rfl (by simp) (by simp [lk]) (by simp [lk, Blk.ren, renR, AV.ren, AV.renL, rho, swp, eT_len, eT_take, hcl, hct, eT_ren]) (by simp [AV.renL, AV.ren, rho, swp, lk, eT_len, eT_take, hcl, hct, eT_ren]) ?_
    rintro r hp' ⟨rfl, h0⟩
    refine ⟨[], rfl, ?_⟩
    simp [go_sem, outH, outP, h0, Blk.ren, renR, AV.ren, AV.renL, rho, lk, eT_len, eT_take, hcl, hct, eT_ren]
    clear h0 hp'
    refine cl_eff [(0, 768)] templateQ_fn rfl (by simp) (by simp [lk]) (by simp [lk, Blk.ren, renR, AV.ren, AV.renL, rho, swp, eT_len, eT_take, hcl, hct, eT_ren]) (by simp [AV.renL, AV.ren, rho, swp, lk, eT_len, eT_take, hcl, hct, eT_ren]) ?_
    rintro r hp' ⟨rfl, h0⟩
    refine ⟨[], rfl, ?_⟩
    simp [go_sem, outH, outP, h0, Blk.ren, renR, AV.ren, AV.renL, rho, lk, eT_len, eT_take, hcl, hct, eT_ren]
    clear h0 hp'
    refine cl_eff [(0, 768)] lenQ_fn rfl (by simp) (by simp [lk]) (by simp [lk, Blk.ren, renR, AV.ren, AV.renL, rho, swp, eT_len, eT_take, hcl, hct, eT_ren]) (by simp [AV.renL, AV.ren, rho, swp, lk, eT_len, eT_take, hcl, hct, eT_ren]) ?_
    rintro r hp' ⟨rfl, h0⟩
    refine ⟨[], rfl, ?_⟩
    simp [go_sem, outH, outP, h0, Blk.ren, renR, AV.ren, AV.renL, rho, lk, eT_len, eT_take, hcl, hct, eT_ren]
    clear h0 hp'
    exact post_same (by simp [AV.deep, AV.deep1]) rfl
set_option maxRecDepth 100000
theorem pool_args (l : List AV) (h : ArgTys Tryz.prog 8 [26, 27] l) : Rets Tryz.prog 3 l (fun r => r = .d (.bool true)) := by
  obtain ⟨a0, r0, rfl, h0, a1, r1, rfl, h1, rfl⟩ := h
  unfold ArgTy at h0 h1
  simp only [Tryz.underlying26] at h0
  simp only [Tryz.underlying27] at h1
  obtain ⟨ds, rfl, h0⟩ := h0
  obtain ⟨es, rfl, h1⟩ := h1
  obtain ⟨t, e1, q1, _, q2⟩ := ty_tx h0
  obtain ⟨p, rfl, hp1, hp2⟩ := ty_h32 h1
  rw [e1, cd_map]
  exact pool_law t p q1 hp1
end Go.Proofs.YthieefhjokekmaaGreat
