/-
  Chain: the law ChainNil, walked.
-/
import Derived.Test.YthieefhjokekmaaGreatChd
namespace Go.Proofs.YthieefhjokekmaaGreat
open Go.Am Go.Sha
set_option linter.unusedSimpArgs false
set_option linter.unusedVariables false

def n32 : List Int := List.replicate 32 0
theorem n32_len : n32.length = 32 := rfl
theorem cz_ints : intsOf .u8 cz = some n32 := by kernel_rfl
set_option maxRecDepth 20000 in
set_option maxHeartbeats 4000000 in
theorem alive29_fn : Rets Tryz.prog 19 [] (fun r => r = .d (.bool true)) := by
  refine fn_of_awp Tryz.func19 (by kernel_rfl) rfl Tryz.ntmps19 (rs := [.tmp 0]) rfl (Nat.le_of_ble_eq_true rfl) (by simp [AV.deep, AV.deep1]) ?_
  simp [go_sem]
  refine cl_eff [] newC_fn rfl (by simp) (by simp) (by simp) (by simp [AV.renL, AV.ren]) ?_
  rintro r hp' ⟨rfl, h0, h1⟩
  refine ⟨[(97, 0), (33, 1)], rfl, ?_⟩
  simp [go_sem, outH, outP, h0, h1, Blk.ren, renR, AV.ren, AV.renL, rho, lk]
  clear h0 h1 hp'
  refine cl_eff [(0, 32), (1, 33)] nextX_fn rfl (by simp) (by simp [lk]) (by simp [lk, Blk.ren, renR, AV.ren, AV.renL, rho, swp]) (by simp [AV.renL, AV.ren, rho, swp, lk]) ?_
  rintro r hp' ⟨rfl, h0, h1⟩
  refine ⟨[], rfl, ?_⟩
  simp [go_sem, outH, outP, h0, h1, Blk.ren, renR, AV.ren, AV.renL, rho, lk]
  clear h0 h1 hp'
  refine cl_eff [(0, 32), (1, 33)] acceptX_fn rfl (by simp) (by simp [lk]) (by simp [lk, Blk.ren, renR, AV.ren, AV.renL, rho, swp]) (by simp [AV.renL, AV.ren, rho, swp, lk, zBc_ren]) ?_
  rintro r hp' ⟨rfl, h0, h1⟩
  refine ⟨[], rfl, ?_⟩
  simp [go_sem, outH, outP, h0, h1, Blk.ren, renR, AV.ren, AV.renL, rho, lk, zBc_ren]
  clear h0 h1 hp'
  refine cl_eff [(0, 32), (1, 33)] atX_fn rfl (by simp) (by simp [lk]) (by simp [lk, Blk.ren, renR, AV.ren, AV.renL, rho, swp]) (by simp [AV.renL, AV.ren, rho, swp, lk, cb_is, cz_len, cz_take, cz_drop, cz_ren, cz_ints, n32_len]) ?_
  rintro r hp' ⟨rfl, h0, h1⟩
  refine ⟨[], rfl, ?_⟩
  simp [go_sem, outH, outP, h0, h1, Blk.ren, renR, AV.ren, AV.renL, rho, lk, cb_is, cz_len, cz_take, cz_drop, cz_ren, cz_ints, n32_len]
  clear h0 h1 hp'
  refine cl_eff [(0, 32), (1, 33)] lenX_fn rfl (by simp) (by simp [lk]) (by simp [lk, Blk.ren, renR, AV.ren, AV.renL, rho, swp]) (by simp [AV.renL, AV.ren, rho, swp, lk, cb_is, cz_len, cz_take, cz_drop, cz_ren, cz_ints, n32_len]) ?_
  rintro r hp' ⟨rfl, h0, h1⟩
  refine ⟨[], rfl, ?_⟩
  simp [go_sem, outH, outP, h0, h1, Blk.ren, renR, AV.ren, AV.renL, rho, lk, cb_is, cz_len, cz_take, cz_drop, cz_ren, cz_ints, n32_len]
  clear h0 h1 hp'
  refine cl_eff [(0, 32), (1, 33)] coinsX_fn rfl (by simp) (by simp [lk]) (by simp [lk, Blk.ren, renR, AV.ren, AV.renL, rho, swp]) (by simp [AV.renL, AV.ren, rho, swp, lk, cb_is, cz_len, cz_take, cz_drop, cz_ren, cz_ints, n32_len]) ?_
  rintro r hp' ⟨rfl, h0, h1, h2⟩
  refine ⟨[(227, 0)], rfl, ?_⟩
  simp [go_sem, outH, outP, h0, h1, h2, Blk.ren, renR, AV.ren, AV.renL, rho, lk, cb_is, cz_len, cz_take, cz_drop, cz_ren, cz_ints, n32_len]
  clear h0 h1 h2 hp'
  exact post_same (by simp [AV.deep, AV.deep1]) rfl
theorem z4W_ints : litsOf z4W = some [.i .u64 0, .i .u64 0, .i .u64 0, .i .u64 0] := by kernel_rfl
theorem z4W_ints2 : intsOf .u64 z4W = some [0, 0, 0, 0] := by kernel_rfl
theorem z4W_ints3 : intsOf .u64 [.d (.int .u64 0), .d (.int .u64 0), .d (.int .u64 0), .d (.int .u64 0)] = some [0, 0, 0, 0] := by kernel_rfl
theorem small29_fn (g : Hd) (ts : List Tn) (hk : g.ok) (hok : ∀ t, t ∈ ts → t.ok) : Rets Tryz.prog 18 [.agg (eB g ts)] (fun r => r = .d (.bool (smallB ts))) := by
  refine fn_of_awp Tryz.func18 (by kernel_rfl) rfl Tryz.ntmps18 (rs := [.tmp 2]) rfl (Nat.le_of_ble_eq_true rfl) (one_eB g ts) ?_
  simp [go_sem, eB_len hk, eB_all hk, eB_get hk, eB_g hk]
  refine cl_eq (smallB_fn ts hok) (by simp [AV.deep, AV.deep1]) ?_
  simp [go_sem, resV]
  exact post_same (by simp [AV.deep, AV.deep1]) rfl
set_option maxRecDepth 20000 in
set_option maxHeartbeats 4000000 in
theorem chain_law (g : Hd) (ts : List Tn) (h : List Nat) (hk : g.ok) (hok : ∀ t, t ∈ ts → t.ok) (hl : h.length = 32) : Rets Tryz.prog 4 [.agg (eB g ts), .agg (cb h)] (fun r => r = .d (.bool true)) := by
  refine fn_of_awp Tryz.func4 (by kernel_rfl) rfl Tryz.ntmps4 (rs := [.tmp 4]) rfl (Nat.le_of_ble_eq_true rfl) (by
    intro v hv
    simp only [List.mem_cons, List.mem_nil_iff, or_false] at hv
    rcases hv with rfl | rfl
    · exact eB_deep _ _
    · exact cb_deep _) ?_
  have hcl : (cb h).length = 32 := by rw [cb_len]; exact hl
  have hct : (cb h).take 32 = cb h := List.take_of_length_le (by omega)
  simp [go_sem, eB_len hk, eB_all hk, eB_get hk, eB_g hk, hcl, hct]
  refine cl_eq (small29_fn g ts hk hok) (one_eB g ts) ?_
  cases hs : smallB ts
  · simp [go_sem]
    refine cl_eq alive29_fn (by simp) ?_
    simp [go_sem, resV]
    exact post_same (by simp [AV.deep, AV.deep1]) rfl
  · simp [go_sem]
    refine cl_eq tipN_fn (by simp [AV.deep, AV.deep1]) ?_
    simp [go_sem, cz_len, cz_take, cz_drop, hcl, hct]
    refine cl_eq (getN_fn h hl) (by
      intro v hv
      simp only [List.mem_cons, List.mem_nil_iff, or_false] at hv
      rcases hv with rfl | rfl
      · trivial
      · exact cb_deep _) ?_
    simp [go_sem, zBc_len, zBc_take, List.drop_eq_nil_of_le (show zBc.length ≤ 69 by rw [zBc_len]; omega), hcl, hct]
    refine cl_eq atN_fn (by simp [AV.deep, AV.deep1]) ?_
    simp [go_sem, cz_len, cz_take, cz_drop, hcl, hct]
    refine cl_eq nextN_fn (by simp [AV.deep, AV.deep1]) ?_
    simp [go_sem, hcl, hct]
    refine cl_eq (turnN_fn h hl) (by
      intro v hv
      simp only [List.mem_cons, List.mem_nil_iff, or_false] at hv
      rcases hv with rfl | rfl
      · trivial
      · exact cb_deep _) ?_
    simp [go_sem, hcl, hct]
    refine cl_eq alive29_fn (by simp) ?_
    simp [go_sem, eB_len hk, eB_all hk, hcl, hct]
    refine cl_eq (acceptN_fn g ts hk) (by
      intro v hv
      simp only [List.mem_cons, List.mem_nil_iff, or_false] at hv
      rcases hv with rfl | rfl | rfl
      · trivial
      · exact eB_deep _ _
      · trivial) ?_
    simp [go_sem, cb_is, cz_len, cz_take, cz_drop, cz_ints, n32_len]
    refine cl_eq lenN_fn (by simp [AV.deep, AV.deep1]) ?_
    simp [go_sem]
    refine cl_eq waitingN_fn (by simp [AV.deep, AV.deep1]) ?_
    simp [go_sem]
    refine cl_eq coinsN_fn (by simp [AV.deep, AV.deep1]) ?_
    simp [go_sem]
    refine cl_eq workN_fn (by simp [AV.deep, AV.deep1]) ?_
    simp [go_sem, z4W_len, z4W_take, z4W_ints2, z4W_ints3]
    refine cl_eq blocksN_fn (by simp [AV.deep, AV.deep1]) ?_
    simp [go_sem]
    refine cl_eq copyN_fn (by simp [AV.deep, AV.deep1]) ?_
    simp [go_sem, resV]
    exact post_same (by simp [AV.deep, AV.deep1]) rfl
set_option maxRecDepth 100000
theorem chain_args (l : List AV) (h : ArgTys Tryz.prog 8 [52, 27] l) : Rets Tryz.prog 4 l (fun r => r = .d (.bool true)) := by
  obtain ⟨a0, r0, rfl, h0, a1, r1, rfl, h1, rfl⟩ := h
  unfold ArgTy at h0 h1
  simp only [Tryz.underlying52] at h0
  simp only [Tryz.underlying27] at h1
  obtain ⟨ds, rfl, h0⟩ := h0
  obtain ⟨es, rfl, h1⟩ := h1
  rw [TyD] at h0
  simp only [Tryz.underlying52, List.map_cons, List.map_nil] at h0
  obtain ⟨a, b, rfl, ha, ha2, a', b', rfl, hb, hb2, rfl⟩ := h0
  obtain ⟨g, e1, q1⟩ := ty_hd ha2
  obtain ⟨ts, rfl, q2⟩ := ty_txs hb2
  obtain ⟨p, rfl, hp1, hp2⟩ := ty_h32 h1
  have e : AV.agg ((a ++ ([DV.ro 4 (ts.map eTd)] ++ [])).map AV.d) = .agg (eB g ts) := by rw [List.map_append, e1]; rfl
  rw [e, cd_map]
  exact chain_law g ts p q1 (fun t ht => (q2 t ht).1) hp1
end Go.Proofs.YthieefhjokekmaaGreat
