/-
  The law RulesHeader.
-/
import Derived.Test.YtbkbcjhghmlphaaHwh
namespace Go.Proofs.Ytbkbcjhghmlphaa
open Go.Am Go.Sha
set_option linter.unusedSimpArgs false
set_option linter.unusedVariables false

set_option maxRecDepth 20000 in
set_option maxHeartbeats 8000000 in
theorem header_law (h : Hd) (hk : h.ok) (x y z : Nat) (hx : x < 4294967296) (hy : y < 4294967296) (hz : z < 4294967296) (tries : Int) :
    Rets Try.prog 10 [.agg (eH h), .agg [.d (.int .u32 (x : Int)), .d (.int .u32 (y : Int)), .d (.int .u32 (z : Int))], .d (.int .i64 tries)] (fun r => r = .d (.bool true)) := by
  refine fn_of_awp Try.func10 (by kernel_rfl) rfl Try.ntmps10 (rs := [.tmp 6]) rfl (Nat.le_of_ble_eq_true rfl) (by intro v hv; simp at hv; rcases hv with rfl | rfl | rfl; exact eH_deep _; simp [AV.deep, AV.deep1]; trivial) ?_
  have hl := eH_len hk.2.1 hk.2.2.1
  have h0 := zHd_len
  have tk : ∀ m : Hd, m.ok → (eH m).take 68 = eH m := fun m hm => List.take_of_length_le (by rw [eH_len hm.2.1 hm.2.2.1]; omega)
  have d0 : (eH zHd).drop 68 = [] := rfl
  have tkh := tk h hk
  obtain ⟨n, hn, hb15⟩ := b_15 tries
  have wm : IntKind.i64.wrap (-1 - (n : Int)) = -1 - (n : Int) := IntWalk.i64_in _ (by omega)
  simp [go_sem, hl, tkh, hb15]
  refine cl_eq (mine_fn h hk n n (by simp) (by omega) (by omega)) (two_eH h _) ?_
  have hGo : (mineH n h).ok := mineH_ok hk
  have hgl := eH_len hGo.2.1 hGo.2.2.1
  have tkg := tk _ hGo
  have hmR := mineR_fn h hk n (by omega)
  generalize mineH n h = g at *
  generalize mineB n h = B at *
  simp [go_sem, hl, tkh, h0, d0, hgl, tkg, hb15]
  refine cl_eq hmR (two_eH h _) ?_
  simp [go_sem, hl, tkh, h0, d0, hgl, tkg, hb15, wm]
  refine cl_eq (mine_fn h hk (-1 - (n : Int)) 0 (by omega) (by omega) (by omega)) (two_eH h _) ?_
  have e1 : mineH 0 h = h := rfl
  have e2 : mineB 0 h = false := rfl
  rw [e1, e2]
  simp [go_sem, hl, tkh, h0, d0, hgl, tkg]
  apply draw2 ([]) ((0, (1 :: 2 :: 3 :: 4 :: 5 :: 6 :: 7 :: 8 :: 10 :: 11 :: 12 :: 13 :: 14 :: 15 :: 16 :: [])) :: (9, ([])) :: (17, (18 :: 19 :: 20 :: 21 :: 22 :: 23 :: 24 :: 25 :: 26 :: 27 :: 28 :: 29 :: 30 :: 31 :: 32 :: 33 :: 34 :: 35 :: 36 :: 37 :: 38 :: 39 :: [])) :: []) 3 (k := 40) (by kernel_rfl) (by kernel_rfl) rfl
  case hz => repeat (first | exact Its.nil | apply Its.plain rfl | apply Its.guard rfl rfl)
  case hj => repeat (first | exact Jts.nil | exact Its.nil | apply Its.plain rfl | apply Its.guard rfl rfl | apply Jts.plain rfl | apply Jts.guard rfl rfl)
  intro G hG
  simp [go_sem]
  refine cl_eq alive26_fn (by simp) ?_
  have hks := ksH_of hk
  have hlh := eH_lits h
  have hkg := ksH_of hGo
  have hlg := eH_lits g
  simp [go_sem, hl, tkh, hgl, tkg]
  have hd4 : ∀ v, v ∈ [AV.agg (eH h), AV.d (.int .u32 (x : Int)), AV.d (.int .u32 (y : Int)), AV.d (.int .u32 (z : Int))] → v.deep := by
    intro v hv
    simp at hv
    rcases hv with rfl | rfl | rfl | rfl
    · exact eH_deep _
    · trivial
    · trivial
    · trivial
  refine cl_eq (header_fn h hk x y z hx hy hz) hd4 ?_
  simp [go_sem, SaW]
  refine cl_eq (headerR_fn h hk x y z hx hy hz) hd4 ?_
  cases B <;> (
    simp [go_sem, SaW, hlh, hlg, hgl, tkg, hl, tkh]
    refine ⟨hkg, Try.underlying4, ?_⟩
    simp [go_sem, SaW, hlh, hlg, hgl, tkg, hl, tkh]
    refine ⟨hks, hG _ _ ?_⟩
    simp [go_sem, resV]
    exact post_same (by simp [AV.deep, AV.deep1]) rfl)

set_option maxRecDepth 100000
theorem arg_w3 {n : Nat} {a : AV} (h : ArgTy Try.prog (n + 2) 73 a) : ∃ x y z : Nat, a = .agg [.d (.int .u32 (x : Int)), .d (.int .u32 (y : Int)), .d (.int .u32 (z : Int))] ∧ x < 4294967296 ∧ y < 4294967296 ∧ z < 4294967296 := by
  unfold ArgTy at h
  simp only [Try.underlying73] at h
  obtain ⟨ds, rfl, h⟩ := h
  rw [TyD] at h
  simp only [Try.underlying73] at h
  obtain ⟨x, b, rfl, _, h1, h⟩ := h
  obtain ⟨y, b, rfl, _, h2, h⟩ := h
  obtain ⟨z, b, rfl, _, h3, h⟩ := h
  obtain ⟨x, rfl, hx⟩ := ty_u32 h1
  obtain ⟨y, rfl, hy⟩ := ty_u32 h2
  obtain ⟨z, rfl, hz⟩ := ty_u32 h3
  have hb : b = [] := h
  subst hb
  exact ⟨x, y, z, by simp, hx, hy, hz⟩
theorem header_args (l : List AV) (h : ArgTys Try.prog 8 [67, 73, 3] l) : Rets Try.prog 10 l (fun r => r = .d (.bool true)) := by
  obtain ⟨a0, r0, rfl, h0, a1, r1, rfl, h1, a2, r2, rfl, h2, rfl⟩ := h
  obtain ⟨g, rfl, hg⟩ := arg_hd h0
  obtain ⟨x, y, z, rfl, hx, hy, hz⟩ := arg_w3 h1
  obtain ⟨t, rfl⟩ := arg_int h2
  exact header_law g hg x y z hx hy hz t
end Go.Proofs.Ytbkbcjhghmlphaa
