/-
  A fresh node: its chain, its pool, its index.
-/
import Derived.Test.YtnmnabagabejjaaGreatNde
namespace Go.Proofs.YtnmnabagabejjaaGreat
open Go.Am Go.Sha
set_option linter.unusedSimpArgs false
set_option linter.unusedVariables false

theorem isPtrN : isPtr Tryz.prog 23 = true := by kernel_rfl
theorem isPtrC : isPtr Tryz.prog 48 = true := by kernel_rfl
theorem isPtrW : isPtr Tryz.prog 31 = true := by kernel_rfl
theorem isPtrX : isPtr Tryz.prog 42 = true := by kernel_rfl
theorem zvw : tzO Tryz.prog 208 = some [.nil] := by kernel_rfl
theorem zpl : tzO Tryz.prog 129 = some [.nil] := by kernel_rfl
theorem zch : tzO Tryz.prog 118 = some [.nil, .nil, .d (.int .i64 0), .d .nilp] := by kernel_rfl
theorem zix : tzO Tryz.prog 78 = some [.nil, .nil, .nil] := by kernel_rfl
theorem znd : tzO Tryz.prog 52 = some [.d .nilp, .d .nilp, .d .nilp, .d .nilp, .d (.int .u32 0), .d (.bool false)] := by kernel_rfl
attribute [go_sem] isPtrN isPtrC isPtrW isPtrX zvw zpl zch zix znd
def chB (i : Nat) : Blk := ⟨118, 4, [[.nil, .nil, .d (.int .i64 (-1)), .ptr i 0 0 1]]⟩
def ndB (s c p x : AV) : Blk := ⟨52, 6, [[s, c, p, x, .d (.int .u32 0), .d (.bool false)]]⟩
theorem newVw_fn : RetsE Tryz.prog 68 0 [] []
    (fun r hp' => r = .ptr 65 0 0 1 ∧ lk 65 hp' = some ⟨208, 1, [[.nil]]⟩) := by
  refine fnE_of_awp Tryz.func68 (by kernel_rfl) rfl Tryz.ntmps68 (rs := [.tmp 0]) rfl (Nat.le_of_ble_eq_true rfl) (by decide) ?_
  simp [go_sem, resV, lk]
theorem newPl_fn : RetsE Tryz.prog 35 0 [] []
    (fun r hp' => r = .ptr 65 0 0 1 ∧ lk 65 hp' = some ⟨129, 1, [[.nil]]⟩) := by
  refine fnE_of_awp Tryz.func35 (by kernel_rfl) rfl Tryz.ntmps35 (rs := [.tmp 0]) rfl (Nat.le_of_ble_eq_true rfl) (by decide) ?_
  simp [go_sem, resV, lk]
theorem newC_fn : RetsE Tryz.prog 34 0 [] []
    (fun r hp' => r = .ptr 97 0 0 1 ∧ lk 97 hp' = some (chB 33) ∧ lk 33 hp' = some ⟨208, 1, [[.nil]]⟩) := by
  refine fnE_of_awp Tryz.func34 (by kernel_rfl) rfl Tryz.ntmps34 (rs := [.tmp 0]) rfl (Nat.le_of_ble_eq_true rfl) (by decide) ?_
  simp [go_sem]
  refine cl_eff [] newVw_fn rfl (by simp) (by simp [lk, chB, resV]) (by simp [lk, Blk.ren, renR, AV.ren, AV.renL, rho, swp, chB, resV]) (by simp [AV.renL, AV.ren, rho, swp, lk, chB, resV]) ?_
  rintro r hp' ⟨rfl, h0⟩
  refine ⟨[(65, 0)], rfl, ?_⟩
  simp [go_sem, outH, outP, h0, Blk.ren, renR, AV.ren, AV.renL, rho, lk, chB, resV]
theorem newV_fn : RetsE Tryz.prog 12 0 [] [.nil]
    (fun r hp' => r = .tup [.ptr 193 0 0 1, .d (.int .i64 0)] ∧ lk 193 hp' = some ⟨78, 3, [[.nil, .nil, .nil]]⟩) := by
  refine fnE_of_awp Tryz.func12 (by kernel_rfl) rfl Tryz.ntmps12 (rs := [.tmp 2, .tmp 3]) rfl (Nat.le_of_ble_eq_true rfl) (by decide) ?_
  simp [go_sem]
  refine loop_of (fun _ : Unit => ⟨[(4, .ptr 193 0 0 1), (15, .d (.int .i64 0)), (16, .d (.int .i64 0))], [(193, ⟨78, 3, [[.nil, .nil, .nil]]⟩)], 1000⟩)
    (fun _ => True) (fun _ => 0) () trivial (by
      simp [Weak, slotOk, fv, lk, AV.low, AV.low1]) ?_
  intro _ _
  simp [go_sem, resV, lk]
theorem tip_fn : RetsE Tryz.prog 143 1 [(0, chB 1)] [.ptr 0 0 0 1]
    (fun r hp' => r = .tup [.agg (cb z32), .d (.int .u32 0)] ∧ lk 0 hp' = some (chB 1)) := by
  refine fnE_of_awp Tryz.func143 (by kernel_rfl) rfl Tryz.ntmps143 (rs := [.cell 2 61, .tmp 3]) rfl (Nat.le_of_ble_eq_true rfl) (by decide) ?_
  have hzz : tzO Tryz.prog 61 = some (cb z32) := by kernel_rfl
  have hd : List.drop 32 (cb z32) = [] := rfl
  simp [go_sem, chB, hzz, cz_len, cz_take, hd, resV, lk]
theorem cwork_fn : RetsE Tryz.prog 127 1 [(0, chB 1)] [.ptr 0 0 0 1, .d (.int .i64 (-1))]
    (fun r hp' => r = .agg w4Z ∧ lk 0 hp' = some (chB 1)) := by
  refine fnE_of_awp Tryz.func127 (by kernel_rfl) rfl Tryz.ntmps127 (rs := [.cell 4 64]) rfl (Nat.le_of_ble_eq_true rfl) (by decide) ?_
  simp [go_sem, chB, zw4, resV, lk, w4Z_len, w4Z]
theorem cWork_fn : RetsE Tryz.prog 144 1 [(0, chB 1)] [.ptr 0 0 0 1]
    (fun r hp' => r = .agg w4Z ∧ lk 0 hp' = some (chB 289)) := by
  refine fnE_of_awp Tryz.func144 (by kernel_rfl) rfl Tryz.ntmps144 (rs := [.cell 2 64]) rfl (Nat.le_of_ble_eq_true rfl) (by decide) ?_
  simp [go_sem, chB]
  refine cl_eff [(0, 0)] cwork_fn rfl (by simp) (by simp [lk, chB, w4Z, zw4, resV]) (by simp [lk, Blk.ren, renR, AV.ren, AV.renL, rho, swp, chB, w4Z, zw4, resV]) (by simp [AV.renL, AV.ren, rho, swp, lk, chB, w4Z, zw4, resV]) ?_
  rintro r hp' ⟨rfl, h0⟩
  refine ⟨[], rfl, ?_⟩
  simp [go_sem, outH, outP, h0, Blk.ren, renR, AV.ren, AV.renL, rho, lk, chB, w4Z, zw4, resV]
theorem nload_fn : RetsE Tryz.prog 14 1 [(0, ndB (.ptr 1 0 0 1) (.d .nilp) (.d .nilp) (.ptr 1 0 0 1))] [.ptr 0 0 0 1, .d (nb [])]
    (fun r hp' => r = .d (.int .i64 0) ∧ lk 0 hp' = some (ndB (.ptr 1 0 0 1) (.ptr 98 0 0 1) (.ptr 130 0 0 1) (.ptr 1 0 0 1)) ∧ lk 98 hp' = some (chB 99)) := by
  refine fnE_of_awp Tryz.func14 (by kernel_rfl) rfl Tryz.ntmps14 (rs := [.tmp 4]) rfl (Nat.le_of_ble_eq_true rfl) (by decide) ?_
  simp [go_sem]
  refine cl_eff [] newC_fn rfl (by simp) (by simp [lk, ndB, chB]) (by simp [lk, Blk.ren, renR, AV.ren, AV.renL, rho, swp, ndB, chB]) (by simp [AV.renL, AV.ren, rho, swp, lk, ndB, chB]) ?_
  rintro r hp' ⟨rfl, h0, h1⟩
  refine ⟨[(97, 0), (33, 1)], rfl, ?_⟩
  simp [go_sem, outH, outP, h0, h1, Blk.ren, renR, AV.ren, AV.renL, rho, lk, ndB, chB]
  clear h0 h1 hp'
  refine cl_eff [] newPl_fn rfl (by simp) (by simp [lk, ndB, chB, nb, resV]) (by simp [lk, Blk.ren, renR, AV.ren, AV.renL, rho, swp, ndB, chB, nb, resV]) (by simp [AV.renL, AV.ren, rho, swp, lk, ndB, chB, nb, resV]) ?_
  rintro r hp' ⟨rfl, h0⟩
  refine ⟨[(65, 0)], rfl, ?_⟩
  simp [go_sem, outH, outP, h0, Blk.ren, renR, AV.ren, AV.renL, rho, lk, ndB, chB, nb, resV]
theorem nopenN_fn : Rets Tryz.prog 4 [.d .nilp, .nil] (fun r => r = .tup [.d .nilp, .d (.int .i64 1)]) := by
  refine fn_of_awp Tryz.func4 (by kernel_rfl) rfl Tryz.ntmps4 (rs := [.tmp 4, .tmp 5]) rfl (Nat.le_of_ble_eq_true rfl) (by simp [AV.deep, AV.deep1]) ?_
  simp [go_sem]
  refine cl_eff [] newV_fn rfl (by simp) (by simp [lk, resV]) (by simp [lk, Blk.ren, renR, AV.ren, AV.renL, rho, swp, resV]) (by simp [AV.renL, AV.ren, rho, swp, lk, resV]) ?_
  rintro r hp' ⟨rfl, h0⟩
  refine ⟨[(193, 0)], rfl, ?_⟩
  simp [go_sem, outH, outP, h0, Blk.ren, renR, AV.ren, AV.renL, rho, lk, resV]
  clear h0 hp'
  refine cl_eq openN_fn (by simp [AV.deep, AV.deep1]) ?_
  simp [go_sem, resV]
  exact post_same (by simp [AV.deep, AV.deep1]) rfl
set_option maxHeartbeats 2000000 in
theorem nopenD_fn : RetsE Tryz.prog 4 3 [(0, dB 1 2), (1, sB), (2, sB)] [.ptr 0 0 0 1, .nil]
    (fun r hp' => r = .tup [.ptr 740 0 0 1, .d (.int .i64 0)] ∧ lk 740 hp' = some (ndB (.ptr 931 0 0 1) (.ptr 900 0 0 1) (.ptr 931 0 0 1) (.ptr 931 0 0 1)) ∧ lk 900 hp' = some (chB 931) ∧ lk 0 hp' = some (dB 1 2) ∧ lk 1 hp' = some sB ∧ lk 2 hp' = some sB) := by
  refine fnE_of_awp Tryz.func4 (by kernel_rfl) rfl Tryz.ntmps4 (rs := [.tmp 4, .tmp 5]) rfl (Nat.le_of_ble_eq_true rfl) (by decide) ?_
  simp [go_sem]
  refine cl_eff [] newV_fn rfl (by simp) (by simp [lk, resV]) (by simp [lk, Blk.ren, renR, AV.ren, AV.renL, rho, swp, resV]) (by simp [AV.renL, AV.ren, rho, swp, lk, resV]) ?_
  rintro r hp' ⟨rfl, h0⟩
  refine ⟨[(193, 0)], rfl, ?_⟩
  simp [go_sem, outH, outP, h0, Blk.ren, renR, AV.ren, AV.renL, rho, lk, resV]
  clear h0 hp'
  refine cl_eff [(0, 0), (1, 1), (2, 2)] openD_fn rfl (by simp) (by simp [lk, dB, sB, rZ_ren, rb_ren]) (by simp [lk, Blk.ren, renR, AV.ren, AV.renL, rho, swp, dB, sB, rZ_ren, rb_ren]) (by simp [AV.renL, AV.ren, rho, swp, lk, dB, sB, rZ_ren, rb_ren]) ?_
  rintro r hp' ⟨rfl, h0, h1, h2, h3, h4⟩
  refine ⟨[(228, 0), (1156, 1)], rfl, ?_⟩
  simp [go_sem, outH, outP, h0, h1, h2, h3, h4, Blk.ren, renR, AV.ren, AV.renL, rho, lk, dB, sB, rZ_ren, rb_ren]
  clear h0 h1 h2 h3 h4 hp'
  refine cl_eff [(0, 388), (1, 389)] load_fn rfl (by simp) (by simp [lk, dB, sB, rZ_ren, rb_ren]) (by simp [lk, Blk.ren, renR, AV.ren, AV.renL, rho, swp, dB, sB, rZ_ren, rb_ren]) (by simp [AV.renL, AV.ren, rho, swp, lk, dB, sB, rZ_ren, rb_ren]) ?_
  rintro r hp' ⟨rfl, h0, h1⟩
  refine ⟨[], rfl, ?_⟩
  simp [go_sem, outH, outP, h0, h1, Blk.ren, renR, AV.ren, AV.renL, rho, lk, dB, sB, rZ_ren, rb_ren]
  clear h0 h1 hp'
  refine cl_eff [(0, 740)] nload_fn rfl (by simp) (by simp [lk, ndB, chB, resV, dB, sB]) (by simp [lk, Blk.ren, renR, AV.ren, AV.renL, rho, swp, ndB, chB, resV, dB, sB]) (by simp [AV.renL, AV.ren, rho, swp, lk, ndB, chB, resV, dB, sB]) ?_
  rintro r hp' ⟨rfl, h0, h1⟩
  refine ⟨[(98, 0)], rfl, ?_⟩
  simp [go_sem, outH, outP, h0, h1, Blk.ren, renR, AV.ren, AV.renL, rho, lk, ndB, chB, resV, dB, sB]
theorem sectors_fn : Rets Tryz.prog 47 [.agg [.nil, .d (.int .i64 10)]] (fun r => r = .d (.int .i64 14)) := by
  refine fn_of_awp Tryz.func47 (by kernel_rfl) rfl Tryz.ntmps47 (rs := [.tmp 2]) rfl (Nat.le_of_ble_eq_true rfl) (by simp [AV.deep, AV.deep1]) ?_
  have v : bits .and .i64 10 511 = 10 := by decide
  have v2 : IntKind.i64.wrap 14 = 14 := by decide
  simp [go_sem, resV, v, v2]
  exact post_same (by simp [AV.deep, AV.deep1]) rfl
set_option maxHeartbeats 2000000 in
theorem made_fn : RetsE Tryz.prog 17 0 [] [.agg [.nil, .d (.int .i64 10)]]
    (fun r hp' => r = .tup [.ptr 193 0 0 1, .ptr 481 0 0 1, .d (.int .i64 0)] ∧ lk 481 hp' = some (ndB (.ptr 512 0 0 1) (.ptr 482 0 0 1) (.ptr 512 0 0 1) (.ptr 512 0 0 1)) ∧ lk 482 hp' = some (chB 512)) := by
  refine fnE_of_awp Tryz.func17 (by kernel_rfl) rfl Tryz.ntmps17 (rs := [.tmp 2, .tmp 3, .tmp 4]) rfl (Nat.le_of_ble_eq_true rfl) (by decide) ?_
  simp [go_sem]
  refine cl_eq sectors_fn (by simp [AV.deep, AV.deep1]) ?_
  simp [go_sem]
  refine cl_eff [] newD_fn rfl (by simp) (by simp [lk, dB, sB, rZ_ren]) (by simp [lk, Blk.ren, renR, AV.ren, AV.renL, rho, swp, dB, sB, rZ_ren]) (by simp [AV.renL, AV.ren, rho, swp, lk, dB, sB, rZ_ren]) ?_
  rintro r hp' ⟨rfl, h0, h1, h2⟩
  refine ⟨[(417, 0), (289, 1), (353, 2)], rfl, ?_⟩
  simp [go_sem, outH, outP, h0, h1, h2, Blk.ren, renR, AV.ren, AV.renL, rho, lk, dB, sB, rZ_ren]
  clear h0 h1 h2 hp'
  refine cl_eff [(0, 193), (1, 194), (2, 195)] nopenD_fn rfl (by simp) (by simp [lk, dB, sB, rZ_ren, ndB, chB, resV]) (by simp [lk, Blk.ren, renR, AV.ren, AV.renL, rho, swp, dB, sB, rZ_ren, ndB, chB, resV]) (by simp [AV.renL, AV.ren, rho, swp, lk, dB, sB, rZ_ren, ndB, chB, resV]) ?_
  rintro r hp' ⟨rfl, h0, h1, h2, h3, h4⟩
  refine ⟨[(740, 0), (900, 1)], rfl, ?_⟩
  simp [go_sem, outH, outP, h0, h1, h2, h3, h4, Blk.ren, renR, AV.ren, AV.renL, rho, lk, dB, sB, rZ_ren, ndB, chB, resV]
theorem aA_bld : List.take 35 (List.take 34 (List.take 2 (aA 0) ++ (cb z32 ++ List.drop 34 (aA 0))) ++ AV.d (DV.int .u32 0) :: List.drop 35 (List.take 2 (aA 0) ++ (cb z32 ++ List.drop 34 (aA 0)))) ++ (w4Z ++ List.drop 39 (List.take 34 (List.take 2 (aA 0) ++ (cb z32 ++ List.drop 34 (aA 0))) ++ AV.d (DV.int .u32 0) :: List.drop 35 (List.take 2 (aA 0) ++ (cb z32 ++ List.drop 34 (aA 0))))) = aA 0 := rfl
set_option maxHeartbeats 4000000 in
theorem answer_fn : RetsE Tryz.prog 87 2 [(0, ndB (.ptr 2 0 0 1) (.ptr 1 0 0 1) (.ptr 2 0 0 1) (.ptr 2 0 0 1)), (1, chB 2)] [.ptr 0 0 0 1, .agg (qA 1)]
    (fun r hp' => r = .tup [.agg (aA 0), .d (.int .i64 0)] ∧ lk 0 hp' = some (ndB (.ptr 2 0 0 1) (.ptr 1 0 0 1) (.ptr 2 0 0 1) (.ptr 2 0 0 1)) ∧ lk 1 hp' = some (chB 802)) := by
  refine fnE_of_awp Tryz.func87 (by kernel_rfl) rfl Tryz.ntmps87 (rs := [.cell 4 68, .tmp 5]) rfl (Nat.le_of_ble_eq_true rfl) (by decide) ?_
  have hzz : tzO Tryz.prog 61 = some (cb z32) := by kernel_rfl
  have hd : List.drop 32 (cb z32) = [] := rfl
  simp [go_sem, ndB, zans, aA_len, aA_take, aA_d, qA_len, qA_h]
  refine cl_eff [(0, 1)] tip_fn rfl (by simp) (by simp [lk, ndB, chB, hzz, hd, cz_len, cz_take, cb_ren]) (by simp [lk, Blk.ren, renR, AV.ren, AV.renL, rho, swp, ndB, chB, hzz, hd, cz_len, cz_take, cb_ren]) (by simp [AV.renL, AV.ren, rho, swp, lk, ndB, chB, hzz, hd, cz_len, cz_take, cb_ren]) ?_
  rintro r hp' ⟨rfl, h0⟩
  refine ⟨[], rfl, ?_⟩
  simp [go_sem, outH, outP, h0, Blk.ren, renR, AV.ren, AV.renL, rho, lk, ndB, chB, hzz, hd, cz_len, cz_take, cb_ren]
  clear h0 hp'
  apply draw3 (1 :: 2 :: 3 :: 4 :: 5 :: []) (0 :: 6 :: 7 :: 8 :: []) (1 :: 2 :: 3 :: 4 :: 5 :: 9 :: []) (.alt (.step 0 ([]) true (.step 6 ([]) false (.step 7 ([]) false (.step 8 (9 :: []) false .done)))) (.step 6 ([]) false (.step 0 ([]) false (.step 7 ([]) false (.step 8 (9 :: []) false .done))))) ⟨[(4, .ptr 35 0 0 1), (5, .d (.int .i64 0))], [(35, ⟨68, 49, [aA 0]⟩), (0, (ndB (.ptr 2 0 0 1) (.ptr 1 0 0 1) (.ptr 2 0 0 1) (.ptr 2 0 0 1))), (1, (chB 802))], 9000⟩ (k := 10) (by kernel_rfl) (by kernel_rfl) rfl
  case hz => repeat (first | exact Its.nil | apply Its.plain rfl | apply Its.guard rfl rfl)
  case hj => repeat (first | exact Tts.done | exact Its.nil | apply Tts.alt | apply Its.plain rfl | apply Its.guard rfl rfl | apply Tts.plain rfl | apply Tts.guard rfl rfl)
  case h3 =>
    intro G hG
    have hW : ∀ (fr : Fr) (hp : Hp), (fv 4 fr = .ptr 35 0 0 1 ∧ fv 5 fr = .d (.int .i64 0) ∧ lk 35 hp = some ⟨68, 49, [aA 0]⟩ ∧ lk 0 hp = some (ndB (.ptr 2 0 0 1) (.ptr 1 0 0 1) (.ptr 2 0 0 1) (.ptr 2 0 0 1)) ∧ lk 1 hp = some (chB 802)) → G fr hp := by
      rintro fr hp ⟨q0, q1, q2, q3, q4⟩
      refine hG _ _ (weak_wk ⟨?_, ?_, by simp⟩)
      · simp [slotOk, AV.low, AV.low1, q0, q1]
      · intro q hq
        simp only [List.mem_cons, List.mem_nil_iff, or_false] at hq
        rcases hq with rfl | rfl | rfl
        · exact ⟨.inl q2, by simp, one_low (aA_low 0) _⟩
        · exact ⟨.inl q3, by simp, by simp [ndB, AV.low1]⟩
        · exact ⟨.inl q4, by simp, by simp [chB, AV.low1]⟩
    simp [go_sem, ndB, chB, cz_len, cz_take, zans, aA_len, w4Z_len]
    repeat' first
      | exact hW _ _ ⟨by simp [fv, lk, ndB, chB]⟩
      | apply And.intro
      | (refine cl_eff [(0, 1)] cWork_fn rfl (by simp) (by simp [lk, chB]) (by simp [lk, Blk.ren, renR, AV.ren, AV.renL, rho, swp, chB]) (by simp [AV.renL, AV.ren, rho, swp, lk]) ?_
         rintro r hp' ⟨rfl, h0⟩
         refine ⟨[], rfl, ?_⟩
         simp [go_sem, outH, outP, h0, Blk.ren, renR, AV.ren, AV.renL, rho, lk, ndB, chB, cz_len, cz_take, zans, aA_len, w4Z_len, w4Z_ren, cb_ren, aA_bld, aA_d])
      | (refine hW _ _ ?_; simp [fv, lk, ndB, chB]; done)
  case hq =>
    simp [go_sem, resV, lk, aA_len, aA_take, ndB, chB]
set_option maxHeartbeats 4000000 in
theorem ask_fn : RetsE Tryz.prog 44 2 [(0, ndB (.ptr 2 0 0 1) (.ptr 1 0 0 1) (.ptr 2 0 0 1) (.ptr 2 0 0 1)), (1, chB 2)] [.ptr 0 0 0 1, .d (nb [1])]
    (fun r hp' => r = .tup [.d (nb (1 :: 0 :: ansL)), .d (.int .i64 0)] ∧ lk 0 hp' = some (ndB (.ptr 482 0 0 1) (.ptr 1 0 0 1) (.ptr 482 0 0 1) (.ptr 482 0 0 1)) ∧ lk 1 hp' = some (chB 482)) := by
  refine fnE_of_awp Tryz.func44 (by kernel_rfl) rfl Tryz.ntmps44 (rs := [.tmp 4, .tmp 5]) rfl (Nat.le_of_ble_eq_true rfl) (by decide) ?_
  simp [go_sem]
  refine cl_eq takeQ_fn (by simp [AV.deep, AV.deep1]) ?_
  simp [go_sem, zque, zans, qA_len, qA_take, qA_d, aA_len, aA_take, aA_d]
  refine cl_eff [(0, 0), (1, 1)] answer_fn rfl (by simp) (by simp [lk, ndB, chB, zque, zans, qA_len, qA_take, qA_d, qA_h, aA_len, aA_take, aA_d, aA_h, aA_t, aA_ren, qA_ren]) (by simp [lk, Blk.ren, renR, AV.ren, AV.renL, rho, swp, ndB, chB, zque, zans, qA_len, qA_take, qA_d, qA_h, aA_len, aA_take, aA_d, aA_h, aA_t, aA_ren, qA_ren]) (by simp [AV.renL, AV.ren, rho, swp, lk, ndB, chB, zque, zans, qA_len, qA_take, qA_d, qA_h, aA_len, aA_take, aA_d, aA_h, aA_t, aA_ren, qA_ren]) ?_
  rintro r hp' ⟨rfl, h0, h1⟩
  refine ⟨[], rfl, ?_⟩
  simp [go_sem, outH, outP, h0, h1, Blk.ren, renR, AV.ren, AV.renL, rho, lk, ndB, chB, zque, zans, qA_len, qA_take, qA_d, qA_h, aA_len, aA_take, aA_d, aA_h, aA_t, aA_ren, qA_ren]
  clear h0 h1 hp'
  refine cl_eq putA_fn (by intro v hv; simp at hv; subst hv; exact aA_deep 1) ?_
  simp [go_sem, resV, lk, ndB, chB]
def nd1 (i : Nat) : Blk := ⟨52, 6, [[.ptr i 0 0 1, .ptr i 0 0 1, .ptr i 0 0 1, .ptr i 0 0 1, .d (.int .u32 1), .d (.bool false)]]⟩
theorem tick_fn : RetsE Tryz.prog 45 1 [(0, ndB (.ptr 1 0 0 1) (.ptr 1 0 0 1) (.ptr 1 0 0 1) (.ptr 1 0 0 1))] [.ptr 0 0 0 1, .d (nb [1, 0, 0, 0])]
    (fun r hp' => r = .tup [.nil, .d (.int .i64 0)] ∧ lk 0 hp' = some (nd1 1)) := by
  refine fnE_of_awp Tryz.func45 (by kernel_rfl) rfl Tryz.ntmps45 (rs := [.tmp 4, .tmp 5]) rfl (Nat.le_of_ble_eq_true rfl) (by decide) ?_
  simp [go_sem]
  refine cl_eq (take32_fn 1 [] (by omega) (by simp)) (by simp [AV.deep, AV.deep1]) ?_
  simp [go_sem, ndB, nb, resV, nd1, lk]
theorem doer4_fn : RetsE Tryz.prog 16 2 [(0, ndB (.ptr 2 0 0 1) (.ptr 1 0 0 1) (.ptr 2 0 0 1) (.ptr 2 0 0 1)), (1, chB 2)] [.ptr 0 0 0 1, .d (.int .u8 4)]
    (fun r hp' => r = .mth 44 [.ptr 0 0 0 1] ∧ lk 0 hp' = some (ndB (.ptr 2 0 0 1) (.ptr 1 0 0 1) (.ptr 2 0 0 1) (.ptr 2 0 0 1)) ∧ lk 1 hp' = some (chB 2)) := by
  refine fnE_of_awp Tryz.func16 (by kernel_rfl) rfl Tryz.ntmps16 (rs := [.tmp 4]) rfl (Nat.le_of_ble_eq_true rfl) (by decide) ?_
  simp [go_sem, resV, lk, ndB, chB]
theorem doer5_fn : RetsE Tryz.prog 16 2 [(0, ndB (.ptr 2 0 0 1) (.ptr 1 0 0 1) (.ptr 2 0 0 1) (.ptr 2 0 0 1)), (1, chB 2)] [.ptr 0 0 0 1, .d (.int .u8 5)]
    (fun r hp' => r = .mth 45 [.ptr 0 0 0 1] ∧ lk 0 hp' = some (ndB (.ptr 2 0 0 1) (.ptr 1 0 0 1) (.ptr 2 0 0 1) (.ptr 2 0 0 1)) ∧ lk 1 hp' = some (chB 2)) := by
  refine fnE_of_awp Tryz.func16 (by kernel_rfl) rfl Tryz.ntmps16 (rs := [.tmp 4]) rfl (Nat.le_of_ble_eq_true rfl) (by decide) ?_
  simp [go_sem, resV, lk, ndB, chB]
theorem doer6_fn : RetsE Tryz.prog 16 2 [(0, ndB (.ptr 2 0 0 1) (.ptr 1 0 0 1) (.ptr 2 0 0 1) (.ptr 2 0 0 1)), (1, chB 2)] [.ptr 0 0 0 1, .d (.int .u8 6)]
    (fun r hp' => r = .d .nilf ∧ lk 0 hp' = some (ndB (.ptr 2 0 0 1) (.ptr 1 0 0 1) (.ptr 2 0 0 1) (.ptr 2 0 0 1)) ∧ lk 1 hp' = some (chB 2)) := by
  refine fnE_of_awp Tryz.func16 (by kernel_rfl) rfl Tryz.ntmps16 (rs := [.tmp 4]) rfl (Nat.le_of_ble_eq_true rfl) (by decide) ?_
  simp [go_sem, resV, lk, ndB, chB]
end Go.Proofs.YtnmnabagabejjaaGreat
