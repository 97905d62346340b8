/-
  The store of a fresh disk.
-/
import Derived.Test.YtnmnabagabejjaaGreatNdb
namespace Go.Proofs.YtnmnabagabejjaaGreat
open Go.Am Go.Sha
set_option linter.unusedSimpArgs false
set_option linter.unusedVariables false

def nZ (k : Nat) : List Nat := List.replicate (128 * k) 0
theorem nZ_len (k : Nat) : (nZ k).length = 128 * k := by simp [nZ]
theorem nZ_rows (k : Nat) : rb (nZ k) ++ (cb sec0).map (fun v => [v]) = rb (nZ (k + 1)) := by
  have : (cb sec0).map (fun v => [v]) = rb sec0 := by simp [cb, rb]
  rw [this, rb_app]
  unfold nZ sec0
  rw [List.replicate_append_replicate, Nat.mul_succ]
theorem nZ_zero : (cb sec0).map (fun v => [v]) = rb (nZ 1) := by simp [cb, rb, nZ, sec0]
theorem nZ_snap {hp : Hp} {I : Nat → Prop} {id : Nat} (hb : lk id hp = some ⟨5, 1, rb (nZ 6)⟩) (hI : I id := by simp) : SnapD hp I (.own id 0 768 768) (nb (nZ 6)) := by
  have h := snap_rb (i0 := 0) (n := 768) hb hI (by rw [nZ_len]; decide)
  rw [List.drop_zero, List.take_of_length_le (by rw [nZ_len]; omega), nZ_len] at h
  exact h
theorem nZ_snap0 {hp : Hp} {I : Nat → Prop} {id : Nat} (hb : lk id hp = some ⟨5, 1, rb (nZ 6)⟩) (hI : I id := by simp) : SnapD hp I (.own id 4 0 768) (nb []) := by
  have h := snap_rb (i0 := 4) (n := 0) hb hI (by rw [nZ_len]; decide)
  rw [nZ_len] at h
  exact h
set_option maxRecDepth 20000 in
set_option maxHeartbeats 1000000 in
theorem get_fn (f n : Nat) (h : f + n ≤ 14) (hn : 1 ≤ n) : RetsE Tryz.prog 30 4 [(0, tB 1), (1, dB 2 3), (2, sB), (3, sB)] [.ptr 0 0 0 1, .d (.int .i64 (f : Int)), .d (.int .i64 (n : Int))]
    (fun r hp' => r = .own 900 0 (128 * n) (128 * n) ∧ lk 900 hp' = some ⟨5, 1, rb (nZ n)⟩ ∧ lk 0 hp' = some (tB 1) ∧ lk 1 hp' = some (dB 2 3) ∧ lk 2 hp' = some sB ∧ lk 3 hp' = some sB) := by
  refine fnE_of_awp Tryz.func30 (by kernel_rfl) rfl Tryz.ntmps30 (rs := [.tmp 6]) rfl (Nat.le_of_ble_eq_true rfl) (by decide) ?_
  have w1 : IntKind.i64.wrap ((f : Int) + (n : Int)) = (f : Int) + (n : Int) := IntWalk.i64_in _ (by omega)
  simp [go_sem]
  refine loop_of (fun k : Nat => match k with
      | 0 => ⟨[(0, .ptr 0 0 0 1), (1, .d (.int .i64 (f : Int))), (2, .d (.int .i64 (n : Int))), (7, .nil), (8, .d (.int .i64 (f : Int)))], [(0, tB 1), (1, dB 2 3), (2, sB), (3, sB)], 1000⟩
      | k + 1 => ⟨[(0, .ptr 0 0 0 1), (1, .d (.int .i64 (f : Int))), (2, .d (.int .i64 (n : Int))), (7, .own 900 0 (128 * (k + 1)) (128 * (k + 1))), (8, .d (.int .i64 ((f : Int) + ((k : Int) + 1))))], [(900, ⟨5, 1, rb (nZ (k + 1))⟩), (0, tB 1), (1, dB 2 3), (2, sB), (3, sB)], 1000⟩)
    (fun k => k ≤ n) (fun k => n - k) 0 (by omega) (by
      simp [Weak, slotOk, fv, lk, AV.low, AV.low1, tB, dB, sB]
      exact rZ_low _) ?_
  intro k hk
  match k, hk with
  | 0, _ =>
    have h1 : (f : Int) < (f : Int) + (n : Int) := by omega
    have w2 : IntKind.i64.wrap ((f : Int) + 1) = (f : Int) + 1 := IntWalk.i64_in _ (by omega)
    simp [go_sem, w1, h1, tB]
    refine cl_eff [(0, 1), (1, 2), (2, 3)] (dread_fn f (by omega)) rfl (by simp) (by simp [lk, dB, sB]) (by simp [lk, Blk.ren, renR, AV.ren, AV.renL, rho, swp, dB, sB, rZ_ren]) (by simp [AV.renL, AV.ren, rho, swp, lk]) ?_
    rintro r hp' ⟨rfl, q0, q1, q2, q3⟩
    refine ⟨[(612, 0)], rfl, ?_⟩
    simp [go_sem, outH, outP, q0, q1, q2, q3, Blk.ren, renR, AV.ren, AV.renL, rho, lk, dB, sB, rZ_ren, sec0_ren, tB, sec0_len, w2]
    have hr : roR (some (cb sec0)) 1 1 1 1 0 128 = some (rb sec0) := by kernel_rfl
    simp [go_sem, sec0_len] at hr
    rw [hr]
    refine nextR_of 1 (by omega) (by omega) [(1960, 900), (0, 0), (1, 1), (2, 2), (3, 3)] 999 (by decide) (by decide) (by decide) (by decide) ?_
    simp [Weak, slotOk, fv, lk, AV.low, AV.low1, renF, renH, rho, AV.ren, AV.renL, Blk.ren, renR, rb_ren, rZ_ren]
    exact ⟨⟨rfl, rb_low _ _⟩, rZ_low _⟩
  | k + 1, hk =>
    by_cases hk2 : k + 1 < n
    · have h1 : (f : Int) + ((k : Int) + 1) < (f : Int) + (n : Int) := by omega
      have w2 : IntKind.i64.wrap ((f : Int) + ((k : Int) + 1) + 1) = (f : Int) + ((k : Int) + 1) + 1 := IntWalk.i64_in _ (by omega)
      have ek : (f : Int) + ((k : Int) + 1) = ((f + (k + 1) : Nat) : Int) := by omega
      simp [go_sem, w1, h1, tB]
      refine cl_eff [(0, 1), (1, 2), (2, 3)] (ek ▸ dread_fn (f + (k + 1)) (by omega)) rfl (by simp) (by simp [lk, dB, sB]) (by simp [lk, Blk.ren, renR, AV.ren, AV.renL, rho, swp, dB, sB, rZ_ren]) (by simp [AV.renL, AV.ren, rho, swp, lk]) ?_
      rintro r hp' ⟨rfl, q0, q1, q2, q3⟩
      refine ⟨[(612, 0)], rfl, ?_⟩
      simp [go_sem, outH, outP, q0, q1, q2, q3, Blk.ren, renR, AV.ren, AV.renL, rho, lk, dB, sB, rZ_ren, sec0_ren, tB, sec0_len, w2]
      have hr : roR (some (cb sec0)) 1 1 1 1 0 128 = some (rb sec0) := by kernel_rfl
      simp [go_sem, sec0_len] at hr
      rw [hr]
      have hs : rb (nZ (k + 1)) ++ rb sec0 = rb (nZ (k + 2)) := by
        rw [rb_app]
        congr 1
        unfold nZ sec0
        rw [List.replicate_append_replicate, Nat.mul_succ 128 (k + 1)]
      rw [hs]
      refine ⟨by rw [rb_len, nZ_len], by omega, ?_⟩
      refine next_of (k + 2) (by omega) (by omega) ?_
      simp [Weak, slotOk, fv, lk, AV.low, AV.low1]
      exact ⟨⟨by omega, by omega⟩, rb_low _ _, rZ_low _⟩
    · have hkn : k + 1 = n := by omega
      subst hkn
      have w3 : IntKind.i64.wrap ((f : Int) + ((k : Int) + 1)) = (f : Int) + ((k : Int) + 1) := IntWalk.i64_in _ (by omega)
      simp [go_sem, w3, resV, lk]
theorem nZ1_0 (h : 0 < (rb (nZ 1)).length) : (rb (nZ 1))[0]'h = [.d (.int .u8 0)] := rfl
set_option maxRecDepth 20000 in
theorem undo_fn : RetsE Tryz.prog 29 4 [(0, tB 1), (1, dB 2 3), (2, sB), (3, sB)] [.agg [.d (.int .i64 6), .d (.int .i64 1)], .ptr 0 0 0 1]
    (fun r hp' => r = .tup [] ∧ lk 0 hp' = some (tB 1) ∧ lk 1 hp' = some (dB 2 3) ∧ lk 2 hp' = some sB ∧ lk 3 hp' = some sB) := by
  refine fnE_of_awp Tryz.func29 (by kernel_rfl) rfl Tryz.ntmps29 (rs := []) rfl (Nat.le_of_ble_eq_true rfl) (by decide) ?_
  simp [go_sem]
  refine cl_eff [(0, 0), (1, 1), (2, 2), (3, 3)] (get_fn 0 1 (by omega) (by omega)) rfl (by simp) (by simp [lk, tB, dB, sB]) (by simp [lk, Blk.ren, renR, AV.ren, AV.renL, rho, swp, tB, dB, sB, rZ_ren]) (by simp [AV.renL, AV.ren, rho, swp, lk]) ?_
  rintro r hp' ⟨rfl, q4, q0, q1, q2, q3⟩
  refine ⟨[(900, 0)], rfl, ?_⟩
  simp [go_sem, outH, outP, q0, q1, q2, q3, q4, Blk.ren, renR, AV.ren, AV.renL, rho, lk, tB, dB, sB, rZ_ren, rb_ren, rb_len, nZ_len, nZ1_0, resV]
theorem openN_fn : Rets Tryz.prog 13 [.d .nilp] (fun r => r = .tup [.d .nilp, .d (.int .i64 1)]) := by
  refine fn_of_awp Tryz.func13 (by kernel_rfl) rfl Tryz.ntmps13 (rs := [.tmp 2, .tmp 3]) rfl (Nat.le_of_ble_eq_true rfl) (by simp [AV.deep, AV.deep1]) ?_
  simp [go_sem]
  refine cl_eq sectN_fn (by simp [AV.deep, AV.deep1]) ?_
  simp [go_sem]
  refine cl_eq (lay_fn 0 0 (.inr ⟨rfl, rfl⟩)) (by simp [AV.deep, AV.deep1]) ?_
  simp [go_sem, resV]
  exact post_same (by simp [AV.deep, AV.deep1]) rfl
set_option maxRecDepth 20000 in
set_option maxHeartbeats 2000000 in
theorem openD_fn : RetsE Tryz.prog 13 3 [(0, dB 1 2), (1, sB), (2, sB)] [.ptr 0 0 0 1]
    (fun r hp' => r = .tup [.ptr 228 0 0 1, .d (.int .i64 0)] ∧ lk 228 hp' = some ⟨90, 5, [[.d (.int .i64 6), .d (.int .i64 1), .ptr 0 0 0 1, .own 1156 4 0 768, .d (.bool false)]]⟩ ∧ lk 1156 hp' = some ⟨5, 1, rb (nZ 6)⟩ ∧ lk 0 hp' = some (dB 1 2) ∧ lk 1 hp' = some sB ∧ lk 2 hp' = some sB) := by
  refine fnE_of_awp Tryz.func13 (by kernel_rfl) rfl Tryz.ntmps13 (rs := [.tmp 2, .tmp 3]) rfl (Nat.le_of_ble_eq_true rfl) (by decide) ?_
  simp [go_sem]
  refine cl_eff [(0, 0), (1, 1), (2, 2)] sectD_fn rfl (by simp) (by simp [lk, dB, sB]) (by simp [lk, Blk.ren, renR, AV.ren, AV.renL, rho, swp, dB, sB, rZ_ren]) (by simp [AV.renL, AV.ren, rho, swp, lk]) ?_
  rintro r hp' ⟨rfl, q0, q1, q2⟩
  refine ⟨[], rfl, ?_⟩
  simp [go_sem, outH, outP, q0, q1, q2, Blk.ren, renR, AV.ren, AV.renL, rho, lk, dB, sB, rZ_ren]
  clear q0 q1 q2 hp'
  refine cl_eq (lay_fn 14 6 (.inl ⟨rfl, rfl⟩)) (by simp [AV.deep, AV.deep1]) ?_
  simp [go_sem]
  refine cl_eff [(0, 548), (1, 0), (2, 1), (3, 2)] undo_fn rfl (by simp) (by simp [lk]) (by simp [lk, Blk.ren, renR, AV.ren, AV.renL, rho, swp, tB, dB, sB, rZ_ren]) (by simp [AV.renL, AV.ren, rho, swp, lk]) ?_
  rintro r hp' ⟨rfl, q0, q1, q2, q3⟩
  refine ⟨[], rfl, ?_⟩
  simp [go_sem, outH, outP, q0, q1, q2, q3, Blk.ren, renR, AV.ren, AV.renL, rho, lk, tB, dB, sB, rZ_ren]
  clear q0 q1 q2 q3 hp'
  apply draw2 (0 :: 1 :: 2 :: 3 :: 4 :: 6 :: 7 :: 8 :: 9 :: 10 :: []) ((5, ([])) :: (11, (12 :: [])) :: []) 2 (k := 13) (by kernel_rfl) (by kernel_rfl) rfl
  case hz => repeat (first | exact Its.nil | apply Its.plain rfl | apply Its.guard rfl rfl)
  case hj => repeat (first | exact Jts.nil | exact Its.nil | apply Its.plain rfl | apply Its.guard rfl rfl | apply Jts.plain rfl | apply Jts.guard rfl rfl)
  intro G hG
  simp [go_sem]
  refine cl_eq (slot_fn 0 (by omega)) (by simp [AV.deep, AV.deep1]) ?_
  simp [go_sem]
  refine cl_eff [(0, 548), (1, 0), (2, 1), (3, 2)] (get_fn 2 6 (by omega) (by omega)) rfl (by simp) (by simp [lk, tB, dB, sB]) (by simp [lk, Blk.ren, renR, AV.ren, AV.renL, rho, swp, tB, dB, sB, rZ_ren]) (by simp [AV.renL, AV.ren, rho, swp, lk]) ?_
  rintro r hp' ⟨rfl, q4, q0, q1, q2, q3⟩
  refine ⟨[(900, 0)], rfl, ?_⟩
  simp [go_sem, outH, outP, q0, q1, q2, q3, q4, Blk.ren, renR, AV.ren, AV.renL, rho, lk, tB, dB, sB, rZ_ren, rb_ren]
  clear q0 q1 q2 q3 q4 hp'
  refine hG _ _ ?_
  clear hG G
  simp [go_sem]
  have w4 : IntKind.i64.wrap 4 = 4 := by decide
  refine cl_snap (snum_fn (nZ 6) rfl (by rw [nZ_len]; omega)) rfl (snap_cons (.one (snap1_d ?hs)) (snap_cons (.deep (by simp [AV.deep, AV.deep1])) snap_nil)) trivial ?_
  case hs =>
    refine nZ_snap ?_
    rfl
  simp [go_sem]
  refine cl_eq room_fn (by simp [AV.deep, AV.deep1]) ?_
  simp [go_sem, w4, resV, lk, dB, sB]
/-- The image of an empty store. -/
theorem load_fn : RetsE Tryz.prog 15 2 [(0, ⟨90, 5, [[.d (.int .i64 6), .d (.int .i64 1), .ptr 2 0 0 1, .own 1 4 0 768, .d (.bool false)]]⟩), (1, ⟨5, 1, rb (nZ 6)⟩)] [.ptr 0 0 0 1]
    (fun r hp' => r = .d (nb []) ∧ lk 0 hp' = some ⟨90, 5, [[.d (.int .i64 6), .d (.int .i64 1), .ptr 2 0 0 1, .own 1 4 0 768, .d (.bool false)]]⟩ ∧ lk 1 hp' = none) := by
  refine fnE_of_awp Tryz.func15 (by kernel_rfl) rfl Tryz.ntmps15 (rs := [.tmp 2]) rfl (Nat.le_of_ble_eq_true rfl) (by decide) ?_
  simp [go_sem]
  refine cl_froz [1] cloneE_fn rfl (snap_cons (.one (snap1_d ?hs)) snap_nil) ?_
  case hs =>
    refine nZ_snap0 ?_
    rfl
  simp [go_sem, dropH, resV, lk]
end Go.Proofs.YtnmnabagabejjaaGreat
