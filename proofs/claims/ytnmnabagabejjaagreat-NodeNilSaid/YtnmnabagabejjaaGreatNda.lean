/-
  A fresh disk of 14 sectors, and the store of it.
-/
import Derived.Test.YtnmnabagabejjaaGreatHwa
namespace Go.Proofs.YtnmnabagabejjaaGreat
open Go.Am Go.Sha
set_option linter.unusedSimpArgs false
set_option linter.unusedVariables false

def sec0 : List Nat := List.replicate 128 0
theorem sec0_len : (cb sec0).length = 128 := by rw [cb_len]; rfl
theorem sec0_take : (cb sec0).take 128 = cb sec0 := List.take_of_length_le (by rw [sec0_len]; omega)
theorem sec0_ren (ρ : Nat → Nat) : AV.renL ρ (cb sec0) = cb sec0 := cb_ren ρ _
theorem zsec : tzO Tryz.prog 220 = some (cb sec0) := by kernel_rfl
theorem zdsk : tzO Tryz.prog 151 = some [.nil, .nil, .nil, .d (.int .i64 0), .d (.bool false)] := by kernel_rfl
theorem zlay : tzO Tryz.prog 86 = some [.d (.int .i64 0), .d (.int .i64 0)] := by kernel_rfl
theorem zsto : tzO Tryz.prog 90 = some [.d (.int .i64 0), .d (.int .i64 0), .d .nilp, .nil, .d (.bool false)] := by kernel_rfl
theorem ztap : tzO Tryz.prog 93 = some [.d .nilp, .d (.int .i64 0)] := by kernel_rfl
theorem isPtrD : isPtr Tryz.prog 40 = true := by kernel_rfl
theorem isPtrS : isPtr Tryz.prog 45 = true := by kernel_rfl
theorem isPtrT : isPtr Tryz.prog 91 = true := by kernel_rfl
attribute [go_sem] zdsk zlay zsto ztap isPtrD isPtrS isPtrT
/-- Rows of sectors of noughts. -/
def rZ : List (List AV) := List.replicate 14 (cb sec0)
theorem rZ_is : List.replicate 14 (cb sec0) = rZ := rfl
theorem rZ_len : rZ.length = 14 := rfl
theorem rZ_get {i : Nat} (h : i < 14) : rZ[i]? = some (cb sec0) := by unfold rZ; rw [List.getElem?_replicate, if_pos h]
theorem rZ_ren (ρ : Nat → Nat) : List.map (AV.renL ρ) rZ = rZ := by simp [rZ, sec0_ren]
theorem rZ_low (n : Nat) : ∀ r, r ∈ rZ → ∀ v, v ∈ r → v.low1 n := by
  intro r hr
  obtain ⟨_, rfl⟩ := List.mem_replicate.1 hr
  exact cb_low n _
def dB (i j : Nat) : Blk := ⟨151, 5, [[.own i 0 14 14, .own j 0 14 14, .nil, .d (.int .i64 (-1)), .d (.bool false)]]⟩
def sB : Blk := ⟨220, 128, rZ⟩
def tB (i : Nat) : Blk := ⟨93, 2, [[.ptr i 0 0 1, .d (.int .i64 0)]]⟩

theorem newD_fn : RetsE Tryz.prog 46 0 [] [.d (.int .i64 14)] (fun r hp' => r = .tup [.ptr 417 0 0 1, .d (.int .i64 0)] ∧ lk 417 hp' = some (dB 289 353) ∧ lk 289 hp' = some sB ∧ lk 353 hp' = some sB) := by
  refine fnE_of_awp Tryz.func46 (by kernel_rfl) rfl Tryz.ntmps46 (rs := [.tmp 2, .tmp 3]) rfl (Nat.le_of_ble_eq_true rfl) (by decide) ?_
  simp [go_sem]
  apply draw3 (0 :: 2 :: []) (1 :: 3 :: 5 :: []) (0 :: 2 :: 4 :: 6 :: 7 :: []) (.alt (.step 1 ([]) true (.step 3 (4 :: []) true (.step 5 (6 :: 7 :: []) true .done))) (.step 3 ([]) true (.step 1 (4 :: []) true (.step 5 (6 :: 7 :: []) true .done)))) ⟨[(2, .ptr 417 0 0 1), (3, .d (.int .i64 0))], [(417, dB 289 353), (289, sB), (353, sB)], 9000⟩ (k := 8) (by kernel_rfl) (by kernel_rfl) rfl
  case hz => repeat (first | exact Its.nil | apply Its.plain rfl | apply Its.guard rfl rfl)
  case hj => repeat (first | exact Tts.done | exact Its.nil | apply Tts.alt | apply Its.plain rfl | apply Its.guard rfl rfl | apply Tts.plain rfl | apply Tts.guard rfl rfl)
  case h3 =>
    intro G hG
    have hW : ∀ (fr : Fr) (hp : Hp), (fv 2 fr = .ptr 417 0 0 1 ∧ fv 3 fr = .d (.int .i64 0) ∧ lk 417 hp = some (dB 289 353) ∧ lk 289 hp = some sB ∧ lk 353 hp = some sB) → G fr hp := by
      rintro fr hp ⟨q0, q1, q2, q3, q4⟩
      refine hG _ _ (weak_wk ⟨?_, ?_, by simp⟩)
      · simp [slotOk, AV.low, AV.low1, q0, q1]
      · intro q hq
        simp only [List.mem_cons, List.mem_nil_iff, or_false] at hq
        rcases hq with rfl | rfl | rfl
        · exact ⟨.inl q2, by simp, by simp [dB, AV.low1]⟩
        · exact ⟨.inl q3, by simp, rZ_low _⟩
        · exact ⟨.inl q4, by simp, rZ_low _⟩
    simp [go_sem, zsec, sec0_len, rZ_is]
    and_intros <;> (refine hW _ _ ?_; simp [fv, lk, dB, sB])
  case hq =>
    simp [go_sem, resV, lk]
theorem sectN_fn : Rets Tryz.prog 28 [.d .nilp] (fun r => r = .d (.int .i64 0)) := by
  refine fn_of_awp Tryz.func28 (by kernel_rfl) rfl Tryz.ntmps28 (rs := [.tmp 2]) rfl (Nat.le_of_ble_eq_true rfl) (by simp [AV.deep, AV.deep1]) ?_
  simp [go_sem, resV]
  exact post_same (by simp [AV.deep, AV.deep1]) rfl
theorem sectD_fn : RetsE Tryz.prog 28 3 [(0, dB 1 2), (1, sB), (2, sB)] [.ptr 0 0 0 1] (fun r hp' => r = .d (.int .i64 14) ∧ lk 0 hp' = some (dB 1 2) ∧ lk 1 hp' = some sB ∧ lk 2 hp' = some sB) := by
  refine fnE_of_awp Tryz.func28 (by kernel_rfl) rfl Tryz.ntmps28 (rs := [.tmp 2]) rfl (Nat.le_of_ble_eq_true rfl) (by decide) ?_
  simp [go_sem, resV, lk, dB, sB]

theorem lists_fn (n : Nat) (hn : n ≤ 30) : Rets Tryz.prog 61 [.d (.int .i64 (n : Int))] (fun r => r = .d (.int .i64 1)) := by
  refine fn_of_awp Tryz.func61 (by kernel_rfl) rfl Tryz.ntmps61 (rs := [.tmp 2]) rfl (Nat.le_of_ble_eq_true rfl) (by simp [AV.deep, AV.deep1]) ?_
  have w1 : IntKind.i64.wrap ((n : Int) + 1) = (n : Int) + 1 := IntWalk.i64_in _ (by omega)
  have w2 : IntKind.i64.wrap (4 * ((n : Int) + 1)) = 4 * ((n : Int) + 1) := IntWalk.i64_in _ (by omega)
  have w3 : IntKind.i64.wrap (4 * ((n : Int) + 1) + 128) = 4 * ((n : Int) + 1) + 128 := IntWalk.i64_in _ (by omega)
  have w4 : IntKind.i64.wrap (4 * ((n : Int) + 1) + 128 - 1) = 4 * ((n : Int) + 1) + 127 := by rw [IntWalk.i64_in _ (by omega)]; omega
  have w5 : IntKind.i64.wrap (Int.tdiv (4 * ((n : Int) + 1) + 127) 128) = 1 := by
    rw [Int.tdiv_eq_ediv_of_nonneg (by omega), show (4 * ((n : Int) + 1) + 127) / 128 = 1 by omega]
    rfl
  simp [go_sem, resV, w1, w2, w3, w4]
  simp only [w5]
  exact post_same (by simp [AV.deep, AV.deep1]) rfl
theorem lay_fn (S m : Nat) (h : S = 14 ∧ m = 6 ∨ S = 0 ∧ m = 0) : Rets Tryz.prog 27 [.d (.int .i64 (S : Int))] (fun r => r = .agg [.d (.int .i64 (m : Int)), .d (.int .i64 1)]) := by
  refine fn_of_awp Tryz.func27 (by kernel_rfl) rfl Tryz.ntmps27 (rs := [.cell 2 86]) rfl (Nat.le_of_ble_eq_true rfl) (by simp [AV.deep, AV.deep1]) ?_
  simp [go_sem]
  refine loop_of (fun k : Nat => ⟨[(0, .d (.int .i64 (S : Int))), (2, .ptr 0 0 0 1), (3, .d (.int .i64 (k : Int)))], [(0, ⟨86, 2, [[.d (.int .i64 0), .d (.int .i64 0)]]⟩)], 1000⟩)
    (fun k => k ≤ m) (fun k => m - k) 0 (by omega) (by
      simp [Weak, slotOk, fv, lk, AV.low, AV.low1]) ?_
  intro k hk
  have w1 : IntKind.i64.wrap ((k : Int) + 1) = ((k + 1 : Nat) : Int) := by rw [IntWalk.i64_in _ (by omega)]; omega
  have w3 : IntKind.i64.wrap (2 * ((k + 1 : Nat) : Int)) = ((2 * (k + 1) : Nat) : Int) := by rw [IntWalk.i64_in _ (by omega)]; omega
  have w4 : IntKind.i64.wrap (2 + ((2 * (k + 1) : Nat) : Int)) = ((2 * k + 4 : Nat) : Int) := by rw [IntWalk.i64_in _ (by omega)]; omega
  have w5 : IntKind.i64.wrap (1 + 1) = 2 := by decide
  simp only [go_sem, Nat.reduceEqDiff, Nat.reduceAdd, Nat.reduceLT, ↓reduceIte, w1]
  refine cl_eq (lists_fn (k + 1) (by omega)) (by simp [AV.deep, AV.deep1]) ?_
  simp only [go_sem, Nat.reduceEqDiff, Nat.reduceAdd, Nat.reduceLT, ↓reduceIte, w1, w3, w4, w5]
  refine ⟨fun h2 => ?_, fun h2 => ?_⟩
  · simp [go_sem, w1]
    refine next_of (k + 1) (by omega) (by omega) ?_
    simp [Weak, slotOk, fv, lk, AV.low, AV.low1]
  · have hkm : k = m := by omega
    subst hkm
    simp [go_sem]
    refine cl_eq (lists_fn k (by omega)) (by simp [AV.deep, AV.deep1]) ?_
    simp [go_sem, resV]
    exact post_same (by simp [AV.deep, AV.deep1]) rfl
theorem slot_fn (i : Nat) (hi : i ≤ 14) : Rets Tryz.prog 31 [.agg [.d (.int .i64 6), .d (.int .i64 1)], .d (.int .i64 (i : Int))] (fun r => r = .d (.int .i64 ((i + 2 : Nat) : Int))) := by
  refine fn_of_awp Tryz.func31 (by kernel_rfl) rfl Tryz.ntmps31 (rs := [.tmp 4]) rfl (Nat.le_of_ble_eq_true rfl) (by simp [AV.deep, AV.deep1]) ?_
  have w1 : IntKind.i64.wrap 2 = 2 := by decide
  have w2 : IntKind.i64.wrap (2 + (i : Int)) = (i : Int) + 2 := by rw [IntWalk.i64_in _ (by omega)]; omega
  simp [go_sem, resV, w1, w2]
  exact post_same (by simp [AV.deep, AV.deep1]) rfl
theorem room_fn : Rets Tryz.prog 33 [.agg [.d (.int .i64 6), .d (.int .i64 1)]] (fun r => r = .d (.int .i64 764)) := by
  refine fn_of_awp Tryz.func33 (by kernel_rfl) rfl Tryz.ntmps33 (rs := [.tmp 2]) rfl (Nat.le_of_ble_eq_true rfl) (by simp [AV.deep, AV.deep1]) ?_
  have w1 : IntKind.i64.wrap (6 * 128) = 768 := by decide
  have w2 : IntKind.i64.wrap (768 - 4) = 764 := by decide
  simp [go_sem, resV, w1, w2]
  exact post_same (by simp [AV.deep, AV.deep1]) rfl

theorem has_fn (i : Nat) (hi : i < 14) : RetsE Tryz.prog 107 3 [(0, dB 1 2), (1, sB), (2, sB)] [.ptr 0 0 0 1, .d (.int .i64 (i : Int))] (fun r hp' => r = .d (.bool true) ∧ lk 0 hp' = some (dB 1 2) ∧ lk 1 hp' = some sB ∧ lk 2 hp' = some sB) := by
  refine fnE_of_awp Tryz.func107 (by kernel_rfl) rfl Tryz.ntmps107 (rs := [.tmp 4]) rfl (Nat.le_of_ble_eq_true rfl) (by decide) ?_
  have h1 : (i : Int) < 14 := by omega
  simp [go_sem, resV, lk, dB, sB, h1]
theorem dread_fn (i : Nat) (hi : i < 14) : RetsE Tryz.prog 67 3 [(0, dB 1 2), (1, sB), (2, sB)] [.ptr 0 0 0 1, .d (.int .i64 (i : Int))] (fun r hp' => r = .tup [.sub 612 0 0 1 128 128 1, .d (.int .i64 0)] ∧ lk 0 hp' = some (dB 1 2) ∧ lk 1 hp' = some sB ∧ lk 2 hp' = some sB ∧ lk 612 hp' = some ⟨220, 128, [cb sec0]⟩) := by
  refine fnE_of_awp Tryz.func67 (by kernel_rfl) rfl Tryz.ntmps67 (rs := [.tmp 4, .tmp 5]) rfl (Nat.le_of_ble_eq_true rfl) (by decide) ?_
  have hi1 : (i : Int) < 14 := by omega
  have hg := rZ_get hi
  simp [go_sem]
  refine cl_eff [(0, 0), (1, 1), (2, 2)] (has_fn i hi) rfl (by simp) (by simp [lk, dB, sB]) (by simp [lk, Blk.ren, renR, AV.ren, AV.renL, rho, swp, dB, sB, rZ_ren]) (by simp [AV.renL, AV.ren, rho, swp, lk]) ?_
  rintro r hp' ⟨rfl, h0, h1, h2⟩
  refine ⟨[], rfl, ?_⟩
  simp [go_sem, outH, outP, h0, h1, h2, Blk.ren, renR, AV.ren, AV.renL, rho, lk, dB, sB, rZ_ren, rZ_len, hg, hi1, sec0_len, sec0_take, zsec, resV]
end Go.Proofs.YtnmnabagabejjaaGreat
