/-
  How many bits a number has.
-/
import Derived.Test.YtgeabjjgeeakdaaWdd
namespace Go.Proofs.Ytgeabjjgeeakdaa
open Go.Am Go.Sha
set_option linter.unusedSimpArgs false
set_option linter.unusedVariables false

set_option maxRecDepth 20000 in
set_option maxHeartbeats 4000000 in
theorem lenQ_ex (X : Nat) (hX : X < 18446744073709551616) : ∃ n : Nat, n ≤ 64 ∧ Rets Try.prog 79 [.d (.int .u64 (X : Int))] (fun r => r = .d (.int .i64 (n : Int))) := by
  have hi : ∀ n : Nat, n ≤ 100 → IntKind.i64.wrap (n : Int) = (n : Int) := fun n h => IntWalk.i64_in _ (by omega)
  have hj : ∀ n : Int, 0 ≤ n → n ≤ 100 → IntKind.i64.wrap n = n := fun n h1 h2 => IntWalk.i64_in _ (by omega)
  have ws : IntKind.i64.wrap 8 = 8 ∧ IntKind.i64.wrap 16 = 16 ∧ IntKind.i64.wrap 24 = 24 ∧ IntKind.i64.wrap 32 = 32 ∧ IntKind.i64.wrap 40 = 40 ∧ IntKind.i64.wrap 48 = 48 ∧ IntKind.i64.wrap 56 = 56 := by
    and_intros <;> exact IntWalk.i64_in _ (by omega)
  obtain ⟨w8, w16, w24, w32, w40, w48, w56⟩ := ws
  by_cases a0 : X < 4294967296
  · have i32 : ¬ (4294967296 : Int) ≤ (X : Int) := by omega
    by_cases a1 : X < 65536
    · have i16 : ¬ (65536 : Int) ≤ (X : Int) := by omega
      by_cases a2 : X < 256
      · have i8 : ¬ (256 : Int) ≤ (X : Int) := by omega
        have e8 : IntKind.u8.wrap (X : Int) = (X : Int) := by rw [u8w]; omega
        have hy : X < 256 := by omega
        obtain ⟨b, hb⟩ : ∃ b, tabL[X]? = some b := ⟨_, List.getElem?_eq_getElem (by simp [tabL]; omega)⟩
        obtain ⟨n, rfl, hn⟩ := tabL_some rfl hb
        have hn8 : n ≤ 8 := by split at hn <;> omega
        refine ⟨0 + n, by omega, ?_⟩
        refine fn_of_awp Try.func79 (by kernel_rfl) rfl Try.ntmps79 (rs := [.tmp 2]) rfl (Nat.le_of_ble_eq_true rfl) (by simp [AV.deep, AV.deep1]) ?_
        simp [go_sem, i32, i16, i8, e8, IntKind.bits, w8, w16, w24, w32, w40, w48, w56]
        split
        · rename_i b2 hb2
          have h2 : tabL[X]? = some b2 := hb2
          rw [hb] at h2
          cases h2
          exact post_same (by simp [AV.deep, AV.deep1]) (by simp only [hi n (by omega)])
        · rename_i hb2
          exact tabL_none rfl hy hb2
      · have i8 : (256 : Int) ≤ (X : Int) := by omega
        have d8 : Int.fdiv (X : Int) 256 = ((X / 256 : Nat) : Int) := fdiv_nat X 256
        have q8 : X / 256 < 256 := by omega
        generalize X / 256 = Y3 at *
        have e8 : IntKind.u8.wrap (Y3 : Int) = (Y3 : Int) := by rw [u8w]; omega
        have hy : Y3 < 256 := by omega
        obtain ⟨b, hb⟩ : ∃ b, tabL[Y3]? = some b := ⟨_, List.getElem?_eq_getElem (by simp [tabL]; omega)⟩
        obtain ⟨n, rfl, hn⟩ := tabL_some rfl hb
        have hn8 : n ≤ 8 := by split at hn <;> omega
        refine ⟨8 + n, by omega, ?_⟩
        refine fn_of_awp Try.func79 (by kernel_rfl) rfl Try.ntmps79 (rs := [.tmp 2]) rfl (Nat.le_of_ble_eq_true rfl) (by simp [AV.deep, AV.deep1]) ?_
        simp [go_sem, i32, i16, i8, d8, e8, IntKind.bits, w8, w16, w24, w32, w40, w48, w56]
        split
        · rename_i b2 hb2
          have h2 : tabL[Y3]? = some b2 := hb2
          rw [hb] at h2
          cases h2
          have e9 : IntKind.i64.wrap (8 + (n : Int)) = 8 + (n : Int) := hj _ (by omega) (by omega)
          exact post_same (by simp [AV.deep, AV.deep1]) (by simp only [hi n (by omega), e9])
        · rename_i hb2
          exact tabL_none rfl hy hb2
    · have i16 : (65536 : Int) ≤ (X : Int) := by omega
      have d16 : Int.fdiv (X : Int) 65536 = ((X / 65536 : Nat) : Int) := fdiv_nat X 65536
      have q16 : X / 65536 < 65536 := by omega
      generalize X / 65536 = Y2 at *
      by_cases a2 : Y2 < 256
      · have i8 : ¬ (256 : Int) ≤ (Y2 : Int) := by omega
        have e8 : IntKind.u8.wrap (Y2 : Int) = (Y2 : Int) := by rw [u8w]; omega
        have hy : Y2 < 256 := by omega
        obtain ⟨b, hb⟩ : ∃ b, tabL[Y2]? = some b := ⟨_, List.getElem?_eq_getElem (by simp [tabL]; omega)⟩
        obtain ⟨n, rfl, hn⟩ := tabL_some rfl hb
        have hn8 : n ≤ 8 := by split at hn <;> omega
        refine ⟨16 + n, by omega, ?_⟩
        refine fn_of_awp Try.func79 (by kernel_rfl) rfl Try.ntmps79 (rs := [.tmp 2]) rfl (Nat.le_of_ble_eq_true rfl) (by simp [AV.deep, AV.deep1]) ?_
        simp [go_sem, i32, i16, d16, i8, e8, IntKind.bits, w8, w16, w24, w32, w40, w48, w56]
        split
        · rename_i b2 hb2
          have h2 : tabL[Y2]? = some b2 := hb2
          rw [hb] at h2
          cases h2
          have e9 : IntKind.i64.wrap (16 + (n : Int)) = 16 + (n : Int) := hj _ (by omega) (by omega)
          exact post_same (by simp [AV.deep, AV.deep1]) (by simp only [hi n (by omega), e9])
        · rename_i hb2
          exact tabL_none rfl hy hb2
      · have i8 : (256 : Int) ≤ (Y2 : Int) := by omega
        have d8 : Int.fdiv (Y2 : Int) 256 = ((Y2 / 256 : Nat) : Int) := fdiv_nat Y2 256
        have q8 : Y2 / 256 < 256 := by omega
        generalize Y2 / 256 = Y3 at *
        have e8 : IntKind.u8.wrap (Y3 : Int) = (Y3 : Int) := by rw [u8w]; omega
        have hy : Y3 < 256 := by omega
        obtain ⟨b, hb⟩ : ∃ b, tabL[Y3]? = some b := ⟨_, List.getElem?_eq_getElem (by simp [tabL]; omega)⟩
        obtain ⟨n, rfl, hn⟩ := tabL_some rfl hb
        have hn8 : n ≤ 8 := by split at hn <;> omega
        refine ⟨24 + n, by omega, ?_⟩
        refine fn_of_awp Try.func79 (by kernel_rfl) rfl Try.ntmps79 (rs := [.tmp 2]) rfl (Nat.le_of_ble_eq_true rfl) (by simp [AV.deep, AV.deep1]) ?_
        simp [go_sem, i32, i16, d16, i8, d8, e8, IntKind.bits, w8, w16, w24, w32, w40, w48, w56]
        split
        · rename_i b2 hb2
          have h2 : tabL[Y3]? = some b2 := hb2
          rw [hb] at h2
          cases h2
          have e9 : IntKind.i64.wrap (24 + (n : Int)) = 24 + (n : Int) := hj _ (by omega) (by omega)
          exact post_same (by simp [AV.deep, AV.deep1]) (by simp only [hi n (by omega), e9])
        · rename_i hb2
          exact tabL_none rfl hy hb2
  · have i32 : (4294967296 : Int) ≤ (X : Int) := by omega
    have d32 : Int.fdiv (X : Int) 4294967296 = ((X / 4294967296 : Nat) : Int) := fdiv_nat X 4294967296
    have q32 : X / 4294967296 < 4294967296 := by omega
    generalize X / 4294967296 = Y1 at *
    by_cases a1 : Y1 < 65536
    · have i16 : ¬ (65536 : Int) ≤ (Y1 : Int) := by omega
      by_cases a2 : Y1 < 256
      · have i8 : ¬ (256 : Int) ≤ (Y1 : Int) := by omega
        have e8 : IntKind.u8.wrap (Y1 : Int) = (Y1 : Int) := by rw [u8w]; omega
        have hy : Y1 < 256 := by omega
        obtain ⟨b, hb⟩ : ∃ b, tabL[Y1]? = some b := ⟨_, List.getElem?_eq_getElem (by simp [tabL]; omega)⟩
        obtain ⟨n, rfl, hn⟩ := tabL_some rfl hb
        have hn8 : n ≤ 8 := by split at hn <;> omega
        refine ⟨32 + n, by omega, ?_⟩
        refine fn_of_awp Try.func79 (by kernel_rfl) rfl Try.ntmps79 (rs := [.tmp 2]) rfl (Nat.le_of_ble_eq_true rfl) (by simp [AV.deep, AV.deep1]) ?_
        simp [go_sem, i32, d32, i16, i8, e8, IntKind.bits, w8, w16, w24, w32, w40, w48, w56]
        split
        · rename_i b2 hb2
          have h2 : tabL[Y1]? = some b2 := hb2
          rw [hb] at h2
          cases h2
          have e9 : IntKind.i64.wrap (32 + (n : Int)) = 32 + (n : Int) := hj _ (by omega) (by omega)
          exact post_same (by simp [AV.deep, AV.deep1]) (by simp only [hi n (by omega), e9])
        · rename_i hb2
          exact tabL_none rfl hy hb2
      · have i8 : (256 : Int) ≤ (Y1 : Int) := by omega
        have d8 : Int.fdiv (Y1 : Int) 256 = ((Y1 / 256 : Nat) : Int) := fdiv_nat Y1 256
        have q8 : Y1 / 256 < 256 := by omega
        generalize Y1 / 256 = Y3 at *
        have e8 : IntKind.u8.wrap (Y3 : Int) = (Y3 : Int) := by rw [u8w]; omega
        have hy : Y3 < 256 := by omega
        obtain ⟨b, hb⟩ : ∃ b, tabL[Y3]? = some b := ⟨_, List.getElem?_eq_getElem (by simp [tabL]; omega)⟩
        obtain ⟨n, rfl, hn⟩ := tabL_some rfl hb
        have hn8 : n ≤ 8 := by split at hn <;> omega
        refine ⟨40 + n, by omega, ?_⟩
        refine fn_of_awp Try.func79 (by kernel_rfl) rfl Try.ntmps79 (rs := [.tmp 2]) rfl (Nat.le_of_ble_eq_true rfl) (by simp [AV.deep, AV.deep1]) ?_
        simp [go_sem, i32, d32, i16, i8, d8, e8, IntKind.bits, w8, w16, w24, w32, w40, w48, w56]
        split
        · rename_i b2 hb2
          have h2 : tabL[Y3]? = some b2 := hb2
          rw [hb] at h2
          cases h2
          have e9 : IntKind.i64.wrap (40 + (n : Int)) = 40 + (n : Int) := hj _ (by omega) (by omega)
          exact post_same (by simp [AV.deep, AV.deep1]) (by simp only [hi n (by omega), e9])
        · rename_i hb2
          exact tabL_none rfl hy hb2
    · have i16 : (65536 : Int) ≤ (Y1 : Int) := by omega
      have d16 : Int.fdiv (Y1 : Int) 65536 = ((Y1 / 65536 : Nat) : Int) := fdiv_nat Y1 65536
      have q16 : Y1 / 65536 < 65536 := by omega
      generalize Y1 / 65536 = Y2 at *
      by_cases a2 : Y2 < 256
      · have i8 : ¬ (256 : Int) ≤ (Y2 : Int) := by omega
        have e8 : IntKind.u8.wrap (Y2 : Int) = (Y2 : Int) := by rw [u8w]; omega
        have hy : Y2 < 256 := by omega
        obtain ⟨b, hb⟩ : ∃ b, tabL[Y2]? = some b := ⟨_, List.getElem?_eq_getElem (by simp [tabL]; omega)⟩
        obtain ⟨n, rfl, hn⟩ := tabL_some rfl hb
        have hn8 : n ≤ 8 := by split at hn <;> omega
        refine ⟨48 + n, by omega, ?_⟩
        refine fn_of_awp Try.func79 (by kernel_rfl) rfl Try.ntmps79 (rs := [.tmp 2]) rfl (Nat.le_of_ble_eq_true rfl) (by simp [AV.deep, AV.deep1]) ?_
        simp [go_sem, i32, d32, i16, d16, i8, e8, IntKind.bits, w8, w16, w24, w32, w40, w48, w56]
        split
        · rename_i b2 hb2
          have h2 : tabL[Y2]? = some b2 := hb2
          rw [hb] at h2
          cases h2
          have e9 : IntKind.i64.wrap (48 + (n : Int)) = 48 + (n : Int) := hj _ (by omega) (by omega)
          exact post_same (by simp [AV.deep, AV.deep1]) (by simp only [hi n (by omega), e9])
        · rename_i hb2
          exact tabL_none rfl hy hb2
      · have i8 : (256 : Int) ≤ (Y2 : Int) := by omega
        have d8 : Int.fdiv (Y2 : Int) 256 = ((Y2 / 256 : Nat) : Int) := fdiv_nat Y2 256
        have q8 : Y2 / 256 < 256 := by omega
        generalize Y2 / 256 = Y3 at *
        have e8 : IntKind.u8.wrap (Y3 : Int) = (Y3 : Int) := by rw [u8w]; omega
        have hy : Y3 < 256 := by omega
        obtain ⟨b, hb⟩ : ∃ b, tabL[Y3]? = some b := ⟨_, List.getElem?_eq_getElem (by simp [tabL]; omega)⟩
        obtain ⟨n, rfl, hn⟩ := tabL_some rfl hb
        have hn8 : n ≤ 8 := by split at hn <;> omega
        refine ⟨56 + n, by omega, ?_⟩
        refine fn_of_awp Try.func79 (by kernel_rfl) rfl Try.ntmps79 (rs := [.tmp 2]) rfl (Nat.le_of_ble_eq_true rfl) (by simp [AV.deep, AV.deep1]) ?_
        simp [go_sem, i32, d32, i16, d16, i8, d8, e8, IntKind.bits, w8, w16, w24, w32, w40, w48, w56]
        split
        · rename_i b2 hb2
          have h2 : tabL[Y3]? = some b2 := hb2
          rw [hb] at h2
          cases h2
          have e9 : IntKind.i64.wrap (56 + (n : Int)) = 56 + (n : Int) := hj _ (by omega) (by omega)
          exact post_same (by simp [AV.deep, AV.deep1]) (by simp only [hi n (by omega), e9])
        · rename_i hb2
          exact tabL_none rfl hy hb2
end Go.Proofs.Ytgeabjjgeeakdaa
