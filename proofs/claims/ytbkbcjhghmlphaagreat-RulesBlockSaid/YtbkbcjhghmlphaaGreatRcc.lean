/-
  Fees and waiting of coins; the law RulesCoins.
-/
import Derived.Test.YtbkbcjhghmlphaaGreatRcb
import Derived.Test.YtbkbcjhghmlphaaGreatRmb
namespace Go.Sha
theorem and_pow (x i : Nat) : x &&& 2 ^ i = if x.testBit i then 2 ^ i else 0 := by
  apply Nat.eq_of_testBit_eq
  intro j
  rw [Nat.testBit_and, Nat.testBit_two_pow]
  by_cases h : i = j
  · subst h
    cases hx : x.testBit i <;> simp
  · cases hx : x.testBit i <;> simp [h]
theorem and31 (x : Nat) (h : x < 4294967296) : x &&& 2147483648 = if 2147483648 ≤ x then 2147483648 else 0 := by
  have := and_pow x 31
  have h2 : x.testBit 31 = decide (2147483648 ≤ x) := by
    rw [Nat.testBit_eq_decide_div_mod_eq]
    have : x / 2^31 % 2 = 1 ↔ 2147483648 ≤ x := by omega
    simp [this]
  rw [h2] at this
  by_cases h3 : 2147483648 ≤ x <;> simp [h3] at this ⊢ <;> exact this
theorem and22 (x : Nat) : x &&& 4194304 = if x / 4194304 % 2 = 1 then 4194304 else 0 := by
  have := and_pow x 22
  have h2 : x.testBit 22 = decide (x / 4194304 % 2 = 1) := by
    rw [Nat.testBit_eq_decide_div_mod_eq]
  rw [h2] at this
  by_cases h3 : x / 4194304 % 2 = 1 <;> simp [h3] at this ⊢ <;> exact this
theorem and16 (x : Nat) : x &&& 65535 = x % 65536 := Nat.and_two_pow_sub_one_eq_mod x 16
end Go.Sha
namespace Go.Proofs.YtbkbcjhghmlphaaGreat
open Go.Am Go.Sha
set_option linter.unusedSimpArgs false
set_option linter.unusedVariables false

/-- The fee of coins, and the error. -/
def feeV (t : Tn) (cs : List Co) (h : Nat) : Nat × Int :=
  if cs.length ≠ t.ins.length then (0, 1) else if ripe h cs = false then (0, 34)
  else if (sumO (paysOf cs)).2 ≠ 0 ∨ (sumO t.outs).2 ≠ 0 ∨ (sumO (paysOf cs)).1 < (sumO t.outs).1 then (0, 31)
  else ((sumO (paysOf cs)).1 - (sumO t.outs).1, 0)
theorem sumO_le (os : List (Nat × List Nat)) : (sumO os).1 ≤ maxM := sumM_le _ _ (by simp [maxM])
theorem pays64 {cs : List Co} (hc : ∀ c, c ∈ cs → c.ok) : ∀ o, o ∈ paysOf cs → o.1 < 18446744073709551616 := by
  intro o ho
  simp only [paysOf, List.mem_map] at ho
  obtain ⟨c, hcm, rfl⟩ := ho
  exact (hc c hcm).2.2.1

end Go.Proofs.YtbkbcjhghmlphaaGreat
