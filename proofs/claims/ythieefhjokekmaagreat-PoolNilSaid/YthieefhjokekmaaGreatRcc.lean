/-
  Fees and waiting of coins; the law RulesCoins.
-/
import Derived.Test.YthieefhjokekmaaGreatRcb
import Derived.Test.YthieefhjokekmaaGreatRmb
namespace Go.Sha
theorem and_pow (x i : Nat) : x &&& 2 ^ i = if x.testBit i then 2 ^ i else 0 := by
  apply Nat.eq_of_testBit_eq
  intro j
  rw [Nat.testBit_and, Nat.testBit_two_pow]
  by_cases h : i = j
  · subst h
    cases hx : x.testBit i <;> simp
  · cases hx : x.testBit i <;> simp [h]
theorem and31 (x : Nat) (h : x < 4294967296) : x &&& 2147483648 = if 2147483648 ≤ x then 2147483648 else 0 := by
  have := and_pow x 31
  have h2 : x.testBit 31 = decide (2147483648 ≤ x) := by
    rw [Nat.testBit_eq_decide_div_mod_eq]
    have : x / 2^31 % 2 = 1 ↔ 2147483648 ≤ x := by omega
    simp [this]
  rw [h2] at this
  by_cases h3 : 2147483648 ≤ x <;> simp [h3] at this ⊢ <;> exact this
theorem and22 (x : Nat) : x &&& 4194304 = if x / 4194304 % 2 = 1 then 4194304 else 0 := by
  have := and_pow x 22
  have h2 : x.testBit 22 = decide (x / 4194304 % 2 = 1) := by
    rw [Nat.testBit_eq_decide_div_mod_eq]
  rw [h2] at this
  by_cases h3 : x / 4194304 % 2 = 1 <;> simp [h3] at this ⊢ <;> exact this
theorem and16 (x : Nat) : x &&& 65535 = x % 65536 := Nat.and_two_pow_sub_one_eq_mod x 16
end Go.Sha
namespace Go.Proofs.YthieefhjokekmaaGreat
open Go.Am Go.Sha
set_option linter.unusedSimpArgs false
set_option linter.unusedVariables false

/-- The fee of coins, and the error. -/
def feeV (t : Tn) (cs : List Co) (h : Nat) : Nat × Int :=
  if cs.length ≠ t.ins.length then (0, 1) else if ripe h cs = false then (0, 34)
  else if (sumO (paysOf cs)).2 ≠ 0 ∨ (sumO t.outs).2 ≠ 0 ∨ (sumO (paysOf cs)).1 < (sumO t.outs).1 then (0, 31)
  else ((sumO (paysOf cs)).1 - (sumO t.outs).1, 0)
theorem sumO_le (os : List (Nat × List Nat)) : (sumO os).1 ≤ maxM := sumM_le _ _ (by simp [maxM])
theorem pays64 {cs : List Co} (hc : ∀ c, c ∈ cs → c.ok) : ∀ o, o ∈ paysOf cs → o.1 < 18446744073709551616 := by
  intro o ho
  simp only [paysOf, List.mem_map] at ho
  obtain ⟨c, hcm, rfl⟩ := ho
  exact (hc c hcm).2.2.1

set_option maxHeartbeats 4000000 in
theorem fee_fn (t : Tn) (cs : List Co) (h : Nat) (ht : t.ok) (hout : t.outs.length ≤ 1000) (hl : cs.length ≤ 1000) (hc : ∀ c, c ∈ cs → c.ok) (hh : h < 4294967296) :
    Rets Tryz.prog 158 [.agg (eT t), .d (.ro 37 (cs.map eC)), .d (.int .u32 (h : Int))] (fun r => r = .tup [.d (.int .u64 ((feeV t cs h).1 : Int)), .d (.int .i64 (feeV t cs h).2)]) := by
  obtain ⟨_, _, _, ho⟩ := ht
  refine fn_of_awp Tryz.func158 (by kernel_rfl) rfl Tryz.ntmps158 (rs := [.tmp 6, .tmp 7]) rfl (Nat.le_of_ble_eq_true rfl) (by simp [AV.deep, AV.deep1, eT]) ?_
  generalize hF : feeV t cs h = F
  unfold feeV at hF
  by_cases c1 : cs.length = t.ins.length
  · have i1 : (cs.length : Int) = (t.ins.length : Int) := by omega
    rw [if_neg (by simpa using c1)] at hF
    simp [go_sem, eT, i1]
    refine cl_snap (containsC_fn cs h (by omega) hc hh) rfl (snap_cons (.deep (by simp [AV.deep, AV.deep1])) (snap_cons (.fnp trivial rfl rfl rfl (.cons (.d _) .nil)) snap_nil)) trivial ?_
    cases hr : ripe h cs
    · rw [if_pos hr] at hF
      subst hF
      simp [go_sem, resV]
      exact post_same (by simp [AV.deep, AV.deep1]) rfl
    · rw [if_neg (by rw [hr]; simp)] at hF
      simp [go_sem]
      refine cl_eq (outsOf_fn cs hl hc) (by simp [AV.deep, AV.deep1]) ?_
      simp [go_sem]
      refine cl_eq (worth_fn (paysOf cs) (by simp [paysOf]; omega) (pays64 hc)) (by simp [AV.deep, AV.deep1]) ?_
      have hA := sumO_le (paysOf cs)
      generalize sumO (paysOf cs) = A at *
      simp [go_sem]
      refine cl_eq (worth_fn t.outs hout ho) (by simp [AV.deep, AV.deep1]) ?_
      have hB := sumO_le t.outs
      generalize sumO t.outs = B at *
      obtain ⟨a, ea⟩ := A
      obtain ⟨b, eb⟩ := B
      simp only at hA hB hF
      by_cases q1 : ea = 0
      · by_cases q2 : eb = 0
        · by_cases q3 : a < b
          · have q3' : (a : Int) < (b : Int) := by omega
            rw [if_pos (.inr (.inr q3))] at hF
            subst hF
            simp [go_sem, q1, q2, q3, q3', resV]
            exact post_same (by simp [AV.deep, AV.deep1]) rfl
          · have q3' : ¬ (a : Int) < (b : Int) := by omega
            have ws : IntKind.u64.wrap ((a : Int) - (b : Int)) = ((a - b : Nat) : Int) := by rw [u64w]; unfold maxM at hA; omega
            rw [if_neg (by rintro (e | e | e) <;> contradiction)] at hF
            subst hF
            simp [go_sem, q1, q2, q3, q3', ws, resV]
            exact post_same (by simp [AV.deep, AV.deep1]) rfl
        · rw [if_pos (.inr (.inl q2))] at hF
          subst hF
          simp [go_sem, q1, q2, resV]
          exact post_same (by simp [AV.deep, AV.deep1]) rfl
      · rw [if_pos (.inl q1)] at hF
        subst hF
        simp [go_sem, q1, resV]
        exact post_same (by simp [AV.deep, AV.deep1]) rfl
  · have i1 : ¬ (cs.length : Int) = (t.ins.length : Int) := by omega
    rw [if_pos c1] at hF
    subst hF
    simp [go_sem, eT, i1, resV]
    exact post_same (by simp [AV.deep, AV.deep1]) rfl

end Go.Proofs.YthieefhjokekmaaGreat
