/-
  Transactions by themselves: the other text's check.
-/
import Derived.Test.YthieefhjokekmaaGreatRam
namespace Go.Sha
def sameI (x y : Ip) : Bool := decide (x.hash = y.hash ∧ x.idx = y.idx)
end Go.Sha
namespace Go.Proofs.YthieefhjokekmaaGreat
open Go.Am Go.Sha
set_option linter.unusedSimpArgs false
set_option linter.unusedVariables false

/-- Inputs, one behind the other: one that came before, or one that spends nothing. -/
def refsGo : List Ip → List Ip → Bool → Int
  | [], _, b => if b then 38 else 0
  | i :: r, seen, b => if seen.any (sameI i) then 32 else refsGo r (seen ++ [i]) (b || nullI i)
def checkV (t : Tn) (first : Bool) : Int :=
  if checkT t ≠ 0 then 4 else if t.ins.length = 0 ∨ t.outs.length = 0 then 30 else if (sumO t.outs).2 ≠ 0 then (sumO t.outs).2
  else if first then (if t.ins.length = 1 ∧ (t.ins.all nullI) = true then 0 else 38) else refsGo t.ins [] false
theorem ref_row {i : Ip} (h : i.hash.length = 32) : List.take 33 ((eI i).map AV.d) = cR i.hash i.idx := by
  rw [eI_cI, cI, List.take_append, cb_len, h, List.take_of_length_le (by rw [cb_len]; omega)]; rfl

/-- What rules.checkRefs does, which keeps a map. -/
def RefsOk : Prop := ∀ t : Tn, Sm t → (∀ i, i ∈ t.ins → bytes i.hash) → Rets Tryz.prog 150 [.agg (eT t)] (fun r => r = .d (.int .i64 (refsGo t.ins [] false)))
set_option maxHeartbeats 4000000 in
theorem check26_fn (hR : RefsOk) (t : Tn) (first : Bool) (ht : Sm t) (hby : ∀ i, i ∈ t.ins → bytes i.hash) : Rets Tryz.prog 104 [.agg (eT t), .d (.bool first)] (fun r => r = .d (.int .i64 (checkV t first))) := by
  have ht0 := ht
  obtain ⟨⟨_, _, hi, ho⟩, n1, n2, _, _⟩ := ht
  refine fn_of_awp Tryz.func104 (by kernel_rfl) rfl Tryz.ntmps104 (rs := [.tmp 4]) rfl (Nat.le_of_ble_eq_true rfl) (by simp [AV.deep, AV.deep1, eT]) ?_
  generalize hF : checkV t first = F
  unfold checkV at hF
  simp [go_sem, eT]
  refine cl_eq (checkT_fn t ht0) (by simp [AV.deep, AV.deep1, eT]) ?_
  by_cases c0 : checkT t = 0
  · rw [if_neg (by simpa using c0)] at hF
    by_cases c1 : t.ins.length = 0
    · have i1 : (t.ins.length : Int) = 0 := by omega
      have l1 : t.ins = [] := List.eq_nil_of_length_eq_zero c1
      rw [if_pos (.inl c1)] at hF
      subst hF
      simp [go_sem, c0, c1, i1, l1]
      exact post_same (by simp [AV.deep, AV.deep1]) rfl
    · have i1 : ¬ (t.ins.length : Int) = 0 := by omega
      have l1 : ¬ t.ins = [] := fun e => c1 (by rw [e]; rfl)
      by_cases c2 : t.outs.length = 0
      · have i2 : (t.outs.length : Int) = 0 := by omega
        have l2 : t.outs = [] := List.eq_nil_of_length_eq_zero c2
        rw [if_pos (.inr c2)] at hF
        subst hF
        simp [go_sem, c0, c1, i1, l1, c2, i2, l2]
        exact post_same (by simp [AV.deep, AV.deep1]) rfl
      · have i2 : ¬ (t.outs.length : Int) = 0 := by omega
        have l2 : ¬ t.outs = [] := fun e => c2 (by rw [e]; rfl)
        rw [if_neg (by rintro (e | e) <;> contradiction)] at hF
        simp [go_sem, c0, c1, i1, l1, c2, i2, l2]
        refine cl_eq (worth_fn t.outs (by omega) ho) (by simp [AV.deep, AV.deep1]) ?_
        generalize sumO t.outs = S at *
        obtain ⟨s, es⟩ := S
        simp only at hF
        by_cases c3 : es = 0
        · rw [if_neg (by simpa using c3)] at hF
          cases first
          · simp only [Bool.false_eq_true, if_false] at hF
            simp [go_sem, c3]
            refine cl_eq (hR t ht0 hby) (by simp [AV.deep, AV.deep1, eT]) ?_
            rw [hF]
            simp [go_sem]
            exact post_same (by simp [AV.deep, AV.deep1]) rfl
          · simp only [if_true] at hF
            simp [go_sem, c3]
            refine cl_eq (checkFirst_fn t ht0.1) (by simp [AV.deep, AV.deep1, eT]) ?_
            rw [hF]
            simp [go_sem]
            exact post_same (by simp [AV.deep, AV.deep1]) rfl
        · rw [if_pos c3] at hF
          subst hF
          simp [go_sem, c3]
          exact post_same (by simp [AV.deep, AV.deep1]) rfl
  · rw [if_pos c0] at hF
    subst hF
    simp [go_sem, c0]
    exact post_same (by simp [AV.deep, AV.deep1]) rfl
end Go.Proofs.YthieefhjokekmaaGreat
