/-
  Transactions by themselves: subsidies, whether a transaction is final, the other text's median.
-/
import Derived.Test.YthieefhjokekmaaGreatRcd
namespace Go.Sha
def halfs (j : Nat) : Nat := 5000000000 / 2 ^ j
def subV (h : Nat) : Nat := halfs (h / 32)
theorem subV_big {h : Nat} (hh : 64 ≤ h / 32) : subV h = 0 := by
  unfold subV halfs
  refine Nat.div_eq_of_lt (Nat.lt_of_lt_of_le (by decide : 5000000000 < 2 ^ 64) (Nat.pow_le_pow_right (by omega) hh))
/-- Is a transaction's last number over all its inputs? -/
def allMax (is : List Ip) : Bool := is.all fun i => decide (i.seq = 4294967295)
def finalV (t : Tn) (h m : Nat) : Bool := decide (t.lock = 0) || (decide (t.lock < 500000000 ∧ t.lock < h) || (decide (500000000 ≤ t.lock ∧ t.lock < m) || allMax t.ins))
end Go.Sha
namespace Go.Proofs.YthieefhjokekmaaGreat
open Go.Am Go.Sha
set_option linter.unusedSimpArgs false
set_option linter.unusedVariables false

theorem sub_fn (h : Nat) (hh : h < 4294967296) : Rets Tryz.prog 81 [.d (.int .u32 (h : Int))] (fun r => r = .d (.int .u64 ((subV h : Nat) : Int))) := by
  refine fn_of_awp Tryz.func81 (by kernel_rfl) rfl Tryz.ntmps81 (rs := [.tmp 2]) rfl (Nat.le_of_ble_eq_true rfl) (by simp [AV.deep, AV.deep1]) ?_
  have u32w : ∀ x : Int, IntKind.u32.wrap x = x % 4294967296 := fun x => by simp [IntKind.wrap, IntKind.bits, IntKind.signed]
  have f0 : Int.tdiv (h : Int) 32 = (h : Int) / 32 := Int.tdiv_eq_ediv_of_nonneg (by omega)
  have f1 : IntKind.u32.wrap ((h : Int) / 32) = (h : Int) / 32 := by rw [u32w]; omega
  by_cases q : 64 ≤ h / 32
  · have q' : (64 : Int) ≤ (h : Int) / 32 := by omega
    simp [go_sem, f0, f1, q']
    exact post_same (by simp [AV.deep, AV.deep1]) (by rw [subV_big q]; rfl)
  · have q' : ¬ (64 : Int) ≤ (h : Int) / 32 := by omega
    have f2 : ((h : Int) / 32).toNat = h / 32 := by omega
    have f3 : min (h / 32) 64 = h / 32 := by omega
    have f4 : Int.fdiv 5000000000 (2 ^ (h / 32)) = ((subV h : Nat) : Int) := by
      unfold subV halfs
      have := fdiv_nat 5000000000 (2 ^ (h / 32))
      rw [Int.natCast_pow] at this
      exact this
    simp [go_sem, f0, f1, q', IntKind.bits, f2, f3, f4]
    exact ⟨by omega, post_same (by simp [AV.deep, AV.deep1]) rfl⟩

theorem final1_fn (i : Ip) (hi : i.ok) : Rets Tryz.prog 212 [.agg (cI i)] (fun r => r = .d (.bool (!decide (i.seq = 4294967295)))) := by
  obtain ⟨h32, _, hs⟩ := hi
  refine fn_of_awp Tryz.func212 (by kernel_rfl) rfl Tryz.ntmps212 (rs := [.tmp 2]) rfl (Nat.le_of_ble_eq_true rfl) (by
    intro v hv
    simp only [List.mem_cons, List.mem_nil_iff, or_false] at hv
    subst hv
    intro c hc
    simp only [cI, List.mem_append, List.mem_cons, List.mem_nil_iff, or_false] at hc
    rcases hc with hc | rfl | rfl | rfl
    · exact cb_deep _ _ hc
    all_goals trivial) ?_
  have hcl := cI_len h32
  have e : ((i.seq : Int) = 4294967295) ↔ i.seq = 4294967295 := by omega
  simp [go_sem, hcl, cI33g h32, e]
  exact post_same (by simp [AV.deep, AV.deep1]) (by simp [e])

theorem cI_deep (i : Ip) : (AV.agg (cI i)).deep := by
  intro c hc
  simp only [cI, List.mem_append, List.mem_cons, List.mem_nil_iff, or_false] at hc
  rcases hc with hc | rfl | rfl | rfl
  · exact cb_deep _ _ hc
  all_goals trivial
set_option maxHeartbeats 2000000 in
theorem indexI_fn (cs : List Ip) (hl : cs.length ≤ 1000000) (hc : ∀ c, c ∈ cs → c.ok) : Rets Tryz.prog 121 [.d (.ro 35 (cs.map eI)), .fn 212 []] (fun r => ∃ n : Int, r = .d (.int .i64 n) ∧ decide (0 ≤ n) = !allMax cs) := by
  refine fn_of_awp Tryz.func121 (by kernel_rfl) rfl Tryz.ntmps121 (rs := [.tmp 4]) rfl (Nat.le_of_ble_eq_true rfl) (by simp [AV.deep, AV.deep1]) ?_
  simp [go_sem]
  refine loop_of (fun k : Nat => ⟨[(0, .d (.ro 35 (cs.map eI))), (1, .fn 212 []), (7, .d (.int .i64 (cs.length : Int))), (8, .d (.int .i64 (k : Int)))], [], 1000⟩)
    (fun k => k ≤ cs.length ∧ allMax (cs.drop k) = allMax cs) (fun k => cs.length - k) 0 ⟨by omega, rfl⟩ (by
      simp [Weak, slotOk, fv, lk, AV.low, AV.low1]) ?_
  rintro k ⟨hk, ho⟩
  simp only [go_sem, Nat.reduceEqDiff, Nat.reduceAdd, Nat.reduceLT, ↓reduceIte, Nat.reduceMul]
  refine ⟨fun hlt => ?_, fun hge => ?_⟩
  · obtain ⟨x, hx1, hd⟩ := drop_of (l := cs) (k := k) (by omega)
    have hxo := hc x (List.mem_of_getElem? hx1)
    have w3 := next_i64 (k := k) (by omega)
    have hel := eI_len hxo.1
    simp [go_sem, hx1, hel, eI_cI, cI_take hxo.1]
    refine cl_eq (final1_fn x hxo) (by
      intro v hv
      simp only [List.mem_cons, List.mem_nil_iff, or_false] at hv
      subst hv
      exact cI_deep x) ?_
    by_cases hx : x.seq = 4294967295
    · simp [go_sem, hx, w3]
      refine next_of (k + 1) ⟨by omega, all_step hd ho (by simpa using hx)⟩ (by omega) ?_
      simp [Weak, slotOk, fv, lk, AV.low, AV.low1]
    · have := all_stop hd ho (by simpa using hx)
      simp [go_sem, hx]
      exact post_same (by simp [AV.deep, AV.deep1]) ⟨_, rfl, by rw [show allMax cs = false from this]; simp⟩
  · have hkl : k = cs.length := by omega
    subst hkl
    have hI : allMax cs = true := all_done ho
    simp [go_sem]
    exact post_same (by simp [AV.deep, AV.deep1]) ⟨_, rfl, by rw [hI]; rfl⟩
theorem containsI_fn (cs : List Ip) (hl : cs.length ≤ 1000000) (hc : ∀ c, c ∈ cs → c.ok) : Rets Tryz.prog 78 [.d (.ro 35 (cs.map eI)), .fn 212 []] (fun r => r = .d (.bool (!allMax cs))) := by
  refine fn_of_awp Tryz.func78 (by kernel_rfl) rfl Tryz.ntmps78 (rs := [.tmp 4]) rfl (Nat.le_of_ble_eq_true rfl) (by simp [AV.deep, AV.deep1]) ?_
  simp [go_sem]
  refine cl_fn (indexI_fn cs hl hc) (by simp [AV.deep, AV.deep1]) ?_
  rintro r ⟨n, rfl, hn⟩
  rw [← hn]
  simp [go_sem]
  exact post_same (by simp [AV.deep, AV.deep1]) rfl

set_option maxHeartbeats 4000000 in
theorem final_fn (t : Tn) (h m : Nat) (ht : t.ok) (hl : t.ins.length ≤ 1000000) : Rets Tryz.prog 156 [.agg (eT t), .d (.int .u32 (h : Int)), .d (.int .u32 (m : Int))] (fun r => r = .d (.bool (finalV t h m))) := by
  obtain ⟨_, _, hi, _⟩ := ht
  refine fn_of_awp Tryz.func156 (by kernel_rfl) rfl Tryz.ntmps156 (rs := [.tmp 6]) rfl (Nat.le_of_ble_eq_true rfl) (by simp [AV.deep, AV.deep1, eT]) ?_
  generalize hF : finalV t h m = F
  unfold finalV at hF
  by_cases q1 : t.lock = 0
  · have q1' : (t.lock : Int) = 0 := by omega
    simp [q1] at hF
    subst hF
    simp [go_sem, eT, q1, q1']
    exact post_same (by simp [AV.deep, AV.deep1]) rfl
  · have q1' : ¬ (t.lock : Int) = 0 := by omega
    by_cases q2 : t.lock < 500000000
    · have q2' : (t.lock : Int) < 500000000 := by omega
      have q3' : ¬ (500000000 : Int) ≤ (t.lock : Int) := by omega
      have q3 : ¬ 500000000 ≤ t.lock := by omega
      by_cases q4 : t.lock < h
      · have q4' : (t.lock : Int) < (h : Int) := by omega
        simp [q1, q2, q4] at hF
        subst hF
        simp [go_sem, eT, q1, q1', q2', q4']
        exact post_same (by simp [AV.deep, AV.deep1]) rfl
      · have q4' : ¬ (t.lock : Int) < (h : Int) := by omega
        simp [q1, q2, q3, q4] at hF
        subst hF
        simp [go_sem, eT, q1, q1', q2', q3', q4']
        refine cl_eq (containsI_fn t.ins hl hi) (by simp [AV.deep, AV.deep1]) ?_
        simp [go_sem]
        exact post_same (by simp [AV.deep, AV.deep1]) rfl
    · have q2' : ¬ (t.lock : Int) < 500000000 := by omega
      have q3' : (500000000 : Int) ≤ (t.lock : Int) := by omega
      have q3 : 500000000 ≤ t.lock := by omega
      by_cases q4 : t.lock < m
      · have q4' : (t.lock : Int) < (m : Int) := by omega
        simp [q1, q2, q3, q4] at hF
        subst hF
        simp [go_sem, eT, q1, q1', q2', q3', q4']
        exact post_same (by simp [AV.deep, AV.deep1]) rfl
      · have q4' : ¬ (t.lock : Int) < (m : Int) := by omega
        simp [q1, q2, q3, q4] at hF
        subst hF
        simp [go_sem, eT, q1, q1', q2', q3', q4']
        refine cl_eq (containsI_fn t.ins hl hi) (by simp [AV.deep, AV.deep1]) ?_
        simp [go_sem]
        exact post_same (by simp [AV.deep, AV.deep1]) rfl

end Go.Proofs.YthieefhjokekmaaGreat
