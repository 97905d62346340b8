/-
  Powers in the field.
-/
import Derived.Test.YtgeabjjgeeakdaaWdf
namespace Go.Proofs.Ytgeabjjgeeakdaa
open Go.Am Go.Sha
set_option linter.unusedSimpArgs false
set_option linter.unusedVariables false

theorem fmulF : ∃ M : List Int × List Int → List Int, ∀ x, (Wn 4 x.1 ∧ Wn 4 x.2) → Wn 4 (M x) ∧ Rets Try.prog 69 [.agg (cI x.1), .agg (cI x.2)] (fun r => r = .agg (cI (M x))) :=
  pick (α := List Int × List Int) (β := List Int) (A := fun x => Wn 4 x.1 ∧ Wn 4 x.2) (B := fun x y => Wn 4 y ∧ Rets Try.prog 69 [.agg (cI x.1), .agg (cI x.2)] (fun r => r = .agg (cI y))) (fun x hx => by
    obtain ⟨r, h1, h2⟩ := fmul_ex x.1 x.2 hx.1 hx.2
    exact ⟨r, h1, h2⟩)
def dq (i : Nat) : Nat := i / 64
def rq (i : Nat) : Nat := i % 64
def bitI (n : List Int) (i : Nat) : Prop := Go.bits .and .u64 (Int.fdiv (gI n (dq i)) (2 ^ rq i)) 1 = 0
open Classical in
noncomputable def stpW (M : List Int × List Int → List Int) (n : List Int) (k : Nat) (s : List Int × List Int) : List Int × List Int :=
  (if bitI n k then s.1 else M (s.1, s.2), M (s.2, s.2))
set_option maxRecDepth 20000 in
set_option maxHeartbeats 4000000 in
theorem pow_ex (a n : List Int) (ha : Wn 4 a) (hn : Wn 4 n) : ∃ r, Wn 4 r ∧ W2 67 a n r := by
  obtain ⟨M, hM⟩ := fmulF
  obtain ⟨a1, ha1, f1⟩ := reduce_ex a ha
  obtain ⟨L, hL, f2⟩ := wlen_ex n hn
  unfold W1 at f1
  have hS : ∀ k, Wn 4 (itr (stpW M n) ([1, 0, 0, 0], a1) k).1 ∧ Wn 4 (itr (stpW M n) ([1, 0, 0, 0], a1) k).2 := itr_inv (P := fun _ (s : List Int × List Int) => Wn 4 s.1 ∧ Wn 4 s.2) ⟨fromI_W ⟨by omega, by omega⟩, ha1⟩ fun k s hs => by
    unfold stpW
    refine ⟨?_, (hM (s.2, s.2) ⟨hs.2, hs.2⟩).1⟩
    dsimp only
    split
    · exact hs.1
    · exact (hM (s.1, s.2) hs).1
  refine ⟨(itr (stpW M n) ([1, 0, 0, 0], a1) L).1, (hS L).1, ?_⟩
  unfold W2
  refine fn_of_awp Try.func67 (by kernel_rfl) rfl Try.ntmps67 (rs := [.cell 4 69]) rfl (Nat.le_of_ble_eq_true rfl) (two_cI a n) ?_
  have hal := ha.1
  have hnl := hn.1
  have h1l := ha1.1
  have hz : List.drop 4 (cI zI) = [] := cI_drop rfl
  simp [go_sem, hal, hnl, cI_take hal, cI_take hnl]
  generalize hSS : itr (stpW M n) ([1, 0, 0, 0], a1) = S at *
  have hS0 : S 0 = ([1, 0, 0, 0], a1) := by rw [← hSS]; rfl
  apply draw3 (1 :: []) (0 :: 2 :: 3 :: 4 :: 5 :: 6 :: []) (1 :: []) (.alt (.step 0 ([]) true (.alt (.step 2 ([]) false (.alt (.step 3 ([]) false (.step 4 ([]) false (.step 5 ([]) false (.step 6 ([]) false .done)))) (.step 4 ([]) false (.step 3 ([]) false (.step 5 ([]) false (.step 6 ([]) false .done)))))) (.alt (.step 3 ([]) true (.alt (.step 2 ([]) false (.step 4 ([]) false (.step 5 ([]) false (.step 6 ([]) false .done)))) (.step 4 ([]) true (.step 2 ([]) false (.step 5 ([]) false (.step 6 ([]) false .done)))))) (.step 4 ([]) true (.alt (.step 2 ([]) false (.step 3 ([]) false (.step 5 ([]) false (.step 6 ([]) false .done)))) (.step 3 ([]) true (.step 2 ([]) false (.step 5 ([]) false (.step 6 ([]) false .done))))))))) (.alt (.step 3 ([]) true (.alt (.step 0 ([]) true (.alt (.step 2 ([]) false (.step 4 ([]) false (.step 5 ([]) false (.step 6 ([]) false .done)))) (.step 4 ([]) true (.step 2 ([]) false (.step 5 ([]) false (.step 6 ([]) false .done)))))) (.step 4 ([]) true (.step 0 ([]) true (.step 2 ([]) false (.step 5 ([]) false (.step 6 ([]) false .done))))))) (.step 4 ([]) true (.alt (.step 0 ([]) true (.alt (.step 2 ([]) false (.step 3 ([]) false (.step 5 ([]) false (.step 6 ([]) false .done)))) (.step 3 ([]) true (.step 2 ([]) false (.step 5 ([]) false (.step 6 ([]) false .done)))))) (.step 3 ([]) true (.step 0 ([]) true (.step 2 ([]) false (.step 5 ([]) false (.step 6 ([]) false .done))))))))) ⟨[(3, .ptr 32 0 0 1), (4, .ptr 64 0 0 1), (5, .ptr 192 0 0 1), (6, .ptr 224 0 0 1)], [(224, ⟨69, 4, [cI a1]⟩), (192, ⟨69, 4, [cI [1, 0, 0, 0]]⟩), (64, ⟨69, 4, [cI zI]⟩), (32, ⟨69, 4, [cI n]⟩)], 9000⟩ (k := 7) (by kernel_rfl) (by kernel_rfl) rfl
  case hz => repeat (first | exact Its.nil | apply Its.plain rfl | apply Its.guard rfl rfl)
  case hj => repeat (first | exact Tts.done | exact Its.nil | apply Tts.alt | apply Its.plain rfl | apply Its.guard rfl rfl | apply Tts.plain rfl | apply Tts.guard rfl rfl)
  case h3 =>
    intro G hG
    have hW : ∀ (fr : Fr) (hp : Hp), (fv 3 fr = .ptr 32 0 0 1 ∧ fv 4 fr = .ptr 64 0 0 1 ∧ fv 5 fr = .ptr 192 0 0 1 ∧ fv 6 fr = .ptr 224 0 0 1 ∧ lk 224 hp = some ⟨69, 4, [cI a1]⟩ ∧ lk 192 hp = some ⟨69, 4, [cI [1, 0, 0, 0]]⟩ ∧ lk 64 hp = some ⟨69, 4, [cI zI]⟩ ∧ lk 32 hp = some ⟨69, 4, [cI n]⟩) → G fr hp := by
      rintro fr hp ⟨q0, q1, q2, q3, q4, q5, q6, q7⟩
      refine hG _ _ (weak_wk ?_)
      simp only [Weak, slotOk]
      refine ⟨fun p hp => ?_, fun p hp => ?_, by simp⟩
      · simp only [List.mem_cons, List.mem_nil_iff, or_false] at hp
        rcases hp with rfl | rfl | rfl | rfl
        · exact ⟨.inl q0.symm, by simp [AV.low, AV.low1]⟩
        · exact ⟨.inl q1.symm, by simp [AV.low, AV.low1]⟩
        · exact ⟨.inl q2.symm, by simp [AV.low, AV.low1]⟩
        · exact ⟨.inl q3.symm, by simp [AV.low, AV.low1]⟩
      · simp only [List.mem_cons, List.mem_nil_iff, or_false] at hp
        rcases hp with rfl | rfl | rfl | rfl
        · exact ⟨.inl q4, by simp, by intro r hr; simp only [List.mem_cons, List.mem_nil_iff, or_false] at hr; subst hr; exact cI_low _ _⟩
        · exact ⟨.inl q5, by simp, by intro r hr; simp only [List.mem_cons, List.mem_nil_iff, or_false] at hr; subst hr; exact cI_low _ _⟩
        · exact ⟨.inl q6, by simp, by intro r hr; simp only [List.mem_cons, List.mem_nil_iff, or_false] at hr; subst hr; exact cI_low _ _⟩
        · exact ⟨.inl q7, by simp, by intro r hr; simp only [List.mem_cons, List.mem_nil_iff, or_false] at hr; subst hr; exact cI_low _ _⟩
    simp [go_sem, hal, cI_take hal, h1l, cI_take h1l, hz, SaW]
    repeat' first | exact hW _ _ ⟨rfl, rfl, rfl, rfl, rfl, rfl, rfl, rfl⟩ | (refine hW _ _ ?_; simp [fv, lk]; done) | refine cl_eq (fromI_fn 1) (by simp [AV.deep, AV.deep1]) ?_ | refine cl_eq f1 (one_cI _) ?_ | apply And.intro | simp [go_sem, hal, cI_take hal, h1l, cI_take h1l, hz, SaW]
  case hq =>
    simp [go_sem, hnl, cI_take hnl]
    refine cl_eq f2 (one_cI _) ?_
    simp [go_sem]
    refine loop_of (fun k : Nat => ⟨[(3, .ptr 32 0 0 1), (4, .ptr 64 0 0 1), (5, .ptr 192 0 0 1), (6, .ptr 224 0 0 1), (12, .d (.int .i64 (L : Int))), (13, .d (.int .i64 (k : Int)))], [(224, ⟨69, 4, [cI (S k).2]⟩), (192, ⟨69, 4, [cI (S k).1]⟩), (64, ⟨69, 4, [cI zI]⟩), (32, ⟨69, 4, [cI n]⟩)], 20000⟩)
      (fun k => k ≤ L) (fun k => L - k) 0 (by omega) (by
        rw [hS0]
        simp [Weak, slotOk, fv, lk, AV.low, AV.low1]
        and_intros <;> first | rfl | exact cI_low _ _) ?_
    intro k hk
    obtain ⟨hs1, hs2⟩ := hS k
    have l1 := hs1.1
    have l2 := hs2.1
    have w3 := next_i64 (k := k) (by omega)
    simp only [go_sem, Nat.reduceEqDiff, Nat.reduceAdd, Nat.reduceLT, ↓reduceIte]
    by_cases h4 : k < L
    · refine ⟨fun h => ?_, fun h => absurd (by exact_mod_cast h4) h⟩
      have hsn : S (k + 1) = stpW M n k (S k) := by rw [← hSS]; rfl
      have hdq : dq k = k / 64 := rfl
      have hrq : rq k = k % 64 := rfl
      have hnk := get_D (l := n) (k := dq k) (by omega)
      have w4 : IntKind.i64.wrap ((k : Int) / 64) = (dq k : Int) := by rw [IntWalk.i64_in _ (by omega)]; omega
      have w4b : IntKind.i64.wrap ((k : Int).tdiv 64) = (dq k : Int) := w4
      have e2 : (k : Int) % 64 = (rq k : Int) := by omega
      have e2b : (k : Int).tmod 64 = (rq k : Int) := e2
      have i1 : (dq k : Int) < 4 := by omega
      obtain ⟨m1, m2⟩ := hM ((S k).2, (S k).2) ⟨hs2, hs2⟩
      obtain ⟨m3, m4⟩ := hM ((S k).1, (S k).2) ⟨hs1, hs2⟩
      have l3 := m1.1
      have l4 := m3.1
      have hm64 : rq k < 64 := by omega
      have hmn : min (rq k) 64 = rq k := by omega
      unfold stpW at hsn
      by_cases hb : bitI n k
      · rw [if_pos hb] at hsn
        unfold bitI at hb
        simp [go_sem, hnk, hnl, e2, e2b, w4, w4b, i1, hm64, hmn, hb, IntKind.bits, l1, l2, cI_take l1, cI_take l2]
        first | refine cl_eq m2 (two_cI _ _) ?_
        generalize M ((S k).2, (S k).2) = z at *
        simp [go_sem, l3, cI_take l3, l2, cI_drop l2, w3]
        first | refine next_of (k + 1) (by omega) (by omega) ?_
        rw [hsn]
        simp [Weak, slotOk, fv, lk, AV.low, AV.low1]
        and_intros <;> exact cI_low _ _
      · rw [if_neg hb] at hsn
        unfold bitI at hb
        simp [go_sem, hnk, hnl, e2, e2b, w4, w4b, i1, hm64, hmn, hb, IntKind.bits, l1, l2, cI_take l1, cI_take l2]
        first | refine cl_eq m4 (two_cI _ _) ?_
        generalize M ((S k).1, (S k).2) = y at *
        simp [go_sem, l4, cI_take l4, l1, l2, cI_take l2, cI_drop l1]
        first | refine cl_eq m2 (two_cI _ _) ?_
        generalize M ((S k).2, (S k).2) = z at *
        simp [go_sem, l3, cI_take l3, l2, cI_drop l2, w3]
        first | refine next_of (k + 1) (by omega) (by omega) ?_
        rw [hsn]
        simp [Weak, slotOk, fv, lk, AV.low, AV.low1]
        and_intros <;> exact cI_low _ _
    · refine ⟨fun h => absurd (by exact_mod_cast h) h4, fun h => ?_⟩
      have hkl : k = L := by omega
      subst hkl
      simp [go_sem, l1, cI_take l1, hz, resV]
      exact post_w rfl
end Go.Proofs.Ytgeabjjgeeakdaa
