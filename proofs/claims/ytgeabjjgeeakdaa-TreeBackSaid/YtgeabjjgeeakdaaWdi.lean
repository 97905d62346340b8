/-
  Roots in the field.
-/
import Derived.Test.YtgeabjjgeeakdaaWdh
namespace Go.Proofs.Ytgeabjjgeeakdaa
open Go.Am Go.Sha
set_option linter.unusedSimpArgs false
set_option linter.unusedVariables false

theorem ints_cI (l : List Int) : intsOf .u64 (cI l) = some l := by
  induction l with
  | nil => rfl
  | cons x r ih => simp only [cI, List.map_cons] at ih ⊢; simp [intsOf, ih]
theorem post_wb {Q : AV → Prop} {st : St} {a : List Int} {b : Bool} (hq : Q (.tup [.agg (cI a), .d (.bool b)])) : PostK Q (.tup [.agg (cI a), .d (.bool b)]) st :=
  post_same (by
    intro c hc
    simp at hc
    rcases hc with rfl | rfl
    · exact .inr ⟨_, rfl, cI_deep _⟩
    · exact .inl trivial) hq
theorem wi_deep (a : List Int) (c : Int) : ∀ v, v ∈ [AV.agg (cI a), AV.d (.int .i64 c)] → v.deep := by
  intro v hv; simp at hv; rcases hv with rfl | rfl; exact cI_deepA _; trivial
set_option maxRecDepth 20000 in
set_option maxHeartbeats 8000000 in
theorem froot_ex (a : List Int) (ha : Wn 4 a) : ∃ (r : List Int) (ok : Bool), Wn 4 r ∧ Rets Try.prog 49 [.agg (cI a)] (fun x => x = .tup [.agg (cI r), .d (.bool ok)]) := by
  obtain ⟨n0, c, hn0, hc, f1⟩ := wadd_ex prI [1, 0, 0, 0] prI_W (fromI_W ⟨by omega, by omega⟩)
  obtain ⟨n, hn, f2⟩ := shr2_ex n0 hn0
  obtain ⟨r, hr, f3⟩ := pow_ex a n ha hn
  obtain ⟨m, hm, f4⟩ := fmul_ex r r hr hr
  obtain ⟨a1, ha1, f5⟩ := reduce_ex a ha
  obtain ⟨q, hq, f6⟩ := fneg_ex r hr
  unfold W1 at f5 f6
  unfold W2 at f3 f4
  have hal := ha.1
  have h0l := hn0.1
  have hrl := hr.1
  have hml := hm.1
  have h1l := ha1.1
  have hql := hq.1
  have hz : List.drop 4 (cI zI) = [] := cI_drop rfl
  have hr0 := get_D (l := r) (k := 0) (by omega)
  have hrh : (cI r).head? = some (.d (.int .u64 (gI r 0))) := by
    rw [List.head?_eq_getElem?, cI_get, hr0]; rfl
  have key : ∀ (x : List Int) (ok : Bool), Wn 4 x → (m ≠ a1 → x = zI ∧ ok = false) → (m = a1 → ok = true ∧ x = (if Go.bits .and .u64 (gI r 0) 1 = 0 then r else q)) → Rets Try.prog 49 [.agg (cI a)] (fun y => y = .tup [.agg (cI x), .d (.bool ok)]) := by
    intro x ok hx hno hyes
    refine fn_of_awp Try.func49 (by kernel_rfl) rfl Try.ntmps49 (rs := [.cell 2 69, .tmp 3]) rfl (Nat.le_of_ble_eq_true rfl) (one_cI a) ?_
    simp [go_sem, hal, cI_take hal]
    refine cl_eq primeI_fn (by simp) ?_
    simp [go_sem]
    refine cl_eq (fromI_fn 1) (by simp [AV.deep, AV.deep1]) ?_
    simp [go_sem]
    refine cl_eq f1 (two_cI _ _) ?_
    simp [go_sem, h0l, cI_take h0l, hz]
    apply draw3 (0 :: 1 :: []) (2 :: 3 :: 4 :: 5 :: []) (0 :: 1 :: []) (.alt (.step 2 ([]) true (.alt (.step 3 ([]) false (.step 4 ([]) false (.step 5 ([]) false .done))) (.step 4 ([]) true (.step 3 ([]) false (.step 5 ([]) false .done))))) (.step 4 ([]) true (.step 2 ([]) true (.step 3 ([]) false (.step 5 ([]) false .done))))) ⟨[(1, .ptr 0 0 0 1), (2, .ptr 32 0 0 1), (6, .ptr 512 0 0 1)], [(512, ⟨69, 4, [cI r]⟩), (32, ⟨69, 4, [cI zI]⟩), (0, ⟨69, 4, [cI a]⟩)], 9000⟩ (k := 6) (by kernel_rfl) (by kernel_rfl) rfl
    case hz => repeat (first | exact Its.nil | apply Its.plain rfl | apply Its.guard rfl rfl)
    case hj => repeat (first | exact Tts.done | exact Its.nil | apply Tts.alt | apply Its.plain rfl | apply Its.guard rfl rfl | apply Tts.plain rfl | apply Tts.guard rfl rfl)
    case h3 =>
      intro G hG
      have hW : ∀ (fr : Fr) (hp : Hp), (fv 1 fr = .ptr 0 0 0 1 ∧ fv 2 fr = .ptr 32 0 0 1 ∧ fv 6 fr = .ptr 512 0 0 1 ∧ lk 512 hp = some ⟨69, 4, [cI r]⟩ ∧ lk 32 hp = some ⟨69, 4, [cI zI]⟩ ∧ lk 0 hp = some ⟨69, 4, [cI a]⟩) → G fr hp := by
        rintro fr hp ⟨q0, q1, q2, q3, q4, q5⟩
        refine hG _ _ (weak_wk ?_)
        simp only [Weak, slotOk]
        refine ⟨fun p hp => ?_, fun p hp => ?_, by simp⟩
        · simp only [List.mem_cons, List.mem_nil_iff, or_false] at hp
          rcases hp with rfl | rfl | rfl
          · exact ⟨.inl q0.symm, by simp [AV.low, AV.low1]⟩
          · exact ⟨.inl q1.symm, by simp [AV.low, AV.low1]⟩
          · exact ⟨.inl q2.symm, by simp [AV.low, AV.low1]⟩
        · simp only [List.mem_cons, List.mem_nil_iff, or_false] at hp
          rcases hp with rfl | rfl | rfl
          · exact ⟨.inl q3, by simp, by intro r hr; simp only [List.mem_cons, List.mem_nil_iff, or_false] at hr; subst hr; exact cI_low _ _⟩
          · exact ⟨.inl q4, by simp, by intro r hr; simp only [List.mem_cons, List.mem_nil_iff, or_false] at hr; subst hr; exact cI_low _ _⟩
          · exact ⟨.inl q5, by simp, by intro r hr; simp only [List.mem_cons, List.mem_nil_iff, or_false] at hr; subst hr; exact cI_low _ _⟩
      simp [go_sem, hal, cI_take hal, h0l, cI_take h0l, hrl, cI_take hrl, hz, SaW]
      repeat' first | exact hW _ _ ⟨rfl, rfl, rfl, rfl, rfl, rfl⟩ | (refine hW _ _ ?_; simp [fv, lk]; done) | refine cl_eq f2 (wi_deep _ _) ?_ | refine cl_eq f3 (two_cI _ _) ?_ | apply And.intro | simp [go_sem, hal, cI_take hal, h0l, cI_take h0l, hrl, cI_take hrl, hz, SaW]
    case hq =>
      simp [go_sem]
      apply draw2 (0 :: 1 :: 3 :: []) ((2, ([])) :: (4, (5 :: [])) :: []) 2 (k := 6) (by kernel_rfl) (by kernel_rfl) rfl
      case hz => repeat (first | exact Its.nil | apply Its.plain rfl | apply Its.guard rfl rfl)
      case hj => repeat (first | exact Jts.nil | exact Its.nil | apply Its.plain rfl | apply Its.guard rfl rfl | apply Jts.plain rfl | apply Jts.guard rfl rfl)
      intro G hG
      simp [go_sem, hrl, cI_take hrl, hal, cI_take hal]
      refine cl_eq f4 (two_cI _ _) ?_
      simp [go_sem, hrl, cI_take hrl, hal, cI_take hal]
      refine cl_eq f5 (one_cI _) ?_
      simp [go_sem, ints_cI, hml, h1l]
      refine hG _ _ ?_
      by_cases h1 : m = a1
      · obtain ⟨rfl, hx2⟩ := hyes h1
        by_cases h2 : Go.bits .and .u64 (gI r 0) 1 = 0
        · rw [if_pos h2] at hx2
          subst hx2
          simp [go_sem, h1, hr0, hrh, h2, hrl, cI_take hrl, hz, resV]
          exact post_wb rfl
        · rw [if_neg h2] at hx2
          subst hx2
          simp [go_sem, h1, hr0, hrh, h2, hrl, cI_take hrl, hz]
          refine cl_eq f6 (one_cI _) ?_
          simp [go_sem, hql, hrl, cI_take hql, cI_drop hrl, hz, resV]
          exact post_wb rfl
      · obtain ⟨rfl, rfl⟩ := hno h1
        simp [go_sem, h1, hz, cI_take (l := zI) (n := 4) rfl, resV]
        exact post_wb (a := zI) rfl
  by_cases h1 : m = a1
  · refine ⟨if Go.bits .and .u64 (gI r 0) 1 = 0 then r else q, true, ?_, key _ _ ?_ (fun h => absurd h1 h) (fun _ => ⟨rfl, rfl⟩)⟩
    · split
      · exact hr
      · exact hq
    · split
      · exact hr
      · exact hq
  · exact ⟨zI, false, zI_W, key _ _ zI_W (fun _ => ⟨rfl, rfl⟩) (fun h => absurd h h1)⟩
end Go.Proofs.Ytgeabjjgeeakdaa
