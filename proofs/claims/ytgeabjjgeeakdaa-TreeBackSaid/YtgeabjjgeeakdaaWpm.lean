/-
  The curve's points: two multiples, added.
-/
import Derived.Test.YtgeabjjgeeakdaaWpl
namespace Go.Proofs.Ytgeabjjgeeakdaa
open Go.Am Go.Sha
set_option linter.unusedSimpArgs false
set_option linter.unusedVariables false

abbrev T3 := List Int × List Int × List Int
def W3 (s : T3) : Prop := Wn 4 s.1 ∧ Wn 4 s.2.1 ∧ Wn 4 s.2.2
theorem dblF : ∃ D : T3 → T3, ∀ s, W3 s → W3 (D s) ∧ Rets Try.prog 57 [.agg (cV s.1 s.2.1 s.2.2)] (fun r => r = .agg (cV (D s).1 (D s).2.1 (D s).2.2)) :=
  pick (α := T3) (β := T3) (A := W3) (B := fun s t => W3 t ∧ Rets Try.prog 57 [.agg (cV s.1 s.2.1 s.2.2)] (fun r => r = .agg (cV t.1 t.2.1 t.2.2))) (fun s hs => by
    obtain ⟨u, v, w, h1, h2, h3, h4⟩ := doubled_ex s.1 s.2.1 s.2.2 hs.1 hs.2.1 hs.2.2
    exact ⟨(u, v, w), ⟨h1, h2, h3⟩, h4⟩)
theorem plusF : ∃ D : T3 × T3 → T3, ∀ s, (W3 s.1 ∧ W3 s.2) → W3 (D s) ∧ Rets Try.prog 55 [.agg (cV s.1.1 s.1.2.1 s.1.2.2), .agg (cV s.2.1 s.2.2.1 s.2.2.2)] (fun r => r = .agg (cV (D s).1 (D s).2.1 (D s).2.2)) :=
  pick (α := T3 × T3) (β := T3) (A := fun s => W3 s.1 ∧ W3 s.2) (B := fun s t => W3 t ∧ Rets Try.prog 55 [.agg (cV s.1.1 s.1.2.1 s.1.2.2), .agg (cV s.2.1 s.2.2.1 s.2.2.2)] (fun r => r = .agg (cV t.1 t.2.1 t.2.2))) (fun s hs => by
    obtain ⟨u, v, w, h1, h2, h3, h4⟩ := plus_ex s.1.1 s.1.2.1 s.1.2.2 s.2.1 s.2.2.1 s.2.2.2 hs.1.1 hs.1.2.1 hs.1.2.2 hs.2.1 hs.2.2.1 hs.2.2.2
    exact ⟨(u, v, w), ⟨h1, h2, h3⟩, h4⟩)
theorem bitF : ∃ D : List Int × Nat → Bool, ∀ s, (Wn 4 s.1 ∧ s.2 < 256) → Rets Try.prog 58 [.agg (cI s.1), .d (.int .i64 (s.2 : Int))] (fun r => r = .d (.bool (D s))) :=
  pick (α := List Int × Nat) (β := Bool) (A := fun s => Wn 4 s.1 ∧ s.2 < 256) (B := fun s t => Rets Try.prog 58 [.agg (cI s.1), .d (.int .i64 (s.2 : Int))] (fun r => r = .d (.bool t))) (fun s hs => bit_ex s.1 s.2 hs.1 hs.2)
def stpO (D : T3 → T3) (A : T3 × T3 → T3) (B : List Int × Nat → Bool) (a b : List Int) (M : Nat) (one two both : T3) (k : Nat) (s : T3) : T3 :=
  if B (a, M - 1 - k) then (if B (b, M - 1 - k) then A (D s, both) else A (D s, one)) else (if B (b, M - 1 - k) then A (D s, two) else D s)
theorem four_d (a b : List Int) (x y x' y' : List Int) (c c' : Bool) : ∀ v, v ∈ [AV.agg (cI a), AV.agg (cP x y c), AV.agg (cI b), AV.agg (cP x' y' c')] → v.deep := by
  intro v hv; simp at hv
  rcases hv with rfl | rfl | rfl | rfl
  · exact cI_deepA _
  · exact cP_deep _ _ _
  · exact cI_deepA _
  · exact cP_deep _ _ _
theorem wi2_deep (n : List Int) (m : Int) : ∀ v, v ∈ [AV.agg (cI n), AV.d (.int .i64 m)] → v.deep := by
  intro v hv; simp at hv; rcases hv with rfl | rfl; exact cI_deepA _; trivial
set_option maxRecDepth 20000 in
set_option maxHeartbeats 32000000 in
theorem both_ex (a b x y x' y' : List Int) (c c' : Bool) (ha : Wn 4 a) (hb : Wn 4 b) (hx : Wn 4 x) (hy : Wn 4 y) (hx' : Wn 4 x') (hy' : Wn 4 y') : ∃ (u v : List Int) (o : Bool), Wn 4 u ∧ Wn 4 v ∧ Rets Try.prog 34 [.agg (cI a), .agg (cP x y c), .agg (cI b), .agg (cP x' y' c')] (fun r => r = .agg (cP u v o)) := by
  obtain ⟨D, hD⟩ := dblF
  obtain ⟨A, hA⟩ := plusF
  obtain ⟨B, hB⟩ := bitF
  obtain ⟨p1, p2, p3, hp1, hp2, t1⟩ := taken_ex x y c hx hy
  obtain ⟨u1, v1, w1, hu1, hv1, hw1, g1⟩ := weigh_ex p1 p2 p3 hp1 hp2
  obtain ⟨r1, r2, r3, hr1, hr2, t2⟩ := taken_ex x' y' c' hx' hy'
  obtain ⟨u2, v2, w2, hu2, hv2, hw2, g2⟩ := weigh_ex r1 r2 r3 hr1 hr2
  obtain ⟨u3, v3, w3, hu3, hv3, hw3, f3⟩ := plus_ex u1 v1 w1 u2 v2 w2 hu1 hv1 hw1 hu2 hv2 hw2
  obtain ⟨u4, v4, w4, hu4, hv4, hw4, f4⟩ := weigh_ex zI zI true zI_W zI_W
  obtain ⟨La, hLa, f5⟩ := wlen_ex a ha
  obtain ⟨Lb, hLb, f6⟩ := wlen_ex b hb
  obtain ⟨M, hM⟩ : ∃ M, M = max La Lb := ⟨_, rfl⟩
  have hM2 : M ≤ 256 := by omega
  have hone : W3 (u1, v1, w1) := ⟨hu1, hv1, hw1⟩
  have htwo : W3 (u2, v2, w2) := ⟨hu2, hv2, hw2⟩
  have hboth : W3 (u3, v3, w3) := ⟨hu3, hv3, hw3⟩
  have hS : ∀ k, W3 (itr (stpO D A B a b M (u1, v1, w1) (u2, v2, w2) (u3, v3, w3)) (u4, v4, w4) k) := itr_inv (P := fun _ s => W3 s) ⟨hu4, hv4, hw4⟩ fun k s hs => by
    have hd := (hD s hs).1
    unfold stpO
    split
    · split
      · exact (hA _ ⟨hd, hboth⟩).1
      · exact (hA _ ⟨hd, hone⟩).1
    · split
      · exact (hA _ ⟨hd, htwo⟩).1
      · exact hd
  obtain ⟨u, v, o, hu, hv, f7⟩ := plain_ex _ _ _ (hS M).1 (hS M).2.1 (hS M).2.2
  refine ⟨u, v, o, hu, hv, ?_⟩
  refine fn_of_awp Try.func34 (by kernel_rfl) rfl Try.ntmps34 (rs := [.cell 8 71]) rfl (Nat.le_of_ble_eq_true rfl) (four_d _ _ _ _ _ _ _ _) ?_
  have hal := ha.1
  have hbl := hb.1
  have hxl := hx.1
  have hyl := hy.1
  have hxl' := hx'.1
  have hyl' := hy'.1
  have z4 : List.drop 4 (cI zI) = [] := cI_drop rfl
  have pl1 := cP_len hxl hyl c
  have pt1 := cP_take hxl hyl c
  have pl2 := cP_len hxl' hyl' c'
  have pt2 := cP_take hxl' hyl' c'
  have wl1 := cV_len hu1.1 hv1.1 hw1.1
  have wt1 := cV_take hu1.1 hv1.1 hw1.1
  have wl2 := cV_len hu2.1 hv2.1 hw2.1
  have wt2 := cV_take hu2.1 hv2.1 hw2.1
  have wl3 := cV_len hu3.1 hv3.1 hw3.1
  have wt3 := cV_take hu3.1 hv3.1 hw3.1
  have wl4 := cV_len hu4.1 hv4.1 hw4.1
  have wt4 := cV_take hu4.1 hv4.1 hw4.1
  have wd : (cV zI zI zI).drop 12 = [] := cV_drop rfl rfl rfl
  have wl : (cV zI zI zI).length = 12 := rfl
  have pd : (cP zI zI false).drop 9 = [] := cP_drop rfl rfl _
  have pl : (cP zI zI false).length = 9 := rfl
  simp [go_sem, hal, hbl, cI_take hal, cI_take hbl, pl1, pt1, pl2, pt2]
  apply draw3 (0 :: 3 :: []) (1 :: 2 :: 4 :: 5 :: 6 :: 7 :: 8 :: 9 :: []) (0 :: 3 :: []) (.alt (.step 1 ([]) true (.alt (.step 2 ([]) true (.alt (.step 4 ([]) false (.alt (.step 5 ([]) false (.alt (.step 6 ([]) false (.step 7 ([]) false (.step 8 ([]) false (.step 9 ([]) false .done)))) (.step 7 ([]) false (.step 6 ([]) false (.step 8 ([]) false (.step 9 ([]) false .done)))))) (.alt (.step 6 ([]) false (.alt (.step 5 ([]) false (.step 7 ([]) false (.step 8 ([]) false (.step 9 ([]) false .done)))) (.step 7 ([]) false (.step 5 ([]) false (.step 8 ([]) false (.step 9 ([]) false .done)))))) (.step 7 ([]) false (.alt (.step 5 ([]) false (.step 6 ([]) false (.step 8 ([]) false (.step 9 ([]) false .done)))) (.step 6 ([]) false (.step 5 ([]) false (.step 8 ([]) false (.step 9 ([]) false .done))))))))) (.alt (.step 6 ([]) true (.alt (.step 4 ([]) false (.alt (.step 5 ([]) false (.step 7 ([]) false (.step 8 ([]) false (.step 9 ([]) false .done)))) (.step 7 ([]) false (.step 5 ([]) false (.step 8 ([]) false (.step 9 ([]) false .done)))))) (.step 7 ([]) true (.step 4 ([]) false (.step 5 ([]) false (.step 8 ([]) false (.step 9 ([]) false .done))))))) (.step 7 ([]) true (.alt (.step 4 ([]) false (.alt (.step 5 ([]) false (.step 6 ([]) false (.step 8 ([]) false (.step 9 ([]) false .done)))) (.step 6 ([]) false (.step 5 ([]) false (.step 8 ([]) false (.step 9 ([]) false .done)))))) (.step 6 ([]) true (.step 4 ([]) false (.step 5 ([]) false (.step 8 ([]) false (.step 9 ([]) false .done)))))))))) (.alt (.step 6 ([]) true (.alt (.step 2 ([]) true (.alt (.step 4 ([]) false (.alt (.step 5 ([]) false (.step 7 ([]) false (.step 8 ([]) false (.step 9 ([]) false .done)))) (.step 7 ([]) false (.step 5 ([]) false (.step 8 ([]) false (.step 9 ([]) false .done)))))) (.step 7 ([]) true (.step 4 ([]) false (.step 5 ([]) false (.step 8 ([]) false (.step 9 ([]) false .done))))))) (.step 7 ([]) true (.step 2 ([]) true (.step 4 ([]) false (.step 5 ([]) false (.step 8 ([]) false (.step 9 ([]) false .done)))))))) (.step 7 ([]) true (.alt (.step 2 ([]) true (.alt (.step 4 ([]) false (.alt (.step 5 ([]) false (.step 6 ([]) false (.step 8 ([]) false (.step 9 ([]) false .done)))) (.step 6 ([]) false (.step 5 ([]) false (.step 8 ([]) false (.step 9 ([]) false .done)))))) (.step 6 ([]) true (.step 4 ([]) false (.step 5 ([]) false (.step 8 ([]) false (.step 9 ([]) false .done))))))) (.step 6 ([]) true (.step 2 ([]) true (.step 4 ([]) false (.step 5 ([]) false (.step 8 ([]) false (.step 9 ([]) false .done))))))))))) (.alt (.step 6 ([]) true (.alt (.step 1 ([]) true (.alt (.step 2 ([]) true (.alt (.step 4 ([]) false (.alt (.step 5 ([]) false (.step 7 ([]) false (.step 8 ([]) false (.step 9 ([]) false .done)))) (.step 7 ([]) false (.step 5 ([]) false (.step 8 ([]) false (.step 9 ([]) false .done)))))) (.step 7 ([]) true (.step 4 ([]) false (.step 5 ([]) false (.step 8 ([]) false (.step 9 ([]) false .done))))))) (.step 7 ([]) true (.step 2 ([]) true (.step 4 ([]) false (.step 5 ([]) false (.step 8 ([]) false (.step 9 ([]) false .done)))))))) (.step 7 ([]) true (.step 1 ([]) true (.step 2 ([]) true (.step 4 ([]) false (.step 5 ([]) false (.step 8 ([]) false (.step 9 ([]) false .done))))))))) (.step 7 ([]) true (.alt (.step 1 ([]) true (.alt (.step 2 ([]) true (.alt (.step 4 ([]) false (.alt (.step 5 ([]) false (.step 6 ([]) false (.step 8 ([]) false (.step 9 ([]) false .done)))) (.step 6 ([]) false (.step 5 ([]) false (.step 8 ([]) false (.step 9 ([]) false .done)))))) (.step 6 ([]) true (.step 4 ([]) false (.step 5 ([]) false (.step 8 ([]) false (.step 9 ([]) false .done))))))) (.step 6 ([]) true (.step 2 ([]) true (.step 4 ([]) false (.step 5 ([]) false (.step 8 ([]) false (.step 9 ([]) false .done)))))))) (.step 6 ([]) true (.step 1 ([]) true (.step 2 ([]) true (.step 4 ([]) false (.step 5 ([]) false (.step 8 ([]) false (.step 9 ([]) false .done))))))))))) ⟨[(4, .ptr 0 0 0 1), (6, .ptr 64 0 0 1), (8, .ptr 128 0 0 1), (9, .ptr 352 0 0 1), (10, .ptr 384 0 0 1)], [(384, ⟨99, 12, [cV u2 v2 w2]⟩), (352, ⟨99, 12, [cV u1 v1 w1]⟩), (128, ⟨71, 9, [cP zI zI false]⟩), (64, ⟨69, 4, [cI b]⟩), (0, ⟨69, 4, [cI a]⟩)], 9000⟩ (k := 10) (by kernel_rfl) (by kernel_rfl) rfl
  case hz => repeat (first | exact Its.nil | apply Its.plain rfl | apply Its.guard rfl rfl)
  case hj => repeat (first | exact Tts.done | exact Its.nil | apply Tts.alt | apply Its.plain rfl | apply Its.guard rfl rfl | apply Tts.plain rfl | apply Tts.guard rfl rfl)
  case h3 =>
    intro G hG
    have hW : ∀ (fr : Fr) (hp : Hp), (fv 4 fr = .ptr 0 0 0 1 ∧ fv 6 fr = .ptr 64 0 0 1 ∧ fv 8 fr = .ptr 128 0 0 1 ∧ fv 9 fr = .ptr 352 0 0 1 ∧ fv 10 fr = .ptr 384 0 0 1 ∧ lk 384 hp = some ⟨99, 12, [cV u2 v2 w2]⟩ ∧ lk 352 hp = some ⟨99, 12, [cV u1 v1 w1]⟩ ∧ lk 128 hp = some ⟨71, 9, [cP zI zI false]⟩ ∧ lk 64 hp = some ⟨69, 4, [cI b]⟩ ∧ lk 0 hp = some ⟨69, 4, [cI a]⟩) → G fr hp := by
      rintro fr hp ⟨q0, q1, q2, q3, q4, q5, q6, q7, q8, q9⟩
      refine hG _ _ (weak_wk ?_)
      simp only [Weak, slotOk]
      refine ⟨fun p hp => ?_, fun p hp => ?_, by simp⟩
      · simp only [List.mem_cons, List.mem_nil_iff, or_false] at hp
        rcases hp with rfl | rfl | rfl | rfl | rfl
        · exact ⟨.inl q0.symm, by simp [AV.low, AV.low1]⟩
        · exact ⟨.inl q1.symm, by simp [AV.low, AV.low1]⟩
        · exact ⟨.inl q2.symm, by simp [AV.low, AV.low1]⟩
        · exact ⟨.inl q3.symm, by simp [AV.low, AV.low1]⟩
        · exact ⟨.inl q4.symm, by simp [AV.low, AV.low1]⟩
      · simp only [List.mem_cons, List.mem_nil_iff, or_false] at hp
        rcases hp with rfl | rfl | rfl | rfl | rfl
        · exact ⟨.inl q5, by simp, by intro r hr; simp only [List.mem_cons, List.mem_nil_iff, or_false] at hr; subst hr; exact (by first | exact cI_low _ _ | exact cV_low _ _ _ _ | exact cP_low _ _ _ _)⟩
        · exact ⟨.inl q6, by simp, by intro r hr; simp only [List.mem_cons, List.mem_nil_iff, or_false] at hr; subst hr; exact (by first | exact cI_low _ _ | exact cV_low _ _ _ _ | exact cP_low _ _ _ _)⟩
        · exact ⟨.inl q7, by simp, by intro r hr; simp only [List.mem_cons, List.mem_nil_iff, or_false] at hr; subst hr; exact (by first | exact cI_low _ _ | exact cV_low _ _ _ _ | exact cP_low _ _ _ _)⟩
        · exact ⟨.inl q8, by simp, by intro r hr; simp only [List.mem_cons, List.mem_nil_iff, or_false] at hr; subst hr; exact (by first | exact cI_low _ _ | exact cV_low _ _ _ _ | exact cP_low _ _ _ _)⟩
        · exact ⟨.inl q9, by simp, by intro r hr; simp only [List.mem_cons, List.mem_nil_iff, or_false] at hr; subst hr; exact (by first | exact cI_low _ _ | exact cV_low _ _ _ _ | exact cP_low _ _ _ _)⟩
    simp [go_sem, hal, hbl, cI_take hal, cI_take hbl, pl1, pt1, pl2, pt2, wl1, wt1, wl2, wt2, wd, z4, SaW]
    repeat' first | exact hW _ _ ⟨rfl, rfl, rfl, rfl, rfl, rfl, rfl, rfl, rfl, rfl⟩ | (refine hW _ _ ?_; simp [fv, lk]; done) | refine cl_eq t1 (one_cP _ _ _) ?_ | refine cl_eq t2 (one_cP _ _ _) ?_ | refine cl_eq g1 (one_cP _ _ _) ?_ | refine cl_eq g2 (one_cP _ _ _) ?_ | apply And.intro | simp [go_sem, hal, hbl, cI_take hal, cI_take hbl, pl1, pt1, pl2, pt2, wl1, wt1, wl2, wt2, wd, z4, SaW]
  case hq =>
    simp [go_sem, wl1, wt1, wl2, wt2]
    refine cl_eq f3 (two_cV _ _ _ _ _ _) ?_
    simp [go_sem, wl3, wt3, wd]
    refine cl_eq zero_fn (by simp) ?_
    simp [go_sem]
    refine cl_eq f4 (one_cP _ _ _) ?_
    simp [go_sem, wl4, wt4, wd]
    apply draw2 (0 :: 2 :: []) ((1, ([])) :: (3, ([])) :: (4, (5 :: 6 :: [])) :: []) 3 (k := 7) (by kernel_rfl) (by kernel_rfl) rfl
    case hz => repeat (first | exact Its.nil | apply Its.plain rfl | apply Its.guard rfl rfl)
    case hj => repeat (first | exact Jts.nil | exact Its.nil | apply Its.plain rfl | apply Its.guard rfl rfl | apply Jts.plain rfl | apply Jts.guard rfl rfl)
    intro G hG
    simp [go_sem, hal, hbl, cI_take hal, cI_take hbl]
    refine cl_eq f5 (one_cI _) ?_
    simp [go_sem, hal, hbl, cI_take hal, cI_take hbl]
    refine cl_eq f6 (one_cI _) ?_
    have w0 : IntKind.i64.wrap ((M : Int) - 1) = (M : Int) - 1 := by rw [IntWalk.i64_in _ (by omega)]
    have hMi : max (La : Int) (Lb : Int) = (M : Int) := by omega
    have hMx : (if La < Lb then (Lb : Int) else (La : Int)) = (M : Int) := by split <;> omega
    simp [go_sem, hMi, w0]
    refine hG _ _ ?_
    generalize hSS : itr (stpO D A B a b M (u1, v1, w1) (u2, v2, w2) (u3, v3, w3)) (u4, v4, w4) = S at *
    have hS0 : S 0 = (u4, v4, w4) := by rw [← hSS]; rfl
    refine loop_of (fun k : Nat => ⟨[(4, .ptr 0 0 0 1), (6, .ptr 64 0 0 1), (8, .ptr 128 0 0 1), (9, .ptr 352 0 0 1), (10, .ptr 384 0 0 1), (11, .ptr 9096 0 0 1), (12, .ptr 9224 0 0 1), (13, .d (.int .i64 ((M : Int) - 1 - (k : Int))))], [(9224, ⟨99, 12, [cV (S k).1 (S k).2.1 (S k).2.2]⟩), (9096, ⟨99, 12, [cV u3 v3 w3]⟩), (384, ⟨99, 12, [cV u2 v2 w2]⟩), (352, ⟨99, 12, [cV u1 v1 w1]⟩), (128, ⟨71, 9, [cP zI zI false]⟩), (64, ⟨69, 4, [cI b]⟩), (0, ⟨69, 4, [cI a]⟩)], 20000⟩)
      (fun k => k ≤ M) (fun k => M - k) 0 (by omega) (by
        rw [hS0]
        simp [Weak, slotOk, fv, lk, AV.low, AV.low1]
        and_intros <;> first | exact cV_low _ _ _ _ | exact cI_low _ _ | exact cP_low _ _ _ _ | (rw [hMx, w0])) ?_
    intro k hk
    obtain ⟨hs1, hs2, hs3⟩ := hS k
    have sl := cV_len hs1.1 hs2.1 hs3.1
    have st := cV_take hs1.1 hs2.1 hs3.1
    have sd := cV_drop hs1.1 hs2.1 hs3.1
    simp only [go_sem, Nat.reduceEqDiff, Nat.reduceAdd, Nat.reduceLT, ↓reduceIte]
    by_cases h4 : k < M
    · refine ⟨fun h => ?_, fun h => absurd (by omega) h⟩
      have hsn : S (k + 1) = stpO D A B a b M (u1, v1, w1) (u2, v2, w2) (u3, v3, w3) k (S k) := by rw [← hSS]; rfl
      have wq : IntKind.i64.wrap ((M : Int) - 1 - (k : Int) - 1) = (M : Int) - 1 - ((k + 1 : Nat) : Int) := by rw [IntWalk.i64_in _ (by omega)]; omega
      obtain ⟨d1, d2⟩ := hD (S k) ⟨hs1, hs2, hs3⟩
      have dl := cV_len d1.1.1 d1.2.1.1 d1.2.2.1
      have dt := cV_take d1.1.1 d1.2.1.1 d1.2.2.1
      have dd := cV_drop d1.1.1 d1.2.1.1 d1.2.2.1
      have e1 := hB (a, M - 1 - k) ⟨ha, by omega⟩
      have e2 := hB (b, M - 1 - k) ⟨hb, by omega⟩
      have ei : (((M - 1 - k : Nat)) : Int) = (M : Int) - 1 - (k : Int) := by omega
      simp only [ei] at e1 e2
      unfold stpO at hsn
      simp [go_sem, sl, st]
      refine cl_eq d2 (one_cV _ _ _) ?_
      simp [go_sem, dl, dt, sl, sd]
      apply draw2 (0 :: 1 :: 3 :: 4 :: []) ((2, ([])) :: (5, (6 :: 7 :: [])) :: []) 2 (k := 8) (by kernel_rfl) (by kernel_rfl) rfl
      case hz => repeat (first | exact Its.nil | apply Its.plain rfl | apply Its.guard rfl rfl)
      case hj => repeat (first | exact Jts.nil | exact Its.nil | apply Its.plain rfl | apply Its.guard rfl rfl | apply Jts.plain rfl | apply Jts.guard rfl rfl)
      intro G hG
      simp [go_sem, hal, hbl, cI_take hal, cI_take hbl]
      refine cl_eq e1 (wi2_deep _ _) ?_
      simp [go_sem, hal, hbl, cI_take hal, cI_take hbl]
      refine cl_eq e2 (wi2_deep _ _) ?_
      simp [go_sem]
      refine hG _ _ ?_
      cases hb1 : B (a, M - 1 - k)
      · cases hb2 : B (b, M - 1 - k)
        · simp only [hb1, hb2, if_true, if_false, Bool.false_eq_true] at hsn
          simp [go_sem, hb1, hb2, dl, dt, wl1, wt1, wl2, wt2, wl3, wt3]
          simp [go_sem, wq]
          refine next_of (k + 1) (by omega) (by omega) ?_
          rw [hsn]
          simp [Weak, slotOk, fv, lk, AV.low, AV.low1]
          and_intros <;> first | exact cV_low _ _ _ _ | exact cI_low _ _ | exact cP_low _ _ _ _ | omega
        · simp only [hb1, hb2, if_true, if_false, Bool.false_eq_true] at hsn
          simp [go_sem, hb1, hb2, dl, dt, wl1, wt1, wl2, wt2, wl3, wt3]
          obtain ⟨m1, m2⟩ := hA (D (S k), (u2, v2, w2)) ⟨d1, htwo⟩
          refine cl_eq m2 (two_cV _ _ _ _ _ _) ?_
          have ml := cV_len m1.1.1 m1.2.1.1 m1.2.2.1
          have mt := cV_take m1.1.1 m1.2.1.1 m1.2.2.1
          have md := cV_drop m1.1.1 m1.2.1.1 m1.2.2.1
          generalize A (D (S k), (u2, v2, w2)) = z at *
          simp [go_sem, ml, mt, dd, dl, wq]
          refine next_of (k + 1) (by omega) (by omega) ?_
          rw [hsn]
          simp [Weak, slotOk, fv, lk, AV.low, AV.low1]
          and_intros <;> first | exact cV_low _ _ _ _ | exact cI_low _ _ | exact cP_low _ _ _ _ | omega
      · cases hb2 : B (b, M - 1 - k)
        · simp only [hb1, hb2, if_true, if_false, Bool.false_eq_true] at hsn
          simp [go_sem, hb1, hb2, dl, dt, wl1, wt1, wl2, wt2, wl3, wt3]
          obtain ⟨m1, m2⟩ := hA (D (S k), (u1, v1, w1)) ⟨d1, hone⟩
          refine cl_eq m2 (two_cV _ _ _ _ _ _) ?_
          have ml := cV_len m1.1.1 m1.2.1.1 m1.2.2.1
          have mt := cV_take m1.1.1 m1.2.1.1 m1.2.2.1
          have md := cV_drop m1.1.1 m1.2.1.1 m1.2.2.1
          generalize A (D (S k), (u1, v1, w1)) = z at *
          simp [go_sem, ml, mt, dd, dl, wq]
          refine next_of (k + 1) (by omega) (by omega) ?_
          rw [hsn]
          simp [Weak, slotOk, fv, lk, AV.low, AV.low1]
          and_intros <;> first | exact cV_low _ _ _ _ | exact cI_low _ _ | exact cP_low _ _ _ _ | omega
        · simp only [hb1, hb2, if_true, if_false, Bool.false_eq_true] at hsn
          simp [go_sem, hb1, hb2, dl, dt, wl1, wt1, wl2, wt2, wl3, wt3]
          obtain ⟨m1, m2⟩ := hA (D (S k), (u3, v3, w3)) ⟨d1, hboth⟩
          refine cl_eq m2 (two_cV _ _ _ _ _ _) ?_
          have ml := cV_len m1.1.1 m1.2.1.1 m1.2.2.1
          have mt := cV_take m1.1.1 m1.2.1.1 m1.2.2.1
          have md := cV_drop m1.1.1 m1.2.1.1 m1.2.2.1
          generalize A (D (S k), (u3, v3, w3)) = z at *
          simp [go_sem, ml, mt, dd, dl, wq]
          refine next_of (k + 1) (by omega) (by omega) ?_
          rw [hsn]
          simp [Weak, slotOk, fv, lk, AV.low, AV.low1]
          and_intros <;> first | exact cV_low _ _ _ _ | exact cI_low _ _ | exact cP_low _ _ _ _ | omega
    · refine ⟨fun h => absurd (by omega) h4, fun h => ?_⟩
      have hkl : k = M := by omega
      subst hkl
      simp [go_sem, sl, st]
      refine cl_eq f7 (one_cV _ _ _) ?_
      have ol := cP_len hu.1 hv.1 o
      have ot := cP_take hu.1 hv.1 o
      simp [go_sem, ol, ot, pl, pd, resV]
      exact post_p rfl
end Go.Proofs.Ytgeabjjgeeakdaa
