/-
  Sums, differences and products of numbers of 256 bits.
-/
import Derived.Test.YtgeabjjgeeakdaaWda
namespace Go.Proofs.Ytgeabjjgeeakdaa
open Go.Am Go.Sha
set_option linter.unusedSimpArgs false
set_option linter.unusedVariables false

theorem zz4I : tzO Try.prog 69 = some (cI zI) := by kernel_rfl
attribute [go_sem] zz4I
theorem zI_len : zI.length = 4 := rfl
attribute [go_sem] zI_len cI_len cI_get
theorem post_wc {Q : AV → Prop} {st : St} {a : List Int} {b : Int} (hq : Q (.tup [.agg (cI a), .d (.int .u64 b)])) : PostK Q (.tup [.agg (cI a), .d (.int .u64 b)]) st :=
  post_same (by
    intro c hc
    simp at hc
    rcases hc with rfl | rfl
    · exact .inr ⟨_, rfl, cI_deep _⟩
    · exact .inl trivial) hq
def stpA (A : Int × Int × Int → Int × Int) (a b : List Int) (k : Nat) (s : List Int × Int) : List Int × Int :=
  (s.1.set k (A (gI a k, gI b k, s.2)).1, (A (gI a k, gI b k, s.2)).2)
set_option maxRecDepth 20000 in
set_option maxHeartbeats 2000000 in
theorem wadd_ex (a b : List Int) (ha : Wn 4 a) (hb : Wn 4 b) : ∃ (s : List Int) (c : Int), Wn 4 s ∧ C1 c ∧ Rets Try.prog 66 [.agg (cI a), .agg (cI b)] (fun r => r = .tup [.agg (cI s), .d (.int .u64 c)]) := by
  obtain ⟨A, hA⟩ := pick (α := Int × Int × Int) (β := Int × Int) (A := fun x => R64 x.1 ∧ R64 x.2.1 ∧ C1 x.2.2) (B := fun x y => R64 y.1 ∧ C1 y.2 ∧ ExtOk Try.prog 81 [.d (.int .u64 x.1), .d (.int .u64 x.2.1), .d (.int .u64 x.2.2)] (.tup [.d (.int .u64 y.1), .d (.int .u64 y.2)])) (fun x hx => by
    obtain ⟨s, d, h1, h2, h3⟩ := add64_ex x.1 x.2.1 x.2.2 hx.1 hx.2.1 hx.2.2
    exact ⟨(s, d), h1, h2, h3⟩)
  have hS : ∀ k, Wn 4 (itr (stpA A a b) (zI, 0) k).1 ∧ C1 (itr (stpA A a b) (zI, 0) k).2 := itr_inv (P := fun _ (s : List Int × Int) => Wn 4 s.1 ∧ C1 s.2) ⟨zI_W, C1_0⟩ fun k s hs => by
    obtain ⟨h1, h2, _⟩ := hA (gI a k, gI b k, s.2) ⟨Wn_getD ha, Wn_getD hb, hs.2⟩
    exact ⟨Wn_set hs.1 h1, h2⟩
  refine ⟨(itr (stpA A a b) (zI, 0) 4).1, (itr (stpA A a b) (zI, 0) 4).2, (hS 4).1, (hS 4).2, ?_⟩
  refine fn_of_awp Try.func66 (by kernel_rfl) rfl Try.ntmps66 (rs := [.cell 4 69, .tmp 5]) rfl (Nat.le_of_ble_eq_true rfl) (two_cI a b) ?_
  have hal := ha.1
  have hbl := hb.1
  simp [go_sem, hal, hbl, cI_take hal, cI_take hbl]
  generalize hSS : itr (stpA A a b) (zI, 0) = S at *
  refine loop_of (fun k : Nat => ⟨[(2, .ptr 0 0 0 1), (3, .ptr 32 0 0 1), (4, .ptr 64 0 0 1), (6, .ptr 128 0 0 1), (7, .d (.int .u64 (S k).2)), (9, .d (.int .i64 (k : Int)))], [(128, ⟨69, 4, [cI (S k).1]⟩), (64, ⟨69, 4, [cI zI]⟩), (32, ⟨69, 4, [cI b]⟩), (0, ⟨69, 4, [cI a]⟩)], 1000⟩)
    (fun k => k ≤ 4) (fun k => 4 - k) 0 (by omega) (by
      rw [← hSS]
      simp [Weak, slotOk, fv, lk, AV.low, AV.low1, itr]
      and_intros <;> first | rfl | exact cI_low _ _) ?_
  intro k hk
  obtain ⟨hs1, hs2⟩ := hS k
  have hsl := hs1.1
  have w3 := next_i64 (k := k) (by omega)
  simp only [go_sem, Nat.reduceEqDiff, Nat.reduceAdd, Nat.reduceLT, ↓reduceIte]
  by_cases h4 : k < 4
  · refine ⟨fun h => ?_, fun h => absurd (by exact_mod_cast h4) h⟩
    have hka := get_D (l := a) (k := k) (by omega)
    have hkb := get_D (l := b) (k := k) (by omega)
    have hsn : S (k + 1) = stpA A a b k (S k) := by rw [← hSS]; rfl
    obtain ⟨h1, h2, h3⟩ := hA (gI a k, gI b k, (S k).2) ⟨Wn_getD ha, Wn_getD hb, hs2⟩
    simp only [stpA] at hsn
    generalize A (gI a k, gI b k, (S k).2) = y at *
    have hk4 : (k : Int) < 4 := by omega
    apply draw3 (0 :: 1 :: 2 :: 3 :: 4 :: 5 :: 6 :: 7 :: []) (8 :: 11 :: 13 :: 14 :: []) (0 :: 1 :: 2 :: 3 :: 4 :: 5 :: 6 :: 7 :: 9 :: 10 :: 12 :: []) (.step 8 (9 :: 10 :: 12 :: []) true (.alt (.step 11 ([]) true (.step 13 ([]) false (.step 14 ([]) false .done))) (.step 13 ([]) false (.step 11 ([]) false (.step 14 ([]) false .done))))) ⟨[(2, .ptr 0 0 0 1), (3, .ptr 32 0 0 1), (4, .ptr 64 0 0 1), (6, .ptr 128 0 0 1), (7, .d (.int .u64 y.2)), (9, .d (.int .i64 (k : Int)))], [(128, ⟨69, 4, [cI ((S k).1.set k y.1)]⟩), (64, ⟨69, 4, [cI zI]⟩), (32, ⟨69, 4, [cI b]⟩), (0, ⟨69, 4, [cI a]⟩)], 9000⟩ (k := 15) (by kernel_rfl) (by kernel_rfl) rfl
    case hz => repeat (first | exact Its.nil | apply Its.plain rfl | apply Its.guard rfl rfl)
    case hj => repeat (first | exact Tts.done | exact Its.nil | apply Tts.alt | apply Its.plain rfl | apply Its.guard rfl rfl | apply Tts.plain rfl | apply Tts.guard rfl rfl)
    case h3 =>
      intro G hG
      have hW : ∀ fr : Fr, (fv 2 fr = .ptr 0 0 0 1 ∧ fv 3 fr = .ptr 32 0 0 1 ∧ fv 4 fr = .ptr 64 0 0 1 ∧ fv 6 fr = .ptr 128 0 0 1 ∧ fv 7 fr = .d (.int .u64 y.2) ∧ fv 9 fr = .d (.int .i64 (k : Int))) → G fr [(128, ⟨69, 4, [cI ((S k).1.set k y.1)]⟩), (64, ⟨69, 4, [cI zI]⟩), (32, ⟨69, 4, [cI b]⟩), (0, ⟨69, 4, [cI a]⟩)] := by
        rintro fr ⟨e2, e3, e4, e6, e7, e9⟩
        refine hG _ _ (weak_wk ?_)
        simp only [Weak, slotOk]
        refine ⟨fun p hp => ?_, fun p hp => ?_, by simp⟩
        · simp only [List.mem_cons, List.mem_nil_iff, or_false] at hp
          rcases hp with rfl | rfl | rfl | rfl | rfl | rfl
          · exact ⟨.inl e2.symm, by simp [AV.low, AV.low1]⟩
          · exact ⟨.inl e3.symm, by simp [AV.low, AV.low1]⟩
          · exact ⟨.inl e4.symm, by simp [AV.low, AV.low1]⟩
          · exact ⟨.inl e6.symm, by simp [AV.low, AV.low1]⟩
          · exact ⟨.inl e7.symm, by simp [AV.low, AV.low1]⟩
          · exact ⟨.inl e9.symm, by simp [AV.low, AV.low1]⟩
        · simp only [List.mem_cons, List.mem_nil_iff, or_false] at hp
          rcases hp with rfl | rfl | rfl | rfl <;> exact ⟨.inl rfl, by simp, by intro r hr; simp only [List.mem_cons, List.mem_nil_iff, or_false] at hr; subst hr; exact cI_low _ _⟩
      simp [go_sem, hka, hkb, hal, hbl, hsl, SaW, hk4]
      refine cl_ext h3 ?_
      simp [go_sem, hka, hkb, hal, hbl, hsl, cI_set, SaW, hk4]
      and_intros <;> first | exact h4 | exact hW _ ⟨rfl, rfl, rfl, rfl, rfl, rfl⟩ | (refine hW _ ?_; simp [fv, lk])
    case hq =>
      simp [go_sem, w3]
      refine next_of (k + 1) (by omega) (by omega) ?_
      rw [hsn]
      simp [Weak, slotOk, fv, lk, AV.low, AV.low1]
      and_intros <;> exact cI_low _ _
  · refine ⟨fun h => absurd (by exact_mod_cast h) h4, fun h => ?_⟩
    have hk4 : k = 4 := by omega
    subst hk4
    simp [go_sem, hsl, cI_take hsl, cI_drop (l := zI) (n := 4) rfl, resV]
    exact post_wc rfl
set_option maxRecDepth 20000 in
set_option maxHeartbeats 2000000 in
theorem wsub_ex (a b : List Int) (ha : Wn 4 a) (hb : Wn 4 b) : ∃ (s : List Int) (c : Int), Wn 4 s ∧ C1 c ∧ Rets Try.prog 85 [.agg (cI a), .agg (cI b)] (fun r => r = .tup [.agg (cI s), .d (.int .u64 c)]) := by
  obtain ⟨A, hA⟩ := pick (α := Int × Int × Int) (β := Int × Int) (A := fun x => R64 x.1 ∧ R64 x.2.1 ∧ C1 x.2.2) (B := fun x y => R64 y.1 ∧ C1 y.2 ∧ ExtOk Try.prog 88 [.d (.int .u64 x.1), .d (.int .u64 x.2.1), .d (.int .u64 x.2.2)] (.tup [.d (.int .u64 y.1), .d (.int .u64 y.2)])) (fun x hx => by
    obtain ⟨s, d, h1, h2, h3⟩ := sub64_ex x.1 x.2.1 x.2.2 hx.1 hx.2.1 hx.2.2
    exact ⟨(s, d), h1, h2, h3⟩)
  have hS : ∀ k, Wn 4 (itr (stpA A a b) (zI, 0) k).1 ∧ C1 (itr (stpA A a b) (zI, 0) k).2 := itr_inv (P := fun _ (s : List Int × Int) => Wn 4 s.1 ∧ C1 s.2) ⟨zI_W, C1_0⟩ fun k s hs => by
    obtain ⟨h1, h2, _⟩ := hA (gI a k, gI b k, s.2) ⟨Wn_getD ha, Wn_getD hb, hs.2⟩
    exact ⟨Wn_set hs.1 h1, h2⟩
  refine ⟨(itr (stpA A a b) (zI, 0) 4).1, (itr (stpA A a b) (zI, 0) 4).2, (hS 4).1, (hS 4).2, ?_⟩
  refine fn_of_awp Try.func85 (by kernel_rfl) rfl Try.ntmps85 (rs := [.cell 4 69, .tmp 5]) rfl (Nat.le_of_ble_eq_true rfl) (two_cI a b) ?_
  have hal := ha.1
  have hbl := hb.1
  simp [go_sem, hal, hbl, cI_take hal, cI_take hbl]
  generalize hSS : itr (stpA A a b) (zI, 0) = S at *
  refine loop_of (fun k : Nat => ⟨[(2, .ptr 0 0 0 1), (3, .ptr 32 0 0 1), (4, .ptr 64 0 0 1), (6, .ptr 128 0 0 1), (7, .d (.int .u64 (S k).2)), (9, .d (.int .i64 (k : Int)))], [(128, ⟨69, 4, [cI (S k).1]⟩), (64, ⟨69, 4, [cI zI]⟩), (32, ⟨69, 4, [cI b]⟩), (0, ⟨69, 4, [cI a]⟩)], 1000⟩)
    (fun k => k ≤ 4) (fun k => 4 - k) 0 (by omega) (by
      rw [← hSS]
      simp [Weak, slotOk, fv, lk, AV.low, AV.low1, itr]
      and_intros <;> first | rfl | exact cI_low _ _) ?_
  intro k hk
  obtain ⟨hs1, hs2⟩ := hS k
  have hsl := hs1.1
  have w3 := next_i64 (k := k) (by omega)
  simp only [go_sem, Nat.reduceEqDiff, Nat.reduceAdd, Nat.reduceLT, ↓reduceIte]
  by_cases h4 : k < 4
  · refine ⟨fun h => ?_, fun h => absurd (by exact_mod_cast h4) h⟩
    have hka := get_D (l := a) (k := k) (by omega)
    have hkb := get_D (l := b) (k := k) (by omega)
    have hsn : S (k + 1) = stpA A a b k (S k) := by rw [← hSS]; rfl
    obtain ⟨h1, h2, h3⟩ := hA (gI a k, gI b k, (S k).2) ⟨Wn_getD ha, Wn_getD hb, hs2⟩
    simp only [stpA] at hsn
    generalize A (gI a k, gI b k, (S k).2) = y at *
    have hk4 : (k : Int) < 4 := by omega
    apply draw3 (0 :: 1 :: 2 :: 3 :: 4 :: 5 :: 6 :: 7 :: []) (8 :: 11 :: 13 :: 14 :: []) (0 :: 1 :: 2 :: 3 :: 4 :: 5 :: 6 :: 7 :: 9 :: 10 :: 12 :: []) (.step 8 (9 :: 10 :: 12 :: []) true (.alt (.step 11 ([]) true (.step 13 ([]) false (.step 14 ([]) false .done))) (.step 13 ([]) false (.step 11 ([]) false (.step 14 ([]) false .done))))) ⟨[(2, .ptr 0 0 0 1), (3, .ptr 32 0 0 1), (4, .ptr 64 0 0 1), (6, .ptr 128 0 0 1), (7, .d (.int .u64 y.2)), (9, .d (.int .i64 (k : Int)))], [(128, ⟨69, 4, [cI ((S k).1.set k y.1)]⟩), (64, ⟨69, 4, [cI zI]⟩), (32, ⟨69, 4, [cI b]⟩), (0, ⟨69, 4, [cI a]⟩)], 9000⟩ (k := 15) (by kernel_rfl) (by kernel_rfl) rfl
    case hz => repeat (first | exact Its.nil | apply Its.plain rfl | apply Its.guard rfl rfl)
    case hj => repeat (first | exact Tts.done | exact Its.nil | apply Tts.alt | apply Its.plain rfl | apply Its.guard rfl rfl | apply Tts.plain rfl | apply Tts.guard rfl rfl)
    case h3 =>
      intro G hG
      have hW : ∀ fr : Fr, (fv 2 fr = .ptr 0 0 0 1 ∧ fv 3 fr = .ptr 32 0 0 1 ∧ fv 4 fr = .ptr 64 0 0 1 ∧ fv 6 fr = .ptr 128 0 0 1 ∧ fv 7 fr = .d (.int .u64 y.2) ∧ fv 9 fr = .d (.int .i64 (k : Int))) → G fr [(128, ⟨69, 4, [cI ((S k).1.set k y.1)]⟩), (64, ⟨69, 4, [cI zI]⟩), (32, ⟨69, 4, [cI b]⟩), (0, ⟨69, 4, [cI a]⟩)] := by
        rintro fr ⟨e2, e3, e4, e6, e7, e9⟩
        refine hG _ _ (weak_wk ?_)
        simp only [Weak, slotOk]
        refine ⟨fun p hp => ?_, fun p hp => ?_, by simp⟩
        · simp only [List.mem_cons, List.mem_nil_iff, or_false] at hp
          rcases hp with rfl | rfl | rfl | rfl | rfl | rfl
          · exact ⟨.inl e2.symm, by simp [AV.low, AV.low1]⟩
          · exact ⟨.inl e3.symm, by simp [AV.low, AV.low1]⟩
          · exact ⟨.inl e4.symm, by simp [AV.low, AV.low1]⟩
          · exact ⟨.inl e6.symm, by simp [AV.low, AV.low1]⟩
          · exact ⟨.inl e7.symm, by simp [AV.low, AV.low1]⟩
          · exact ⟨.inl e9.symm, by simp [AV.low, AV.low1]⟩
        · simp only [List.mem_cons, List.mem_nil_iff, or_false] at hp
          rcases hp with rfl | rfl | rfl | rfl <;> exact ⟨.inl rfl, by simp, by intro r hr; simp only [List.mem_cons, List.mem_nil_iff, or_false] at hr; subst hr; exact cI_low _ _⟩
      simp [go_sem, hka, hkb, hal, hbl, hsl, SaW, hk4]
      refine cl_ext h3 ?_
      simp [go_sem, hka, hkb, hal, hbl, hsl, cI_set, SaW, hk4]
      and_intros <;> first | exact h4 | exact hW _ ⟨rfl, rfl, rfl, rfl, rfl, rfl⟩ | (refine hW _ ?_; simp [fv, lk])
    case hq =>
      simp [go_sem, w3]
      refine next_of (k + 1) (by omega) (by omega) ?_
      rw [hsn]
      simp [Weak, slotOk, fv, lk, AV.low, AV.low1]
      and_intros <;> exact cI_low _ _
  · refine ⟨fun h => absurd (by exact_mod_cast h) h4, fun h => ?_⟩
    have hk4 : k = 4 := by omega
    subst hk4
    simp [go_sem, hsl, cI_take hsl, cI_drop (l := zI) (n := 4) rfl, resV]
    exact post_wc rfl

theorem addF : ∃ A : Int × Int × Int → Int × Int, ∀ x, (R64 x.1 ∧ R64 x.2.1 ∧ C1 x.2.2) → R64 (A x).1 ∧ C1 (A x).2 ∧ ExtOk Try.prog 81 [.d (.int .u64 x.1), .d (.int .u64 x.2.1), .d (.int .u64 x.2.2)] (.tup [.d (.int .u64 (A x).1), .d (.int .u64 (A x).2)]) :=
  pick (α := Int × Int × Int) (β := Int × Int) (A := fun x => R64 x.1 ∧ R64 x.2.1 ∧ C1 x.2.2) (B := fun x y => R64 y.1 ∧ C1 y.2 ∧ ExtOk Try.prog 81 [.d (.int .u64 x.1), .d (.int .u64 x.2.1), .d (.int .u64 x.2.2)] (.tup [.d (.int .u64 y.1), .d (.int .u64 y.2)])) (fun x hx => by
    obtain ⟨s, d, h1, h2, h3⟩ := add64_ex x.1 x.2.1 x.2.2 hx.1 hx.2.1 hx.2.2
    exact ⟨(s, d), h1, h2, h3⟩)
theorem mulF : ∃ M : Int × Int → Int × Int, ∀ x, R64 (M x).1 ∧ R64 (M x).2 ∧ Rets Try.prog 87 [.d (.int .u64 x.1), .d (.int .u64 x.2)] (fun r => r = .tup [.d (.int .u64 (M x).1), .d (.int .u64 (M x).2)]) := by
  obtain ⟨M, hM⟩ := pick (α := Int × Int) (β := Int × Int) (A := fun _ => True) (B := fun x y => R64 y.1 ∧ R64 y.2 ∧ Rets Try.prog 87 [.d (.int .u64 x.1), .d (.int .u64 x.2)] (fun r => r = .tup [.d (.int .u64 y.1), .d (.int .u64 y.2)])) (fun x _ => by
    obtain ⟨s, d, h1, h2, h3⟩ := mul64_ex x.1 x.2
    exact ⟨(s, d), h1, h2, h3⟩)
  exact ⟨M, fun x => hM x trivial⟩

def stpS (A : Int × Int × Int → Int × Int) (M : Int × Int → Int × Int) (a : List Int) (k : Nat) (s : List Int × Int) : List Int × Int :=
  (s.1.set k (A ((M (gI a k, 4294968273)).2, s.2, 0)).1, IntKind.u64.wrap ((M (gI a k, 4294968273)).1 + (A ((M (gI a k, 4294968273)).2, s.2, 0)).2))
theorem two_i (x y : Int) : ∀ v, v ∈ [AV.d (.int .u64 x), AV.d (.int .u64 y)] → v.deep := by
  intro v hv; simp at hv; rcases hv with rfl | rfl <;> trivial
set_option maxRecDepth 20000 in
set_option maxHeartbeats 2000000 in
theorem scaled_ex (a : List Int) (ha : Wn 4 a) : ∃ (s : List Int) (c : Int), Wn 4 s ∧ R64 c ∧ Rets Try.prog 83 [.agg (cI a)] (fun r => r = .tup [.agg (cI s), .d (.int .u64 c)]) := by
  obtain ⟨A, hA⟩ := addF
  obtain ⟨M, hM⟩ := mulF
  have hS : ∀ k, Wn 4 (itr (stpS A M a) (zI, 0) k).1 ∧ R64 (itr (stpS A M a) (zI, 0) k).2 := itr_inv (P := fun _ (s : List Int × Int) => Wn 4 s.1 ∧ R64 s.2) ⟨zI_W, R64_0⟩ fun k s hs => by
    obtain ⟨h1, h2, _⟩ := hA ((M (gI a k, 4294968273)).2, s.2, 0) ⟨(hM _).2.1, hs.2, C1_0⟩
    exact ⟨Wn_set hs.1 h1, u64R _⟩
  refine ⟨(itr (stpS A M a) (zI, 0) 4).1, (itr (stpS A M a) (zI, 0) 4).2, (hS 4).1, (hS 4).2, ?_⟩
  refine fn_of_awp Try.func83 (by kernel_rfl) rfl Try.ntmps83 (rs := [.cell 2 69, .tmp 3]) rfl (Nat.le_of_ble_eq_true rfl) (one_cI a) ?_
  have hal := ha.1
  simp [go_sem, hal, cI_take hal]
  generalize hSS : itr (stpS A M a) (zI, 0) = S at *
  refine loop_of (fun k : Nat => ⟨[(1, .ptr 0 0 0 1), (2, .ptr 32 0 0 1), (4, .ptr 96 0 0 1), (5, .d (.int .u64 (S k).2)), (10, .d (.int .i64 (k : Int)))], [(96, ⟨69, 4, [cI (S k).1]⟩), (32, ⟨69, 4, [cI zI]⟩), (0, ⟨69, 4, [cI a]⟩)], 1000⟩)
    (fun k => k ≤ 4) (fun k => 4 - k) 0 (by omega) (by
      rw [← hSS]
      simp [Weak, slotOk, fv, lk, AV.low, AV.low1, itr]
      and_intros <;> first | rfl | exact cI_low _ _) ?_
  intro k hk
  obtain ⟨hs1, hs2⟩ := hS k
  have hsl := hs1.1
  have w3 := next_i64 (k := k) (by omega)
  simp only [go_sem, Nat.reduceEqDiff, Nat.reduceAdd, Nat.reduceLT, ↓reduceIte]
  by_cases h4 : k < 4
  · refine ⟨fun h => ?_, fun h => absurd (by exact_mod_cast h4) h⟩
    have hka := get_D (l := a) (k := k) (by omega)
    have hsn : S (k + 1) = stpS A M a k (S k) := by rw [← hSS]; rfl
    obtain ⟨m1, m2, m3⟩ := hM (gI a k, 4294968273)
    obtain ⟨h1, h2, h3⟩ := hA ((M (gI a k, 4294968273)).2, (S k).2, 0) ⟨m2, hs2, C1_0⟩
    simp only [stpS] at hsn
    have hk4 : (k : Int) < 4 := by omega
    simp [go_sem, hka, hal, hsl, hk4]
    refine cl_eq m3 (two_i _ _) ?_
    simp [go_sem, hka, hal, hsl, hk4]
    refine cl_ext h3 ?_
    generalize A ((M (gI a k, 4294968273)).2, (S k).2, 0) = y at *
    generalize M (gI a k, 4294968273) = z at *
    simp [go_sem, hka, hal, hsl, hk4, cI_set, w3]
    refine ⟨h4, ?_⟩
    refine next_of (k + 1) (by omega) (by omega) ?_
    rw [hsn]
    simp [Weak, slotOk, fv, lk, AV.low, AV.low1]
    and_intros <;> exact cI_low _ _
  · refine ⟨fun h => absurd (by exact_mod_cast h) h4, fun h => ?_⟩
    have hk4 : k = 4 := by omega
    subst hk4
    simp [go_sem, hsl, cI_take hsl, cI_drop (l := zI) (n := 4) rfl, resV]
    exact post_wc rfl
end Go.Proofs.Ytgeabjjgeeakdaa
