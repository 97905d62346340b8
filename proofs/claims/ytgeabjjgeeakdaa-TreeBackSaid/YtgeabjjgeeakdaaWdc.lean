/-
  Products of numbers of 256 bits.
-/
import Derived.Test.YtgeabjjgeeakdaaWdb
namespace Go.Proofs.Ytgeabjjgeeakdaa
open Go.Am Go.Sha
set_option linter.unusedSimpArgs false
set_option linter.unusedVariables false

def zI8 : List Int := [0, 0, 0, 0, 0, 0, 0, 0]
theorem zI8_W : Wn 8 zI8 := Wn_z 8
theorem zz8I : tzO Try.prog 127 = some (cI zI8) := by kernel_rfl
attribute [go_sem] zz8I
theorem zI8_len : zI8.length = 8 := rfl
attribute [go_sem] zI8_len
def pl (i k : Nat) : Nat := i + k
def stpP (A : Int × Int × Int → Int × Int) (M : Int × Int → Int × Int) (a b : List Int) (i k : Nat) (s : List Int × Int) : List Int × Int :=
  (s.1.set (pl i k) (A ((A ((M (gI a i, gI b k)).2, gI s.1 (pl i k), 0)).1, s.2, 0)).1, IntKind.u64.wrap (IntKind.u64.wrap ((M (gI a i, gI b k)).1 + (A ((M (gI a i, gI b k)).2, gI s.1 (pl i k), 0)).2) + (A ((A ((M (gI a i, gI b k)).2, gI s.1 (pl i k), 0)).1, s.2, 0)).2))
def stpQ (A : Int × Int × Int → Int × Int) (M : Int × Int → Int × Int) (a b : List Int) (i : Nat) (p : List Int) : List Int :=
  (itr (stpP A M a b i) (p, 0) 4).1.set (pl i 4) (itr (stpP A M a b i) (p, 0) 4).2
set_option maxRecDepth 20000 in
set_option maxHeartbeats 4000000 in
theorem product_ex (a b : List Int) (ha : Wn 4 a) (hb : Wn 4 b) : ∃ (s : List Int), Wn 8 s ∧ Rets Try.prog 86 [.agg (cI a), .agg (cI b)] (fun r => r = .agg (cI s)) := by
  obtain ⟨A, hA⟩ := addF
  obtain ⟨M, hM⟩ := mulF
  have hI : ∀ i p, Wn 8 p → ∀ k, Wn 8 (itr (stpP A M a b i) (p, 0) k).1 ∧ R64 (itr (stpP A M a b i) (p, 0) k).2 := fun i p hp => itr_inv (P := fun _ (s : List Int × Int) => Wn 8 s.1 ∧ R64 s.2) ⟨hp, R64_0⟩ fun k s hs => by
    obtain ⟨h1, h2, _⟩ := hA ((M (gI a i, gI b k)).2, gI s.1 (pl i k), 0) ⟨(hM _).2.1, Wn_getD hs.1, C1_0⟩
    obtain ⟨h3, h4, _⟩ := hA ((A ((M (gI a i, gI b k)).2, gI s.1 (pl i k), 0)).1, s.2, 0) ⟨h1, hs.2, C1_0⟩
    exact ⟨Wn_set hs.1 h3, u64R _⟩
  have hS : ∀ i, Wn 8 (itr (stpQ A M a b) zI8 i) := itr_inv (P := fun _ (s : List Int) => Wn 8 s) zI8_W fun i s hs => Wn_set (hI i s hs 4).1 (hI i s hs 4).2
  refine ⟨itr (stpQ A M a b) zI8 4, hS 4, ?_⟩
  refine fn_of_awp Try.func86 (by kernel_rfl) rfl Try.ntmps86 (rs := [.cell 4 127]) rfl (Nat.le_of_ble_eq_true rfl) (two_cI a b) ?_
  have hal := ha.1
  have hbl := hb.1
  simp [go_sem, hal, hbl, cI_take hal, cI_take hbl]
  generalize hSS : itr (stpQ A M a b) zI8 = S at *
  refine loop_of (fun i : Nat => ⟨[(2, .ptr 0 0 0 1), (3, .ptr 32 0 0 1), (4, .ptr 64 0 0 1), (5, .ptr 96 0 0 1), (12, .d (.int .i64 (i : Int)))], [(96, ⟨127, 8, [cI (S i)]⟩), (64, ⟨127, 8, [cI zI8]⟩), (32, ⟨69, 4, [cI b]⟩), (0, ⟨69, 4, [cI a]⟩)], 1000⟩)
    (fun k => k ≤ 4) (fun k => 4 - k) 0 (by omega) (by
      rw [← hSS]
      simp [Weak, slotOk, fv, lk, AV.low, AV.low1, itr]
      and_intros <;> first | rfl | exact cI_low _ _) ?_
  intro i hi
  have hs1 := hS i
  have w3 := next_i64 (k := i) (by omega)
  simp only [go_sem, Nat.reduceEqDiff, Nat.reduceAdd, Nat.reduceLT, ↓reduceIte]
  by_cases h4 : i < 4
  · refine ⟨fun h => ?_, fun h => absurd (by exact_mod_cast h4) h⟩
    have hka := get_D (l := a) (k := i) (by omega)
    have hi4 : (i : Int) < 4 := by omega
    have hsn : S (i + 1) = stpQ A M a b i (S i) := by rw [← hSS]; rfl
    have hIi := hI i (S i) hs1
    unfold stpQ at hsn
    generalize hTT : itr (stpP A M a b i) (S i, 0) = T at *
    have hT0 : T 0 = (S i, 0) := by rw [← hTT]; rfl
    refine loop_of (fun k : Nat => ⟨[(2, .ptr 0 0 0 1), (3, .ptr 32 0 0 1), (4, .ptr 64 0 0 1), (5, .ptr 96 0 0 1), (12, .d (.int .i64 (i : Int))), (6, .d (.int .i64 (i : Int))), (7, .d (.int .u64 (T k).2)), (15, .d (.int .i64 (k : Int)))], [(96, ⟨127, 8, [cI (T k).1]⟩), (64, ⟨127, 8, [cI zI8]⟩), (32, ⟨69, 4, [cI b]⟩), (0, ⟨69, 4, [cI a]⟩)], 2000⟩)
      (fun k => k ≤ 4) (fun k => 4 - k) 0 (by omega) (by
        rw [hT0]
        simp [Weak, slotOk, fv, lk, AV.low, AV.low1]
        and_intros <;> first | rfl | exact cI_low _ _) ?_
    intro k hk
    obtain ⟨ht1, ht2⟩ := hIi k
    have htl := ht1.1
    have w4 := next_i64 (k := k) (by omega)
    have hpl : pl i k = i + k := rfl
    have hp4 : pl i 4 = i + 4 := rfl
    have w5 : IntKind.i64.wrap ((i : Int) + (k : Int)) = (pl i k : Int) := by rw [hpl, IntWalk.i64_in _ (by omega)]; omega
    have w6 : IntKind.i64.wrap ((i : Int) + 4) = (pl i 4 : Int) := by rw [hp4, IntWalk.i64_in _ (by omega)]; omega
    simp only [go_sem, Nat.reduceEqDiff, Nat.reduceAdd, Nat.reduceLT, ↓reduceIte]
    by_cases h5 : k < 4
    · refine ⟨fun h => ?_, fun h => absurd (by exact_mod_cast h5) h⟩
      have hkb := get_D (l := b) (k := k) (by omega)
      have hkt := get_D (l := (T k).1) (k := pl i k) (by omega)
      have hk4 : (k : Int) < 4 := by omega
      have hik : (pl i k : Int) < 8 := by omega
      have hikn : pl i k < 8 := by omega
      have htn : T (k + 1) = stpP A M a b i k (T k) := by rw [← hTT]; rfl
      obtain ⟨m1, m2, m3⟩ := hM (gI a i, gI b k)
      obtain ⟨h1, h2, h3⟩ := hA ((M (gI a i, gI b k)).2, gI (T k).1 (pl i k), 0) ⟨m2, Wn_getD ht1, C1_0⟩
      obtain ⟨q1, q2, q3⟩ := hA ((A ((M (gI a i, gI b k)).2, gI (T k).1 (pl i k), 0)).1, (T k).2, 0) ⟨h1, ht2, C1_0⟩
      unfold stpP at htn
      generalize A ((A ((M (gI a i, gI b k)).2, gI (T k).1 (pl i k), 0)).1, (T k).2, 0) = y2 at *
      generalize A ((M (gI a i, gI b k)).2, gI (T k).1 (pl i k), 0) = y at *
      generalize M (gI a i, gI b k) = z at *
      apply draw2 (0 :: 1 :: 2 :: 3 :: 4 :: 5 :: []) ((6, (7 :: 8 :: 9 :: 10 :: 11 :: [])) :: []) 1 (k := 12) (by kernel_rfl) (by kernel_rfl) rfl
      case hz => repeat (first | exact Its.nil | apply Its.plain rfl | apply Its.guard rfl rfl)
      case hj => repeat (first | exact Jts.nil | exact Its.nil | apply Its.plain rfl | apply Its.guard rfl rfl | apply Jts.plain rfl | apply Jts.guard rfl rfl)
      intro G hG
      simp [go_sem, hka, hkb, hal, hbl, hi4, hk4]
      refine cl_eq m3 (two_i _ _) ?_
      simp [go_sem, hka, hkb, hal, hbl, hi4, hk4]
      refine hG _ _ ?_
      clear hG G
      simp [go_sem, hkt, htl, w5, hik]
      first | refine cl_ext h3 ?_
      simp [go_sem, hkt, htl, w5, hik]
      first | refine cl_ext q3 ?_
      simp [go_sem, hkt, htl, w5, hik, hikn, cI_set, w4]
      first | refine next_of (k + 1) (by omega) (by omega) ?_ | refine ⟨by omega, next_of (k + 1) (by omega) (by omega) ?_⟩
      rw [htn]
      simp [Weak, slotOk, fv, lk, AV.low, AV.low1]
      and_intros <;> exact cI_low _ _
    · refine ⟨fun h => absurd (by exact_mod_cast h) h5, fun h => ?_⟩
      have hk4 : k = 4 := by omega
      subst hk4
      have hi8 : (pl i 4 : Int) < 8 := by omega
      have hi8n : pl i 4 < 8 := by omega
      simp [go_sem, htl, w6, hi8, hi8n, cI_set, w3]
      first | refine next_of (i + 1) (by omega) (by omega) ?_ | refine ⟨by omega, next_of (i + 1) (by omega) (by omega) ?_⟩
      rw [hsn]
      simp [Weak, slotOk, fv, lk, AV.low, AV.low1]
      and_intros <;> exact cI_low _ _
  · refine ⟨fun h => absurd (by exact_mod_cast h) h4, fun h => ?_⟩
    have hk4 : i = 4 := by omega
    subst hk4
    have hsl := hs1.1
    simp [go_sem, hsl, cI_take hsl, cI_drop (l := zI8) (n := 8) rfl, resV]
    exact post_same (cI_deepA _) rfl
end Go.Proofs.Ytgeabjjgeeakdaa
