/-
  Medians: the program sorts a copy, the other text ranks each; both tell the same.
-/
import Derived.Test.YthieefhjokekmaaGreatRax
namespace Go.Sha
set_option linter.unusedSimpArgs false
/-- Two neighbours changed. -/
def swp1 (l : List Nat) (j : Nat) : List Nat := (l.set (j + 1) (l.getD j 0)).set j (l.getD (j + 1) 0)
/-- An element goes down to its place. -/
def sink (l : List Nat) : Nat → List Nat
  | 0 => l
  | j + 1 => if l.getD (j + 1) 0 < l.getD j 0 then sink (swp1 l j) j else l
def insS (l : List Nat) (i : Nat) : Nat → List Nat
  | 0 => l
  | k + 1 => insS (sink l i) (i + 1) k
def sortL (l : List Nat) : List Nat := insS l 1 (l.length - 1)

theorem swp1_len (l : List Nat) (j : Nat) : (swp1 l j).length = l.length := by simp [swp1]
theorem sink_len : ∀ (j : Nat) (l : List Nat), (sink l j).length = l.length
  | 0, l => rfl
  | j + 1, l => by
    simp only [sink]
    split
    · rw [sink_len j, swp1_len]
    · rfl
theorem insS_len : ∀ (k i : Nat) (l : List Nat), (insS l i k).length = l.length
  | 0, i, l => rfl
  | k + 1, i, l => by rw [insS, insS_len k, sink_len]
theorem getD_set (l : List Nat) (i j x : Nat) (h : i < l.length) : (l.set i x).getD j 0 = if i = j then x else l.getD j 0 := by
  rw [List.getD_eq_getElem?_getD, List.getElem?_set, List.getD_eq_getElem?_getD]
  split
  · rfl
  · rfl
theorem swp1_get (l : List Nat) (j a : Nat) (h : j + 1 < l.length) : (swp1 l j).getD a 0 = if a = j then l.getD (j + 1) 0 else if a = j + 1 then l.getD j 0 else l.getD a 0 := by
  unfold swp1
  rw [getD_set _ _ _ _ (by simp; omega), getD_set _ _ _ _ h]
  by_cases h1 : a = j
  · rw [if_pos h1.symm, if_pos h1]
  · rw [if_neg (Ne.symm h1), if_neg h1]
    by_cases h2 : a = j + 1
    · rw [if_pos h2.symm, if_pos h2]
    · rw [if_neg (Ne.symm h2), if_neg h2]
/-- In order up to place i. -/
def Ord (l : List Nat) (i : Nat) : Prop := ∀ a b, a < b → b ≤ i → l.getD a 0 ≤ l.getD b 0
theorem sink_ord : ∀ (j : Nat) (l : List Nat) (i : Nat), j ≤ i → i < l.length → (∀ a b, a < b → b ≤ i → a ≠ j → b ≠ j → l.getD a 0 ≤ l.getD b 0) → (∀ b, j < b → b ≤ i → l.getD j 0 ≤ l.getD b 0) → Ord (sink l j) i
  | 0, l, i, hji, hi, h1, h2 => fun a b hab hb => by
    by_cases ha : a = 0
    · subst ha; exact h2 b hab hb
    · exact h1 a b hab hb ha (by omega)
  | j + 1, l, i, hji, hi, h1, h2 => by
    simp only [sink]
    split
    · rename_i hlt
      have hj1 : j + 1 < l.length := by omega
      refine sink_ord j (swp1 l j) i (by omega) (by rw [swp1_len]; exact hi) (fun a b hab hb ha hbj => ?_) (fun b hjb hb => ?_)
      · rw [swp1_get l j a hj1, swp1_get l j b hj1, if_neg ha, if_neg hbj]
        by_cases ha1 : a = j + 1
        · rw [if_pos ha1, if_neg (by omega)]
          exact h1 j b (by omega) hb (by omega) (by omega)
        · rw [if_neg ha1]
          by_cases hb1 : b = j + 1
          · rw [if_pos hb1]
            exact h1 a j (by omega) (by omega) ha1 (by omega)
          · rw [if_neg hb1]
            exact h1 a b hab hb ha1 hb1
      · rw [swp1_get l j j hj1, swp1_get l j b hj1, if_pos rfl, if_neg (by omega)]
        by_cases hb1 : b = j + 1
        · rw [if_pos hb1]; omega
        · rw [if_neg hb1]
          exact h2 b (by omega) hb
    · rename_i hge
      intro a b hab hb
      by_cases ha : a = j + 1
      · subst ha; exact h2 b hab hb
      · by_cases hb1 : b = j + 1
        · subst hb1
          by_cases haj : a = j
          · subst haj; omega
          · have := h1 a j (by omega) (by omega) ha (by omega)
            omega
        · exact h1 a b hab hb ha hb1
theorem insS_ord : ∀ (k i : Nat) (l : List Nat), 1 ≤ i → i + k = l.length → Ord l (i - 1) → Ord (insS l i k) (l.length - 1)
  | 0, i, l, h0, hk, h => by rw [insS, show l.length - 1 = i - 1 by omega]; exact h
  | k + 1, i, l, h0, hk, h => by
    rw [insS]
    have hs : Ord (sink l i) i := sink_ord i l i (Nat.le_refl _) (by omega) (fun a b hab hb ha hb1 => h a b hab (by omega)) (fun b hb1 hb => by omega)
    have := insS_ord k (i + 1) (sink l i) (by omega) (by rw [sink_len]; omega) (by rw [Nat.add_sub_cancel]; exact hs)
    rw [sink_len] at this
    exact this
theorem sortL_ord (l : List Nat) : Ord (sortL l) (l.length - 1) := by
  unfold sortL
  rcases Nat.eq_zero_or_pos l.length with h | h
  · intro a b hab hb; omega
  · exact insS_ord _ 1 l (Nat.le_refl _) (by omega) (fun a b hab hb => by omega)
theorem sortL_len (l : List Nat) : (sortL l).length = l.length := insS_len _ _ _

theorem swp1_cnt (p : Nat → Bool) (l : List Nat) (j : Nat) (h : j + 1 < l.length) : (swp1 l j).countP p = l.countP p := by
  have hj : j < l.length := by omega
  have e1 : l.getD j 0 = l[j] := by rw [List.getD_eq_getElem?_getD, List.getElem?_eq_getElem hj]; rfl
  have e2 : l.getD (j + 1) 0 = l[j + 1] := by rw [List.getD_eq_getElem?_getD, List.getElem?_eq_getElem h]; rfl
  unfold swp1
  rw [e1, e2, List.countP_set (by simp; omega), List.countP_set h]
  have e3 : (l.set (j + 1) l[j])[j]'(by simp; omega) = l[j] := by rw [List.getElem_set_ne (by omega)]
  rw [e3]
  have h1 : ∀ (i : Nat) (hi : i < l.length), (if p l[i] = true then 1 else 0) ≤ l.countP p := by
    intro i hi
    split
    · rename_i hp
      exact List.countP_pos_iff.2 ⟨_, List.getElem_mem hi, hp⟩
    · omega
  have := h1 (j + 1) h
  split <;> split <;> simp_all <;> omega
theorem sink_cnt (p : Nat → Bool) : ∀ (j : Nat) (l : List Nat), j < l.length → (sink l j).countP p = l.countP p
  | 0, l, _ => rfl
  | j + 1, l, h => by
    simp only [sink]
    split
    · rw [sink_cnt p j _ (by rw [swp1_len]; omega), swp1_cnt p l j h]
    · rfl
theorem insS_cnt (p : Nat → Bool) : ∀ (k i : Nat) (l : List Nat), i + k ≤ l.length → (insS l i k).countP p = l.countP p
  | 0, i, l, _ => rfl
  | k + 1, i, l, h => by rw [insS, insS_cnt p k _ _ (by rw [sink_len]; omega), sink_cnt p i l (by omega)]
theorem sortL_cnt (p : Nat → Bool) (l : List Nat) : (sortL l).countP p = l.countP p := by
  unfold sortL
  rcases Nat.eq_zero_or_pos l.length with h | h
  · rw [show l.length - 1 = 0 by omega]; rfl
  · exact insS_cnt p _ 1 l (by omega)

/-- The place of the element at i, among equals the first ahead. -/
def rankTo (l : List Nat) (i : Nat) : Nat → Nat
  | 0 => 0
  | j + 1 => rankTo l i j + if l.getD j 0 < l.getD i 0 ∨ (l.getD j 0 = l.getD i 0 ∧ j < i) then 1 else 0
theorem rank_le (l : List Nat) (i : Nat) : ∀ j, rankTo l i j ≤ j
  | 0 => Nat.le_refl _
  | j + 1 => by
    have := rank_le l i j
    simp only [rankTo]
    split <;> omega
theorem rank_eq (l : List Nat) (i : Nat) : ∀ j, j ≤ l.length → rankTo l i j = (l.take j).countP (fun x => decide (x < l.getD i 0)) + (l.take (min i j)).countP (fun x => decide (x = l.getD i 0))
  | 0, _ => by simp [rankTo]
  | j + 1, h => by
    have hj : l[j]? = some (l.getD j 0) := by rw [List.getD_eq_getElem?_getD, List.getElem?_eq_getElem (by omega)]; rfl
    simp only [rankTo]
    rw [rank_eq l i j (by omega), List.take_add_one, hj]
    generalize l.getD j 0 = y at *
    generalize l.getD i 0 = z at *
    by_cases hij : j < i
    · have e1 : min i (j + 1) = j + 1 := by omega
      have e2 : min i j = j := by omega
      rw [e1, e2, List.take_add_one, hj]
      simp only [List.countP_append, Option.toList_some, List.countP_singleton]
      by_cases h1 : y < z
      · have h2 : ¬ y = z := by omega
        simp [h1, h2]; omega
      · by_cases h2 : y = z
        · simp [h1, h2, hij]; omega
        · simp [h1, h2]
    · have e1 : min i (j + 1) = i := by omega
      have e2 : min i j = i := by omega
      rw [e1, e2]
      simp only [List.countP_append, Option.toList_some, List.countP_singleton]
      by_cases h1 : y < z
      · simp [h1]; omega
      · simp [h1, hij]
/-- The middle one, by ranks: the first whose rank is half. -/
def medR (l : List Nat) (i : Nat) : Nat → Nat
  | 0 => 0
  | k + 1 => if rankTo l i l.length = l.length / 2 then l.getD i 0 else medR l (i + 1) k
theorem cnt_le (l : List Nat) (v : Nat) : l.countP (fun x => decide (x ≤ v)) = l.countP (fun x => decide (x < v)) + l.countP (fun x => decide (x = v)) := by
  induction l with
  | nil => rfl
  | cons y r ih =>
    simp only [List.countP_cons, ih, decide_eq_true_eq]
    by_cases h1 : y < v
    · have h2 : ¬ y = v := by omega
      have h3 : y ≤ v := by omega
      simp [h1, h2, h3]; omega
    · by_cases h2 : y = v
      · have h3 : y ≤ v := by omega
        simp [h1, h2]; omega
      · have h3 : ¬ y ≤ v := by omega
        simp [h1, h2, h3]
theorem cnt_mono (l : List Nat) {p q : Nat → Bool} (h : ∀ x, p x = true → q x = true) : l.countP p ≤ l.countP q := List.countP_mono_left fun x _ => h x
/-- What stands at place k in order. -/
theorem ord_at {s : List Nat} {k : Nat} (h : Ord s (s.length - 1)) (hk : k < s.length) : s.countP (fun x => decide (x < s.getD k 0)) ≤ k ∧ k < s.countP (fun x => decide (x ≤ s.getD k 0)) := by
  have hs : s = s.take k ++ s.drop k := (List.take_append_drop k s).symm
  have hs1 : s = s.take (k + 1) ++ s.drop (k + 1) := (List.take_append_drop (k + 1) s).symm
  generalize hv : s.getD k 0 = v
  have g : ∀ i, i < s.length → ∀ y, s[i]? = some y → s.getD i 0 = y := fun i hi y hy => by rw [List.getD_eq_getElem?_getD, hy]; rfl
  constructor
  · have e : s.countP (fun x => decide (x < v)) = (s.take k).countP (fun x => decide (x < v)) + (s.drop k).countP (fun x => decide (x < v)) := by
      rw [← List.countP_append, List.take_append_drop]
    have h0 : (s.drop k).countP (fun x => decide (x < v)) = 0 := by
      rw [List.countP_eq_zero]
      intro y hy
      obtain ⟨i, hi⟩ := List.getElem?_of_mem hy
      rw [List.getElem?_drop] at hi
      have hil := (List.getElem?_eq_some_iff.1 hi).1
      have hy2 := g _ hil y hi
      have : v ≤ y := by
        rw [← hv, ← hy2]
        rcases Nat.eq_zero_or_pos i with h0 | h0
        · subst h0; exact Nat.le_refl _
        · exact h k (k + i) (by omega) (by omega)
      simp; omega
    have h1 : (s.take k).countP (fun x => decide (x < v)) ≤ (s.take k).length := List.countP_le_length
    rw [List.length_take] at h1
    omega
  · have e : s.countP (fun x => decide (x ≤ v)) = (s.take (k + 1)).countP (fun x => decide (x ≤ v)) + (s.drop (k + 1)).countP (fun x => decide (x ≤ v)) := by
      rw [← List.countP_append, List.take_append_drop]
    have h1 : (s.take (k + 1)).countP (fun x => decide (x ≤ v)) = (s.take (k + 1)).length := by
      rw [List.countP_eq_length]
      intro y hy
      obtain ⟨i, hi⟩ := List.getElem?_of_mem hy
      have hil := (List.getElem?_eq_some_iff.1 hi).1
      rw [List.length_take] at hil
      rw [List.getElem?_take, if_pos (by omega)] at hi
      have hy2 := g i (by omega) y hi
      have : y ≤ v := by
        rw [← hv, ← hy2]
        rcases Nat.lt_or_ge i k with h0 | h0
        · exact h i k h0 (by omega)
        · rw [show i = k by omega]; exact Nat.le_refl _
      simpa using this
    rw [List.length_take] at h1
    omega
theorem nth_of (v : Nat) : ∀ (l : List Nat) (m : Nat), m < l.countP (fun x => decide (x = v)) → ∃ i, i < l.length ∧ l.getD i 0 = v ∧ (l.take i).countP (fun x => decide (x = v)) = m
  | [], m, h => by simp at h
  | y :: r, m, h => by
    by_cases hy : y = v
    · cases m with
      | zero => exact ⟨0, by simp, by simpa using hy, by simp⟩
      | succ m =>
        obtain ⟨i, h1, h2, h3⟩ := nth_of v r m (by simp [List.countP_cons, hy] at h; omega)
        exact ⟨i + 1, by simp; omega, by simpa using h2, by simp [List.countP_cons, hy, h3]⟩
    · obtain ⟨i, h1, h2, h3⟩ := nth_of v r m (by simpa [List.countP_cons, hy] using h)
      exact ⟨i + 1, by simp; omega, by simpa using h2, by simp [List.countP_cons, hy, h3]⟩
theorem rank_val {l : List Nat} {i v k : Nat} (hi : i < l.length) (hr : rankTo l i l.length = k) (h1 : l.countP (fun x => decide (x < v)) ≤ k) (h2 : k < l.countP (fun x => decide (x ≤ v))) : l.getD i 0 = v := by
  rw [rank_eq l i _ (Nat.le_refl _), List.take_length, show min i l.length = i by omega] at hr
  have hc := cnt_le l (l.getD i 0)
  have hlt : (l.take i).countP (fun x => decide (x = l.getD i 0)) < l.countP (fun x => decide (x = l.getD i 0)) := by
    have e : l.countP (fun x => decide (x = l.getD i 0)) = (l.take i).countP (fun x => decide (x = l.getD i 0)) + (l.drop i).countP (fun x => decide (x = l.getD i 0)) := by
      rw [← List.countP_append, List.take_append_drop]
    have : 0 < (l.drop i).countP (fun x => decide (x = l.getD i 0)) := by
      refine List.countP_pos_iff.2 ⟨l.getD i 0, ?_, by simp⟩
      rw [List.drop_eq_getElem_cons hi, List.getD_eq_getElem?_getD, List.getElem?_eq_getElem hi]
      exact List.mem_cons_self ..
    omega
  generalize l.getD i 0 = x at *
  rcases Nat.lt_trichotomy x v with h | h | h
  · have := cnt_mono l (p := fun y => decide (y ≤ x)) (q := fun y => decide (y < v)) (fun y hy => by simp at hy ⊢; omega)
    omega
  · exact h
  · have := cnt_mono l (p := fun y => decide (y ≤ v)) (q := fun y => decide (y < x)) (fun y hy => by simp at hy ⊢; omega)
    omega
theorem medR_find {l : List Nat} {v : Nat} : ∀ (k i j : Nat), i + k = l.length → i ≤ j → j < l.length → rankTo l j l.length = l.length / 2 → (∀ i, i < l.length → rankTo l i l.length = l.length / 2 → l.getD i 0 = v) → medR l i k = v
  | 0, i, j, h, h1, h2, _, _ => by omega
  | k + 1, i, j, h, h1, h2, hr, hv => by
    simp only [medR]
    split
    · rename_i hq
      exact hv i (by omega) hq
    · rename_i hq
      exact medR_find k (i + 1) j (by omega) (by
        rcases Nat.eq_or_lt_of_le h1 with rfl | h1
        · exact absurd hr hq
        · exact h1) h2 hr hv
theorem medR_eq {l : List Nat} (h : 0 < l.length) : medR l 0 l.length = (sortL l).getD (l.length / 2) 0 := by
  have hk : l.length / 2 < l.length := by omega
  obtain ⟨q1, q2⟩ := ord_at (s := sortL l) (k := l.length / 2) (by rw [sortL_len]; exact sortL_ord l) (by rw [sortL_len]; exact hk)
  generalize (sortL l).getD (l.length / 2) 0 = v at *
  rw [sortL_cnt] at q1 q2
  rw [cnt_le] at q2
  obtain ⟨i, h1, h2, h3⟩ := nth_of v l (l.length / 2 - l.countP (fun x => decide (x < v))) (by omega)
  refine medR_find l.length 0 i (by omega) (by omega) h1 ?_ (fun i hi hr => rank_val hi hr q1 (by rw [cnt_le]; exact q2))
  rw [rank_eq l i _ (Nat.le_refl _), List.take_length, show min i l.length = i by omega, h2, h3]
  omega
end Go.Sha
namespace Go.Proofs.YthieefhjokekmaaGreat
open Go.Am Go.Sha
set_option linter.unusedSimpArgs false
set_option linter.unusedVariables false

theorem isNaN_fn (x : Nat) : Rets Tryz.prog 270 [.d (.int .u32 (x : Int))] (fun r => r = .d (.bool false)) := by
  refine fn_of_awp Tryz.func270 (by kernel_rfl) rfl Tryz.ntmps270 (rs := [.tmp 2]) rfl (Nat.le_of_ble_eq_true rfl) (by simp [AV.deep, AV.deep1]) ?_
  simp [go_sem]
  exact post_same (by simp [AV.deep, AV.deep1]) rfl
theorem less_fn (x y : Nat) : Rets Tryz.prog 239 [.d (.int .u32 (x : Int)), .d (.int .u32 (y : Int))] (fun r => r = .d (.bool (decide (x < y)))) := by
  refine fn_of_awp Tryz.func239 (by kernel_rfl) rfl Tryz.ntmps239 (rs := [.tmp 4]) rfl (Nat.le_of_ble_eq_true rfl) (by simp [AV.deep, AV.deep1]) ?_
  simp [go_sem]
  refine cl_eq (isNaN_fn x) (by simp [AV.deep, AV.deep1]) ?_
  simp [go_sem]
  exact post_same (by simp [AV.deep, AV.deep1]) rfl

theorem rw4_at (l : List Nat) (i : Nat) (h : i < l.length) : (rw4 l)[i]? = some [.d (.int .u32 ((l.getD i 0 : Nat) : Int))] := by
  rw [rw4_get, List.getD_eq_getElem?_getD, List.getElem?_eq_getElem h]; rfl

set_option maxHeartbeats 4000000 in
theorem insort_fn (l : List Nat) (n : Nat) (hn : l.length = n) (h12 : n ≤ 1000) :
    RetsE Tryz.prog 233 1 [(0, ⟨22, 1, rw4 l⟩)] [.own 0 0 n n, .d (.int .i64 0), .d (.int .i64 (n : Int))] (fun r hp' => r = .tup [] ∧ lk 0 hp' = some ⟨22, 1, rw4 (sortL l)⟩) := by
  refine fnE_of_awp Tryz.func233 (by kernel_rfl) rfl Tryz.ntmps233 (rs := []) rfl (Nat.le_of_ble_eq_true rfl) (by decide) ?_
  have w0 : IntKind.i64.wrap 1 = 1 := by decide
  generalize hS : sortL l = S
  simp [go_sem, w0]
  refine loop_of (fun u : List Nat × Nat => ⟨[(0, .own 0 0 n n), (1, .d (.int .i64 0)), (2, .d (.int .i64 (n : Int))), (6, .d (.int .i64 (u.2 : Int)))], [(0, ⟨22, 1, rw4 u.1⟩)], 2000⟩)
    (fun u => u.1.length = n ∧ 1 ≤ u.2 ∧ u.2 ≤ n + 1 ∧ insS u.1 u.2 (n - u.2) = S) (fun u => n + 1 - u.2) (l, 1) ⟨hn, by simp, by simp, by simp only; rw [← hS, ← hn]; rfl⟩ (by
      simp [Weak, slotOk, fv, lk, AV.low, AV.low1]
      exact rw4_low _ _) ?_
  rintro ⟨L, i⟩ ⟨hL, hi1, hi2, hI⟩
  simp only at hL hi1 hi2 hI
  simp only [go_sem, Nat.reduceEqDiff, Nat.reduceAdd, Nat.reduceLT, ↓reduceIte, Nat.reduceMul]
  refine ⟨fun h => ?_, fun h => ?_⟩
  · have hin : i < n := by omega
    have hIs : insS (sink L i) (i + 1) (n - (i + 1)) = S := by
      rw [← hI, show n - i = (n - (i + 1)) + 1 by omega]; rfl
    refine loop_of (fun u : List Nat × Nat => ⟨[(0, .own 0 0 n n), (1, .d (.int .i64 0)), (2, .d (.int .i64 (n : Int))), (6, .d (.int .i64 (i : Int))), (7, .d (.int .i64 (u.2 : Int)))], [(0, ⟨22, 1, rw4 u.1⟩)], 4000⟩)
      (fun u => u.1.length = n ∧ u.2 ≤ i ∧ sink u.1 u.2 = sink L i) (fun u => u.2) (L, i) ⟨hL, Nat.le_refl _, rfl⟩ (by
        simp [Weak, slotOk, fv, lk, AV.low, AV.low1]
        exact rw4_low _ _) ?_
    rintro ⟨A, j⟩ ⟨hA, hj, hs⟩
    simp only at hA hj hs
    have w3 := next_i64 (k := i) (by omega)
    cases j with
    | zero =>
      simp [go_sem]
      apply draw2 (0 :: 1 :: 2 :: 3 :: 4 :: 5 :: 6 :: 7 :: 8 :: 9 :: 10 :: 11 :: 12 :: []) ((13, (14 :: [])) :: []) 1 (k := 15) (by kernel_rfl) (by kernel_rfl) rfl
      case hz => repeat (first | exact Its.nil | apply Its.plain rfl | apply Its.guard rfl rfl)
      case hj => repeat (first | exact Jts.nil | exact Its.nil | apply Its.plain rfl | apply Its.guard rfl rfl | apply Jts.plain rfl | apply Jts.guard rfl rfl)
      intro G hG
      simp [go_sem]
      refine hG _ _ ?_
      clear hG G
      have hsA : A = sink L i := hs
      subst hsA
      simp [go_sem, w3]
      refine next_of (sink L i, i + 1) ⟨by simp only; rw [sink_len]; exact hL, by simp only; omega, by simp only; omega, hIs⟩ (by simp only; omega) ?_
      simp [Weak, slotOk, fv, lk, AV.low, AV.low1]
      exact rw4_low _ _
    | succ m =>
      have wm : IntKind.i64.wrap (m : Int) = (m : Int) := IntWalk.i64_in _ (by omega)
      have a1 := rw4_at A (m + 1) (by omega)
      have a2 := rw4_at A m (by omega)
      have hrl := rw4_len A
      have hsink : sink A (m + 1) = if A.getD (m + 1) 0 < A.getD m 0 then sink (swp1 A m) m else A := rfl
      have hsw : (rw4 A).set (m + 1) [.d (.int .u32 ((A.getD m 0 : Nat) : Int))] = rw4 (A.set (m + 1) (A.getD m 0)) := rw4_set _ _ _
      have hsw2 : (rw4 (A.set (m + 1) (A.getD m 0))).set m [.d (.int .u32 ((A.getD (m + 1) 0 : Nat) : Int))] = rw4 (swp1 A m) := rw4_set _ _ _
      have hswl : (A.set (m + 1) (A.getD m 0)).length = n := by rw [List.length_set]; exact hA
      have a3 : (rw4 (A.set (m + 1) (A.getD m 0)))[m]? = some [AV.d (.int .u32 ((A.getD m 0 : Nat) : Int))] := by
        rw [rw4_at _ m (by omega), getD_set _ _ _ _ (by omega), if_neg (by omega)]
      have hsl : (swp1 A m).length = n := by rw [swp1_len]; exact hA
      generalize A.getD (m + 1) 0 = x at *
      generalize A.getD m 0 = y at *
      generalize swp1 A m = A2 at *
      generalize A.set (m + 1) y = A1 at *
      have hrl1 := rw4_len A1
      simp [go_sem]
      apply draw2 (0 :: 1 :: 2 :: 3 :: 4 :: 5 :: 6 :: 7 :: 8 :: 9 :: 10 :: 11 :: 12 :: []) ((13, (14 :: [])) :: []) 1 (k := 15) (by kernel_rfl) (by kernel_rfl) rfl
      case hz => repeat (first | exact Its.nil | apply Its.plain rfl | apply Its.guard rfl rfl)
      case hj => repeat (first | exact Jts.nil | exact Its.nil | apply Its.plain rfl | apply Its.guard rfl rfl | apply Jts.plain rfl | apply Jts.guard rfl rfl)
      intro G hG
      simp [go_sem, wm, hrl, hA, a1, a2]
      refine ⟨by omega, by omega, by omega, ?_⟩
      refine cl_eq (less_fn x y) (by simp [AV.deep, AV.deep1]) ?_
      by_cases hxy : x < y
      · rw [if_pos hxy] at hsink
        simp [go_sem, hxy]
        refine hG _ _ ?_
        clear hG G
        simp [go_sem]
        apply draw3 (0 :: 1 :: 5 :: 6 :: 7 :: 8 :: 9 :: 10 :: 11 :: 12 :: 13 :: 14 :: []) (2 :: 3 :: 4 :: 15 :: 16 :: 17 :: []) (0 :: 1 :: 5 :: 6 :: 7 :: 8 :: 9 :: 10 :: 11 :: 12 :: 13 :: 14 :: []) (.alt (.step 2 ([]) true (.alt (.step 3 ([]) true (.alt (.step 4 ([]) true (.step 15 ([]) false (.step 16 ([]) false (.step 17 ([]) false .done)))) (.step 15 ([]) false (.step 4 ([]) false (.step 16 ([]) false (.step 17 ([]) false .done)))))) (.step 15 ([]) false (.step 3 ([]) false (.step 4 ([]) false (.step 16 ([]) false (.step 17 ([]) false .done))))))) (.alt (.step 3 ([]) true (.alt (.step 2 ([]) true (.alt (.step 4 ([]) true (.step 15 ([]) false (.step 16 ([]) false (.step 17 ([]) false .done)))) (.step 15 ([]) false (.step 4 ([]) false (.step 16 ([]) false (.step 17 ([]) false .done)))))) (.alt (.step 4 ([]) true (.alt (.step 2 ([]) true (.step 15 ([]) false (.step 16 ([]) false (.step 17 ([]) false .done)))) (.step 15 ([]) false (.step 2 ([]) false (.step 16 ([]) false (.step 17 ([]) false .done)))))) (.step 15 ([]) false (.alt (.step 2 ([]) false (.step 4 ([]) false (.step 16 ([]) false (.step 17 ([]) false .done)))) (.step 4 ([]) false (.step 2 ([]) false (.step 16 ([]) false (.step 17 ([]) false .done))))))))) (.step 15 ([]) false (.alt (.step 2 ([]) false (.step 3 ([]) false (.step 4 ([]) false (.step 16 ([]) false (.step 17 ([]) false .done))))) (.step 3 ([]) false (.alt (.step 2 ([]) false (.step 4 ([]) false (.step 16 ([]) false (.step 17 ([]) false .done)))) (.step 4 ([]) false (.step 2 ([]) false (.step 16 ([]) false (.step 17 ([]) false .done)))))))))) ⟨[(0, .own 0 0 n n), (1, .d (.int .i64 0)), (2, .d (.int .i64 (n : Int))), (6, .d (.int .i64 (i : Int))), (7, .d (.int .i64 ((m : Int) + 1)))], [(0, ⟨22, 1, rw4 A2⟩)], 9000⟩ (k := 18) (by kernel_rfl) (by kernel_rfl) rfl
        case hz => repeat (first | exact Its.nil | apply Its.plain rfl | apply Its.guard rfl rfl)
        case hj => repeat (first | exact Tts.done | exact Its.nil | apply Tts.alt | apply Its.plain rfl | apply Its.guard rfl rfl | apply Tts.plain rfl | apply Tts.guard rfl rfl)
        case h3 =>
          intro G hG
          simp (maxSteps := 3000000) [go_sem, wm, hrl, hA, a1, a2, hsw, hrl1, hswl, a3, hsw2, SaW]
          have hW : ∀ fr : Fr, fv 0 fr = .own 0 0 n n → fv 1 fr = .d (.int .i64 0) → fv 2 fr = .d (.int .i64 (n : Int)) → fv 6 fr = .d (.int .i64 (i : Int)) → fv 7 fr = .d (.int .i64 ((m : Int) + 1)) → G fr [(0, ⟨22, 1, rw4 A2⟩)] := by
            intro fr e0 e1 e2 e6 e7
            refine hG _ _ (weak_wk ?_)
            simp only [Weak, slotOk]
            refine ⟨fun p hp => ?_, fun p hp => ?_, by simp⟩
            · simp only [List.mem_cons, List.mem_nil_iff, or_false] at hp
              rcases hp with rfl | rfl | rfl | rfl | rfl
              · exact ⟨.inl e0.symm, by simp [AV.low, AV.low1]⟩
              · exact ⟨.inl e1.symm, by simp [AV.low, AV.low1]⟩
              · exact ⟨.inl e2.symm, by simp [AV.low, AV.low1]⟩
              · exact ⟨.inl e6.symm, by simp [AV.low, AV.low1]⟩
              · exact ⟨.inl e7.symm, by simp [AV.low, AV.low1]⟩
            · simp only [List.mem_cons, List.mem_nil_iff, or_false] at hp
              subst hp
              exact ⟨.inl rfl, by simp, rw4_low _ _⟩
          have hm1 : m < n := by omega
          have hm2 : (0 : Int) ≤ (m : Int) + 1 := by omega
          have hm3 : (m : Int) + 1 < (n : Int) := by omega
          refine ⟨hm1, hm2, hm3, hm2, hm3, ?_⟩
          repeat' apply And.intro
          all_goals first | exact hm1 | exact hW _ rfl rfl rfl rfl rfl
        case hq =>
          simp [go_sem, wm]
          refine next_of (A2, m) ⟨by simp only; exact hsl, by simp only; omega, by simp only; rw [← hs, hsink]⟩ (by simp only; omega) ?_
          simp [Weak, slotOk, fv, lk, AV.low, AV.low1]
          exact rw4_low _ _
      · rw [if_neg hxy] at hsink
        simp [go_sem, hxy]
        refine hG _ _ ?_
        clear hG G
        have hsA : A = sink L i := by rw [← hs, hsink]
        subst hsA
        simp [go_sem, w3]
        refine next_of (sink L i, i + 1) ⟨by simp only; rw [sink_len]; exact hL, by simp only; omega, by simp only; omega, hIs⟩ (by simp only; omega) ?_
        simp [Weak, slotOk, fv, lk, AV.low, AV.low1]
        exact rw4_low _ _
  · have hS2 : L = S := by
      rw [show n - i = 0 by omega] at hI
      exact hI
    subst hS2
    simp [go_sem, resV]
end Go.Proofs.YthieefhjokekmaaGreat
