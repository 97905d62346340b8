/-
  Words: bytes.Clone, Push, in both texts.
-/
import Derived.Test.YtiihldilefeldaaRsf
namespace Go.Sha
/-- A word: its operation, what it pushes. -/
abbrev Wd := Nat × List Nat
def pushG (x : List Nat) : Wd := (if x.length ≤ 75 then x.length else if x.length ≤ 255 then 76 else 77, x)
def pushW (x : List Nat) : Wd :=
  match x with
  | [c] => if 1 ≤ c ∧ c ≤ 16 then (80 + c, []) else if c = 129 then (79, []) else pushG [c]
  | x => pushG x
theorem pushW_long {x : List Nat} (h : x.length ≠ 1) : pushW x = pushG x := by
  match x, h with
  | [], _ => rfl
  | [c], h => exact absurd rfl h
  | _ :: _ :: _, _ => rfl
theorem t8_lt {x : Nat} (h : x < 256) : t8 x = x := Nat.mod_eq_of_lt h
end Go.Sha
namespace Go.Proofs.Ytiihldilefeldaa
open Go.Am Go.Sha
set_option linter.unusedSimpArgs false
set_option linter.unusedVariables false

def encW (w : Wd) : List DV := [.int .u8 (w.1 : Int), nb w.2]
def wcs (w : Wd) : List AV := [.d (.int .u8 (w.1 : Int)), .d (nb w.2)]

set_option maxHeartbeats 1000000 in
theorem clone_fn (b : List Nat) (hl : b.length ≤ 100000000000) : Rets Try.prog 71 [.d (nb b)] (fun r => r = .d (nb b)) := by
  refine fn_of_awp Try.func71 (by kernel_rfl) rfl Try.ntmps71 (rs := [.tmp 2]) rfl (Nat.le_of_ble_eq_true rfl) (by simp [AV.deep, AV.deep1]) ?_
  simp only [go_sem, nb, Nat.reduceEqDiff, Nat.reduceAdd, Nat.reduceLT, ↓reduceIte]
  intro t hb
  cases t with
  | true =>
    have h0 : b = [] := List.eq_nil_of_length_eq_zero (by simpa using hb rfl)
    subst h0
    simp only [go_sem, Nat.reduceEqDiff, Nat.reduceAdd, Nat.reduceLT, ↓reduceIte]
    exact post_one (.inr ⟨_, rfl, .nil 1⟩) (by simp [AV.deep, AV.deep1]) rfl
  | false =>
    simp [go_sem, rb_of, rb_len]
    refine ⟨by omega, post_one (snap1_d (snap_full (L := b) rfl rfl trivial)) (by simp [AV.deep, AV.deep1]) rfl⟩

set_option maxHeartbeats 2000000 in
theorem push_fn (x : List Nat) (hl : x.length ≤ 60000) (hxb : bytes x) : Rets Try.prog 49 [.d (nb x)] (fun r => r = .agg (wcs (pushW x))) := by
  refine fn_of_awp Try.func49 (by kernel_rfl) rfl Try.ntmps49 (rs := [.cell 2 79]) rfl (Nat.le_of_ble_eq_true rfl) (by simp [AV.deep, AV.deep1]) ?_
  by_cases h1 : x.length = 1
  · obtain ⟨c, rfl⟩ : ∃ c, x = [c] := by
      match x, h1 with
      | [c], _ => exact ⟨c, rfl⟩
    have hc := hxb c (by simp)
    by_cases hA : 1 ≤ c ∧ c ≤ 16
    · have i1 : 1 ≤ (c : Int) := by omega
      have i2 : (c : Int) ≤ 16 := by omega
      have hP : pushW [c] = (80 + c, []) := if_pos hA
      have w : IntKind.u8.wrap (80 + (c : Int)) = ((80 + c : Nat) : Int) := by rw [u8w]; omega
      rw [hP]
      simp [go_sem, nb, i1, i2, w, resV]
      exact post_agg (snap1_cons (snap1_same trivial) (snap1_cons (snap1_d (.nil 1)) snap1_nil)) rfl (by simp [AV.deep, AV.deep1]) (by simp [wcs, nb])
    · by_cases hB : c = 129
      · subst hB
        have hP : pushW [129] = (79, []) := rfl
        rw [hP]
        simp [go_sem, nb, resV]
        exact post_agg (snap1_cons (snap1_same trivial) (snap1_cons (snap1_d (.nil 1)) snap1_nil)) rfl (by simp [AV.deep, AV.deep1]) (by simp [wcs, nb])
      · have hP : pushW [c] = pushG [c] := (if_neg hA).trans (if_neg hB)
        have hB' : ¬ (c : Int) = 129 := by omega
        rw [hP]
        by_cases j1 : 1 ≤ c
        · have i1 : 1 ≤ (c : Int) := by omega
          have i2 : ¬ (c : Int) ≤ 16 := by omega
          simp [go_sem, nb, i1, i2, hB']
          refine cl_eq (clone_fn [c] (by simp)) (by simp [AV.deep, AV.deep1]) ?_
          simp [go_sem, resV, w8_nat, nb]
          refine post_same (by simp [AV.deep, AV.deep1]) ?_
          simp [pushG, wcs, nb]
          decide
        · have i1 : ¬ 1 ≤ (c : Int) := by omega
          simp [go_sem, nb, i1, hB']
          refine cl_eq (clone_fn [c] (by simp)) (by simp [AV.deep, AV.deep1]) ?_
          simp [go_sem, resV, w8_nat, nb]
          refine post_same (by simp [AV.deep, AV.deep1]) ?_
          simp [pushG, wcs, nb]
          decide
  · have h1' : ¬ (x.length : Int) = 1 := by omega
    rw [pushW_long h1]
    simp [go_sem, nb, h1']
    refine cl_eq (clone_fn x (by omega)) (by simp [AV.deep, AV.deep1]) ?_
    rcases (by omega : x.length ≤ 75 ∨ (75 < x.length ∧ x.length ≤ 255) ∨ 255 < x.length) with hn | ⟨hn, hn2⟩ | hn
    · have i1 : (x.length : Int) ≤ 75 := by omega
      simp [go_sem, i1, resV, w8_nat]
      refine post_same (by simp [AV.deep, AV.deep1]) ?_
      simp [pushG, wcs, nb, hn, t8_lt (show x.length < 256 by omega)]
    · have i1 : ¬ (x.length : Int) ≤ 75 := by omega
      have i2 : (x.length : Int) ≤ 255 := by omega
      have n1 : ¬ x.length ≤ 75 := by omega
      simp [go_sem, i1, i2, resV]
      refine post_same (by simp [AV.deep, AV.deep1]) ?_
      simp [pushG, wcs, nb, n1, hn2]
    · have i1 : ¬ (x.length : Int) ≤ 75 := by omega
      have i2 : ¬ (x.length : Int) ≤ 255 := by omega
      have n1 : ¬ x.length ≤ 75 := by omega
      have n2 : ¬ x.length ≤ 255 := by omega
      simp [go_sem, i1, i2, resV]
      refine post_same (by simp [AV.deep, AV.deep1]) ?_
      simp [pushG, wcs, nb, n1, n2]

set_option maxRecDepth 20000 in
set_option maxHeartbeats 2000000 in
theorem pushR_fn (x : List Nat) (hl : x.length ≤ 60000) (hxb : bytes x) : Rets Try.prog 50 [.d (nb x)] (fun r => r = .agg (wcs (pushW x))) := by
  refine fn_of_awp Try.func50 (by kernel_rfl) rfl Try.ntmps50 (rs := [.cell 2 79]) rfl (Nat.le_of_ble_eq_true rfl) (by simp [AV.deep, AV.deep1]) ?_
  by_cases h1 : x.length = 1
  · obtain ⟨c, rfl⟩ : ∃ c, x = [c] := by
      match x, h1 with
      | [c], _ => exact ⟨c, rfl⟩
    have hc := hxb c (by simp)
    by_cases hA : 1 ≤ c ∧ c ≤ 16
    · have i1 : 1 ≤ (c : Int) := by omega
      have i2 : (c : Int) ≤ 16 := by omega
      have hP : pushW [c] = (80 + c, []) := if_pos hA
      have w : IntKind.u8.wrap (80 + (c : Int)) = ((80 + c : Nat) : Int) := by rw [u8w]; omega
      rw [hP]
      simp [go_sem, nb, i1, i2, w, resV]
      exact post_agg (snap1_cons (snap1_same trivial) (snap1_cons (snap1_d (.nil 1)) snap1_nil)) rfl (by simp [AV.deep, AV.deep1]) (by simp [wcs, nb])
    · by_cases hB : c = 129
      · subst hB
        have hP : pushW [129] = (79, []) := rfl
        rw [hP]
        simp [go_sem, nb, resV]
        exact post_agg (snap1_cons (snap1_same trivial) (snap1_cons (snap1_d (.nil 1)) snap1_nil)) rfl (by simp [AV.deep, AV.deep1]) (by simp [wcs, nb])
      · have hP : pushW [c] = pushG [c] := (if_neg hA).trans (if_neg hB)
        have hB' : ¬ (c : Int) = 129 := by omega
        rw [hP]
        by_cases j1 : 1 ≤ c
        · have i1 : 1 ≤ (c : Int) := by omega
          have i2 : ¬ (c : Int) ≤ 16 := by omega
          simp [go_sem, nb, i1, i2, hB', resV, w8_nat]
          exact post_agg (cs' := wcs (pushG [c])) (snap1_cons (.inl ⟨by simp [pushG]; decide, trivial⟩) (snap1_cons (snap1_d (snap_full (L := [c]) rfl rfl trivial)) snap1_nil)) rfl (by simp [AV.deep, AV.deep1, wcs]) rfl
        · have i1 : ¬ 1 ≤ (c : Int) := by omega
          simp [go_sem, nb, i1, hB', resV, w8_nat]
          exact post_agg (cs' := wcs (pushG [c])) (snap1_cons (.inl ⟨by simp [pushG]; decide, trivial⟩) (snap1_cons (snap1_d (snap_full (L := [c]) rfl rfl trivial)) snap1_nil)) rfl (by simp [AV.deep, AV.deep1, wcs]) rfl
  · have h1' : ¬ (x.length : Int) = 1 := by omega
    rw [pushW_long h1]
    rcases (by omega : x.length ≤ 75 ∨ (75 < x.length ∧ x.length ≤ 255) ∨ 255 < x.length) with hn | ⟨hn, hn2⟩ | hn
    · have i1 : (x.length : Int) ≤ 75 := by omega
      have i2 : (x.length : Int) ≤ 255 := by omega
      simp [go_sem, nb, h1', i1, i2, resV, w8_nat, rb_of, rb_len]
      refine ⟨by omega, post_agg (cs' := wcs (pushG x)) (snap1_cons (.inl ⟨by simp [pushG, hn, t8_lt (show x.length < 256 by omega)], trivial⟩) (snap1_cons (snap1_d (snap_full (L := x) rfl rfl trivial)) snap1_nil)) rfl (by simp [AV.deep, AV.deep1, wcs]) rfl⟩
    · have i1 : ¬ (x.length : Int) ≤ 75 := by omega
      have i2 : (x.length : Int) ≤ 255 := by omega
      have n1 : ¬ x.length ≤ 75 := by omega
      simp [go_sem, nb, h1', i1, i2, resV, w8_nat, rb_of, rb_len]
      refine ⟨by omega, post_agg (cs' := wcs (pushG x)) (snap1_cons (.inl ⟨by simp [pushG, n1, hn2], trivial⟩) (snap1_cons (snap1_d (snap_full (L := x) rfl rfl trivial)) snap1_nil)) rfl (by simp [AV.deep, AV.deep1, wcs]) rfl⟩
    · have i1 : ¬ (x.length : Int) ≤ 75 := by omega
      have i2 : ¬ (x.length : Int) ≤ 255 := by omega
      have n1 : ¬ x.length ≤ 75 := by omega
      have n2 : ¬ x.length ≤ 255 := by omega
      simp [go_sem, nb, h1', i1, i2, resV, w8_nat, rb_of, rb_len]
      refine ⟨by omega, post_agg (cs' := wcs (pushG x)) (snap1_cons (.inl ⟨by simp [pushG, n1, n2], trivial⟩) (snap1_cons (snap1_d (snap_full (L := x) rfl rfl trivial)) snap1_nil)) rfl (by simp [AV.deep, AV.deep1, wcs]) rfl⟩
end Go.Proofs.Ytiihldilefeldaa
