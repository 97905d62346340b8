/-
  Words laid and built, in both texts.
-/
import Derived.Test.YtiihldilefeldaaVw
namespace Go.Sha
set_option linter.unusedSimpArgs false
/-- A word's bytes, and whether it may be. -/
def layW (w : Wd) : List Nat × Bool :=
  if 0 < w.1 ∧ w.1 ≤ 75 then (w.1 :: w.2, decide (w.2.length = w.1))
  else if w.1 = 76 then (76 :: t8 w.2.length :: w.2, decide (w.2.length ≤ 255))
  else if w.1 = 77 then (77 :: t8 w.2.length :: t8 (r32 8 w.2.length) :: w.2, decide (w.2.length ≤ 65535))
  else ([w.1], decide (w.2.length = 0))
theorem layW_len (w : Wd) : (layW w).1.length ≤ w.2.length + 3 := by
  unfold layW
  split
  · simp
  · split
    · simp
    · split
      · simp
      · simp
/-- Words built behind so many bytes. -/
def bldW : List Nat → List Wd → List Nat × Int
  | out, [] => (out, 0)
  | out, w :: r => if (layW w).2 = true then bldW (out ++ (layW w).1) r else ([], 1)
/-- The other text's. -/
def refW (w : Wd) : List Nat := [w.1] ++ (if w.1 = 76 ∨ w.1 = 77 then [t8 w.2.length] else []) ++ (if w.1 = 77 then [t8 (r32 8 w.2.length)] else []) ++ w.2
theorem refW_eq {w : Wd} (h : (layW w).2 = true) : refW w = (layW w).1 := by
  unfold layW at h ⊢
  unfold refW
  by_cases h1 : 0 < w.1 ∧ w.1 ≤ 75
  · have n1 : ¬ (w.1 = 76 ∨ w.1 = 77) := by omega
    have n2 : ¬ w.1 = 77 := by omega
    rw [if_pos h1, if_neg n1, if_neg n2]
    simp
  · by_cases h2 : w.1 = 76
    · simp [h1, h2]
    · by_cases h3 : w.1 = 77
      · simp [h1, h2, h3]
      · rw [if_neg h1, if_neg h2, if_neg h3] at h
        have : w.2 = [] := by simpa using h
        simp [h1, h2, h3, this]
end Go.Sha
namespace Go.Proofs.Ytiihldilefeldaa
open Go.Am Go.Sha
set_option linter.unusedSimpArgs false
set_option linter.unusedVariables false

theorem wcs_deep (w : Wd) : ∀ c, c ∈ wcs w → c.deep1 := by
  intro c hc
  simp [wcs] at hc
  rcases hc with rfl | rfl <;> trivial
theorem post_lay {Q : AV → Prop} {st : St} {id n : Nat} {b : Bool} {L : List Nat} (hl : L.length = n) (hb : lk id st.hp = some ⟨5, 1, rb L⟩) (hq : Q (.tup [.d (nb L), .d (.bool b)])) : PostK Q (.tup [.own id 0 n n, .d (.bool b)]) st :=
  post_tup (snap1_cons (snap1_d (snap_full hl hb trivial)) (snap1_cons (snap1_same trivial) snap1_nil)) rfl (by simp [AV.deep, AV.deep1]) hq

set_option maxHeartbeats 2000000 in
theorem lay_fn (w : Wd) (hl : w.2.length ≤ 60000) (h8 : w.1 < 256) : Rets Try.prog 81 [.agg (wcs w)] (fun r => r = .tup [.d (nb (layW w).1), .d (.bool (layW w).2)]) := by
  refine fn_of_awp Try.func81 (by kernel_rfl) rfl Try.ntmps81 (rs := [.tmp 2, .tmp 3]) rfl (Nat.le_of_ble_eq_true rfl) (by intro v hv; simp at hv; subst hv; exact wcs_deep w) ?_
  obtain ⟨op, p⟩ := w
  simp only at hl h8
  by_cases h1 : 0 < op ∧ op ≤ 75
  · obtain ⟨j1, j2⟩ := h1
    have i1 : 0 < (op : Int) := by omega
    have i2 : (op : Int) ≤ 75 := by omega
    have wi : IntKind.i64.wrap (op : Int) = (op : Int) := IntWalk.i64_in _ (by omega)
    simp [go_sem, wcs, i1, i2, j1, j2]
    apply draw2 (0 :: 1 :: 3 :: 4 :: 6 :: 7 :: 8 :: 9 :: 10 :: []) ((2, ([])) :: (5, (11 :: 12 :: [])) :: []) 2 (k := 13) (by kernel_rfl) (by kernel_rfl) rfl
    case hz => repeat (first | exact Its.nil | apply Its.plain rfl | apply Its.guard rfl rfl)
    case hj => repeat (first | exact Jts.nil | exact Its.nil | apply Its.plain rfl | apply Its.guard rfl rfl | apply Jts.plain rfl | apply Jts.guard rfl rfl)
    intro G hG
    simp [go_sem, nb, rb_of, wi, rb_len]
    refine ⟨by omega, hG _ _ ?_⟩
    clear hG G
    have hy : layW (op, p) = (op :: p, decide (p.length = op)) := by unfold layW; rw [if_pos ⟨j1, j2⟩]
    rw [hy]
    have hcast : decide ((p.length : Int) = (op : Int)) = decide (p.length = op) := by congr 1; exact propext (by omega)
    simp [go_sem, resV, hcast]
    exact post_lay (L := op :: p) (by simp; omega) rfl rfl
  · by_cases h2 : op = 76
    · subst h2
      have hy : layW (76, p) = (76 :: t8 p.length :: p, decide (p.length ≤ 255)) := rfl
      rw [hy]
      have hcast : decide ((p.length : Int) ≤ 255) = decide (p.length ≤ 255) := by congr 1; exact propext (by omega)
      simp [go_sem, wcs, nb, rb_of, rb_len, w8_nat, hcast, resV]
      exact ⟨by omega, post_lay (L := 76 :: t8 p.length :: p) (by simp; omega) rfl (by simp [nb])⟩
    · by_cases h3 : op = 77
      · subst h3
        have hy : layW (77, p) = (77 :: t8 p.length :: t8 (r32 8 p.length) :: p, decide (p.length ≤ 65535)) := rfl
        rw [hy]
        have hcast : decide ((p.length : Int) ≤ 65535) = decide (p.length ≤ 65535) := by congr 1; exact propext (by omega)
        simp [go_sem, wcs, nb, rb_of, rb_len, w8_nat, hcast, resV, IntKind.bits, d_r8]
        exact ⟨by omega, post_lay (L := 77 :: t8 p.length :: t8 (r32 8 p.length) :: p) (by simp; omega) rfl (by simp [nb])⟩
      · have hy : layW (op, p) = ([op], decide (p.length = 0)) := by unfold layW; rw [if_neg h1, if_neg h2, if_neg h3]
        rw [hy]
        have e2 : ¬ (op : Int) = 76 := by omega
        have e3 : ¬ (op : Int) = 77 := by omega
        have hcast : decide ((p.length : Int) = 0) = decide (p.length = 0) := by congr 1; exact propext (by omega)
        by_cases j1 : 0 < op
        · have i1 : 0 < (op : Int) := by omega
          have i2 : ¬ (op : Int) ≤ 75 := by omega
          simp [go_sem, wcs, nb, rb_of, rb_len, i1, j1, i2, e2, e3, hcast, resV]
          refine post_lay (L := [op]) (id := 832) rfl rfl ?_
          simp [nb]
        · have i1 : ¬ 0 < (op : Int) := by omega
          simp [go_sem, wcs, nb, rb_of, rb_len, i1, j1, e2, e3, hcast, resV]
          refine post_lay (L := [op]) (id := 832) rfl rfl ?_
          simp [nb]
end Go.Proofs.Ytiihldilefeldaa
