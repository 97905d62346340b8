/-
  Words: bytes.Clone, Push, in both texts.
-/
import Derived.Test.YtpnbpojpcbnejaaGreatRax
import Derived.Test.YtpnbpojpcbnejaaGreatAmLaw
namespace Go.Sha
/-- A word: its operation, what it pushes. -/
abbrev Wd := Nat × List Nat
def pushG (x : List Nat) : Wd := (if x.length ≤ 75 then x.length else if x.length ≤ 255 then 76 else 77, x)
def pushW (x : List Nat) : Wd :=
  match x with
  | [c] => if 1 ≤ c ∧ c ≤ 16 then (80 + c, []) else if c = 129 then (79, []) else pushG [c]
  | x => pushG x
theorem pushW_long {x : List Nat} (h : x.length ≠ 1) : pushW x = pushG x := by
  match x, h with
  | [], _ => rfl
  | [c], h => exact absurd rfl h
  | _ :: _ :: _, _ => rfl
theorem t8_lt {x : Nat} (h : x < 256) : t8 x = x := Nat.mod_eq_of_lt h
end Go.Sha
namespace Go.Proofs.YtpnbpojpcbnejaaGreat
open Go.Am Go.Sha
set_option linter.unusedSimpArgs false
set_option linter.unusedVariables false

def encW (w : Wd) : List DV := [.int .u8 (w.1 : Int), nb w.2]
def wcs (w : Wd) : List AV := [.d (.int .u8 (w.1 : Int)), .d (nb w.2)]

set_option maxHeartbeats 1000000 in
theorem clone_fnV (b : List Nat) (hl : b.length ≤ 100000000000) : Rets Tryz.prog 69 [.d (nb b)] (fun r => r = .d (nb b)) := by
  refine fn_of_awp Tryz.func69 (by kernel_rfl) rfl Tryz.ntmps69 (rs := [.tmp 2]) rfl (Nat.le_of_ble_eq_true rfl) (by simp [AV.deep, AV.deep1]) ?_
  simp only [go_sem, nb, Nat.reduceEqDiff, Nat.reduceAdd, Nat.reduceLT, ↓reduceIte]
  intro t hb
  cases t with
  | true =>
    have h0 : b = [] := List.eq_nil_of_length_eq_zero (by simpa using hb rfl)
    subst h0
    simp only [go_sem, Nat.reduceEqDiff, Nat.reduceAdd, Nat.reduceLT, ↓reduceIte]
    exact post_one (.inr ⟨_, rfl, .nil 1⟩) (by simp [AV.deep, AV.deep1]) rfl
  | false =>
    simp [go_sem, rb_of, rb_len]
    refine ⟨by omega, post_one (snap1_d (snap_full (L := b) rfl rfl trivial)) (by simp [AV.deep, AV.deep1]) rfl⟩

set_option maxHeartbeats 2000000 in
theorem push_fn (x : List Nat) (hl : x.length ≤ 60000) (hxb : bytes x) : Rets Tryz.prog 76 [.d (nb x)] (fun r => r = .agg (wcs (pushW x))) := by
  refine fn_of_awp Tryz.func76 (by kernel_rfl) rfl Tryz.ntmps76 (rs := [.cell 2 151]) rfl (Nat.le_of_ble_eq_true rfl) (by simp [AV.deep, AV.deep1]) ?_
  by_cases h1 : x.length = 1
  · obtain ⟨c, rfl⟩ : ∃ c, x = [c] := by
      match x, h1 with
      | [c], _ => exact ⟨c, rfl⟩
    have hc := hxb c (by simp)
    by_cases hA : 1 ≤ c ∧ c ≤ 16
    · have i1 : 1 ≤ (c : Int) := by omega
      have i2 : (c : Int) ≤ 16 := by omega
      have hP : pushW [c] = (80 + c, []) := if_pos hA
      have w : IntKind.u8.wrap (80 + (c : Int)) = ((80 + c : Nat) : Int) := by rw [u8w]; omega
      rw [hP]
      simp [go_sem, nb, i1, i2, w, resV]
      exact post_agg (snap1_cons (snap1_same trivial) (snap1_cons (snap1_d (.nil 1)) snap1_nil)) rfl (by simp [AV.deep, AV.deep1]) (by simp [wcs, nb])
    · by_cases hB : c = 129
      · subst hB
        have hP : pushW [129] = (79, []) := rfl
        rw [hP]
        simp [go_sem, nb, resV]
        exact post_agg (snap1_cons (snap1_same trivial) (snap1_cons (snap1_d (.nil 1)) snap1_nil)) rfl (by simp [AV.deep, AV.deep1]) (by simp [wcs, nb])
      · have hP : pushW [c] = pushG [c] := (if_neg hA).trans (if_neg hB)
        have hB' : ¬ (c : Int) = 129 := by omega
        rw [hP]
        by_cases j1 : 1 ≤ c
        · have i1 : 1 ≤ (c : Int) := by omega
          have i2 : ¬ (c : Int) ≤ 16 := by omega
          simp [go_sem, nb, i1, i2, hB']
          refine cl_eq (clone_fnV [c] (by simp)) (by simp [AV.deep, AV.deep1]) ?_
          simp [go_sem, resV, w8_nat, nb]
          refine post_same (by simp [AV.deep, AV.deep1]) ?_
          simp [pushG, wcs, nb]
          decide
        · have i1 : ¬ 1 ≤ (c : Int) := by omega
          simp [go_sem, nb, i1, hB']
          refine cl_eq (clone_fnV [c] (by simp)) (by simp [AV.deep, AV.deep1]) ?_
          simp [go_sem, resV, w8_nat, nb]
          refine post_same (by simp [AV.deep, AV.deep1]) ?_
          simp [pushG, wcs, nb]
          decide
  · have h1' : ¬ (x.length : Int) = 1 := by omega
    rw [pushW_long h1]
    simp [go_sem, nb, h1']
    refine cl_eq (clone_fnV x (by omega)) (by simp [AV.deep, AV.deep1]) ?_
    rcases (by omega : x.length ≤ 75 ∨ (75 < x.length ∧ x.length ≤ 255) ∨ 255 < x.length) with hn | ⟨hn, hn2⟩ | hn
    · have i1 : (x.length : Int) ≤ 75 := by omega
      simp [go_sem, i1, resV, w8_nat]
      refine post_same (by simp [AV.deep, AV.deep1]) ?_
      simp [pushG, wcs, nb, hn, t8_lt (show x.length < 256 by omega)]
    · have i1 : ¬ (x.length : Int) ≤ 75 := by omega
      have i2 : (x.length : Int) ≤ 255 := by omega
      have n1 : ¬ x.length ≤ 75 := by omega
      simp [go_sem, i1, i2, resV]
      refine post_same (by simp [AV.deep, AV.deep1]) ?_
      simp [pushG, wcs, nb, n1, hn2]
    · have i1 : ¬ (x.length : Int) ≤ 75 := by omega
      have i2 : ¬ (x.length : Int) ≤ 255 := by omega
      have n1 : ¬ x.length ≤ 75 := by omega
      have n2 : ¬ x.length ≤ 255 := by omega
      simp [go_sem, i1, i2, resV]
      refine post_same (by simp [AV.deep, AV.deep1]) ?_
      simp [pushG, wcs, nb, n1, n2]

set_option maxRecDepth 20000 in
set_option maxHeartbeats 2000000 in
theorem pushR_fn (x : List Nat) (hl : x.length ≤ 60000) (hxb : bytes x) : Rets Tryz.prog 127 [.d (nb x)] (fun r => r = .agg (wcs (pushW x))) := by
  refine fn_of_awp Tryz.func127 (by kernel_rfl) rfl Tryz.ntmps127 (rs := [.cell 2 151]) rfl (Nat.le_of_ble_eq_true rfl) (by simp [AV.deep, AV.deep1]) ?_
  by_cases h1 : x.length = 1
  · obtain ⟨c, rfl⟩ : ∃ c, x = [c] := by
      match x, h1 with
      | [c], _ => exact ⟨c, rfl⟩
    have hc := hxb c (by simp)
    by_cases hA : 1 ≤ c ∧ c ≤ 16
    · have i1 : 1 ≤ (c : Int) := by omega
      have i2 : (c : Int) ≤ 16 := by omega
      have hP : pushW [c] = (80 + c, []) := if_pos hA
      have w : IntKind.u8.wrap (80 + (c : Int)) = ((80 + c : Nat) : Int) := by rw [u8w]; omega
      rw [hP]
      simp [go_sem, nb, i1, i2, w, resV]
      exact post_agg (snap1_cons (snap1_same trivial) (snap1_cons (snap1_d (.nil 1)) snap1_nil)) rfl (by simp [AV.deep, AV.deep1]) (by simp [wcs, nb])
    · by_cases hB : c = 129
      · subst hB
        have hP : pushW [129] = (79, []) := rfl
        rw [hP]
        simp [go_sem, nb, resV]
        exact post_agg (snap1_cons (snap1_same trivial) (snap1_cons (snap1_d (.nil 1)) snap1_nil)) rfl (by simp [AV.deep, AV.deep1]) (by simp [wcs, nb])
      · have hP : pushW [c] = pushG [c] := (if_neg hA).trans (if_neg hB)
        have hB' : ¬ (c : Int) = 129 := by omega
        rw [hP]
        by_cases j1 : 1 ≤ c
        · have i1 : 1 ≤ (c : Int) := by omega
          have i2 : ¬ (c : Int) ≤ 16 := by omega
          simp [go_sem, nb, i1, i2, hB', resV, w8_nat]
          exact post_agg (cs' := wcs (pushG [c])) (snap1_cons (.inl ⟨by simp [pushG]; decide, trivial⟩) (snap1_cons (snap1_d (snap_full (L := [c]) rfl rfl trivial)) snap1_nil)) rfl (by simp [AV.deep, AV.deep1, wcs]) rfl
        · have i1 : ¬ 1 ≤ (c : Int) := by omega
          simp [go_sem, nb, i1, hB', resV, w8_nat]
          exact post_agg (cs' := wcs (pushG [c])) (snap1_cons (.inl ⟨by simp [pushG]; decide, trivial⟩) (snap1_cons (snap1_d (snap_full (L := [c]) rfl rfl trivial)) snap1_nil)) rfl (by simp [AV.deep, AV.deep1, wcs]) rfl
  · have h1' : ¬ (x.length : Int) = 1 := by omega
    rw [pushW_long h1]
    rcases (by omega : x.length ≤ 75 ∨ (75 < x.length ∧ x.length ≤ 255) ∨ 255 < x.length) with hn | ⟨hn, hn2⟩ | hn
    · have i1 : (x.length : Int) ≤ 75 := by omega
      have i2 : (x.length : Int) ≤ 255 := by omega
      simp [go_sem, nb, h1', i1, i2, resV, w8_nat, rb_of, rb_len]
      refine ⟨by omega, post_agg (cs' := wcs (pushG x)) (snap1_cons (.inl ⟨by simp [pushG, hn, t8_lt (show x.length < 256 by omega)], trivial⟩) (snap1_cons (snap1_d (snap_full (L := x) rfl rfl trivial)) snap1_nil)) rfl (by simp [AV.deep, AV.deep1, wcs]) rfl⟩
    · have i1 : ¬ (x.length : Int) ≤ 75 := by omega
      have i2 : (x.length : Int) ≤ 255 := by omega
      have n1 : ¬ x.length ≤ 75 := by omega
      simp [go_sem, nb, h1', i1, i2, resV, w8_nat, rb_of, rb_len]
      refine ⟨by omega, post_agg (cs' := wcs (pushG x)) (snap1_cons (.inl ⟨by simp [pushG, n1, hn2], trivial⟩) (snap1_cons (snap1_d (snap_full (L := x) rfl rfl trivial)) snap1_nil)) rfl (by simp [AV.deep, AV.deep1, wcs]) rfl⟩
    · have i1 : ¬ (x.length : Int) ≤ 75 := by omega
      have i2 : ¬ (x.length : Int) ≤ 255 := by omega
      have n1 : ¬ x.length ≤ 75 := by omega
      have n2 : ¬ x.length ≤ 255 := by omega
      simp [go_sem, nb, h1', i1, i2, resV, w8_nat, rb_of, rb_len]
      refine ⟨by omega, post_agg (cs' := wcs (pushG x)) (snap1_cons (.inl ⟨by simp [pushG, n1, n2], trivial⟩) (snap1_cons (snap1_d (snap_full (L := x) rfl rfl trivial)) snap1_nil)) rfl (by simp [AV.deep, AV.deep1, wcs]) rfl⟩
end Go.Proofs.YtpnbpojpcbnejaaGreat

/-
  Words laid and built, in both texts.
-/
namespace Go.Sha
set_option linter.unusedSimpArgs false
/-- A word's bytes, and whether it may be. -/
def layW (w : Wd) : List Nat × Bool :=
  if 0 < w.1 ∧ w.1 ≤ 75 then (w.1 :: w.2, decide (w.2.length = w.1))
  else if w.1 = 76 then (76 :: t8 w.2.length :: w.2, decide (w.2.length ≤ 255))
  else if w.1 = 77 then (77 :: t8 w.2.length :: t8 (r32 8 w.2.length) :: w.2, decide (w.2.length ≤ 65535))
  else ([w.1], decide (w.2.length = 0))
theorem layW_len (w : Wd) : (layW w).1.length ≤ w.2.length + 3 := by
  unfold layW
  split
  · simp
  · split
    · simp
    · split
      · simp
      · simp
/-- Words built behind so many bytes. -/
def bldW : List Nat → List Wd → List Nat × Int
  | out, [] => (out, 0)
  | out, w :: r => if (layW w).2 = true then bldW (out ++ (layW w).1) r else ([], 1)
/-- The other text's. -/
def refW (w : Wd) : List Nat := [w.1] ++ (if w.1 = 76 ∨ w.1 = 77 then [t8 w.2.length] else []) ++ (if w.1 = 77 then [t8 (r32 8 w.2.length)] else []) ++ w.2
theorem refW_eq {w : Wd} (h : (layW w).2 = true) : refW w = (layW w).1 := by
  unfold layW at h ⊢
  unfold refW
  by_cases h1 : 0 < w.1 ∧ w.1 ≤ 75
  · have n1 : ¬ (w.1 = 76 ∨ w.1 = 77) := by omega
    have n2 : ¬ w.1 = 77 := by omega
    rw [if_pos h1, if_neg n1, if_neg n2]
    simp
  · by_cases h2 : w.1 = 76
    · simp [h1, h2]
    · by_cases h3 : w.1 = 77
      · simp [h1, h2, h3]
      · rw [if_neg h1, if_neg h2, if_neg h3] at h
        have : w.2 = [] := by simpa using h
        simp [h1, h2, h3, this]
end Go.Sha
namespace Go.Proofs.YtpnbpojpcbnejaaGreat
open Go.Am Go.Sha
set_option linter.unusedSimpArgs false
set_option linter.unusedVariables false

theorem wcs_deep (w : Wd) : ∀ c, c ∈ wcs w → c.deep1 := by
  intro c hc
  simp [wcs] at hc
  rcases hc with rfl | rfl <;> trivial
theorem post_lay {Q : AV → Prop} {st : St} {id n : Nat} {b : Bool} {L : List Nat} (hl : L.length = n) (hb : lk id st.hp = some ⟨5, 1, rb L⟩) (hq : Q (.tup [.d (nb L), .d (.bool b)])) : PostK Q (.tup [.own id 0 n n, .d (.bool b)]) st :=
  post_tup (snap1_cons (snap1_d (snap_full hl hb trivial)) (snap1_cons (snap1_same trivial) snap1_nil)) rfl (by simp [AV.deep, AV.deep1]) hq

set_option maxHeartbeats 2000000 in
theorem lay_fn (w : Wd) (hl : w.2.length ≤ 60000) (h8 : w.1 < 256) : Rets Tryz.prog 142 [.agg (wcs w)] (fun r => r = .tup [.d (nb (layW w).1), .d (.bool (layW w).2)]) := by
  refine fn_of_awp Tryz.func142 (by kernel_rfl) rfl Tryz.ntmps142 (rs := [.tmp 2, .tmp 3]) rfl (Nat.le_of_ble_eq_true rfl) (by intro v hv; simp at hv; subst hv; exact wcs_deep w) ?_
  obtain ⟨op, p⟩ := w
  simp only at hl h8
  by_cases h1 : 0 < op ∧ op ≤ 75
  · obtain ⟨j1, j2⟩ := h1
    have i1 : 0 < (op : Int) := by omega
    have i2 : (op : Int) ≤ 75 := by omega
    have wi : IntKind.i64.wrap (op : Int) = (op : Int) := IntWalk.i64_in _ (by omega)
    simp [go_sem, wcs, i1, i2, j1, j2]
    apply draw2 (0 :: 1 :: 3 :: 4 :: 6 :: 7 :: 8 :: 9 :: 10 :: []) ((2, ([])) :: (5, (11 :: 12 :: [])) :: []) 2 (k := 13) (by kernel_rfl) (by kernel_rfl) rfl
    case hz => repeat (first | exact Its.nil | apply Its.plain rfl | apply Its.guard rfl rfl)
    case hj => repeat (first | exact Jts.nil | exact Its.nil | apply Its.plain rfl | apply Its.guard rfl rfl | apply Jts.plain rfl | apply Jts.guard rfl rfl)
    intro G hG
    simp [go_sem, nb, rb_of, wi, rb_len]
    refine ⟨by omega, hG _ _ ?_⟩
    clear hG G
    have hy : layW (op, p) = (op :: p, decide (p.length = op)) := by unfold layW; rw [if_pos ⟨j1, j2⟩]
    rw [hy]
    have hcast : decide ((p.length : Int) = (op : Int)) = decide (p.length = op) := by congr 1; exact propext (by omega)
    simp [go_sem, resV, hcast]
    exact post_lay (L := op :: p) (by simp; omega) rfl rfl
  · by_cases h2 : op = 76
    · subst h2
      have hy : layW (76, p) = (76 :: t8 p.length :: p, decide (p.length ≤ 255)) := rfl
      rw [hy]
      have hcast : decide ((p.length : Int) ≤ 255) = decide (p.length ≤ 255) := by congr 1; exact propext (by omega)
      simp [go_sem, wcs, nb, rb_of, rb_len, w8_nat, hcast, resV]
      exact ⟨by omega, post_lay (L := 76 :: t8 p.length :: p) (by simp; omega) rfl (by simp [nb])⟩
    · by_cases h3 : op = 77
      · subst h3
        have hy : layW (77, p) = (77 :: t8 p.length :: t8 (r32 8 p.length) :: p, decide (p.length ≤ 65535)) := rfl
        rw [hy]
        have hcast : decide ((p.length : Int) ≤ 65535) = decide (p.length ≤ 65535) := by congr 1; exact propext (by omega)
        simp [go_sem, wcs, nb, rb_of, rb_len, w8_nat, hcast, resV, IntKind.bits, d_r8]
        exact ⟨by omega, post_lay (L := 77 :: t8 p.length :: t8 (r32 8 p.length) :: p) (by simp; omega) rfl (by simp [nb])⟩
      · have hy : layW (op, p) = ([op], decide (p.length = 0)) := by unfold layW; rw [if_neg h1, if_neg h2, if_neg h3]
        rw [hy]
        have e2 : ¬ (op : Int) = 76 := by omega
        have e3 : ¬ (op : Int) = 77 := by omega
        have hcast : decide ((p.length : Int) = 0) = decide (p.length = 0) := by congr 1; exact propext (by omega)
        by_cases j1 : 0 < op
        · have i1 : 0 < (op : Int) := by omega
          have i2 : ¬ (op : Int) ≤ 75 := by omega
          simp [go_sem, wcs, nb, rb_of, rb_len, i1, j1, i2, e2, e3, hcast, resV]
          refine post_lay (L := [op]) (id := 832) rfl rfl ?_
          simp [nb]
        · have i1 : ¬ 0 < (op : Int) := by omega
          simp [go_sem, wcs, nb, rb_of, rb_len, i1, j1, e2, e3, hcast, resV]
          refine post_lay (L := [op]) (id := 832) rfl rfl ?_
          simp [nb]
end Go.Proofs.YtpnbpojpcbnejaaGreat

/-
  Words: Build in both texts; a vault's updated script in both texts.
-/
namespace Go.Sha
def bldR : List Nat → List Wd → List Nat × Int
  | out, [] => (out, 0)
  | out, w :: r => if (layW w).2 = true then bldR (out ++ refW w) r else ([], 1)
theorem bldR_eq : ∀ (ws : List Wd) (out : List Nat), bldR out ws = bldW out ws
  | [], out => rfl
  | w :: r, out => by
    simp only [bldR, bldW]
    split
    · rename_i h
      rw [refW_eq h]
      exact bldR_eq r _
    · rfl
theorem refW_len (w : Wd) : (refW w).length ≤ w.2.length + 3 := by
  unfold refW
  simp only [List.length_append]
  split <;> split <;> simp <;> omega
/-- The updated script: of things, behind so many bytes. -/
def updL : List Nat → List (List Nat) → Option (List Nat)
  | out, [] => some out
  | out, x :: r => if 1000 < x.length then none else updL (out ++ (layW (pushW x)).1) r
def updW (things : List (List Nat)) (body : List Nat) : List Nat × Int :=
  match updL [] things with
  | none => ([], 4)
  | some out => if 1000 < (out ++ body).length then ([], 4) else (out ++ body, 0)
theorem push_ok {x : List Nat} (h : x.length ≤ 1000) : (layW (pushW x)).2 = true := by
  have g : (layW (pushG x)).2 = true := by
    unfold pushG layW
    by_cases h1 : x.length ≤ 75
    · by_cases h0 : x.length = 0
      · have : x = [] := List.eq_nil_of_length_eq_zero h0
        subst this
        rfl
      · have : 0 < x.length ∧ x.length ≤ 75 := by omega
        simp [h1, this]
    · by_cases h2 : x.length ≤ 255
      · simp [h1, h2]
      · simp [h1, h2]
        omega
  match x, g with
  | [], g => exact g
  | [c], g =>
    show (layW (if 1 ≤ c ∧ c ≤ 16 then (80 + c, []) else if c = 129 then (79, []) else pushG [c])).2 = true
    by_cases hA : 1 ≤ c ∧ c ≤ 16
    · rw [if_pos hA]
      unfold layW
      have n1 : ¬ (0 < 80 + c ∧ 80 + c ≤ 75) := by omega
      have n2 : ¬ 80 + c = 76 := by omega
      have n3 : ¬ 80 + c = 77 := by omega
      simp [n1, n2, n3]
    · rw [if_neg hA]
      by_cases hB : c = 129
      · rw [if_pos hB]; rfl
      · rw [if_neg hB]; exact g
  | _ :: _ :: _, g => exact g
end Go.Sha
namespace Go.Sha
theorem pushW_len (x : List Nat) : (pushW x).2.length ≤ x.length := by
  match x with
  | [] => exact Nat.le_refl _
  | [c] =>
    show (if 1 ≤ c ∧ c ≤ 16 then (80 + c, []) else if c = 129 then (79, []) else pushG [c]).2.length ≤ 1
    split
    · simp
    · split
      · simp
      · exact Nat.le_refl _
  | _ :: _ :: _ => exact Nat.le_refl _
end Go.Sha
namespace Go.Proofs.YtpnbpojpcbnejaaGreat
open Go.Am Go.Sha
set_option linter.unusedSimpArgs false
set_option linter.unusedVariables false

/-- A word such as these texts speak of. -/
def WdOk (w : Wd) : Prop := w.2.length ≤ 60000 ∧ w.1 < 256
theorem post_bldV {Q : AV → Prop} {st : St} {id : Nat} {e : Int} {L : List Nat} (hb : lk id st.hp = some ⟨5, 1, rb L⟩) (hq : Q (.tup [.d (nb L), .d (.int .i64 e)])) : PostK Q (.tup [.own id 0 L.length L.length, .d (.int .i64 e)]) st :=
  post_tup (snap1_cons (snap1_d (snap_full rfl hb trivial)) (snap1_cons (snap1_same trivial) snap1_nil)) rfl (by simp [AV.deep, AV.deep1]) hq
theorem post_bldV0 {Q : AV → Prop} {st : St} {e : Int} (hq : Q (.tup [.d (nb []), .d (.int .i64 e)])) : PostK Q (.tup [.nil, .d (.int .i64 e)]) st :=
  post_tup (snap1_cons (snap1_d (.nil 1)) (snap1_cons (snap1_same trivial) snap1_nil)) rfl (by simp [AV.deep, AV.deep1]) hq

set_option maxHeartbeats 2000000 in
theorem build_fn (ws : List Wd) (hw : ∀ w, w ∈ ws → WdOk w) (hl : ws.length ≤ 10000) : Rets Tryz.prog 108 [.d (.ro 2 (ws.map encW))] (fun r => r = .tup [.d (nb (bldW [] ws).1), .d (.int .i64 (bldW [] ws).2)]) := by
  refine fn_of_awp Tryz.func108 (by kernel_rfl) rfl Tryz.ntmps108 (rs := [.tmp 2, .tmp 3]) rfl (Nat.le_of_ble_eq_true rfl) (by simp [AV.deep, AV.deep1]) ?_
  generalize hB : bldW [] ws = B
  simp only [go_sem, Nat.reduceEqDiff, Nat.reduceAdd, Nat.reduceLT, ↓reduceIte, Nat.reduceMul]
  refine loop_of (fun t : Nat × List Nat => ⟨[(4, .own 1000 0 t.2.length t.2.length), (9, .d (.ro 2 (ws.map encW))), (10, .d (.int .i64 (ws.length : Int))), (11, .d (.int .i64 (t.1 : Int)))], [(1000, ⟨5, 1, rb t.2⟩)], 1001⟩)
    (fun t => t.1 ≤ ws.length ∧ t.2.length ≤ 60003 * t.1 ∧ bldW t.2 (ws.drop t.1) = B) (fun t => ws.length - t.1) (0, []) ⟨by omega, by simp, hB⟩ (by
      simp [Weak, slotOk, fv, lk, AV.low, AV.low1, rb]) ?_
  clear hB
  rintro ⟨k, out⟩ ⟨hk, ho, hB⟩
  simp only at hk ho hB
  simp only [go_sem, Nat.reduceEqDiff, Nat.reduceAdd, Nat.reduceLT, ↓reduceIte, Nat.reduceMul]
  refine ⟨fun h => ?_, fun h => ?_⟩
  · obtain ⟨w, hw1, hd⟩ := drop_of (l := ws) (k := k) (by omega)
    obtain ⟨q1, q2⟩ := hw w (List.mem_of_getElem? hw1)
    rw [hd] at hB
    simp only [bldW] at hB
    have hll := layW_len w
    have hrow : encW w = [.int .u8 (w.1 : Int), nb w.2] := rfl
    simp [go_sem, hw1, hrow]
    refine cl_eq (lay_fn w q1 q2) (by intro v hv; simp at hv; subst hv; exact wcs_deep w) ?_
    cases hok : (layW w).2 with
    | false =>
      simp [go_sem, resV]
      rw [hok, if_neg (by simp)] at hB
      rw [← hB]
      exact post_bldV0 rfl
    | true =>
      rw [hok, if_pos rfl] at hB
      have w3 := next_i64 (k := k) (by omega)
      generalize (layW w).1 = L at *
      simp [go_sem, nb, rb_of, rb_len, rb_app, w3]
      refine ⟨by omega, ?_⟩
      refine next_of (k + 1, out ++ L) ⟨by simp only; omega, by simp only [List.length_append]; omega, hB⟩ (by simp only; omega) ?_
      simp [Weak, slotOk, fv, lk, AV.low, AV.low1]
      exact rb_low _ _
  · rw [List.drop_eq_nil_of_le (by omega)] at hB
    simp only [bldW] at hB
    simp [go_sem, resV]
    rw [← hB]
    exact post_bldV rfl rfl

def encT (x : List Nat) : List DV := [nb x]
theorem encT_row {things : List (List Nat)} {k : Nat} {x : List Nat} (h : things[k]? = some x) : (things.map encT)[k]? = some [nb x] := by rw [List.getElem?_map, h]; rfl
theorem pushW_ok {x : List Nat} (h : x.length ≤ 60000) (hb : bytes x) : WdOk (pushW x) := by
  have g : WdOk (pushG x) := by
    unfold pushG
    refine ⟨h, ?_⟩
    simp only
    split
    · omega
    · split <;> omega
  match x, hb, g with
  | [], _, g => exact g
  | [c], hb, g =>
    show WdOk (if 1 ≤ c ∧ c ≤ 16 then (80 + c, []) else if c = 129 then (79, []) else pushG [c])
    by_cases hA : 1 ≤ c ∧ c ≤ 16
    · rw [if_pos hA]; exact ⟨by simp, by simp only; omega⟩
    · rw [if_neg hA]
      by_cases hB : c = 129
      · rw [if_pos hB]; exact ⟨by simp, by simp⟩
      · rw [if_neg hB]; exact g
  | _ :: _ :: _, _, g => exact g
theorem snap_wd {hp : Hp} {I : Nat → Prop} {id : Nat} {w : Wd} (hb : lk id hp = some ⟨151, 2, [wcs w]⟩) (hI : I id) : SnapD hp I (.own id 0 1 1) (.ro 2 ([w].map encW)) :=
  snap_row (es := [w].map encW) (by rw [hb]; rfl) hI rfl (by simp [encW])

set_option maxHeartbeats 2000000 in
theorem updated_fn (things : List (List Nat)) (body : List Nat) (hl : things.length ≤ 1000) (ht : ∀ x, x ∈ things → x.length ≤ 60000 ∧ bytes x) (hb : body.length ≤ 100000) :
    Rets Tryz.prog 92 [.d (.ro 1 (things.map encT)), .d (nb body)] (fun r => r = .tup [.d (nb (updW things body).1), .d (.int .i64 (updW things body).2)]) := by
  refine fn_of_awp Tryz.func92 (by kernel_rfl) rfl Tryz.ntmps92 (rs := [.tmp 4, .tmp 5]) rfl (Nat.le_of_ble_eq_true rfl) (by simp [AV.deep, AV.deep1]) ?_
  unfold updW
  generalize hB : updL [] things = B
  simp only [go_sem, Nat.reduceEqDiff, Nat.reduceAdd, Nat.reduceLT, ↓reduceIte, Nat.reduceMul]
  refine loop_of (fun t : Nat × List Nat => ⟨[(1, .d (nb body)), (6, .own 1000 0 t.2.length t.2.length), (11, .d (.ro 1 (things.map encT))), (12, .d (.int .i64 (things.length : Int))), (13, .d (.int .i64 (t.1 : Int)))], [(1000, ⟨5, 1, rb t.2⟩)], 1001⟩)
    (fun t => t.1 ≤ things.length ∧ t.2.length ≤ 60003 * t.1 ∧ updL t.2 (things.drop t.1) = B) (fun t => things.length - t.1) (0, []) ⟨by omega, by simp, hB⟩ (by
      simp [Weak, slotOk, fv, lk, AV.low, AV.low1, rb]) ?_
  clear hB
  rintro ⟨k, out⟩ ⟨hk, ho, hB⟩
  simp only at hk ho hB
  simp only [go_sem, Nat.reduceEqDiff, Nat.reduceAdd, Nat.reduceLT, ↓reduceIte, Nat.reduceMul]
  refine ⟨fun h => ?_, fun h => ?_⟩
  · obtain ⟨x, hx1, hd⟩ := drop_of (l := things) (k := k) (by omega)
    obtain ⟨q1, q2⟩ := ht x (List.mem_of_getElem? hx1)
    rw [hd] at hB
    simp only [updL] at hB
    by_cases hxl : 1000 < x.length
    · rw [if_pos hxl] at hB
      subst hB
      have i1 : 1000 < (x.length : Int) := by omega
      simp [go_sem, hx1, encT, nb, i1, resV]
      exact post_bldV0 rfl
    · rw [if_neg hxl] at hB
      have i1 : ¬ 1000 < (x.length : Int) := by omega
      have hok := push_ok (x := x) (by omega)
      have hwd := pushW_ok q1 q2
      have hll := layW_len (pushW x)
      have hpl : (pushW x).2.length ≤ x.length := pushW_len x
      have hbl : bldW [] [pushW x] = ((layW (pushW x)).1, 0) := by simp [bldW, hok]
      simp [go_sem, hx1, encT, nb, i1]
      refine cl_eq (push_fn x q1 q2) (by simp [AV.deep, AV.deep1]) ?_
      have hsz : (wcs (pushW x)).length = 2 := rfl
      simp [go_sem, hsz]
      refine cl_froz [1289] (build_fn [pushW x] (by intro w hw; simp at hw; subst hw; exact hwd) (by simp)) rfl (snap_cons (.one (snap1_d (snap_wd rfl (by simp)))) snap_nil) ?_
      rw [hbl]
      have w3 := next_i64 (k := k) (by omega)
      generalize (layW (pushW x)).1 = L at *
      simp [go_sem, dropH, nb, rb_of, rb_len, rb_app, w3]
      refine ⟨by omega, ?_⟩
      refine next_of (k + 1, out ++ L) ⟨by simp only; omega, by simp only [List.length_append]; omega, hB⟩ (by simp only; omega) ?_
      simp [Weak, slotOk, fv, lk, AV.low, AV.low1, nb]
      exact rb_low _ _
  · rw [List.drop_eq_nil_of_le (by omega)] at hB
    simp only [updL] at hB
    subst hB
    have hkl : k = things.length := by omega
    simp only
    by_cases hbig : 1000 < out.length + body.length
    · rw [if_pos hbig]
      have i1 : 1000 < ((out.length + body.length : Nat) : Int) := by omega
      have i2 : 1000 < (out.length : Int) + (body.length : Int) := by omega
      simp [go_sem, nb, rb_of, rb_len, i1, i2, resV]
      exact ⟨by omega, post_bldV0 rfl⟩
    · rw [if_neg hbig]
      have i1 : ¬ 1000 < ((out.length + body.length : Nat) : Int) := by omega
      have i2 : ¬ 1000 < (out.length : Int) + (body.length : Int) := by omega
      simp [go_sem, nb, rb_of, rb_len, rb_app, i1, i2, resV]
      refine ⟨by omega, ?_⟩
      have := post_bldV (id := 1000) (L := out ++ body) (e := 0) (Q := fun r => r = AV.tup [AV.d (nb (out ++ body)), AV.d (.int .i64 0)]) (st := ⟨[], [(1000, ⟨5, 1, rb (out ++ body)⟩)], 0⟩) rfl rfl
      simp [nb] at this
      exact this
end Go.Proofs.YtpnbpojpcbnejaaGreat

/-
  The other text's words built; its updated script.
-/
namespace Go.Proofs.YtpnbpojpcbnejaaGreat
open Go.Am Go.Sha
set_option linter.unusedSimpArgs false
set_option linter.unusedVariables false

theorem int_dec {a b : Nat} : decide ((a : Int) = (b : Int)) = decide (a = b) := by congr 1; exact propext (by omega)

set_option maxHeartbeats 2000000 in
theorem mayR_fn (w : Wd) (hl : w.2.length ≤ 60000) (h8 : w.1 < 256) : Rets Tryz.prog 195 [.agg (wcs w)] (fun r => r = .d (.bool (layW w).2)) := by
  refine fn_of_awp Tryz.func195 (by kernel_rfl) rfl Tryz.ntmps195 (rs := [.tmp 2]) rfl (Nat.le_of_ble_eq_true rfl) (by intro v hv; simp at hv; subst hv; exact wcs_deep w) ?_
  obtain ⟨op, p⟩ := w
  simp only at hl h8
  by_cases h1 : 0 < op ∧ op ≤ 75
  · obtain ⟨j1, j2⟩ := h1
    have i1 : 1 ≤ (op : Int) := by omega
    have i2 : (op : Int) ≤ 75 := by omega
    have wi : IntKind.i64.wrap (op : Int) = (op : Int) := IntWalk.i64_in _ (by omega)
    have hy : layW (op, p) = (op :: p, decide (p.length = op)) := by unfold layW; rw [if_pos ⟨j1, j2⟩]
    rw [hy]
    simp [go_sem, wcs, nb, i1, i2, j2, wi, resV, int_dec]
    exact post_same (by simp [AV.deep, AV.deep1]) rfl
  · by_cases h2 : op = 76
    · subst h2
      have hy : layW (76, p) = (76 :: t8 p.length :: p, decide (p.length ≤ 255)) := rfl
      rw [hy]
      have hcast : decide ((p.length : Int) ≤ 255) = decide (p.length ≤ 255) := by congr 1; exact propext (by omega)
      simp [go_sem, wcs, nb, hcast, resV]
      exact post_same (by simp [AV.deep, AV.deep1]) rfl
    · by_cases h3 : op = 77
      · subst h3
        have hy : layW (77, p) = (77 :: t8 p.length :: t8 (r32 8 p.length) :: p, decide (p.length ≤ 65535)) := rfl
        rw [hy]
        have hcast : decide ((p.length : Int) ≤ 65535) = decide (p.length ≤ 65535) := by congr 1; exact propext (by omega)
        simp [go_sem, wcs, nb, hcast, resV]
        exact post_same (by simp [AV.deep, AV.deep1]) rfl
      · have hy : layW (op, p) = ([op], decide (p.length = 0)) := by unfold layW; rw [if_neg h1, if_neg h2, if_neg h3]
        rw [hy]
        have e2 : ¬ (op : Int) = 76 := by omega
        have e3 : ¬ (op : Int) = 77 := by omega
        by_cases j1 : 0 < op
        · have i1 : 1 ≤ (op : Int) := by omega
          have i2 : ¬ (op : Int) ≤ 75 := by omega
          simp [go_sem, wcs, nb, i1, i2, e2, e3, resV]
          exact post_same (by simp [AV.deep, AV.deep1]) (by simp)
        · have i1 : ¬ 1 ≤ (op : Int) := by omega
          simp [go_sem, wcs, nb, i1, e2, e3, resV]
          exact post_same (by simp [AV.deep, AV.deep1]) (by simp)

def catR (ws : List Wd) : List Nat := (ws.map refW).flatten
set_option maxRecDepth 20000 in
set_option maxHeartbeats 4000000 in
theorem buildR_own (ws : List Wd) (hw : ∀ w, w ∈ ws → WdOk w ∧ (layW w).2 = true) (hl : ws.length ≤ 10000) : RetsE Tryz.prog 161 0 [] [.d (.ro 2 (ws.map encW))]
    (fun r hp' => r = .tup [.own 65 0 (catR ws).length (catR ws).length, .d (.int .i64 0)] ∧ lk 65 hp' = some ⟨5, 1, rb (catR ws)⟩) := by
  refine fnE_of_awp Tryz.func161 (by kernel_rfl) rfl Tryz.ntmps161 (rs := [.tmp 2, .tmp 3]) rfl (Nat.le_of_ble_eq_true rfl) (by decide) ?_
  simp [go_sem]
  refine loop_of (fun k : Nat => ⟨[(0, .d (.ro 2 (ws.map encW))), (4, .own 65 0 (catR (ws.take k)).length (catR (ws.take k)).length), (5, .d (.int .i64 (k : Int)))], [(65, ⟨5, 1, rb (catR (ws.take k))⟩)], 1000⟩)
    (fun k => k ≤ ws.length ∧ (catR (ws.take k)).length ≤ 60003 * k) (fun k => ws.length - k) 0 ⟨by omega, by simp [catR]⟩ (by
      simp [Weak, slotOk, fv, lk, AV.low, AV.low1, catR, rb]) ?_
  rintro k ⟨hk, ho⟩
  simp only [go_sem, Nat.reduceEqDiff, Nat.reduceAdd, Nat.reduceLT, ↓reduceIte, Nat.reduceMul]
  refine ⟨fun h => ?_, fun h => ?_⟩
  · obtain ⟨w, hw1, hd⟩ := drop_of (l := ws) (k := k) (by omega)
    obtain ⟨⟨q1, q2⟩, q3⟩ := hw w (List.mem_of_getElem? hw1)
    have hcat : catR (ws.take (k + 1)) = catR (ws.take k) ++ refW w := by
      unfold catR
      rw [List.take_add_one, hw1]
      simp
    have hll := refW_len w
    have hrl : (catR (ws.take (k + 1))).length = (catR (ws.take k)).length + (refW w).length := by rw [hcat, List.length_append]
    have hrow : encW w = [.int .u8 (w.1 : Int), nb w.2] := rfl
    have w3 := next_i64 (k := k) (by omega)
    have hdiv : IntKind.u8.wrap (IntKind.i64.wrap (Int.tdiv (w.2.length : Int) 256)) = ((t8 (r32 8 w.2.length) : Nat) : Int) := by
      have e : Int.tdiv (w.2.length : Int) 256 = ((w.2.length / 256 : Nat) : Int) := (Int.ofNat_tdiv _ 256).symm
      rw [e, IntWalk.i64_in _ (by omega), w8_nat]
      rfl
    have hdiv2 : IntKind.u8.wrap (IntKind.i64.wrap ((w.2.length : Int) / 256)) = ((t8 (r32 8 w.2.length) : Nat) : Int) := by
      rw [← hdiv, Int.tdiv_eq_ediv_of_nonneg (by omega)]
    simp [go_sem, hw1, hrow]
    refine cl_eq (mayR_fn w q1 q2) (by intro v hv; simp at hv; subst hv; exact wcs_deep w) ?_
    rw [q3]
    obtain ⟨op, p⟩ := w
    generalize catR (ws.take k) = out at *
    simp only at q1 q2 hdiv hdiv2
    by_cases h2 : op = 76
    · subst h2
      have hr : refW (76, p) = 76 :: t8 p.length :: p := by simp [refW]
      rw [hr] at hcat hrl
      simp [go_sem, nb, rb_of, rb_len, w8_nat, w3]
      refine ⟨by omega, by omega, by omega, ?_⟩
      refine next_of (k + 1) ⟨by omega, by rw [hrl]; simp only [List.length_cons]; omega⟩ (by omega) ?_
      simp [Weak, slotOk, fv, lk, AV.low, AV.low1, hcat]
      exact ⟨by omega, by simp [rb], rb_low _ _⟩
    · by_cases h3 : op = 77
      · subst h3
        have hr : refW (77, p) = 77 :: t8 p.length :: t8 (r32 8 p.length) :: p := by simp [refW]
        rw [hr] at hcat hrl
        simp [go_sem, nb, rb_of, rb_len, w8_nat, hdiv, w3]
        refine ⟨by omega, by omega, by omega, by omega, ?_⟩
        refine next_of (k + 1) ⟨by omega, by rw [hrl]; simp only [List.length_cons]; omega⟩ (by omega) ?_
        simp [Weak, slotOk, fv, lk, AV.low, AV.low1, hcat]
        exact ⟨by omega, by simp [rb, hdiv2], rb_low _ _⟩
      · have hr : refW (op, p) = op :: p := by simp [refW, h2, h3]
        have e2 : ¬ (op : Int) = 76 := by omega
        have e3 : ¬ (op : Int) = 77 := by omega
        rw [hr] at hcat hrl
        simp [go_sem, nb, rb_of, rb_len, w8_nat, e2, e3, w3]
        refine ⟨by omega, by omega, ?_⟩
        refine next_of (k + 1) ⟨by omega, by rw [hrl]; simp only [List.length_cons]; omega⟩ (by omega) ?_
        simp [Weak, slotOk, fv, lk, AV.low, AV.low1, hcat]
        exact ⟨by omega, by simp [rb], rb_low _ _⟩
  · have hkl : k = ws.length := by omega
    subst hkl
    rw [List.take_length]
    simp [go_sem, resV]

/-- The words of things, so many of them. -/
def wdsT (things : List (List Nat)) : List Wd := things.map pushW
theorem updL_cat : ∀ (things : List (List Nat)) (out : List Nat), (∀ x, x ∈ things → x.length ≤ 1000) → updL out things = some (out ++ catR (wdsT things))
  | [], out, _ => by simp [updL, catR, wdsT]
  | x :: r, out, h => by
    have hx := h x (List.mem_cons_self ..)
    simp only [updL]
    rw [if_neg (by omega), updL_cat r _ (fun y hy => h y (List.mem_cons_of_mem _ hy)), ← refW_eq (push_ok hx)]
    simp [catR, wdsT]
theorem updL_none : ∀ (things : List (List Nat)) (out : List Nat) (k : Nat) (x : List Nat), things[k]? = some x → 1000 < x.length → updL out things = none
  | [], out, k, x, h, _ => by simp at h
  | y :: r, out, 0, x, h, hl => by
    simp at h
    subst h
    simp only [updL]
    rw [if_pos hl]
  | y :: r, out, k + 1, x, h, hl => by
    simp only [updL]
    split
    · rfl
    · exact updL_none r _ k x (by simpa using h) hl

theorem catR_len : ∀ (things : List (List Nat)), (∀ x, x ∈ things → x.length ≤ 1000) → (catR (wdsT things)).length ≤ 1003 * things.length
  | [], _ => by simp [catR, wdsT]
  | x :: r, h => by
    have ih := catR_len r fun y hy => h y (List.mem_cons_of_mem _ hy)
    have hx := h x (List.mem_cons_self ..)
    have h1 := refW_len (pushW x)
    have h2 := pushW_len x
    have e : (catR (wdsT (x :: r))).length = (refW (pushW x)).length + (catR (wdsT r)).length := by simp [catR, wdsT]
    rw [e, List.length_cons]
    omega
theorem snap_wds {hp : Hp} {I : Nat → Prop} {id n : Nat} {ws : List Wd} (hb : lk id hp = some ⟨151, 2, ws.map wcs⟩) (hI : I id) (hn : ws.length = n) : SnapD hp I (.own id 0 n n) (.ro 2 (ws.map encW)) :=
  snap_row (es := ws.map encW) (by rw [hb, List.map_map]; rfl) hI (by simp [hn]) (fun r hr => by
    rw [List.mem_map] at hr
    obtain ⟨w, _, rfl⟩ := hr
    rfl)

end Go.Proofs.YtpnbpojpcbnejaaGreat

/-
  Recovery hashes in both texts; claims owed and settled; the live question of layer 21.
-/
namespace Go.Proofs.YtpnbpojpcbnejaaGreat
open Go.Am Go.Sha
set_option linter.unusedSimpArgs false
set_option linter.unusedVariables false

def recTag : List Nat := [86, 97, 117, 108, 116, 82, 101, 99, 111, 118, 101, 114, 121]
def recB (x : List Nat) : List Nat := tagB recTag (putSize x.length ++ x)
theorem recB_len (x : List Nat) : (recB x).length = 32 := sumB_len _

set_option maxHeartbeats 1000000 in
theorem recHash_fn (x : List Nat) (hx : x.length ≤ 100000) : Rets Tryz.prog 74 [.d (nb x)] (fun r => r = .agg (cb (recB x))) := by
  refine fn_of_awp Tryz.func74 (by kernel_rfl) rfl Tryz.ntmps74 (rs := [.cell 2 22]) rfl (Nat.le_of_ble_eq_true rfl) (by simp [AV.deep, AV.deep1]) ?_
  have hp5 := putSize_len x.length
  simp [go_sem]
  refine cl_froz [] (putBytes_fn [] x (by simp) (by omega)) rfl (snap_cons (.one (snap1_d (.nil 1))) (snap_cons (.deep (by simp [AV.deep, AV.deep1])) snap_nil)) ?_
  simp [go_sem, dropH]
  refine cl_eq (tagged_fn recTag (.str [86, 97, 117, 108, 116, 82, 101, 99, 111, 118, 101, 114, 121]) rfl (putSize x.length ++ x) (by simp [recTag]) (by simp; omega)) (by simp [AV.deep, AV.deep1]) ?_
  have hR : recB x = tagB recTag (putSize x.length ++ x) := rfl
  rw [← hR]
  have hL := recB_len x
  generalize recB x = R at *
  simp [go_sem, resV, hL, cb_take hL, z32_drop]
  exact post_same (by simp [AV.deep]; exact cb_deep _) rfl

set_option maxHeartbeats 1000000 in
theorem recHashR_fn (x : List Nat) (hx : x.length ≤ 100000) (hxb : bytes x) : Rets Tryz.prog 160 [.d (nb x)] (fun r => r = .agg (cb (recB x))) := by
  refine fn_of_awp Tryz.func160 (by kernel_rfl) rfl Tryz.ntmps160 (rs := [.cell 2 22]) rfl (Nat.le_of_ble_eq_true rfl) (by simp [AV.deep, AV.deep1]) ?_
  have hp5 := putSize_len x.length
  simp [go_sem]
  refine cl_froz [] (putBytesR_fn [] x (by simp) (by omega)) rfl (snap_cons (.one (snap1_d (.nil 1))) (snap_cons (.deep (by simp [AV.deep, AV.deep1])) snap_nil)) ?_
  simp [go_sem, dropH]
  refine cl_eq (taggedR_fn recTag (.str [86, 97, 117, 108, 116, 82, 101, 99, 111, 118, 101, 114, 121]) rfl (putSize x.length ++ x) (by simp [recTag]) (by simp [recTag]) (by simp; omega) (by
    intro y hy
    rcases List.mem_append.1 hy with h | h
    · exact putSize_b _ y h
    · exact hxb y h)) (by simp [AV.deep, AV.deep1]) ?_
  have hR : recB x = tagB recTag (putSize x.length ++ x) := rfl
  rw [← hR]
  have hL := recB_len x
  generalize recB x = R at *
  simp [go_sem, resV, hL, cb_take hL, z32_drop]
  exact post_same (by simp [AV.deep]; exact cb_deep _) rfl

def encClaim (c : Int × Int) : List DV := [.int .i64 c.1, .int .u64 c.2]
def encOut (o : Int × List Nat) : List DV := [.int .u64 o.1, nb o.2]
/-- owed: what the claims ask of output 'out', s so far. -/
def owed (out : Int) : List (Int × Int) → Int → Int × Int
  | [], s => (s, 0)
  | c :: r, s => if c.1 ≠ out then owed out r s else if IntKind.u64.wrap (s + c.2) < c.2 then (0, 31) else owed out r (IntKind.u64.wrap (s + c.2))

/-- Are all claims of outputs that are there? -/
def chk1 (n : Int) : List (Int × Int) → Bool
  | [] => true
  | c :: r => if c.1 < 0 then false else if n ≤ c.1 then false else chk1 n r
/-- Has each output what is asked of it? -/
def chk2 (cs : List (Int × Int)) : Nat → List (Int × List Nat) → Bool
  | _, [] => true
  | i, o :: r => if (owed i cs 0).2 ≠ 0 then false else if o.1 < (owed i cs 0).1 then false else chk2 cs (i + 1) r
def settle (outs : List (Int × List Nat)) (cs : List (Int × Int)) : Int := if chk1 outs.length cs then (if chk2 cs 0 outs then 0 else 40) else 1

theorem cvS_nbV {P : Program} {s t : TypeId} {Kk : AV → Hp → Prop} {hp : Hp} (l : List Nat) (el : TypeId) (hb : bytes l) (h1 : tyk P s = .slice el) (h2 : tyk P t = .str) (h3 : P.underlying el = some (.int .u8)) (hK : Kk (.d (.str (sb l))) hp) : cvS P s t (l.map fun (x : Nat) => [DV.int .u8 (x : Int)]) Kk hp := by
  refine ⟨sb l, by simp [sb], fun b h => ?_, ?_⟩
  · simp only [sb, List.mem_map] at h
    obtain ⟨x, hx, rfl⟩ := h
    have := hb x hx
    omega
  · rw [h1, h2]
    exact ⟨h3, hK⟩
end Go.Proofs.YtpnbpojpcbnejaaGreat

/-
  The law VaultScripts.
-/
namespace Go.Proofs.YtpnbpojpcbnejaaGreat
open Go.Am Go.Sha
set_option linter.unusedSimpArgs false
set_option linter.unusedVariables false

theorem layW_bytes {w : Wd} (h8 : w.1 < 256) (hp : bytes w.2) : bytes (layW w).1 := by
  unfold layW
  split
  · intro y hy
    rcases List.mem_cons.1 hy with rfl | hy
    · exact h8
    · exact hp y hy
  · split
    · intro y hy
      simp only [List.mem_cons] at hy
      rcases hy with rfl | rfl | hy
      · omega
      · exact le_bytes _
      · exact hp y hy
    · split
      · intro y hy
        simp only [List.mem_cons] at hy
        rcases hy with rfl | rfl | rfl | hy
        · omega
        · exact le_bytes _
        · exact le_bytes _
        · exact hp y hy
      · intro y hy
        simp only [List.mem_singleton] at hy
        rw [hy]; exact h8
theorem pushW_bytes {x : List Nat} (hb : bytes x) : bytes (pushW x).2 := by
  match x, hb with
  | [], hb => exact hb
  | [c], hb =>
    show bytes (if 1 ≤ c ∧ c ≤ 16 then (80 + c, []) else if c = 129 then (79, []) else pushG [c]).2
    split
    · intro y hy; simp at hy
    · split
      · intro y hy; simp at hy
      · exact hb
  | _ :: _ :: _, hb => exact hb
theorem bytes_app {a b : List Nat} (ha : bytes a) (hb : bytes b) : bytes (a ++ b) := fun y hy => (List.mem_append.1 hy).elim (ha y) (hb y)
theorem updL_bytes : ∀ (things : List (List Nat)) (out o : List Nat), bytes out → (∀ x, x ∈ things → x.length ≤ 60000 ∧ bytes x) → updL out things = some o → bytes o
  | [], out, o, h, _, e => by simp only [updL, Option.some.injEq] at e; subst e; exact h
  | x :: r, out, o, h, ht, e => by
    obtain ⟨q1, q2⟩ := ht x (List.mem_cons_self ..)
    simp only [updL] at e
    split at e
    · cases e
    · exact updL_bytes r _ o (bytes_app h (layW_bytes (pushW_ok q1 q2).2 (pushW_bytes q2))) (fun y hy => ht y (List.mem_cons_of_mem _ hy)) e
theorem updW_bytes {things : List (List Nat)} {body : List Nat} (hb : bytes body) (ht : ∀ x, x ∈ things → x.length ≤ 60000 ∧ bytes x) : bytes (updW things body).1 := by
  unfold updW
  cases h : updL [] things with
  | none => intro y hy; simp at hy
  | some o =>
    have := updL_bytes things [] o (by intro y hy; simp at hy) ht h
    simp only
    split
    · intro y hy; simp at hy
    · exact bytes_app this hb

set_option maxRecDepth 100000
theorem arg_one {n : Nat} {t : TypeId} {a : AV} {k : TypeDesc} (hu : Tryz.prog.underlying t = some k) (hk : ∀ fs, k ≠ .struct fs) (hk2 : ∀ m e, k ≠ .array m e) (h : ArgTy Tryz.prog n t a) : ∃ d, a = .d d ∧ TyD Tryz.prog n t [d] := by
  unfold ArgTy at h
  rw [hu] at h
  cases k <;> first | exact h | exact absurd rfl (hk _) | exact absurd rfl (hk2 _ _)
theorem ty_things {n : Nat} {d : DV} (h : TyD Tryz.prog (n + 3) 67 [d]) : ∃ xs : List (List Nat), d = .ro 1 (xs.map encT) ∧ ∀ x, x ∈ xs → bytes x := by
  rw [TyD] at h
  simp only [Tryz.underlying67, List.cons.injEq, and_true] at h
  obtain ⟨es, rfl, hl, hr⟩ := h
  obtain ⟨xs, rfl, hxs⟩ := map_of (enc := encT) (R := fun x => bytes x) (es := es) (fun r hr' => by
    obtain ⟨h1, h2⟩ := hr r hr'
    rw [show Tryz.prog.cellsOf 29 = 1 by kernel_rfl] at h2
    match r, h1, h2 with
    | [y], h1, _ =>
      obtain ⟨x, rfl, _, hb⟩ := ty_bytes h1
      exact ⟨x, rfl, hb⟩)
  exact ⟨xs, by rw [show Tryz.prog.cellsOf 29 = 1 by kernel_rfl], hxs⟩
end Go.Proofs.YtpnbpojpcbnejaaGreat
