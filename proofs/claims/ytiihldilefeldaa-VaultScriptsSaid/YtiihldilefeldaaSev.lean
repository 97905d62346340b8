/-
  One tagged sum, evaluated: the numbers forced step by step, so that the kernel gets through.
-/
import Derived.Test.YtiihldilefeldaaSht
namespace Go.Sha
set_option linter.unusedSimpArgs false
set_option linter.unusedVariables false

def frc {α : Type} : Nat → (Nat → α) → α
  | 0, k => k 0
  | n + 1, k => k (n + 1)
theorem frc_eq {α : Type} (n : Nat) (k : Nat → α) : frc n k = k n := by cases n <;> rfl
def rdF {α : Type} (s : S8) (k w : Nat) (C : S8 → α) : α := frc (T1 s k w) fun t => frc (a32 t (T2 s)) fun x => frc (a32 s.d t) fun y => C ⟨x, s.a, s.b, s.c, y, s.e, s.f, s.g⟩
theorem rdF_eq {α : Type} (s : S8) (k w : Nat) (C : S8 → α) : rdF s k w C = C (rd s k w) := by simp only [rdF, frc_eq, rd]
def foldF {α : Type} : List Nat → List Nat → S8 → (S8 → α) → α
  | k :: ks, w :: ws, s, C => rdF s k w fun s' => foldF ks ws s' C
  | _, _, s, C => C s
theorem foldF_eq {α : Type} : ∀ (ks ws : List Nat) (s : S8) (C : S8 → α), foldF ks ws s C = C ((ks.zip ws).foldl rdp s)
  | [], _, s, C => by simp [foldF]
  | k :: ks, [], s, C => by simp [foldF]
  | k :: ks, w :: ws, s, C => by simp only [foldF, rdF_eq, foldF_eq ks ws, List.zip_cons_cons, List.foldl_cons]; rfl
def listF {α : Type} : List Nat → (List Nat → α) → α
  | [], C => C []
  | x :: r, C => frc x fun y => listF r fun q => C (y :: q)
theorem listF_eq {α : Type} : ∀ (l : List Nat) (C : List Nat → α), listF l C = C l
  | [], C => rfl
  | x :: r, C => by simp only [listF, frc_eq, listF_eq r]
/-- The next word, of the words in the other order. -/
def wxR (l : List Nat) : Nat :=
  a32 (a32 (a32 (l.getD 15 0) (x32 (x32 (rol 25 (l.getD 14 0)) (rol 14 (l.getD 14 0))) (r32 3 (l.getD 14 0)))) (l.getD 6 0)) (x32 (x32 (rol 15 (l.getD 1 0)) (rol 13 (l.getD 1 0))) (r32 10 (l.getD 1 0)))
theorem getD_rev (w : List Nat) (i : Nat) (h : i < w.length) : w.reverse.getD i 0 = w.getD (w.length - 1 - i) 0 := by
  rw [List.getD_eq_getElem?_getD, List.getD_eq_getElem?_getD, List.getElem?_reverse h]
theorem wxR_eq (w : List Nat) (h : 16 ≤ w.length) : wxR w.reverse = wx w := by
  unfold wxR wx
  rw [getD_rev w 15 (by omega), getD_rev w 14 (by omega), getD_rev w 6 (by omega), getD_rev w 1 (by omega)]
  rw [show w.length - 1 - 15 = w.length - 16 by omega, show w.length - 1 - 14 = w.length - 15 by omega, show w.length - 1 - 6 = w.length - 7 by omega, show w.length - 1 - 1 = w.length - 2 by omega]
def schF {α : Type} : Nat → List Nat → (List Nat → α) → α
  | 0, l, C => C l
  | n + 1, l, C => frc (wxR l) fun x => schF n (x :: l) C
theorem schF_eq {α : Type} (b : List Nat) : ∀ (n m : Nat) (C : List Nat → α), schF n (wmore b m).reverse C = C (wmore b (m + n)).reverse
  | 0, m, C => rfl
  | n + 1, m, C => by
    have h : wxR (wmore b m).reverse :: (wmore b m).reverse = (wmore b (m + 1)).reverse := by
      rw [wxR_eq _ (by rw [wmore_len]; omega)]
      simp [wmore]
    simp only [schF, frc_eq, h]
    rw [schF_eq b n (m + 1) C, show m + 1 + n = m + (n + 1) by omega]
def takeF {α : Type} (s : S8) (b : List Nat) (C : S8 → α) : α :=
  listF (wfirst b 16) fun q => schF 48 q.reverse fun l => foldF K l.reverse s fun v => C (s8add s v)
theorem takeF_eq {α : Type} (s : S8) (b : List Nat) (C : S8 → α) : takeF s b C = C (take s b) := by
  unfold takeF
  rw [listF_eq]
  have := schF_eq b 48 0 (fun l => foldF K l.reverse s fun v => C (s8add s v))
  simp only [wmore, Nat.zero_add] at this
  rw [this, List.reverse_reverse, foldF_eq]
  rfl
def blkA : List Nat := (84 :: 97 :: 112 :: 76 :: 101 :: 97 :: 102 :: 128 :: 0 :: 0 :: 0 :: 0 :: 0 :: 0 :: 0 :: 0 :: 0 :: 0 :: 0 :: 0 :: 0 :: 0 :: 0 :: 0 :: 0 :: 0 :: 0 :: 0 :: 0 :: 0 :: 0 :: 0 :: 0 :: 0 :: 0 :: 0 :: 0 :: 0 :: 0 :: 0 :: 0 :: 0 :: 0 :: 0 :: 0 :: 0 :: 0 :: 0 :: 0 :: 0 :: 0 :: 0 :: 0 :: 0 :: 0 :: 0 :: 0 :: 0 :: 0 :: 0 :: 0 :: 0 :: 0 :: 56 :: [])
def blkB : List Nat := (174 :: 234 :: 143 :: 220 :: 66 :: 8 :: 152 :: 49 :: 5 :: 115 :: 75 :: 88 :: 8 :: 29 :: 30 :: 38 :: 56 :: 211 :: 95 :: 28 :: 181 :: 64 :: 8 :: 212 :: 211 :: 87 :: 202 :: 3 :: 190 :: 120 :: 233 :: 238 :: 174 :: 234 :: 143 :: 220 :: 66 :: 8 :: 152 :: 49 :: 5 :: 115 :: 75 :: 88 :: 8 :: 29 :: 30 :: 38 :: 56 :: 211 :: 95 :: 28 :: 181 :: 64 :: 8 :: 212 :: 211 :: 87 :: 202 :: 3 :: 190 :: 120 :: 233 :: 238 :: [])
def blkC : List Nat := (192 :: 1 :: 81 :: 128 :: 0 :: 0 :: 0 :: 0 :: 0 :: 0 :: 0 :: 0 :: 0 :: 0 :: 0 :: 0 :: 0 :: 0 :: 0 :: 0 :: 0 :: 0 :: 0 :: 0 :: 0 :: 0 :: 0 :: 0 :: 0 :: 0 :: 0 :: 0 :: 0 :: 0 :: 0 :: 0 :: 0 :: 0 :: 0 :: 0 :: 0 :: 0 :: 0 :: 0 :: 0 :: 0 :: 0 :: 0 :: 0 :: 0 :: 0 :: 0 :: 0 :: 0 :: 0 :: 0 :: 0 :: 0 :: 0 :: 0 :: 0 :: 0 :: 2 :: 24 :: [])
def stA : S8 := ⟨2934607836, 1107859505, 91442008, 136125990, 953376540, 3040872660, 3545745923, 3195595246⟩
def stB : S8 := ⟨2631984358, 2081516601, 951306994, 3272560777, 3555955564, 1197698656, 2108899050, 3720802505⟩
def stC : S8 := ⟨2824544519, 4153520746, 2229753964, 684640203, 1629499091, 3491316952, 844107574, 931321461⟩
def digA : List Nat := (174 :: 234 :: 143 :: 220 :: 66 :: 8 :: 152 :: 49 :: 5 :: 115 :: 75 :: 88 :: 8 :: 29 :: 30 :: 38 :: 56 :: 211 :: 95 :: 28 :: 181 :: 64 :: 8 :: 212 :: 211 :: 87 :: 202 :: 3 :: 190 :: 120 :: 233 :: 238 :: [])
def digC : List Nat := (168 :: 91 :: 33 :: 7 :: 247 :: 145 :: 178 :: 106 :: 132 :: 231 :: 88 :: 108 :: 40 :: 206 :: 199 :: 203 :: 97 :: 32 :: 46 :: 211 :: 208 :: 25 :: 68 :: 216 :: 50 :: 80 :: 15 :: 54 :: 55 :: 130 :: 214 :: 117 :: [])
theorem stepA : take H0 blkA = stA := by
  have h : takeF H0 blkA id = stA := by kernel_rfl
  rw [takeF_eq] at h
  exact h
theorem stepB : take H0 blkB = stB := by
  have h : takeF H0 blkB id = stB := by kernel_rfl
  rw [takeF_eq] at h
  exact h
theorem stepC : take stB blkC = stC := by
  have h : takeF stB blkC id = stC := by kernel_rfl
  rw [takeF_eq] at h
  exact h
theorem E_blk {s : S8} {b : List Nat} (h : b.length = 64) : E s b = (take s b, []) := by
  rw [E_more (by omega), List.take_of_length_le (by omega), List.drop_eq_nil_of_le (by omega), E_none (by decide)]
theorem sumA : sumB (84 :: 97 :: 112 :: 76 :: 101 :: 97 :: 102 :: []) = digA := by
  have hl : Go.Proofs.Ytiihldilefeldaa.lastOf (84 :: 97 :: 112 :: 76 :: 101 :: 97 :: 102 :: []) 7 = blkA := by kernel_rfl
  have hE : E H0 (84 :: 97 :: 112 :: 76 :: 101 :: 97 :: 102 :: []) = (H0, (84 :: 97 :: 112 :: 76 :: 101 :: 97 :: 102 :: [])) := E_none (by decide)
  unfold sumB fin
  rw [hE]
  show dig (E H0 (Go.Proofs.Ytiihldilefeldaa.lastOf (84 :: 97 :: 112 :: 76 :: 101 :: 97 :: 102 :: []) 7)).1 = _
  rw [hl, E_blk (by kernel_rfl), stepA]
  kernel_rfl
theorem sumC : tagB (84 :: 97 :: 112 :: 76 :: 101 :: 97 :: 102 :: []) (192 :: 1 :: 81 :: []) = digC := by
  have hb : digA ++ (digA ++ (192 :: 1 :: 81 :: [])) = blkB ++ (192 :: 1 :: 81 :: []) := by kernel_rfl
  have hl : Go.Proofs.Ytiihldilefeldaa.lastOf (192 :: 1 :: 81 :: []) 67 = blkC := by kernel_rfl
  have hE : E H0 (blkB ++ (192 :: 1 :: 81 :: [])) = (stB, (192 :: 1 :: 81 :: [])) := by
    have h1 : E H0 blkB = (stB, []) := by rw [E_blk (by kernel_rfl), stepB]
    have h2 : E stB (192 :: 1 :: 81 :: []) = (stB, (192 :: 1 :: 81 :: [])) := E_none (by decide)
    rw [E_app _ _ _ _ (Nat.le_refl _), h1]
    exact h2
  unfold tagB
  rw [sumA, hb]
  unfold sumB fin
  rw [hE]
  show dig (E stB (Go.Proofs.Ytiihldilefeldaa.lastOf (192 :: 1 :: 81 :: []) 67)).1 = _
  rw [hl, E_blk (by kernel_rfl), stepC]
  kernel_rfl
end Go.Sha
