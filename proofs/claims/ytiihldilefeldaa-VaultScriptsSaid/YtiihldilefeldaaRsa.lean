/-
  SHA-256: the other text's way to reckon, and that it comes to the same. No program in sight.
-/
import Derived.Test.YtiihldilefeldaaSht
namespace Go.Sha
open Go.Am
set_option linter.unusedSimpArgs false
set_option linter.unusedVariables false

/-- turned to the right -/
def ror (n x : Nat) : Nat := o32 (r32 n x) (s32 (32 - n) x)
theorem ror_rol {n x : Nat} (h : n ≤ 32) : ror n x = rol (32 - n) x := by
  unfold ror rol o32
  rw [Nat.or_comm, show 32 - (32 - n) = n by omega]
theorem a32_comm (a b : Nat) : a32 a b = a32 b a := by unfold a32; rw [Nat.add_comm]
theorem x32_c (e : Nat) : x32 e 4294967295 = c32 e := by unfold x32 c32; rw [Nat.xor_comm]

theorem or_lt {x i c : Nat} (h : c < 2 ^ i) : x * 2 ^ i ||| c = x * 2 ^ i + c := by
  rw [← Nat.shiftLeft_eq, Nat.shiftLeft_add_eq_or_of_lt h]
def word4 (a b c d : Nat) : Nat := o32 (o32 (o32 (s32 24 (t32 a)) (s32 16 (t32 b))) (s32 8 (t32 c))) (t32 d)
theorem o32_lt {x i c : Nat} (hx : x * 2 ^ i + c < 4294967296) (h : c < 2 ^ i) : o32 (x * 2 ^ i) c = x * 2 ^ i + c := by
  unfold o32
  rw [or_lt h, Nat.mod_eq_of_lt hx]
theorem t32_lt {x : Nat} (h : x < 4294967296) : t32 x = x := Nat.mod_eq_of_lt h
theorem s32_lt {x i : Nat} (h : x * 2 ^ i < 4294967296) : s32 i x = x * 2 ^ i := Nat.mod_eq_of_lt h
theorem o8 {x y : Nat} (hx : x < 16777216) (hy : y < 256) : o32 (s32 8 x) (t32 y) = x * 256 + y := by
  rw [t32_lt (by omega), s32_lt (by omega), o32_lt (by omega) (by omega)]
theorem word4_eq {a b c d : Nat} (ha : a < 256) (hb : b < 256) (hc : c < 256) (hd : d < 256) : word4 a b c d = word [a, b, c, d] := by
  have r : word [a, b, c, d] = ((a * 256 + b) * 256 + c) * 256 + d := by
    unfold word
    simp only [List.foldl_cons, List.foldl_nil]
    rw [o8 (by omega) ha, o8 (by omega) hb, o8 (by omega) hc, o8 (by omega) hd]
    omega
  rw [r]
  unfold word4
  rw [t32_lt (by omega : a < 4294967296), t32_lt (by omega : b < 4294967296), t32_lt (by omega : c < 4294967296), t32_lt (by omega : d < 4294967296), s32_lt (by omega), s32_lt (by omega), s32_lt (by omega)]
  rw [o32_lt (by omega) (by omega)]
  rw [show a * 2 ^ 24 + b * 2 ^ 16 = (a * 2 ^ 8 + b) * 2 ^ 16 by omega]
  rw [o32_lt (by omega) (by omega)]
  rw [show (a * 2 ^ 8 + b) * 2 ^ 16 + c * 2 ^ 8 = ((a * 2 ^ 8 + b) * 2 ^ 8 + c) * 2 ^ 8 by omega]
  rw [o32_lt (by omega) (by omega)]

/-- The next word, summed in the other order. -/
def wx2 (w : List Nat) : Nat :=
  let t := w.length
  let x := w.getD (t - 15) 0
  let y := w.getD (t - 2) 0
  let s0 := x32 (x32 (ror 7 x) (ror 18 x)) (r32 3 x)
  let s1 := x32 (x32 (ror 17 y) (ror 19 y)) (r32 10 y)
  a32 (a32 (a32 s1 (w.getD (t - 7) 0)) s0) (w.getD (t - 16) 0)
theorem wx2_eq (w : List Nat) : wx2 w = wx w := by
  unfold wx2 wx
  simp only [ror_rol (show 7 ≤ 32 by omega), ror_rol (show 18 ≤ 32 by omega), ror_rol (show 17 ≤ 32 by omega), ror_rol (show 19 ≤ 32 by omega)]
  generalize x32 (x32 (rol (32 - 7) (w.getD (w.length - 15) 0)) (rol (32 - 18) (w.getD (w.length - 15) 0))) (r32 3 (w.getD (w.length - 15) 0)) = s0
  generalize x32 (x32 (rol (32 - 17) (w.getD (w.length - 2) 0)) (rol (32 - 19) (w.getD (w.length - 2) 0))) (r32 10 (w.getD (w.length - 2) 0)) = s1
  unfold a32
  omega
/-- So many words of a block. -/
def wds (b : List Nat) (t : Nat) : List Nat := if t ≤ 16 then wfirst b t else wmore b (t - 16)
theorem wds_len (b : List Nat) (t : Nat) : (wds b t).length = t := by
  unfold wds
  split
  · exact wfirst_len b t
  · rw [wmore_len]; omega
theorem wds_lo {b : List Nat} {t : Nat} (h : t < 16) : wds b (t + 1) = wds b t ++ [word ((b.take (4 * t + 4)).drop (4 * t))] := by
  unfold wds
  rw [if_pos (by omega), if_pos (by omega)]
  rfl
theorem wds_hi {b : List Nat} {t : Nat} (h : 16 ≤ t) : wds b (t + 1) = wds b t ++ [wx (wds b t)] := by
  have e : wds b t = wmore b (t - 16) := by
    unfold wds
    split
    · have : t = 16 := by omega
      subst this
      rfl
    · rfl
  rw [e]
  unfold wds
  rw [if_neg (by omega), show t + 1 - 16 = (t - 16) + 1 by omega]
  rfl
theorem wds_end (b : List Nat) : wds b 64 = sched b := rfl

/-- What is hashed, padded as a whole. -/
theorem padTo_app {a : List Nat} (ha : a.length % 64 = 0) : ∀ (n : Nat) (l : List Nat), Go.Proofs.Ytiihldilefeldaa.padTo n (a ++ l) = a ++ Go.Proofs.Ytiihldilefeldaa.padTo n l
  | 0, l => rfl
  | n + 1, l => by
    unfold Go.Proofs.Ytiihldilefeldaa.padTo
    have : (a ++ l).length % 64 = l.length % 64 := by rw [List.length_append]; omega
    rw [this]
    split
    · rfl
    · rw [List.append_assoc]
      exact padTo_app ha n (l ++ [0])
theorem lastOf_app {a l : List Nat} (ha : a.length % 64 = 0) (n : Nat) : Go.Proofs.Ytiihldilefeldaa.lastOf (a ++ l) n = a ++ Go.Proofs.Ytiihldilefeldaa.lastOf l n := by
  unfold Go.Proofs.Ytiihldilefeldaa.lastOf
  rw [List.append_assoc, padTo_app ha, List.append_assoc]
theorem E_last (n : Nat) : ∀ (k : Nat) (s : S8) (b : List Nat), b.length ≤ k → E s (Go.Proofs.Ytiihldilefeldaa.lastOf b n) = E (E s b).1 (Go.Proofs.Ytiihldilefeldaa.lastOf (E s b).2 n)
  | 0, s, b, h => by rw [E_none (b := b) (by omega)]
  | k + 1, s, b, h => by
    by_cases h64 : 64 ≤ b.length
    · rw [E_more (b := b) h64]
      have e : Go.Proofs.Ytiihldilefeldaa.lastOf b n = b.take 64 ++ Go.Proofs.Ytiihldilefeldaa.lastOf (b.drop 64) n := by
        rw [← lastOf_app (by rw [List.length_take]; omega), List.take_append_drop]
      have h3 : 64 ≤ (b.take 64 ++ Go.Proofs.Ytiihldilefeldaa.lastOf (b.drop 64) n).length := by simp; omega
      rw [e, E_more h3]
      have hl : (b.take 64).length = 64 := by rw [List.length_take]; omega
      rw [List.take_append_of_le_length (by omega), List.drop_append_of_le_length (by omega), List.take_of_length_le (by omega : (b.take 64).length ≤ 64), List.drop_eq_nil_of_le (by omega), List.nil_append]
      exact E_last n k _ _ (by rw [List.length_drop]; omega)
    · rw [E_none (b := b) (by omega)]
theorem sumB_whole (b : List Nat) : sumB b = dig (E H0 (Go.Proofs.Ytiihldilefeldaa.lastOf b b.length)).1 := by
  unfold sumB fin
  rw [E_last b.length b.length H0 b (Nat.le_refl _)]
/-- One sum of numbers behind another. -/
def addL (h : List Nat) : Nat → List Nat → List Nat
  | 0, v => v
  | i + 1, v => (addL h i v).set i (a32 ((addL h i v).getD i 0) (h.getD i 0))
theorem addL_len (h : List Nat) (v : List Nat) : ∀ i, (addL h i v).length = v.length
  | 0 => rfl
  | i + 1 => by simp [addL, addL_len h v i]
theorem addL_end (s v : S8) : addL s.l 8 v.l = (s8add s v).l := by
  simp [addL, S8.l, s8add, a32_comm]
end Go.Sha
