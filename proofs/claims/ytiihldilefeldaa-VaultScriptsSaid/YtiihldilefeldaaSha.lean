/-
  SHA-256, by numbers: what both texts reckon. No program in sight.
-/
import Derived.Test.YtiihldilefeldaaAmZi
namespace Go.Sha
open Go.Am

def M : Nat := 4294967296
def a32 (a b : Nat) : Nat := (a + b) % 4294967296
def x32 (a b : Nat) : Nat := (a ^^^ b) % 4294967296
def n32 (a b : Nat) : Nat := (a &&& b) % 4294967296
def o32 (a b : Nat) : Nat := (a ||| b) % 4294967296
def c32 (a : Nat) : Nat := (4294967295 ^^^ a) % 4294967296
/-- turned to the left -/
def s32 (n a : Nat) : Nat := a * 2 ^ n % 4294967296
def r32 (n a : Nat) : Nat := a / 2 ^ n
def t32 (a : Nat) : Nat := a % 4294967296
def t8 (a : Nat) : Nat := a % 256
def rol (s x : Nat) : Nat := o32 (s32 s x) (r32 (32 - s) x)

theorem u32w (x : Int) : IntKind.u32.wrap x = x % 4294967296 := by simp [IntKind.wrap, IntKind.bits, IntKind.signed]
theorem u64w (x : Int) : IntKind.u64.wrap x = x % 18446744073709551616 := by simp [IntKind.wrap, IntKind.bits, IntKind.signed]
theorem u8w (x : Int) : IntKind.u8.wrap x = x % 256 := by simp [IntKind.wrap, IntKind.bits, IntKind.signed]

theorem ofInt_nat (k : Nat) (a : Nat) : (BitVec.ofInt k (a : Int)).toNat = a % 2 ^ k := by
  rw [BitVec.toNat_ofInt]
  omega

theorem w_add (a b : Nat) : IntKind.u32.wrap ((a : Int) + (b : Int)) = ((a32 a b : Nat) : Int) := by rw [u32w]; unfold a32; omega
theorem w_nat (a : Nat) : IntKind.u32.wrap (a : Int) = ((t32 a : Nat) : Int) := by rw [u32w]; unfold t32; omega
theorem w8_nat (a : Nat) : IntKind.u8.wrap (a : Int) = ((t8 a : Nat) : Int) := by rw [u8w]; unfold t8; omega
theorem w_mul (a b : Nat) : IntKind.u32.wrap ((a : Int) * (b : Int)) = ((a * b % 4294967296 : Nat) : Int) := by
  rw [u32w, ← Int.natCast_mul]; omega
theorem w_shl (a n : Nat) : IntKind.u32.wrap ((a : Int) * 2 ^ n) = ((s32 n a : Nat) : Int) := by
  have := w_mul a (2 ^ n)
  rw [Int.natCast_pow] at this
  exact this
theorem w_s8 (a : Nat) : IntKind.u32.wrap ((a : Int) * 256) = ((s32 8 a : Nat) : Int) := w_mul a 256
theorem w_xor (a b : Nat) : bits .xor .u32 (a : Int) (b : Int) = ((x32 a b : Nat) : Int) := by
  show IntKind.u32.wrap (((BitVec.ofInt 32 (a : Int)) ^^^ (BitVec.ofInt 32 (b : Int))).toNat : Int) = _
  rw [BitVec.toNat_xor, ofInt_nat, ofInt_nat, ← Nat.xor_mod_two_pow, w_nat]
  unfold x32 t32
  congr 1
  omega
theorem w_and (a b : Nat) : bits .and .u32 (a : Int) (b : Int) = ((n32 a b : Nat) : Int) := by
  show IntKind.u32.wrap (((BitVec.ofInt 32 (a : Int)) &&& (BitVec.ofInt 32 (b : Int))).toNat : Int) = _
  rw [BitVec.toNat_and, ofInt_nat, ofInt_nat, ← Nat.and_mod_two_pow, w_nat]
  unfold n32 t32
  congr 1
  omega
theorem w_or (a b : Nat) : bits .or .u32 (a : Int) (b : Int) = ((o32 a b : Nat) : Int) := by
  show IntKind.u32.wrap (((BitVec.ofInt 32 (a : Int)) ||| (BitVec.ofInt 32 (b : Int))).toNat : Int) = _
  rw [BitVec.toNat_or, ofInt_nat, ofInt_nat, ← Nat.or_mod_two_pow, w_nat]
  unfold o32 t32
  congr 1
  omega
theorem w_not (a : Nat) : bits .xor .u32 4294967295 (a : Int) = ((c32 a : Nat) : Int) := w_xor 4294967295 a
theorem fdiv_nat (a b : Nat) : Int.fdiv (a : Int) (b : Int) = ((a / b : Nat) : Int) := by
  rw [Int.fdiv_eq_ediv_of_nonneg _ (by omega)]
  exact (Int.natCast_ediv a b).symm

theorem d_r (a n : Nat) : Int.fdiv (a : Int) (2 ^ n) = ((r32 n a : Nat) : Int) := by
  have := fdiv_nat a (2 ^ n)
  rw [Int.natCast_pow] at this
  exact this
theorem d_r3 (a : Nat) : Int.fdiv (a : Int) 8 = ((r32 3 a : Nat) : Int) := fdiv_nat a 8
theorem d_r10 (a : Nat) : Int.fdiv (a : Int) 1024 = ((r32 10 a : Nat) : Int) := fdiv_nat a 1024

/-- Numbers of 32 bits as cells. -/
def cw (l : List Nat) : List AV := l.map fun (x : Nat) => AV.d (.int .u32 (x : Int))
theorem cw_len (l : List Nat) : (cw l).length = l.length := by simp [cw]
theorem cw_get (l : List Nat) (i : Nat) : (cw l)[i]? = (l[i]?).map fun (x : Nat) => AV.d (.int .u32 (x : Int)) := by simp [cw]
theorem cw_set (l : List Nat) (i x : Nat) : (cw l).set i (.d (.int .u32 (x : Int))) = cw (l.set i x) := by simp [cw, List.map_set]
theorem cw_app (a b : List Nat) : cw (a ++ b) = cw a ++ cw b := by simp [cw]
theorem cw_ren (ρ : Nat → Nat) : ∀ l : List Nat, AV.renL ρ (cw l) = cw l
  | [] => by simp [cw, AV.renL]
  | x :: r => by
    have := cw_ren ρ r
    simp only [cw] at this
    simp only [cw, List.map_cons, AV.renL, AV.ren, this]
/-- Bytes, as what is read-only. -/
def nb (bs : List Nat) : DV := .ro 1 (bs.map fun (b : Nat) => [.int .u8 (b : Int)])

structure S8 where
  a : Nat
  b : Nat
  c : Nat
  d : Nat
  e : Nat
  f : Nat
  g : Nat
  h : Nat
def S8.l (s : S8) : List Nat := [s.a, s.b, s.c, s.d, s.e, s.f, s.g, s.h]

/-- One round. -/
def T1 (s : S8) (k w : Nat) : Nat := a32 (a32 (a32 (a32 s.h (x32 (x32 (rol 26 s.e) (rol 21 s.e)) (rol 7 s.e))) (x32 (n32 s.e s.f) (n32 (c32 s.e) s.g))) k) w
def T2 (s : S8) : Nat := a32 (x32 (x32 (rol 30 s.a) (rol 19 s.a)) (rol 10 s.a)) (x32 (x32 (n32 s.a s.b) (n32 s.a s.c)) (n32 s.b s.c))
def rd (s : S8) (k w : Nat) : S8 := ⟨a32 (T1 s k w) (T2 s), s.a, s.b, s.c, a32 s.d (T1 s k w), s.e, s.f, s.g⟩
def rdp (s : S8) (p : Nat × Nat) : S8 := rd s p.1 p.2
section
variable {α β : Type} (f : β → α → β)
def restG (t : Nat) (l : List α) (s : β) : β := (l.drop t).foldl f s
theorem restG_step {l : List α} {p : α} {s : β} {t : Nat} (h : l[t]? = some p) : restG f t l s = restG f (t + 1) l (f s p) := by
  obtain ⟨h1, h2⟩ := List.getElem?_eq_some_iff.1 h
  unfold restG
  rw [List.drop_eq_getElem_cons h1, List.foldl_cons, h2]
theorem restG_end {l : List α} {s : β} {t : Nat} (h : l.length ≤ t) : restG f t l s = s := by
  unfold restG
  rw [List.drop_eq_nil_of_le h, List.foldl_nil]
end
def rounds (ks ws : List Nat) (s : S8) : S8 := restG rdp 0 (ks.zip ws) s
def s8add (s v : S8) : S8 := ⟨a32 s.a v.a, a32 s.b v.b, a32 s.c v.c, a32 s.d v.d, a32 s.e v.e, a32 s.f v.f, a32 s.g v.g, a32 s.h v.h⟩

/-- A word of four bytes. -/
def word (b : List Nat) : Nat := b.foldl (fun x c => o32 (s32 8 x) (t32 c)) 0
/-- The next word. -/
def wx (w : List Nat) : Nat :=
  let t := w.length
  let x := w.getD (t - 15) 0
  let y := w.getD (t - 2) 0
  let s0 := x32 (x32 (rol 25 x) (rol 14 x)) (r32 3 x)
  let s1 := x32 (x32 (rol 15 y) (rol 13 y)) (r32 10 y)
  a32 (a32 (a32 (w.getD (t - 16) 0) s0) (w.getD (t - 7) 0)) s1
def wfirst (b : List Nat) : Nat → List Nat
  | 0 => []
  | n + 1 => wfirst b n ++ [word ((b.take (4 * n + 4)).drop (4 * n))]
def wmore (b : List Nat) : Nat → List Nat
  | 0 => wfirst b 16
  | n + 1 => wmore b n ++ [wx (wmore b n)]
theorem wfirst_len (b : List Nat) : ∀ n, (wfirst b n).length = n
  | 0 => rfl
  | n + 1 => by simp [wfirst, wfirst_len b n]
theorem wmore_len (b : List Nat) : ∀ n, (wmore b n).length = n + 16
  | 0 => wfirst_len b 16
  | n + 1 => by
    have := wmore_len b n
    simp only [wmore, List.length_append, this, List.length_singleton]
/-- The 64 words of a block. -/
def sched (b : List Nat) : List Nat := wmore b 48

theorem sched_len (b : List Nat) : (sched b).length = 64 := wmore_len b 48

def K : List Nat := [0x428a2f98, 0x71374491, 0xb5c0fbcf, 0xe9b5dba5, 0x3956c25b, 0x59f111f1, 0x923f82a4, 0xab1c5ed5] ++ [0xd807aa98, 0x12835b01, 0x243185be, 0x550c7dc3, 0x72be5d74, 0x80deb1fe, 0x9bdc06a7, 0xc19bf174] ++
  [0xe49b69c1, 0xefbe4786, 0x0fc19dc6, 0x240ca1cc, 0x2de92c6f, 0x4a7484aa, 0x5cb0a9dc, 0x76f988da] ++ [0x983e5152, 0xa831c66d, 0xb00327c8, 0xbf597fc7, 0xc6e00bf3, 0xd5a79147, 0x06ca6351, 0x14292967] ++
  [0x27b70a85, 0x2e1b2138, 0x4d2c6dfc, 0x53380d13, 0x650a7354, 0x766a0abb, 0x81c2c92e, 0x92722c85] ++ [0xa2bfe8a1, 0xa81a664b, 0xc24b8b70, 0xc76c51a3, 0xd192e819, 0xd6990624, 0xf40e3585, 0x106aa070] ++
  [0x19a4c116, 0x1e376c08, 0x2748774c, 0x34b0bcb5, 0x391c0cb3, 0x4ed8aa4a, 0x5b9cca4f, 0x682e6ff3] ++ [0x748f82ee, 0x78a5636f, 0x84c87814, 0x8cc70208, 0x90befffa, 0xa4506ceb, 0xbef9a3f7, 0xc67178f2]
def H0 : S8 := ⟨0x6a09e667, 0xbb67ae85, 0x3c6ef372, 0xa54ff53a, 0x510e527f, 0x9b05688c, 0x1f83d9ab, 0x5be0cd19⟩
/-- The state behind a block. -/
def take (s : S8) (b : List Nat) : S8 := s8add s (rounds K (sched b) s)
/-- As many whole blocks as there are. -/
def eat : Nat → S8 → List Nat → S8 × List Nat
  | 0, s, b => (s, b)
  | n + 1, s, b => if 64 ≤ b.length then eat n (Go.Sha.take s (b.take 64)) (b.drop 64) else (s, b)
/-- A word's bytes, so many of them. -/
def wbk (x : Nat) : Nat → List Nat
  | 0 => []
  | k + 1 => wbk x k ++ [t8 (r32 (24 - 8 * k) x)]
theorem wbk_len (x : Nat) : ∀ k, (wbk x k).length = k
  | 0 => rfl
  | k + 1 => by simp [wbk, wbk_len x k]
def pre (l : List Nat) : Nat → List Nat
  | 0 => []
  | i + 1 => pre l i ++ wbk (l.getD i 0) 4
theorem pre_len (l : List Nat) : ∀ i, (pre l i).length = 4 * i
  | 0 => rfl
  | i + 1 => by simp [pre, pre_len l i, wbk_len]; omega
/-- The sum's bytes. -/
def dig (s : S8) : List Nat := pre s.l 8
end Go.Sha
