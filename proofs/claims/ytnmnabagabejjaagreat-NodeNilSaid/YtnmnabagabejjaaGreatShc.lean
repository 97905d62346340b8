/-
  SHA-256, by numbers: what both texts reckon. No program in sight.
-/
import Derived.Test.YtnmnabagabejjaaGreatAmZi
import Derived.Test.YtnmnabagabejjaaGreatTyA
import Derived.Test.YtnmnabagabejjaaGreatAmLaw
namespace Go.Sha
open Go.Am

def M : Nat := 4294967296
def a32 (a b : Nat) : Nat := (a + b) % 4294967296
def x32 (a b : Nat) : Nat := (a ^^^ b) % 4294967296
def n32 (a b : Nat) : Nat := (a &&& b) % 4294967296
def o32 (a b : Nat) : Nat := (a ||| b) % 4294967296
def c32 (a : Nat) : Nat := (4294967295 ^^^ a) % 4294967296
/-- turned to the left -/
def s32 (n a : Nat) : Nat := a * 2 ^ n % 4294967296
def r32 (n a : Nat) : Nat := a / 2 ^ n
def t32 (a : Nat) : Nat := a % 4294967296
def t8 (a : Nat) : Nat := a % 256
def rol (s x : Nat) : Nat := o32 (s32 s x) (r32 (32 - s) x)

theorem u32w (x : Int) : IntKind.u32.wrap x = x % 4294967296 := by simp [IntKind.wrap, IntKind.bits, IntKind.signed]
theorem u64w (x : Int) : IntKind.u64.wrap x = x % 18446744073709551616 := by simp [IntKind.wrap, IntKind.bits, IntKind.signed]
theorem u8w (x : Int) : IntKind.u8.wrap x = x % 256 := by simp [IntKind.wrap, IntKind.bits, IntKind.signed]

theorem ofInt_nat (k : Nat) (a : Nat) : (BitVec.ofInt k (a : Int)).toNat = a % 2 ^ k := by
  rw [BitVec.toNat_ofInt]
  omega

theorem w_add (a b : Nat) : IntKind.u32.wrap ((a : Int) + (b : Int)) = ((a32 a b : Nat) : Int) := by rw [u32w]; unfold a32; omega
theorem w_nat (a : Nat) : IntKind.u32.wrap (a : Int) = ((t32 a : Nat) : Int) := by rw [u32w]; unfold t32; omega
theorem w8_nat (a : Nat) : IntKind.u8.wrap (a : Int) = ((t8 a : Nat) : Int) := by rw [u8w]; unfold t8; omega
theorem w_mul (a b : Nat) : IntKind.u32.wrap ((a : Int) * (b : Int)) = ((a * b % 4294967296 : Nat) : Int) := by
  rw [u32w, ← Int.natCast_mul]; omega
theorem w_shl (a n : Nat) : IntKind.u32.wrap ((a : Int) * 2 ^ n) = ((s32 n a : Nat) : Int) := by
  have := w_mul a (2 ^ n)
  rw [Int.natCast_pow] at this
  exact this
theorem w_s8 (a : Nat) : IntKind.u32.wrap ((a : Int) * 256) = ((s32 8 a : Nat) : Int) := w_mul a 256
theorem w_xor (a b : Nat) : bits .xor .u32 (a : Int) (b : Int) = ((x32 a b : Nat) : Int) := by
  show IntKind.u32.wrap (((BitVec.ofInt 32 (a : Int)) ^^^ (BitVec.ofInt 32 (b : Int))).toNat : Int) = _
  rw [BitVec.toNat_xor, ofInt_nat, ofInt_nat, ← Nat.xor_mod_two_pow, w_nat]
  unfold x32 t32
  congr 1
  omega
theorem w_and (a b : Nat) : bits .and .u32 (a : Int) (b : Int) = ((n32 a b : Nat) : Int) := by
  show IntKind.u32.wrap (((BitVec.ofInt 32 (a : Int)) &&& (BitVec.ofInt 32 (b : Int))).toNat : Int) = _
  rw [BitVec.toNat_and, ofInt_nat, ofInt_nat, ← Nat.and_mod_two_pow, w_nat]
  unfold n32 t32
  congr 1
  omega
theorem w_or (a b : Nat) : bits .or .u32 (a : Int) (b : Int) = ((o32 a b : Nat) : Int) := by
  show IntKind.u32.wrap (((BitVec.ofInt 32 (a : Int)) ||| (BitVec.ofInt 32 (b : Int))).toNat : Int) = _
  rw [BitVec.toNat_or, ofInt_nat, ofInt_nat, ← Nat.or_mod_two_pow, w_nat]
  unfold o32 t32
  congr 1
  omega
theorem w_not (a : Nat) : bits .xor .u32 4294967295 (a : Int) = ((c32 a : Nat) : Int) := w_xor 4294967295 a
theorem fdiv_nat (a b : Nat) : Int.fdiv (a : Int) (b : Int) = ((a / b : Nat) : Int) := by
  rw [Int.fdiv_eq_ediv_of_nonneg _ (by omega)]
  exact (Int.natCast_ediv a b).symm

theorem d_r (a n : Nat) : Int.fdiv (a : Int) (2 ^ n) = ((r32 n a : Nat) : Int) := by
  have := fdiv_nat a (2 ^ n)
  rw [Int.natCast_pow] at this
  exact this
theorem d_r3 (a : Nat) : Int.fdiv (a : Int) 8 = ((r32 3 a : Nat) : Int) := fdiv_nat a 8
theorem d_r10 (a : Nat) : Int.fdiv (a : Int) 1024 = ((r32 10 a : Nat) : Int) := fdiv_nat a 1024

/-- Numbers of 32 bits as cells. -/
def cw (l : List Nat) : List AV := l.map fun (x : Nat) => AV.d (.int .u32 (x : Int))
theorem cw_len (l : List Nat) : (cw l).length = l.length := by simp [cw]
theorem cw_get (l : List Nat) (i : Nat) : (cw l)[i]? = (l[i]?).map fun (x : Nat) => AV.d (.int .u32 (x : Int)) := by simp [cw]
theorem cw_set (l : List Nat) (i x : Nat) : (cw l).set i (.d (.int .u32 (x : Int))) = cw (l.set i x) := by simp [cw, List.map_set]
theorem cw_app (a b : List Nat) : cw (a ++ b) = cw a ++ cw b := by simp [cw]
theorem cw_ren (ρ : Nat → Nat) : ∀ l : List Nat, AV.renL ρ (cw l) = cw l
  | [] => by simp [cw, AV.renL]
  | x :: r => by
    have := cw_ren ρ r
    simp only [cw] at this
    simp only [cw, List.map_cons, AV.renL, AV.ren, this]
/-- Bytes, as what is read-only. -/
def nb (bs : List Nat) : DV := .ro 1 (bs.map fun (b : Nat) => [.int .u8 (b : Int)])

structure S8 where
  a : Nat
  b : Nat
  c : Nat
  d : Nat
  e : Nat
  f : Nat
  g : Nat
  h : Nat
def S8.l (s : S8) : List Nat := [s.a, s.b, s.c, s.d, s.e, s.f, s.g, s.h]

/-- One round. -/
def T1 (s : S8) (k w : Nat) : Nat := a32 (a32 (a32 (a32 s.h (x32 (x32 (rol 26 s.e) (rol 21 s.e)) (rol 7 s.e))) (x32 (n32 s.e s.f) (n32 (c32 s.e) s.g))) k) w
def T2 (s : S8) : Nat := a32 (x32 (x32 (rol 30 s.a) (rol 19 s.a)) (rol 10 s.a)) (x32 (x32 (n32 s.a s.b) (n32 s.a s.c)) (n32 s.b s.c))
def rd (s : S8) (k w : Nat) : S8 := ⟨a32 (T1 s k w) (T2 s), s.a, s.b, s.c, a32 s.d (T1 s k w), s.e, s.f, s.g⟩
def rdp (s : S8) (p : Nat × Nat) : S8 := rd s p.1 p.2
section
variable {α β : Type} (f : β → α → β)
def restG (t : Nat) (l : List α) (s : β) : β := (l.drop t).foldl f s
theorem restG_step {l : List α} {p : α} {s : β} {t : Nat} (h : l[t]? = some p) : restG f t l s = restG f (t + 1) l (f s p) := by
  obtain ⟨h1, h2⟩ := List.getElem?_eq_some_iff.1 h
  unfold restG
  rw [List.drop_eq_getElem_cons h1, List.foldl_cons, h2]
theorem restG_end {l : List α} {s : β} {t : Nat} (h : l.length ≤ t) : restG f t l s = s := by
  unfold restG
  rw [List.drop_eq_nil_of_le h, List.foldl_nil]
end
def rounds (ks ws : List Nat) (s : S8) : S8 := restG rdp 0 (ks.zip ws) s
def s8add (s v : S8) : S8 := ⟨a32 s.a v.a, a32 s.b v.b, a32 s.c v.c, a32 s.d v.d, a32 s.e v.e, a32 s.f v.f, a32 s.g v.g, a32 s.h v.h⟩

/-- A word of four bytes. -/
def word (b : List Nat) : Nat := b.foldl (fun x c => o32 (s32 8 x) (t32 c)) 0
/-- The next word. -/
def wx (w : List Nat) : Nat :=
  let t := w.length
  let x := w.getD (t - 15) 0
  let y := w.getD (t - 2) 0
  let s0 := x32 (x32 (rol 25 x) (rol 14 x)) (r32 3 x)
  let s1 := x32 (x32 (rol 15 y) (rol 13 y)) (r32 10 y)
  a32 (a32 (a32 (w.getD (t - 16) 0) s0) (w.getD (t - 7) 0)) s1
def wfirst (b : List Nat) : Nat → List Nat
  | 0 => []
  | n + 1 => wfirst b n ++ [word ((b.take (4 * n + 4)).drop (4 * n))]
def wmore (b : List Nat) : Nat → List Nat
  | 0 => wfirst b 16
  | n + 1 => wmore b n ++ [wx (wmore b n)]
theorem wfirst_len (b : List Nat) : ∀ n, (wfirst b n).length = n
  | 0 => rfl
  | n + 1 => by simp [wfirst, wfirst_len b n]
theorem wmore_len (b : List Nat) : ∀ n, (wmore b n).length = n + 16
  | 0 => wfirst_len b 16
  | n + 1 => by
    have := wmore_len b n
    simp only [wmore, List.length_append, this, List.length_singleton]
/-- The 64 words of a block. -/
def sched (b : List Nat) : List Nat := wmore b 48

theorem sched_len (b : List Nat) : (sched b).length = 64 := wmore_len b 48

def K : List Nat := [0x428a2f98, 0x71374491, 0xb5c0fbcf, 0xe9b5dba5, 0x3956c25b, 0x59f111f1, 0x923f82a4, 0xab1c5ed5] ++ [0xd807aa98, 0x12835b01, 0x243185be, 0x550c7dc3, 0x72be5d74, 0x80deb1fe, 0x9bdc06a7, 0xc19bf174] ++
  [0xe49b69c1, 0xefbe4786, 0x0fc19dc6, 0x240ca1cc, 0x2de92c6f, 0x4a7484aa, 0x5cb0a9dc, 0x76f988da] ++ [0x983e5152, 0xa831c66d, 0xb00327c8, 0xbf597fc7, 0xc6e00bf3, 0xd5a79147, 0x06ca6351, 0x14292967] ++
  [0x27b70a85, 0x2e1b2138, 0x4d2c6dfc, 0x53380d13, 0x650a7354, 0x766a0abb, 0x81c2c92e, 0x92722c85] ++ [0xa2bfe8a1, 0xa81a664b, 0xc24b8b70, 0xc76c51a3, 0xd192e819, 0xd6990624, 0xf40e3585, 0x106aa070] ++
  [0x19a4c116, 0x1e376c08, 0x2748774c, 0x34b0bcb5, 0x391c0cb3, 0x4ed8aa4a, 0x5b9cca4f, 0x682e6ff3] ++ [0x748f82ee, 0x78a5636f, 0x84c87814, 0x8cc70208, 0x90befffa, 0xa4506ceb, 0xbef9a3f7, 0xc67178f2]
def H0 : S8 := ⟨0x6a09e667, 0xbb67ae85, 0x3c6ef372, 0xa54ff53a, 0x510e527f, 0x9b05688c, 0x1f83d9ab, 0x5be0cd19⟩
/-- The state behind a block. -/
def take (s : S8) (b : List Nat) : S8 := s8add s (rounds K (sched b) s)
/-- As many whole blocks as there are. -/
def eat : Nat → S8 → List Nat → S8 × List Nat
  | 0, s, b => (s, b)
  | n + 1, s, b => if 64 ≤ b.length then eat n (Go.Sha.take s (b.take 64)) (b.drop 64) else (s, b)
/-- A word's bytes, so many of them. -/
def wbk (x : Nat) : Nat → List Nat
  | 0 => []
  | k + 1 => wbk x k ++ [t8 (r32 (24 - 8 * k) x)]
theorem wbk_len (x : Nat) : ∀ k, (wbk x k).length = k
  | 0 => rfl
  | k + 1 => by simp [wbk, wbk_len x k]
def pre (l : List Nat) : Nat → List Nat
  | 0 => []
  | i + 1 => pre l i ++ wbk (l.getD i 0) 4
theorem pre_len (l : List Nat) : ∀ i, (pre l i).length = 4 * i
  | 0 => rfl
  | i + 1 => by simp [pre, pre_len l i, wbk_len]; omega
/-- The sum's bytes. -/
def dig (s : S8) : List Nat := pre s.l 8
end Go.Sha

/-
  SHA-256 in the program: what its functions reckon.
-/
namespace Go.Proofs.YtnmnabagabejjaaGreat
open Go.Am Go.Sha
set_option linter.unusedSimpArgs false
set_option linter.unusedVariables false

def z64 : List Nat := List.replicate 64 0
theorem z64_len : z64.length = 64 := rfl
@[go_sem] theorem z64w : tzO Tryz.prog 558 = some (cw z64) := by kernel_rfl
attribute [go_sem] z64_len cw_len
/-- Bytes as cells. -/
def cb (l : List Nat) : List AV := l.map fun (x : Nat) => AV.d (.int .u8 (x : Int))
theorem cb_len (l : List Nat) : (cb l).length = l.length := by simp [cb]
theorem cb_get (l : List Nat) (i : Nat) : (cb l)[i]? = (l[i]?).map fun (x : Nat) => AV.d (.int .u8 (x : Int)) := by simp [cb]
theorem cb_set (l : List Nat) (i x : Nat) : (cb l).set i (.d (.int .u8 (x : Int))) = cb (l.set i x) := by simp [cb, List.map_set]
theorem cb_low (n : Nat) (l : List Nat) : ∀ v, v ∈ cb l → v.low1 n := by
  intro c hc
  simp only [cb, List.mem_map] at hc
  obtain ⟨x, _, rfl⟩ := hc
  trivial
theorem cb_deep (l : List Nat) : ∀ c, c ∈ cb l → c.deep1 := by
  intro c hc
  simp only [cb, List.mem_map] at hc
  obtain ⟨x, _, rfl⟩ := hc
  trivial
def z32 : List Nat := List.replicate 32 0
theorem z32_len : z32.length = 32 := rfl
@[go_sem] theorem zz32 : tzO Tryz.prog 61 = some (cb z32) := by kernel_rfl
attribute [go_sem] z32_len cb_len
theorem p_hash : isPtr Tryz.prog 380 = true := by kernel_rfl
attribute [go_sem] p_hash

theorem rot_fn (x s : Nat) (k : Int) (hs : bits .and .u64 (IntKind.u64.wrap k) 31 = (s : Int)) (h1 : s ≤ 31) :
    Rets Tryz.prog 426 [.d (.int .u32 (x : Int)), .d (.int .i64 k)] (fun r => r = .d (.int .u32 ((rol s x : Nat) : Int))) := by
  refine fn_of_awp Tryz.func426 (by kernel_rfl) rfl Tryz.ntmps426 (rs := [.tmp 4]) rfl (Nat.le_of_ble_eq_true rfl) (by simp [AV.deep, AV.deep1]) ?_
  have e1 : IntKind.u64.wrap (32 - (s : Int)) = ((32 - s : Nat) : Int) := by rw [u64w]; omega
  have e2 : min s 32 = s := by omega
  have e3 : min (32 - s) 32 = 32 - s := by omega
  simp [go_sem, hs, e1, e2, e3, IntKind.bits, resV]
  refine post_same (by simp [AV.deep, AV.deep1]) ?_
  rw [w_shl, d_r, w_or]
  rfl

theorem firsts_fn : Rets Tryz.prog 355 [] (fun r => r = .agg (cw H0.l)) := by
  refine fn_of_awp Tryz.func355 (by kernel_rfl) rfl Tryz.ntmps355 (rs := [.cell 0 486]) rfl (Nat.le_of_ble_eq_true rfl) (by simp [AV.deep, AV.deep1]) ?_
  simp [go_sem, resV, fillA]
  exact post_same (by simp [AV.deep, AV.deep1]) rfl

theorem fillO_of {cs : List AV} {o : Option (List AV)} {Kk : AV → Hp → Prop} {hp : Hp} (h : o = some cs) (hK : Kk (.agg cs) hp) : fillO o Kk hp := by rw [h]; exact hK
theorem cw_deep (l : List Nat) : ∀ c, c ∈ cw l → c.deep1 := by
  intro c hc
  simp only [cw, List.mem_map] at hc
  obtain ⟨x, _, rfl⟩ := hc
  trivial

set_option maxRecDepth 100000 in
theorem steps_fn : Rets Tryz.prog 425 [] (fun r => r = .agg (cw K)) := by
  refine fn_of_awp Tryz.func425 (by kernel_rfl) rfl Tryz.ntmps425 (rs := [.cell 0 558]) rfl (Nat.le_of_ble_eq_true rfl) (by simp [AV.deep, AV.deep1]) ?_
  have zz : tzO Tryz.prog 558 = some (List.replicate 64 (.d (.int .u32 0))) := by kernel_rfl
  simp [go_sem, resV, zz]
  exact post_same (by simp [AV.deep, AV.deep1]) rfl
end Go.Proofs.YtnmnabagabejjaaGreat

/-
  SHA-256 in the program: a block's words.
-/
namespace Go.Proofs.YtnmnabagabejjaaGreat
open Go.Am Go.Sha
set_option linter.unusedSimpArgs false
set_option linter.unusedVariables false

theorem drop_of {α : Type} {l : List α} {k : Nat} (h : k < l.length) : ∃ c, l[k]? = some c ∧ l.drop k = c :: l.drop (k + 1) :=
  ⟨l[k], List.getElem?_eq_getElem h, List.drop_eq_getElem_cons h⟩
theorem next_i64 {k : Nat} (h : k < 4611686018427387904) : IntKind.i64.wrap ((k : Int) + 1) = ((k + 1 : Nat) : Int) := by
  rw [IntWalk.i64_in _ (by omega)]; omega
theorem i64n {n : Nat} (h : n < 4611686018427387904) : IntKind.i64.wrap (n : Int) = (n : Int) := IntWalk.i64_in _ (by omega)
theorem cw_low (n : Nat) (l : List Nat) : ∀ v, v ∈ cw l → v.low1 n := by
  intro c hc
  simp only [cw, List.mem_map] at hc
  obtain ⟨x, _, rfl⟩ := hc
  trivial

/-- The row while its first words are there. -/
def rowW (w : List Nat) : List Nat := w ++ List.replicate (64 - w.length) 0
theorem rowW_len {w : List Nat} (h : w.length ≤ 64) : (rowW w).length = 64 := by simp [rowW]; omega
theorem rowW_get {w : List Nat} {i : Nat} (h : i < w.length) : (rowW w)[i]? = some w[i] := by
  unfold rowW
  rw [List.getElem?_append_left h, List.getElem?_eq_getElem h]
theorem rowW_at {w : List Nat} (h : w.length < 64) : (rowW w)[w.length]? = some 0 := by
  unfold rowW
  rw [List.getElem?_append_right (Nat.le_refl _), Nat.sub_self, List.getElem?_replicate, if_pos (by omega)]
theorem rowW_set {w : List Nat} {x : Nat} (h : w.length < 64) : (rowW w).set w.length x = rowW (w ++ [x]) := by
  unfold rowW
  rw [List.set_append_right _ _ (Nat.le_refl _), Nat.sub_self]
  obtain ⟨k, hk⟩ : ∃ k, 64 - w.length = k + 1 := ⟨63 - w.length, by omega⟩
  rw [hk, List.replicate_succ, List.set_cons_zero, List.append_assoc]
  simp only [List.length_append, List.length_singleton, List.singleton_append]
  rw [show 64 - (w.length + 1) = k by omega]
theorem rowW_last {w : List Nat} {x y : Nat} (h : w.length < 64) : (rowW (w ++ [x])).set w.length y = rowW (w ++ [y]) := by
  rw [← rowW_set h, ← rowW_set h, List.set_set]
theorem rowW_mid {w : List Nat} {x : Nat} (h : w.length < 64) : (rowW (w ++ [x]))[w.length]? = some x := by
  rw [rowW_get (by simp)]
  simp

theorem rowW_zero {w : List Nat} (h : w.length < 64) : rowW (w ++ [0]) = rowW w := by
  unfold rowW
  obtain ⟨k, hk⟩ : ∃ k, 64 - w.length = k + 1 := ⟨63 - w.length, by omega⟩
  rw [hk, List.replicate_succ, List.append_assoc]
  simp only [List.length_append, List.length_singleton, List.singleton_append]
  rw [show 64 - (w.length + 1) = k by omega]
theorem cw_dh (l : List Nat) (i : Nat) : ((cw l).drop i).head? = (l[i]?).map fun (x : Nat) => AV.d (.int .u32 (x : Int)) := by
  rw [List.head?_drop, cw_get]
theorem word_snoc (q : List Nat) {j c : Nat} (h : q[j]? = some c) : word (q.take (j + 1)) = o32 (s32 8 (word (q.take j))) (t32 c) := by
  unfold word
  rw [List.take_add_one, h, List.foldl_append]
  rfl

set_option maxHeartbeats 4000000 in
theorem spread_fn (b : List Nat) (hb : b.length = 64) : Rets Tryz.prog 424 [.d (nb b)] (fun r => r = .agg (cw (sched b))) := by
  refine fn_of_awp Tryz.func424 (by kernel_rfl) rfl Tryz.ntmps424 (rs := [.cell 2 558]) rfl (Nat.le_of_ble_eq_true rfl) (by simp [AV.deep, AV.deep1]) ?_
  simp only [go_sem, Nat.reduceEqDiff, Nat.reduceAdd, Nat.reduceLT, ↓reduceIte, Nat.reduceMul, List.length_replicate]
  refine loop_of (fun t : Nat => ⟨[(0, .d (nb b)), (2, .ptr 0 0 0 1), (3, .ptr 32 0 0 1), (12, .d (.int .i64 t))], [(32, ⟨558, 64, [cw (rowW (wfirst b t))]⟩), (0, ⟨558, 64, [cw z64]⟩)], 96⟩)
    (fun t => t ≤ 16) (fun t => 16 - t) 0 (by omega) (by
      simp [Weak, slotOk, fv, lk, AV.low, AV.low1]
      refine ⟨⟨rfl, cw_low _ _⟩, cw_low _ _⟩) ?_
  intro t ht
  have e1 := wfirst_len b t
  have w1 : IntKind.i64.wrap (4 * (t : Int)) = ((4 * t : Nat) : Int) := by rw [IntWalk.i64_in _ (by omega)]; omega
  have w2 : IntKind.i64.wrap (((4 * t : Nat) : Int) + 4) = ((4 * t + 4 : Nat) : Int) := by rw [IntWalk.i64_in _ (by omega)]; omega
  simp only [go_sem, Nat.reduceEqDiff, Nat.reduceAdd, Nat.reduceLT, ↓reduceIte]
  refine ⟨fun h => ?_, fun h => ?_⟩
  · have hl4 : ((b.take (4 * t + 4)).drop (4 * t)).length = 4 := by simp; omega
    have hnb : ((b.map fun (b : Nat) => [DV.int .u8 (b : Int)]).take (4 * t + 4)).drop (4 * t) = ((b.take (4 * t + 4)).drop (4 * t)).map fun (b : Nat) => [DV.int .u8 (b : Int)] := by simp [List.map_drop, List.map_take]
    simp only [go_sem, Nat.reduceEqDiff, Nat.reduceAdd, Nat.reduceLT, ↓reduceIte, w1, w2, nb, Int.toNat_natCast, hnb, List.length_map, hl4]
    refine ⟨by omega, by omega, ?_⟩
    refine loop_of (fun j : Nat => ⟨[(0, .d (nb b)), (2, .ptr 0 0 0 1), (3, .ptr 32 0 0 1), (12, .d (.int .i64 t)), (4, .d (.int .i64 t)), (21, .d (nb ((b.take (4 * t + 4)).drop (4 * t)))), (22, .d (.int .i64 (4 : Nat))), (23, .d (.int .i64 j))],
        [(32, ⟨558, 64, [cw (rowW (wfirst b t ++ [word (((b.take (4 * t + 4)).drop (4 * t)).take j)]))]⟩), (0, ⟨558, 64, [cw z64]⟩)], 480⟩)
      (fun j => j ≤ 4) (fun j => 4 - j) 0 (by omega) (by
        simp [Weak, slotOk, fv, lk, AV.low, AV.low1, nb, List.map_drop, List.map_take]
        exact ⟨⟨by rw [show word [] = 0 from rfl, rowW_zero (by omega)], cw_low _ _⟩, cw_low _ _⟩) ?_
    intro j hj
    simp only [go_sem, Nat.reduceEqDiff, Nat.reduceAdd, Nat.reduceLT, ↓reduceIte]
    refine ⟨fun h2 => ?_, fun h2 => ?_⟩
    · obtain ⟨c, hc, _⟩ := drop_of (l := (b.take (4 * t + 4)).drop (4 * t)) (k := j) (by omega)
      have g1 : (rowW (wfirst b t ++ [word (((b.take (4 * t + 4)).drop (4 * t)).take j)]))[t]? = some (word (((b.take (4 * t + 4)).drop (4 * t)).take j)) := by
        have := rowW_mid (w := wfirst b t) (x := word (((b.take (4 * t + 4)).drop (4 * t)).take j)) (by omega)
        rw [e1] at this
        exact this
      have g2 : ∀ y, (rowW (wfirst b t ++ [word (((b.take (4 * t + 4)).drop (4 * t)).take j)])).set t y = rowW (wfirst b t ++ [y]) := by
        intro y
        have := rowW_last (w := wfirst b t) (x := word (((b.take (4 * t + 4)).drop (4 * t)).take j)) (y := y) (by omega)
        rw [e1] at this
        exact this
      have w3 := i64n (n := j + 1) (by omega)
      have g3 : (rowW (wfirst b t ++ [word (((b.take (4 * t + 4)).drop (4 * t)).take j)])).length = 64 := rowW_len (by simp; omega)
      generalize hq : (b.take (4 * t + 4)).drop (4 * t) = q at *
      simp [go_sem, nb, hc, cw_get, g1, IntKind.bits, w_s8, w_nat, w_or, cw_set, g2, g3, e1]
      refine ⟨by omega, by omega, ?_⟩
      have w3 := next_i64 (k := j) (by omega)
      rw [w3]
      refine next_of (j + 1) (by omega) (by omega) ?_
      simp [Weak, slotOk, fv, lk, AV.low, AV.low1, word_snoc q hc]
      exact ⟨cw_low _ _, cw_low _ _⟩
    · have hj4 : j = 4 := by omega
      subst hj4
      have w3 := next_i64 (k := t) (by omega)
      rw [w3]
      refine next_of (t + 1) (by omega) (by omega) ?_
      have hfull : word (((b.take (4 * t + 4)).drop (4 * t)).take 4) = word ((b.take (4 * t + 4)).drop (4 * t)) := by rw [List.take_of_length_le (by omega)]
      simp [Weak, slotOk, fv, lk, AV.low, AV.low1, wfirst]
      exact ⟨rfl, ⟨by rw [hfull], cw_low _ _⟩, cw_low _ _⟩
  · have ht16 : t = 16 := by omega
    subst ht16
    refine loop_of (fun t : Nat => ⟨[(2, .ptr 0 0 0 1), (3, .ptr 32 0 0 1), (7, .d (.int .i64 ((t + 16 : Nat) : Int)))], [(32, ⟨558, 64, [cw (rowW (wmore b t))]⟩), (0, ⟨558, 64, [cw z64]⟩)], 128⟩)
      (fun t => t ≤ 48) (fun t => 48 - t) 0 (by omega) (by
        simp [Weak, slotOk, fv, lk, AV.low, AV.low1, wmore]
        exact ⟨cw_low _ _, cw_low _ _⟩) ?_
    intro t ht
    have e1 := wmore_len b t
    simp only [go_sem, Nat.reduceEqDiff, Nat.reduceAdd, Nat.reduceLT, ↓reduceIte]
    refine ⟨fun h => ?_, fun h => ?_⟩
    · have i1 : IntKind.i64.wrap (((t + 16 : Nat) : Int) - 15) = ((t + 16 - 15 : Nat) : Int) := by rw [IntWalk.i64_in _ (by omega)]; omega
      have i2 : IntKind.i64.wrap (((t + 16 : Nat) : Int) - 2) = ((t + 16 - 2 : Nat) : Int) := by rw [IntWalk.i64_in _ (by omega)]; omega
      have i3 : IntKind.i64.wrap (((t + 16 : Nat) : Int) - 16) = ((t + 16 - 16 : Nat) : Int) := by rw [IntWalk.i64_in _ (by omega)]; omega
      have i4 : IntKind.i64.wrap (((t + 16 : Nat) : Int) - 7) = ((t + 16 - 7 : Nat) : Int) := by rw [IntWalk.i64_in _ (by omega)]; omega
      have gg : ∀ i, i < t + 16 → (rowW (wmore b t))[i]? = some ((wmore b t).getD i 0) := by
        intro i hi
        rw [rowW_get (by omega), List.getD_eq_getElem?_getD, List.getElem?_eq_getElem (by omega)]
        rfl
      have w3 := next_i64 (k := t + 16) (by omega)
      generalize hT : t + 16 = T at *
      apply draw2 (0 :: 1 :: 2 :: 3 :: 4 :: 5 :: 6 :: 7 :: 8 :: 9 :: []) ([]) 0 (k := 10) (by kernel_rfl) (by kernel_rfl) rfl
      case hz => repeat (first | exact Its.nil | apply Its.plain rfl | apply Its.guard rfl rfl)
      case hj => exact Jts.nil
      intro G hG
      have g15 := gg (T - 15) (by omega)
      have g2 := gg (T - 2) (by omega)
      have g16 := gg (T - 16) (by omega)
      have g7 := gg (T - 7) (by omega)
      have hwx : wx (wmore b t) = a32 (a32 (a32 ((wmore b t).getD (T - 16) 0) (x32 (x32 (rol 25 ((wmore b t).getD (T - 15) 0)) (rol 14 ((wmore b t).getD (T - 15) 0))) (r32 3 ((wmore b t).getD (T - 15) 0)))) ((wmore b t).getD (T - 7) 0)) (x32 (x32 (rol 15 ((wmore b t).getD (T - 2) 0)) (rol 13 ((wmore b t).getD (T - 2) 0))) (r32 10 ((wmore b t).getD (T - 2) 0))) := by
        unfold wx
        rw [e1]
      generalize (wmore b t).getD (T - 15) 0 = x at g15 hwx
      generalize (wmore b t).getD (T - 2) 0 = y at g2 hwx
      generalize (wmore b t).getD (T - 16) 0 = u at g16 hwx
      generalize (wmore b t).getD (T - 7) 0 = v at g7 hwx
      simp [go_sem, i1, i2, cw_get, g15, g2]
      refine ⟨by omega, by omega, hG _ _ ?_⟩
      simp only [go_sem, Nat.reduceEqDiff, Nat.reduceAdd, Nat.reduceLT, ↓reduceIte, Nat.reduceMul]
      refine cl_eq (rot_fn x 25 (-7) (by decide) (by omega)) (by simp [AV.deep, AV.deep1]) ?_
      simp only [go_sem, Nat.reduceEqDiff, Nat.reduceAdd, Nat.reduceLT, ↓reduceIte]
      refine cl_eq (rot_fn x 14 (-18) (by decide) (by omega)) (by simp [AV.deep, AV.deep1]) ?_
      simp [go_sem, w_xor, IntKind.bits, d_r3]
      refine cl_eq (rot_fn y 15 (-17) (by decide) (by omega)) (by simp [AV.deep, AV.deep1]) ?_
      simp only [go_sem, Nat.reduceEqDiff, Nat.reduceAdd, Nat.reduceLT, ↓reduceIte]
      refine cl_eq (rot_fn y 13 (-19) (by decide) (by omega)) (by simp [AV.deep, AV.deep1]) ?_
      simp [go_sem, w_xor, IntKind.bits, d_r10]
      apply draw2 (0 :: 1 :: 2 :: 3 :: 4 :: 5 :: 6 :: 7 :: 8 :: 9 :: 10 :: 11 :: 12 :: 13 :: 14 :: []) ((15, ([])) :: []) 0 (k := 16) (by kernel_rfl) (by kernel_rfl) rfl
      case hz => repeat (first | exact Its.nil | apply Its.plain rfl | apply Its.guard rfl rfl)
      case hj => exact Jts.plain rfl Its.nil Jts.nil
      intro G hG
      have hset : (rowW (wmore b t)).set T (wx (wmore b t)) = rowW (wmore b (t + 1)) := by
        have := rowW_set (w := wmore b t) (x := wx (wmore b t)) (by omega)
        rw [e1] at this
        exact this
      rw [hwx] at hset
      have hlen : (rowW (wmore b t)).length = 64 := rowW_len (by omega)
      simp [go_sem, i3, i4, cw_get, g16, g7, w_add, cw_set, hset, hlen]
      refine ⟨by omega, by omega, by omega, by omega, hG _ _ ?_⟩
      simp [go_sem, w3]
      refine next_of (t + 1) (by omega) (by omega) ?_
      subst hT
      simp [Weak, slotOk, fv, lk, AV.low, AV.low1]
      exact ⟨by omega, cw_low _ _, cw_low _ _⟩
    · have ht48 : t = 48 := by omega
      subst ht48
      have hfull : rowW (wmore b 48) = sched b := by
        have h0 : ∀ w : List Nat, w.length = 64 → rowW w = w := fun w hw => by unfold rowW; rw [hw, Nat.sub_self, List.replicate_zero, List.append_nil]
        exact h0 _ e1
      rw [hfull]
      have hsl := sched_len b
      generalize sched b = sb at hsl
      have htk : (cw sb).take 64 = cw sb := List.take_of_length_le (by rw [cw_len]; omega)
      simp [go_sem, resV, hsl, htk]
      exact post_same (by simp [AV.deep]; exact cw_deep _) rfl
end Go.Proofs.YtnmnabagabejjaaGreat

/-
  SHA-256 in the program: a block is taken.
-/
namespace Go.Proofs.YtnmnabagabejjaaGreat
open Go.Am Go.Sha
set_option linter.unusedSimpArgs false
set_option linter.unusedVariables false

def s8c (s : S8) : List AV := [.d (.int .u32 (s.a : Int)), .d (.int .u32 (s.b : Int)), .d (.int .u32 (s.c : Int)), .d (.int .u32 (s.d : Int)), .d (.int .u32 (s.e : Int)), .d (.int .u32 (s.f : Int)), .d (.int .u32 (s.g : Int)), .d (.int .u32 (s.h : Int))]
theorem s8c_cw (s : S8) : s8c s = cw s.l := rfl
theorem K_len : K.length = 64 := rfl

def mixL (s v : S8) (i : Nat) : List Nat := (List.zipWith a32 s.l v.l).take i ++ s.l.drop i
theorem mixL_len (s v : S8) {i : Nat} (h : i ≤ 8) : (mixL s v i).length = 8 := by simp [mixL, S8.l]; omega
theorem mixL_zero (s v : S8) : mixL s v 0 = s.l := by simp [mixL]
theorem mixL_end (s v : S8) : mixL s v 8 = (s8add s v).l := by simp [mixL, S8.l, s8add]
theorem mixL_step (s v : S8) {i : Nat} (h : i < 8) : ∃ x y, v.l[i]? = some y ∧ (mixL s v i)[i]? = some x ∧ (mixL s v i).set i (a32 x y) = mixL s v (i + 1) := by
  rcases (by omega : i = 0 ∨ i = 1 ∨ i = 2 ∨ i = 3 ∨ i = 4 ∨ i = 5 ∨ i = 6 ∨ i = 7) with rfl | rfl | rfl | rfl | rfl | rfl | rfl | rfl
  · exact ⟨s.a, v.a, by simp [S8.l], by simp [mixL, S8.l], by simp [mixL, S8.l]⟩
  · exact ⟨s.b, v.b, by simp [S8.l], by simp [mixL, S8.l], by simp [mixL, S8.l]⟩
  · exact ⟨s.c, v.c, by simp [S8.l], by simp [mixL, S8.l], by simp [mixL, S8.l]⟩
  · exact ⟨s.d, v.d, by simp [S8.l], by simp [mixL, S8.l], by simp [mixL, S8.l]⟩
  · exact ⟨s.e, v.e, by simp [S8.l], by simp [mixL, S8.l], by simp [mixL, S8.l]⟩
  · exact ⟨s.f, v.f, by simp [S8.l], by simp [mixL, S8.l], by simp [mixL, S8.l]⟩
  · exact ⟨s.g, v.g, by simp [S8.l], by simp [mixL, S8.l], by simp [mixL, S8.l]⟩
  · exact ⟨s.h, v.h, by simp [S8.l], by simp [mixL, S8.l], by simp [mixL, S8.l]⟩
theorem cwa_get {l : List Nat} {tail : List AV} {i x : Nat} (h : l[i]? = some x) : (cw l ++ tail)[i]? = some (.d (.int .u32 (x : Int))) := by
  have hl : i < (cw l).length := by rw [cw_len]; exact (List.getElem?_eq_some_iff.1 h).1
  rw [List.getElem?_append_left hl, cw_get, h]
  rfl
theorem cwa_set {l : List Nat} {tail : List AV} {i x : Nat} (h : i < l.length) : (cw l ++ tail).set i (.d (.int .u32 (x : Int))) = cw (l.set i x) ++ tail := by
  rw [List.set_append_left _ _ (by rw [cw_len]; exact h), cw_set]
theorem max32 : (if IntKind.u32.signed = true then -1 else IntKind.u32.max) = (4294967295 : Int) := by decide

set_option maxHeartbeats 4000000 in
theorem take_fn (ty : TypeId) (e : Nat) (s : S8) (tail : List AV) (b : List Nat) (hb : b.length = 64) (htail : ∀ n, ∀ v, v ∈ tail → v.low1 n) :
    RetsE Tryz.prog 356 1 [(0, ⟨ty, e, [s8c s ++ tail]⟩)] [.ptr 0 0 0 1, .d (nb b)] (fun r hp' => r = .tup [] ∧ lk 0 hp' = some ⟨ty, e, [s8c (take s b) ++ tail]⟩) := by
  refine fnE_of_awp Tryz.func356 (by kernel_rfl) rfl Tryz.ntmps356 (rs := []) rfl (Nat.le_of_ble_eq_true rfl) (by decide) ?_
  simp only [go_sem, Nat.reduceEqDiff, Nat.reduceAdd, Nat.reduceLT, ↓reduceIte, Nat.reduceMul]
  refine cl_eq (spread_fn b hb) (by simp [AV.deep, AV.deep1]) ?_
  simp only [go_sem, Nat.reduceEqDiff, Nat.reduceAdd, Nat.reduceLT, ↓reduceIte, Nat.reduceMul]
  refine cl_eq steps_fn (by simp [AV.deep, AV.deep1]) ?_
  have hsl := sched_len b
  have hzl : (K.zip (sched b)).length = 64 := by rw [List.length_zip, hsl, K_len]; rfl
  unfold Go.Sha.take rounds
  generalize sched b = ws at *
  have hz64 : (cw z64).drop 64 = [] := rfl
  generalize hR : restG rdp 0 (K.zip ws) s = R
  simp [go_sem, K_len, hsl, s8c, hz64]
  refine loop_of (fun t : Nat × S8 => ⟨[(0, .ptr 0 0 0 1), (4, .ptr 98 0 0 1), (5, .ptr 130 0 0 1), (6, .ptr 322 0 0 1), (19, .d (.int .i64 t.1))],
      [(322, ⟨486, 8, [s8c t.2]⟩), (130, ⟨558, 64, [cw K]⟩), (98, ⟨558, 64, [cw ws]⟩), (0, ⟨ty, e, [s8c s ++ tail]⟩)], 418⟩)
    (fun t => t.1 ≤ 64 ∧ restG rdp t.1 (K.zip ws) t.2 = R) (fun t => 64 - t.1) (0, s) ⟨by omega, hR⟩ (by
      simp [Weak, slotOk, fv, lk, AV.low, AV.low1, s8c]
      exact ⟨cw_low _ _, cw_low _ _, fun v hv => htail _ v hv⟩) ?_
  clear hR
  rintro ⟨t, v⟩ ⟨ht, hR⟩
  simp only at ht hR
  simp only [go_sem, Nat.reduceEqDiff, Nat.reduceAdd, Nat.reduceLT, ↓reduceIte]
  refine ⟨fun h => ?_, fun h => ?_⟩
  · obtain ⟨k, hk, _⟩ := drop_of (l := K) (k := t) (by rw [K_len]; omega)
    obtain ⟨w, hw, _⟩ := drop_of (l := ws) (k := t) (by omega)
    have hz : (K.zip ws)[t]? = some (k, w) := by rw [List.getElem?_zip_eq_some]; exact ⟨hk, hw⟩
    rw [restG_step rdp hz] at hR
    simp only [go_sem, Nat.reduceEqDiff, Nat.reduceAdd, Nat.reduceLT, ↓reduceIte, s8c]
    simp [go_sem]
    apply draw2 (0 :: 1 :: 2 :: 4 :: 7 :: 11 :: 12 :: 13 :: 14 :: 15 :: 16 :: 17 :: 18 :: 19 :: 20 :: 22 :: 23 :: 24 :: 26 :: 27 :: 28 :: []) ((3, ([])) :: (5, (6 :: [])) :: (8, (9 :: 10 :: 21 :: 25 :: 29 :: 30 :: [])) :: []) 3 (k := 31) (by kernel_rfl) (by kernel_rfl) rfl
    case hz => repeat (first | exact Its.nil | apply Its.plain rfl | apply Its.guard rfl rfl)
    case hj => repeat (first | exact Jts.nil | exact Its.nil | apply Its.plain rfl | apply Its.guard rfl rfl | apply Jts.plain rfl | apply Jts.guard rfl rfl)
    intro G hG
    simp [go_sem, cw_get, hk, hw, w_xor, w_and, max32, w_not, w_add]
    refine ⟨by omega, ?_⟩
    refine cl_eq (rot_fn v.e 26 (-6) (by decide) (by omega)) (by simp [AV.deep, AV.deep1]) ?_
    simp [go_sem, w_xor, w_and, w_add]
    refine cl_eq (rot_fn v.e 21 (-11) (by decide) (by omega)) (by simp [AV.deep, AV.deep1]) ?_
    simp [go_sem, w_xor, w_and, w_add]
    refine cl_eq (rot_fn v.e 7 (-25) (by decide) (by omega)) (by simp [AV.deep, AV.deep1]) ?_
    simp [go_sem, w_xor, w_and, w_add]
    have hT1 : a32 (a32 (a32 (a32 v.h (x32 (x32 (rol 26 v.e) (rol 21 v.e)) (rol 7 v.e))) (x32 (n32 v.e v.f) (n32 (c32 v.e) v.g))) k) w = T1 v k w := by unfold T1; with_reducible rfl
    rw [hT1]
    refine hG _ _ ?_
    clear hG G
    simp [go_sem]
    apply draw2 (0 :: 2 :: 5 :: 8 :: 9 :: 10 :: 11 :: 12 :: 13 :: 14 :: 15 :: 16 :: 17 :: 18 :: 19 :: 20 :: 21 :: 22 :: []) ((1, ([])) :: (3, (4 :: [])) :: (6, (7 :: 23 :: 24 :: [])) :: []) 3 (k := 25) (by kernel_rfl) (by kernel_rfl) rfl
    case hz => repeat (first | exact Its.nil | apply Its.plain rfl | apply Its.guard rfl rfl)
    case hj => repeat (first | exact Jts.nil | exact Its.nil | apply Its.plain rfl | apply Its.guard rfl rfl | apply Jts.plain rfl | apply Jts.guard rfl rfl)
    intro G hG
    simp [go_sem, w_xor, w_and, w_add]
    refine cl_eq (rot_fn v.a 30 (-2) (by decide) (by omega)) (by simp [AV.deep, AV.deep1]) ?_
    simp [go_sem, w_xor, w_and, w_add]
    refine cl_eq (rot_fn v.a 19 (-13) (by decide) (by omega)) (by simp [AV.deep, AV.deep1]) ?_
    simp [go_sem, w_xor, w_and, w_add]
    refine cl_eq (rot_fn v.a 10 (-22) (by decide) (by omega)) (by simp [AV.deep, AV.deep1]) ?_
    simp [go_sem, w_xor, w_and, w_add]
    have hT2 : a32 (x32 (x32 (rol 30 v.a) (rol 19 v.a)) (rol 10 v.a)) (x32 (x32 (n32 v.a v.b) (n32 v.a v.c)) (n32 v.b v.c)) = T2 v := by unfold T2; with_reducible rfl
    rw [hT2]
    refine hG _ _ ?_
    clear hG G
    have w3 := next_i64 (k := t) (by omega)
    simp [go_sem, w_add, fillA, w3]
    refine next_of (t + 1, rdp v (k, w)) ⟨by simp only; omega, hR⟩ (by simp only; omega) ?_
    simp [Weak, slotOk, fv, lk, AV.low, AV.low1, s8c, rdp, rd]
    exact ⟨cw_low _ _, cw_low _ _, fun v hv => htail _ v hv⟩
  · have ht64 : t = 64 := by omega
    subst ht64
    rw [restG_end rdp (by omega)] at hR
    subst hR
    refine loop_of (fun i : Nat => ⟨[(0, .ptr 0 0 0 1), (6, .ptr 322 0 0 1), (101, .d (.int .i64 i))], [(322, ⟨486, 8, [cw v.l]⟩), (0, ⟨ty, e, [cw (mixL s v i) ++ tail]⟩)], 482⟩)
      (fun i => i ≤ 8) (fun i => 8 - i) 0 (by omega) (by
        simp [Weak, slotOk, fv, lk, AV.low, AV.low1, mixL_zero, s8c_cw]
        refine ⟨cw_low _ _, fun v hv => ?_⟩
        rcases hv with hv | hv
        · exact cw_low _ _ v hv
        · exact htail _ v hv) ?_
    intro i hi
    simp only [go_sem, Nat.reduceEqDiff, Nat.reduceAdd, Nat.reduceLT, ↓reduceIte]
    refine ⟨fun h => ?_, fun h => ?_⟩
    · obtain ⟨x, y, hy, hx, hset⟩ := mixL_step s v (i := i) (by omega)
      have hml := mixL_len s v hi
      apply draw2 (0 :: 1 :: 2 :: 3 :: 4 :: 5 :: 6 :: 7 :: 8 :: 9 :: 10 :: []) ((11, ([])) :: []) 0 (k := 12) (by kernel_rfl) (by kernel_rfl) rfl
      case hz => repeat (first | exact Its.nil | apply Its.plain rfl | apply Its.guard rfl rfl)
      case hj => repeat (first | exact Jts.nil | exact Its.nil | apply Its.plain rfl | apply Its.guard rfl rfl | apply Jts.plain rfl | apply Jts.guard rfl rfl)
      intro G hG
      have hs2 := cwa_set (l := mixL s v i) (tail := tail) (i := i) (x := a32 x y) (by omega)
      rw [hset] at hs2
      simp [go_sem, cwa_get hx, cw_get, hy, w_add, hs2, hml]
      refine ⟨by omega, by omega, hG _ _ ?_⟩
      have w3 := next_i64 (k := i) (by omega)
      simp [go_sem, w3]
      refine next_of (i + 1) (by omega) (by omega) ?_
      simp [Weak, slotOk, fv, lk, AV.low, AV.low1]
      refine ⟨cw_low _ _, fun v hv => ?_⟩
      rcases hv with hv | hv
      · exact cw_low _ _ v hv
      · exact htail _ v hv
    · have hi8 : i = 8 := by omega
      subst hi8
      simp [go_sem, resV, mixL_end, s8c_cw]
      simp [cw, S8.l]
end Go.Proofs.YtnmnabagabejjaaGreat

/-
  SHA-256 in the program: a block is taken, from bytes of one's own.
-/
namespace Go.Proofs.YtnmnabagabejjaaGreat
open Go.Am Go.Sha
set_option linter.unusedSimpArgs false
set_option linter.unusedVariables false

/-- Bytes as rows of the call's own. -/
def rb (L : List Nat) : List (List AV) := L.map fun (x : Nat) => [.d (.int .u8 (x : Int))]
theorem rb_len (L : List Nat) : (rb L).length = L.length := by simp [rb]
theorem rb_low (n : Nat) (L : List Nat) : ∀ r, r ∈ rb L → ∀ v, v ∈ r → v.low1 n := by
  intro r hr v hv
  simp only [rb, List.mem_map] at hr
  obtain ⟨x, _, rfl⟩ := hr
  simp at hv
  subst hv
  trivial
theorem cw_flat (l : List Nat) : ∀ c, c ∈ cw l → c.flat1 := by
  intro c hc
  simp only [cw, List.mem_map] at hc
  obtain ⟨x, _, rfl⟩ := hc
  trivial
theorem rb_rows {hp : Hp} {I : Nat → Prop} : ∀ (L : List Nat), RowsR hp I (rb L) (L.map fun (x : Nat) => [.int .u8 (x : Int)])
  | [] => .nil
  | x :: r => .cons (.cons (.d _) .nil) (rb_rows r)
theorem snap_rb {hp : Hp} {I : Nat → Prop} {id i0 n : Nat} {L : List Nat} (hb : lk id hp = some ⟨5, 1, rb L⟩) (hI : I id) (h : i0 + n ≤ L.length) : SnapD hp I (.own id i0 n L.length) (nb ((L.drop i0).take n)) := by
  refine own_of hb hI (rb_len L) (es := ((L.drop i0).take n).map fun (x : Nat) => [.int .u8 (x : Int)]) ?_ (by simp; omega) (fun r hr => by
    rw [List.mem_map] at hr
    obtain ⟨c, _, rfl⟩ := hr
    rfl)
  have : ((rb L).drop i0).take n = rb ((L.drop i0).take n) := by simp [rb, List.map_drop, List.map_take]
  rw [this]
  exact rb_rows _

set_option maxHeartbeats 4000000 in
theorem take_own_fn (ty : TypeId) (e : Nat) (s : S8) (tail : List AV) (L : List Nat) (i0 : Nat) (hi0 : i0 + 64 ≤ L.length) (htail : ∀ n, ∀ v, v ∈ tail → v.low1 n) :
    RetsE Tryz.prog 356 2 [(0, ⟨ty, e, [s8c s ++ tail]⟩), (1, ⟨5, 1, rb L⟩)] [.ptr 0 0 0 1, .own 1 i0 64 L.length] (fun r hp' => r = .tup [] ∧ lk 0 hp' = some ⟨ty, e, [s8c (take s ((L.drop i0).take 64)) ++ tail]⟩ ∧ lk 1 hp' = some ⟨5, 1, rb L⟩) := by
  refine fnE_of_awp Tryz.func356 (by kernel_rfl) rfl Tryz.ntmps356 (rs := []) rfl (Nat.le_of_ble_eq_true rfl) (by decide) ?_
  simp only [go_sem, Nat.reduceEqDiff, Nat.reduceAdd, Nat.reduceLT, ↓reduceIte, Nat.reduceMul]
  have hb : ((L.drop i0).take 64).length = 64 := by simp; omega
  refine cl_snap (spread_fn ((L.drop i0).take 64) hb) rfl (snap_cons (.one (snap1_d (snap_rb rfl trivial hi0))) snap_nil) (by simp [AV.flat]; exact cw_flat _) ?_
  generalize (L.drop i0).take 64 = b at *
  simp only [go_sem, Nat.reduceEqDiff, Nat.reduceAdd, Nat.reduceLT, ↓reduceIte, Nat.reduceMul]
  refine cl_eq steps_fn (by simp [AV.deep, AV.deep1]) ?_
  have hsl := sched_len b
  have hzl : (K.zip (sched b)).length = 64 := by rw [List.length_zip, hsl, K_len]; rfl
  unfold Go.Sha.take rounds
  generalize sched b = ws at *
  have hz64 : (cw z64).drop 64 = [] := rfl
  generalize hR : restG rdp 0 (K.zip ws) s = R
  simp [go_sem, K_len, hsl, s8c, hz64]
  refine loop_of (fun t : Nat × S8 => ⟨[(0, .ptr 0 0 0 1), (4, .ptr 99 0 0 1), (5, .ptr 131 0 0 1), (6, .ptr 323 0 0 1), (19, .d (.int .i64 t.1))],
      [(323, ⟨486, 8, [s8c t.2]⟩), (131, ⟨558, 64, [cw K]⟩), (99, ⟨558, 64, [cw ws]⟩), (0, ⟨ty, e, [s8c s ++ tail]⟩), (1, ⟨5, 1, rb L⟩)], 419⟩)
    (fun t => t.1 ≤ 64 ∧ restG rdp t.1 (K.zip ws) t.2 = R) (fun t => 64 - t.1) (0, s) ⟨by omega, hR⟩ (by
      simp [Weak, slotOk, fv, lk, AV.low, AV.low1, s8c]
      exact ⟨cw_low _ _, cw_low _ _, fun v hv => htail _ v hv, rb_low _ _⟩) ?_
  clear hR
  rintro ⟨t, v⟩ ⟨ht, hR⟩
  simp only at ht hR
  simp only [go_sem, Nat.reduceEqDiff, Nat.reduceAdd, Nat.reduceLT, ↓reduceIte]
  refine ⟨fun h => ?_, fun h => ?_⟩
  · obtain ⟨k, hk, _⟩ := drop_of (l := K) (k := t) (by rw [K_len]; omega)
    obtain ⟨w, hw, _⟩ := drop_of (l := ws) (k := t) (by omega)
    have hz : (K.zip ws)[t]? = some (k, w) := by rw [List.getElem?_zip_eq_some]; exact ⟨hk, hw⟩
    rw [restG_step rdp hz] at hR
    simp only [go_sem, Nat.reduceEqDiff, Nat.reduceAdd, Nat.reduceLT, ↓reduceIte, s8c]
    simp [go_sem]
    apply draw2 (0 :: 1 :: 2 :: 4 :: 7 :: 11 :: 12 :: 13 :: 14 :: 15 :: 16 :: 17 :: 18 :: 19 :: 20 :: 22 :: 23 :: 24 :: 26 :: 27 :: 28 :: []) ((3, ([])) :: (5, (6 :: [])) :: (8, (9 :: 10 :: 21 :: 25 :: 29 :: 30 :: [])) :: []) 3 (k := 31) (by kernel_rfl) (by kernel_rfl) rfl
    case hz => repeat (first | exact Its.nil | apply Its.plain rfl | apply Its.guard rfl rfl)
    case hj => repeat (first | exact Jts.nil | exact Its.nil | apply Its.plain rfl | apply Its.guard rfl rfl | apply Jts.plain rfl | apply Jts.guard rfl rfl)
    intro G hG
    simp [go_sem, cw_get, hk, hw, w_xor, w_and, max32, w_not, w_add]
    refine ⟨by omega, ?_⟩
    refine cl_eq (rot_fn v.e 26 (-6) (by decide) (by omega)) (by simp [AV.deep, AV.deep1]) ?_
    simp [go_sem, w_xor, w_and, w_add]
    refine cl_eq (rot_fn v.e 21 (-11) (by decide) (by omega)) (by simp [AV.deep, AV.deep1]) ?_
    simp [go_sem, w_xor, w_and, w_add]
    refine cl_eq (rot_fn v.e 7 (-25) (by decide) (by omega)) (by simp [AV.deep, AV.deep1]) ?_
    simp [go_sem, w_xor, w_and, w_add]
    have hT1 : a32 (a32 (a32 (a32 v.h (x32 (x32 (rol 26 v.e) (rol 21 v.e)) (rol 7 v.e))) (x32 (n32 v.e v.f) (n32 (c32 v.e) v.g))) k) w = T1 v k w := by unfold T1; with_reducible rfl
    rw [hT1]
    refine hG _ _ ?_
    clear hG G
    simp [go_sem]
    apply draw2 (0 :: 2 :: 5 :: 8 :: 9 :: 10 :: 11 :: 12 :: 13 :: 14 :: 15 :: 16 :: 17 :: 18 :: 19 :: 20 :: 21 :: 22 :: []) ((1, ([])) :: (3, (4 :: [])) :: (6, (7 :: 23 :: 24 :: [])) :: []) 3 (k := 25) (by kernel_rfl) (by kernel_rfl) rfl
    case hz => repeat (first | exact Its.nil | apply Its.plain rfl | apply Its.guard rfl rfl)
    case hj => repeat (first | exact Jts.nil | exact Its.nil | apply Its.plain rfl | apply Its.guard rfl rfl | apply Jts.plain rfl | apply Jts.guard rfl rfl)
    intro G hG
    simp [go_sem, w_xor, w_and, w_add]
    refine cl_eq (rot_fn v.a 30 (-2) (by decide) (by omega)) (by simp [AV.deep, AV.deep1]) ?_
    simp [go_sem, w_xor, w_and, w_add]
    refine cl_eq (rot_fn v.a 19 (-13) (by decide) (by omega)) (by simp [AV.deep, AV.deep1]) ?_
    simp [go_sem, w_xor, w_and, w_add]
    refine cl_eq (rot_fn v.a 10 (-22) (by decide) (by omega)) (by simp [AV.deep, AV.deep1]) ?_
    simp [go_sem, w_xor, w_and, w_add]
    have hT2 : a32 (x32 (x32 (rol 30 v.a) (rol 19 v.a)) (rol 10 v.a)) (x32 (x32 (n32 v.a v.b) (n32 v.a v.c)) (n32 v.b v.c)) = T2 v := by unfold T2; with_reducible rfl
    rw [hT2]
    refine hG _ _ ?_
    clear hG G
    have w3 := next_i64 (k := t) (by omega)
    simp [go_sem, w_add, fillA, w3]
    refine next_of (t + 1, rdp v (k, w)) ⟨by simp only; omega, hR⟩ (by simp only; omega) ?_
    simp [Weak, slotOk, fv, lk, AV.low, AV.low1, s8c, rdp, rd]
    exact ⟨cw_low _ _, cw_low _ _, fun v hv => htail _ v hv, rb_low _ _⟩
  · have ht64 : t = 64 := by omega
    subst ht64
    rw [restG_end rdp (by omega)] at hR
    subst hR
    refine loop_of (fun i : Nat => ⟨[(0, .ptr 0 0 0 1), (6, .ptr 323 0 0 1), (101, .d (.int .i64 i))], [(323, ⟨486, 8, [cw v.l]⟩), (0, ⟨ty, e, [cw (mixL s v i) ++ tail]⟩), (1, ⟨5, 1, rb L⟩)], 483⟩)
      (fun i => i ≤ 8) (fun i => 8 - i) 0 (by omega) (by
        simp [Weak, slotOk, fv, lk, AV.low, AV.low1, mixL_zero, s8c_cw]
        refine ⟨cw_low _ _, fun v hv => ?_, rb_low _ _⟩
        rcases hv with hv | hv
        · exact cw_low _ _ v hv
        · exact htail _ v hv) ?_
    intro i hi
    simp only [go_sem, Nat.reduceEqDiff, Nat.reduceAdd, Nat.reduceLT, ↓reduceIte]
    refine ⟨fun h => ?_, fun h => ?_⟩
    · obtain ⟨x, y, hy, hx, hset⟩ := mixL_step s v (i := i) (by omega)
      have hml := mixL_len s v hi
      apply draw2 (0 :: 1 :: 2 :: 3 :: 4 :: 5 :: 6 :: 7 :: 8 :: 9 :: 10 :: []) ((11, ([])) :: []) 0 (k := 12) (by kernel_rfl) (by kernel_rfl) rfl
      case hz => repeat (first | exact Its.nil | apply Its.plain rfl | apply Its.guard rfl rfl)
      case hj => repeat (first | exact Jts.nil | exact Its.nil | apply Its.plain rfl | apply Its.guard rfl rfl | apply Jts.plain rfl | apply Jts.guard rfl rfl)
      intro G hG
      have hs2 := cwa_set (l := mixL s v i) (tail := tail) (i := i) (x := a32 x y) (by omega)
      rw [hset] at hs2
      simp [go_sem, cwa_get hx, cw_get, hy, w_add, hs2, hml]
      refine ⟨by omega, by omega, hG _ _ ?_⟩
      have w3 := next_i64 (k := i) (by omega)
      simp [go_sem, w3]
      refine next_of (i + 1) (by omega) (by omega) ?_
      simp [Weak, slotOk, fv, lk, AV.low, AV.low1]
      refine ⟨cw_low _ _, fun v hv => ?_, rb_low _ _⟩
      rcases hv with hv | hv
      · exact cw_low _ _ v hv
      · exact htail _ v hv
    · have hi8 : i = 8 := by omega
      subst hi8
      simp [go_sem, resV, mixL_end, s8c_cw]
      simp [cw, S8.l]
end Go.Proofs.YtnmnabagabejjaaGreat

/-
  SHA-256 in the program: the hash of what comes in parts.
-/
namespace Go.Proofs.YtnmnabagabejjaaGreat
open Go.Am Go.Sha
set_option linter.unusedSimpArgs false
set_option linter.unusedVariables false

theorem new_fn : RetsE Tryz.prog 264 0 [] [] (fun r hp' => r = .ptr 97 0 0 1 ∧ lk 97 hp' = some ⟨489, 10, [s8c H0 ++ [.nil, .d (.int .u64 0)]]⟩) := by
  refine fnE_of_awp Tryz.func264 (by kernel_rfl) rfl Tryz.ntmps264 (rs := [.tmp 0]) rfl (Nat.le_of_ble_eq_true rfl) (by decide) ?_
  simp only [go_sem, Nat.reduceEqDiff, Nat.reduceAdd, Nat.reduceLT, ↓reduceIte, Nat.reduceMul]
  refine cl_eq firsts_fn (by simp [AV.deep, AV.deep1]) ?_
  simp [go_sem, resV, fillA, structPlace, ← s8c_cw, s8c]

theorem r_ap_rofm {β : Type} (f : β → List DV) (b : List β) {P : Program} {el : TypeId} {e : Nat} {es : List (List DV)} {nx : Nat} {Kk : AV → Hp → Prop} {hp : Hp} : appendW P el (.d (.rof e es)) (some (List.map ((fun r => List.map AV.d r) ∘ f) b)) nx Kk hp = (e = P.cellsOf el ∧ (tzO P el).isSome = true ∧ P.bytesOf el ≠ 0 ∧ (es.length + b.length) * P.bytesOf el ≤ 140737488355328 ∧ EitherK (Kk (.d (.ro e (es ++ b.map f))) hp) (b.map f ≠ [] ∧ Kk (.own nx 0 (es.length + b.length) (es.length + b.length)) ((nx, ⟨el, P.cellsOf el, es.map (fun r => r.map AV.d) ++ List.map ((fun r => List.map AV.d r) ∘ f) b⟩) :: hp))) := by
  have := r_ap_rof (P := P) (K := Kk) (hp := hp) (nx := nx) el e es (b.map f)
  rw [List.map_map, List.length_map] at this
  exact this
theorem tk_map {α β : Type} (f : α → β) (l : List α) : (l.map f).take l.length = l.map f := by
  rw [List.take_of_length_le (by simp)]

theorem eat_none (k : Nat) (s : S8) (b : List Nat) (h : b.length < 64) : eat k s b = (s, b) := by
  cases k with
  | zero => rfl
  | succ k => simp [eat]; omega
theorem eat_more {k : Nat} {s : S8} {b : List Nat} (h : 64 ≤ b.length) (hk : b.length ≤ k) : eat k s b = eat (k - 1) (Go.Sha.take s (b.take 64)) (b.drop 64) := by
  obtain ⟨j, rfl⟩ : ∃ j, k = j + 1 := ⟨k - 1, by omega⟩
  rw [eat, if_pos h]
  rfl

set_option maxHeartbeats 4000000 in
theorem write_fn (s : S8) (R : AV) (rest b : List Nat) (n : Int) (hR : R = .d (nb rest) ∨ (R = .nil ∧ rest = [])) (hl : rest.length + b.length ≤ 1000000000000) :
    RetsE Tryz.prog 265 1 [(0, ⟨489, 10, [s8c s ++ [R, .d (.int .u64 n)]]⟩)] [.ptr 0 0 0 1, .d (nb b)]
      (fun r hp' => r = .tup [] ∧ lk 0 hp' = some ⟨489, 10, [s8c (eat ((rest ++ b).length) s (rest ++ b)).1 ++ [.d (nb (eat ((rest ++ b).length) s (rest ++ b)).2), .d (.int .u64 (IntKind.u64.wrap (n + (IntKind.u64.wrap (b.length : Int)))))]]⟩) := by
  refine fnE_of_awp Tryz.func265 (by kernel_rfl) rfl Tryz.ntmps265 (rs := []) rfl (Nat.le_of_ble_eq_true rfl) (by decide) ?_
  generalize hn' : IntKind.u64.wrap (n + (IntKind.u64.wrap (b.length : Int))) = n'
  generalize hE0 : eat ((rest ++ b).length) s (rest ++ b) = E
  rcases hR with rfl | ⟨rfl, rfl⟩
  · simp [go_sem, nb, s8c, hn']
    apply draw2 (0 :: 1 :: 2 :: 3 :: 4 :: 5 :: 6 :: 7 :: 8 :: 9 :: 10 :: 11 :: 12 :: 13 :: 14 :: 15 :: 16 :: []) ((17, (18 :: 19 :: [])) :: (20, ([])) :: []) 1 (k := 21) (by kernel_rfl) (by kernel_rfl) rfl
    case hz => repeat (first | exact Its.nil | apply Its.plain rfl | apply Its.guard rfl rfl)
    case hj => repeat (first | exact Jts.nil | exact Its.nil | apply Its.plain rfl | apply Its.guard rfl rfl | apply Jts.plain rfl | apply Jts.guard rfl rfl)
    intro G hG
    simp [go_sem, tk_map, r_ap_rofm]
    refine ⟨by have := hl; simp only [List.length_append, List.length_nil] at *; omega, .inl (hG _ _ ?_)⟩
    clear hG G
    refine loop_of (fun t : S8 × List Nat => ⟨[(0, .ptr 0 0 0 1)], [(0, ⟨489, 10, [s8c t.1 ++ [.d (nb t.2), .d (.int .u64 n')]]⟩)], 1090⟩)
      (fun t => t.2.length ≤ 1000000000000 ∧ ∃ k, t.2.length ≤ k ∧ eat k t.1 t.2 = E) (fun t => t.2.length) (s, rest ++ b) ⟨by have := hl; simp only [List.length_append, List.length_nil] at *; omega, _, Nat.le_refl _, hE0⟩ (by
        simp [Weak, slotOk, fv, lk, AV.low, AV.low1, nb, s8c]) ?_
    rintro ⟨s1, q⟩ ⟨hq, k, hk, hE⟩
    simp only at hq hk hE
    simp only [go_sem, Nat.reduceEqDiff, Nat.reduceAdd, Nat.reduceLT, ↓reduceIte, s8c, nb, List.length_map]
    refine ⟨fun h => ?_, fun h => ?_⟩
    · have h64 : 64 ≤ q.length := by omega
      rw [eat_more h64 hk] at hE
      apply draw2 (0 :: 1 :: 2 :: 3 :: 4 :: 5 :: 6 :: 7 :: []) ((8, ([])) :: []) 0 (k := 9) (by kernel_rfl) (by kernel_rfl) rfl
      case hz => repeat (first | exact Its.nil | apply Its.plain rfl | apply Its.guard rfl rfl)
      case hj => repeat (first | exact Jts.nil | exact Its.nil | apply Its.plain rfl | apply Its.guard rfl rfl | apply Jts.plain rfl | apply Jts.guard rfl rfl)
      intro G hG
      simp [go_sem]
      refine ⟨by omega, ?_⟩
      refine cl_eff [(0, 0)] (take_fn 489 10 s1 [.d (nb q), .d (.int .u64 n')] (q.take 64) (by simp; omega) (by simp [AV.low1])) rfl (by simp) (by simp [lk]) (by simp [lk, Blk.ren, renR, AV.renL, AV.ren, rho, swp, s8c, nb]) (by simp [AV.renL, AV.ren, rho, swp, lk, nb, List.map_take]) ?_
      rintro r hp' ⟨rfl, h0⟩
      refine ⟨[], rfl, ?_⟩
      simp [go_sem, outH, outP, h0, Blk.ren, renR, AV.renL, AV.ren, rho, s8c]
      refine hG _ _ ?_
      clear hG G
      simp [go_sem, nb]
      refine ⟨by omega, ?_⟩
      refine next_of (Go.Sha.take s1 (q.take 64), q.drop 64) ⟨by simp only [List.length_drop]; omega, k - 1, by simp only [List.length_drop]; omega, hE⟩ (by simp only [List.length_drop]; omega) ?_
      simp [Weak, slotOk, fv, lk, AV.low, AV.low1, nb, s8c, List.map_drop, tk_map]
    · rw [eat_none k s1 q (by omega)] at hE
      subst hE
      rfl
  · simp [go_sem, nb, s8c, hn']
    apply draw2 (0 :: 1 :: 2 :: 3 :: 4 :: 5 :: 6 :: 7 :: 8 :: 9 :: 10 :: 11 :: 12 :: 13 :: 14 :: 15 :: 16 :: []) ((17, (18 :: 19 :: [])) :: (20, ([])) :: []) 1 (k := 21) (by kernel_rfl) (by kernel_rfl) rfl
    case hz => repeat (first | exact Its.nil | apply Its.plain rfl | apply Its.guard rfl rfl)
    case hj => repeat (first | exact Jts.nil | exact Its.nil | apply Its.plain rfl | apply Its.guard rfl rfl | apply Jts.plain rfl | apply Jts.guard rfl rfl)
    intro G hG
    simp [go_sem, tk_map, r_ap_rofm]
    refine ⟨by have := hl; simp only [List.length_append, List.length_nil] at *; omega, .inl (hG _ _ ?_)⟩
    clear hG G
    refine loop_of (fun t : S8 × List Nat => ⟨[(0, .ptr 0 0 0 1)], [(0, ⟨489, 10, [s8c t.1 ++ [.d (nb t.2), .d (.int .u64 n')]]⟩)], 1090⟩)
      (fun t => t.2.length ≤ 1000000000000 ∧ ∃ k, t.2.length ≤ k ∧ eat k t.1 t.2 = E) (fun t => t.2.length) (s, [] ++ b) ⟨by have := hl; simp only [List.length_append, List.length_nil] at *; omega, _, Nat.le_refl _, hE0⟩ (by
        simp [Weak, slotOk, fv, lk, AV.low, AV.low1, nb, s8c]) ?_
    rintro ⟨s1, q⟩ ⟨hq, k, hk, hE⟩
    simp only at hq hk hE
    simp only [go_sem, Nat.reduceEqDiff, Nat.reduceAdd, Nat.reduceLT, ↓reduceIte, s8c, nb, List.length_map]
    refine ⟨fun h => ?_, fun h => ?_⟩
    · have h64 : 64 ≤ q.length := by omega
      rw [eat_more h64 hk] at hE
      apply draw2 (0 :: 1 :: 2 :: 3 :: 4 :: 5 :: 6 :: 7 :: []) ((8, ([])) :: []) 0 (k := 9) (by kernel_rfl) (by kernel_rfl) rfl
      case hz => repeat (first | exact Its.nil | apply Its.plain rfl | apply Its.guard rfl rfl)
      case hj => repeat (first | exact Jts.nil | exact Its.nil | apply Its.plain rfl | apply Its.guard rfl rfl | apply Jts.plain rfl | apply Jts.guard rfl rfl)
      intro G hG
      simp [go_sem]
      refine ⟨by omega, ?_⟩
      refine cl_eff [(0, 0)] (take_fn 489 10 s1 [.d (nb q), .d (.int .u64 n')] (q.take 64) (by simp; omega) (by simp [AV.low1])) rfl (by simp) (by simp [lk]) (by simp [lk, Blk.ren, renR, AV.renL, AV.ren, rho, swp, s8c, nb]) (by simp [AV.renL, AV.ren, rho, swp, lk, nb, List.map_take]) ?_
      rintro r hp' ⟨rfl, h0⟩
      refine ⟨[], rfl, ?_⟩
      simp [go_sem, outH, outP, h0, Blk.ren, renR, AV.renL, AV.ren, rho, s8c]
      refine hG _ _ ?_
      clear hG G
      simp [go_sem, nb]
      refine ⟨by omega, ?_⟩
      refine next_of (Go.Sha.take s1 (q.take 64), q.drop 64) ⟨by simp only [List.length_drop]; omega, k - 1, by simp only [List.length_drop]; omega, hE⟩ (by simp only [List.length_drop]; omega) ?_
      simp [Weak, slotOk, fv, lk, AV.low, AV.low1, nb, s8c, List.map_drop, tk_map]
    · rw [eat_none k s1 q (by omega)] at hE
      subst hE
      rfl

/-- What Sum makes of what is left. -/
def padTo : Nat → List Nat → List Nat
  | 0, l => l
  | n + 1, l => if l.length % 64 = 56 then l else padTo n (l ++ [0])
theorem padTo_step {k : Nat} {l : List Nat} (h : l.length % 64 ≠ 56) (hk : 0 < k) : padTo k l = padTo (k - 1) (l ++ [0]) := by
  obtain ⟨j, rfl⟩ : ∃ j, k = j + 1 := ⟨k - 1, by omega⟩
  rw [padTo, if_neg h]
  rfl
theorem padTo_end {k : Nat} {l : List Nat} (h : l.length % 64 = 56) : padTo k l = l := by
  cases k with
  | zero => rfl
  | succ k => rw [padTo, if_pos h]
end Go.Proofs.YtnmnabagabejjaaGreat

/-
  SHA-256 in the program: the sum.
-/
namespace Go.Proofs.YtnmnabagabejjaaGreat
open Go.Am Go.Sha
set_option linter.unusedSimpArgs false
set_option linter.unusedVariables false

theorem rb_app (a b : List Nat) : rb a ++ rb b = rb (a ++ b) := by simp [rb]
theorem rb_snoc (a : List Nat) (x : Nat) : rb a ++ [[AV.d (.int .u8 (x : Int))]] = rb (a ++ [x]) := by simp [rb]
theorem rb_snoc128 (a : List Nat) : rb a ++ [[AV.d (.int .u8 128)]] = rb (a ++ [128]) := by simp [rb]
theorem rb_snoc0 (a : List Nat) : rb a ++ [[AV.d (.int .u8 0)]] = rb (a ++ [0]) := by simp [rb]
theorem rb_of (a : List Nat) : List.map ((fun r => List.map AV.d r) ∘ fun (x : Nat) => [DV.int .u8 (x : Int)]) a = rb a := by simp [rb]
def len8 (m : Nat) : Nat → List Nat
  | 0 => []
  | j + 1 => len8 m j ++ [t8 (r32 (56 - 8 * j) m)]
theorem len8_len (m : Nat) : ∀ j, (len8 m j).length = j
  | 0 => rfl
  | j + 1 => by simp [len8, len8_len m j]
/-- What is hashed last. -/
def lastOf (rest : List Nat) (n : Nat) : List Nat := padTo 64 (rest ++ [128]) ++ len8 (n * 8 % 18446744073709551616) 8
theorem m8_nat (n : Nat) : IntKind.u64.wrap ((n : Int) * 8) = ((n * 8 % 18446744073709551616 : Nat) : Int) := by rw [u64w]; omega
theorem tmod64 (n : Nat) : Int.tmod (n : Int) 64 = ((n % 64 : Nat) : Int) := by
  have := Int.ofNat_tmod n 64
  simpa using this.symm

theorem hrow_low (s : S8) (a b : AV) (ha : ∀ n, a.low1 n) (hb : ∀ n, b.low1 n) (n : Nat) : ∀ v, v ∈ s8c s ++ [a, b] → v.low1 n := by
  intro v hv
  rcases List.mem_append.1 hv with h | h
  · exact cw_low n s.l v h
  · simp only [List.mem_cons, List.mem_nil_iff, or_false] at h
    rcases h with rfl | rfl
    · exact ha n
    · exact hb n
theorem hrow2 (s : S8) (a b : AV) (ha : ∀ n, a.low1 n) (hb : ∀ n, b.low1 n) (n : Nat) : ∀ v, v ∈ s8c s ∨ v = a ∨ v = b → v.low1 n := by
  intro v hv
  refine hrow_low s a b ha hb n v ?_
  simpa using hv
theorem s8c_low (s : S8) (n : Nat) : ∀ v, v ∈ s8c s → v.low1 n := cw_low n s.l
theorem s8c_ren (ρ : Nat → Nat) (s : S8) : AV.renL ρ (s8c s) = s8c s := cw_ren ρ s.l
theorem rb_ren (ρ : Nat → Nat) (L : List Nat) : List.map (AV.renL ρ) (rb L) = rb L := by
  simp [rb, AV.renL, AV.ren]
def row32 (w : List Nat) : List Nat := w ++ List.replicate (32 - w.length) 0
theorem row32_len {w : List Nat} (h : w.length ≤ 32) : (row32 w).length = 32 := by simp [row32]; omega
theorem row32_set {w : List Nat} {x : Nat} (h : w.length < 32) : (row32 w).set w.length x = row32 (w ++ [x]) := by
  unfold row32
  rw [List.set_append_right _ _ (Nat.le_refl _), Nat.sub_self]
  obtain ⟨k, hk⟩ : ∃ k, 32 - w.length = k + 1 := ⟨31 - w.length, by omega⟩
  rw [hk, List.replicate_succ, List.set_cons_zero, List.append_assoc]
  simp only [List.length_append, List.length_singleton, List.singleton_append]
  rw [show 32 - (w.length + 1) = k by omega]
theorem row32_full {w : List Nat} (h : w.length = 32) : row32 w = w := by unfold row32; rw [h]; simp
theorem tk8s (s : S8) : List.take 8 (s8c s) = s8c s := rfl
theorem s8c_get (s : S8) {i : Nat} (h : i < 8) : (s8c s)[i]? = some (.d (.int .u32 ((s.l.getD i 0 : Nat) : Int))) := by
  rw [s8c_cw, cw_get, List.getD_eq_getElem?_getD]
  have : i < s.l.length := h
  rw [List.getElem?_eq_getElem this]
  rfl
theorem hd9 (s : S8) (a b : AV) : (List.drop 9 (s8c s ++ [a, b])).head? = some b := rfl
theorem tk8 (s : S8) (a b : AV) : List.take 8 (s8c s ++ [a, b]) = s8c s := rfl
theorem s8c_len (s : S8) : (s8c s).length = 8 := rfl
theorem modn (n : Nat) : IntKind.i64.wrap (n : Int) = IntKind.i64.wrap (n : Int) := rfl

set_option maxHeartbeats 4000000 in
theorem sum_fn (s : S8) (R : AV) (rest : List Nat) (n : Nat) (hR : R = .d (nb rest) ∨ (R = .nil ∧ rest = [])) (hl : rest.length ≤ 1000000000000) :
    RetsE Tryz.prog 266 1 [(0, ⟨489, 10, [s8c s ++ [R, .d (.int .u64 (n : Int))]]⟩)] [.ptr 0 0 0 1]
      (fun r hp' => r = .agg (cb (dig (eat (lastOf rest n).length s (lastOf rest n)).1)) ∧ lk 0 hp' = some ⟨489, 10, [s8c s ++ [R, .d (.int .u64 (n : Int))]]⟩) := by
  refine fnE_of_awp Tryz.func266 (by kernel_rfl) rfl Tryz.ntmps266 (rs := [.cell 2 61]) rfl (Nat.le_of_ble_eq_true rfl) (by decide) ?_
  rcases hR with rfl | ⟨rfl, rfl⟩
  · simp [go_sem, nb, s8c, rb_of, rb_snoc128, rb_len]
    refine ⟨by omega, by omega, ?_⟩
    refine loop_of (fun l : List Nat => ⟨[(0, .ptr 0 0 0 1), (2, .ptr 2 0 0 1), (3, .own 98 0 l.length l.length)], [(98, ⟨5, 1, rb l⟩), (2, ⟨61, 32, [cb z32]⟩), (0, ⟨489, 10, [s8c s ++ [.d (nb rest), .d (.int .u64 (n : Int))]]⟩)], 450⟩)
      (fun l => l.length ≤ 1000000000000 + 65 ∧ ∃ k, (120 - l.length % 64) % 64 ≤ k ∧ (k + l.length ≤ 1000000000000 + 65) ∧ padTo k l = padTo 64 (rest ++ [128])) (fun l => (120 - l.length % 64) % 64) (rest ++ [128]) ⟨by have := hl; simp only [List.length_append, List.length_nil, List.length_singleton] at *; omega, 64, by omega, by have := hl; simp only [List.length_append, List.length_nil, List.length_singleton] at *; omega, rfl⟩ (by
        simp [Weak, slotOk, fv, lk, AV.low, AV.low1, nb, s8c]
        exact ⟨rb_low _ _, cb_low _ _⟩) ?_
    rintro l ⟨hl1, k, hk, hk2, hP⟩
    have em : Int.tmod (l.length : Int) 64 = ((l.length % 64 : Nat) : Int) := tmod64 _
    simp only [go_sem, Nat.reduceEqDiff, Nat.reduceAdd, Nat.reduceLT, ↓reduceIte, em]
    refine ⟨by decide, fun h => ?_, fun h => ?_⟩
    · have h56 : l.length % 64 ≠ 56 := by omega
      rw [padTo_step h56 (by omega)] at hP
      refine ⟨by decide, rb_len l, by omega, ?_⟩
      rw [rb_snoc0]
      refine next_of (l ++ [0]) ⟨by simp only [List.length_append, List.length_singleton]; omega, k - 1, by simp only [List.length_append, List.length_singleton]; omega, by simp only [List.length_append, List.length_singleton]; omega, hP⟩ (by simp only [List.length_append, List.length_singleton]; omega) ?_
      simp [Weak, slotOk, fv, lk, AV.low, AV.low1]
      exact ⟨rb_low _ _, cb_low _ _, hrow2 s (.d (nb rest)) (.d (.int .u64 n)) (fun _ => trivial) (fun _ => trivial) _⟩
    · have h56 : l.length % 64 = 56 := by omega
      rw [padTo_end h56] at hP
      simp only [go_sem, Nat.reduceEqDiff, Nat.reduceAdd, Nat.reduceLT, ↓reduceIte, hd9, m8_nat]
      have hm : lastOf rest n = l ++ len8 (n * 8 % 18446744073709551616) 8 := by unfold lastOf; rw [← hP]
      generalize n * 8 % 18446744073709551616 = m at hm
      generalize lastOf rest n = L at hm
      clear hP hk hk2 hl
      refine loop_of (fun j : Nat => ⟨[(0, .ptr 0 0 0 1), (2, .ptr 2 0 0 1), (3, .own 98 0 (l ++ len8 m j).length (l ++ len8 m j).length), (4, .d (.int .u64 (m : Int))), (5, .d (.int .i64 (56 - 8 * (j : Int))))], [(98, ⟨5, 1, rb (l ++ len8 m j)⟩), (2, ⟨61, 32, [cb z32]⟩), (0, ⟨489, 10, [s8c s ++ [.d (nb rest), .d (.int .u64 (n : Int))]]⟩)], 642⟩)
        (fun j => j ≤ 8) (fun j => 8 - j) 0 (by omega) (by
          simp [Weak, slotOk, fv, lk, AV.low, AV.low1, len8]
          exact ⟨rb_low _ _, cb_low _ _, hrow2 s (.d (nb rest)) (.d (.int .u64 n)) (fun _ => trivial) (fun _ => trivial) _⟩) ?_
      intro j hj
      have hll : (l ++ len8 m j).length = l.length + j := by rw [List.length_append, len8_len]
      have e8 : (56 : Int) - 8 * (j : Int) - 8 = 56 - 8 * ((j + 1 : Nat) : Int) := by omega
      have w8 : IntKind.i64.wrap (56 - 8 * (j : Int) - 8) = 56 - 8 * ((j + 1 : Nat) : Int) := by rw [IntWalk.i64_in _ (by omega)]; omega
      simp only [go_sem, Nat.reduceEqDiff, Nat.reduceAdd, Nat.reduceLT, ↓reduceIte]
      refine ⟨fun h => ?_, fun h => ?_⟩
      · have hj7 : j ≤ 7 := by omega
        have eb : IntKind.u8.wrap (Int.fdiv (m : Int) (2 ^ (min (56 - 8 * (j : Int)).toNat 64))) = ((t8 (r32 (56 - 8 * j) m) : Nat) : Int) := by
          rw [show min (56 - 8 * (j : Int)).toNat 64 = 56 - 8 * j by omega, d_r, w8_nat]
        have es : rb (l ++ len8 m j) ++ [[AV.d (.int .u8 ((t8 (r32 (56 - 8 * j) m) : Nat) : Int))]] = rb (l ++ len8 m (j + 1)) := by rw [rb_snoc, List.append_assoc]; rfl
        simp only [go_sem, Nat.reduceEqDiff, Nat.reduceAdd, Nat.reduceLT, ↓reduceIte, IntKind.bits, eb, rb_len, es, w8]
        refine ⟨by omega, by decide, by have := len8_len m j; omega, ?_⟩
        refine next_of (j + 1) (by omega) (by omega) ?_
        have hl8 : (len8 m (j + 1)).length = (len8 m j).length + 1 := by rw [len8_len, len8_len]
        simp [Weak, slotOk, fv, lk, AV.low, AV.low1, hl8]
        exact ⟨by omega, rb_low _ _, cb_low _ _, hrow2 s (.d (nb rest)) (.d (.int .u64 n)) (fun _ => trivial) (fun _ => trivial) _⟩
      · have hj8 : j = 8 := by omega
        subst hj8
        rw [← hm]
        have hL64 : L.length % 64 = 0 := by rw [hm, List.length_append, len8_len]; omega
        have hLl : L.length ≤ 2000000000000 := by rw [hm, List.length_append, len8_len]; omega
        have hLen : l.length + (len8 m 8).length = L.length := by rw [hm, List.length_append]
        clear hm hll e8 w8 h56 h em
        simp [go_sem, tk8, s8c_len, hLen]
        generalize hE0 : eat L.length s L = E
        refine loop_of (fun t : Nat × S8 => ⟨[(0, .ptr 0 0 0 1), (2, .ptr 2 0 0 1), (3, .own 98 (64 * t.1) (L.length - 64 * t.1) L.length), (6, .ptr 834 0 0 1)], [(834, ⟨486, 8, [s8c t.2]⟩), (98, ⟨5, 1, rb L⟩), (2, ⟨61, 32, [cb z32]⟩), (0, ⟨489, 10, [s8c s ++ [.d (nb rest), .d (.int .u64 (n : Int))]]⟩)], 898⟩)
          (fun t => 64 * t.1 ≤ L.length ∧ ∃ k, L.length - 64 * t.1 ≤ k ∧ eat k t.2 (L.drop (64 * t.1)) = E) (fun t => L.length - 64 * t.1) (0, s) ⟨by omega, L.length, by omega, hE0⟩ (by
            simp [Weak, slotOk, fv, lk, AV.low, AV.low1]
            exact ⟨s8c_low _ _, rb_low _ _, cb_low _ _, hrow2 s (.d (nb rest)) (.d (.int .u64 n)) (fun _ => trivial) (fun _ => trivial) _⟩) ?_
        rintro ⟨j, s1⟩ ⟨hj64, k, hk, hE⟩
        simp only at hj64 hk hE
        have hdl : (L.drop (64 * j)).length = L.length - 64 * j := List.length_drop
        simp only [go_sem, Nat.reduceEqDiff, Nat.reduceAdd, Nat.reduceLT, ↓reduceIte]
        refine ⟨fun h => ?_, fun h => ?_⟩
        · have h64 : 64 ≤ L.length - 64 * j := by omega
          rw [eat_more (by omega) (by omega)] at hE
          simp [go_sem]
          refine ⟨by omega, ?_⟩
          refine cl_eff [(0, 834), (1, 98)] (take_own_fn 486 8 s1 [] L (64 * j) (by omega) (by simp)) rfl (by simp) (by simp [lk]) (by simp [lk, Blk.ren, renR, AV.renL, AV.ren, rho, swp, s8c, rb]) (by simp [AV.renL, AV.ren, rho, swp, lk]) ?_
          rintro r hp' ⟨rfl, h0, h1⟩
          refine ⟨[], rfl, ?_⟩
          simp [go_sem, outH, outP, h0, h1, Blk.ren, renR, s8c_ren, rb_ren, AV.renL, AV.ren, rho]
          refine ⟨by omega, ?_⟩
          refine next_of (j + 1, Go.Sha.take s1 ((L.drop (64 * j)).take 64)) ⟨by simp only; omega, k - 1, by simp only; omega, ?_⟩ (by simp only; omega) ?_
          · rw [List.drop_drop] at hE
            exact hE
          · simp [Weak, slotOk, fv, lk, AV.low, AV.low1]
            exact ⟨⟨by omega, by omega⟩, s8c_low _ _, rb_low _ _, cb_low _ _, hrow2 s (.d (nb rest)) (.d (.int .u64 n)) (fun _ => trivial) (fun _ => trivial) _⟩
        · have hnil : L.drop (64 * j) = [] := List.drop_eq_nil_of_le (by omega)
          rw [hnil, eat_none k s1 [] (by simp)] at hE
          have hs1 : s1 = E.1 := by rw [← hE]
          clear hE hE0 hdl hnil
          simp [go_sem, s8c_len]
          refine loop_of (fun i : Nat => ⟨[(0, .ptr 0 0 0 1), (2, .ptr 2 0 0 1), (7, .ptr 994 0 0 1), (59, .agg (s8c s1)), (60, .d (.int .i64 i))], [(994, ⟨61, 32, [cb (row32 (pre s1.l i))]⟩), (2, ⟨61, 32, [cb z32]⟩), (0, ⟨489, 10, [s8c s ++ [.d (nb rest), .d (.int .u64 (n : Int))]]⟩)], 1090⟩)
            (fun i => i ≤ 8) (fun i => 8 - i) 0 (by omega) (by
              simp [Weak, slotOk, fv, lk, AV.low, AV.low1, tk8s]
              exact ⟨s8c_low _ _, ⟨rfl, cb_low _ _⟩, cb_low _ _, hrow2 s (.d (nb rest)) (.d (.int .u64 n)) (fun _ => trivial) (fun _ => trivial) _⟩) ?_
          intro i hi
          have hpl := pre_len s1.l i
          simp only [go_sem, Nat.reduceEqDiff, Nat.reduceAdd, Nat.reduceLT, ↓reduceIte]
          refine ⟨fun h2 => ?_, fun h2 => ?_⟩
          · have hg := s8c_get s1 (i := i) (by omega)
            have hpre : pre s1.l (i + 1) = pre s1.l i ++ wbk (s1.l.getD i 0) 4 := rfl
            generalize s1.l.getD i 0 = x at hg hpre
            simp [go_sem, hg]
            refine ⟨by omega, ?_⟩
            refine loop_of (fun k : Nat => ⟨[(0, .ptr 0 0 0 1), (2, .ptr 2 0 0 1), (7, .ptr 994 0 0 1), (59, .agg (s8c s1)), (60, .d (.int .i64 i)), (8, .d (.int .i64 i)), (9, .d (.int .u32 (x : Int))), (64, .d (.int .i64 k))], [(994, ⟨61, 32, [cb (row32 (pre s1.l i ++ wbk x k))]⟩), (2, ⟨61, 32, [cb z32]⟩), (0, ⟨489, 10, [s8c s ++ [.d (nb rest), .d (.int .u64 (n : Int))]]⟩)], 1300⟩)
              (fun k => k ≤ 4) (fun k => 4 - k) 0 (by omega) (by
                simp [Weak, slotOk, fv, lk, AV.low, AV.low1, wbk]
                exact ⟨s8c_low _ _, cb_low _ _, cb_low _ _, hrow2 s (.d (nb rest)) (.d (.int .u64 n)) (fun _ => trivial) (fun _ => trivial) _⟩) ?_
            intro k hk4
            have hkl := wbk_len x k
            simp only [go_sem, Nat.reduceEqDiff, Nat.reduceAdd, Nat.reduceLT, ↓reduceIte]
            refine ⟨fun h3 => ?_, fun h3 => ?_⟩
            · have w1 : IntKind.i64.wrap (4 * (i : Int)) = ((4 * i : Nat) : Int) := by rw [IntWalk.i64_in _ (by omega)]; omega
              have w2 : IntKind.i64.wrap (((4 * i : Nat) : Int) + (k : Int)) = ((4 * i + k : Nat) : Int) := by rw [IntWalk.i64_in _ (by omega)]; omega
              have w3 : IntKind.i64.wrap (8 * (k : Int)) = ((8 * k : Nat) : Int) := by rw [IntWalk.i64_in _ (by omega)]; omega
              have w4 : IntKind.i64.wrap (24 - ((8 * k : Nat) : Int)) = ((24 - 8 * k : Nat) : Int) := by rw [IntWalk.i64_in _ (by omega)]; omega
              have w5 := next_i64 (k := k) (by omega)
              have eb : IntKind.u8.wrap (Int.fdiv (x : Int) (2 ^ (min (24 - 8 * k) 32))) = ((t8 (r32 (24 - 8 * k) x) : Nat) : Int) := by
                rw [show min (24 - 8 * k) 32 = 24 - 8 * k by omega, d_r, w8_nat]
              have hset : (row32 (pre s1.l i ++ wbk x k)).set (4 * i + k) (t8 (r32 (24 - 8 * k) x)) = row32 (pre s1.l i ++ wbk x (k + 1)) := by
                have h := row32_set (w := pre s1.l i ++ wbk x k) (x := t8 (r32 (24 - 8 * k) x)) (by rw [List.length_append]; omega)
                rw [List.length_append, hpl, hkl, List.append_assoc] at h
                exact h
              have hrl : (row32 (pre s1.l i ++ wbk x k)).length = 32 := row32_len (by rw [List.length_append]; omega)
              simp only [go_sem, Nat.reduceEqDiff, Nat.reduceAdd, Nat.reduceLT, ↓reduceIte, w1, w2, w3, w4, IntKind.bits, Int.toNat_natCast, eb, Nat.mul_one, cb_set, hset, hrl, w5]
              refine ⟨by omega, by omega, ?_⟩
              refine next_of (k + 1) (by omega) (by omega) ?_
              simp [Weak, slotOk, fv, lk, AV.low, AV.low1]
              exact ⟨s8c_low _ _, cb_low _ _, cb_low _ _, hrow2 s (.d (nb rest)) (.d (.int .u64 n)) (fun _ => trivial) (fun _ => trivial) _⟩
            · have hk4' : k = 4 := by omega
              subst hk4'
              rw [← hpre]
              have w5 := next_i64 (k := i) (by omega)
              simp only [go_sem, Nat.reduceEqDiff, Nat.reduceAdd, Nat.reduceLT, ↓reduceIte, w5]
              refine next_of (i + 1) (by omega) (by omega) ?_
              simp [Weak, slotOk, fv, lk, AV.low, AV.low1]
              exact ⟨s8c_low _ _, cb_low _ _, cb_low _ _, hrow2 s (.d (nb rest)) (.d (.int .u64 n)) (fun _ => trivial) (fun _ => trivial) _⟩
          · have hi8 : i = 8 := by omega
            subst hi8
            have hfull : row32 (pre s1.l 8) = dig s1 := row32_full hpl
            rw [hfull, hs1]
            have hdl2 : (dig E.1).length = 32 := pre_len _ 8
            have htk : List.take 32 (cb (dig E.1)) = cb (dig E.1) := List.take_of_length_le (by rw [cb_len]; omega)
            simp [go_sem, resV, hdl2, htk]
            rfl
  · simp [go_sem, nb, s8c, rb_of, rb_snoc128, rb_len]
    refine loop_of (fun l : List Nat => ⟨[(0, .ptr 0 0 0 1), (2, .ptr 2 0 0 1), (3, .own 98 0 l.length l.length)], [(98, ⟨5, 1, rb l⟩), (2, ⟨61, 32, [cb z32]⟩), (0, ⟨489, 10, [s8c s ++ [.nil, .d (.int .u64 (n : Int))]]⟩)], 450⟩)
      (fun l => l.length ≤ 1000000000000 + 65 ∧ ∃ k, (120 - l.length % 64) % 64 ≤ k ∧ (k + l.length ≤ 1000000000000 + 65) ∧ padTo k l = padTo 64 ([] ++ [128])) (fun l => (120 - l.length % 64) % 64) ([] ++ [128]) ⟨by have := hl; simp only [List.length_append, List.length_nil, List.length_singleton] at *; omega, 64, by omega, by have := hl; simp only [List.length_append, List.length_nil, List.length_singleton] at *; omega, rfl⟩ (by
        simp [Weak, slotOk, fv, lk, AV.low, AV.low1, nb, s8c]
        exact ⟨⟨rfl, rb_low _ _⟩, cb_low _ _⟩) ?_
    rintro l ⟨hl1, k, hk, hk2, hP⟩
    have em : Int.tmod (l.length : Int) 64 = ((l.length % 64 : Nat) : Int) := tmod64 _
    simp only [go_sem, Nat.reduceEqDiff, Nat.reduceAdd, Nat.reduceLT, ↓reduceIte, em]
    refine ⟨by decide, fun h => ?_, fun h => ?_⟩
    · have h56 : l.length % 64 ≠ 56 := by omega
      rw [padTo_step h56 (by omega)] at hP
      refine ⟨by decide, rb_len l, by omega, ?_⟩
      rw [rb_snoc0]
      refine next_of (l ++ [0]) ⟨by simp only [List.length_append, List.length_singleton]; omega, k - 1, by simp only [List.length_append, List.length_singleton]; omega, by simp only [List.length_append, List.length_singleton]; omega, hP⟩ (by simp only [List.length_append, List.length_singleton]; omega) ?_
      simp [Weak, slotOk, fv, lk, AV.low, AV.low1]
      exact ⟨rb_low _ _, cb_low _ _, hrow2 s (.nil) (.d (.int .u64 n)) (fun _ => trivial) (fun _ => trivial) _⟩
    · have h56 : l.length % 64 = 56 := by omega
      rw [padTo_end h56] at hP
      simp only [go_sem, Nat.reduceEqDiff, Nat.reduceAdd, Nat.reduceLT, ↓reduceIte, hd9, m8_nat]
      have hm : lastOf [] n = l ++ len8 (n * 8 % 18446744073709551616) 8 := by unfold lastOf; rw [← hP]
      generalize n * 8 % 18446744073709551616 = m at hm
      generalize lastOf [] n = L at hm
      clear hP hk hk2 hl
      refine loop_of (fun j : Nat => ⟨[(0, .ptr 0 0 0 1), (2, .ptr 2 0 0 1), (3, .own 98 0 (l ++ len8 m j).length (l ++ len8 m j).length), (4, .d (.int .u64 (m : Int))), (5, .d (.int .i64 (56 - 8 * (j : Int))))], [(98, ⟨5, 1, rb (l ++ len8 m j)⟩), (2, ⟨61, 32, [cb z32]⟩), (0, ⟨489, 10, [s8c s ++ [.nil, .d (.int .u64 (n : Int))]]⟩)], 642⟩)
        (fun j => j ≤ 8) (fun j => 8 - j) 0 (by omega) (by
          simp [Weak, slotOk, fv, lk, AV.low, AV.low1, len8]
          exact ⟨rb_low _ _, cb_low _ _, hrow2 s (.nil) (.d (.int .u64 n)) (fun _ => trivial) (fun _ => trivial) _⟩) ?_
      intro j hj
      have hll : (l ++ len8 m j).length = l.length + j := by rw [List.length_append, len8_len]
      have e8 : (56 : Int) - 8 * (j : Int) - 8 = 56 - 8 * ((j + 1 : Nat) : Int) := by omega
      have w8 : IntKind.i64.wrap (56 - 8 * (j : Int) - 8) = 56 - 8 * ((j + 1 : Nat) : Int) := by rw [IntWalk.i64_in _ (by omega)]; omega
      simp only [go_sem, Nat.reduceEqDiff, Nat.reduceAdd, Nat.reduceLT, ↓reduceIte]
      refine ⟨fun h => ?_, fun h => ?_⟩
      · have hj7 : j ≤ 7 := by omega
        have eb : IntKind.u8.wrap (Int.fdiv (m : Int) (2 ^ (min (56 - 8 * (j : Int)).toNat 64))) = ((t8 (r32 (56 - 8 * j) m) : Nat) : Int) := by
          rw [show min (56 - 8 * (j : Int)).toNat 64 = 56 - 8 * j by omega, d_r, w8_nat]
        have es : rb (l ++ len8 m j) ++ [[AV.d (.int .u8 ((t8 (r32 (56 - 8 * j) m) : Nat) : Int))]] = rb (l ++ len8 m (j + 1)) := by rw [rb_snoc, List.append_assoc]; rfl
        simp only [go_sem, Nat.reduceEqDiff, Nat.reduceAdd, Nat.reduceLT, ↓reduceIte, IntKind.bits, eb, rb_len, es, w8]
        refine ⟨by omega, by decide, by have := len8_len m j; omega, ?_⟩
        refine next_of (j + 1) (by omega) (by omega) ?_
        have hl8 : (len8 m (j + 1)).length = (len8 m j).length + 1 := by rw [len8_len, len8_len]
        simp [Weak, slotOk, fv, lk, AV.low, AV.low1, hl8]
        exact ⟨by omega, rb_low _ _, cb_low _ _, hrow2 s (.nil) (.d (.int .u64 n)) (fun _ => trivial) (fun _ => trivial) _⟩
      · have hj8 : j = 8 := by omega
        subst hj8
        rw [← hm]
        have hL64 : L.length % 64 = 0 := by rw [hm, List.length_append, len8_len]; omega
        have hLl : L.length ≤ 2000000000000 := by rw [hm, List.length_append, len8_len]; omega
        have hLen : l.length + (len8 m 8).length = L.length := by rw [hm, List.length_append]
        clear hm hll e8 w8 h56 h em
        simp [go_sem, tk8, s8c_len, hLen]
        generalize hE0 : eat L.length s L = E
        refine loop_of (fun t : Nat × S8 => ⟨[(0, .ptr 0 0 0 1), (2, .ptr 2 0 0 1), (3, .own 98 (64 * t.1) (L.length - 64 * t.1) L.length), (6, .ptr 834 0 0 1)], [(834, ⟨486, 8, [s8c t.2]⟩), (98, ⟨5, 1, rb L⟩), (2, ⟨61, 32, [cb z32]⟩), (0, ⟨489, 10, [s8c s ++ [.nil, .d (.int .u64 (n : Int))]]⟩)], 898⟩)
          (fun t => 64 * t.1 ≤ L.length ∧ ∃ k, L.length - 64 * t.1 ≤ k ∧ eat k t.2 (L.drop (64 * t.1)) = E) (fun t => L.length - 64 * t.1) (0, s) ⟨by omega, L.length, by omega, hE0⟩ (by
            simp [Weak, slotOk, fv, lk, AV.low, AV.low1]
            exact ⟨s8c_low _ _, rb_low _ _, cb_low _ _, hrow2 s (.nil) (.d (.int .u64 n)) (fun _ => trivial) (fun _ => trivial) _⟩) ?_
        rintro ⟨j, s1⟩ ⟨hj64, k, hk, hE⟩
        simp only at hj64 hk hE
        have hdl : (L.drop (64 * j)).length = L.length - 64 * j := List.length_drop
        simp only [go_sem, Nat.reduceEqDiff, Nat.reduceAdd, Nat.reduceLT, ↓reduceIte]
        refine ⟨fun h => ?_, fun h => ?_⟩
        · have h64 : 64 ≤ L.length - 64 * j := by omega
          rw [eat_more (by omega) (by omega)] at hE
          simp [go_sem]
          refine ⟨by omega, ?_⟩
          refine cl_eff [(0, 834), (1, 98)] (take_own_fn 486 8 s1 [] L (64 * j) (by omega) (by simp)) rfl (by simp) (by simp [lk]) (by simp [lk, Blk.ren, renR, AV.renL, AV.ren, rho, swp, s8c, rb]) (by simp [AV.renL, AV.ren, rho, swp, lk]) ?_
          rintro r hp' ⟨rfl, h0, h1⟩
          refine ⟨[], rfl, ?_⟩
          simp [go_sem, outH, outP, h0, h1, Blk.ren, renR, s8c_ren, rb_ren, AV.renL, AV.ren, rho]
          refine ⟨by omega, ?_⟩
          refine next_of (j + 1, Go.Sha.take s1 ((L.drop (64 * j)).take 64)) ⟨by simp only; omega, k - 1, by simp only; omega, ?_⟩ (by simp only; omega) ?_
          · rw [List.drop_drop] at hE
            exact hE
          · simp [Weak, slotOk, fv, lk, AV.low, AV.low1]
            exact ⟨⟨by omega, by omega⟩, s8c_low _ _, rb_low _ _, cb_low _ _, hrow2 s (.nil) (.d (.int .u64 n)) (fun _ => trivial) (fun _ => trivial) _⟩
        · have hnil : L.drop (64 * j) = [] := List.drop_eq_nil_of_le (by omega)
          rw [hnil, eat_none k s1 [] (by simp)] at hE
          have hs1 : s1 = E.1 := by rw [← hE]
          clear hE hE0 hdl hnil
          simp [go_sem, s8c_len]
          refine loop_of (fun i : Nat => ⟨[(0, .ptr 0 0 0 1), (2, .ptr 2 0 0 1), (7, .ptr 994 0 0 1), (59, .agg (s8c s1)), (60, .d (.int .i64 i))], [(994, ⟨61, 32, [cb (row32 (pre s1.l i))]⟩), (2, ⟨61, 32, [cb z32]⟩), (0, ⟨489, 10, [s8c s ++ [.nil, .d (.int .u64 (n : Int))]]⟩)], 1090⟩)
            (fun i => i ≤ 8) (fun i => 8 - i) 0 (by omega) (by
              simp [Weak, slotOk, fv, lk, AV.low, AV.low1, tk8s]
              exact ⟨s8c_low _ _, ⟨rfl, cb_low _ _⟩, cb_low _ _, hrow2 s (.nil) (.d (.int .u64 n)) (fun _ => trivial) (fun _ => trivial) _⟩) ?_
          intro i hi
          have hpl := pre_len s1.l i
          simp only [go_sem, Nat.reduceEqDiff, Nat.reduceAdd, Nat.reduceLT, ↓reduceIte]
          refine ⟨fun h2 => ?_, fun h2 => ?_⟩
          · have hg := s8c_get s1 (i := i) (by omega)
            have hpre : pre s1.l (i + 1) = pre s1.l i ++ wbk (s1.l.getD i 0) 4 := rfl
            generalize s1.l.getD i 0 = x at hg hpre
            simp [go_sem, hg]
            refine ⟨by omega, ?_⟩
            refine loop_of (fun k : Nat => ⟨[(0, .ptr 0 0 0 1), (2, .ptr 2 0 0 1), (7, .ptr 994 0 0 1), (59, .agg (s8c s1)), (60, .d (.int .i64 i)), (8, .d (.int .i64 i)), (9, .d (.int .u32 (x : Int))), (64, .d (.int .i64 k))], [(994, ⟨61, 32, [cb (row32 (pre s1.l i ++ wbk x k))]⟩), (2, ⟨61, 32, [cb z32]⟩), (0, ⟨489, 10, [s8c s ++ [.nil, .d (.int .u64 (n : Int))]]⟩)], 1300⟩)
              (fun k => k ≤ 4) (fun k => 4 - k) 0 (by omega) (by
                simp [Weak, slotOk, fv, lk, AV.low, AV.low1, wbk]
                exact ⟨s8c_low _ _, cb_low _ _, cb_low _ _, hrow2 s (.nil) (.d (.int .u64 n)) (fun _ => trivial) (fun _ => trivial) _⟩) ?_
            intro k hk4
            have hkl := wbk_len x k
            simp only [go_sem, Nat.reduceEqDiff, Nat.reduceAdd, Nat.reduceLT, ↓reduceIte]
            refine ⟨fun h3 => ?_, fun h3 => ?_⟩
            · have w1 : IntKind.i64.wrap (4 * (i : Int)) = ((4 * i : Nat) : Int) := by rw [IntWalk.i64_in _ (by omega)]; omega
              have w2 : IntKind.i64.wrap (((4 * i : Nat) : Int) + (k : Int)) = ((4 * i + k : Nat) : Int) := by rw [IntWalk.i64_in _ (by omega)]; omega
              have w3 : IntKind.i64.wrap (8 * (k : Int)) = ((8 * k : Nat) : Int) := by rw [IntWalk.i64_in _ (by omega)]; omega
              have w4 : IntKind.i64.wrap (24 - ((8 * k : Nat) : Int)) = ((24 - 8 * k : Nat) : Int) := by rw [IntWalk.i64_in _ (by omega)]; omega
              have w5 := next_i64 (k := k) (by omega)
              have eb : IntKind.u8.wrap (Int.fdiv (x : Int) (2 ^ (min (24 - 8 * k) 32))) = ((t8 (r32 (24 - 8 * k) x) : Nat) : Int) := by
                rw [show min (24 - 8 * k) 32 = 24 - 8 * k by omega, d_r, w8_nat]
              have hset : (row32 (pre s1.l i ++ wbk x k)).set (4 * i + k) (t8 (r32 (24 - 8 * k) x)) = row32 (pre s1.l i ++ wbk x (k + 1)) := by
                have h := row32_set (w := pre s1.l i ++ wbk x k) (x := t8 (r32 (24 - 8 * k) x)) (by rw [List.length_append]; omega)
                rw [List.length_append, hpl, hkl, List.append_assoc] at h
                exact h
              have hrl : (row32 (pre s1.l i ++ wbk x k)).length = 32 := row32_len (by rw [List.length_append]; omega)
              simp only [go_sem, Nat.reduceEqDiff, Nat.reduceAdd, Nat.reduceLT, ↓reduceIte, w1, w2, w3, w4, IntKind.bits, Int.toNat_natCast, eb, Nat.mul_one, cb_set, hset, hrl, w5]
              refine ⟨by omega, by omega, ?_⟩
              refine next_of (k + 1) (by omega) (by omega) ?_
              simp [Weak, slotOk, fv, lk, AV.low, AV.low1]
              exact ⟨s8c_low _ _, cb_low _ _, cb_low _ _, hrow2 s (.nil) (.d (.int .u64 n)) (fun _ => trivial) (fun _ => trivial) _⟩
            · have hk4' : k = 4 := by omega
              subst hk4'
              rw [← hpre]
              have w5 := next_i64 (k := i) (by omega)
              simp only [go_sem, Nat.reduceEqDiff, Nat.reduceAdd, Nat.reduceLT, ↓reduceIte, w5]
              refine next_of (i + 1) (by omega) (by omega) ?_
              simp [Weak, slotOk, fv, lk, AV.low, AV.low1]
              exact ⟨s8c_low _ _, cb_low _ _, cb_low _ _, hrow2 s (.nil) (.d (.int .u64 n)) (fun _ => trivial) (fun _ => trivial) _⟩
          · have hi8 : i = 8 := by omega
            subst hi8
            have hfull : row32 (pre s1.l 8) = dig s1 := row32_full hpl
            rw [hfull, hs1]
            have hdl2 : (dig E.1).length = 32 := pre_len _ 8
            have htk : List.take 32 (cb (dig E.1)) = cb (dig E.1) := List.take_of_length_le (by rw [cb_len]; omega)
            simp [go_sem, resV, hdl2, htk]
            rfl
end Go.Proofs.YtnmnabagabejjaaGreat

/-
  SHA-256 in the program: the sum of bytes, tagged sums.
-/
namespace Go.Sha
theorem eat_fuel : ∀ (k j : Nat) (s : S8) (b : List Nat), b.length ≤ k → b.length ≤ j → eat k s b = eat j s b
  | 0, j, s, b, h, _ => by
    have hb : b.length < 64 := by omega
    rw [Go.Proofs.YtnmnabagabejjaaGreat.eat_none 0 s b hb, Go.Proofs.YtnmnabagabejjaaGreat.eat_none j s b hb]
  | k + 1, j, s, b, h, h2 => by
    by_cases h64 : 64 ≤ b.length
    · rw [Go.Proofs.YtnmnabagabejjaaGreat.eat_more h64 h, Go.Proofs.YtnmnabagabejjaaGreat.eat_more h64 h2]
      exact eat_fuel k (j - 1) _ _ (by rw [List.length_drop]; omega) (by rw [List.length_drop]; omega)
    · rw [Go.Proofs.YtnmnabagabejjaaGreat.eat_none _ s b (by omega), Go.Proofs.YtnmnabagabejjaaGreat.eat_none _ s b (by omega)]
def E (s : S8) (b : List Nat) : S8 × List Nat := eat b.length s b
theorem E_none {s : S8} {b : List Nat} (h : b.length < 64) : E s b = (s, b) := Go.Proofs.YtnmnabagabejjaaGreat.eat_none _ s b h
theorem E_more {s : S8} {b : List Nat} (h : 64 ≤ b.length) : E s b = E (Go.Sha.take s (b.take 64)) (b.drop 64) := by
  unfold E
  rw [Go.Proofs.YtnmnabagabejjaaGreat.eat_more h (Nat.le_refl _)]
  exact eat_fuel _ _ _ _ (by rw [List.length_drop]; omega) (Nat.le_refl _)
theorem E_app (b : List Nat) : ∀ (n : Nat) (s : S8) (a : List Nat), a.length ≤ n → E s (a ++ b) = E (E s a).1 ((E s a).2 ++ b)
  | 0, s, a, h => by rw [E_none (b := a) (by omega)]
  | n + 1, s, a, h => by
    by_cases h64 : 64 ≤ a.length
    · rw [E_more (b := a) h64, E_more (b := a ++ b) (by rw [List.length_append]; omega)]
      rw [List.take_append_of_le_length h64, List.drop_append_of_le_length h64]
      exact E_app b n _ _ (by rw [List.length_drop]; omega)
    · rw [E_none (b := a) (by omega)]
theorem E_le : ∀ (n : Nat) (s : S8) (a : List Nat), a.length ≤ n → (E s a).2.length ≤ a.length
  | 0, s, a, h => by rw [E_none (by omega)]; exact Nat.le_refl _
  | n + 1, s, a, h => by
    by_cases h64 : 64 ≤ a.length
    · rw [E_more h64]
      have := E_le n (Go.Sha.take s (a.take 64)) (a.drop 64) (by rw [List.length_drop]; omega)
      rw [List.length_drop] at this
      omega
    · rw [E_none (by omega)]; exact Nat.le_refl _
/-- The end: what is left, and how many bytes there were. -/
def fin (p : S8 × List Nat) (n : Nat) : List Nat := dig (E p.1 (Go.Proofs.YtnmnabagabejjaaGreat.lastOf p.2 n)).1
/-- The sum of bytes. -/
def sumB (b : List Nat) : List Nat := fin (E H0 b) b.length
def tagB (t b : List Nat) : List Nat := sumB (sumB t ++ (sumB t ++ b))
theorem sumB_len (b : List Nat) : (sumB b).length = 32 := pre_len _ 8
end Go.Sha
namespace Go.Proofs.YtnmnabagabejjaaGreat
open Go.Am Go.Sha
set_option linter.unusedSimpArgs false
set_option linter.unusedVariables false

theorem wn (a b : Nat) (h : a + b < 18446744073709551616) : IntKind.u64.wrap ((a : Int) + IntKind.u64.wrap (b : Int)) = ((a + b : Nat) : Int) := by rw [u64w, u64w]; omega
theorem nb_ren (ρ : Nat → Nat) (b : List Nat) : (AV.d (nb b)).ren ρ = .d (nb b) := rfl

theorem cb_ren (ρ : Nat → Nat) : ∀ l : List Nat, AV.renL ρ (cb l) = cb l
  | [] => by simp [cb, AV.renL]
  | x :: r => by
    have := cb_ren ρ r
    simp only [cb] at this
    simp only [cb, List.map_cons, AV.renL, AV.ren, this]
theorem cb_take {l : List Nat} (h : l.length = 32) : List.take 32 (cb l) = cb l := List.take_of_length_le (by rw [cb_len]; omega)
theorem z32_drop : List.drop 32 (cb z32) = [] := rfl
theorem h_ren (ρ : Nat → Nat) (s : S8) (a b : AV) : AV.renL ρ (s8c s ++ [a, b]) = s8c s ++ [a.ren ρ, b.ren ρ] := by simp [s8c, AV.renL, AV.ren]

theorem w_fn (s : S8) (R : AV) (rest b : List Nat) (n : Nat) (hR : R = .d (nb rest) ∨ (R = .nil ∧ rest = [])) (hl : rest.length + b.length ≤ 1000000000000) (hn : n + b.length < 18446744073709551616) :
    RetsE Tryz.prog 265 1 [(0, ⟨489, 10, [s8c s ++ [R, .d (.int .u64 (n : Int))]]⟩)] [.ptr 0 0 0 1, .d (nb b)]
      (fun r hp' => r = .tup [] ∧ lk 0 hp' = some ⟨489, 10, [s8c (E s (rest ++ b)).1 ++ [.d (nb (E s (rest ++ b)).2), .d (.int .u64 ((n + b.length : Nat) : Int))]]⟩) := by
  have := write_fn s R rest b n hR hl
  rw [wn n b.length hn] at this
  exact this

set_option maxHeartbeats 1000000 in
theorem shasum_fn (b : List Nat) (hb : b.length ≤ 100000000000) : Rets Tryz.prog 171 [.d (nb b)] (fun r => r = .agg (cb (sumB b))) := by
  refine fn_of_awp Tryz.func171 (by kernel_rfl) rfl Tryz.ntmps171 (rs := [.cell 2 61]) rfl (Nat.le_of_ble_eq_true rfl) (by simp [AV.deep, AV.deep1]) ?_
  simp only [go_sem, Nat.reduceEqDiff, Nat.reduceAdd, Nat.reduceLT, ↓reduceIte, Nat.reduceMul]
  refine cl_eff [] new_fn rfl (by simp) (by simp) (by simp) (by simp [AV.renL]) ?_
  rintro r hp' ⟨rfl, h0⟩
  refine ⟨[(97, 0)], rfl, ?_⟩
  simp [go_sem, outH, outP, h0, Blk.ren, renR, h_ren, AV.ren, rho]
  refine cl_eff [(0, 32)] (w_fn H0 .nil [] b 0 (.inr ⟨rfl, rfl⟩) (by simp; omega) (by omega)) rfl (by simp) (by simp [lk]) (by simp [lk, Blk.ren, renR, h_ren, AV.ren, rho, swp]) (by simp [AV.renL, AV.ren, rho, swp, lk]) ?_
  rintro r hp' ⟨rfl, h0⟩
  refine ⟨[], rfl, ?_⟩
  simp [go_sem, outH, outP, h0, Blk.ren, renR, h_ren, nb_ren, AV.renL, AV.ren, rho]
  refine cl_eff [(0, 32)] (sum_fn (E H0 b).1 (.d (nb (E H0 b).2)) (E H0 b).2 b.length (.inl rfl) (by have := E_le _ H0 b (Nat.le_refl _); omega)) rfl (by simp) (by simp [lk]) (by simp [lk, Blk.ren, renR, h_ren, nb_ren, AV.ren, rho, swp]) (by simp [AV.renL, AV.ren, rho, swp, lk]) ?_
  rintro r hp' ⟨rfl, h0⟩
  refine ⟨[], rfl, ?_⟩
  have hf : dig (eat (lastOf (E H0 b).2 b.length).length (E H0 b).1 (lastOf (E H0 b).2 b.length)).1 = sumB b := rfl
  rw [hf] at *
  simp [go_sem, outH, outP, h0, Blk.ren, renR, h_ren, nb_ren, cb_ren, AV.ren, rho, resV, sumB_len, cb_take (sumB_len b), z32_drop]
  exact post_same (by simp [AV.deep]; exact cb_deep _) rfl

theorem snap_arr {hp : Hp} {I : Nat → Prop} {id : Nat} {ty : TypeId} {l : List Nat} (hb : lk id hp = some ⟨ty, 32, [cb l]⟩) (hI : I id) (hl : l.length = 32) : SnapD hp I (.sub id 0 0 1 32 32 1) (nb l) := by
  refine .sub (es := l.map fun (x : Nat) => [.int .u8 (x : Int)]) hI hb rfl rfl (by omega) (by simp [hl]) (fun r hr => by
    rw [List.mem_map] at hr
    obtain ⟨c, _, rfl⟩ := hr
    rfl) fun k j c r y hc hr hy => ?_
  simp only [Nat.zero_add, Nat.mul_one, List.getElem?_map, Option.map_eq_some_iff] at hc hr
  obtain ⟨x, hx, rfl⟩ := hr
  cases j with
  | succ j => simp at hy
  | zero =>
    simp at hy
    subst hy
    rw [Nat.add_zero, cb_get, hx] at hc
    simp at hc
    subst hc
    exact .d _

end Go.Proofs.YtnmnabagabejjaaGreat

/-
  SHA-256 in the program: Write, of an array's bytes.
-/
namespace Go.Proofs.YtnmnabagabejjaaGreat
open Go.Am Go.Sha
set_option linter.unusedSimpArgs false
set_option linter.unusedVariables false

theorem arr_rows {b : List Nat} (hb : b.length = 32) : (List.range 32).map (fun k => ((cb b).drop k).take 1) = List.map ((fun r => List.map AV.d r) ∘ fun (x : Nat) => [DV.int .u8 (x : Int)]) b := by
  apply List.ext_getElem?
  intro i
  by_cases hi : i < 32
  · rw [List.getElem?_map, List.getElem?_map, List.getElem?_range hi, List.getElem?_eq_getElem (by omega : i < b.length)]
    have h : i < (cb b).length := by rw [cb_len]; omega
    have h1 : (cb b)[i]? = some (.d (.int .u8 ((b[i] : Nat) : Int))) := by rw [cb_get, List.getElem?_eq_getElem (by omega : i < b.length)]; rfl
    have h2 : (cb b)[i] = .d (.int .u8 ((b[i] : Nat) : Int)) := by
      rw [List.getElem?_eq_getElem h] at h1
      exact Option.some.inj h1
    rw [Option.map_some, Option.map_some, List.drop_eq_getElem_cons h, h2]
    rfl
  · rw [List.getElem?_eq_none (by simp; omega), List.getElem?_eq_none (by simp; omega)]

set_option maxHeartbeats 4000000 in
theorem write_arr_fn (ty : TypeId) (e : Nat) (row : List AV) (s : S8) (R : AV) (rest b : List Nat) (n : Int) (hx0 : (List.range 32).map (fun k => (row.drop k).take 1) = List.map ((fun r => List.map AV.d r) ∘ fun (x : Nat) => [DV.int .u8 (x : Int)]) b) (hlow : ∀ n v, v ∈ row → v.low1 n) (hR : R = .d (nb rest) ∨ (R = .nil ∧ rest = [])) (hl : rest.length + b.length ≤ 1000000000000) (hb32 : b.length = 32) :
    RetsE Tryz.prog 265 2 [(0, ⟨489, 10, [s8c s ++ [R, .d (.int .u64 n)]]⟩), (1, ⟨ty, e, [row]⟩)] [.ptr 0 0 0 1, .sub 1 0 0 1 32 32 1]
      (fun r hp' => r = .tup [] ∧ lk 0 hp' = some ⟨489, 10, [s8c (eat ((rest ++ b).length) s (rest ++ b)).1 ++ [.d (nb (eat ((rest ++ b).length) s (rest ++ b)).2), .d (.int .u64 (IntKind.u64.wrap (n + (IntKind.u64.wrap (b.length : Int)))))]]⟩ ∧ lk 1 hp' = some ⟨ty, e, [row]⟩) := by
  refine fnE_of_awp Tryz.func265 (by kernel_rfl) rfl Tryz.ntmps265 (rs := []) rfl (Nat.le_of_ble_eq_true rfl) (by decide) ?_
  rw [hb32]
  generalize hn' : IntKind.u64.wrap (n + (IntKind.u64.wrap ((32 : Nat) : Int))) = n'
  generalize hE0 : eat ((rest ++ b).length) s (rest ++ b) = E
  have hx := hx0
  generalize hX : List.map ((fun r => List.map AV.d r) ∘ fun (x : Nat) => [DV.int .u8 (x : Int)]) b = X at hx
  simp [go_sem] at hx
  have hn2 : IntKind.u64.wrap (n + IntKind.u64.wrap 32) = n' := hn'
  rcases hR with rfl | ⟨rfl, rfl⟩
  · simp [go_sem, nb, s8c, hn2]
    apply draw2 (0 :: 1 :: 2 :: 3 :: 4 :: 5 :: 6 :: 7 :: 8 :: 9 :: 10 :: 11 :: 12 :: 13 :: 14 :: 15 :: 16 :: []) ((17, (18 :: 19 :: [])) :: (20, ([])) :: []) 1 (k := 21) (by kernel_rfl) (by kernel_rfl) rfl
    case hz => repeat (first | exact Its.nil | apply Its.plain rfl | apply Its.guard rfl rfl)
    case hj => repeat (first | exact Jts.nil | exact Its.nil | apply Its.plain rfl | apply Its.guard rfl rfl | apply Jts.plain rfl | apply Jts.guard rfl rfl)
    intro G hG
    simp [go_sem, tk_map, hx]
    rw [← hX, r_ap_rofm]
    simp [go_sem, tk_map]
    refine ⟨by have := hl; simp only [List.length_append, List.length_nil] at *; omega, .inl (hG _ _ ?_)⟩
    clear hG G
    refine loop_of (fun t : S8 × List Nat => ⟨[(0, .ptr 0 0 0 1)], [(0, ⟨489, 10, [s8c t.1 ++ [.d (nb t.2), .d (.int .u64 n')]]⟩), (1, ⟨ty, e, [row]⟩)], 1091⟩)
      (fun t => t.2.length ≤ 1000000000000 ∧ ∃ k, t.2.length ≤ k ∧ eat k t.1 t.2 = E) (fun t => t.2.length) (s, rest ++ b) ⟨by have := hl; simp only [List.length_append, List.length_nil] at *; omega, _, Nat.le_refl _, hE0⟩ (by
        simp [Weak, slotOk, fv, lk, AV.low, AV.low1, nb, s8c]
        exact hlow _) ?_
    rintro ⟨s1, q⟩ ⟨hq, k, hk, hE⟩
    simp only at hq hk hE
    simp only [go_sem, Nat.reduceEqDiff, Nat.reduceAdd, Nat.reduceLT, ↓reduceIte, s8c, nb, List.length_map]
    refine ⟨fun h => ?_, fun h => ?_⟩
    · have h64 : 64 ≤ q.length := by omega
      rw [eat_more h64 hk] at hE
      apply draw2 (0 :: 1 :: 2 :: 3 :: 4 :: 5 :: 6 :: 7 :: []) ((8, ([])) :: []) 0 (k := 9) (by kernel_rfl) (by kernel_rfl) rfl
      case hz => repeat (first | exact Its.nil | apply Its.plain rfl | apply Its.guard rfl rfl)
      case hj => repeat (first | exact Jts.nil | exact Its.nil | apply Its.plain rfl | apply Its.guard rfl rfl | apply Jts.plain rfl | apply Jts.guard rfl rfl)
      intro G hG
      simp [go_sem]
      refine ⟨by omega, ?_⟩
      refine cl_eff [(0, 0)] (take_fn 489 10 s1 [.d (nb q), .d (.int .u64 n')] (q.take 64) (by simp; omega) (by simp [AV.low1])) rfl (by simp) (by simp [lk]) (by simp [lk, Blk.ren, renR, AV.renL, AV.ren, rho, swp, s8c, nb]) (by simp [AV.renL, AV.ren, rho, swp, lk, nb, List.map_take]) ?_
      rintro r hp' ⟨rfl, h0⟩
      refine ⟨[], rfl, ?_⟩
      simp [go_sem, outH, outP, h0, Blk.ren, renR, AV.renL, AV.ren, rho, s8c]
      refine hG _ _ ?_
      clear hG G
      simp [go_sem, nb]
      refine ⟨by omega, ?_⟩
      refine next_of (Go.Sha.take s1 (q.take 64), q.drop 64) ⟨by simp only [List.length_drop]; omega, k - 1, by simp only [List.length_drop]; omega, hE⟩ (by simp only [List.length_drop]; omega) ?_
      simp [Weak, slotOk, fv, lk, AV.low, AV.low1, nb, s8c, List.map_drop, tk_map]
      exact hlow _
    · rw [eat_none k s1 q (by omega)] at hE
      subst hE
      rfl
  · simp [go_sem, nb, s8c, hn2]
    apply draw2 (0 :: 1 :: 2 :: 3 :: 4 :: 5 :: 6 :: 7 :: 8 :: 9 :: 10 :: 11 :: 12 :: 13 :: 14 :: 15 :: 16 :: []) ((17, (18 :: 19 :: [])) :: (20, ([])) :: []) 1 (k := 21) (by kernel_rfl) (by kernel_rfl) rfl
    case hz => repeat (first | exact Its.nil | apply Its.plain rfl | apply Its.guard rfl rfl)
    case hj => repeat (first | exact Jts.nil | exact Its.nil | apply Its.plain rfl | apply Its.guard rfl rfl | apply Jts.plain rfl | apply Jts.guard rfl rfl)
    intro G hG
    simp [go_sem, tk_map, hx]
    rw [← hX, r_ap_rofm]
    simp [go_sem, tk_map]
    refine ⟨by have := hl; simp only [List.length_append, List.length_nil] at *; omega, .inl (hG _ _ ?_)⟩
    clear hG G
    refine loop_of (fun t : S8 × List Nat => ⟨[(0, .ptr 0 0 0 1)], [(0, ⟨489, 10, [s8c t.1 ++ [.d (nb t.2), .d (.int .u64 n')]]⟩), (1, ⟨ty, e, [row]⟩)], 1091⟩)
      (fun t => t.2.length ≤ 1000000000000 ∧ ∃ k, t.2.length ≤ k ∧ eat k t.1 t.2 = E) (fun t => t.2.length) (s, [] ++ b) ⟨by have := hl; simp only [List.length_append, List.length_nil] at *; omega, _, Nat.le_refl _, hE0⟩ (by
        simp [Weak, slotOk, fv, lk, AV.low, AV.low1, nb, s8c]
        exact hlow _) ?_
    rintro ⟨s1, q⟩ ⟨hq, k, hk, hE⟩
    simp only at hq hk hE
    simp only [go_sem, Nat.reduceEqDiff, Nat.reduceAdd, Nat.reduceLT, ↓reduceIte, s8c, nb, List.length_map]
    refine ⟨fun h => ?_, fun h => ?_⟩
    · have h64 : 64 ≤ q.length := by omega
      rw [eat_more h64 hk] at hE
      apply draw2 (0 :: 1 :: 2 :: 3 :: 4 :: 5 :: 6 :: 7 :: []) ((8, ([])) :: []) 0 (k := 9) (by kernel_rfl) (by kernel_rfl) rfl
      case hz => repeat (first | exact Its.nil | apply Its.plain rfl | apply Its.guard rfl rfl)
      case hj => repeat (first | exact Jts.nil | exact Its.nil | apply Its.plain rfl | apply Its.guard rfl rfl | apply Jts.plain rfl | apply Jts.guard rfl rfl)
      intro G hG
      simp [go_sem]
      refine ⟨by omega, ?_⟩
      refine cl_eff [(0, 0)] (take_fn 489 10 s1 [.d (nb q), .d (.int .u64 n')] (q.take 64) (by simp; omega) (by simp [AV.low1])) rfl (by simp) (by simp [lk]) (by simp [lk, Blk.ren, renR, AV.renL, AV.ren, rho, swp, s8c, nb]) (by simp [AV.renL, AV.ren, rho, swp, lk, nb, List.map_take]) ?_
      rintro r hp' ⟨rfl, h0⟩
      refine ⟨[], rfl, ?_⟩
      simp [go_sem, outH, outP, h0, Blk.ren, renR, AV.renL, AV.ren, rho, s8c]
      refine hG _ _ ?_
      clear hG G
      simp [go_sem, nb]
      refine ⟨by omega, ?_⟩
      refine next_of (Go.Sha.take s1 (q.take 64), q.drop 64) ⟨by simp only [List.length_drop]; omega, k - 1, by simp only [List.length_drop]; omega, hE⟩ (by simp only [List.length_drop]; omega) ?_
      simp [Weak, slotOk, fv, lk, AV.low, AV.low1, nb, s8c, List.map_drop, tk_map]
      exact hlow _
    · rw [eat_none k s1 q (by omega)] at hE
      subst hE
      rfl

theorem warr_fn (s : S8) (R : AV) (rest b : List Nat) (n : Nat) (hR : R = .d (nb rest) ∨ (R = .nil ∧ rest = [])) (hl : rest.length + b.length ≤ 1000000000000) (hb32 : b.length = 32) (hn : n + b.length < 18446744073709551616) :
    RetsE Tryz.prog 265 2 [(0, ⟨489, 10, [s8c s ++ [R, .d (.int .u64 (n : Int))]]⟩), (1, ⟨61, 32, [cb b]⟩)] [.ptr 0 0 0 1, .sub 1 0 0 1 32 32 1]
      (fun r hp' => r = .tup [] ∧ lk 0 hp' = some ⟨489, 10, [s8c (E s (rest ++ b)).1 ++ [.d (nb (E s (rest ++ b)).2), .d (.int .u64 ((n + b.length : Nat) : Int))]]⟩ ∧ lk 1 hp' = some ⟨61, 32, [cb b]⟩) := by
  have := write_arr_fn 61 32 (cb b) s R rest b n (arr_rows hb32) (fun n => cb_low n _) hR hl hb32
  rw [wn n b.length hn] at this
  exact this

theorem warrT_fn (ty : TypeId) (e : Nat) (row : List AV) (s : S8) (R : AV) (rest b : List Nat) (n : Nat) (hx0 : (List.range 32).map (fun k => (row.drop k).take 1) = List.map ((fun r => List.map AV.d r) ∘ fun (x : Nat) => [DV.int .u8 (x : Int)]) b) (hlow : ∀ n v, v ∈ row → v.low1 n) (hR : R = .d (nb rest) ∨ (R = .nil ∧ rest = [])) (hl : rest.length + b.length ≤ 1000000000000) (hb32 : b.length = 32) (hn : n + b.length < 18446744073709551616) :
    RetsE Tryz.prog 265 2 [(0, ⟨489, 10, [s8c s ++ [R, .d (.int .u64 (n : Int))]]⟩), (1, ⟨ty, e, [row]⟩)] [.ptr 0 0 0 1, .sub 1 0 0 1 32 32 1]
      (fun r hp' => r = .tup [] ∧ lk 0 hp' = some ⟨489, 10, [s8c (E s (rest ++ b)).1 ++ [.d (nb (E s (rest ++ b)).2), .d (.int .u64 ((n + b.length : Nat) : Int))]]⟩ ∧ lk 1 hp' = some ⟨ty, e, [row]⟩) := by
  have := write_arr_fn ty e row s R rest b n hx0 hlow hR hl hb32
  rw [wn n b.length hn] at this
  exact this

set_option maxHeartbeats 2000000 in
theorem tagged_fn (tag : List Nat) (ts : DV) (hts : ts = .str (tag.map fun (x : Nat) => (x : Int))) (b : List Nat) (ht : tag.length ≤ 1000) (hb : b.length ≤ 10000000000) : Rets Tryz.prog 273 [.d ts, .d (nb b)] (fun r => r = .agg (cb (tagB tag b))) := by
  subst hts
  refine fn_of_awp Tryz.func273 (by kernel_rfl) rfl Tryz.ntmps273 (rs := [.cell 4 61]) rfl (Nat.le_of_ble_eq_true rfl) (by simp [AV.deep, AV.deep1]) ?_
  simp [go_sem, Tryz.underlying5]
  refine cl_eq (shasum_fn tag (by omega)) (by simp [AV.deep, AV.deep1]) ?_
  have hD := sumB_len tag
  have hg : tagB tag b = sumB (sumB tag ++ (sumB tag ++ b)) := rfl
  rw [hg]
  generalize sumB tag = D at hD
  simp [go_sem, hD, z32_drop]
  refine cl_eff [] new_fn rfl (by simp) (by simp) (by simp) (by simp [AV.renL]) ?_
  rintro r hp' ⟨rfl, h0⟩
  refine ⟨[(97, 0)], rfl, ?_⟩
  simp [go_sem, outH, outP, h0, Blk.ren, renR, h_ren, AV.ren, rho]
  have hp1 : E H0 (D ++ (D ++ b)) = E (E (E H0 D).1 ((E H0 D).2 ++ D)).1 ((E (E H0 D).1 ((E H0 D).2 ++ D)).2 ++ b) := by
    rw [E_app _ _ _ D (Nat.le_refl _), ← List.append_assoc, E_app _ _ _ ((E H0 D).2 ++ D) (Nat.le_refl _)]
  have hfin : fin (E (E (E H0 D).1 ((E H0 D).2 ++ D)).1 ((E (E H0 D).1 ((E H0 D).2 ++ D)).2 ++ b)) (0 + D.length + D.length + b.length) = sumB (D ++ (D ++ b)) := by
    unfold sumB
    rw [hp1]
    congr 1
    simp only [List.length_append]
    omega
  have l1 := E_le _ H0 D (Nat.le_refl _)
  refine cl_eff [(0, 192), (1, 128)] (warr_fn H0 .nil [] D 0 (.inr ⟨rfl, rfl⟩) (by simp; omega) hD (by omega)) rfl (by simp) (by simp [lk]) (by simp [lk, Blk.ren, renR, h_ren, cb_ren, AV.renL, AV.ren, rho, swp]) (by simp [AV.renL, AV.ren, rho, swp, lk]) ?_
  rintro r hp' ⟨rfl, h0, h1⟩
  refine ⟨[], rfl, ?_⟩
  rw [List.nil_append] at h0
  generalize E H0 D = p1 at *
  have l2 := E_le _ p1.1 (p1.2 ++ D) (Nat.le_refl _)
  rw [List.length_append] at l2
  simp [go_sem, outH, outP, h0, h1, Blk.ren, renR, h_ren, cb_ren, nb_ren, AV.renL, AV.ren, rho]
  refine cl_eff [(0, 192), (1, 128)] (warr_fn p1.1 (.d (nb p1.2)) p1.2 D (0 + D.length) (.inl rfl) (by omega) hD (by omega)) rfl (by simp) (by simp [lk]) (by simp [lk, Blk.ren, renR, h_ren, cb_ren, nb_ren, AV.renL, AV.ren, rho, swp]) (by simp [AV.renL, AV.ren, rho, swp, lk]) ?_
  rintro r hp' ⟨rfl, h0, h1⟩
  refine ⟨[], rfl, ?_⟩
  generalize E p1.1 (p1.2 ++ D) = p2 at *
  have l3 := E_le _ p2.1 (p2.2 ++ b) (Nat.le_refl _)
  rw [List.length_append] at l3
  simp [go_sem, outH, outP, h0, h1, Blk.ren, renR, h_ren, cb_ren, nb_ren, AV.renL, AV.ren, rho]
  refine cl_eff [(0, 192)] (w_fn p2.1 (.d (nb p2.2)) p2.2 b (0 + D.length + D.length) (.inl rfl) (by omega) (by omega)) rfl (by simp) (by simp [lk]) (by simp [lk, Blk.ren, renR, h_ren, cb_ren, nb_ren, AV.renL, AV.ren, rho, swp]) (by simp [AV.renL, AV.ren, rho, swp, lk]) ?_
  rintro r hp' ⟨rfl, h0⟩
  refine ⟨[], rfl, ?_⟩
  generalize E p2.1 (p2.2 ++ b) = p3 at *
  simp [go_sem, outH, outP, h0, h1, Blk.ren, renR, h_ren, cb_ren, nb_ren, AV.renL, AV.ren, rho]
  refine cl_eff [(0, 192)] (sum_fn p3.1 (.d (nb p3.2)) p3.2 (0 + D.length + D.length + b.length) (.inl rfl) (by omega)) rfl (by simp) (by simp [lk]) (by simp [lk, Blk.ren, renR, h_ren, nb_ren, AV.ren, rho, swp]) (by simp [AV.renL, AV.ren, rho, swp, lk]) ?_
  rintro r hp' ⟨rfl, h0⟩
  refine ⟨[], rfl, ?_⟩
  have hf : dig (eat (lastOf p3.2 (0 + D.length + D.length + b.length)).length p3.1 (lastOf p3.2 (0 + D.length + D.length + b.length))).1 = sumB (D ++ (D ++ b)) := hfin
  rw [hf]
  have hL := sumB_len (D ++ (D ++ b))
  generalize sumB (D ++ (D ++ b)) = R at *
  simp [go_sem, outH, outP, h0, Blk.ren, renR, h_ren, nb_ren, cb_ren, AV.ren, rho, resV, hL, cb_take hL, z32_drop]
  exact post_same (by simp [AV.deep]; exact cb_deep _) rfl
end Go.Proofs.YtnmnabagabejjaaGreat
