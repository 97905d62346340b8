/-
  AM, part 1: abstract values, what they say of values in a world, and that what they say stays under steps of the world. Our own text; no program in sight.
-/
import Derived.WalkKit
import Derived.Maps.Keyed
namespace Go.Am
set_option linter.unusedVariables false

/-- Deep values: read-only, without identity. -/
inductive DV where
  | int (k : IntKind) (n : Int)
  | bool (b : Bool)
  | str (bs : List Int)
  | ro (e : Nat) (es : List (List DV))
  /-- one whose room ends where it ends -/
  | rof (e : Nat) (es : List (List DV))
  | box (cs : List DV)
  | nilp
  | nilf
  deriving Inhabited

/-- A deep value is what a value reads as, all its memory in blocks of S. -/
inductive DIs (w : World) (S : Nat → Prop) : DV → Value → Prop
  | int (k : IntKind) (n : Int) : DIs w S (.int k n) (.int k n)
  | bool (b : Bool) : DIs w S (.bool b) (.bool b)
  | str (s : ByteArray) : DIs w S (.str (s.data.toList.map fun c => (c.toNat : Int))) (.string s)
  | ro (e : Nat) (es : List (List DV)) (A : Option Addr) (c : Nat) (vs : Nat → Nat → Value)
      (hc : es.length ≤ c)
      (he : ∀ x, x ∈ es → x.length = e)
      (hA : ∀ x, x ∈ es → ∃ ad, A = some ad ∧ S ad.block)
      (hv : ∀ ad, A = some ad → ∀ (i j : Nat) (x : List DV) (y : DV), es[i]? = some x → x[j]? = some y → w.cell? (ad.add (i * e + j)) = some (vs i j))
      (hd : ∀ (i j : Nat) (x : List DV) (y : DV), es[i]? = some x → x[j]? = some y → DIs w S y (vs i j)) :
      DIs w S (.ro e es) (.slice A es.length c)
  | rof (e : Nat) (es : List (List DV)) (A : Option Addr) (vs : Nat → Nat → Value)
      (he : ∀ x, x ∈ es → x.length = e)
      (hA : ∀ x, x ∈ es → ∃ ad, A = some ad ∧ S ad.block)
      (hv : ∀ ad, A = some ad → ∀ (i j : Nat) (x : List DV) (y : DV), es[i]? = some x → x[j]? = some y → w.cell? (ad.add (i * e + j)) = some (vs i j))
      (hd : ∀ (i j : Nat) (x : List DV) (y : DV), es[i]? = some x → x[j]? = some y → DIs w S y (vs i j)) :
      DIs w S (.rof e es) (.slice A es.length es.length)
  | box (cs : List DV) (ad : Addr) (vs : Nat → Value)
      (hS : S ad.block)
      (hv : ∀ (j : Nat) (y : DV), cs[j]? = some y → w.cell? (ad.add j) = some (vs j))
      (hd : ∀ (j : Nat) (y : DV), cs[j]? = some y → DIs w S y (vs j)) :
      DIs w S (.box cs) (.pointer (some ad))
  | nilp : DIs w S .nilp (.pointer none)
  | nilf : DIs w S .nilf .nilFunc

theorem add_block (a : Addr) (n : Nat) : (a.add n).block = a.block := by unfold Addr.add; split <;> rfl

theorem DIs.mono {w w' : World} {S S' : Nat → Prop} (hS : ∀ b, S b → S' b) (hw : ∀ p : Addr, S p.block → w'.cell? p = w.cell? p) {d : DV} {v : Value} (h : DIs w S d v) : DIs w' S' d v := by
  induction h with
  | int k n => exact .int k n
  | bool b => exact .bool b
  | str s => exact .str s
  | ro e es A c vs hc he hA hv hd ih =>
    refine .ro e es A c vs hc he (fun x hx => ?_) (fun ad hAd i j x y hx hy => ?_) (fun i j x y hx hy => ih i j x y hx hy)
    · grind
    grind [List.mem_of_getElem?, add_block]
  | rof e es A vs he hA hv hd ih =>
    refine .rof e es A vs he (fun x hx => ?_) (fun ad hAd i j x y hx hy => ?_) (fun i j x y hx hy => ih i j x y hx hy)
    · grind
    grind [List.mem_of_getElem?, add_block]
  | box cs ad vs hs hv hd ih =>
    refine .box cs ad vs (hS _ hs) (fun j y hy => ?_) (fun j y hy => ih j y hy)
    grind [add_block]
  | nilp => exact .nilp
  | nilf => exact .nilf

/-- Abstract values: deep ones, and those that refer to blocks of the call's own, by their ids. -/
inductive AV where
  | any
  | d (v : DV)
  | agg (cs : List AV)
  | tup (vs : List AV)
  /-- a slice over rows i0 .. i0 + len of block id, which has tot rows -/
  | own (id i0 len tot : Nat)
  /-- a slice over cells of one row of block id: e cells an element, from cell off on; len elements, cap elements -/
  | sub (id i off e len cap tot : Nat)
  /-- a pointer at a cell of a row of block id -/
  | ptr (id i off tot : Nat)
  /-- a pointer at cells that are read-only -/
  | rop (cs : List DV)
  | fn (f : FuncId) (cs : List AV)
  /-- a method bound to its first values -/
  | mth (f : FuncId) (cs : List AV)
  /-- the nil slice, known as such -/
  | nil
  /-- a map of the call's own -/
  | mp (id : Nat)
  deriving Inhabited

/-- A block of the call's own: the type of its elements, how many cells an element has, the elements. -/
structure Blk where
  ty : TypeId
  e : Nat
  es : List (List AV)
  deriving Inhabited

abbrev Hp := List (Nat × Blk)

def lk {α : Type} (n : Nat) : List (Nat × α) → Option α
  | [] => none
  | (m, v) :: t => if m = n then some v else lk n t

/-- What a block of the world is: cells of some number. -/
def World.rows (w : World) (b : Nat) (ty : TypeId) (n : Nat) : Prop := ∃ ccs, w.heap[b]? = some (.cells ccs ty (0, 0)) ∧ ccs.size = n

inductive AIs (w : World) (S : Nat → Prop) (σ : Nat → Option Nat) (hp : Hp) (U : Nat → Prop) : AV → Value → Prop
  | any (v : Value) : AIs w S σ hp U .any v
  | d {d : DV} {v : Value} (h : DIs w S d v) : AIs w S σ hp U (.d d) v
  | agg (cs : List AV) (xs : Array Value) (hl : cs.length = xs.size) (h1 : ∀ (i : Nat) (x : Value), xs[i]? = some x → x.oneCell' = true) (h : ∀ (i : Nat) (c : AV) (x : Value), cs[i]? = some c → xs[i]? = some x → AIs w S σ hp U c x) : AIs w S σ hp U (.agg cs) (.agg xs)
  | tup (cs : List AV) (xs : Array Value) (hl : cs.length = xs.size) (h : ∀ (i : Nat) (c : AV) (x : Value), cs[i]? = some c → xs[i]? = some x → AIs w S σ hp U c x) : AIs w S σ hp U (.tup cs) (.tuple xs)
  | own (id i0 len tot : Nat) (A : Option Addr) (cap : Nat) (hN : U id) (hl : len ≤ cap) (h0 : A = none → len = 0)
      (h : ∀ b, lk id hp = some b → tot ≤ b.es.length ∧ (b.es.length = tot → i0 + len ≤ tot ∧ tot ≤ i0 + cap ∧ (0 < cap → ∃ g, σ id = some g ∧ A = some ⟨g, i0 * b.e, none⟩ ∧ ∃ n, World.rows w g b.ty n ∧ (i0 + cap) * b.e ≤ n))) :
      AIs w S σ hp U (.own id i0 len tot) (.slice A len cap)
  | sub (id i off e len cap tot : Nat) (A : Option Addr) (hN : U id) (hl : len ≤ cap) (h0 : A = none → len = 0)
      (h : ∀ b, lk id hp = some b → tot ≤ b.es.length ∧ (b.es.length = tot → i < tot ∧ off + cap * e ≤ b.e ∧ (0 < cap → ∃ g, σ id = some g ∧ A = some ⟨g, i * b.e + off, none⟩))) :
      AIs w S σ hp U (.sub id i off e len cap tot) (.slice A len cap)
  | ptr (id i off tot : Nat) (a : Addr) (hN : U id)
      (h : ∀ b, lk id hp = some b → tot ≤ b.es.length ∧ (b.es.length = tot → ∃ g, σ id = some g ∧ a = ⟨g, i * b.e + off, none⟩)) :
      AIs w S σ hp U (.ptr id i off tot) (.pointer (some a))
  | rop (cs : List DV) (ad : Addr) (vs : Nat → Value)
      (hS : S ad.block)
      (hv : ∀ (j : Nat) (y : DV), cs[j]? = some y → w.cell? (ad.add j) = some (vs j))
      (hd : ∀ (j : Nat) (y : DV), cs[j]? = some y → DIs w S y (vs j)) :
      AIs w S σ hp U (.rop cs) (.pointer (some ad))
  | fn (f : FuncId) (cs : List AV) (xs : Array Value) (hl : cs.length = xs.size) (h : ∀ (i : Nat) (c : AV) (x : Value), cs[i]? = some c → xs[i]? = some x → AIs w S σ hp U c x) : AIs w S σ hp U (.fn f cs) (.func (.func f) #[] xs)
  | mth (f : FuncId) (cs : List AV) (xs : Array Value) (hl : cs.length = xs.size) (h : ∀ (i : Nat) (c : AV) (x : Value), cs[i]? = some c → xs[i]? = some x → AIs w S σ hp U c x) : AIs w S σ hp U (.mth f cs) (.func (.func f) xs #[])
  | nil : AIs w S σ hp U .nil (.slice none 0 0)
  | mp (id g : Nat) (hN : U id) (h : ∀ b, lk id hp = some b → b.ty = g) : AIs w S σ hp U (.mp id) (.map (some g))

/-- A step under which abstract values stay. -/
structure Step (w : World) (S : Nat → Prop) (σ : Nat → Option Nat) (hp : Hp) (U : Nat → Prop) (w' : World) (S' : Nat → Prop) (σ' : Nat → Option Nat) (hp' : Hp) (U' : Nat → Prop) : Prop where
  sub : ∀ b, S b → S' b
  cell : ∀ p : Addr, S p.block → w'.cell? p = w.cell? p
  le : ∀ i, U i → U' i
  blk : ∀ id b', U id → lk id hp' = some b' → ∃ b, lk id hp = some b ∧ b'.e = b.e ∧ b'.ty = b.ty ∧ b.es.length ≤ b'.es.length ∧
    (b'.es.length = b.es.length → ∀ g, σ id = some g → σ' id = some g ∧ ∀ n, World.rows w g b.ty n → World.rows w' g b.ty n)

theorem AIs.step {w w' : World} {S S' : Nat → Prop} {σ σ' : Nat → Option Nat} {hp hp' : Hp} {U U' : Nat → Prop} (st : Step w S σ hp U w' S' σ' hp' U') {a : AV} {v : Value} (h : AIs w S σ hp U a v) : AIs w' S' σ' hp' U' a v := by
  induction h with
  | any v => exact .any v
  | d h => exact .d (h.mono st.sub st.cell)
  | agg cs xs hl h1 _ ih => exact .agg cs xs hl h1 ih
  | tup cs xs hl _ ih => exact .tup cs xs hl ih
  | own id i0 len tot A cap hN hl h0 h =>
    refine .own id i0 len tot A cap (st.le _ hN) hl h0 fun b' hb' => ?_
    obtain ⟨b, hb, he, hty, hle, heq⟩ := st.blk id b' hN hb'
    grind
  | sub id i off e len cap tot A hN hl h0 h =>
    refine .sub id i off e len cap tot A (st.le _ hN) hl h0 fun b' hb' => ?_
    obtain ⟨b, hb, he, hty, hle, heq⟩ := st.blk id b' hN hb'
    grind
  | ptr id i off tot a hN h =>
    refine .ptr id i off tot a (st.le _ hN) fun b' hb' => ?_
    obtain ⟨b, hb, he, hty, hle, heq⟩ := st.blk id b' hN hb'
    grind
  | rop cs ad vs hS hv hd =>
    refine .rop cs ad vs (st.sub _ hS) (fun j y hy => ?_) (fun j y hy => (hd j y hy).mono st.sub st.cell)
    rw [st.cell _ (by rw [add_block]; exact hS)]
    exact hv j y hy
  | fn f cs xs hl _ ih => exact .fn f cs xs hl ih
  | mth f cs xs hl _ ih => exact .mth f cs xs hl ih
  | nil => exact .nil
  | mp id g hN h =>
    refine .mp id g (st.le _ hN) fun b' hb' => ?_
    obtain ⟨b, hb, _, hty, _⟩ := st.blk id b' hN hb'
    rw [hty]
    exact h b hb

/-- The cells of a map's key: integers. -/
def keyR (u : List (IntKind × Int)) : List AV := u.map fun p => .d (.int p.1 p.2)
def keyV (u : List (IntKind × Int)) : Value := .agg (u.map fun p => Value.int p.1 p.2).toArray
/-- A map's rows: a mark, then its keys. -/
def mapR (ks : List (List (IntKind × Int))) : List (List AV) := [.any] :: ks.map keyR

/-- Block g is a map that tells true of these keys, and nothing of others. -/
def MapOk (w : World) (g : Nat) (es : List (List AV)) : Prop :=
  ∃ (ks : List (List (IntKind × Int))) (ms : Array MapEntry) (clock : Nat), es = mapR ks ∧ w.heap[g]? = some (.map ms clock) ∧
    (∀ m ∈ ms.toList, m.val = .bool true ∧ ∃ u ∈ ks, m.key = keyV u) ∧ ∀ u ∈ ks, ∃ m ∈ ms.toList, m.key = keyV u

/-- An id without cells: of nothing, or of a map, which lies where ty says, and is new since n. -/
def NoB (n : Nat) (w : World) (b : Blk) : Prop := b.es = [] ∨ (b.e = 0 ∧ n ≤ b.ty ∧ MapOk w b.ty b.es)

theorem NoB.keep {n : Nat} {w w' : World} {b : Blk} (h : NoB n w b) (hold : ∀ (g : Nat) (ms : Array MapEntry) (clock : Nat), w.heap[g]? = some (Obj.map ms clock) → w'.heap[g]? = w.heap[g]?) : NoB n w' b := by
  rcases h with h | ⟨h0, hn, ks, ms, clock, h1, h2, h3⟩
  · exact .inl h
  · exact .inr ⟨h0, hn, ks, ms, clock, h1, (hold _ _ _ h2).trans h2, h3⟩

theorem NoB.le {n n' : Nat} {w : World} {b : Blk} (hle : n' ≤ n) (h : NoB n w b) : NoB n' w b := by
  rcases h with h | ⟨h0, hn, h1⟩
  · exact .inl h
  · exact .inr ⟨h0, Nat.le_trans hle hn, h1⟩

theorem map_lt {w : World} {g : Nat} {o : Obj} (h : w.heap[g]? = some o) : g < w.heap.size := (Array.getElem?_eq_some_iff.1 h).1

theorem NoB.none {n : Nat} {w : World} {b : Blk} (h : NoB n w b) (he : b.e ≠ 0) : b.es = [] := by
  rcases h with h | ⟨h0, _⟩
  · exact h
  · exact (he h0).elim

/-- One owned block, as the world has it. -/
def BlkOk (w : World) (S : Nat → Prop) (σ : Nat → Option Nat) (hp : Hp) (U : Nat → Prop) (g : Nat) (b : Blk) : Prop :=
  ∃ ccs, w.heap[g]? = some (.cells ccs b.ty (0, 0)) ∧ (∀ (i : Nat) (x : Value), ccs[i]? = some x → x.oneCell' = true) ∧ (∀ x, x ∈ b.es → x.length = b.e) ∧ b.es.length * b.e ≤ ccs.size ∧
    ∀ (i j : Nat) (x : List AV) (y : AV) (v : Value), b.es[i]? = some x → x[j]? = some y → ccs[i * b.e + j]? = some v → AIs w S σ hp U y v

/-- What a call may have done so far: w0 is the world in which it began, M0 the blocks that it was handed as its own. -/
structure Ctx where
  w0 : World
  M0 : Nat → Prop
  S0 : Nat → Prop
  n : Nat
  hM : ∀ b, M0 b → S0 b
  /-- what was handed in as one's own: ids below kx -/
  Sx : Nat → Prop
  σx : Nat → Option Nat
  hpx : Hp
  kx : Nat
  hk : kx ≤ 64

/-- The blocks in which read-only memory lies: those that were handed in, and new ones, but those that are owned. -/
def Sof (c : Ctx) (w : World) (σ : Nat → Option Nat) (hp : Hp) (b : Nat) : Prop := (b < w.heap.size ∧ ∀ id blk g, lk id hp = some blk → σ id = some g → b ≠ g) ∧ (c.S0 b ∨ c.w0.heap.size ≤ b)

structure Rel (c : Ctx) (hp : Hp) (U : Nat → Prop) (σ : Nat → Option Nat) (w : World) : Prop where
  inj : ∀ i j bi bj g, lk i hp = some bi → lk j hp = some bj → σ i = some g → σ j = some g → i = j
  lt : ∀ i b, lk i hp = some b → U i
  blk : ∀ i b, lk i hp = some b → (σ i = none ∧ NoB c.w0.heap.size w b) ∨ ∃ g, σ i = some g ∧ BlkOk w (Sof c w σ hp) σ hp U g b
  mine : ∀ i b g, lk i hp = some b → σ i = some g → c.M0 g ∨ c.w0.heap.size ≤ g
  os : w.os = c.w0.os
  tape : w.tape = c.w0.tape
  output : w.output = c.w0.output
  size : c.w0.heap.size ≤ w.heap.size
  old : ∀ b, b < c.w0.heap.size → ¬ c.M0 b → w.heap[b]? = c.w0.heap[b]?

/-- A block with an element is there. -/
theorem Rel.there {c : Ctx} {hp : Hp} {U : Nat → Prop} {σ : Nat → Option Nat} {w : World} (hr : Rel c hp U σ w) {i k : Nat} {b : Blk} {row : List AV} (hb : lk i hp = some b) (he : b.e ≠ 0) (h : b.es[k]? = some row) : ∃ g, σ i = some g ∧ BlkOk w (Sof c w σ hp) σ hp U g b := by
  rcases hr.blk i b hb with ⟨_, h0⟩ | h1
  · rw [h0.none he] at h; simp at h
  · exact h1

theorem Rel.at {c : Ctx} {hp : Hp} {U : Nat → Prop} {σ : Nat → Option Nat} {w : World} (hr : Rel c hp U σ w) {i g : Nat} {b : Blk} (hb : lk i hp = some b) (hg : σ i = some g) : BlkOk w (Sof c w σ hp) σ hp U g b := by
  rcases hr.blk i b hb with ⟨h0, _⟩ | ⟨g', h1, h2⟩
  · rw [hg] at h0; cases h0
  grind

end Go.Am
