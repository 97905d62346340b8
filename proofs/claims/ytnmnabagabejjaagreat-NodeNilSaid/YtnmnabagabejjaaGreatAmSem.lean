/-
  AM, part 3: the operations.
-/
import Derived.Test.YtnmnabagabejjaaGreatAmOps
namespace Go.Am
set_option linter.unusedVariables false

/-- Integers: what an operation makes. -/
def ibin (op : BinOp) (k : IntKind) (x y : Int) (K : AV → Hp → Prop) (hp : Hp) : Prop :=
  match op with
  | .add => K (.d (.int k (k.wrap (x + y)))) hp
  | .sub => K (.d (.int k (k.wrap (x - y)))) hp
  | .mul => K (.d (.int k (k.wrap (x * y)))) hp
  | .quo => y ≠ 0 ∧ K (.d (.int k (k.wrap (x.tdiv y)))) hp
  | .rem => y ≠ 0 ∧ K (.d (.int k (x.tmod y))) hp
  | .and => K (.d (.int k (bits .and k x y))) hp
  | .or => K (.d (.int k (bits .or k x y))) hp
  | .xor => K (.d (.int k (bits .xor k x y))) hp
  | .andNot => K (.d (.int k (bits .andNot k x y))) hp
  | .eql => K (.d (.bool (decide (x = y)))) hp
  | .neq => K (.d (.bool (!decide (x = y)))) hp
  | .lss => K (.d (.bool (decide (x < y)))) hp
  | .leq => K (.d (.bool (decide (x ≤ y)))) hp
  | .gtr => K (.d (.bool (decide (y < x)))) hp
  | .geq => K (.d (.bool (decide (y ≤ x)))) hp
  | .shl => 0 ≤ y ∧ K (.d (.int k (k.wrap (x * 2 ^ (min y.toNat k.bits))))) hp
  | .shr => 0 ≤ y ∧ K (.d (.int k (x.fdiv (2 ^ (min y.toNat k.bits))))) hp

/-- Strings, by their bytes. -/
def strLess : List Int → List Int → Bool
  | _, [] => false
  | [], _ :: _ => true
  | a :: x, b :: y => decide (a < b) || (decide (a = b) && strLess x y)

def isShift : BinOp → Bool
  | .shl => true
  | .shr => true
  | _ => false

/-- Is it the nil slice, or a slice without a place to tell? -/
def AV.nilTest : AV → Bool
  | .d (.ro _ _) => true
  | .own .. => true
  | .sub .. => true
  | _ => false

def AV.slen : AV → Option Nat
  | .d (.ro _ es) => some es.length
  | .d (.rof _ es) => some es.length
  | .own _ _ len _ => some len
  | .sub _ _ _ _ len _ _ => some len
  | .nil => some 0
  | _ => none

def DV.isInt : DV → Option Int
  | .int _ n => some n
  | _ => none

/-- Cells that are plain integers: equal just where their numbers are. -/
def AV.int? : AV → Option (IntKind × Int)
  | .d (.int k n) => some (k, n)
  | _ => none

def binW0 (P : Program) (op : BinOp) (t : TypeId) (x y : AV) (K : AV → Hp → Prop) (hp : Hp) : Prop :=
  match x, y with
  | .d (.int k a), .d (.int k' b) => (isShift op = true ∨ k = k') ∧ ibin op k a b K hp
  | .d (.bool a), .d (.bool b) =>
    (match op with
    | .eql => P.underlying t = some .bool ∧ K (.d (.bool (a == b))) hp
    | .neq => P.underlying t = some .bool ∧ K (.d (.bool (a != b))) hp
    | _ => False)
  | .d (.str a), .d (.str b) =>
    (match op with
    | .eql => K (.d (.bool (decide (a = b)))) hp
    | .neq => K (.d (.bool (!decide (a = b)))) hp
    | .lss => K (.d (.bool (strLess a b))) hp
    | .leq => K (.d (.bool (strLess a b || decide (a = b)))) hp
    | .gtr => K (.d (.bool (!(strLess a b || decide (a = b))))) hp
    | .geq => K (.d (.bool (!strLess a b))) hp
    | .add => a.length + b.length ≤ 9223372036854775807 ∧ K (.d (.str (a ++ b))) hp
    | _ => False)
  | v, .nil =>
    (match op, v, tyk P t with
    | .eql, .nil, .slice _ => K (.d (.bool true)) hp
    | .neq, .nil, .slice _ => K (.d (.bool false)) hp
    | .eql, v, .slice _ => (match v.slen with
      | some n => ∀ b, (b = true → n = 0) → K (.d (.bool b)) hp
      | none => False)
    | .neq, v, .slice _ => (match v.slen with
      | some n => ∀ b, (b = false → n = 0) → K (.d (.bool b)) hp
      | none => False)
    | _, _, _ => False)
  | _, _ => False

def isPtr (P : Program) (t : TypeId) : Bool :=
  match P.underlying t with
  | some (.pointer _) => true
  | _ => false
def ikind (P : Program) (t : TypeId) : Option IntKind :=
  match P.underlying t with
  | some (.int k) => some k
  | _ => none
def pnW (P : Program) (op : BinOp) (t : TypeId) (v : Bool) (K : AV → Hp → Prop) (hp : Hp) : Prop :=
  isPtr P t = true ∧ (match op with
    | .eql => K (.d (.bool v)) hp
    | .neq => K (.d (.bool (!v))) hp
    | _ => False)
def isFn (P : Program) (t : TypeId) : Bool :=
  match P.underlying t with
  | some (.func ..) => true
  | _ => false
/-- A function's value beside the nil one. -/
def fnW (P : Program) (op : BinOp) (t : TypeId) (v : Bool) (K : AV → Hp → Prop) (hp : Hp) : Prop :=
  isFn P t = true ∧ (match op with
    | .eql => K (.d (.bool v)) hp
    | .neq => K (.d (.bool (!v))) hp
    | _ => False)
/-- Cells that are numbers of one kind. -/
def intsOf (k : IntKind) : List AV → Option (List Int)
  | [] => some []
  | .d (.int k' n) :: r => if k' = k then (intsOf k r).map (n :: ·) else none
  | _ :: _ => none
def agW (P : Program) (op : BinOp) (t : TypeId) (n : Nat) (el : TypeId) (k : Option IntKind) (a b : List AV) (K : AV → Hp → Prop) (hp : Hp) : Prop :=
  match k with
  | some k => (match intsOf k a, intsOf k b with
    | some us, some vs => us.length = n ∧ vs.length = n ∧ P.cellsOf el = 1 ∧ P.eqGuardType P.depth t = false ∧ (match op with
      | .eql => K (.d (.bool (decide (us = vs)))) hp
      | .neq => K (.d (.bool (!decide (us = vs)))) hp
      | _ => False)
    | _, _ => False)
  | none => False
/-- A cell that is a number or a truth. -/
inductive L1 where
  | i (k : IntKind) (n : Int)
  | b (v : Bool)
  deriving DecidableEq
def L1.v : L1 → Value
  | .i k n => .int k n
  | .b v => .bool v
def L1.k : L1 → Option IntKind
  | .i k _ => some k
  | .b _ => none
instance : Inhabited L1 := ⟨.b false⟩

def kindsF (P : Program) (g : TypeId → Option (List (Option IntKind))) : Nat → List Field → Option (List (Option IntKind))
  | _, [] => some []
  | off, f :: r => if f.name ≠ "_" ∧ f.offset = off then (match g f.type with
    | some a => if P.cellsOf f.type = a.length then (kindsF P g (off + a.length) r).map (a ++ ·) else none
    | none => none) else none
/-- The kinds of a type's cells, where they are numbers and truths. -/
def kindsOf (P : Program) : Nat → TypeId → Option (List (Option IntKind))
  | 0, _ => none
  | m + 1, t => match P.underlying t with
    | some (.int k) => some [some k]
    | some .bool => some [none]
    | some (.array n e) => (match kindsOf P m e with
      | some a => if P.cellsOf e = a.length then some (List.replicate n a).flatten else none
      | none => none)
    | some (.struct fs) => if P.stoodInHeld t = true then none else kindsF P (kindsOf P m) 0 fs.toList
    | _ => none

/-- Cells that are numbers and truths. -/
def litsOf : List AV → Option (List L1)
  | [] => some []
  | .d (.int k n) :: r => (litsOf r).map (L1.i k n :: ·)
  | .d (.bool v) :: r => (litsOf r).map (L1.b v :: ·)
  | _ :: _ => none
def sgW (P : Program) (op : BinOp) (t : TypeId) (a b : List AV) (K : AV → Hp → Prop) (hp : Hp) : Prop :=
  match litsOf a, litsOf b with
  | some us, some vs => P.eqGuardType P.depth t = false ∧ kindsOf P 8 t = some (us.map L1.k) ∧ kindsOf P 8 t = some (vs.map L1.k) ∧ (match op with
    | .eql => K (.d (.bool (decide (us = vs)))) hp
    | .neq => K (.d (.bool (!decide (us = vs)))) hp
    | _ => False)
  | _, _ => False
def binW (P : Program) (op : BinOp) (t : TypeId) (x y : AV) (K : AV → Hp → Prop) (hp : Hp) : Prop :=
  match x, y with
  | .ptr _ _ _ _, .d .nilp => pnW P op t false K hp
  | .rop _, .d .nilp => pnW P op t false K hp
  | .d .nilp, .d .nilp => pnW P op t true K hp
  | .fn _ _, .d .nilf => fnW P op t false K hp
  | .mth _ _, .d .nilf => fnW P op t false K hp
  | .d .nilf, .d .nilf => fnW P op t true K hp
  | .agg a, .agg b => (match tyk P t with
    | .arr n el => agW P op t n el (ikind P el) a b K hp
    | .struct _ => sgW P op t a b K hp
    | _ => False)
  | x, y => binW0 P op t x y K hp

def fieldOff (P : Program) (t : TypeId) (i : Nat) : Option (Nat × TypeId) :=
  match tyk P t with
  | .struct fs => fs[i]?
  | _ => none

/-- A call of a Go function, by what it does to every world. -/
def CallsA (P : Program) (g : FuncId) (args : List AV) (hp : Hp) (N : Nat) (K : AV → Hp → Prop) : Prop :=
  (∃ fn, P.funcs[g]? = some fn ∧ (fn.name == "runtime.NumGoroutine") = false ∧ fn.body.isNone = false) ∧
  ∀ (c : Ctx) (U : Nat → Prop) (σ : Nat → Option Nat) (w : World) (vs : List Value), Rel c hp U σ w → Free U N → vs.length = args.length →
    (∀ (i : Nat) (v : AV) (x : Value), args[i]? = some v → vs[i]? = some x → AIs w (Sof c w σ hp) σ hp U v x) →
    Calls P g vs.toArray w fun e w' => ∃ x, e = .returned x ∧ Good c K hp U N σ w x w'

/-- A call of a function that has no code: what it yields of such arguments, in any world. -/
def ExtOk (P : Program) (g : FuncId) (args : List AV) (r : AV) : Prop :=
  ∀ (w : World) (S : Nat → Prop) (σ : Nat → Option Nat) (hp : Hp) (U : Nat → Prop) (vs : List Value), vs.length = args.length →
    (∀ (i : Nat) (v : AV) (x : Value), args[i]? = some v → vs[i]? = some x → AIs w S σ hp U v x) → ∃ x, (callFunc g vs.toArray).run P w = .ok (.value x) w ∧ AIs w S σ hp U r x
def ExtW (P : Program) (g : FuncId) (args : List AV) (hp : Hp) (K : AV → Hp → Prop) : Prop := ∃ r, ExtOk P g args r ∧ K r hp

/-- An operand that is a number. -/
def AV.num : AV → Option Int
  | .d (.int _ n) => some n
  | _ => none

/-- A bound of a slice expression. -/
def bnd (fr : Fr) (dflt : Int) : Option Operand → Option Int
  | none => some dflt
  | some x => (ev fr x).num

def bndO (fr : Fr) : Option Operand → Option Int
  | none => none
  | some x => (ev fr x).num

/-- Is it one cell, known as such? -/
def AV.isOne : AV → Bool
  | .any => false
  | .tup _ => false
  | .agg _ => false
  | _ => true

/-- The cells of a value that may be stored. -/
def AV.cellsO : AV → Option (List AV)
  | .agg cs => some cs
  | .any => none
  | .tup _ => none
  | v => some [v]

/-- A literal's parts, put in their places. -/
def fillA (place : Nat → Option (Nat × Nat)) : List AV → List (Nat × AV) → Option (List AV)
  | cells, [] => some cells
  | cells, (i, v) :: rest =>
    match place i, v.cellsO with
    | some (off, size), some vs => if vs.length = size ∧ off + size ≤ cells.length then fillA place (cells.take off ++ (vs ++ cells.drop (off + size))) rest else none
    | _, _ => none

/-- The same by rows. -/
def fillR (size : Nat) : List (List AV) → List (Nat × AV) → Option (List (List AV))
  | rows, [] => some rows
  | rows, (i, v) :: rest =>
    match v.cellsO with
    | some vs => if vs.length = size ∧ i < rows.length then fillR size (rows.set i vs) rest else none
    | none => none

def structPlace (P : Program) (fs : List (Nat × TypeId)) (i : Nat) : Option (Nat × Nat) := (fs[i]?).map fun f => (f.1, P.cellsOf f.2)

def buildW (P : Program) (k : TK) (zero : List AV) (parts : List (Nat × AV)) (K : AV → Hp → Prop) (hp : Hp) : Prop :=
  match k with
  | .struct fs => (∀ f, f ∈ fs → P.cellsOf f.2 ≠ 0) ∧ (match fillA (structPlace P fs) zero parts with
    | some cs => K (.agg cs) hp
    | none => False)
  | .arr _ el => P.cellsOf el ≠ 0 ∧ (match fillA (fun i => some (i * P.cellsOf el, P.cellsOf el)) zero parts with
    | some cs => K (.agg cs) hp
    | none => False)
  | _ => False

/-- The zero value of a type, if there is one, and it has cells. -/
def tzO (P : Program) (t : TypeId) : Option (List AV) :=
  match (P.info? t).bind (·.zero) with
  | some v => if v.cells.all Value.oneCell' = true ∧ v.cells.size ≠ 0 ∧ v.cells.size = P.cellsOf t then some (v.cells.toList.map ofV1) else none
  | none => none

def buildSliceW (P : Program) (k : TK) (len : Nat) (parts : List (Nat × AV)) (N : Nat) (K : AV → Hp → Prop) (hp : Hp) : Prop :=
  match k with
  | .slice el => (match tzO P el with
    | some z => len * P.cellsOf el ≤ 16777216 ∧ (match fillR (P.cellsOf el) (List.replicate len z) parts with
      | some rows => K (.own N 0 len len) ((N, ⟨el, P.cellsOf el, rows⟩) :: hp)
      | none => False)
    | none => False)
  | _ => False

/-- The elements that a slice shows, each its cells (sz of them). -/
def rowsOf (hp : Hp) (sz : Nat) : AV → Option (List (List AV))
  | .nil => some []
  | .d (.ro e es) => if e = sz then some (es.map fun r => r.map .d) else none
  | .own id i0 len tot =>
    match lk id hp with
    | some b => if b.es.length = tot ∧ b.e = sz then some ((b.es.drop i0).take len) else none
    | none => none
  | .sub id i off e len _ tot =>
    match lk id hp with
    | some b =>
      (match b.es[i]? with
      | some row => if b.es.length = tot ∧ e = sz then some ((List.range len).map fun k => (row.drop (off + k * e)).take e) else none
      | none => none)
    | none => none
  | _ => none

/-- append: the slice that grows is nil or the call's own. -/
def appendW (P : Program) (el : TypeId) (s : AV) (xs : Option (List (List AV))) (N : Nat) (K : AV → Hp → Prop) (hp : Hp) : Prop :=
  match s, xs with
  | .nil, some xs => (tzO P el).isSome = true ∧ P.bytesOf el ≠ 0 ∧ xs.length * P.bytesOf el ≤ 140737488355328 ∧ K (.own N 0 xs.length xs.length) ((N, ⟨el, P.cellsOf el, xs⟩) :: hp)
  | .own id 0 len tot, some xs =>
    (match lk id hp with
    | some b => b.es.length = tot ∧ b.ty = el ∧ b.e = P.cellsOf el ∧ (tzO P el).isSome = true ∧ P.bytesOf el ≠ 0 ∧ (len + xs.length) * P.bytesOf el ≤ 140737488355328 ∧
        (len + xs.length ≤ tot → K (.own id 0 (len + xs.length) tot) (setH id ⟨b.ty, b.e, b.es.take len ++ (xs ++ b.es.drop (len + xs.length))⟩ hp)) ∧
        (tot < len + xs.length → K (.own id 0 (len + xs.length) (len + xs.length)) (setH id ⟨b.ty, b.e, b.es.take len ++ xs⟩ hp))
    | none => False)
  | .d (.rof e es), some xs => e = P.cellsOf el ∧ (tzO P el).isSome = true ∧ P.bytesOf el ≠ 0 ∧ (es.length + xs.length) * P.bytesOf el ≤ 140737488355328 ∧
      ((∃ ds : List (List DV), xs = ds.map (fun r => r.map AV.d) ∧ K (.d (.ro e (es ++ ds))) hp) ∨
        (xs ≠ [] ∧ K (.own N 0 (es.length + xs.length) (es.length + xs.length)) ((N, ⟨el, P.cellsOf el, es.map (fun r => r.map AV.d) ++ xs⟩) :: hp)))
  | .sub id i off e len cap tot, some xs => cap < len + xs.length ∧ (tzO P el).isSome = true ∧ P.bytesOf el ≠ 0 ∧ (len + xs.length) * P.bytesOf el ≤ 140737488355328 ∧
      (match rowsOf hp (P.cellsOf el) (.sub id i off e len cap tot) with
      | some rs => K (.own N 0 (len + xs.length) (len + xs.length)) ((N, ⟨el, P.cellsOf el, rs ++ xs⟩) :: hp)
      | none => False)
  | _, _ => False

def sliceW (P : Program) (k : TK) (v : AV) (lo hi : Option Int) (K : AV → Hp → Prop) (hp : Hp) : Prop :=
  match v, k, lo, hi with
  | .nil, .slice el, some l, some h => P.cellsOf el ≠ 0 ∧ l = 0 ∧ h = 0 ∧ K .nil hp
  | .d (.ro e es), .slice el, some l, some h => P.cellsOf el ≠ 0 ∧ e = P.cellsOf el ∧ 0 ≤ l ∧ l ≤ h ∧ h ≤ es.length ∧ K (.d (.ro e ((es.take h.toNat).drop l.toNat))) hp
  | .own id i0 len tot, .slice el, some l, some h =>
    (match lk id hp with
    | some b => P.cellsOf el ≠ 0 ∧ b.e = P.cellsOf el ∧ 0 ≤ l ∧ l ≤ h ∧ h ≤ len ∧ K (.own id (i0 + l.toNat) (h.toNat - l.toNat) tot) hp
    | none => False)
  | .sub id i off e len cap tot, .slice el, some l, some h => P.cellsOf el ≠ 0 ∧ e = P.cellsOf el ∧ 0 ≤ l ∧ l ≤ h ∧ h ≤ len ∧ K (.sub id i (off + l.toNat * e) e (h.toNat - l.toNat) (cap - l.toNat) tot) hp
  | .ptr id i off tot, .arr n el, some l, some h =>
    (match lk id hp with
    | some b => P.cellsOf el ≠ 0 ∧ off + n * P.cellsOf el ≤ b.e ∧ i < tot ∧ 0 ≤ l ∧ l ≤ h ∧ h ≤ n ∧ K (.sub id i (off + l.toNat * P.cellsOf el) (P.cellsOf el) (h.toNat - l.toNat) (n - l.toNat) tot) hp
    | none => False)
  | .rop cs, .arr n el, some l, some h => P.cellsOf el = 1 ∧ n ≤ cs.length ∧ 0 ≤ l ∧ l ≤ h ∧ h ≤ n ∧ K (.d (.ro 1 (((cs.take h.toNat).drop l.toNat).map fun c => [c]))) hp
  | .d (.str bs), .str, some l, some h => 0 ≤ l ∧ l ≤ h ∧ h ≤ bs.length ∧ K (.d (.str ((bs.take h.toNat).drop l.toNat))) hp
  | _, _, _, _ => False

def AV.topLen (k : TK) : AV → Int
  | .nil => 0
  | .d (.ro _ es) => es.length
  | .own _ _ len _ => len
  | .sub _ _ _ _ len _ _ => len
  | .d (.str bs) => bs.length
  | _ => match k with
    | .arr n _ => n
    | _ => 0

/-- A slice whose room ends where it ends: of what is read-only, or nil. -/
def slice3W (P : Program) (k : TK) (v : AV) (lo hi mx : Option Int) (K : AV → Hp → Prop) (hp : Hp) : Prop :=
  match v, k, lo, hi, mx with
  | .d (.ro e es), .slice el, some l, some h, some m => P.cellsOf el ≠ 0 ∧ e = P.cellsOf el ∧ 0 ≤ l ∧ l ≤ h ∧ h = m ∧ h ≤ es.length ∧ K (.d (.rof e ((es.take h.toNat).drop l.toNat))) hp
  | .nil, .slice el, some l, some h, some m => P.cellsOf el ≠ 0 ∧ l = 0 ∧ h = 0 ∧ m = 0 ∧ K (.d (.rof (P.cellsOf el) [])) hp
  | .own _ _ _ _, .slice el, some l, some h, some m => P.cellsOf el ≠ 0 ∧ l = 0 ∧ h = 0 ∧ m = 0 ∧ K (.d (.rof (P.cellsOf el) [])) hp
  | _, _, _, _, _ => False

def makeW (P : Program) (k : TK) (l m : AV) (N : Nat) (K : AV → Hp → Prop) (hp : Hp) : Prop :=
  match k, l, m with
  | .slice el, .d (.int _ n), .d (.int _ c) => (match tzO P el with
    | some z => 0 ≤ n ∧ n ≤ c ∧ c * P.cellsOf el ≤ 16777216 ∧ P.bytesOf el * c ≤ 281474976710656 ∧ c ≤ 9223372036854775807 ∧ K (.own N 0 n.toNat n.toNat) ((N, ⟨el, P.cellsOf el, List.replicate n.toNat z⟩) :: hp)
    | none => False)
  | _, _, _ => False

/-- copy, of elements of one cell, into a row of the call's own. -/
def copyW (P : Program) (el : TypeId) (s : AV) (xs : Option (List (List AV))) (K : AV → Hp → Prop) (hp : Hp) : Prop :=
  match s, xs with
  | .own id i0 len tot, some xs => (match lk id hp with
    | some b => b.es.length = tot ∧ b.e = 1 ∧ P.cellsOf el = 1 ∧
        K (.d (.int .i64 (min len xs.length : Nat))) (setH id ⟨b.ty, b.e, b.es.take i0 ++ (xs.take len ++ b.es.drop (i0 + min len xs.length))⟩ hp)
    | none => False)
  | .sub id i off e len cap tot, some xs => (match lk id hp with
    | some b => (match b.es[i]? with
      | some row => b.es.length = tot ∧ e = 1 ∧ P.cellsOf el = 1 ∧
          K (.d (.int .i64 (min len xs.length : Nat))) (setH id ⟨b.ty, b.e, b.es.set i (row.take off ++ ((xs.take len).flatten ++ row.drop (off + (xs.take len).flatten.length)))⟩ hp)
      | none => False)
    | none => False)
  | _, _ => False

/-- A pointer at the cells of a slice that is read-only, of elements of one cell, or of a row's. -/
def arrW (k : TK) (v : AV) (K : AV → Hp → Prop) (hp : Hp) : Prop :=
  match k, v with
  | .arr n _, .d (.ro 1 es) => 0 < n ∧ n ≤ es.length ∧ K (.rop es.flatten) hp
  | .arr n _, .sub id i off _ len _ tot => (match lk id hp with
    | some b => b.es.length = tot ∧ 0 < n ∧ n ≤ len ∧ K (.ptr id i off tot) hp
    | none => False)
  | _, _ => False

/-- The builtins. -/
def biW (P : Program) (fr : Fr) (hp : Hp) (N : Nat) (b : Builtin) (args : List Operand) (tys : List TypeId) (K : AV → Hp → Prop) : Prop :=
  match b, args, tys with
  | .len, [x], [t] =>
    (match ev fr x, tyk P t with
    | .d (.str bs), .str => K (.d (.int .i64 bs.length)) hp
    | _, .arr n _ => K (.d (.int .i64 n)) hp
    | v, .slice _ => (match v.slen with
      | some n => K (.d (.int .i64 n)) hp
      | none => False)
    | _, _ => False)
  | .append, [s, x], [ts, tx] =>
    (match tyk P ts, tyk P tx with
    | .slice el, .slice _ => appendW P el (ev fr s) (rowsOf hp (P.cellsOf el) (ev fr x)) N K hp
    | .slice el, .scal => (match ev fr s, ev fr x, ikind P tx with
      | .own id i0 len tot, .d (.int k n), some k' => k = k' ∧ 0 ≤ n ∧ n ≤ 4294967296 ∧ P.bytesOf el * n ≤ 281474976710656 ∧ (match tzO P el with
        | some z => appendW P el (.own id i0 len tot) (some (List.replicate n.toNat z)) N K hp
        | none => False)
      | _, _, _ => False)
    | _, _ => False)
  | .copy, [s, x], [ts, tx] =>
    (match tyk P ts, tyk P tx with
    | .slice el, .slice el2 => P.cellsOf el2 = 1 ∧ copyW P el (ev fr s) (rowsOf hp (P.cellsOf el) (ev fr x)) K hp
    | _, _ => False)
  | .max, [x, y], [_, _] =>
    (match ev fr x, ev fr y with
    | .d (.int k m), .d (.int _ n) => K (.d (.int k (if n > m then n else m))) hp
    | _, _ => False)
  | .min, [x, y], [_, _] =>
    (match ev fr x, ev fr y with
    | .d (.int k m), .d (.int _ n) => K (.d (.int k (if n < m then n else m))) hp
    | _, _ => False)
  | _, _, _ => False

/-- A map's type, as far as these keys of it ask; its elements are truths. -/
def MapTy (P : Program) (t : TypeId) (vs : List (List (IntKind × Int))) : Prop :=
  ∃ k e, P.underlying t = some (.map k e) ∧ Go.Maps.Keyed P k ∧ (∀ w, (zeroValue e).run P w = .ok (.bool false) w) ∧ ∀ u ∈ vs, ∃ l, keyOf P k (keyV u) = some l
/-- A map is asked. -/
def luW (P : Program) (t : TypeId) (m x : AV) (K : AV → Hp → Prop) (hp : Hp) : Prop :=
  match m, x with
  | .mp id, .agg cs => ∃ b ks u, lk id hp = some b ∧ b.e = 0 ∧ b.es = mapR ks ∧ cs = keyR u ∧ MapTy P t (u :: ks) ∧ K (.d (.bool (decide (u ∈ ks)))) hp
  | _, _ => False
/-- A map is told a key; there is no other map. -/
def muW (P : Program) (t : TypeId) (m x v : AV) (K : AV → Hp → Prop) (hp : Hp) : Prop :=
  match m, x, v with
  | .mp id, .agg cs, .d (.bool true) => ∃ b ks u, lk id hp = some b ∧ b.e = 0 ∧ b.es = mapR ks ∧ cs = keyR u ∧ MapTy P t (u :: ks) ∧ (∀ p, p ∈ hp → p.2.e = 0 → p.1 = id) ∧ K .any (setH id ⟨b.ty, b.e, mapR (ks ++ [u])⟩ hp)
  | _, _, _ => False

/-- What one operation does. -/
def opW (P : Program) (fr : Fr) (hp : Hp) (N : Nat) (op : Op) (K : AV → Hp → Prop) : Prop :=
  match op with
  | .move x => K (ev fr x) hp
  | .assign x => K (ev fr x) hp
  | .pick c a b =>
    match ev fr c with
    | .d (.bool t) =>
      (match ev fr a, ev fr b with
      | .d (.bool x), .d (.bool y) => K (.d (.bool (if t then x else y))) hp
      | va, vb => (t = true → K va hp) ∧ (t = false → K vb hp))
    | _ => False
  | .binOp op t x y _ => binW P op t (ev fr x) (ev fr y) K hp
  | .unOp .not _ x =>
    match ev fr x with
    | .d (.bool b) => K (.d (.bool (!b))) hp
    | _ => False
  | .unOp .neg _ x =>
    match ev fr x with
    | .d (.int k n) => K (.d (.int k (k.wrap (0 - n)))) hp
    | _ => False
  | .unOp .xor _ x =>
    match ev fr x with
    | .d (.int k n) => K (.d (.int k (bits .xor k (if k.signed then -1 else k.max) n))) hp
    | _ => False
  | .nilCheck x =>
    match ev fr x with
    | .ptr id i off tot => K (.ptr id i off tot) hp
    | .rop cs => K (.rop cs) hp
    | .fn f cs => K (.fn f cs) hp
    | .mth f cs => K (.mth f cs) hp
    | _ => False
  | .extract x i =>
    match ev fr x with
    | .tup vs => (match vs[i]? with
      | some v => K v hp
      | none => False)
    | _ => False
  | .convert s t x =>
    match ev fr x with
    | .d (.ro 1 es) => ∃ bs : List Int, es = bs.map (fun b => [.int .u8 b]) ∧ (∀ b, b ∈ bs → 0 ≤ b ∧ b < 256) ∧ (match tyk P s, tyk P t with
      | .slice el, .str => P.underlying el = some (.int .u8) ∧ K (.d (.str bs)) hp
      | _, _ => False)
    | .d (.int _ n) => (match P.underlying s, P.underlying t with
      | some _, some (.int k) => K (.d (.int k (k.wrap n))) hp
      | _, _ => False)
    | .d (.str bs) => (match tyk P s, tyk P t with
      | .str, .slice el => P.underlying el = some (.int .u8) ∧ K (.d (.ro 1 (bs.map fun b => [.int .u8 b]))) hp
      | _, _ => False)
    | v => ∃ bs : List Int, rowsOf hp 1 v = some (bs.map fun b => [.d (.int .u8 b)]) ∧ (∀ b, b ∈ bs → 0 ≤ b ∧ b < 256) ∧ (match tyk P s, tyk P t with
      | .slice el, .str => P.underlying el = some (.int .u8) ∧ K (.d (.str bs)) hp
      | _, _ => False)
  | .load t x =>
    match ev fr x with
    | .ptr id i off tot => (match lk id hp with
      | some b => (match b.es[i]? with
        | some row => b.es.length = tot ∧ (match ldv P t (row.drop off) with
          | some v => K v hp
          | none => False)
        | none => False)
      | none => False)
    | .rop cs => (match ldv P t (cs.map .d) with
      | some v => K v hp
      | none => False)
    | _ => False
  | .fieldAddr t x i =>
    match ev fr x, fieldOff P t i with
    | .ptr id j off tot, some (o, ft) => P.cellsOf ft ≠ 0 ∧ K (.ptr id j (off + o) tot) hp
    | .rop cs, some (o, ft) => P.cellsOf ft ≠ 0 ∧ K (.rop (cs.drop o)) hp
    | _, _ => False
  | .field t x i => (match ev fr x, fieldOff P t i with
    | .agg cs, some (o, ft) => (match ldv P ft (cs.drop o) with
      | some v => K v hp
      | none => False)
    | _, _ => False)
  | .indexAddr t x ix =>
    match ev fr ix with
    | .d (.int _ n) =>
      (match ev fr x, tyk P t with
      | .d (.ro e es), .slice el => 0 ≤ n ∧ e = P.cellsOf el ∧ P.cellsOf el ≠ 0 ∧ (match es[n.toNat]? with
        | some cs => K (.rop cs) hp
        | none => False)
      | .own id i0 len tot, .slice el => 0 ≤ n ∧ n < len ∧ (match lk id hp with
        | some b => b.es.length = tot ∧ b.e = P.cellsOf el ∧ P.cellsOf el ≠ 0 ∧ K (.ptr id (i0 + n.toNat) 0 tot) hp
        | none => False)
      | .sub id i off e len _ tot, .slice el => 0 ≤ n ∧ n < len ∧ (match lk id hp with
        | some b => b.es.length = tot ∧ e = P.cellsOf el ∧ P.cellsOf el ≠ 0 ∧ K (.ptr id i (off + n.toNat * e) tot) hp
        | none => False)
      | .ptr id i off tot, .arr len el => 0 ≤ n ∧ n < len ∧ P.cellsOf el ≠ 0 ∧ K (.ptr id i (off + n.toNat * P.cellsOf el) tot) hp
      | .rop cs, .arr len el => 0 ≤ n ∧ n < len ∧ P.cellsOf el ≠ 0 ∧ K (.rop (cs.drop (n.toNat * P.cellsOf el))) hp
      | _, _ => False)
    | _ => False
  | .alloc t =>
    match tzO P t with
    | some cs => K (.ptr N 0 0 1) ((N, ⟨t, cs.length, [cs]⟩) :: hp)
    | none => False
  | .build t parts =>
    match tzO P t with
    | some z => buildW P (tyk P t) z (parts.toList.map fun p => (p.1, ev fr p.2)) K hp
    | none => False
  | .buildSlice t len parts => buildSliceW P (tyk P t) len (parts.toList.map fun p => (p.1, ev fr p.2)) N K hp
  | .slice t x lo hi (some m) => slice3W P (tyk P t) (ev fr x) (bnd fr 0 lo) (bndO fr hi) (ev fr m).num K hp
  | .index t x i => (match tyk P t, ev fr x, ev fr i with
    | .arr n el, .agg cs, .d (.int _ m) => 0 ≤ m ∧ m < n ∧ (match tyk P el with
      | .scal => P.cellsOf el = 1 ∧ (match cs[m.toNat]? with
        | some v => K v hp
        | none => False)
      | .slice _ => P.cellsOf el = 1 ∧ (match cs[m.toNat]? with
        | some v => K v hp
        | none => False)
      | .arr _ _ => P.cellsOf el ≠ 0 ∧ (match ldv P el (cs.drop (m.toNat * P.cellsOf el)) with
        | some v => K v hp
        | none => False)
      | _ => False)
    | .str, .d (.str bs), .d (.int _ m) => 0 ≤ m ∧ (match bs[m.toNat]? with
      | some b => K (.d (.int .u8 b)) hp
      | none => False)
    | _, _, _ => False)
  | .makeFunc (.func f) first caps => if first.isEmpty then K (.fn f (caps.toList.map (ev fr))) hp else caps = #[] ∧ K (.mth f (first.toList.map (ev fr))) hp
  | .makeSlice t l m => makeW P (tyk P t) (ev fr l) (ev fr m) N K hp
  | .sliceToArrayPointer t x => arrW (tyk P t) (ev fr x) K hp
  | .slice t x lo hi none => sliceW P (tyk P t) (ev fr x) (bnd fr 0 lo) (bnd fr ((ev fr x).topLen (tyk P t)) hi) K hp
  | .box t x =>
    match ev fr x with
    | .agg cs => K (.ptr N 0 0 1) ((N, ⟨t, cs.length, [cs]⟩) :: hp)
    | .any => False
    | .tup _ => False
    | v => K (.ptr N 0 0 1) ((N, ⟨t, 1, [[v]]⟩) :: hp)
  | .store t x v =>
    match ev fr x with
    | .ptr id i off tot => (match lk id hp with
      | some b => (match b.es[i]? with
        | some row => b.es.length = tot ∧ (match ev fr v with
          | .agg cs => cs.length = P.cellsOf t ∧ P.cellsOf t ≠ 0 ∧ off + cs.length ≤ row.length ∧
              K .any (setH id ⟨b.ty, b.e, b.es.set i (row.take off ++ (cs ++ row.drop (off + cs.length)))⟩ hp)
          | .any => False
          | .tup _ => False
          | u => P.cellsOf t = 1 ∧ off < row.length ∧ K .any (setH id ⟨b.ty, b.e, b.es.set i (row.set off u)⟩ hp))
        | none => False)
      | none => False)
    | _ => False
  | .call cl =>
    match cl.callee with
    | .builtin b => biW P fr hp N b cl.args.toList cl.argTypes.toList K
    | .value f =>
      (match ev fr f with
      | .fn g caps => CallsA P g (cl.args.toList.map (ev fr) ++ caps) hp N K ∨ ExtW P g (cl.args.toList.map (ev fr) ++ caps) hp K
      | .mth g caps => CallsA P g (caps ++ cl.args.toList.map (ev fr)) hp N K ∨ ExtW P g (caps ++ cl.args.toList.map (ev fr)) hp K
      | _ => False)
    | .invoke _ _ => False
  | .makeMap _ none => ∀ g, K (.mp N) ((N, ⟨g, 0, mapR []⟩) :: hp)
  | .lookup t m x false => luW P t (ev fr m) (ev fr x) K hp
  | .mapUpdate t m x v => muW P t (ev fr m) (ev fr x) (ev fr v) K hp
  | _ => False

end Go.Am
