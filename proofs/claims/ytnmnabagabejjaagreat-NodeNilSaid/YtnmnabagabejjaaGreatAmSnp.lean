/-
  AM, part 6h: what the call owns, read as deep values; blocks that are given up.
-/
import Derived.Test.YtnmnabagabejjaaGreatAmTre
namespace Go.Am
set_option linter.unusedVariables false

/-- Values without ids. -/
def AV.deep1 : AV → Prop
  | .any => True
  | .d _ => True
  | .rop _ => True
  | .fn _ cs => cs = []
  | .mth _ cs => cs = []
  | .nil => True
  | _ => False
def AV.deep : AV → Prop
  | .agg cs => ∀ c, c ∈ cs → c.deep1
  | .tup cs => ∀ c, c ∈ cs → (c.deep1 ∨ ∃ xs, c = .agg xs ∧ ∀ x, x ∈ xs → x.deep1)
  | .fn _ cs => ∀ c, c ∈ cs → c.deep1
  | .mth _ cs => ∀ c, c ∈ cs → c.deep1
  | v => v.deep1

/-- Deep values without memory. -/
def DV.flat : DV → Prop
  | .int _ _ => True
  | .bool _ => True
  | .str _ => True
  | .nilp => True
  | .nilf => True
  | .ro _ _ => False
  | .rof _ _ => False
  | .box _ => False
def AV.flat1 : AV → Prop
  | .d v => v.flat
  | .any => True
  | .nil => True
  | _ => False
def AV.flat : AV → Prop
  | .agg cs => ∀ c, c ∈ cs → c.flat1
  | .tup cs => ∀ c, c ∈ cs → (c.flat1 ∨ ∃ xs, c = .agg xs ∧ ∀ x, x ∈ xs → x.flat1)
  | v => v.flat1

section
variable {w : World} {S S' : Nat → Prop} {σ σ' : Nat → Option Nat} {hp hp' : Hp} {U U' : Nat → Prop}

theorem deep1_is {v : AV} {x : Value} (hv : v.deep1) (hS : ∀ b, S b → S' b) (h : AIs w S σ hp U v x) : AIs w S' σ' hp' U' v x := by
  cases h with
  | any => exact .any _
  | d h => exact .d (h.mono hS fun _ _ => rfl)
  | rop cs ad vs h1 h2 h3 => exact .rop cs ad vs (hS _ h1) h2 fun j y hy => (h3 j y hy).mono hS fun _ _ => rfl
  | fn f cs xs hl h => obtain rfl : cs = [] := hv; exact .fn f [] xs hl (by simp)
  | mth f cs xs hl h => obtain rfl : cs = [] := hv; exact .mth f [] xs hl (by simp)
  | agg => exact hv.elim
  | tup => exact hv.elim
  | own => exact hv.elim
  | sub => exact hv.elim
  | ptr => exact hv.elim
  | nil => exact .nil
  | mp => exact hv.elim

theorem deep_is {v : AV} {x : Value} (hv : v.deep) (hS : ∀ b, S b → S' b) (h : AIs w S σ hp U v x) : AIs w S' σ' hp' U' v x := by
  cases v with
  | agg cs =>
    cases h with
    | agg _ xs hl h1 h => exact .agg cs xs hl h1 fun i c x hc hx => deep1_is (hv c (List.mem_of_getElem? hc)) hS (h i c x hc hx)
  | tup cs =>
    cases h with
    | tup _ xs hl h =>
      refine .tup cs xs hl fun i c x hc hx => ?_
      have h0 := h i c x hc hx
      rcases hv c (List.mem_of_getElem? hc) with h1 | ⟨ys, rfl, h1⟩
      · exact deep1_is h1 hS h0
      · cases h0 with
        | agg _ zs hl h2 h => exact .agg ys zs hl h2 fun i c x hc hx => deep1_is (h1 c (List.mem_of_getElem? hc)) hS (h i c x hc hx)
  | fn f cs =>
    cases h with
    | fn _ _ xs hl h => exact .fn f cs xs hl fun i c x hc hx => deep1_is (hv c (List.mem_of_getElem? hc)) hS (h i c x hc hx)
  | mth f cs =>
    cases h with
    | mth _ _ xs hl h => exact .mth f cs xs hl fun i c x hc hx => deep1_is (hv c (List.mem_of_getElem? hc)) hS (h i c x hc hx)
  | _ => exact deep1_is hv hS h

theorem dflat_is {v : DV} {x : Value} (hv : v.flat) (h : DIs w S v x) : DIs w S' v x := by
  cases h with
  | int => exact .int _ _
  | bool => exact .bool _
  | str => exact .str _
  | nilp => exact .nilp
  | nilf => exact .nilf
  | ro => exact hv.elim
  | rof => exact hv.elim
  | box => exact hv.elim

theorem flat1_is {v : AV} {x : Value} (hv : v.flat1) (h : AIs w S σ hp U v x) : AIs w S' σ' hp' U' v x := by
  cases h with
  | d h => exact .d (dflat_is hv h)
  | any => exact .any _
  | nil => exact .nil
  | _ => exact hv.elim

theorem flat_is {v : AV} {x : Value} (hv : v.flat) (h : AIs w S σ hp U v x) : AIs w S' σ' hp' U' v x := by
  cases v with
  | agg cs =>
    cases h with
    | agg _ xs hl h1 h => exact .agg cs xs hl h1 fun i c x hc hx => flat1_is (hv c (List.mem_of_getElem? hc)) (h i c x hc hx)
  | tup cs =>
    cases h with
    | tup _ xs hl h =>
      refine .tup cs xs hl fun i c x hc hx => ?_
      have h0 := h i c x hc hx
      rcases hv c (List.mem_of_getElem? hc) with h1 | ⟨ys, rfl, h1⟩
      · exact flat1_is h1 h0
      · cases h0 with
        | agg _ zs hl h2 h => exact .agg ys zs hl h2 fun i c x hc hx => flat1_is (h1 c (List.mem_of_getElem? hc)) (h i c x hc hx)
  | _ => exact flat1_is hv h
end

/-- v, read as a deep value: what the call owns (those of I) is read, and no id is named any more. -/
inductive SnapD (hp : Hp) (I : Nat → Prop) : AV → DV → Prop
  | d (v : DV) : SnapD hp I (.d v) v
  | nil (e : Nat) : SnapD hp I .nil (.ro e [])
  | own {id i0 len tot : Nat} {b : Blk} {es : List (List DV)} (hI : I id) (hb : lk id hp = some b) (ht : b.es.length = tot) (hl : es.length = len) (he : ∀ r, r ∈ es → r.length = b.e)
      (hes : ∀ (i j : Nat) (row : List AV) (c : AV) (r : List DV) (y : DV), b.es[i0 + i]? = some row → row[j]? = some c → es[i]? = some r → r[j]? = some y → SnapD hp I c y) : SnapD hp I (.own id i0 len tot) (.ro b.e es)
  | sub {id i off e len cap tot : Nat} {b : Blk} {row : List AV} {es : List (List DV)} (hI : I id) (hb : lk id hp = some b) (ht : b.es.length = tot) (hr : b.es[i]? = some row) (he : 0 < e) (hl : es.length = len) (hel : ∀ r, r ∈ es → r.length = e)
      (hes : ∀ (k j : Nat) (c : AV) (r : List DV) (y : DV), row[off + k * e + j]? = some c → es[k]? = some r → r[j]? = some y → SnapD hp I c y) : SnapD hp I (.sub id i off e len cap tot) (.ro e es)

theorem snapD_is {c : Ctx} {hp : Hp} {U : Nat → Prop} {σ : Nat → Option Nat} {w : World} {I S' : Nat → Prop} (hS : ∀ b, Sof c w σ hp b → S' b) (hS2 : ∀ id blk g, I id → lk id hp = some blk → σ id = some g → S' g) (hr : Rel c hp U σ w) {v : AV} {d : DV} (hs : SnapD hp I v d) :
    ∀ {x : Value}, AIs w (Sof c w σ hp) σ hp U v x → DIs w S' d x := by
  induction hs with
  | d v =>
    intro x h
    cases h with | d h => exact h.mono hS fun _ _ => rfl
  | nil e =>
    intro x h
    cases h with | nil => exact .ro _ [] none 0 (fun _ _ => default) (by simp) (by simp) (by simp) (by simp) (by simp)
  | own hI hb ht hl he hes ih =>
    rename_i id i0 len tot b es
    intro x h
    cases h with
    | own _ _ _ _ A cap hN hlc hA0 h =>
      subst hl
      obtain ⟨h1, h2⟩ := h _ hb
      obtain ⟨h3, h3', h4⟩ := h2 ht
      rcases Nat.eq_zero_or_pos es.length with hl0 | hl0
      · have : es = [] := List.eq_nil_of_length_eq_zero hl0
        subst this
        exact .ro _ [] A cap (fun _ _ => default) (by simp) (by simp) (by simp) (by simp) (by simp)
      obtain ⟨g, hg, h5, _⟩ := h4 (by omega)
      obtain ⟨ccs, k1, k2, k3, k4, k5⟩ := hr.at hb hg
      have hcell : ∀ i r j y, es[i]? = some r → r[j]? = some y → ∃ u, ccs[(i0 + i) * b.e + j]? = some u ∧ DIs w S' y u := by
        intro i r j y hi hj
        have hil := (List.getElem?_eq_some_iff.1 hi).1
        have hrow : b.es[i0 + i]? = some b.es[i0 + i] := List.getElem?_eq_getElem (by omega)
        have hrl := k3 _ (List.mem_of_getElem? hrow)
        have hjl : j < b.e := by
          have := (List.getElem?_eq_some_iff.1 hj).1
          rw [he r (List.mem_of_getElem? hi)] at this
          exact this
        have hc : (b.es[i0 + i])[j]? = some (b.es[i0 + i])[j] := List.getElem?_eq_getElem (by omega)
        have hlt : (i0 + i) * b.e + j < ccs.size := by
          have : (i0 + i + 1) * b.e ≤ b.es.length * b.e := Nat.mul_le_mul_right _ (by omega)
          rw [Nat.add_mul, Nat.one_mul] at this
          omega
        exact ⟨ccs[(i0 + i) * b.e + j], Array.getElem?_eq_getElem hlt, ih i j _ _ r y hrow hc hi hj (k5 (i0 + i) j _ _ _ hrow hc (Array.getElem?_eq_getElem hlt))⟩
      refine .ro b.e es A cap (fun i j => ccs.getD ((i0 + i) * b.e + j) undef) hlc he (fun r hr' => ⟨_, h5, hS2 id _ g hI hb hg⟩) (fun ad hA i j r y hi hj => ?_) (fun i j r y hi hj => ?_)
      · rw [h5] at hA
        injection hA with hA
        subst hA
        obtain ⟨u, hu, _⟩ := hcell i r j y hi hj
        rw [add_mk, cell_of_row w _ _ ccs _ _ k1]
        rw [show i0 * b.e + (i * b.e + j) = (i0 + i) * b.e + j by rw [Nat.add_mul]; omega, hu]
        simp [Array.getD_eq_getD_getElem?, hu]
      · obtain ⟨u, hu, hd⟩ := hcell i r j y hi hj
        simp only [Array.getD_eq_getD_getElem?, hu, Option.getD_some]
        exact hd
  | sub hI hb ht hrow hpe hl hel hes ih =>
    rename_i id i off e len cap tot b row es
    intro x h
    cases h with
    | sub _ _ _ _ _ _ _ A hN hlc hA0 h =>
      subst hl
      obtain ⟨h1, h2⟩ := h _ hb
      obtain ⟨h3, h4, h5⟩ := h2 ht
      by_cases hz : es.length = 0
      · obtain rfl := List.eq_nil_of_length_eq_zero hz
        exact .ro e [] A cap (fun _ _ => undef) hlc (by simp) (by simp) (by simp) (by simp)
      obtain ⟨g, hg, hAe⟩ := h5 (by omega)
      obtain ⟨ccs, k1, k2, k3, k4, k5⟩ := hr.at hb hg
      have h5' : ∀ hc : 0 < cap, A = some ⟨g, i * b.e + off, none⟩ := fun hc => hAe
      have hrl : row.length = b.e := k3 _ (List.mem_of_getElem? hrow)
      have hke : ∀ k, k < es.length → off + k * e + e ≤ b.e := by
        intro k hk
        have h6 : (k + 1) * e ≤ es.length * e := Nat.mul_le_mul_right _ (by omega)
        have h7 : es.length * e ≤ cap * e := Nat.mul_le_mul_right _ hlc
        rw [Nat.add_mul, Nat.one_mul] at h6
        omega
      have hcell : ∀ k r j y, es[k]? = some r → r[j]? = some y → ∃ u, ccs[i * b.e + off + (k * e + j)]? = some u ∧ DIs w S' y u := by
        intro k r j y hk' hj
        have hk2 := hke k (List.getElem?_eq_some_iff.1 hk').1
        have hje : j < e := by
          have := (List.getElem?_eq_some_iff.1 hj).1
          rw [hel r (List.mem_of_getElem? hk')] at this
          exact this
        have hc : row[off + k * e + j]? = some row[off + k * e + j] := List.getElem?_eq_getElem (by omega)
        have hlt : i * b.e + off + (k * e + j) < ccs.size := by
          have : (i + 1) * b.e ≤ b.es.length * b.e := Nat.mul_le_mul_right _ (by omega)
          rw [Nat.add_mul, Nat.one_mul] at this
          omega
        refine ⟨ccs[i * b.e + off + (k * e + j)], Array.getElem?_eq_getElem hlt, ih k j _ r y hc hk' hj (k5 i (off + k * e + j) _ _ _ hrow hc ?_)⟩
        rw [show i * b.e + (off + k * e + j) = i * b.e + off + (k * e + j) by omega]
        exact Array.getElem?_eq_getElem hlt
      refine .ro e es A cap (fun k j => ccs.getD (i * b.e + off + (k * e + j)) undef) hlc hel (fun r hr' => ?_) (fun ad hA k j r y hk' hj => ?_) (fun k j r y hk' hj => ?_)
      · have hpos : 0 < cap := by
          have := List.length_pos_of_mem hr'
          omega
        exact ⟨_, h5' hpos, hS2 id _ g hI hb hg⟩
      · have hpos : 0 < cap := by
          have := (List.getElem?_eq_some_iff.1 hk').1
          omega
        rw [h5' hpos] at hA
        injection hA with hA
        subst hA
        obtain ⟨u, hu, _⟩ := hcell k r j y hk' hj
        rw [add_mk, cell_of_row w _ _ ccs _ _ k1, hu]
        simp [Array.getD_eq_getD_getElem?, hu]
      · obtain ⟨u, hu, hd⟩ := hcell k r j y hk' hj
        simp only [Array.getD_eq_getD_getElem?, hu, Option.getD_some]
        exact hd

/-- Cells, and rows of cells. -/
inductive CellsR (hp : Hp) (I : Nat → Prop) : List AV → List DV → Prop
  | nil : CellsR hp I [] []
  | cons {c : AV} {y : DV} {cs : List AV} {ys : List DV} (h : SnapD hp I c y) (t : CellsR hp I cs ys) : CellsR hp I (c :: cs) (y :: ys)
inductive RowsR (hp : Hp) (I : Nat → Prop) : List (List AV) → List (List DV) → Prop
  | nil : RowsR hp I [] []
  | cons {c : List AV} {y : List DV} {cs : List (List AV)} {ys : List (List DV)} (h : CellsR hp I c y) (t : RowsR hp I cs ys) : RowsR hp I (c :: cs) (y :: ys)

theorem CellsR.at {hp : Hp} {I : Nat → Prop} {cs : List AV} {ys : List DV} (h : CellsR hp I cs ys) : ∀ (j : Nat) (c : AV) (y : DV), cs[j]? = some c → ys[j]? = some y → SnapD hp I c y := by
  induction h with
  | nil => intro j c y h; simp at h
  | cons h t ih =>
    intro j c y hc hy
    cases j with
    | zero => simp at hc hy; subst hc; subst hy; exact h
    | succ j => simp at hc hy; exact ih j c y hc hy
theorem CellsR.len {hp : Hp} {I : Nat → Prop} {cs : List AV} {ys : List DV} (h : CellsR hp I cs ys) : cs.length = ys.length := by
  induction h with
  | nil => rfl
  | cons _ _ ih => simp [ih]
theorem RowsR.at {hp : Hp} {I : Nat → Prop} {cs : List (List AV)} {ys : List (List DV)} (h : RowsR hp I cs ys) : ∀ (j : Nat) (c : List AV) (y : List DV), cs[j]? = some c → ys[j]? = some y → CellsR hp I c y := by
  induction h with
  | nil => intro j c y h; simp at h
  | cons h t ih =>
    intro j c y hc hy
    cases j with
    | zero => simp at hc hy; subst hc; subst hy; exact h
    | succ j => simp at hc hy; exact ih j c y hc hy
theorem RowsR.len {hp : Hp} {I : Nat → Prop} {cs : List (List AV)} {ys : List (List DV)} (h : RowsR hp I cs ys) : cs.length = ys.length := by
  induction h with
  | nil => rfl
  | cons _ _ ih => simp [ih]
theorem cells_map {hp : Hp} {I : Nat → Prop} : ∀ ys : List DV, CellsR hp I (ys.map .d) ys
  | [] => .nil
  | y :: r => .cons (.d y) (cells_map r)
theorem rows_map {hp : Hp} {I : Nat → Prop} : ∀ ys : List (List DV), RowsR hp I (ys.map fun r => r.map .d) ys
  | [] => .nil
  | y :: r => .cons (cells_map y) (rows_map r)
theorem RowsR.append {hp : Hp} {I : Nat → Prop} {a c : List (List AV)} {b d : List (List DV)} (h : RowsR hp I a b) (h2 : RowsR hp I c d) : RowsR hp I (a ++ c) (b ++ d) := by
  induction h with
  | nil => exact h2
  | cons h t ih => exact .cons h ih

theorem own_of {hp : Hp} {I : Nat → Prop} {id i0 len tot : Nat} {ty : TypeId} {e : Nat} {rows : List (List AV)} {es : List (List DV)} (hb : lk id hp = some ⟨ty, e, rows⟩) (hI : I id) (ht : rows.length = tot) (hR : RowsR hp I ((rows.drop i0).take len) es) (hl : es.length = len) (he : ∀ r, r ∈ es → r.length = e) :
    SnapD hp I (.own id i0 len tot) (.ro e es) := by
  refine .own (b := ⟨ty, e, rows⟩) hI hb ht hl he fun i j row c r y h1 h2 h3 h4 => ?_
  have hi : i < len := by
    have := (List.getElem?_eq_some_iff.1 h3).1
    omega
  refine (hR.at i row r ?_ h3).at j c y h2 h4
  rw [List.getElem?_take, if_pos hi, List.getElem?_drop]
  exact h1

theorem snap_row {hp : Hp} {I : Nat → Prop} {id n : Nat} {ty : TypeId} {e : Nat} {es : List (List DV)} (hb : lk id hp = some ⟨ty, e, es.map fun r => r.map .d⟩) (hI : I id) (hn : es.length = n) (he : ∀ r, r ∈ es → r.length = e) : SnapD hp I (.own id 0 n n) (.ro e es) := by
  refine own_of hb hI (by simp [hn]) ?_ hn he
  have : ((es.map fun r => r.map AV.d).drop 0).take n = es.map fun r => r.map .d := by
    rw [List.drop_zero, List.take_of_length_le (by simp [hn])]
  rw [this]
  exact rows_map es

def Snap1 (hp : Hp) (I : Nat → Prop) (c c' : AV) : Prop := (c' = c ∧ c.deep1) ∨ ∃ d, c' = .d d ∧ SnapD hp I c d
def SnapC (hp : Hp) (I : Nat → Prop) (cs cs' : List AV) : Prop := cs'.length = cs.length ∧ ∀ (i : Nat) (c c' : AV), cs[i]? = some c → cs'[i]? = some c' → Snap1 hp I c c'

inductive Snap (hp : Hp) (I : Nat → Prop) : AV → AV → Prop
  | one {v v' : AV} (h : Snap1 hp I v v') : Snap hp I v v'
  | deep {v : AV} (h : v.deep) : Snap hp I v v
  | agg {cs cs' : List AV} (h : SnapC hp I cs cs') : Snap hp I (.agg cs) (.agg cs')
  | tup {cs cs' : List AV} (hl : cs'.length = cs.length) (h : ∀ (i : Nat) (c c' : AV), cs[i]? = some c → cs'[i]? = some c' → Snap1 hp I c c' ∨ ∃ xs xs', c = .agg xs ∧ c' = .agg xs' ∧ SnapC hp I xs xs') : Snap hp I (.tup cs) (.tup cs')
  | ptr {id i off tot : Nat} {b : Blk} {row : List AV} {cs : List DV} (hI : I id) (hb : lk id hp = some b) (ht : b.es.length = tot) (hr : b.es[i]? = some row) (hc : CellsR hp I (row.drop off) cs) : Snap hp I (.ptr id i off tot) (.rop cs)
  | fnp {f : FuncId} {id i off tot : Nat} {b : Blk} {row : List AV} {cs : List DV} (hI : I id) (hb : lk id hp = some b) (ht : b.es.length = tot) (hr : b.es[i]? = some row) (hc : CellsR hp I (row.drop off) cs) : Snap hp I (.fn f [.ptr id i off tot]) (.fn f [.rop cs])

theorem snap_is {c : Ctx} {hp : Hp} {U U' : Nat → Prop} {σ σ' : Nat → Option Nat} {hp' : Hp} {w : World} {I : Nat → Prop} {v v' : AV} {x : Value} {S' : Nat → Prop} (hS : ∀ b, Sof c w σ hp b → S' b) (hS2 : ∀ id blk g, I id → lk id hp = some blk → σ id = some g → S' g) (hr : Rel c hp U σ w) (hs : Snap hp I v v') (h : AIs w (Sof c w σ hp) σ hp U v x) :
    AIs w S' σ' hp' U' v' x := by
  have one : ∀ {v v' : AV} {x : Value}, Snap1 hp I v v' → AIs w (Sof c w σ hp) σ hp U v x → AIs w S' σ' hp' U' v' x := by
    intro v v' x hs h
    rcases hs with ⟨rfl, hd⟩ | ⟨d, rfl, hd⟩
    · exact deep1_is hd hS h
    · exact .d (snapD_is hS hS2 hr hd h)
  have cells : ∀ {cs cs' : List AV} {xs : Array Value}, SnapC hp I cs cs' → cs.length = xs.size → (∀ (i : Nat) (x : Value), xs[i]? = some x → x.oneCell' = true) → (∀ (i : Nat) (c' : AV) (x : Value), cs[i]? = some c' → xs[i]? = some x → AIs w (Sof c w σ hp) σ hp U c' x) → AIs w S' σ' hp' U' (.agg cs') (.agg xs) := by
    intro cs cs' xs hs hl h1 h
    refine .agg cs' xs (by rw [hs.1, hl]) h1 fun i u x hu hx => ?_
    have hi : i < cs.length := by
      have := (List.getElem?_eq_some_iff.1 hu).1
      rw [hs.1] at this
      exact this
    exact one (hs.2 i _ u (List.getElem?_eq_getElem hi) hu) (h i _ x (List.getElem?_eq_getElem hi) hx)
  have pcase : ∀ {id i off tot : Nat} {b : Blk} {row : List AV} {cs : List DV} {x : Value}, I id → lk id hp = some b → b.es.length = tot → b.es[i]? = some row → CellsR hp I (row.drop off) cs → AIs w (Sof c w σ hp) σ hp U (.ptr id i off tot) x → AIs w S' σ' hp' U' (.rop cs) x := by
    intro id i off tot b row cs x hI hb ht hrow hcs h
    obtain ⟨g, ccs, hg, rfl, hheap, hone, hrl, hle, hcell⟩ := row_cells hr h hb hrow ht
    have key : ∀ (j : Nat) (y : DV), cs[j]? = some y → ∃ u, ccs[i * b.e + off + j]? = some u ∧ DIs w S' y u := by
      intro j y hy
      have hj : j < (row.drop off).length := by
        rw [hcs.len]
        exact (List.getElem?_eq_some_iff.1 hy).1
      have hy' : (row.drop off)[j]? = some (row.drop off)[j] := List.getElem?_eq_getElem hj
      have hy'' := hy'
      rw [List.getElem?_drop] at hy''
      obtain ⟨u, hu, hd⟩ := hcell (off + j) _ hy''
      exact ⟨u, by rw [Nat.add_assoc]; exact hu, snapD_is hS hS2 hr (hcs.at j _ y hy' hy) hd⟩
    refine .rop _ _ (fun j => ccs.getD (i * b.e + off + j) undef) (hS2 id b g hI hb hg) (fun j y hy => ?_) (fun j y hy => ?_)
    · obtain ⟨u, hu, _⟩ := key j y hy
      rw [add_mk, cell_of_row w _ _ ccs _ _ hheap, hu]
      simp [Array.getD_eq_getD_getElem?, hu]
    · obtain ⟨u, hu, hd⟩ := key j y hy
      simp only [Array.getD_eq_getD_getElem?, hu, Option.getD_some]
      exact hd
  cases hs with
  | one h1 => exact one h1 h
  | deep hd => exact deep_is hd hS h
  | agg hc =>
    cases h with
    | agg _ xs hl h1 h => exact cells hc hl h1 h
  | tup hl' hc =>
    rename_i cs cs'
    cases h with
    | tup _ xs hl h =>
      refine .tup cs' xs (by rw [hl', hl]) fun i u x hu hx => ?_
      have hi : i < cs.length := by
        have := (List.getElem?_eq_some_iff.1 hu).1
        rw [hl'] at this
        exact this
      have hx' := h i _ x (List.getElem?_eq_getElem hi) hx
      rcases hc i _ u (List.getElem?_eq_getElem hi) hu with h1 | ⟨ys, ys', e1, e2, h1⟩
      · exact one h1 hx'
      · rw [e1] at hx'
        subst e2
        cases hx' with
        | agg _ xs' hl2 h2 h3 => exact cells h1 hl2 h2 h3
  | ptr hI hb ht hrow hcs => exact pcase hI hb ht hrow hcs h
  | fnp hI hb ht hrow hcs =>
    cases h with
    | fn _ _ xs hl h =>
      refine .fn _ _ xs (by simpa using hl) fun i u x hu hx => ?_
      cases i with
      | succ i => simp at hu
      | zero =>
        simp only [List.getElem?_cons_zero, Option.some.injEq] at hu
        subst hu
        exact pcase hI hb ht hrow hcs (h 0 _ x rfl hx)

/-- The blocks of these ids are not the call's own any more. -/
def dropH (ids : List Nat) : Hp → Hp
  | [] => []
  | (m, b) :: t => if ids.contains m then dropH ids t else (m, b) :: dropH ids t

theorem lk_dropH (ids : List Nat) (i : Nat) : ∀ hp : Hp, lk i (dropH ids hp) = if ids.contains i = true then none else lk i hp
  | [] => by simp [dropH, lk]
  | (m, b) :: t => by
    have ih := lk_dropH ids i t
    simp only [dropH]
    by_cases hm : ids.contains m = true
    · rw [if_pos hm, ih]
      split
      · rfl
      · rename_i hi
        simp only [lk]
        rw [if_neg (fun e => hi (by rw [← e]; exact hm))]
    · rw [if_neg hm]
      simp only [lk, ih]
      by_cases e : m = i
      · subst e
        rw [if_pos rfl, if_neg hm]
        simp
      · rw [if_neg e]
        simp [e]

theorem rel_drop {c : Ctx} {hp : Hp} {U : Nat → Prop} {σ : Nat → Option Nat} {w : World} (ids : List Nat) (hr : Rel c hp U σ w) :
    Rel c (dropH ids hp) U σ w ∧ Step w (Sof c w σ hp) σ hp U w (Sof c w σ (dropH ids hp)) σ (dropH ids hp) U := by
  have hlk : ∀ i b, lk i (dropH ids hp) = some b → lk i hp = some b := by
    intro i b h
    rw [lk_dropH] at h
    split at h
    · cases h
    · exact h
  have hst : Step w (Sof c w σ hp) σ hp U w (Sof c w σ (dropH ids hp)) σ (dropH ids hp) U :=
    ⟨fun b h => ⟨⟨h.1.1, fun id blk g hk hg => h.1.2 id blk g (hlk _ _ hk) hg⟩, h.2⟩, fun _ _ => rfl, fun _ h => h, fun id b' _ h => ⟨b', hlk _ _ h, rfl, rfl, Nat.le_refl _, fun _ g hg => ⟨hg, fun _ h => h⟩⟩⟩
  refine ⟨⟨fun i j bi bj g hi hj => hr.inj i j bi bj g (hlk _ _ hi) (hlk _ _ hj), fun i b h => hr.lt i b (hlk _ _ h), fun i b h => ?_, fun i b g h => hr.mine i b g (hlk _ _ h), hr.os, hr.tape, hr.output, hr.size, hr.old⟩, hst⟩
  rcases hr.blk i b (hlk _ _ h) with k | ⟨g, k1, k2⟩
  · exact .inl k
  · exact .inr ⟨g, k1, k2.step hst rfl⟩

theorem dropH_nil : ∀ hp : Hp, dropH [] hp = hp
  | [] => rfl
  | (m, b) :: t => by simp [dropH, dropH_nil t]

theorem fv_app (fz fr : Fr) (n : Nat) : fv n (fz ++ fr) = match lk n fz with
    | some v => v
    | none => fv n fr := by
  induction fz with
  | nil => rfl
  | cons p r ih =>
    obtain ⟨m, v⟩ := p
    show fv n ((m, v) :: (r ++ fr)) = _
    rw [fv_cons, ih]
    simp only [lk]
    split <;> rfl

theorem lk_in {α : Type} {n : Nat} {v : α} : ∀ {l : List (Nat × α)}, lk n l = some v → (n, v) ∈ l
  | [], h => by simp [lk] at h
  | (m, u) :: t, h => by
    simp only [lk] at h
    split at h
    · rename_i hm
      injection h with h
      subst hm
      subst h
      exact List.mem_cons_self ..
    · exact List.mem_cons_of_mem _ (lk_in h)

/-- Own rows, given up for good: what named them is read. -/
theorem froz_sim {c : Ctx} {fr : Fr} {hp : Hp} {U : Nat → Prop} {a : Act} {w : World} (ids : List Nat) (fz : Fr) (hz : ∀ p, p ∈ fz → Snap hp (fun id => id ∈ ids) (fv p.1 fr) p.2)
    (hs : SimU c fr hp U a w) : SimU c (fz ++ fr) (dropH ids hp) U a w := by
  obtain ⟨q1, q2, σ, hr, hf, hh⟩ := hs
  obtain ⟨d1, d2⟩ := rel_drop ids hr
  refine ⟨q1, q2, σ, d1, fun n => ?_, hh.trans d2⟩
  rw [fv_app]
  cases hl : lk n fz with
  | none => exact (hf n).step d2
  | some v =>
    refine snap_is (fun b hb => d2.sub b hb) (fun id blk g hid hk hg => ⟨⟨blk_lt (hr.at hk hg), fun id' blk' g' hk' hg' e => ?_⟩, ?_⟩) hr (hz _ (lk_in hl)) (hf n)
    · subst e
      rw [lk_dropH] at hk'
      split at hk'
      · cases hk'
      · rename_i hn
        have := hr.inj id id' blk blk' g hk hk' hg hg'
        subst this
        exact hn (by simpa using hid)
    · rcases hr.mine id blk g hk hg with h | h
      · exact .inl (c.hM g h)
      · exact .inr h
end Go.Am
