/-
  AM, part 6c: slices that a literal makes, cut slices, append; all operations in one.
-/
import Derived.Test.YtnmnabagabejjaaGreatAmLit
namespace Go.Am
set_option linter.unusedVariables false

section
variable {P : Program} {c : Ctx} {K : AV → Hp → Prop} {fr : Fr} {hp : Hp} {U : Nat → Prop} {N : Nat} {σ : Nat → Option Nat} {w : World} {a : Act} {o : Oper} {S : Nat → Prop}

/-- Rows in an array of cells. -/
structure RIs (w : World) (S : Nat → Prop) (σ : Nat → Option Nat) (hp : Hp) (U : Nat → Prop) (sz : Nat) (rows : List (List AV)) (xs : Array Value) : Prop where
  len : rows.length * sz ≤ xs.size
  row : ∀ r, r ∈ rows → r.length = sz
  one : ∀ (i : Nat) (x : Value), xs[i]? = some x → x.oneCell' = true
  is : ∀ (i j : Nat) (r : List AV) (c : AV) (x : Value), rows[i]? = some r → r[j]? = some c → xs[i * sz + j]? = some x → AIs w S σ hp U c x

theorem row_in {sz i k j : Nat} (hj : j < sz) (h : i * sz ≤ k * sz + j ∧ k * sz + j < i * sz + sz) : i = k := by
  rcases Nat.lt_trichotomy i k with h1 | h1 | h1
  · have : (i + 1) * sz ≤ k * sz := Nat.mul_le_mul_right _ (by omega)
    grind
  · exact h1
  · have : (k + 1) * sz ≤ i * sz := Nat.mul_le_mul_right _ (by omega)
    grind

/-- The parts of a slice's literal. -/
theorem fillR_is {sz : Nat} (hz : sz ≠ 0) : ∀ (ps : List (Nat × AV)) (qs : List (Nat × Value)) (rows : List (List AV)) (cells : Array Value) (out : List (List AV)), ps.length = qs.length →
      (∀ (i : Nat) (p : Nat × AV) (q : Nat × Value), ps[i]? = some p → qs[i]? = some q → p.1 = q.1 ∧ AIs w S σ hp U p.2 q.2) → RIs w S σ hp U sz rows cells → fillR sz rows ps = some out →
      ∃ cells', Instr.fill (fun i => some (i * sz, sz)) cells qs = some cells' ∧ RIs w S σ hp U sz out cells' ∧ cells'.size = cells.size ∧ out.length = rows.length
  | [], [], rows, cells, out, _, _, hc, h => by
    simp only [fillR] at h
    injection h with h
    subst h
    exact ⟨cells, rfl, hc, rfl, rfl⟩
  | [], _ :: _, _, _, _, hl, _, _, _ => by simp at hl
  | _ :: _, [], _, _, _, hl, _, _, _ => by simp at hl
  | (i, v) :: ps, (k, x) :: qs, rows, cells, out, hl, hpq, hc, h => by
    obtain ⟨e, hv⟩ := hpq 0 (i, v) (k, x) rfl rfl
    simp only at e hv
    subst e
    simp only [fillR] at h
    split at h
    · rename_i vs hvs
      split at h
      · rename_i hfit
        obtain ⟨hvl, hi⟩ := hfit
        have hu := cells_of hv hvs
        have hul := hu.len
        have hfit2 : i * sz + sz ≤ cells.size := by
          have : (i + 1) * sz ≤ rows.length * sz := Nat.mul_le_mul_right _ (by omega)
          rw [Nat.add_mul, Nat.one_mul] at this
          have := hc.len
          omega
        have e2 : x.cells.zipIdx.foldl (fun cs (p : Value × Nat) => cs.setIfInBounds (i * sz + p.2) p.1) cells = (x.cells.toList.zipIdx 0).foldl (fun cs (p : Value × Nat) => cs.setIfInBounds (i * sz + p.2) p.1) cells := by
          rw [← Array.foldl_toList, Array.toList_zipIdx]
        have hn := fold_splice x.cells.toList 0 (i * sz) cells
        have hsz := fold_size (x.cells.toList.zipIdx 0) (i * sz) cells
        simp only [Nat.add_zero, Array.length_toList] at hn
        have hs : RIs w S σ hp U sz (rows.set i vs) (x.cells.zipIdx.foldl (fun cs (p : Value × Nat) => cs.setIfInBounds (i * sz + p.2) p.1) cells) := by
          rw [e2]
          refine ⟨by rw [hsz]; simpa using hc.len, fun r hr => ?_, fun m y hy => ?_, fun m j r c y hr hj hy => ?_⟩
          · rcases List.mem_or_eq_of_mem_set hr with h' | rfl
            · exact hc.row r h'
            · exact hvl
          · rw [hn] at hy
            split at hy
            · exact hu.one _ y (by simpa using hy)
            · exact hc.one m y hy
          · rw [hn] at hy
            rw [List.getElem?_set] at hr
            by_cases hm : i = m
            · subst hm
              simp only [if_true, hi] at hr
              injection hr with hr
              subst hr
              have hjl : j < vs.length := (List.getElem?_eq_some_iff.1 hj).1
              rw [if_pos (by omega), show i * sz + j - i * sz = j by omega] at hy
              exact hu.is j c y hj (by simpa using hy)
            · rw [if_neg hm] at hr
              have hjl : j < sz := by
                have := (List.getElem?_eq_some_iff.1 hj).1
                rw [hc.row r (List.mem_of_getElem? hr)] at this
                exact this
              rw [if_neg (fun h' => hm (row_in hjl ⟨h'.1, by omega⟩))] at hy
              exact hc.is m j r c y hr hj hy
        obtain ⟨cells', h1, h2, h3, h4⟩ := fillR_is hz ps qs _ _ out (by simpa using hl) (fun j p q h1 h2 => hpq (j + 1) p q (by simpa using h1) (by simpa using h2)) hs h
        refine ⟨cells', ?_, h2, by rw [h3, e2, hsz], by simpa using h4⟩
        simp only [Instr.fill]
        rw [if_neg (by simp; omega)]
        exact h1
      · cases h
    · cases h

/-- Zero elements, one behind the other. -/
theorem zero_rows {el : TypeId} {z : List AV} {v : Value} (hl : LIs w S σ hp U z v.cells) (hs : v.cells.size = P.cellsOf el) (hz : P.cellsOf el ≠ 0) (n : Nat) :
    RIs w S σ hp U (P.cellsOf el) (List.replicate n z) ((Array.range (n * P.cellsOf el)).map (v.cells[· % v.cells.size]!)) := by
  have hzl := hl.len
  have hget : ∀ m, m < n * P.cellsOf el → ((Array.range (n * P.cellsOf el)).map (v.cells[· % v.cells.size]!))[m]? = some (v.cells[m % P.cellsOf el]!) := by
    grind
  have hlt : ∀ m, m % P.cellsOf el < v.cells.size := fun m => by rw [hs]; exact Nat.mod_lt _ (by omega)
  refine ⟨by simp, fun r hr => ?_, fun i x hx => ?_, fun i j r c x hr hj hx => ?_⟩
  · grind
  · have hi : i < n * P.cellsOf el := by
      grind
    rw [hget i hi] at hx
    injection hx with hx
    subst hx
    exact hl.one (i % P.cellsOf el) _ (by simp [hlt i])
  · have hin : i < n := by
      grind
    have hrz : r = z := List.eq_of_mem_replicate (List.mem_of_getElem? hr)
    subst hrz
    have hj' : j < P.cellsOf el := by
      grind
    have hi : i * P.cellsOf el + j < n * P.cellsOf el := by
      grind
    rw [hget _ hi] at hx
    have hmod : (i * P.cellsOf el + j) % P.cellsOf el = j := by
      rw [Nat.add_comm, Nat.add_mul_mod_self_right]
      exact Nat.mod_eq_of_lt hj'
    rw [hmod] at hx
    injection hx with hx
    subst hx
    exact hl.is j c _ hj (by simp [show j < v.cells.size by omega])

/-- A new row of the call's own, as a slice. -/
theorem new_row (hr : Rel c hp U σ w) (hN : Free U N) {el : TypeId} {sz : Nat} {ccs : Array Value} {rows : List (List AV)} {cap : Nat} (h : RIs w (Sof c w σ hp) σ hp U sz rows ccs) (hcap : rows.length ≤ cap) (hfit : cap * sz ≤ ccs.size)
    (hK : K (.own N 0 rows.length rows.length) ((N, ⟨el, sz, rows⟩) :: hp)) :
    Good c K hp U N σ w (.slice (some ⟨w.heap.size, 0, none⟩) rows.length cap) (w.alloc (.cells ccs el)) := by
  obtain ⟨r1, r2⟩ := new_blk hr hN ccs ⟨el, sz, rows⟩ h.one h.row h.len h.is
  refine ⟨_, _, _, hK, r1, r2, .own _ _ _ _ _ _ unite_N hcap (fun h => by cases h) fun b hb => ?_⟩
  rw [lk_cons, if_pos rfl] at hb
  injection hb with hb
  subst hb
  exact ⟨Nat.le_refl _, fun _ => ⟨by omega, by omega, fun _ => ⟨w.heap.size, by simp, by simp, _, ⟨ccs, heap_alloc_new w _, rfl⟩, by simpa using hfit⟩⟩⟩

theorem s_buildSlice (hr : Rel c hp U σ w) (E : ∀ x, AIs w (Sof c w σ hp) σ hp U (ev fr x) (a.eval x)) (hN : Free U N) {t : TypeId} {len : Nat} {parts : Array (Nat × Operand)} (hop : o.op = .buildSlice t len parts) (h : opW P fr hp N (.buildSlice t len parts) K) :
    OpOk P c K hp U N σ w ((execOp a.eval o).run P w) := by
  simp only [opW] at h
  unfold buildSliceW at h
  split at h
  · rename_i el hk
    split at h
    · rename_i z hz
      obtain ⟨hbig, h⟩ := h
      obtain ⟨v, i, hi, hz', hs, hne, hzl, hl⟩ := zeroV (w := w) (S := Sof c w σ hp) (σ := σ) (hp := hp) (U := U) hz
      split at h
      · rename_i rows hrows
        have hlen : (parts.toList.map fun p => (p.1, ev fr p.2)).length = (parts.toList.map fun p => (p.1, a.eval p.2)).length := by simp
        obtain ⟨cells, h1, h2, h3, h4⟩ := fillR_is hne _ _ _ _ rows hlen (parts_is E parts) (zero_rows hl hs hne len) hrows
        have hrl : rows.length = len := by simpa using h4
        have hsz : cells.size = len * P.cellsOf el := by rw [h3]; simp
        have hpl : ∀ x : Array (Nat × Operand), (x.map fun p => (p.1, a.eval p.2)).toList = x.toList.map fun p => (p.1, a.eval p.2) := by intro x; simp
        have hzero : (if len * P.cellsOf el = 0 then pure #[] else (do pure (← zeroValue el).cells) : Sem (Array Value)).run P w = .ok (if len * P.cellsOf el = 0 then #[] else v.cells) w := by
          split
          · rfl
          · simp [run_zero hi hz']
        have hmap : ((Array.range (len * P.cellsOf el)).map ((if len * P.cellsOf el = 0 then #[] else v.cells)[· % (if len * P.cellsOf el = 0 then #[] else v.cells).size]!)) = (Array.range (len * P.cellsOf el)).map (v.cells[· % v.cells.size]!) := by
          grind
        have hb : (Instr.buildSlice t len (parts.map fun p => (p.1, a.eval p.2))).run P w = .ok (.slice (some ⟨w.heap.size, 0, none⟩) len len) (w.alloc (.cells cells el)) := by
          unfold Instr.buildSlice
          have hbig' : ¬ (len * P.cellsOf el > 2 ^ 24) := by omega
          simp only [Sem.run_bind, run_underlying (tyk_slice hk), Result.andThen_ok, run_sizeOf_ne hne]
          by_cases h0 : len * P.cellsOf el = 0
          · have he : ∀ f g : Nat → Value, (Array.range (len * P.cellsOf el)).map f = (Array.range (len * P.cellsOf el)).map g := by intro f g; rw [h0]; simp
            rw [he _ (fun _ => default)] at h1
            rw [if_neg hbig']
            simp only [Sem.run_bind, if_pos h0, Sem.run_pure, Result.andThen_ok, hpl]
            rw [he _ (fun _ => default), h1]
            simp [newRow]
          · simp only [if_neg hbig', Sem.run_bind, Sem.run_pure, Result.andThen_ok, if_neg h0, run_zero hi hz', hpl, h1]
            simp [newRow]
        have hop' : (execOp a.eval o) = (do pure (.value (← Instr.buildSlice t len (parts.map fun p => (p.1, a.eval p.2)))) : Sem Next) := by
          unfold execOp
          rw [hop]
        rw [hop']
        simp only [Sem.run_bind, hb, Result.andThen_ok, Sem.run_pure]
        rw [← hrl] at h ⊢
        exact new_row hr hN h2 (Nat.le_refl _) (by rw [hsz, hrl]; exact Nat.le_refl _) h
      · exact h.elim
    · exact h.elim
  · exact h.elim

/-- The elements of a slice that is read. -/
theorem rows_is (hr : Rel c hp U σ w) {sz : Nat} {v : AV} {x : Value} {xs : List (List AV)} (h : AIs w (Sof c w σ hp) σ hp U v x) (hx : rowsOf hp sz v = some xs) :
    ∃ A k, x = .slice A xs.length k ∧ ∃ us : Array Value, (Builtin.firstCells sz xs.length x).run P w = .ok us w ∧ us.size = xs.length * sz ∧ RIs w (Sof c w σ hp) σ hp U sz xs us ∧ (0 < xs.length → ∃ ad, A = some ad ∧ ∀ (m : Nat) (v : Value), us[m]? = some v → w.cell? (ad.add m) = some v) := by
  -- from cells one by one
  have go : ∀ A k (hpos : 0 < xs.length → ∃ ad, A = some ad ∧ ∀ (i j : Nat) (r : List AV) (y : AV), xs[i]? = some r → r[j]? = some y → ∃ u, w.cell? (ad.add (i * sz + j)) = some u ∧ u.oneCell' = true ∧ AIs w (Sof c w σ hp) σ hp U y u),
      (∀ r, r ∈ xs → r.length = sz) → ∃ us : Array Value, (Builtin.firstCells sz xs.length (.slice A xs.length k)).run P w = .ok us w ∧ us.size = xs.length * sz ∧ RIs w (Sof c w σ hp) σ hp U sz xs us ∧ (0 < xs.length → ∃ ad, A = some ad ∧ ∀ (m : Nat) (v : Value), us[m]? = some v → w.cell? (ad.add m) = some v) := by
    intro A k hpos hrow
    rcases Nat.eq_zero_or_pos xs.length with h0 | h0
    · have hx0 : xs = [] := List.eq_nil_of_length_eq_zero h0
      subst hx0
      refine ⟨#[], ?_, by simp, ⟨by simp, by simp, by simp, by simp⟩, by simp⟩
      cases A <;> simp [Builtin.firstCells, loadCells, loadCellsFrom]
    · obtain ⟨ad, rfl, hc⟩ := hpos h0
      have hall : ∀ m, m < xs.length * sz → ∃ u, w.cell? (ad.add m) = some u ∧ u.oneCell' = true := by
        intro m hm
        have hsz : 0 < sz := by
          grind
        have hi : m / sz < xs.length := Nat.div_lt_of_lt_mul (by rw [Nat.mul_comm]; exact hm)
        have hj : m % sz < sz := Nat.mod_lt _ hsz
        have h1 : xs[m / sz]? = some xs[m / sz] := List.getElem?_eq_getElem hi
        have h2 : m % sz < (xs[m / sz]).length := by rw [hrow _ (List.getElem_mem hi)]; exact hj
        obtain ⟨u, h3, h4, _⟩ := hc (m / sz) (m % sz) _ _ h1 (List.getElem?_eq_getElem h2)
        grind [Nat.mul_comm, Nat.div_add_mod]
      let f : Nat → Value := fun m => (w.cell? (ad.add m)).getD undef
      have hrun := run_loadCells (P := P) w ad (xs.length * sz) f (fun m hm => by
        obtain ⟨u, hu, _⟩ := hall m hm
        simp [f, hu])
      have hget : ∀ m, m < xs.length * sz → (((List.range (xs.length * sz)).map f).toArray)[m]? = some (f m) := by
        grind
      refine ⟨_, hrun, by simp, ⟨by simp, hrow, fun m y hy => ?_, fun i j r y u hi hj hu => ?_⟩, fun _ => ⟨ad, rfl, fun m v hv => ?_⟩⟩
      · have hm : m < xs.length * sz := by
          grind
        rw [hget m hm] at hy
        injection hy with hy
        subst hy
        obtain ⟨u, h1, h2⟩ := hall m hm
        simp [f, h1, h2]
      · obtain ⟨u', h1, _, h3⟩ := hc i j r y hi hj
        have hm : i * sz + j < xs.length * sz := by
          grind
        rw [hget _ hm] at hu
        injection hu with hu
        subst hu
        simp only [f, h1, Option.getD_some]
        exact h3
      · have hm : m < xs.length * sz := by
          grind
        rw [hget m hm] at hv
        injection hv with hv
        subst hv
        obtain ⟨u, h1, h2⟩ := hall m hm
        simp [f, h1]
  cases v with
  | nil =>
    simp only [rowsOf] at hx
    injection hx with hx
    subst hx
    cases h with
    | nil =>
      simp_all
  | d dv =>
    cases dv with
    | ro e es =>
      simp only [rowsOf] at hx
      split at hx
      · rename_i he
        injection hx with hx
        subst hx
        subst he
        cases h with
        | d h =>
          cases h with
          | ro _ _ A cap vs hc hel hA hv1 hd =>
            have hl : (es.map fun r => r.map AV.d).length = es.length := by simp
            refine ⟨A, cap, by rw [hl], ?_⟩
            have := go A cap (fun hpos => by
              rw [hl] at hpos
              obtain ⟨ad, hA', _⟩ := hA (es[0]'hpos) (List.getElem_mem hpos)
              refine ⟨ad, hA', fun i j r y hi hj => ?_⟩
              simp only [List.getElem?_map, Option.map_eq_some_iff] at hi
              obtain ⟨r', hr', rfl⟩ := hi
              simp only [List.getElem?_map, Option.map_eq_some_iff] at hj
              obtain ⟨y', hy', rfl⟩ := hj
              exact ⟨vs i j, hv1 ad hA' i j r' y' hr' hy', dis_one (hd i j r' y' hr' hy'), .d (hd i j r' y' hr' hy')⟩) (fun r hr' => by
              simp only [List.mem_map] at hr'
              obtain ⟨r', h1, rfl⟩ := hr'
              simpa using hel r' h1)
            grind
      · cases hx
    | _ => cases hx
  | own id i0 len tot =>
    simp only [rowsOf] at hx
    split at hx
    · rename_i b hb
      split at hx
      · rename_i hc0
        obtain ⟨ht, he⟩ := hc0
        injection hx with hx
        subst hx
        cases h with
        | own _ _ _ _ A cap hU hl hA0 h' =>
          obtain ⟨h1, h2⟩ := h' b hb
          obtain ⟨h3, h4, h5⟩ := h2 ht
          have hlen : ((b.es.drop i0).take len).length = len := by simp; omega
          have hel : ∀ i r, ((b.es.drop i0).take len)[i]? = some r → b.es[i0 + i]? = some r := by
            grind
          refine ⟨A, cap, by rw [hlen], ?_⟩
          have := go A cap (fun hpos => by
            rw [hlen] at hpos
            obtain ⟨g, hg, hA', _⟩ := h5 (by omega)
            obtain ⟨ccs, k1, k2, k3, k4, k5⟩ := hr.at hb hg
            refine ⟨_, hA', fun i j r y hi hj => ?_⟩
            have hi' := hel i r hi
            have hrl := k3 r (List.mem_of_getElem? hi')
            have hjl := (List.getElem?_eq_some_iff.1 hj).1
            have hil := (List.getElem?_eq_some_iff.1 hi').1
            have hlt : (i0 + i) * b.e + j < ccs.size := by
              have : (i0 + i + 1) * b.e ≤ b.es.length * b.e := Nat.mul_le_mul_right _ (by omega)
              grind
            refine ⟨ccs[(i0 + i) * b.e + j], ?_, k2 _ _ (Array.getElem?_eq_getElem hlt), k5 (i0 + i) j r y _ hi' hj (Array.getElem?_eq_getElem hlt)⟩
            rw [add_mk, cell_of_row w _ _ ccs _ _ k1, ← he, show i0 * b.e + (i * b.e + j) = (i0 + i) * b.e + j by rw [Nat.add_mul]; omega]
            exact Array.getElem?_eq_getElem hlt) (fun r hr' => by
            obtain ⟨i, hi⟩ := List.getElem?_of_mem hr'
            rw [← he]
            have hpos : 0 < len := by
              grind
            obtain ⟨g, hg, hA', _⟩ := h5 (by omega)
            obtain ⟨ccs, k1, k2, k3, k4, k5⟩ := hr.at hb hg
            exact k3 r (List.mem_of_getElem? (hel i r hi)))
          grind
      · cases hx
    · cases hx
  | sub id i off e len cap tot =>
    simp only [rowsOf] at hx
    split at hx
    · rename_i b hb
      split at hx
      · rename_i row hrow
        split at hx
        · rename_i hc0
          obtain ⟨ht, he⟩ := hc0
          injection hx with hx
          subst hx
          subst he
          cases h with
          | sub _ _ _ _ _ _ _ A hU hl hA0 h' =>
            obtain ⟨h1, h2⟩ := h' b hb
            obtain ⟨h3, h4, h5⟩ := h2 ht
            have hrl : 0 < len → row.length = b.e := fun hp => by
              obtain ⟨g, hg, _⟩ := h5 (by omega)
              obtain ⟨ccs, k1, k2, k3, k4, k5⟩ := hr.at hb hg
              grind
            have hke : ∀ k, k < len → off + k * e + e ≤ b.e := by
              intro k hk
              have h6 : (k + 1) * e ≤ len * e := Nat.mul_le_mul_right _ (by omega)
              have h7 : len * e ≤ cap * e := Nat.mul_le_mul_right _ hl
              grind
            have hlen : ((List.range len).map fun k => (row.drop (off + k * e)).take e).length = len := by simp
            have hel : ∀ k r, ((List.range len).map fun k => (row.drop (off + k * e)).take e)[k]? = some r → k < len ∧ r = (row.drop (off + k * e)).take e := by
              grind
            refine ⟨A, cap, by rw [hlen], ?_⟩
            have := go A cap (fun hpos => by
              rw [hlen] at hpos
              obtain ⟨g, hg, hA'⟩ := h5 (by omega)
              obtain ⟨ccs, k1, k2, k3, k4, k5⟩ := hr.at hb hg
              have hrl := hrl hpos
              refine ⟨_, hA', fun k j r y hk hj => ?_⟩
              obtain ⟨hk1, rfl⟩ := hel k r hk
              have hke' := hke k hk1
              have hje : j < e := by
                grind
              rw [List.getElem?_take, if_pos hje, List.getElem?_drop] at hj
              have hlt : i * b.e + (off + k * e + j) < ccs.size := by
                have : (i + 1) * b.e ≤ b.es.length * b.e := Nat.mul_le_mul_right _ (by omega)
                grind
              refine ⟨ccs[i * b.e + (off + k * e + j)], ?_, k2 _ _ (Array.getElem?_eq_getElem hlt), k5 i (off + k * e + j) row y _ hrow hj (Array.getElem?_eq_getElem hlt)⟩
              rw [add_mk, cell_of_row w _ _ ccs _ _ k1, show i * b.e + off + (k * e + j) = i * b.e + (off + k * e + j) by omega]
              exact Array.getElem?_eq_getElem hlt) (fun r hr' => by
              obtain ⟨k, hk⟩ := List.getElem?_of_mem hr'
              obtain ⟨hk1, rfl⟩ := hel k r hk
              have := hke k hk1
              have hrl := hrl (by omega)
              simp
              omega)
            grind
        · cases hx
      · cases hx
    · cases hx
  | _ => cases hx

theorem run_sliceBounds2 {isS : Bool} {len cap : Nat} {lo hi : Option Value} {l h : Int} (hlo : lo = none ∧ l = 0 ∨ ∃ k, lo = some (.int k l)) (hhi : hi = none ∧ h = len ∨ ∃ k, hi = some (.int k h)) (h0 : 0 ≤ l) (h1 : l ≤ h) (h2 : h ≤ cap) :
    (Instr.sliceBounds isS len cap lo hi none).run P w = .ok (l.toNat, h.toNat, cap) w := by
  unfold Instr.sliceBounds
  rcases hlo with ⟨rfl, rfl⟩ | ⟨k, rfl⟩ <;> rcases hhi with ⟨rfl, rfl⟩ | ⟨k', rfl⟩
  · simp
  · simp [Instr.sliceBound, asIntOf, show 0 ≤ h ∧ h ≤ cap by omega]
  · simp [Instr.sliceBound, asIntOf, show 0 ≤ l ∧ l ≤ (len : Int) by omega]
  · have : l ≤ max h 0 := by omega
    simp [Instr.sliceBound, asIntOf, show 0 ≤ h ∧ h ≤ cap by omega, h0, this]

theorem bnd_is {U : Nat → Prop} (E : ∀ x, AIs w S σ hp U (ev fr x) (a.eval x)) {d l : Int} {x : Option Operand} (h : bnd fr d x = some l) : x.map a.eval = none ∧ l = d ∨ ∃ k, x.map a.eval = some (.int k l) := by
  cases x with
  | none => simp only [bnd, Option.some.injEq] at h; exact .inl ⟨rfl, h.symm⟩
  | some x =>
    simp only [bnd] at h
    have hx := E x
    unfold AV.num at h
    split at h
    · rename_i k n he
      injection h with h
      subst h
      rw [he] at hx
      exact .inr ⟨k, by simp [is_int hx]⟩
    · cases h

theorem s_slice (hr : Rel c hp U σ w) (E : ∀ x, AIs w (Sof c w σ hp) σ hp U (ev fr x) (a.eval x)) {t : TypeId} {x : Operand} {lo hi : Option Operand} (hop : o.op = .slice t x lo hi none) (h : opW P fr hp N (.slice t x lo hi none) K) :
    OpOk P c K hp U N σ w ((execOp a.eval o).run P w) := by
  simp only [opW] at h
  have run : ∀ v, (Instr.sliceAt t (a.eval x) (lo.map a.eval) (hi.map a.eval) none).run P w = .ok v w → (execOp a.eval o).run P w = .ok (.value v) w := by
    intro v hv
    simp [execOp, hop, hv]
  have hx := E x
  generalize hxv : a.eval x = xv at hx run
  generalize hxa : ev fr x = xa at hx h
  generalize hlo : bnd fr 0 lo = blo at h
  generalize hhi : bnd fr (xa.topLen (tyk P t)) hi = bhi at h
  generalize hk : tyk P t = k at h hhi
  unfold sliceW at h
  split at h
  · -- nil
    rename_i el l hh
    obtain ⟨hz, rfl, rfl, h⟩ := h
    have hb := run_sliceBounds2 (P := P) (w := w) (isS := true) (len := 0) (cap := 0) (bnd_is E hlo) (bnd_is E hhi) (by omega) (by omega) (by omega)
    cases hx with
    | nil =>
      refine OpOk.val (run (.slice none 0 0) ?_) (Good.same hr h .nil)
      simp [Instr.sliceAt, Instr.slice, run_underlying (tyk_slice hk), hb, run_sizeOf_ne hz]
  · -- read-only
    rename_i e es el l hh
    obtain ⟨hz, he, h0, h1, h2, h⟩ := h
    cases hx with
    | d hx =>
      cases hx with
      | ro _ _ A cap vs hc hel hA hv1 hd =>
        have hb := run_sliceBounds2 (P := P) (w := w) (isS := true) (len := es.length) (cap := cap) (bnd_is E hlo) (bnd_is E hhi) h0 h1 (by omega)
        refine OpOk.val (run (.slice (if cap = l.toNat then A else A.map (·.add (l.toNat * P.cellsOf el))) (hh.toNat - l.toNat) (cap - l.toNat)) ?_) (Good.same hr h (.d ?_))
        · simp [Instr.sliceAt, Instr.slice, run_underlying (tyk_slice hk), hb, run_sizeOf_ne hz]
        · have hlen : ((es.take hh.toNat).drop l.toNat).length = hh.toNat - l.toNat := by simp; omega
          have hel' : ∀ (i : Nat) (r : List DV), ((es.take hh.toNat).drop l.toNat)[i]? = some r → es[l.toNat + i]? = some r := by
            grind
          have hne : ∀ (i : Nat) (r : List DV), ((es.take hh.toNat).drop l.toNat)[i]? = some r → cap ≠ l.toNat := by
            grind
          rw [← hlen]
          refine .ro e _ _ _ (fun i j => vs (l.toNat + i) j) (by omega) (fun r hr' => ?_) (fun r hr' => ?_) (fun ad hAd i j r y hi hj => ?_) (fun i j r y (hi : ((es.take hh.toNat).drop l.toNat)[i]? = some r) hj => hd _ j r y (hel' i r hi) hj)
          · grind
          · obtain ⟨i, hi⟩ := List.getElem?_of_mem hr'
            obtain ⟨ad, k1, k2⟩ := hA r (List.mem_of_getElem? (hel' i r hi))
            rw [if_neg (hne i r hi), k1]
            simp_all [add_block]
          · rw [if_neg (hne i r hi)] at hAd
            obtain ⟨ad', k1, rfl⟩ := Option.map_eq_some_iff.1 hAd
            grind [add_add, Nat.add_mul]
  · -- own
    rename_i id i0 len tot el l hh
    split at h
    · rename_i b hb'
      obtain ⟨hz, he, h0, h1, h2, h⟩ := h
      cases hx with
      | own _ _ _ _ A cap hU hl hA0 h' =>
        have hb := run_sliceBounds2 (P := P) (w := w) (isS := true) (len := len) (cap := cap) (bnd_is E hlo) (bnd_is E hhi) h0 h1 (by omega)
        refine OpOk.val (run (.slice (if cap = l.toNat then A else A.map (·.add (l.toNat * P.cellsOf el))) (hh.toNat - l.toNat) (cap - l.toNat)) ?_) (Good.same hr h ?_)
        · simp [Instr.sliceAt, Instr.slice, run_underlying (tyk_slice hk), hb, run_sizeOf_ne hz]
        · refine .own _ _ _ _ _ _ hU (by omega) (fun hA => ?_) fun b1 hb1 => ?_
          · grind [Option.map_eq_none_iff]
          · rw [hb'] at hb1
            injection hb1 with hb1
            subst hb1
            obtain ⟨k1, k2⟩ := h' b hb'
            refine ⟨k1, fun ht => ?_⟩
            obtain ⟨k3, k4, k5⟩ := k2 ht
            refine ⟨by omega, by omega, fun hc => ?_⟩
            obtain ⟨g, hg, hA', n, k6, k7⟩ := k5 (by omega)
            refine ⟨g, hg, ?_, n, k6, by rw [show i0 + l.toNat + (cap - l.toNat) = i0 + cap by omega]; exact k7⟩
            grind [add_mk, Nat.add_mul]
    · exact h.elim
  · -- sub
    rename_i id i off e len cap tot el l hh
    obtain ⟨hz, he, h0, h1, h2, h⟩ := h
    cases hx with
    | sub _ _ _ _ _ _ _ A hU hl hA0 h' =>
      have hb := run_sliceBounds2 (P := P) (w := w) (isS := true) (len := len) (cap := cap) (bnd_is E hlo) (bnd_is E hhi) h0 h1 (by omega)
      refine OpOk.val (run (.slice (if cap = l.toNat then A else A.map (·.add (l.toNat * P.cellsOf el))) (hh.toNat - l.toNat) (cap - l.toNat)) ?_) (Good.same hr h ?_)
      · simp [Instr.sliceAt, Instr.slice, run_underlying (tyk_slice hk), hb, run_sizeOf_ne hz]
      · refine .sub _ _ _ _ _ _ _ _ hU (by omega) (fun hA => ?_) fun b1 hb1 => ?_
        · grind [Option.map_eq_none_iff]
        · obtain ⟨k1, k2⟩ := h' b1 hb1
          refine ⟨k1, fun ht => ?_⟩
          obtain ⟨k3, k4, k5⟩ := k2 ht
          have hle : off + l.toNat * e + (cap - l.toNat) * e = off + cap * e := by
            rw [Nat.add_assoc, ← Nat.add_mul, show l.toNat + (cap - l.toNat) = cap by omega]
          refine ⟨k3, by omega, fun hc => ?_⟩
          obtain ⟨g, hg, hA'⟩ := k5 (by omega)
          grind [add_mk, Nat.add_assoc]
  · -- an array
    rename_i id i off tot n el l hh
    split at h
    · rename_i b hb'
      obtain ⟨hz, hfit, hi', h0, h1, h2, h⟩ := h
      cases hx with
      | ptr _ _ _ _ ad hU h' =>
        have hb := run_sliceBounds2 (P := P) (w := w) (isS := false) (len := n) (cap := n) (bnd_is E hlo) (bnd_is E hhi) h0 h1 (by omega)
        refine OpOk.val (run (.slice (some (if n = l.toNat then ad else ad.add (l.toNat * P.cellsOf el))) (hh.toNat - l.toNat) (n - l.toNat)) ?_) (Good.same hr h ?_)
        · simp [Instr.sliceAt, Instr.sureAddr, run_underlying (tyk_arr hk), hb, run_sizeOf_ne hz]
        · refine .sub _ _ _ _ _ _ _ _ hU (by omega) (fun hA => by cases hA) fun b1 hb1 => ?_
          rw [hb'] at hb1
          injection hb1 with hb1
          subst hb1
          obtain ⟨k1, k2⟩ := h' b hb'
          refine ⟨k1, fun ht => ?_⟩
          obtain ⟨g, hg, hA'⟩ := k2 ht
          have hle : off + l.toNat * P.cellsOf el + (n - l.toNat) * P.cellsOf el = off + n * P.cellsOf el := by
            rw [Nat.add_assoc, ← Nat.add_mul, show l.toNat + (n - l.toNat) = n by omega]
          grind [add_mk, Nat.add_assoc]
    · exact h.elim
  · -- an array that is read-only
    rename_i cs n el l hh
    obtain ⟨hz, hfit, h0, h1, h2, h⟩ := h
    cases hx with
    | rop _ ad vs hS hv hd =>
      have hb := run_sliceBounds2 (P := P) (w := w) (isS := false) (len := n) (cap := n) (bnd_is E hlo) (bnd_is E hhi) h0 h1 (by omega)
      refine OpOk.val (run (.slice (some (if n = l.toNat then ad else ad.add (l.toNat * P.cellsOf el))) (hh.toNat - l.toNat) (n - l.toNat)) ?_) (Good.same hr h (.d ?_))
      · simp [Instr.sliceAt, Instr.sureAddr, run_underlying (tyk_arr hk), hb, run_sizeOf_ne (by omega : P.cellsOf el ≠ 0)]
      · have hlen : (((cs.take hh.toNat).drop l.toNat).map fun c => [c]).length = hh.toNat - l.toNat := by simp; omega
        have hel' : ∀ (i : Nat) (r : List DV), (((cs.take hh.toNat).drop l.toNat).map fun c => [c])[i]? = some r → i < hh.toNat - l.toNat ∧ ∃ c, cs[l.toNat + i]? = some c ∧ r = [c] := by
          grind
        rw [← hlen]
        refine .ro 1 _ _ _ (fun i _ => vs (l.toNat + i)) (by omega) (fun r hr' => ?_) (fun r hr' => ?_) (fun ad' hAd i j r y hi hj => ?_) (fun i j r y hi hj => ?_)
        · grind
        · grind [List.getElem?_of_mem, add_block]
        · obtain ⟨h3, c, h4, rfl⟩ := hel' i r hi
          rw [if_neg (by omega)] at hAd
          injection hAd with hAd
          subst hAd
          cases j with
          | succ j => simp at hj
          | zero =>
            simp_all [Option.some.injEq, add_add]
        grind
  · -- a string
    rename_i bs l hh
    obtain ⟨h0, h1, h2, h⟩ := h
    cases hx with
    | d hx =>
      cases hx with
      | str s =>
        have hl : (s.data.toList.map fun c => (c.toNat : Int)).length = s.size := by simp
        rw [hl] at h2
        have hhi' := bnd_is E hhi
        simp only [AV.topLen, hl] at hhi'
        have hb := run_sliceBounds2 (P := P) (w := w) (isS := false) (len := s.size) (cap := s.size) (bnd_is E hlo) hhi' h0 h1 (by omega)
        refine OpOk.val (run (.string (s.extract l.toNat hh.toNat)) ?_) (Good.same hr h (.d ?_))
        · simp [Instr.sliceAt, Instr.slice, run_underlying (tyk_str hk), hb]
        · have e : ((s.data.toList.map fun c => (c.toNat : Int)).take hh.toNat).drop l.toNat = (s.extract l.toNat hh.toNat).data.toList.map fun c => (c.toNat : Int) := by
            simp_all [Array.toList_extract, List.extract_eq_take_drop, List.map_take, List.map_drop, List.drop_take]
          rw [e]
          exact .str _
  · exact h.elim
end
end Go.Am
