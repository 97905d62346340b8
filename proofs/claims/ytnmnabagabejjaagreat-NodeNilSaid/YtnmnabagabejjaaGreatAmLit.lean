/-
  AM, part 6b: literals, slices of slices, append, comparisons with nil, bytes as a string.
-/
import Derived.Test.YtnmnabagabejjaaGreatAmMem
namespace Go.Am
set_option linter.unusedVariables false

section
variable {P : Program} {c : Ctx} {K : AV → Hp → Prop} {fr : Fr} {hp : Hp} {U : Nat → Prop} {N : Nat} {σ : Nat → Option Nat} {w : World} {a : Act} {o : Oper} {S : Nat → Prop}

/-- Cells in an array, abstract ones beside them. -/
structure LIs (w : World) (S : Nat → Prop) (σ : Nat → Option Nat) (hp : Hp) (U : Nat → Prop) (cs : List AV) (xs : Array Value) : Prop where
  len : cs.length = xs.size
  one : ∀ (i : Nat) (x : Value), xs[i]? = some x → x.oneCell' = true
  is : ∀ (i : Nat) (c : AV) (x : Value), cs[i]? = some c → xs[i]? = some x → AIs w S σ hp U c x

theorem cells_of {v : AV} {x : Value} {vs : List AV} (h : AIs w S σ hp U v x) (hv : v.cellsO = some vs) : LIs w S σ hp U vs x.cells := by
  have one : ∀ (v : AV) (x : Value), AIs w S σ hp U v x → v ≠ .any → (∀ vs, v ≠ .tup vs) → (∀ cs, v ≠ .agg cs) → LIs w S σ hp U [v] x.cells := by
    intro v x h h1 h2 h3
    obtain ⟨k1, k2⟩ := one_of h h1 h2 h3
    rw [k2]
    refine ⟨rfl, fun i y hy => ?_, fun i c y hc hy => ?_⟩
    · grind
    grind
  cases v with
  | agg cs =>
    simp only [AV.cellsO] at hv
    injection hv with hv
    subst hv
    cases h with
    | agg _ xs hl h1 h => exact ⟨hl, h1, h⟩
  | any => cases hv
  | tup _ => cases hv
  | _ =>
    grind [AV.cellsO]

/-- A part of a literal, laid cell by cell. -/
theorem fold_splice : ∀ (vs : List Value) (k off : Nat) (cells : Array Value) (j : Nat),
    ((vs.zipIdx k).foldl (fun cs (p : Value × Nat) => cs.setIfInBounds (off + p.2) p.1) cells)[j]? =
      if off + k ≤ j ∧ j < off + k + vs.length ∧ j < cells.size then vs[j - (off + k)]? else cells[j]?
  | [], k, off, cells, j => by
    simp only [List.zipIdx_nil, List.foldl_nil, List.length_nil, Nat.add_zero]
    rw [if_neg (by omega)]
  | v :: r, k, off, cells, j => by
    simp only [List.zipIdx_cons, List.foldl_cons]
    rw [fold_splice r (k + 1) off (cells.setIfInBounds (off + k) v) j]
    simp only [Array.size_setIfInBounds, List.length_cons]
    by_cases h1 : j = off + k
    · subst h1
      rw [if_neg (by omega)]
      by_cases h2 : off + k < cells.size
      · rw [if_pos (by omega)]
        simp [h2]
      · rw [if_neg (by omega)]
        simp [Nat.le_of_not_lt h2]
    · by_cases h2 : off + (k + 1) ≤ j ∧ j < off + (k + 1) + r.length ∧ j < cells.size
      · rw [if_pos h2, if_pos (by omega), show j - (off + k) = (j - (off + (k + 1))) + 1 by omega, List.getElem?_cons_succ]
      · rw [if_neg h2, if_neg (by omega), Array.getElem?_setIfInBounds, if_neg (by omega)]

theorem fold_size : ∀ (vs : List (Value × Nat)) (off : Nat) (cells : Array Value), (vs.foldl (fun cs (p : Value × Nat) => cs.setIfInBounds (off + p.2) p.1) cells).size = cells.size
  | [], _, _ => rfl
  | p :: r, off, cells => by simp only [List.foldl_cons]; rw [fold_size r off]; simp

theorem splice_is {cs vs : List AV} {cells us : Array Value} {off : Nat} (h : LIs w S σ hp U cs cells) (hu : LIs w S σ hp U vs us) (hfit : off + vs.length ≤ cs.length) :
    LIs w S σ hp U (cs.take off ++ (vs ++ cs.drop (off + vs.length))) (us.zipIdx.foldl (fun cs (p : Value × Nat) => cs.setIfInBounds (off + p.2) p.1) cells) := by
  have e : us.zipIdx.foldl (fun cs (p : Value × Nat) => cs.setIfInBounds (off + p.2) p.1) cells = (us.toList.zipIdx 0).foldl (fun cs (p : Value × Nat) => cs.setIfInBounds (off + p.2) p.1) cells := by
    rw [← Array.foldl_toList, Array.toList_zipIdx]
  rw [e]
  have hn := fold_splice us.toList 0 off cells
  have hsz := fold_size (us.toList.zipIdx 0) off cells
  have hul : us.toList.length = vs.length := by simp [hu.len]
  have hcl := h.len
  simp only [Nat.add_zero, hul] at hn
  have hl : ∀ j, (cs.take off ++ (vs ++ cs.drop (off + vs.length)))[j]? = if off ≤ j ∧ j < off + vs.length then vs[j - off]? else cs[j]? := by
    grind
  refine ⟨by rw [hsz]; simp; omega, fun i x hx => ?_, fun i c x hc hx => ?_⟩
  · rw [hn] at hx
    split at hx
    · exact hu.one _ x (by simpa using hx)
    · exact h.one i x hx
  · rw [hl] at hc
    rw [hn] at hx
    by_cases h1 : off ≤ i ∧ i < off + vs.length
    · rw [if_pos h1] at hc
      rw [if_pos (by omega)] at hx
      exact hu.is _ c x hc (by simpa using hx)
    · rw [if_neg h1] at hc
      rw [if_neg (by omega)] at hx
      exact h.is i c x hc hx

/-- A literal's parts. -/
theorem fill_is {place placeC : Nat → Option (Nat × Nat)} (hp' : ∀ i p, place i = some p → placeC i = some p) :
    ∀ (ps : List (Nat × AV)) (qs : List (Nat × Value)) (cs : List AV) (cells : Array Value) (out : List AV), ps.length = qs.length →
      (∀ (i : Nat) (p : Nat × AV) (q : Nat × Value), ps[i]? = some p → qs[i]? = some q → p.1 = q.1 ∧ AIs w S σ hp U p.2 q.2) → LIs w S σ hp U cs cells → fillA place cs ps = some out →
      ∃ cells', Instr.fill placeC cells qs = some cells' ∧ LIs w S σ hp U out cells'
  | [], [], cs, cells, out, _, _, hc, h => by
    simp only [fillA] at h
    injection h with h
    subst h
    exact ⟨cells, rfl, hc⟩
  | [], _ :: _, _, _, _, hl, _, _, _ => by simp at hl
  | _ :: _, [], _, _, _, hl, _, _, _ => by simp at hl
  | (i, v) :: ps, (k, x) :: qs, cs, cells, out, hl, hpq, hc, h => by
    obtain ⟨e, hv⟩ := hpq 0 (i, v) (k, x) rfl rfl
    simp only at e hv
    subst e
    simp only [fillA] at h
    split at h
    · rename_i off size vs hpl hvs
      split at h
      · rename_i hfit
        have hu := cells_of hv hvs
        have hs := splice_is (off := off) hc hu (by omega)
        rw [hfit.1] at hs
        obtain ⟨cells', h1, h2⟩ := fill_is hp' ps qs _ _ out (by simpa using hl) (fun j p q h1 h2 => hpq (j + 1) p q (by simpa using h1) (by simpa using h2)) hs h
        refine ⟨cells', ?_, h2⟩
        have hul := hu.len
        have hcl := hc.len
        simp only [Instr.fill, hp' _ _ hpl]
        rw [if_neg (by simp; omega)]
        exact h1
      · cases h
    · cases h

theorem zeroV {t : TypeId} {z : List AV} (h : tzO P t = some z) : ∃ v i, P.info? t = some i ∧ i.zero = some v ∧ v.cells.size = P.cellsOf t ∧ P.cellsOf t ≠ 0 ∧ z.length = P.cellsOf t ∧ LIs w S σ hp U z v.cells := by
  unfold tzO at h
  split at h
  · rename_i v hv
    split at h
    · rename_i hc
      injection h with h
      subst h
      cases hi : P.info? t with
      | none => simp [hi] at hv
      | some i =>
        refine ⟨v, i, rfl, by simpa [hi] using hv, hc.2.2, by omega, by simp [hc.2.2], by simp, fun k x hx => ?_, fun k c x hc' hx => ?_⟩
        · grind
        grind [Option.some.injEq, ofV1_is]
    · cases h
  · cases h

theorem run_zero {t : TypeId} {v : Value} {i : TypeInfo} (hi : P.info? t = some i) (hz : i.zero = some v) : (zeroValue t).run P w = .ok v w := by
  simp [zeroValue, typeInfo, hi, hz]

theorem s_alloc (hr : Rel c hp U σ w) (hN : Free U N) {t : TypeId} (hop : o.op = .alloc t) (h : opW P fr hp N (.alloc t) K) :
    OpOk P c K hp U N σ w ((execOp a.eval o).run P w) := by
  simp only [opW] at h
  split at h
  · rename_i cs hcs
    obtain ⟨v, i, hi, hz, _, _, _, hl⟩ := zeroV (w := w) (S := Sof c w σ hp) (σ := σ) (hp := hp) (U := U) hcs
    have hrun : (execOp a.eval o).run P w = .ok (.value (.pointer (some ⟨w.heap.size, 0, none⟩))) (w.alloc (.cells v.cells t)) := by
      simp [execOp, hop, Instr.alloc, run_zero hi hz, newVar, newRow]
    rw [hrun]
    exact new_one hr hN hl.len hl.one hl.is h
  · exact h.elim

theorem parts_is (E : ∀ x, AIs w S σ hp U (ev fr x) (a.eval x)) (parts : Array (Nat × Operand)) : ∀ (i : Nat) (p : Nat × AV) (q : Nat × Value), (parts.toList.map fun p => (p.1, ev fr p.2))[i]? = some p → (parts.toList.map fun p => (p.1, a.eval p.2))[i]? = some q → p.1 = q.1 ∧ AIs w S σ hp U p.2 q.2 := by
  grind

theorem tz_is {t : TypeId} {v : Value} (hz : (P.info? t).bind (·.zero) = some v) (h1 : v.cells.all Value.oneCell' = true) : LIs w S σ hp U (tz P t) v.cells := by
  unfold tz
  rw [hz]
  refine ⟨by simp, fun k x hx => ?_, fun k c x hc' hx => ?_⟩
  · grind
  grind [Option.some.injEq, ofV1_is]

theorem mapM_sizes (F : Array Field) (h : ∀ f ∈ F.toList, P.cellsOf f.type ≠ 0) : (F.mapM fun f => (do pure (f.offset, ← sizeOf f.type) : Sem (Nat × Nat))).run P w = .ok (F.map fun f => (f.offset, P.cellsOf f.type)) w := by
  have key : ∀ (l : List Field) (acc : List (Nat × Nat)), (∀ f ∈ l, P.cellsOf f.type ≠ 0) → ((l.mapM fun f => (do pure (f.offset, ← sizeOf f.type) : Sem (Nat × Nat)))).run P w = .ok (l.map fun f => (f.offset, P.cellsOf f.type)) w := by
    intro l
    induction l with
    | nil => intro acc _; rfl
    | cons f r ih =>
      simp_all [run_sizeOf_ne, List.mapM_cons, List.map_cons]
  have := key F.toList [] h
  rw [Array.mapM_eq_mapM_toList]
  simp only [Sem.run_map, this, Result.andThen_ok]
  congr 1
  apply Array.ext'
  simp

theorem s_build (hr : Rel c hp U σ w) (E : ∀ x, AIs w (Sof c w σ hp) σ hp U (ev fr x) (a.eval x)) {t : TypeId} {parts : Array (Nat × Operand)} (hop : o.op = .build t parts) (h : opW P fr hp N (.build t parts) K) :
    OpOk P c K hp U N σ w ((execOp a.eval o).run P w) := by
  simp only [opW] at h
  split at h
  · rename_i z hz
    obtain ⟨v, i, hi, hz', _, _, _, hl⟩ := zeroV (w := w) (S := Sof c w σ hp) (σ := σ) (hp := hp) (U := U) hz
    have hlen : (parts.toList.map fun p => (p.1, ev fr p.2)).length = (parts.toList.map fun p => (p.1, a.eval p.2)).length := by simp
    have hpl : ∀ x : Array (Nat × Operand), (x.map fun p => (p.1, a.eval p.2)).toList = x.toList.map fun p => (p.1, a.eval p.2) := by intro x; simp
    unfold buildW at h
    split at h
    · rename_i fs hk
      obtain ⟨hne, h⟩ := h
      obtain ⟨F, hu, hfs⟩ := tyk_struct hk
      split at h
      · rename_i cs hcs
        obtain ⟨cells, h1, h2⟩ := fill_is (placeC := fun k => (F.map fun f => (f.offset, P.cellsOf f.type))[k]?) (fun k p hp => by
          unfold structPlace at hp
          rw [hfs] at hp
          simp only [List.getElem?_map, Array.getElem?_toList, Option.map_map, Option.map_eq_some_iff] at hp
          obtain ⟨f, hf, rfl⟩ := hp
          simp [hf]) _ _ _ _ cs hlen (parts_is E parts) hl hcs
        refine OpOk.val (x := .agg cells) ?_ (Good.same hr h (.agg _ _ h2.len h2.one h2.is))
        have hm := mapM_sizes (P := P) (w := w) F (fun f hf => hne (f.offset, f.type) (by rw [hfs]; simp only [List.mem_map]; exact ⟨f, hf, rfl⟩))
        have hb : (Instr.build t (parts.map fun p => (p.1, a.eval p.2))).run P w = .ok (.agg cells) w := by
          unfold Instr.build
          simp only [Sem.run_bind, run_zero hi hz', Result.andThen_ok, run_underlying hu, hm, hpl, h1]
          rfl
        have hop' : (execOp a.eval o) = (do pure (.value (← Instr.build t (parts.map fun p => (p.1, a.eval p.2)))) : Sem Next) := by
          unfold execOp
          rw [hop]
        simp_all
      · exact h.elim
    · rename_i n el hk
      obtain ⟨hne, h⟩ := h
      have hu := tyk_arr hk
      split at h
      · rename_i cs hcs
        obtain ⟨cells, h1, h2⟩ := fill_is (placeC := fun k => some (k * P.cellsOf el, P.cellsOf el)) (fun k p hp => hp) _ _ _ _ cs hlen (parts_is E parts) hl hcs
        refine OpOk.val (x := .agg cells) ?_ (Good.same hr h (.agg _ _ h2.len h2.one h2.is))
        have hb : (Instr.build t (parts.map fun p => (p.1, a.eval p.2))).run P w = .ok (.agg cells) w := by
          unfold Instr.build
          simp only [Sem.run_bind, run_zero hi hz', Result.andThen_ok, run_underlying hu, run_sizeOf_ne hne, hpl, h1]
          rfl
        have hop' : (execOp a.eval o) = (do pure (.value (← Instr.build t (parts.map fun p => (p.1, a.eval p.2)))) : Sem Next) := by
          unfold execOp
          rw [hop]
        simp_all
      · exact h.elim
    · exact h.elim
  · exact h.elim
end
end Go.Am
