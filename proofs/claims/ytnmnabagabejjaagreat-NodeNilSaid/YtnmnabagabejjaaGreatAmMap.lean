/-
  AM, part 6e: maps of the call's own, keyed by rows of integers; their elements are truths.
-/
import Derived.Test.YtnmnabagabejjaaGreatAmBig
namespace Go.Am
set_option linter.unusedVariables false

section
variable {P : Program} {c : Ctx} {K : AV → Hp → Prop} {fr : Fr} {hp : Hp} {U : Nat → Prop} {N : Nat} {σ : Nat → Option Nat} {w : World} {a : Act} {o : Oper}

theorem lk_mem0 {α : Type} {n : Nat} {v : α} : ∀ {l : List (Nat × α)}, lk n l = some v → (n, v) ∈ l
  | [], h => by cases h
  | (m, u) :: t, h => by
    simp only [lk] at h
    split at h
    · rename_i e; injection h with h; subst e; subst h; exact List.mem_cons_self ..
    · exact List.mem_cons_of_mem _ (lk_mem0 h)

theorem keyR_inj : ∀ {u v : List (IntKind × Int)}, keyR u = keyR v → u = v
  | [], [], _ => rfl
  | [], _ :: _, h => by simp [keyR] at h
  | _ :: _, [], h => by simp [keyR] at h
  | (k, n) :: u, (k', n') :: v, h => by
    simp only [keyR, List.map_cons, List.cons.injEq, AV.d.injEq, DV.int.injEq] at h
    obtain ⟨⟨rfl, rfl⟩, h⟩ := h
    rw [keyR_inj (u := u) (v := v) h]
theorem keyV_inj {u v : List (IntKind × Int)} (h : keyV u = keyV v) : u = v := by
  have h' : u.map (fun p => Value.int p.1 p.2) = v.map (fun p => Value.int p.1 p.2) := by simpa [keyV] using h
  clear h
  have h := h'
  clear h'
  induction u generalizing v with
  | nil => cases v with
    | nil => rfl
    | cons => simp at h
  | cons p u ih =>
    cases v with
    | nil => simp at h
    | cons q v =>
      obtain ⟨k, n⟩ := p
      obtain ⟨k', n'⟩ := q
      simp only [List.map_cons, List.cons.injEq, Value.int.injEq] at h
      obtain ⟨⟨rfl, rfl⟩, h⟩ := h
      rw [ih h]
theorem mapR_inj {a b : List (List (IntKind × Int))} (h : mapR a = mapR b) : a = b := by
  simp only [mapR, List.cons.injEq, true_and] at h
  induction a generalizing b with
  | nil => cases b with
    | nil => rfl
    | cons => simp at h
  | cons x a ih =>
    cases b with
    | nil => simp at h
    | cons y b =>
      simp only [List.map_cons, List.cons.injEq] at h
      rw [keyR_inj h.1, ih h.2]

theorem key_is {S : Nat → Prop} {u : List (IntKind × Int)} {v : Value} (h : AIs w S σ hp U (.agg (keyR u)) v) : v = keyV u := by
  cases h with
  | agg _ xs hl h1 h2 =>
    unfold keyV
    congr 1
    apply Array.ext'
    rw [List.toList_toArray]
    refine List.ext_getElem? fun i => ?_
    rw [List.getElem?_map]
    cases hi : u[i]? with
    | none =>
      have : xs.size ≤ i := by
        have := List.getElem?_eq_none_iff.1 hi
        simp only [keyR, List.length_map] at hl
        omega
      simp [this]
    | some p =>
      have hlt : i < xs.size := by
        have := (List.getElem?_eq_some_iff.1 hi).1
        simp only [keyR, List.length_map] at hl
        omega
      have hx : xs[i]? = some xs[i] := Array.getElem?_eq_getElem hlt
      have := is_int (h2 i (.d (.int p.1 p.2)) xs[i] (by simp [keyR, hi]) hx)
      rw [Array.getElem?_toList, hx, this]
      rfl

/-- What a map's id names. -/
theorem map_at (hr : Rel c hp U σ w) {id : Nat} {b : Blk} {ks : List (List (IntKind × Int))} {v : Value} (h : AIs w (Sof c w σ hp) σ hp U (.mp id) v) (hb : lk id hp = some b) (he : b.e = 0) (hes : b.es = mapR ks) :
    ∃ ms clock, v = .map (some b.ty) ∧ σ id = none ∧ c.w0.heap.size ≤ b.ty ∧ w.heap[b.ty]? = some (.map ms clock) ∧
      (∀ m ∈ ms.toList, m.val = .bool true ∧ ∃ u ∈ ks, m.key = keyV u) ∧ ∀ u ∈ ks, ∃ m ∈ ms.toList, m.key = keyV u := by
  cases h with
  | mp _ g hN h =>
    have hg := h b hb
    subst hg
    rcases hr.blk id b hb with ⟨h0, h1 | ⟨_, hn, ks', ms, clock, k1, k2, k3, k4⟩⟩ | ⟨g, _, ccs, _, _, k3, _⟩
    · rw [hes] at h1; simp [mapR] at h1
    · rw [hes] at k1
      have := mapR_inj k1
      subst this
      exact ⟨ms, clock, rfl, h0, hn, k2, k3, k4⟩
    · have := k3 [.any] (by rw [hes]; simp [mapR])
      rw [he] at this
      simp at this

/-- A new map. -/
theorem s_makeMap (hr : Rel c hp U σ w) (hN : Free U N) {t : TypeId} (hop : o.op = .makeMap t none) (h : opW P fr hp N (.makeMap t none) K) :
    OpOk P c K hp U N σ w ((execOp a.eval o).run P w) := by
  have hK := h w.heap.size
  have hrun : (execOp a.eval o).run P w = .ok (.value (.map (some w.heap.size))) (w.alloc (.map #[] 0)) := by
    have : (Instr.makeMap t none).run P w = .ok (.map (some w.heap.size)) (w.alloc (.map #[] 0)) := rfl
    simp [execOp, hop, this]
  rw [hrun]
  let b : Blk := ⟨w.heap.size, 0, mapR []⟩
  let w' := w.alloc (.map #[] 0)
  let σ' := fun i => if i = N then none else σ i
  have hlk : ∀ i b0, lk i ((N, b) :: hp) = some b0 → (i = N ∧ b0 = b) ∨ (i ≠ N ∧ lk i hp = some b0) := by
    intro i b0 h
    rw [lk_cons] at h
    split at h
    · rename_i e; injection h with h; exact .inl ⟨e.symm, h.symm⟩
    · rename_i e; exact .inr ⟨fun h' => e h'.symm, h⟩
  have hσ : ∀ i, i ≠ N → σ' i = σ i := fun i h => if_neg h
  have hσN : σ' N = none := if_pos rfl
  have hsize : w'.heap.size = w.heap.size + 1 := World.size_alloc w _
  have hold : ∀ i, i < w.heap.size → w'.heap[i]? = w.heap[i]? := fun i h => heap_alloc_lt w _ i h
  have hlt : ∀ i b0 g, lk i hp = some b0 → σ i = some g → g < w.heap.size := fun i b0 g h hg => blk_lt (hr.at h hg)
  have hst : Step w (Sof c w σ hp) σ hp U w' (Sof c w' σ' ((N, b) :: hp)) σ' ((N, b) :: hp) (unite U N) := by
    refine ⟨fun g hg => ⟨⟨by rw [hsize]; have := hg.1.1; omega, fun id blk g' hb hg' => ?_⟩, hg.2⟩, fun p hp' => ?_, fun _ h => .inl h, fun id b' hid hb => ?_⟩
    · rcases hlk id blk hb with ⟨rfl, rfl⟩ | ⟨h, hb⟩
      · rw [hσN] at hg'; cases hg'
      · rw [hσ id h] at hg'; exact hg.1.2 id blk g' hb hg'
    · exact World.cell?_of_block (w := w) (hold _ hp'.1.1)
    · rcases hlk id b' hb with ⟨rfl, rfl⟩ | ⟨h, hb⟩
      · exact absurd hid hN.at
      · refine ⟨b', hb, rfl, rfl, Nat.le_refl _, fun _ g hg => ⟨(hσ id h).trans hg, fun n hn => ?_⟩⟩
        obtain ⟨cc, h5, h6⟩ := hn
        exact ⟨cc, (hold _ (hlt id b' g hb hg)).trans h5, h6⟩
  refine ⟨.mp N, _, σ', hK, ⟨fun i j bi bj g hi hj hgi hgj => ?_, fun i b0 h => ?_, fun i b0 h => ?_, fun i b0 g h hg => ?_, hr.os, hr.tape, hr.output, by rw [hsize]; have := hr.size; omega, fun g hg hm => ?_⟩, hst, .mp N _ unite_N fun b0 hb0 => ?_⟩
  · rcases hlk i bi hi with ⟨e1, _⟩ | ⟨hi', hi1⟩ <;> rcases hlk j bj hj with ⟨e2, _⟩ | ⟨hj', hj1⟩
    · rw [e1, e2]
    · rw [e1, hσN] at hgi; cases hgi
    · rw [e2, hσN] at hgj; cases hgj
    · rw [hσ i hi'] at hgi; rw [hσ j hj'] at hgj; exact hr.inj i j bi bj g hi1 hj1 hgi hgj
  · rcases hlk i b0 h with ⟨rfl, rfl⟩ | ⟨_, h⟩
    · exact unite_N
    · exact .inl (hr.lt i b0 h)
  · rcases hlk i b0 h with ⟨rfl, rfl⟩ | ⟨hi, h⟩
    · exact .inl ⟨hσN, .inr ⟨rfl, hr.size, [], #[], 0, rfl, heap_alloc_new w _, by simp, by simp⟩⟩
    · rcases hr.blk i b0 h with ⟨k1, k2⟩ | ⟨g, k1, k2⟩
      · exact .inl ⟨(hσ i hi).trans k1, k2.keep fun _ _ _ hm => hold _ (map_lt hm)⟩
      · exact .inr ⟨g, (hσ i hi).trans k1, k2.step hst (hold _ (blk_lt k2))⟩
  · rcases hlk i b0 h with ⟨rfl, rfl⟩ | ⟨hi, h⟩
    · rw [hσN] at hg; cases hg
    · rw [hσ i hi] at hg; exact hr.mine i b0 g h hg
  · rw [hold g (by have := hr.size; omega)]; exact hr.old g hg hm
  · rcases hlk N b0 hb0 with ⟨_, rfl⟩ | ⟨h, _⟩
    · rfl
    · exact absurd rfl h

theorem s_lookup (hr : Rel c hp U σ w) (E : ∀ x, AIs w (Sof c w σ hp) σ hp U (ev fr x) (a.eval x)) {t : TypeId} {m x : Operand} (hop : o.op = .lookup t m x false) (h : opW P fr hp N (.lookup t m x false) K) :
    OpOk P c K hp U N σ w ((execOp a.eval o).run P w) := by
  simp only [opW] at h
  unfold luW at h
  split at h
  · rename_i id cs hm hx
    obtain ⟨b, ks, u, hb, he, hes, rfl, ⟨k, e, ht, Kd, hz, hkeys⟩, hK⟩ := h
    obtain ⟨ms, clock, hv, _, _, hheap, h1, h2⟩ := map_at hr (hm ▸ E m) hb he hes
    have hkv := key_is (hx ▸ E x)
    obtain ⟨l, hl⟩ := hkeys u (by simp)
    have hks : ∀ m ∈ ms.toList, ∃ l, keyOf P k m.key = some l := fun m hm => by
      obtain ⟨_, v, hv, e⟩ := h1 m hm
      rw [e]
      exact hkeys v (by simp [hv])
    have run : ∀ r : Value, (Instr.lookup t (.map (some b.ty)) (keyV u) false).run P w = .ok r w → (execOp a.eval o).run P w = .ok (.value r) w := by
      intro r hrun
      simp [execOp, hop, hv, hkv, hrun]
    rcases Kd.find w hl ms.toList hks with ⟨q1, q2⟩ | ⟨j, e0, q1, q2, q3⟩
    · have hno : decide (u ∈ ks) = false := by
        refine decide_eq_false fun hu => ?_
        obtain ⟨m, hm, e⟩ := h2 u hu
        exact q2 m hm e
      rw [hno] at hK
      exact OpOk.val (run _ (by simp [Instr.lookup, run_underlying ht, MapKept.run_getObj_map hheap, Kd.check w _ hl, q1, hz, Result.andThen])) (Good.same hr hK (.d (.bool _)))
    · have hm0 : e0 ∈ ms.toList := List.mem_of_getElem? q2
      obtain ⟨hval, v, hv2, e⟩ := h1 e0 hm0
      have hyes : decide (u ∈ ks) = true := by
        refine decide_eq_true ?_
        rw [q3] at e
        rw [keyV_inj e]
        exact hv2
      rw [hyes] at hK
      exact OpOk.val (run _ (by simp [Instr.lookup, run_underlying ht, MapKept.run_getObj_map hheap, Kd.check w _ hl, q1, hval, Result.andThen])) (Good.same hr hK (.d (.bool _)))
  · exact h.elim

theorem s_mapUpdate (hr : Rel c hp U σ w) (E : ∀ x, AIs w (Sof c w σ hp) σ hp U (ev fr x) (a.eval x)) {t : TypeId} {m x v : Operand} (hop : o.op = .mapUpdate t m x v) (h : opW P fr hp N (.mapUpdate t m x v) K) :
    OpOk P c K hp U N σ w ((execOp a.eval o).run P w) := by
  simp only [opW] at h
  unfold muW at h
  split at h
  · rename_i id cs hm hx hvv
    obtain ⟨b, ks, u, hb, he, hes, rfl, ⟨k, e, ht, Kd, _, hkeys⟩, honly, hK⟩ := h
    obtain ⟨ms, clock, hv, hσ0, hnew, hheap, h1, h2⟩ := map_at hr (hm ▸ E m) hb he hes
    have hkv := key_is (hx ▸ E x)
    have hvt := is_bool (hvv ▸ E v)
    obtain ⟨l, hl⟩ := hkeys u (by simp)
    have hks : ∀ m ∈ ms.toList, ∃ l, keyOf P k m.key = some l := fun m hm => by
      obtain ⟨_, v, hv, e⟩ := h1 m hm
      rw [e]
      exact hkeys v (by simp [hv])
    have key : ∃ ms' clock', (Instr.mapUpdate t (.map (some b.ty)) (keyV u) (.bool true)).run P w = .ok () (ChangeMaps.setBlock w b.ty (.map ms' clock')) ∧
        (∀ m ∈ ms'.toList, m.val = .bool true ∧ ∃ v ∈ ks ++ [u], m.key = keyV v) ∧ ∀ v ∈ ks ++ [u], ∃ m ∈ ms'.toList, m.key = keyV v := by
      rcases Kd.find w hl ms.toList hks with ⟨q1, q2⟩ | ⟨j, e0, q1, q2, q3⟩
      · refine ⟨ms.push ⟨keyV u, .bool true, clock⟩, clock + 1, by simp [Instr.mapUpdate, run_underlying ht, MapKept.run_getObj_map hheap, Kd.check w false hl, q1, MapKept.run_setObj_map _ hheap, Result.andThen, ChangeMaps.setBlock], fun m hm => ?_, fun v hv => ?_⟩
        · simp only [Array.toList_push, List.mem_append, List.mem_singleton] at hm
          rcases hm with hm | rfl
          · obtain ⟨p1, v, p2, p3⟩ := h1 m hm
            exact ⟨p1, v, List.mem_append.2 (.inl p2), p3⟩
          · exact ⟨rfl, u, by simp, rfl⟩
        · rcases List.mem_append.1 hv with hv | hv
          · obtain ⟨m, p1, p2⟩ := h2 v hv
            exact ⟨m, by simp [p1], p2⟩
          · simp only [List.mem_singleton] at hv
            subst hv
            exact ⟨⟨keyV v, .bool true, clock⟩, by simp, rfl⟩
      · have hj : ms[j]? = some e0 := by simpa using q2
        have hm0 : e0 ∈ ms.toList := List.mem_of_getElem? q2
        obtain ⟨hval, v0, hv0, ev0⟩ := h1 e0 hm0
        have hu : u ∈ ks := by
          rw [q3] at ev0
          rw [keyV_inj ev0]
          exact hv0
        have hsame : ms.modify j (fun e' => { e' with key := keyV u, val := .bool true }) = ms := by
          apply Array.ext'
          rw [Array.toList_modify]
          refine List.ext_getElem? fun i => ?_
          rw [List.getElem?_modify]
          by_cases hij : j = i
          · subst hij
            rw [q2]
            simp only [if_true, Option.map_eq_map, Option.map_some, Option.some.injEq]
            rw [← q3, ← hval]
          · simp [hij]
        refine ⟨ms, clock, ?_, fun m hm => ?_, fun v hv => ?_⟩
        · simp [Instr.mapUpdate, run_underlying ht, MapKept.run_getObj_map hheap, Kd.check w false hl, q1, hj, q3, Kd.stays w hl, hsame, MapKept.run_setObj_map _ hheap, Result.andThen, ChangeMaps.setBlock]
        · obtain ⟨p1, v, p2, p3⟩ := h1 m hm
          exact ⟨p1, v, List.mem_append.2 (.inl p2), p3⟩
        · refine h2 v ?_
          rcases List.mem_append.1 hv with hv | hv
          · exact hv
          · simp only [List.mem_singleton] at hv
            subst hv
            exact hu
    obtain ⟨ms', clock', hrun0, g1, g2⟩ := key
    have hrun : (execOp a.eval o).run P w = .ok .skip (ChangeMaps.setBlock w b.ty (.map ms' clock')) := by
      simp [execOp, hop, hv, hkv, hvt, hrun0]
    rw [hrun]
    let w' := ChangeMaps.setBlock w b.ty (.map ms' clock')
    let b' : Blk := ⟨b.ty, b.e, mapR (ks ++ [u])⟩
    have hsame : w'.heap[b.ty]? = some (.map ms' clock') := ChangeMaps.heap_setBlock_same hheap _
    have hold : ∀ i, i ≠ b.ty → w'.heap[i]? = w.heap[i]? := fun i h => ChangeMaps.heap_setBlock_other hheap _ h
    have hsize : w'.heap.size = w.heap.size := by simp [w', ChangeMaps.setBlock]
    have hlk : ∀ i b0, lk i (setH id b' hp) = some b0 → (i = id ∧ b0 = b') ∨ (i ≠ id ∧ lk i hp = some b0) := by
      intro i b0 h
      rw [lk_setH] at h
      split at h
      · rename_i e; rw [hb] at h; simp at h; exact .inl ⟨e, h.symm⟩
      · rename_i e; exact .inr ⟨e, h⟩
    have hcells : ∀ g ccs ty, w.heap[g]? = some (.cells ccs ty (0, 0)) → g ≠ b.ty := fun g ccs ty h e => by
      subst e
      rw [hheap] at h
      cases h
    have hst : Step w (Sof c w σ hp) σ hp U w' (Sof c w' σ (setH id b' hp)) σ (setH id b' hp) U := by
      refine ⟨fun g hg => ⟨⟨by rw [hsize]; exact hg.1.1, fun i blk g' hb0 hg' => ?_⟩, hg.2⟩, fun p hp' => ?_, fun _ h => h, fun i b0 hid hb0 => ?_⟩
      · rcases hlk i blk hb0 with ⟨rfl, rfl⟩ | ⟨h, hb1⟩
        · rw [hσ0] at hg'; cases hg'
        · exact hg.1.2 i blk g' hb1 hg'
      · by_cases hp0 : p.block = b.ty
        · simp only [World.cell?, hp0, hsame, hheap]
        · exact World.cell?_of_block (w := w) (hold _ hp0)
      · rcases hlk i b0 hb0 with ⟨rfl, rfl⟩ | ⟨h, hb1⟩
        · refine ⟨b, hb, rfl, rfl, ?_, fun _ g hg => ?_⟩
          · rw [hes]; simp [b', mapR]
          · rw [hσ0] at hg; cases hg
        · refine ⟨b0, hb1, rfl, rfl, Nat.le_refl _, fun _ g hg => ⟨hg, fun n hn => ?_⟩⟩
          obtain ⟨cc, h5, h6⟩ := hn
          exact ⟨cc, (hold _ (hcells _ _ _ h5)).trans h5, h6⟩
    have hrel : Rel c (setH id b' hp) U σ w' := by
      refine ⟨fun i j bi bj g hi hj hgi hgj => ?_, fun i b0 h => ?_, fun i b0 h => ?_, fun i b0 g h hg => ?_, hr.os, hr.tape, hr.output, by rw [hsize]; exact hr.size, fun g hg hm => ?_⟩
      · rcases hlk i bi hi with ⟨rfl, _⟩ | ⟨hi', hi1⟩
        · rw [hσ0] at hgi; cases hgi
        · rcases hlk j bj hj with ⟨rfl, _⟩ | ⟨hj', hj1⟩
          · rw [hσ0] at hgj; cases hgj
          · exact hr.inj i j bi bj g hi1 hj1 hgi hgj
      · rcases hlk i b0 h with ⟨rfl, rfl⟩ | ⟨_, h⟩
        · exact hr.lt _ b hb
        · exact hr.lt i b0 h
      · rcases hlk i b0 h with ⟨rfl, rfl⟩ | ⟨hi, h⟩
        · exact .inl ⟨hσ0, .inr ⟨he, hnew, ks ++ [u], ms', clock', rfl, hsame, g1, g2⟩⟩
        · rcases hr.blk i b0 h with ⟨k1, k2 | ⟨k2, _⟩⟩ | ⟨g, k1, k2⟩
          · exact .inl ⟨k1, .inl k2⟩
          · exact absurd (honly _ (lk_mem0 h) k2) hi
          · refine .inr ⟨g, k1, k2.step hst (hold _ ?_)⟩
            obtain ⟨ccs, k3, _⟩ := k2
            exact hcells _ _ _ k3
      · rcases hlk i b0 h with ⟨rfl, rfl⟩ | ⟨hi, h⟩
        · rw [hσ0] at hg; cases hg
        · exact hr.mine i b0 g h hg
      · rw [hold g (fun e => by subst e; omega)]; exact hr.old _ hg hm
    exact ⟨.any, _, σ, hK, hrel.more, hst.trans Step.more, .any _⟩
  · exact h.elim
end
end Go.Am
