/-
  AM, part 4: the operations are sound.
-/
import Derived.Test.YtnmnabagabejjaaGreatAmSem
namespace Go.Am
set_option linter.unusedVariables false

section
variable {P : Program} {c : Ctx} {K : AV → Hp → Prop} {hp : Hp} {U : Nat → Prop} {N : Nat} {σ : Nat → Option Nat} {w : World} {S : Nat → Prop}

theorem is_int {k : IntKind} {n : Int} {v : Value} (h : AIs w S σ hp U (.d (.int k n)) v) : v = .int k n := by
  cases h with | d h => cases h; rfl
theorem is_bool {b : Bool} {v : Value} (h : AIs w S σ hp U (.d (.bool b)) v) : v = .bool b := by
  cases h with | d h => cases h; rfl

theorem run_ibin (op : BinOp) (k k' : IntKind) (x y : Int) (h : ibin op k x y K hp) (hk : isShift op = true ∨ k = k') (t : TypeId) :
    ∃ d v, K (.d d) hp ∧ (binOp op t (.int k x) (.int k' y)).run P w = .ok v w ∧ DIs w S d v := by
  cases op <;> simp only [ibin] at h
  case shl => exact ⟨_, _, h.2, by simp [binOp, Op.shift]; intro h'; omega, .int _ _⟩
  case shr => exact ⟨_, _, h.2, by simp [binOp, Op.shift]; intro h'; omega, .int _ _⟩
  all_goals (obtain rfl : k = k' := by simpa [isShift] using hk)
  case quo => exact ⟨_, _, h.2, by simp [binOp, Op.intDiv, h.1], .int _ _⟩
  case rem => exact ⟨_, _, h.2, by simp [binOp, Op.intDiv, h.1], .int _ _⟩
  case and => exact ⟨_, _, h, by simp [binOp, intBits_and], .int _ _⟩
  case or => exact ⟨_, _, h, by simp [binOp, intBits_or], .int _ _⟩
  case xor => exact ⟨_, _, h, by simp [binOp, intBits_xor], .int _ _⟩
  case andNot => exact ⟨_, _, h, by simp [binOp, intBits_andNot], .int _ _⟩
  case add => exact ⟨_, _, h, by simp [binOp, Op.intArith], .int _ _⟩
  case sub => exact ⟨_, _, h, by simp [binOp, Op.intArith], .int _ _⟩
  case mul => exact ⟨_, _, h, by simp [binOp, Op.intArith], .int _ _⟩
  case eql => exact ⟨_, _, h, by simp [binOp, Op.intCmp]; rfl, .bool _⟩
  case neq => exact ⟨_, _, h, by simp [binOp, Op.intCmp]; rfl, .bool _⟩
  all_goals exact ⟨_, _, h, by simp [binOp, Op.intCmp], .bool _⟩

theorem lk_setH (id j : Nat) (b' : Blk) : ∀ hp : Hp, lk j (setH id b' hp) = if j = id then (lk id hp).map (fun _ => b') else lk j hp
  | [] => by simp [setH, lk]
  | (m, v) :: t => by
    have ih := lk_setH id j b' t
    simp only [setH]
    by_cases hm : m = id
    · subst hm
      simp only [if_true, lk]
      by_cases hj : m = j
      · subst hj; simp
      · have hj' : ¬ j = m := fun h => hj h.symm
        simp [hj, hj']
    · simp only [if_neg hm, lk]
      by_cases hj : m = j
      · subst hj
        simp [hm]
      · simp only [if_neg hj, ih]

theorem lk_cons (m j : Nat) {α : Type} (v : α) (t : List (Nat × α)) : lk j ((m, v) :: t) = if m = j then some v else lk j t := rfl

theorem heap_alloc_lt (w : World) (o : Obj) (i : Nat) (h : i < w.heap.size) : (w.alloc o).heap[i]? = w.heap[i]? := by
  show (w.heap.push o)[i]? = _
  grind

theorem blk_lt {g : Nat} {b : Blk} (h : BlkOk w S σ hp U g b) : g < w.heap.size := by
  obtain ⟨ccs, h1, _⟩ := h
  grind

theorem BlkOk.step {w' : World} {S' : Nat → Prop} {σ' : Nat → Option Nat} {hp' : Hp} {U' : Nat → Prop} {g : Nat} {b : Blk} (h : BlkOk w S σ hp U g b) (hs : Step w S σ hp U w' S' σ' hp' U') (hg : w'.heap[g]? = w.heap[g]?) : BlkOk w' S' σ' hp' U' g b := by
  obtain ⟨ccs, h1, h2, h3, h4, h5⟩ := h
  exact ⟨ccs, hg.trans h1, h2, h3, h4, fun i j x y v a1 a2 a3 => (h5 i j x y v a1 a2 a3).step hs⟩

/-- A new block of the call's own. -/
theorem new_blk (hr : Rel c hp U σ w) (hN : Free U N) (ccs : Array Value) (b : Blk)
    (h1 : ∀ (i : Nat) (x : Value), ccs[i]? = some x → x.oneCell' = true) (h2 : ∀ x, x ∈ b.es → x.length = b.e) (h3 : b.es.length * b.e ≤ ccs.size)
    (h4 : ∀ (i j : Nat) (x : List AV) (y : AV) (v : Value), b.es[i]? = some x → x[j]? = some y → ccs[i * b.e + j]? = some v → AIs w (Sof c w σ hp) σ hp U y v) :
    let w' := w.alloc (.cells ccs b.ty)
    let σ' := fun i => if i = N then some w.heap.size else σ i
    Rel c ((N, b) :: hp) (unite U N) σ' w' ∧ Step w (Sof c w σ hp) σ hp U w' (Sof c w' σ' ((N, b) :: hp)) σ' ((N, b) :: hp) (unite U N) := by
  intro w' σ'
  have hlkN : lk N hp = none := by
    cases h : lk N hp with
    | none => rfl
    | some b0 => exact absurd (hr.lt _ _ h) hN.at
  have hlk : ∀ i b0, lk i ((N, b) :: hp) = some b0 → (i = N ∧ b0 = b) ∨ (i ≠ N ∧ lk i hp = some b0) := by
    grind [lk_cons]
  have hσ : ∀ i, i ≠ N → σ' i = σ i := fun i h => if_neg h
  have hσN : σ' N = some w.heap.size := if_pos rfl
  have hsize : w'.heap.size = w.heap.size + 1 := World.size_alloc w _
  have hold : ∀ i, i < w.heap.size → w'.heap[i]? = w.heap[i]? := fun i h => heap_alloc_lt w _ i h
  have hlt : ∀ i b0 g, lk i hp = some b0 → σ i = some g → g < w.heap.size := fun i b0 g h hg => blk_lt (hr.at h hg)
  have hst : Step w (Sof c w σ hp) σ hp U w' (Sof c w' σ' ((N, b) :: hp)) σ' ((N, b) :: hp) (unite U N) := by
    refine ⟨fun g hg => ⟨⟨by rw [hsize]; have := hg.1.1; omega, fun id blk g' hb hg' => ?_⟩, hg.2⟩, fun p hp' => ?_, fun _ h => .inl h, fun id b' hid hb => ?_⟩
    · rcases hlk id blk hb with ⟨rfl, rfl⟩ | ⟨h, hb⟩
      · rw [hσN] at hg'; injection hg' with hg'; have := hg.1.1; omega
      · rw [hσ id h] at hg'; exact hg.1.2 id blk g' hb hg'
    · exact World.cell?_of_block (w := w) (hold _ hp'.1.1)
    · rcases hlk id b' hb with ⟨rfl, rfl⟩ | ⟨h, hb⟩
      · exact absurd hid hN.at
      · refine ⟨b', hb, rfl, rfl, Nat.le_refl _, fun _ g hg => ⟨(hσ id h).trans hg, fun n hn => ?_⟩⟩
        obtain ⟨cc, h5, h6⟩ := hn
        exact ⟨cc, (hold _ (hlt id b' g hb hg)).trans h5, h6⟩
  refine ⟨⟨fun i j bi bj g hi hj hgi hgj => ?_, fun i b0 h => ?_, fun i b0 h => ?_, fun i b0 g h hg => ?_, hr.os, hr.tape, hr.output, by rw [hsize]; have := hr.size; omega, fun g hg hm => ?_⟩, hst⟩
  · rcases hlk i bi hi with ⟨e1, _⟩ | ⟨hi', hi1⟩ <;> rcases hlk j bj hj with ⟨e2, _⟩ | ⟨hj', hj1⟩
    · rw [e1, e2]
    · grind
    · grind
    · rw [hσ i hi'] at hgi; rw [hσ j hj'] at hgj; exact hr.inj i j bi bj g hi1 hj1 hgi hgj
  · rcases hlk i b0 h with ⟨rfl, rfl⟩ | ⟨_, h⟩
    · exact unite_N
    · exact .inl (hr.lt i b0 h)
  · rcases hlk i b0 h with ⟨rfl, rfl⟩ | ⟨hi, h⟩
    · exact .inr ⟨_, hσN, ccs, heap_alloc_new w _, h1, h2, h3, fun i j x y v a1 a2 a3 => (h4 i j x y v a1 a2 a3).step hst⟩
    · rcases hr.blk i b0 h with ⟨k1, k2⟩ | ⟨g, k1, k2⟩
      · exact .inl ⟨(hσ i hi).trans k1, k2.keep fun _ _ _ hm => hold _ (map_lt hm)⟩
      · exact .inr ⟨g, (hσ i hi).trans k1, k2.step hst (hold _ (blk_lt k2))⟩
  · rcases hlk i b0 h with ⟨rfl, rfl⟩ | ⟨hi, h⟩
    · rw [hσN] at hg; injection hg with hg; subst hg; exact .inr hr.size
    · rw [hσ i hi] at hg; exact hr.mine i b0 g h hg
  · rw [hold g (by have := hr.size; omega)]; exact hr.old g hg hm

/-- A block of the call's own takes other cells; as many elements as before. -/
theorem set_blk_le (hr : Rel c hp U σ w) {id g0 : Nat} {b b' : Blk} (hb : lk id hp = some b) (hg0 : σ id = some g0) (he : b'.e = b.e) (ht : b'.ty = b.ty) (hl : b.es.length ≤ b'.es.length) (ccs ccs' : Array Value) (hfit : b'.es.length * b.e ≤ ccs'.size) (hc : w.heap[g0]? = some (.cells ccs b.ty (0, 0))) (hsz : ccs'.size = ccs.size)
    (h1 : ∀ (i : Nat) (x : Value), ccs'[i]? = some x → x.oneCell' = true) (h2 : ∀ x, x ∈ b'.es → x.length = b.e)
    (h4 : ∀ (i j : Nat) (x : List AV) (y : AV) (v : Value), b'.es[i]? = some x → x[j]? = some y → ccs'[i * b.e + j]? = some v → AIs w (Sof c w σ hp) σ hp U y v) :
    let w' := w.setRow g0 ccs'
    Rel c (setH id b' hp) U σ w' ∧ Step w (Sof c w σ hp) σ hp U w' (Sof c w' σ (setH id b' hp)) σ (setH id b' hp) U := by
  intro w'
  have hlk : ∀ i b0, lk i (setH id b' hp) = some b0 → (i = id ∧ b0 = b') ∨ (i ≠ id ∧ lk i hp = some b0) := by
    grind [lk_setH]
  have hlk' : ∀ i b0, lk i (setH id b' hp) = some b0 → ∃ b1, lk i hp = some b1 := by
    grind
  have hnew : w'.heap[g0]? = some (.cells ccs' b.ty (0, 0)) := setRow_heap w g0 ccs ccs' b.ty (0, 0) hc
  have hsize : w'.heap.size = w.heap.size := by simp [w', World.setRow]
  have hold : ∀ g, g ≠ g0 → w'.heap[g]? = w.heap[g]? := fun g h => setRow_other w g0 g ccs' h
  have hst : Step w (Sof c w σ hp) σ hp U w' (Sof c w' σ (setH id b' hp)) σ (setH id b' hp) U := by
    refine ⟨fun g hg => ⟨⟨by rw [hsize]; exact hg.1.1, fun i blk g' hb0 hg' => ?_⟩, hg.2⟩, fun p hp' => ?_, fun _ h => h, fun i b0 hid hb0 => ?_⟩
    · obtain ⟨b1, h1⟩ := hlk' i blk hb0
      exact hg.1.2 i b1 g' h1 hg'
    · exact World.cell?_of_block (w := w) (hold _ (hp'.1.2 id b g0 hb hg0))
    · rcases hlk i b0 hb0 with ⟨rfl, rfl⟩ | ⟨h, hb1⟩
      · refine ⟨b, hb, he, ht, by omega, fun _ g hg => ⟨hg, fun n hn => ?_⟩⟩
        rw [hg0] at hg
        injection hg with hg
        subst hg
        obtain ⟨cc, h5, h6⟩ := hn
        rw [hc] at h5
        injection h5 with h5
        injection h5 with h5
        exact ⟨ccs', hnew, by rw [hsz, h5]; exact h6⟩
      · refine ⟨b0, hb1, rfl, rfl, Nat.le_refl _, fun _ g hg => ⟨hg, fun n hn => ?_⟩⟩
        obtain ⟨cc, h5, h6⟩ := hn
        exact ⟨cc, (hold _ (fun e => h (by subst e; exact hr.inj i id b0 b g hb1 hb hg hg0))).trans h5, h6⟩
  have hok := hr.at hb hg0
  refine ⟨⟨fun i j bi bj g hi hj hgi hgj => ?_, fun i b0 h => ?_, fun i b0 h => ?_, fun i b0 g h hg => ?_, hr.os, hr.tape, hr.output, by rw [hsize]; exact hr.size, fun g hg hm => ?_⟩, hst⟩
  · obtain ⟨b1, h1⟩ := hlk' i bi hi
    obtain ⟨b2, h2⟩ := hlk' j bj hj
    exact hr.inj i j b1 b2 g h1 h2 hgi hgj
  · obtain ⟨b1, h1⟩ := hlk' i b0 h
    exact hr.lt i b1 h1
  · rcases hlk i b0 h with ⟨rfl, rfl⟩ | ⟨hi, h⟩
    · obtain ⟨cc, k1, k2, k3, k4, k5⟩ := hok
      rw [hc] at k1
      injection k1 with k1
      injection k1 with k1
      subst k1
      refine .inr ⟨g0, hg0, ccs', by rw [ht]; exact hnew, h1, by rw [he]; exact h2, by rw [he]; exact hfit, fun i j x y v a1 a2 a3 => ?_⟩
      rw [he] at a3
      exact (h4 i j x y v a1 a2 a3).step hst
    · rcases hr.blk i b0 h with k | ⟨g, k1, k2⟩
      · exact .inl ⟨k.1, k.2.keep fun _ _ _ hm => hold _ (fun e => by subst e; rw [hc] at hm; cases hm)⟩
      · exact .inr ⟨g, k1, k2.step hst (hold _ (fun e => hi (by subst e; exact hr.inj i id b0 b g h hb k1 hg0)))⟩
  · obtain ⟨b1, h1⟩ := hlk' i b0 h
    exact hr.mine i b1 g h1 hg
  · rw [hold g (fun e => ?_)]
    · exact hr.old g hg hm
    · subst e
      rcases hr.mine id b g hb hg0 with h | h
      · exact hm h
      · omega

theorem set_blk (hr : Rel c hp U σ w) {id g0 : Nat} {b b' : Blk} (hb : lk id hp = some b) (hg0 : σ id = some g0) (he : b'.e = b.e) (ht : b'.ty = b.ty) (hl : b'.es.length = b.es.length) (ccs ccs' : Array Value) (hc : w.heap[g0]? = some (.cells ccs b.ty (0, 0))) (hsz : ccs'.size = ccs.size)
    (h1 : ∀ (i : Nat) (x : Value), ccs'[i]? = some x → x.oneCell' = true) (h2 : ∀ x, x ∈ b'.es → x.length = b.e)
    (h4 : ∀ (i j : Nat) (x : List AV) (y : AV) (v : Value), b'.es[i]? = some x → x[j]? = some y → ccs'[i * b.e + j]? = some v → AIs w (Sof c w σ hp) σ hp U y v) :
    let w' := w.setRow g0 ccs'
    Rel c (setH id b' hp) U σ w' ∧ Step w (Sof c w σ hp) σ hp U w' (Sof c w' σ (setH id b' hp)) σ (setH id b' hp) U := by
  refine set_blk_le hr hb hg0 he ht (by omega) ccs ccs' ?_ hc hsz h1 h2 h4
  obtain ⟨cc, k1, k2, k3, k4, k5⟩ := hr.at hb hg0
  grind

/-- A block of the call's own moves to a new place, and grows. -/
theorem move_blk (hr : Rel c hp U σ w) {id : Nat} {b b' : Blk} (hb : lk id hp = some b) (he : b'.e = b.e) (ht : b'.ty = b.ty) (hl : b.es.length < b'.es.length) (ccs : Array Value)
    (h1 : ∀ (i : Nat) (x : Value), ccs[i]? = some x → x.oneCell' = true) (h2 : ∀ x, x ∈ b'.es → x.length = b.e) (h3 : b'.es.length * b.e ≤ ccs.size)
    (h4 : ∀ (i j : Nat) (x : List AV) (y : AV) (v : Value), b'.es[i]? = some x → x[j]? = some y → ccs[i * b.e + j]? = some v → AIs w (Sof c w σ hp) σ hp U y v) :
    let w' := w.alloc (.cells ccs b.ty)
    let σ' := fun i => if i = id then some w.heap.size else σ i
    Rel c (setH id b' hp) U σ' w' ∧ Step w (Sof c w σ hp) σ hp U w' (Sof c w' σ' (setH id b' hp)) σ' (setH id b' hp) U := by
  intro w' σ'
  have hlk : ∀ i b0, lk i (setH id b' hp) = some b0 → (i = id ∧ b0 = b') ∨ (i ≠ id ∧ lk i hp = some b0) := by
    grind [lk_setH]
  have hσ : ∀ i, i ≠ id → σ' i = σ i := fun i h => if_neg h
  have hσN : σ' id = some w.heap.size := if_pos rfl
  have hsize : w'.heap.size = w.heap.size + 1 := World.size_alloc w _
  have hold : ∀ i, i < w.heap.size → w'.heap[i]? = w.heap[i]? := fun i h => heap_alloc_lt w _ i h
  have hlt : ∀ i b0 g, lk i hp = some b0 → σ i = some g → g < w.heap.size := fun i b0 g h hg => blk_lt (hr.at h hg)
  have hst : Step w (Sof c w σ hp) σ hp U w' (Sof c w' σ' (setH id b' hp)) σ' (setH id b' hp) U := by
    refine ⟨fun g hg => ⟨⟨by rw [hsize]; have := hg.1.1; omega, fun i blk g' hb0 hg' => ?_⟩, hg.2⟩, fun p hp' => ?_, fun _ h => h, fun i b0 hid hb0 => ?_⟩
    · rcases hlk i blk hb0 with ⟨rfl, rfl⟩ | ⟨h, hb1⟩
      · rw [hσN] at hg'; injection hg' with hg'; have := hg.1.1; omega
      · rw [hσ i h] at hg'; exact hg.1.2 i blk g' hb1 hg'
    · exact World.cell?_of_block (w := w) (hold _ hp'.1.1)
    · rcases hlk i b0 hb0 with ⟨rfl, rfl⟩ | ⟨h, hb1⟩
      · grind
      · refine ⟨b0, hb1, rfl, rfl, Nat.le_refl _, fun _ g hg => ⟨(hσ i h).trans hg, fun n hn => ?_⟩⟩
        obtain ⟨cc, h5, h6⟩ := hn
        exact ⟨cc, (hold _ (hlt i b0 g hb1 hg)).trans h5, h6⟩
  refine ⟨⟨fun i j bi bj g hi hj hgi hgj => ?_, fun i b0 h => ?_, fun i b0 h => ?_, fun i b0 g h hg => ?_, hr.os, hr.tape, hr.output, by rw [hsize]; have := hr.size; omega, fun g hg hm => ?_⟩, hst⟩
  · rcases hlk i bi hi with ⟨e1, _⟩ | ⟨hi', hi1⟩ <;> rcases hlk j bj hj with ⟨e2, _⟩ | ⟨hj', hj1⟩
    · rw [e1, e2]
    · grind
    · grind
    · rw [hσ i hi'] at hgi; rw [hσ j hj'] at hgj; exact hr.inj i j bi bj g hi1 hj1 hgi hgj
  · rcases hlk i b0 h with ⟨rfl, rfl⟩ | ⟨_, h⟩
    · exact hr.lt _ b hb
    · exact hr.lt i b0 h
  · rcases hlk i b0 h with ⟨rfl, rfl⟩ | ⟨hi, h⟩
    · exact .inr ⟨_, hσN, ccs, by rw [ht]; exact heap_alloc_new w _, h1, by rw [he]; exact h2, by rw [he]; exact h3, fun i j x y v a1 a2 a3 => (h4 i j x y v a1 a2 (by rw [he] at a3; exact a3)).step hst⟩
    · rcases hr.blk i b0 h with ⟨k1, k2⟩ | ⟨g, k1, k2⟩
      · exact .inl ⟨(hσ i hi).trans k1, k2.keep fun _ _ _ hm => hold _ (map_lt hm)⟩
      · exact .inr ⟨g, (hσ i hi).trans k1, k2.step hst (hold _ (blk_lt k2))⟩
  · rcases hlk i b0 h with ⟨rfl, rfl⟩ | ⟨hi, h⟩
    · rw [hσN] at hg; injection hg with hg; subst hg; exact .inr hr.size
    · rw [hσ i hi] at hg; exact hr.mine i b0 g h hg
  · rw [hold g (by have := hr.size; omega)]; exact hr.old g hg hm

/-- A new id without a block. -/
theorem none_blk (hr : Rel c hp U σ w) (hN : Free U N) (b : Blk) (hb0 : b.es = []) :
    let σ' := fun i => if i = N then none else σ i
    Rel c ((N, b) :: hp) (unite U N) σ' w ∧ Step w (Sof c w σ hp) σ hp U w (Sof c w σ' ((N, b) :: hp)) σ' ((N, b) :: hp) (unite U N) := by
  intro σ'
  have hlk : ∀ i b0, lk i ((N, b) :: hp) = some b0 → (i = N ∧ b0 = b) ∨ (i ≠ N ∧ lk i hp = some b0) := by
    grind [lk_cons]
  have hσ : ∀ i, i ≠ N → σ' i = σ i := fun i h => if_neg h
  have hσN : σ' N = none := if_pos rfl
  have hst : Step w (Sof c w σ hp) σ hp U w (Sof c w σ' ((N, b) :: hp)) σ' ((N, b) :: hp) (unite U N) := by
    refine ⟨fun g hg => ⟨⟨hg.1.1, fun id blk g' hb hg' => ?_⟩, hg.2⟩, fun p hp' => rfl, fun _ h => .inl h, fun id b' hid hb => ?_⟩
    · rcases hlk id blk hb with ⟨rfl, rfl⟩ | ⟨h, hb⟩
      · grind
      · rw [hσ id h] at hg'; exact hg.1.2 id blk g' hb hg'
    · rcases hlk id b' hb with ⟨rfl, rfl⟩ | ⟨h, hb⟩
      · exact absurd hid hN.at
      grind
  refine ⟨⟨fun i j bi bj g hi hj hgi hgj => ?_, fun i b0 h => ?_, fun i b0 h => ?_, fun i b0 g h hg => ?_, hr.os, hr.tape, hr.output, hr.size, hr.old⟩, hst⟩
  · rcases hlk i bi hi with ⟨e1, _⟩ | ⟨hi', hi1⟩ <;> rcases hlk j bj hj with ⟨e2, _⟩ | ⟨hj', hj1⟩
    · rw [e1, e2]
    · grind
    · grind
    · rw [hσ i hi'] at hgi; rw [hσ j hj'] at hgj; exact hr.inj i j bi bj g hi1 hj1 hgi hgj
  · rcases hlk i b0 h with ⟨rfl, rfl⟩ | ⟨_, h⟩
    · exact unite_N
    · exact .inl (hr.lt i b0 h)
  · rcases hlk i b0 h with ⟨rfl, rfl⟩ | ⟨hi, h⟩
    · exact .inl ⟨hσN, .inl hb0⟩
    · rcases hr.blk i b0 h with ⟨k1, k2⟩ | ⟨g, k1, k2⟩
      · grind
      · exact .inr ⟨g, (hσ i hi).trans k1, k2.step hst rfl⟩
  · rcases hlk i b0 h with ⟨rfl, rfl⟩ | ⟨hi, h⟩
    · rw [hσN] at hg; cases hg
    · rw [hσ i hi] at hg; exact hr.mine i b0 g h hg

/-- The cases. -/
theorem run_sizeOf_ne {t : TypeId} (h : P.cellsOf t ≠ 0) : (sizeOf t).run P w = .ok (P.cellsOf t) w := by
  unfold Program.cellsOf at h ⊢
  cases hi : P.info? t with
  | none => simp [hi] at h
  | some i => simp [sizeOf, typeInfo, hi]

theorem info_of_underlying {t : TypeId} {d : TypeDesc} (h : P.underlying t = some d) : ∃ i, P.info? t = some i := by
  unfold Program.underlying at h
  grind

theorem run_sizeOf_u {t : TypeId} {d : TypeDesc} (h : P.underlying t = some d) : (sizeOf t).run P w = .ok (P.cellsOf t) w := by
  obtain ⟨i, hi⟩ := info_of_underlying h
  simp [sizeOf, typeInfo, hi, Program.cellsOf]

def isA : TypeDesc → Bool
  | .struct _ => true
  | .array _ _ => true
  | _ => false

theorem run_isAgg_u {t : TypeId} {d : TypeDesc} (h : P.underlying t = some d) : (isAgg t).run P w = .ok (isA d) w := by
  unfold isAgg
  rw [Sem.run_bind, run_underlying h w]
  cases d <;> rfl

theorem tyk_struct {t : TypeId} {fs : List (Nat × TypeId)} (h : tyk P t = .struct fs) : ∃ F, P.underlying t = some (.struct F) ∧ fs = F.toList.map fun f => (f.offset, f.type) := by
  grind [tyk]
theorem tyk_arr {t e : TypeId} {n : Nat} (h : tyk P t = .arr n e) : P.underlying t = some (.array n e) := by
  grind [tyk]
theorem tyk_slice {t e : TypeId} (h : tyk P t = .slice e) : P.underlying t = some (.slice e) := by
  grind [tyk]
theorem tyk_str {t : TypeId} (h : tyk P t = .str) : P.underlying t = some .string := by
  grind [tyk]

/-- The addresses of a row's cells. -/
theorem add_add (a : Addr) (i j : Nat) : (a.add i).add j = a.add (i + j) := by
  unfold Addr.add
  grind
theorem add_mk (g o i : Nat) : (⟨g, o, none⟩ : Addr).add i = ⟨g, o + i, none⟩ := by
  unfold Addr.add; split <;> simp_all

/-- Reading a variable, its cells known one by one. -/
theorem run_loadVar_cells {t : TypeId} {v : AV} {ad : Addr} {cells : List AV} {vs : Nat → Value} (hl : ldv P t cells = some v)
    (hv : ∀ (j : Nat) (y : AV), cells[j]? = some y → w.cell? (ad.add j) = some (vs j)) (h1 : ∀ (j : Nat) (y : AV), cells[j]? = some y → (vs j).oneCell' = true)
    (hd : ∀ (j : Nat) (y : AV), cells[j]? = some y → AIs w S σ hp U y (vs j)) :
    ∃ x, (loadVar t ad).run P w = .ok x w ∧ AIs w S σ hp U v x := by
  have agg : ∀ d, P.underlying t = some d → isA d = true → P.cellsOf t ≤ cells.length → v = .agg (cells.take (P.cellsOf t)) →
      ∃ x, (loadVar t ad).run P w = .ok x w ∧ AIs w S σ hp U v x := by
    intro d hu hd' hle hv'
    subst hv'
    have hget : ∀ j, j < P.cellsOf t → ∃ y, cells[j]? = some y := fun j hj => ⟨cells[j]'(by omega), List.getElem?_eq_getElem (by omega)⟩
    have hrun := run_loadCells (P := P) w ad (P.cellsOf t) vs (fun j hj => by obtain ⟨y, hy⟩ := hget j hj; exact hv j y hy)
    refine ⟨.agg ((List.range (P.cellsOf t)).map vs).toArray, ?_, ?_⟩
    · unfold loadVar
      rw [Sem.run_bind, run_isAgg_u hu, hd']
      simp [run_sizeOf_u hu, hrun]
    · refine .agg _ _ (by simp; omega) (fun i x hx => ?_) (fun i c' x hc hx => ?_)
      · simp only [List.getElem?_toArray, List.getElem?_map, Option.map_eq_some_iff] at hx
        obtain ⟨k, hk, rfl⟩ := hx
        have hk' := List.getElem?_eq_some_iff.1 hk
        obtain ⟨hlt, he⟩ := hk'
        simp at hlt he
        subst he
        obtain ⟨y, hy⟩ := hget i hlt
        exact h1 i y hy
      · simp only [List.getElem?_toArray, List.getElem?_map, Option.map_eq_some_iff] at hx
        obtain ⟨k, hk, rfl⟩ := hx
        obtain ⟨hlt, he⟩ := List.getElem?_eq_some_iff.1 hk
        simp at hlt he
        subst he
        rw [List.getElem?_take, if_pos hlt] at hc
        exact hd i c' hc
  have scal : ∀ d, P.underlying t = some d → isA d = false → cells.head? = some v →
      ∃ x, (loadVar t ad).run P w = .ok x w ∧ AIs w S σ hp U v x := by
    intro d hu hd' hh
    have h0 : cells[0]? = some v := by rw [← List.head?_eq_getElem?]; exact hh
    have hc := hv 0 v h0
    have had : ad.add 0 = ad := rfl
    rw [had] at hc
    refine ⟨vs 0, ?_, hd 0 v h0⟩
    unfold loadVar
    rw [Sem.run_bind, run_isAgg_u hu, hd']
    simp [hc]
  unfold ldv at hl
  cases hu : P.underlying t with
  | none => simp [tyk, hu] at hl
  | some d =>
    cases d with
    | struct F =>
      simp only [tyk, hu] at hl
      split at hl
      · injection hl with hl; exact agg _ hu rfl ‹_› hl.symm
      · cases hl
    | array n e =>
      simp only [tyk, hu] at hl
      split at hl
      · injection hl with hl; exact agg _ hu rfl ‹_› hl.symm
      · cases hl
    | _ => simp only [tyk, hu] at hl; exact scal _ hu rfl hl

/-- What a pointer into a block of the call's own gives: the row's cells from there on. -/
theorem row_cells (hr : Rel c hp U σ w) {id i off tot : Nat} {b : Blk} {row : List AV} {x : Value} (h : AIs w S σ hp U (.ptr id i off tot) x) (hb : lk id hp = some b) (hrow : b.es[i]? = some row) (ht : b.es.length = tot) :
    ∃ g ccs, σ id = some g ∧ x = .pointer (some ⟨g, i * b.e + off, none⟩) ∧ w.heap[g]? = some (.cells ccs b.ty (0, 0)) ∧ (∀ (i : Nat) (x : Value), ccs[i]? = some x → x.oneCell' = true) ∧ row.length = b.e ∧ i * b.e + b.e ≤ ccs.size ∧
      ∀ (j : Nat) (y : AV), row[j]? = some y → ∃ v, ccs[i * b.e + j]? = some v ∧ AIs w (Sof c w σ hp) σ hp U y v := by
  have hi : i < b.es.length := (List.getElem?_eq_some_iff.1 hrow).1
  cases h with
  | ptr id i off tot a hN h =>
    obtain ⟨_, h6⟩ := h b hb
    obtain ⟨g, hg, rfl⟩ := h6 ht
    obtain ⟨ccs, h1, h2, h3, h4, h5⟩ := hr.at hb hg
    have hle : i * b.e + b.e ≤ ccs.size := by
      have : (i + 1) * b.e ≤ b.es.length * b.e := Nat.mul_le_mul_right _ (by omega)
      grind
    have hrl : row.length = b.e := h3 row (List.mem_of_getElem? hrow)
    refine ⟨g, ccs, hg, rfl, h1, h2, hrl, hle, fun j y hy => ?_⟩
    have hj : j < row.length := (List.getElem?_eq_some_iff.1 hy).1
    have hlt : i * b.e + j < ccs.size := by omega
    exact ⟨ccs[i * b.e + j], Array.getElem?_eq_getElem hlt, h5 i j row y _ hrow hy (Array.getElem?_eq_getElem hlt)⟩
end
end Go.Am
