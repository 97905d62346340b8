/-
  AM, part 6d: append; all operations in one.
-/
import Derived.Test.YtnmnabagabejjaaGreatAmApp
namespace Go.Am
set_option linter.unusedVariables false

section
variable {P : Program} {c : Ctx} {K : AV → Hp → Prop} {fr : Fr} {hp : Hp} {U : Nat → Prop} {N : Nat} {σ : Nat → Option Nat} {w : World} {a : Act} {o : Oper} {S : Nat → Prop}

theorem step_drew : Step w (Sof c w σ hp) σ hp U w.drew (Sof c w.drew σ hp) σ hp U :=
  ⟨fun _ h => h, fun _ _ => rfl, fun _ h => h, fun id b' _ h => ⟨b', h, rfl, rfl, Nat.le_refl _, fun _ g hg => ⟨hg, fun _ h => h⟩⟩⟩

theorem rel_drew (hr : Rel c hp U σ w) : Rel c hp U σ w.drew := by
  refine ⟨hr.inj, hr.lt, fun i b h => ?_, hr.mine, hr.os, hr.tape, hr.output, hr.size, hr.old⟩
  rcases hr.blk i b h with h0 | ⟨g, hg, hb⟩
  · exact .inl ⟨h0.1, h0.2.keep fun _ _ _ _ => rfl⟩
  · exact .inr ⟨g, hg, hb.step step_drew rfl⟩

theorem rows_append {sz : Nat} {r1 r2 : List (List AV)} {x1 x2 rest : Array Value} (h1 : RIs w S σ hp U sz r1 x1) (hx1 : x1.size = r1.length * sz) (h2 : RIs w S σ hp U sz r2 x2) (hr : ∀ (i : Nat) (x : Value), rest[i]? = some x → x.oneCell' = true) :
    RIs w S σ hp U sz (r1 ++ r2) (x1 ++ x2 ++ rest) := by
  have l1 := h1.len
  have l2 := h2.len
  refine ⟨by simp [Nat.add_mul]; omega, fun r hr' => ?_, fun i x hx => ?_, fun i j r y x hi hj hx => ?_⟩
  · rcases List.mem_append.1 hr' with h | h
    · exact h1.row r h
    · exact h2.row r h
  · rw [Array.getElem?_append] at hx
    split at hx
    · rw [Array.getElem?_append] at hx
      split at hx
      · exact h1.one _ _ hx
      · exact h2.one _ _ hx
    · exact hr _ _ hx
  · rw [List.getElem?_append] at hi
    split at hi
    · rename_i hlt
      have hjl : j < sz := by
        have := (List.getElem?_eq_some_iff.1 hj).1
        rw [h1.row r (List.mem_of_getElem? hi)] at this
        exact this
      have hlt2 : i * sz + j < x1.size := by
        have : (i + 1) * sz ≤ r1.length * sz := Nat.mul_le_mul_right _ (by omega)
        grind
      rw [Array.getElem?_append, if_pos (by grind), Array.getElem?_append, if_pos hlt2] at hx
      exact h1.is i j r y x hi hj hx
    · rename_i hge
      have hjl : j < sz := by
        have := (List.getElem?_eq_some_iff.1 hj).1
        rw [h2.row r (List.mem_of_getElem? hi)] at this
        exact this
      have hil := (List.getElem?_eq_some_iff.1 hi).1
      have hm : (i - r1.length) * sz + j < r2.length * sz := by
        have : (i - r1.length + 1) * sz ≤ r2.length * sz := Nat.mul_le_mul_right _ (by omega)
        grind
      have hsub : i * sz = r1.length * sz + (i - r1.length) * sz := by
        rw [← Nat.add_mul]
        congr 1
        omega
      rw [Array.getElem?_append, if_pos (by grind), Array.getElem?_append, if_neg (by omega)] at hx
      rw [show i * sz + j - x1.size = (i - r1.length) * sz + j by omega] at hx
      exact h2.is _ j r y x hi hj hx

section
variable {ts tx ty el el2 : TypeId} {i : TypeInfo} {z : Value}

theorem run_app_stay (hts : P.underlying ts = some (.slice el)) (htx : P.underlying tx = some (.slice el2)) (hi : P.info? el = some i) {base : Option Addr} {sLen sCap n k : Nat} {B : Option Addr} {us : Array Value} {w' : World}
    (hf : (Builtin.firstCells i.size n (.slice B n k)).run P w = .ok us w) (hneed : sLen + n ≤ sCap) (hsto : (match base with | some a => storeCells (a.add (sLen * i.size)) us.toList | none => pure ()).run P w = .ok () w') :
    (Builtin.append_ #[ts, tx] ty #[.slice base sLen sCap, .slice B n k]).run P w = .ok (.slice base (sLen + n) sCap) w' := by
  cases base with
  | none =>
    simp at hsto
    subst hsto
    simp [Builtin.append_, run_underlying hts, run_underlying htx, sizeOf, typeInfo, hi, Builtin.lenOf, hneed, hf]
  | some ad =>
    simp only at hsto
    simp [Builtin.append_, run_underlying hts, run_underlying htx, sizeOf, typeInfo, hi, Builtin.lenOf, hneed, hf, hsto]

theorem run_app_grow (hts : P.underlying ts = some (.slice el)) (htx : P.underlying tx = some (.slice el2)) (hi : P.info? el = some i) (hz : i.zero = some z) {base : Option Addr} {sLen sCap n k : Nat} {B : Option Addr} {us os : Array Value}
    (hf : (Builtin.firstCells i.size n (.slice B n k)).run P w.drew = .ok us w.drew) (hfo : (Builtin.firstCells i.size sLen (.slice base sLen sCap)).run P w.drew = .ok os w.drew) (hneed : sCap < sLen + n) (hb : i.bytes ≠ 0) (hfit : (sLen + n) * i.bytes ≤ 140737488355328) :
    (Builtin.append_ #[ts, tx] ty #[.slice base sLen sCap, .slice B n k]).run P w = .ok (.slice (some ⟨w.heap.size, 0, none⟩) (sLen + n) (grownCap w (sLen + n) sCap el))
        (w.drew.alloc (.cells (os ++ us ++ Builtin.zeroCells z.cells (grownCap w (sLen + n) sCap el - (sLen + n))) el)) := by
  have hn : ¬ (sLen + n ≤ sCap) := by omega
  have h48' : ¬ (281474976710656 < Builtin.nextslicecap (sLen + n) sCap * i.bytes) := by
    have := growslice_fits hneed hfit
    omega
  simp [Builtin.append_, run_underlying hts, run_underlying htx, sizeOf, typeInfo, zeroValue, hi, hz, Builtin.lenOf, hn, hb, h48', Question.forced, hf, hfo, newRow, grownCap]
end

theorem setH_self {id : Nat} {b : Blk} : ∀ {hp : Hp}, lk id hp = some b → setH id b hp = hp
  | [], h => by cases h
  | (m, v) :: t, h => by
    simp only [lk] at h
    simp only [setH]
    split at h
    · rename_i e
      injection h with h
      subst h
      rw [if_pos e]
    · rename_i e
      rw [if_neg e, setH_self h]

/-- The row's own room takes what is appended. -/
theorem app_room (hr : Rel c hp U σ w) {id g len cap : Nat} {b : Blk} {xs es' : List (List AV)} {us ccs : Array Value} (hb : lk id hp = some b) (hg : σ id = some g) (m1 : w.heap[g]? = some (.cells ccs b.ty (0, 0)))
    (hri : RIs w (Sof c w σ hp) σ hp U b.e xs us) (hul : us.size = xs.length * b.e) (hcm : cap * b.e ≤ ccs.size) (hneed : len + xs.length ≤ cap) (hle : b.es.length ≤ es'.length) (hcap : es'.length ≤ cap) (hlen3 : len + xs.length ≤ es'.length)
    (hes : ∀ k r, es'[k]? = some r → (k < len ∧ b.es[k]? = some r) ∨ (len ≤ k ∧ k < len + xs.length ∧ xs[k - len]? = some r) ∨ (len + xs.length ≤ k ∧ b.es[k]? = some r))
    (hU : U id) (hK : K (.own id 0 (len + xs.length) es'.length) (setH id ⟨b.ty, b.e, es'⟩ hp)) :
    Good c K hp U N σ w (.slice (some ⟨g, 0, none⟩) (len + xs.length) cap) (w.setRow g (ccs.toList.take (len * b.e) ++ us.toList ++ ccs.toList.drop (len * b.e + us.toList.length)).toArray) := by
  obtain ⟨cc, q1, m2, m3, m4, m5⟩ := hr.at hb hg
  rw [m1] at q1
  injection q1 with q1
  injection q1 with q1
  subst q1
  have hle1 : (len + xs.length) * b.e ≤ cap * b.e := Nat.mul_le_mul_right _ hneed
  rw [Nat.add_mul] at hle1
  have hull : us.toList.length = xs.length * b.e := by omega
  have hnth : ∀ m, (ccs.toList.take (len * b.e) ++ us.toList ++ ccs.toList.drop (len * b.e + us.toList.length)).toArray[m]? =
      if m < len * b.e then ccs[m]? else if m < len * b.e + xs.length * b.e then us[m - len * b.e]? else ccs[m]? := by
    intro m
    simp only [List.getElem?_toArray, List.append_assoc]
    rw [List.getElem?_append]
    have hlt : (ccs.toList.take (len * b.e)).length = len * b.e := by grind
    rw [hlt]
    by_cases hm : m < len * b.e
    · simp [hm]
    · rw [if_neg hm, if_neg hm, List.getElem?_append]
      by_cases hm2 : m < len * b.e + xs.length * b.e
      · rw [if_pos (by omega), if_pos hm2, Array.getElem?_toList]
      · rw [if_neg (by omega), if_neg hm2, List.getElem?_drop, Array.getElem?_toList]
        congr 1
        omega
  have hrow : ∀ r, r ∈ es' → r.length = b.e := by
    intro r hr'
    obtain ⟨k, hk⟩ := List.getElem?_of_mem hr'
    rcases hes k r hk with ⟨_, h1⟩ | ⟨_, _, h1⟩ | ⟨_, h1⟩
    · grind
    · exact hri.row r (List.mem_of_getElem? h1)
    grind
  have hszn : (ccs.toList.take (len * b.e) ++ us.toList ++ ccs.toList.drop (len * b.e + us.toList.length)).toArray.size = ccs.size := by
    grind
  have hcapm : es'.length * b.e ≤ cap * b.e := Nat.mul_le_mul_right _ hcap
  obtain ⟨r1, r2⟩ := set_blk_le hr (b' := ⟨b.ty, b.e, es'⟩) hb hg rfl rfl hle ccs _ (by grind) m1 hszn
    (fun m y hy => by
      rw [hnth] at hy
      split at hy
      · exact m2 m y hy
      · split at hy
        · exact hri.one _ y hy
        · exact m2 m y hy)
    hrow
    (fun k j r y u a1 a2 a3 => by
      have hj : j < b.e := by
        grind
      rw [hnth] at a3
      rcases hes k r a1 with ⟨q1, q2⟩ | ⟨q0, q1, q2⟩ | ⟨q1, q2⟩
      · have : (k + 1) * b.e ≤ len * b.e := Nat.mul_le_mul_right _ (by omega)
        grind
      · have e1 : k * b.e = len * b.e + (k - len) * b.e := by rw [← Nat.add_mul]; congr 1; omega
        have e2 : (k - len + 1) * b.e ≤ xs.length * b.e := Nat.mul_le_mul_right _ (by omega)
        rw [Nat.add_mul, Nat.one_mul] at e2
        rw [if_neg (by omega), if_pos (by omega), show k * b.e + j - len * b.e = (k - len) * b.e + j by omega] at a3
        exact hri.is (k - len) j r y u q2 a2 a3
      · have e1 : (len + xs.length) * b.e ≤ k * b.e := Nat.mul_le_mul_right _ q1
        rw [Nat.add_mul] at e1
        rw [if_neg (by omega), if_neg (by omega)] at a3
        exact m5 k j r y u q2 a2 a3)
  refine ⟨_, _, _, hK, r1.more, r2.trans Step.more, .own _ _ _ _ _ _ (.inl hU) hneed (fun h => by cases h) fun b1 hb1 => ?_⟩
  rw [lk_setH, if_pos rfl, hb] at hb1
  simp only [Option.map_some, Option.some.injEq] at hb1
  subst hb1
  refine ⟨Nat.le_refl _, fun _ => ⟨by omega, by omega, fun _ => ⟨g, hg, by simp, ccs.size, ⟨_, setRow_heap w g ccs _ b.ty (0, 0) m1, hszn⟩, by simp only [Nat.zero_add]; exact hcm⟩⟩⟩

/-- What a call that turned nothing leaves of the caller's own memory. -/
theorem rel_below {w' : World} (hr : Rel c hp U σ w) (hb : RowKit.Below w.heap.size w w') :
    Rel c hp (unite U N) σ w' ∧ Step w (Sof c w σ hp) σ hp U w' (Sof c w' σ hp) σ hp (unite U N) := by
  have hst : Step w (Sof c w σ hp) σ hp U w' (Sof c w' σ hp) σ hp (unite U N) := by
    refine ⟨fun b h => ⟨⟨Nat.lt_of_lt_of_le h.1.1 hb.size, h.1.2⟩, h.2⟩, fun p h => hb.cell h.1.1, fun _ h => .inl h, fun id b' _ h => ⟨b', h, rfl, rfl, Nat.le_refl _, fun _ g hg => ⟨hg, fun n hn => ?_⟩⟩⟩
    obtain ⟨ccs, h1, h2⟩ := hn
    exact ⟨ccs, (hb.block _ (blk_lt (hr.at h hg))).trans h1, h2⟩
  refine ⟨⟨hr.inj, fun i b h => .inl (hr.lt i b h), fun i b h => ?_, hr.mine, hb.os.trans hr.os, hb.tape.trans hr.tape, hb.output.trans hr.output, Nat.le_trans hr.size hb.size, fun b h1 h2 => ?_⟩, hst⟩
  · rcases hr.blk i b h with h0 | ⟨g, k1, k2⟩
    · exact .inl ⟨h0.1, h0.2.keep fun _ _ _ hm => hb.block _ (map_lt hm)⟩
    · exact .inr ⟨g, k1, k2.step hst (hb.block _ (blk_lt k2))⟩
  · rw [hb.block b (Nat.lt_of_lt_of_le h1 hr.size)]
    exact hr.old b h1 h2

theorem cell_new (w : World) (C : Array Value) (t : TypeId) (j : Nat) (v : Value) (hj : C[j]? = some v) : (w.alloc (.cells C t)).cell? ⟨w.heap.size, j, none⟩ = some v := by
  simp_all

/-- What is made and never turned is read-only from its birth. -/
theorem born (hr : Rel c hp U σ w) {es : List (List DV)} {e cap : Nat} {C : Array Value} {w' : World} (hb : RowKit.Below w.heap.size w w') (hsz : w.heap.size < w'.heap.size)
    (hcell : ∀ (j : Nat) (v : Value), C[j]? = some v → w'.cell? ⟨w.heap.size, j, none⟩ = some v) (hrow : ∀ r, r ∈ es → r.length = e) (hlen : es.length * e ≤ C.size) (hcap : es.length ≤ cap)
    (his : ∀ (i j : Nat) (r : List DV) (y : DV) (x : Value), es[i]? = some r → r[j]? = some y → C[i * e + j]? = some x → DIs w (Sof c w σ hp) y x) (hK : K (.d (.ro e es)) hp) :
    Good c K hp U N σ w (.slice (some ⟨w.heap.size, 0, none⟩) es.length cap) w' := by
  obtain ⟨r1, r2⟩ := rel_below (N := N) hr hb
  have hin : ∀ (i j : Nat) (r : List DV) (y : DV), es[i]? = some r → r[j]? = some y → i * e + j < C.size := by
    intro i j r y hi hj
    have h1 := (List.getElem?_eq_some_iff.1 hi).1
    have h2 := (List.getElem?_eq_some_iff.1 hj).1
    rw [hrow r (List.mem_of_getElem? hi)] at h2
    have h3 : (i + 1) * e ≤ es.length * e := Nat.mul_le_mul_right _ h1
    grind
  refine ⟨.d (.ro e es), hp, σ, hK, r1, r2, .d (.ro e es _ cap (fun i j => C[i * e + j]!) hcap hrow (fun r hr' => ⟨_, rfl, ⟨⟨hsz, fun id blk g hi hg => ?_⟩, .inr hr.size⟩⟩) (fun ad hAd i j r y hi hj => ?_) fun i j r y hi hj => ?_)⟩
  · exact Nat.ne_of_gt (blk_lt (hr.at hi hg))
  · injection hAd with hAd
    subst hAd
    rw [add_mk, Nat.zero_add]
    grind
  · have h0 := hin i j r y hi hj
    exact (his i j r y (C[i * e + j]!) hi hj (by grind)).mono (fun b h => r2.sub b h) (fun p h => r2.cell p h)

/-- Which elements: behind the length others may stand. -/
theorem app_els {len : Nat} {es xs : List (List AV)} (hl : len ≤ es.length) (k : Nat) (r : List AV) (hk : (es.take len ++ (xs ++ es.drop (len + xs.length)))[k]? = some r) :
    (k < len ∧ es[k]? = some r) ∨ (len ≤ k ∧ k < len + xs.length ∧ xs[k - len]? = some r) ∨ (len + xs.length ≤ k ∧ es[k]? = some r) := by
  rw [List.getElem?_append] at hk
  grind

theorem app_els2 {len : Nat} {es xs : List (List AV)} (hl : len ≤ es.length) (k : Nat) (r : List AV) (hk : (es.take len ++ xs)[k]? = some r) :
    (k < len ∧ es[k]? = some r) ∨ (len ≤ k ∧ k < len + xs.length ∧ xs[k - len]? = some r) ∨ (len + xs.length ≤ k ∧ es[k]? = some r) := by
  grind

set_option maxHeartbeats 1000000 in
/-- append to a row of the call's own; what is appended comes from anywhere. -/
theorem app_own (hr : Rel c hp U σ w) {el : TypeId} {id len tot : Nat} {xs : List (List AV)} {b : Blk} {sv : Value} {i : TypeInfo} {z : Value} (hss : AIs w (Sof c w σ hp) σ hp U (.own id 0 len tot) sv) (hb : lk id hp = some b)
    (ht1 : b.es.length = tot) (ht2 : b.ty = el) (ht3 : b.e = P.cellsOf el)
    (hst : len + xs.length ≤ tot → K (.own id 0 (len + xs.length) tot) (setH id ⟨b.ty, b.e, b.es.take len ++ (xs ++ b.es.drop (len + xs.length))⟩ hp))
    (hgr : tot < len + xs.length → K (.own id 0 (len + xs.length) (len + xs.length)) (setH id ⟨b.ty, b.e, b.es.take len ++ xs⟩ hp))
    (hisz : i.size = P.cellsOf el) (hzsz : z.cells.size = P.cellsOf el) (hne : P.cellsOf el ≠ 0) (hz1 : ∀ (n : Nat) (v : Value), z.cells[n]? = some v → v.oneCell' = true)
    (zone : ∀ (z : Value) (m : Nat), (∀ (n : Nat) (v : Value), z.cells[n]? = some v → v.oneCell' = true) → z.cells.size ≠ 0 → ∀ (n : Nat) (v : Value), (Builtin.zeroCells z.cells m)[n]? = some v → v.oneCell' = true)
    (hstay : ∀ A cap, sv = .slice A len cap → len + xs.length ≤ cap → ∃ us : Array Value, us.size = xs.length * P.cellsOf el ∧ RIs w (Sof c w σ hp) σ hp U (P.cellsOf el) xs us ∧ ∀ w', (match A with | some ad => storeCells (ad.add (len * i.size)) us.toList | none => pure ()).run P w = .ok () w' → (execOp a.eval o).run P w = .ok (.value (.slice A (len + xs.length) cap)) w')
    (hgrow : ∀ A cap os, sv = .slice A len cap → ¬ (len + xs.length ≤ cap) → (Builtin.firstCells i.size len (.slice A len cap)).run P w.drew = .ok os w.drew → ∃ us : Array Value, us.size = xs.length * P.cellsOf el ∧ RIs w.drew (Sof c w.drew σ hp) σ hp U (P.cellsOf el) xs us ∧
      (execOp a.eval o).run P w = .ok (.value (.slice (some ⟨w.heap.size, 0, none⟩) (len + xs.length) (grownCap w (len + xs.length) cap el))) (w.drew.alloc (.cells (os ++ us ++ Builtin.zeroCells z.cells (grownCap w (len + xs.length) cap el - (len + xs.length))) el))) :
    OpOk P c K hp U N σ w ((execOp a.eval o).run P w) := by
  have hss' := hss
  cases hss with
  | own _ _ _ _ A cap hU hl hA0 h' =>
    obtain ⟨k1, k2⟩ := h' b hb
    obtain ⟨k3, k4, k5⟩ := k2 ht1
    by_cases hneed : len + xs.length ≤ cap
    · obtain ⟨us, hul, hri, hgo⟩ := hstay A cap rfl hneed
      rcases Nat.eq_zero_or_pos xs.length with h0 | h0
      · -- nothing
        have hx0 : xs = [] := List.eq_nil_of_length_eq_zero h0
        subst hx0
        have hu0 : us = #[] := Array.eq_empty_of_size_eq_zero (by grind)
        subst hu0
        have hr0 := hgo w (by cases A <;> simp [storeCells])
        have hh := hst (by omega)
        simp only [List.length_nil, Nat.add_zero, List.nil_append, List.take_append_drop] at hh
        rw [setH_self (b := ⟨b.ty, b.e, b.es⟩) hb] at hh
        grind [OpOk.val, Good.same]
      · obtain ⟨g, hg, hA, n, hrn, hn⟩ := k5 (by omega)
        obtain ⟨ccs, m1, m2, m3, m4, m5⟩ := hr.at hb hg
        have hnsz : ccs.size = n := by
          obtain ⟨cc, p1, p2⟩ := hrn
          grind
        rw [Nat.zero_mul] at hA
        subst hA
        have hn' : cap * b.e ≤ ccs.size := by grind
        have hle1 : (len + xs.length) * b.e ≤ cap * b.e := Nat.mul_le_mul_right _ hneed
        rw [Nat.add_mul] at hle1
        have hull : us.toList.length = xs.length * b.e := by grind
        have hsto := run_storeCells_at P g (len * b.e) b.ty us.toList 0 ccs w m1 (by omega) (fun u hu => by
          obtain ⟨j, hj⟩ := List.getElem?_of_mem hu
          exact hri.one j u (by grind))
        simp only [Nat.add_zero] at hsto
        have hr0 := hgo (w.setRow g (ccs.toList.take (len * b.e) ++ us.toList ++ ccs.toList.drop (len * b.e + us.toList.length)).toArray) (by
            simp only [add_mk, Nat.zero_add]
            rw [hisz, ← ht3]
            exact hsto)
        rw [hr0]
        have hlb : len ≤ b.es.length := by omega
        rcases Nat.lt_or_ge tot (len + xs.length) with htot | htot
        · have hK := hgr htot
          have hl' : (b.es.take len ++ xs).length = len + xs.length := by grind
          rw [← hl'] at hK
          exact app_room hr hb hg m1 (ht3 ▸ hri) (ht3 ▸ hul) hn' hneed (by omega) (by omega) (by omega) (app_els2 hlb) hU (by grind)
        · have hK := hst htot
          have hl' : (b.es.take len ++ (xs ++ b.es.drop (len + xs.length))).length = tot := by grind
          exact app_room hr hb hg m1 (ht3 ▸ hri) (ht3 ▸ hul) hn' hneed (by omega) (by omega) (by omega) (app_els hlb) hU (by grind)
    · -- a new place
      clear k5 k2
      have hrd := rel_drew hr
      have hso : rowsOf hp (P.cellsOf el) (.own id 0 len tot) = some (b.es.take len) := by
        grind [rowsOf]
      obtain ⟨A2, k', hA2, os, hos, hol, hro, _⟩ := rows_is hrd (hss'.step step_drew) hso
      have htl : (b.es.take len).length = len := by simp; omega
      rw [htl] at hA2 hos
      injection hA2 with e1 _ e3
      subst e1
      subst e3
      obtain ⟨us, hul, hri, hr0⟩ := hgrow A cap os rfl hneed (by rw [hisz]; exact hos)
      have hge := grownCap_ge w (len + xs.length) cap el
      have hrows := rows_append (rest := Builtin.zeroCells z.cells (grownCap w (len + xs.length) cap el - (len + xs.length))) hro hol hri (zone z _ hz1 (by omega))
      have hK := hgr (by omega)
      have hl' : (b.es.take len ++ xs).length = len + xs.length := by simp; omega
      have hgt : b.es.length < (b.es.take len ++ xs).length := by omega
      have hsz : (os ++ us ++ Builtin.zeroCells z.cells (grownCap w (len + xs.length) cap el - (len + xs.length))).size = grownCap w (len + xs.length) cap el * P.cellsOf el := by
        simp only [Array.size_append, size_zeroCells, hzsz, hol, hul, htl, ← Nat.add_mul]
        congr 1
        omega
      obtain ⟨r1, r2⟩ := move_blk hrd (b' := ⟨b.ty, b.e, b.es.take len ++ xs⟩) hb rfl rfl hgt _ hrows.one (by rw [ht3]; exact hrows.row) (by rw [ht3]; exact hrows.len) (by rw [ht3]; exact hrows.is)
      rw [hr0, ← ht2]
      rw [← ht2] at r1 r2
      refine ⟨_, _, _, hK, r1.more, step_drew.trans (r2.trans Step.more), .own _ _ _ _ _ _ (.inl hU) (by rw [ht2]; exact hge) (fun h => by cases h) fun b1 hb1 => ?_⟩
      rw [lk_setH, if_pos rfl, hb] at hb1
      simp only [Option.map_some, Option.some.injEq] at hb1
      subst hb1
      refine ⟨Nat.le_of_eq hl'.symm, fun _ => ⟨by omega, by rw [ht2]; omega, fun _ => ⟨w.heap.size, by simp, by simp, _, ⟨_, heap_alloc_new w.drew _, rfl⟩, ?_⟩⟩⟩
      simp only [Nat.zero_add]
      rw [ht2, hsz, ht3]
      exact Nat.le_refl _

set_option maxHeartbeats 1000000 in
theorem s_append (hr : Rel c hp U σ w) (E : ∀ x, AIs w (Sof c w σ hp) σ hp U (ev fr x) (a.eval x)) (hN : Free U N) {ts tx : TypeId} {s x : Operand} {cl : Call} (hop : o.op = .call cl) (hc : cl.callee = .builtin .append) (ha : cl.args.toList = [s, x]) (ht : cl.argTypes.toList = [ts, tx])
    (hint : ∀ el id i0 len tot k n z, tyk P ts = .slice el → tyk P tx = .scal → ev fr s = .own id i0 len tot → ev fr x = .d (.int k n) → ikind P tx = some k → 0 ≤ n → n ≤ 4294967296 → P.bytesOf el * n ≤ 281474976710656 → tzO P el = some z → appendW P el (.own id i0 len tot) (some (List.replicate n.toNat z)) N K hp → OpOk P c K hp U N σ w ((execOp a.eval o).run P w))
    (h : biW P fr hp N .append [s, x] [ts, tx] K) : OpOk P c K hp U N σ w ((execOp a.eval o).run P w) := by
  simp only [biW] at h
  have ha' : cl.args = #[s, x] := by grind
  have ht' : cl.argTypes = #[ts, tx] := by grind
  have run : ∀ (v : Value) (w' : World), (Builtin.append_ #[ts, tx] o.type #[a.eval s, a.eval x]).run P w = .ok v w' → (execOp a.eval o).run P w = .ok (.value v) w' := by
    intro v w' hv
    simp [execOp, hop, resolve, hc, ha', ht', invoke, builtin, hv]
  split at h
  · rename_i el el2 hks hkx
    have hts := tyk_slice hks
    have htx := tyk_slice hkx
    have hxx := E x
    have hss := E s
    generalize hxv : a.eval x = xv at hxx run
    generalize hsv : a.eval s = sv at hss run
    generalize ev fr x = xa at hxx h
    generalize ev fr s = sa at hss h
    -- facts of the element's type
    have info : ∀ (q : (tzO P el).isSome = true), ∃ i z, P.info? el = some i ∧ i.zero = some z ∧ i.size = P.cellsOf el ∧ i.bytes = P.bytesOf el ∧ z.cells.size = P.cellsOf el ∧ P.cellsOf el ≠ 0 ∧ ∀ (n : Nat) (v : Value), z.cells[n]? = some v → v.oneCell' = true := by
      intro q
      obtain ⟨z', hz'⟩ := Option.isSome_iff_exists.1 q
      obtain ⟨v, i, hi, hz, hs, hne, _, hl⟩ := zeroV (w := w) (S := fun _ => True) (σ := σ) (hp := hp) (U := U) hz'
      exact ⟨i, v, hi, hz, by simp [Program.cellsOf, hi], by simp [Program.bytesOf, hi], hs, hne, hl.one⟩
    have zone : ∀ (z : Value) (m : Nat), (∀ (n : Nat) (v : Value), z.cells[n]? = some v → v.oneCell' = true) → z.cells.size ≠ 0 → ∀ (n : Nat) (v : Value), (Builtin.zeroCells z.cells m)[n]? = some v → v.oneCell' = true := by
      intro z m hz1 hz0 n v hv
      unfold Builtin.zeroCells at hv
      simp only [Array.getElem?_map, Option.map_eq_some_iff] at hv
      obtain ⟨k, _, rfl⟩ := hv
      have hlt : k % z.cells.size < z.cells.size := Nat.mod_lt _ (by omega)
      exact hz1 (k % z.cells.size) _ (by grind)
    unfold appendW at h
    split at h
    · -- from nil
      rename_i xs hxs
      obtain ⟨q, hby, hfit, h⟩ := h
      obtain ⟨i, z, hi, hz, hisz, hiby, hzsz, hne, hz1⟩ := info q
      cases hss with
      | nil =>
        rcases Nat.eq_zero_or_pos xs.length with h0 | h0
        · have hx0 : xs = [] := List.eq_nil_of_length_eq_zero h0
          subst hx0
          obtain ⟨A, k, rfl, us, hus, hul, hri, _⟩ := rows_is hr hxx hxs
          have hr0 := run_app_stay (ty := o.type) (base := none) (sLen := 0) (sCap := 0) (w' := w) hts htx hi (hisz ▸ hus) (by simp) (by simp)
          obtain ⟨g1, g2⟩ := none_blk hr hN ⟨el, P.cellsOf el, []⟩ rfl
          rw [run _ _ hr0]
          refine ⟨_, _, _, h, g1, g2, .own N 0 0 0 _ _ unite_N (Nat.le_refl _) (fun _ => rfl) fun b hb => ?_⟩
          omega
        · have hrd := rel_drew hr
          obtain ⟨A, k, rfl, us, hus, hul, hri, _⟩ := rows_is hrd (hxx.step step_drew) hxs
          have hr0 := run_app_grow (ty := o.type) (base := none) (sLen := 0) (sCap := 0) (os := #[]) hts htx hi hz (hisz ▸ hus) (by simp [Builtin.firstCells]) (by omega) (by omega) (by grind)
          rw [run _ _ hr0]
          simp only [Nat.zero_add]
          have hge := grownCap_ge w xs.length 0 el
          have hrows := rows_append (rest := Builtin.zeroCells z.cells (grownCap w xs.length 0 el - xs.length)) (r1 := []) (x1 := #[]) (w := w.drew) ⟨by simp, by simp, by simp, by simp⟩ (by simp) hri (zone z _ hz1 (by omega))
          rw [List.nil_append] at hrows
          have hG := new_row (K := K) hrd hN (el := el) hrows hge (by simp [size_zeroCells, hzsz, hul, ← Nat.add_mul]; rw [show xs.length + (grownCap w xs.length 0 el - xs.length) = grownCap w xs.length 0 el by omega]; exact Nat.le_refl _) h
          obtain ⟨v, hp', σ', k1, k2, k3, k4⟩ := hG
          exact ⟨v, hp', σ', k1, k2, step_drew.trans k3, k4⟩
    · -- from a row of the call's own
      rename_i id len tot xs hxs
      split at h
      · rename_i b hb
        obtain ⟨ht1, ht2, ht3, q, hby, hfit, hst, hgr⟩ := h
        obtain ⟨i, z, hi, hz, hisz, hiby, hzsz, hne, hz1⟩ := info q
        refine app_own (i := i) (z := z) hr hss hb ht1 ht2 ht3 hst hgr hisz hzsz hne hz1 zone (fun A cap e hneed => ?_) (fun A cap os e hneed hos => ?_)
        · subst e
          obtain ⟨B, k, rfl, us, hus, hul, hri, _⟩ := rows_is hr hxx hxs
          exact ⟨us, hul, hri, fun w' hsto => run _ _ (run_app_stay (ty := o.type) hts htx hi (hisz ▸ hus) hneed hsto)⟩
        · subst e
          have hrd := rel_drew hr
          obtain ⟨B, k, rfl, us, hus, hul, hri, _⟩ := rows_is hrd (hxx.step step_drew) hxs
          exact ⟨us, hul, hri, run _ _ (run_app_grow (ty := o.type) hts htx hi hz (hisz ▸ hus) hos (by omega) (by omega) (by rw [hiby]; exact hfit))⟩
      · exact h.elim
    · -- from one whose room ends where it ends
      rename_i e es xs hxs
      obtain ⟨he, q, hby, hfit, h⟩ := h
      obtain ⟨i, z, hi, hz, hisz, hiby, hzsz, hne, hz1⟩ := info q
      cases hss with
      | d hd0 =>
        cases hd0 with
        | rof _ _ A vs hel hA hv1 hdd =>
          rcases h with ⟨ds, rfl, h⟩ | ⟨hnx, h⟩
          · rcases Nat.eq_zero_or_pos ds.length with h0 | h0
            · have hx0 : ds = [] := List.eq_nil_of_length_eq_zero h0
              subst hx0
              obtain ⟨B, k, rfl, us, hus, hul, hri, _⟩ := rows_is hr hxx hxs
              have hu0 : us = #[] := Array.eq_empty_of_size_eq_zero (by grind)
              subst hu0
              have hr0 := run_app_stay (ty := o.type) (base := A) (sLen := es.length) (sCap := es.length) (w' := w) hts htx hi (hisz ▸ hus) (by simp) (by cases A <;> simp [storeCells])
              rw [List.append_nil] at h
              exact OpOk.val (run _ _ hr0) (Good.same hr h (.d (.ro e es A _ vs (Nat.le_refl _) hel hA hv1 hdd)))
            · have hrd := rel_drew hr
              obtain ⟨B, k, rfl, us, hus, hul, hri, _⟩ := rows_is hrd (hxx.step step_drew) hxs
              have hb0 : AIs w (Sof c w σ hp) σ hp U (.d (.ro e es)) (.slice A es.length es.length) := .d (.ro e es A _ vs (Nat.le_refl _) hel hA hv1 hdd)
              obtain ⟨A2, k', hA2, os, hos, hol, hro, _⟩ := rows_is hrd (hb0.step step_drew) (sz := P.cellsOf el) (xs := es.map fun r => r.map AV.d) (by simp only [rowsOf]; rw [if_pos he])
              rw [List.length_map] at hA2 hos
              have hln : (ds.map fun r => r.map AV.d).length = ds.length := List.length_map _
              injection hA2 with e1 _ e3
              subst e1
              subst e3
              have hr0 := run_app_grow (ty := o.type) (base := A) (sLen := es.length) (sCap := es.length) hts htx hi hz (hisz ▸ hus) (hisz ▸ hos) (by omega) (by omega) (by rw [hiby]; exact hfit)
              have hr1 := run _ _ hr0
              rw [hln] at hr1
              have hge := grownCap_ge w (es.length + ds.length) es.length el
              have hrows := rows_append (rest := Builtin.zeroCells z.cells (grownCap w (es.length + ds.length) es.length el - (es.length + ds.length))) hro hol hri (zone z _ hz1 (by omega))
              rw [hr1]
              have hG := born (N := N) (K := K) (es := es ++ ds) (e := e) (cap := grownCap w (es.length + ds.length) es.length el) (C := os ++ us ++ Builtin.zeroCells z.cells (grownCap w (es.length + ds.length) es.length el - (es.length + ds.length))) (w' := w.drew.alloc (.cells (os ++ us ++ Builtin.zeroCells z.cells (grownCap w (es.length + ds.length) es.length el - (es.length + ds.length))) el)) hr ⟨rfl, rfl, rfl, by simp [World.size_alloc], fun b hb => heap_alloc_lt w.drew _ b hb⟩ (by rw [World.size_alloc]; exact Nat.lt_succ_self _) (fun j v hj => ?_) (fun r hr' => ?_) ?_ (by rw [List.length_append]; exact hge) (fun i' j r y x hi' hj hx => ?_) h
              · rw [List.length_append] at hG
                exact hG
              · exact cell_new w.drew _ _ j v hj
              · have := hrows.row (r.map AV.d) (by rw [← List.map_append]; exact List.mem_map_of_mem hr')
                rw [List.length_map] at this
                rw [this, he]
              · have := hrows.len
                rw [← List.map_append, List.length_map] at this
                rw [he]
                exact this
              · have h1 := hrows.is i' j (r.map AV.d) (.d y) x (by rw [← List.map_append, List.getElem?_map, hi']; rfl) (by rw [List.getElem?_map, hj]; rfl) (by rw [← he]; exact hx)
                cases h1 with
                | d h1 => exact DIs.mono (w := w.drew) (w' := w) (S := Sof c w.drew σ hp) (S' := Sof c w σ hp) (fun _ h => h) (fun _ _ => rfl) h1
          · have h0 : 0 < xs.length := List.length_pos_iff.2 hnx
            have hrd := rel_drew hr
            obtain ⟨B, k, rfl, us, hus, hul, hri, _⟩ := rows_is hrd (hxx.step step_drew) hxs
            have hb0 : AIs w (Sof c w σ hp) σ hp U (.d (.ro e es)) (.slice A es.length es.length) := .d (.ro e es A _ vs (Nat.le_refl _) hel hA hv1 hdd)
            obtain ⟨A2, k', hA2, os, hos, hol, hro, _⟩ := rows_is hrd (hb0.step step_drew) (sz := P.cellsOf el) (xs := es.map fun r => r.map AV.d) (by simp only [rowsOf]; rw [if_pos he])
            rw [List.length_map] at hA2 hos
            injection hA2 with e1 _ e3
            subst e1
            subst e3
            have hr0 := run_app_grow (ty := o.type) (base := A) (sLen := es.length) (sCap := es.length) hts htx hi hz (hisz ▸ hus) (hisz ▸ hos) (by omega) (by omega) (by rw [hiby]; exact hfit)
            have hge := grownCap_ge w (es.length + xs.length) es.length el
            have hrows := rows_append (rest := Builtin.zeroCells z.cells (grownCap w (es.length + xs.length) es.length el - (es.length + xs.length))) hro hol hri (zone z _ hz1 (by omega))
            have hln : ((es.map fun r => r.map AV.d) ++ xs).length = es.length + xs.length := by rw [List.length_append, List.length_map]
            rw [List.length_map] at hol
            rw [run _ _ hr0]
            have hG := new_row (K := K) hrd hN (el := el) (cap := grownCap w (es.length + xs.length) es.length el) hrows (by rw [hln]; exact hge) (by
              simp only [Array.size_append, size_zeroCells, hzsz, hol, hul, ← Nat.add_mul]
              rw [show es.length + xs.length + (grownCap w (es.length + xs.length) es.length el - (es.length + xs.length)) = grownCap w (es.length + xs.length) es.length el by omega]
              exact Nat.le_refl _) (by rw [hln]; exact h)
            rw [hln] at hG
            obtain ⟨v, hp', σ', k1, k2, k3, k4⟩ := hG
            exact ⟨v, hp', σ', k1, k2, step_drew.trans k3, k4⟩
    · -- from a part of a row that has no room left
      rename_i id i0 off e len cap tot xs hxs
      obtain ⟨hgt, q, hby, hfit, h⟩ := h
      split at h
      · rename_i rs hrs
        obtain ⟨i, z, hi, hz, hisz, hiby, hzsz, hne, hz1⟩ := info q
        have hss' := hss
        cases hss with
        | sub _ _ _ _ _ _ _ A hU hl hA0 h' =>
          have hrd := rel_drew hr
          obtain ⟨B, k, rfl, us, hus, hul, hri, _⟩ := rows_is hrd (hxx.step step_drew) hxs
          obtain ⟨A2, k', hA2, os, hos, hol, hro, _⟩ := rows_is hrd (hss'.step step_drew) hrs
          injection hA2 with e1 e2 e3
          subst e1
          subst e3
          rw [← e2] at hos hol
          have hr0 := run_app_grow (ty := o.type) (base := A) (sLen := len) (sCap := cap) hts htx hi hz (hisz ▸ hus) (hisz ▸ hos) hgt (by rw [hiby]; exact hby) (by rw [hiby]; exact hfit)
          have hge := grownCap_ge w (len + xs.length) cap el
          have hol' : os.size = rs.length * P.cellsOf el := by rw [← e2]; exact hol
          have hrows := rows_append (rest := Builtin.zeroCells z.cells (grownCap w (len + xs.length) cap el - (len + xs.length))) hro hol' hri (zone z _ hz1 (by omega))
          have hln : (rs ++ xs).length = len + xs.length := by rw [List.length_append, ← e2]
          rw [run _ _ hr0]
          have hG := new_row (K := K) hrd hN (el := el) (cap := grownCap w (len + xs.length) cap el) hrows (by rw [hln]; exact hge) (by
            simp only [Array.size_append, size_zeroCells, hzsz, hol, hul, ← Nat.add_mul]
            rw [show len + xs.length + (grownCap w (len + xs.length) cap el - (len + xs.length)) = grownCap w (len + xs.length) cap el by omega]
            exact Nat.le_refl _) (by rw [hln]; exact h)
          rw [hln] at hG
          obtain ⟨v, hp', σ', k1, k2, k3, k4⟩ := hG
          exact ⟨v, hp', σ', k1, k2, step_drew.trans k3, k4⟩
      · exact h.elim
    · exact h.elim
  · rename_i el hks hkx
    split at h
    · rename_i id i0 len tot k n k' hs hx hk
      obtain ⟨rfl, h0, h1, h2, h⟩ := h
      split at h
      · rename_i z hz
        exact hint el id i0 len tot k n z hks hkx hs hx hk h0 h1 h2 hz h
      · exact h.elim
    · exact h.elim
  · exact h.elim

end
end Go.Am
