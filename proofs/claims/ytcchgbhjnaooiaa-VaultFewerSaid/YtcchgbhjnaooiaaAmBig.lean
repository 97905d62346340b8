/-
  AM, part 6d: append; all operations in one.
-/
import Derived.Test.YtcchgbhjnaooiaaAmApp
namespace Go.Am
set_option linter.unusedVariables false

section
variable {P : Program} {c : Ctx} {K : AV → Hp → Prop} {fr : Fr} {hp : Hp} {U : Nat → Prop} {N : Nat} {σ : Nat → Option Nat} {w : World} {a : Act} {o : Oper} {S : Nat → Prop}

theorem step_drew : Step w (Sof c w σ hp) σ hp U w.drew (Sof c w.drew σ hp) σ hp U :=
  ⟨fun _ h => h, fun _ _ => rfl, fun _ h => h, fun id b' _ h => ⟨b', h, rfl, rfl, Nat.le_refl _, fun _ g hg => ⟨hg, fun _ h => h⟩⟩⟩

theorem rel_drew (hr : Rel c hp U σ w) : Rel c hp U σ w.drew := by
  refine ⟨hr.inj, hr.lt, fun i b h => ?_, hr.mine, hr.os, hr.tape, hr.output, hr.size, hr.old⟩
  rcases hr.blk i b h with h0 | ⟨g, hg, hb⟩
  · exact .inl h0
  · exact .inr ⟨g, hg, hb.step step_drew rfl⟩

theorem rows_append {sz : Nat} {r1 r2 : List (List AV)} {x1 x2 rest : Array Value} (h1 : RIs w S σ hp U sz r1 x1) (hx1 : x1.size = r1.length * sz) (h2 : RIs w S σ hp U sz r2 x2) (hr : ∀ (i : Nat) (x : Value), rest[i]? = some x → x.oneCell' = true) :
    RIs w S σ hp U sz (r1 ++ r2) (x1 ++ x2 ++ rest) := by
  have l1 := h1.len
  have l2 := h2.len
  refine ⟨by simp [Nat.add_mul]; omega, fun r hr' => ?_, fun i x hx => ?_, fun i j r y x hi hj hx => ?_⟩
  · rcases List.mem_append.1 hr' with h | h
    · exact h1.row r h
    · exact h2.row r h
  · rw [Array.getElem?_append] at hx
    split at hx
    · rw [Array.getElem?_append] at hx
      split at hx
      · exact h1.one _ _ hx
      · exact h2.one _ _ hx
    · exact hr _ _ hx
  · rw [List.getElem?_append] at hi
    split at hi
    · rename_i hlt
      have hjl : j < sz := by
        have := (List.getElem?_eq_some_iff.1 hj).1
        rw [h1.row r (List.mem_of_getElem? hi)] at this
        exact this
      have hlt2 : i * sz + j < x1.size := by
        have : (i + 1) * sz ≤ r1.length * sz := Nat.mul_le_mul_right _ (by omega)
        rw [Nat.add_mul, Nat.one_mul] at this
        omega
      rw [Array.getElem?_append, if_pos (by simp; omega), Array.getElem?_append, if_pos hlt2] at hx
      exact h1.is i j r y x hi hj hx
    · rename_i hge
      have hjl : j < sz := by
        have := (List.getElem?_eq_some_iff.1 hj).1
        rw [h2.row r (List.mem_of_getElem? hi)] at this
        exact this
      have hil := (List.getElem?_eq_some_iff.1 hi).1
      have hm : (i - r1.length) * sz + j < r2.length * sz := by
        have : (i - r1.length + 1) * sz ≤ r2.length * sz := Nat.mul_le_mul_right _ (by omega)
        rw [Nat.add_mul, Nat.one_mul] at this
        omega
      have hsub : i * sz = r1.length * sz + (i - r1.length) * sz := by
        rw [← Nat.add_mul]
        congr 1
        omega
      rw [Array.getElem?_append, if_pos (by simp; omega), Array.getElem?_append, if_neg (by omega)] at hx
      rw [show i * sz + j - x1.size = (i - r1.length) * sz + j by omega] at hx
      exact h2.is _ j r y x hi hj hx

section
variable {ts tx ty el el2 : TypeId} {i : TypeInfo} {z : Value}

theorem run_app_stay (hts : P.underlying ts = some (.slice el)) (htx : P.underlying tx = some (.slice el2)) (hi : P.info? el = some i) {base : Option Addr} {sLen sCap n k : Nat} {B : Option Addr} {us : Array Value} {w' : World}
    (hf : (Builtin.firstCells i.size n (.slice B n k)).run P w = .ok us w) (hneed : sLen + n ≤ sCap) (hsto : (match base with | some a => storeCells (a.add (sLen * i.size)) us.toList | none => pure ()).run P w = .ok () w') :
    (Builtin.append_ #[ts, tx] ty #[.slice base sLen sCap, .slice B n k]).run P w = .ok (.slice base (sLen + n) sCap) w' := by
  cases base with
  | none =>
    simp at hsto
    subst hsto
    simp [Builtin.append_, run_underlying hts, run_underlying htx, sizeOf, typeInfo, hi, Builtin.lenOf, hneed, hf]
  | some ad =>
    simp only at hsto
    simp [Builtin.append_, run_underlying hts, run_underlying htx, sizeOf, typeInfo, hi, Builtin.lenOf, hneed, hf, hsto]

theorem run_app_grow (hts : P.underlying ts = some (.slice el)) (htx : P.underlying tx = some (.slice el2)) (hi : P.info? el = some i) (hz : i.zero = some z) {base : Option Addr} {sLen sCap n k : Nat} {B : Option Addr} {us os : Array Value}
    (hf : (Builtin.firstCells i.size n (.slice B n k)).run P w.drew = .ok us w.drew) (hfo : (Builtin.firstCells i.size sLen (.slice base sLen sCap)).run P w.drew = .ok os w.drew) (hneed : sCap < sLen + n) (hb : i.bytes ≠ 0) (hfit : (sLen + n) * i.bytes ≤ 140737488355328) :
    (Builtin.append_ #[ts, tx] ty #[.slice base sLen sCap, .slice B n k]).run P w = .ok (.slice (some ⟨w.heap.size, 0, none⟩) (sLen + n) (grownCap w (sLen + n) sCap el))
        (w.drew.alloc (.cells (os ++ us ++ Builtin.zeroCells z.cells (grownCap w (sLen + n) sCap el - (sLen + n))) el)) := by
  have hn : ¬ (sLen + n ≤ sCap) := by omega
  have h48' : ¬ (281474976710656 < Builtin.nextslicecap (sLen + n) sCap * i.bytes) := by
    have := growslice_fits hneed hfit
    omega
  simp [Builtin.append_, run_underlying hts, run_underlying htx, sizeOf, typeInfo, zeroValue, hi, hz, Builtin.lenOf, hn, hb, h48', Question.forced, hf, hfo, newRow, grownCap]
end

theorem setH_self {id : Nat} {b : Blk} : ∀ {hp : Hp}, lk id hp = some b → setH id b hp = hp
  | [], h => by cases h
  | (m, v) :: t, h => by
    simp only [lk] at h
    simp only [setH]
    split at h
    · rename_i e
      injection h with h
      subst h
      rw [if_pos e]
    · rename_i e
      rw [if_neg e, setH_self h]

/-- The row's own room takes what is appended. -/
theorem app_room (hr : Rel c hp U σ w) {id g len cap : Nat} {b : Blk} {xs es' : List (List AV)} {us ccs : Array Value} (hb : lk id hp = some b) (hg : σ id = some g) (m1 : w.heap[g]? = some (.cells ccs b.ty (0, 0)))
    (hri : RIs w (Sof c w σ hp) σ hp U b.e xs us) (hul : us.size = xs.length * b.e) (hcm : cap * b.e ≤ ccs.size) (hneed : len + xs.length ≤ cap) (hle : b.es.length ≤ es'.length) (hcap : es'.length ≤ cap) (hlen3 : len + xs.length ≤ es'.length)
    (hes : ∀ k r, es'[k]? = some r → (k < len ∧ b.es[k]? = some r) ∨ (len ≤ k ∧ k < len + xs.length ∧ xs[k - len]? = some r) ∨ (len + xs.length ≤ k ∧ b.es[k]? = some r))
    (hU : U id) (hK : K (.own id 0 (len + xs.length) es'.length) (setH id ⟨b.ty, b.e, es'⟩ hp)) :
    Good c K hp U N σ w (.slice (some ⟨g, 0, none⟩) (len + xs.length) cap) (w.setRow g (ccs.toList.take (len * b.e) ++ us.toList ++ ccs.toList.drop (len * b.e + us.toList.length)).toArray) := by
  obtain ⟨cc, q1, m2, m3, m4, m5⟩ := hr.at hb hg
  rw [m1] at q1
  injection q1 with q1
  injection q1 with q1
  subst q1
  have hle1 : (len + xs.length) * b.e ≤ cap * b.e := Nat.mul_le_mul_right _ hneed
  rw [Nat.add_mul] at hle1
  have hull : us.toList.length = xs.length * b.e := by simpa using hul
  have hnth : ∀ m, (ccs.toList.take (len * b.e) ++ us.toList ++ ccs.toList.drop (len * b.e + us.toList.length)).toArray[m]? =
      if m < len * b.e then ccs[m]? else if m < len * b.e + xs.length * b.e then us[m - len * b.e]? else ccs[m]? := by
    intro m
    simp only [List.getElem?_toArray, List.append_assoc]
    rw [List.getElem?_append]
    have hlt : (ccs.toList.take (len * b.e)).length = len * b.e := by simp; omega
    rw [hlt]
    by_cases hm : m < len * b.e
    · simp [hm]
    · rw [if_neg hm, if_neg hm, List.getElem?_append]
      by_cases hm2 : m < len * b.e + xs.length * b.e
      · rw [if_pos (by omega), if_pos hm2, Array.getElem?_toList]
      · rw [if_neg (by omega), if_neg hm2, List.getElem?_drop, Array.getElem?_toList]
        congr 1
        omega
  have hrow : ∀ r, r ∈ es' → r.length = b.e := by
    intro r hr'
    obtain ⟨k, hk⟩ := List.getElem?_of_mem hr'
    rcases hes k r hk with ⟨_, h1⟩ | ⟨_, _, h1⟩ | ⟨_, h1⟩
    · exact m3 r (List.mem_of_getElem? h1)
    · exact hri.row r (List.mem_of_getElem? h1)
    · exact m3 r (List.mem_of_getElem? h1)
  have hszn : (ccs.toList.take (len * b.e) ++ us.toList ++ ccs.toList.drop (len * b.e + us.toList.length)).toArray.size = ccs.size := by
    simp only [List.size_toArray, List.length_append, List.length_take, List.length_drop, hull, Array.length_toList]
    omega
  have hcapm : es'.length * b.e ≤ cap * b.e := Nat.mul_le_mul_right _ hcap
  obtain ⟨r1, r2⟩ := set_blk_le hr (b' := ⟨b.ty, b.e, es'⟩) hb hg rfl rfl hle ccs _ (by rw [hszn]; exact Nat.le_trans hcapm hcm) m1 hszn
    (fun m y hy => by
      rw [hnth] at hy
      split at hy
      · exact m2 m y hy
      · split at hy
        · exact hri.one _ y hy
        · exact m2 m y hy)
    hrow
    (fun k j r y u a1 a2 a3 => by
      have hj : j < b.e := by
        have := (List.getElem?_eq_some_iff.1 a2).1
        rw [hrow r (List.mem_of_getElem? a1)] at this
        exact this
      rw [hnth] at a3
      rcases hes k r a1 with ⟨q1, q2⟩ | ⟨q0, q1, q2⟩ | ⟨q1, q2⟩
      · have : (k + 1) * b.e ≤ len * b.e := Nat.mul_le_mul_right _ (by omega)
        rw [Nat.add_mul, Nat.one_mul] at this
        rw [if_pos (by omega)] at a3
        exact m5 k j r y u q2 a2 a3
      · have e1 : k * b.e = len * b.e + (k - len) * b.e := by rw [← Nat.add_mul]; congr 1; omega
        have e2 : (k - len + 1) * b.e ≤ xs.length * b.e := Nat.mul_le_mul_right _ (by omega)
        rw [Nat.add_mul, Nat.one_mul] at e2
        rw [if_neg (by omega), if_pos (by omega), show k * b.e + j - len * b.e = (k - len) * b.e + j by omega] at a3
        exact hri.is (k - len) j r y u q2 a2 a3
      · have e1 : (len + xs.length) * b.e ≤ k * b.e := Nat.mul_le_mul_right _ q1
        rw [Nat.add_mul] at e1
        rw [if_neg (by omega), if_neg (by omega)] at a3
        exact m5 k j r y u q2 a2 a3)
  refine ⟨_, _, _, hK, r1.more, r2.trans Step.more, .own _ _ _ _ _ _ (.inl hU) hneed (fun h => by cases h) fun b1 hb1 => ?_⟩
  rw [lk_setH, if_pos rfl, hb] at hb1
  simp only [Option.map_some, Option.some.injEq] at hb1
  subst hb1
  refine ⟨Nat.le_refl _, fun _ => ⟨by omega, by omega, fun _ => ⟨g, hg, by simp, ccs.size, ⟨_, setRow_heap w g ccs _ b.ty (0, 0) m1, hszn⟩, by simp only [Nat.zero_add]; exact hcm⟩⟩⟩

/-- Which elements: behind the length others may stand. -/
theorem app_els {len : Nat} {es xs : List (List AV)} (hl : len ≤ es.length) (k : Nat) (r : List AV) (hk : (es.take len ++ (xs ++ es.drop (len + xs.length)))[k]? = some r) :
    (k < len ∧ es[k]? = some r) ∨ (len ≤ k ∧ k < len + xs.length ∧ xs[k - len]? = some r) ∨ (len + xs.length ≤ k ∧ es[k]? = some r) := by
  rw [List.getElem?_append] at hk
  have hlt : (es.take len).length = len := by simp; omega
  rw [hlt] at hk
  split at hk
  · rename_i hkl
    rw [List.getElem?_take, if_pos hkl] at hk
    exact .inl ⟨hkl, hk⟩
  · rename_i hkl
    rw [List.getElem?_append] at hk
    split at hk
    · exact .inr (.inl ⟨by omega, by omega, hk⟩)
    · rw [List.getElem?_drop] at hk
      refine .inr (.inr ⟨by omega, ?_⟩)
      rw [show k = len + xs.length + (k - len - xs.length) by omega]
      exact hk

theorem app_els2 {len : Nat} {es xs : List (List AV)} (hl : len ≤ es.length) (k : Nat) (r : List AV) (hk : (es.take len ++ xs)[k]? = some r) :
    (k < len ∧ es[k]? = some r) ∨ (len ≤ k ∧ k < len + xs.length ∧ xs[k - len]? = some r) ∨ (len + xs.length ≤ k ∧ es[k]? = some r) := by
  rw [List.getElem?_append] at hk
  have hlt : (es.take len).length = len := by simp; omega
  rw [hlt] at hk
  split at hk
  · rename_i hkl
    rw [List.getElem?_take, if_pos hkl] at hk
    exact .inl ⟨hkl, hk⟩
  · rename_i hkl
    have := (List.getElem?_eq_some_iff.1 hk).1
    exact .inr (.inl ⟨by omega, by omega, hk⟩)

set_option maxHeartbeats 1000000 in
theorem s_append (hr : Rel c hp U σ w) (E : ∀ x, AIs w (Sof c w σ hp) σ hp U (ev fr x) (a.eval x)) (hN : ¬ U N) {ts tx : TypeId} {s x : Operand} {cl : Call} (hop : o.op = .call cl) (hc : cl.callee = .builtin .append) (ha : cl.args.toList = [s, x]) (ht : cl.argTypes.toList = [ts, tx])
    (h : biW P fr hp N .append [s, x] [ts, tx] K) : OpOk P c K hp U N σ w ((execOp a.eval o).run P w) := by
  simp only [biW] at h
  have ha' : cl.args = #[s, x] := by rw [← Array.toArray_toList (xs := cl.args), ha]
  have ht' : cl.argTypes = #[ts, tx] := by rw [← Array.toArray_toList (xs := cl.argTypes), ht]
  have run : ∀ (v : Value) (w' : World), (Builtin.append_ #[ts, tx] o.type #[a.eval s, a.eval x]).run P w = .ok v w' → (execOp a.eval o).run P w = .ok (.value v) w' := by
    intro v w' hv
    simp [execOp, hop, resolve, hc, ha', ht', invoke, builtin, hv]
  split at h
  · rename_i el el2 hks hkx
    have hts := tyk_slice hks
    have htx := tyk_slice hkx
    have hxx := E x
    have hss := E s
    generalize hxv : a.eval x = xv at hxx run
    generalize hsv : a.eval s = sv at hss run
    generalize ev fr x = xa at hxx h
    generalize ev fr s = sa at hss h
    -- facts of the element's type
    have info : ∀ (q : (tzO P el).isSome = true), ∃ i z, P.info? el = some i ∧ i.zero = some z ∧ i.size = P.cellsOf el ∧ i.bytes = P.bytesOf el ∧ z.cells.size = P.cellsOf el ∧ P.cellsOf el ≠ 0 ∧ ∀ (n : Nat) (v : Value), z.cells[n]? = some v → v.oneCell' = true := by
      intro q
      obtain ⟨z', hz'⟩ := Option.isSome_iff_exists.1 q
      obtain ⟨v, i, hi, hz, hs, hne, _, hl⟩ := zeroV (w := w) (S := fun _ => True) (σ := σ) (hp := hp) (U := U) hz'
      exact ⟨i, v, hi, hz, by simp [Program.cellsOf, hi], by simp [Program.bytesOf, hi], hs, hne, hl.one⟩
    have zone : ∀ (z : Value) (m : Nat), (∀ (n : Nat) (v : Value), z.cells[n]? = some v → v.oneCell' = true) → z.cells.size ≠ 0 → ∀ (n : Nat) (v : Value), (Builtin.zeroCells z.cells m)[n]? = some v → v.oneCell' = true := by
      intro z m hz1 hz0 n v hv
      unfold Builtin.zeroCells at hv
      simp only [Array.getElem?_map, Option.map_eq_some_iff] at hv
      obtain ⟨k, _, rfl⟩ := hv
      have hlt : k % z.cells.size < z.cells.size := Nat.mod_lt _ (by omega)
      exact hz1 (k % z.cells.size) _ (by simp [hlt])
    unfold appendW at h
    split at h
    · -- from nil
      rename_i xs hxs
      obtain ⟨q, hby, hfit, h⟩ := h
      obtain ⟨i, z, hi, hz, hisz, hiby, hzsz, hne, hz1⟩ := info q
      cases hss with
      | nil =>
        rcases Nat.eq_zero_or_pos xs.length with h0 | h0
        · have hx0 : xs = [] := List.eq_nil_of_length_eq_zero h0
          subst hx0
          obtain ⟨A, k, rfl, us, hus, hul, hri⟩ := rows_is hr hxx hxs
          have hr0 := run_app_stay (ty := o.type) (base := none) (sLen := 0) (sCap := 0) (w' := w) hts htx hi (hisz ▸ hus) (by simp) (by simp)
          obtain ⟨g1, g2⟩ := none_blk hr hN ⟨el, P.cellsOf el, []⟩ rfl
          rw [run _ _ hr0]
          refine ⟨_, _, _, h, g1, g2, .own N 0 0 0 _ _ (.inr rfl) (Nat.le_refl _) (fun _ => rfl) fun b hb => ?_⟩
          exact ⟨Nat.zero_le _, fun _ => ⟨Nat.le_refl _, Nat.le_refl _, fun h => by omega⟩⟩
        · have hrd := rel_drew hr
          obtain ⟨A, k, rfl, us, hus, hul, hri⟩ := rows_is hrd (hxx.step step_drew) hxs
          have hr0 := run_app_grow (ty := o.type) (base := none) (sLen := 0) (sCap := 0) (os := #[]) hts htx hi hz (hisz ▸ hus) (by simp [Builtin.firstCells]) (by omega) (by omega) (by rw [Nat.zero_add, hiby]; exact hfit)
          rw [run _ _ hr0]
          simp only [Nat.zero_add]
          have hge := grownCap_ge w xs.length 0 el
          have hrows := rows_append (rest := Builtin.zeroCells z.cells (grownCap w xs.length 0 el - xs.length)) (r1 := []) (x1 := #[]) (w := w.drew) ⟨by simp, by simp, by simp, by simp⟩ (by simp) hri (zone z _ hz1 (by omega))
          rw [List.nil_append] at hrows
          have hG := new_row (K := K) hrd hN (el := el) hrows hge (by simp [size_zeroCells, hzsz, hul, ← Nat.add_mul]; rw [show xs.length + (grownCap w xs.length 0 el - xs.length) = grownCap w xs.length 0 el by omega]; exact Nat.le_refl _) h
          obtain ⟨v, hp', σ', k1, k2, k3, k4⟩ := hG
          exact ⟨v, hp', σ', k1, k2, step_drew.trans k3, k4⟩
    · -- from a row of the call's own
      rename_i id len tot xs hxs
      split at h
      · rename_i b hb
        obtain ⟨ht1, ht2, ht3, q, hby, hfit, hst, hgr⟩ := h
        obtain ⟨i, z, hi, hz, hisz, hiby, hzsz, hne, hz1⟩ := info q
        have hss' := hss
        cases hss with
        | own _ _ _ _ A cap hU hl hA0 h' =>
          obtain ⟨k1, k2⟩ := h' b hb
          obtain ⟨k3, k4, k5⟩ := k2 ht1
          by_cases hneed : len + xs.length ≤ cap
          · obtain ⟨B, k, rfl, us, hus, hul, hri⟩ := rows_is hr hxx hxs
            rcases Nat.eq_zero_or_pos xs.length with h0 | h0
            · -- nothing
              have hx0 : xs = [] := List.eq_nil_of_length_eq_zero h0
              subst hx0
              have hu0 : us = #[] := Array.eq_empty_of_size_eq_zero (by simpa using hul)
              subst hu0
              have hr0 := run_app_stay (ty := o.type) (base := A) (sLen := len) (sCap := cap) (w' := w) hts htx hi (hisz ▸ hus) hneed (by cases A <;> simp [storeCells])
              have hh := hst (by simp; omega)
              simp only [List.length_nil, Nat.add_zero, List.nil_append, List.take_append_drop] at hh
              rw [setH_self (b := ⟨b.ty, b.e, b.es⟩) hb] at hh
              exact OpOk.val (run _ _ hr0) (Good.same hr hh hss')
            · obtain ⟨g, hg, hA, n, hrn, hn⟩ := k5 (by omega)
              obtain ⟨ccs, m1, m2, m3, m4, m5⟩ := hr.at hb hg
              have hnsz : ccs.size = n := by
                obtain ⟨cc, p1, p2⟩ := hrn
                rw [m1] at p1
                injection p1 with p1
                injection p1 with p1
                rw [p1]; exact p2
              rw [Nat.zero_mul] at hA
              subst hA
              have hn' : cap * b.e ≤ ccs.size := by rw [hnsz]; simpa using hn
              have hle1 : (len + xs.length) * b.e ≤ cap * b.e := Nat.mul_le_mul_right _ hneed
              rw [Nat.add_mul] at hle1
              have hull : us.toList.length = xs.length * b.e := by simp [hul, ht3]
              have hsto := run_storeCells_at P g (len * b.e) b.ty us.toList 0 ccs w m1 (by omega) (fun u hu => by
                obtain ⟨j, hj⟩ := List.getElem?_of_mem hu
                exact hri.one j u (by simpa using hj))
              simp only [Nat.add_zero] at hsto
              have hr0 := run_app_stay (ty := o.type) (base := some ⟨g, 0, none⟩) (sLen := len) (sCap := cap) (w' := w.setRow g (ccs.toList.take (len * b.e) ++ us.toList ++ ccs.toList.drop (len * b.e + us.toList.length)).toArray) hts htx hi (hisz ▸ hus) hneed (by
                simp only [add_mk, Nat.zero_add]
                rw [hisz, ← ht3]
                exact hsto)
              rw [run _ _ hr0]
              have hlb : len ≤ b.es.length := by omega
              rcases Nat.lt_or_ge tot (len + xs.length) with htot | htot
              · have hK := hgr htot
                have hl' : (b.es.take len ++ xs).length = len + xs.length := by rw [List.length_append, List.length_take]; omega
                rw [← hl'] at hK
                exact app_room hr hb hg m1 (ht3 ▸ hri) (ht3 ▸ hul) hn' hneed (by omega) (by omega) (by omega) (app_els2 hlb) hU (by rw [hl']; rw [hl'] at hK; exact hK)
              · have hK := hst htot
                have hl' : (b.es.take len ++ (xs ++ b.es.drop (len + xs.length))).length = tot := by rw [List.length_append, List.length_append, List.length_take, List.length_drop]; omega
                exact app_room hr hb hg m1 (ht3 ▸ hri) (ht3 ▸ hul) hn' hneed (by omega) (by omega) (by omega) (app_els hlb) hU (by rw [hl']; exact hK)
          · -- a new place
            clear k5 k2
            have hrd := rel_drew hr
            obtain ⟨B, k, rfl, us, hus, hul, hri⟩ := rows_is hrd (hxx.step step_drew) hxs
            have hso : rowsOf hp (P.cellsOf el) (.own id 0 len tot) = some (b.es.take len) := by
              simp only [rowsOf, hb]
              rw [if_pos ⟨ht1, ht3⟩, List.drop_zero]
            obtain ⟨A2, k', hA2, os, hos, hol, hro⟩ := rows_is hrd (hss'.step step_drew) hso
            have htl : (b.es.take len).length = len := by simp; omega
            rw [htl] at hA2 hos
            injection hA2 with e1 _ e3
            subst e1
            subst e3
            have hr0 := run_app_grow (ty := o.type) (base := A) (sLen := len) (sCap := cap) hts htx hi hz (hisz ▸ hus) (hisz ▸ hos) (by omega) (by omega) (by rw [hiby]; exact hfit)
            have hge := grownCap_ge w (len + xs.length) cap el
            have hrows := rows_append (rest := Builtin.zeroCells z.cells (grownCap w (len + xs.length) cap el - (len + xs.length))) hro hol hri (zone z _ hz1 (by omega))
            have hK := hgr (by omega)
            have hl' : (b.es.take len ++ xs).length = len + xs.length := by simp; omega
            have hgt : b.es.length < (b.es.take len ++ xs).length := by omega
            have hsz : (os ++ us ++ Builtin.zeroCells z.cells (grownCap w (len + xs.length) cap el - (len + xs.length))).size = grownCap w (len + xs.length) cap el * P.cellsOf el := by
              simp only [Array.size_append, size_zeroCells, hzsz, hol, hul, htl, ← Nat.add_mul]
              congr 1
              omega
            obtain ⟨r1, r2⟩ := move_blk hrd (b' := ⟨b.ty, b.e, b.es.take len ++ xs⟩) hb rfl rfl hgt _ hrows.one (by rw [ht3]; exact hrows.row) (by rw [ht3]; exact hrows.len) (by rw [ht3]; exact hrows.is)
            rw [run _ _ hr0, ← ht2]
            rw [← ht2] at r1 r2
            refine ⟨_, _, _, hK, r1.more, step_drew.trans (r2.trans Step.more), .own _ _ _ _ _ _ (.inl hU) (by rw [ht2]; exact hge) (fun h => by cases h) fun b1 hb1 => ?_⟩
            rw [lk_setH, if_pos rfl, hb] at hb1
            simp only [Option.map_some, Option.some.injEq] at hb1
            subst hb1
            refine ⟨Nat.le_of_eq hl'.symm, fun _ => ⟨by omega, by rw [ht2]; omega, fun _ => ⟨w.heap.size, by simp, by simp, _, ⟨_, heap_alloc_new w.drew _, rfl⟩, ?_⟩⟩⟩
            simp only [Nat.zero_add]
            rw [ht2, hsz, ht3]
            exact Nat.le_refl _
      · exact h.elim
    · exact h.elim
  · exact h.elim

/-- Every operation that opW knows is sound. -/
theorem opW_snd (hr : Rel c hp U σ w) (E : ∀ x, AIs w (Sof c w σ hp) σ hp U (ev fr x) (a.eval x)) (hN : ¬ U N) (h : opW P fr hp N o.op K) : OpOk P c K hp U N σ w ((execOp a.eval o).run P w) := by
  generalize hop : o.op = op at h
  cases op with
  | move x => exact s_move hr E (.inl hop) h
  | assign x => exact s_move hr E (.inr hop) h
  | pick x y z => exact s_pick hr E hop h
  | binOp op t x y t' => exact s_bin hr E hop h
  | unOp op t x => exact s_un hr E hop h
  | nilCheck x => exact s_nilCheck hr E hop h
  | extract x i => exact s_extract hr E hop h
  | convert s t x => exact s_convert hr E hop h
  | load t x => exact s_load hr E hop h
  | fieldAddr t x i => exact s_fieldAddr hr E hop h
  | indexAddr t x ix => exact s_indexAddr hr E hop h
  | alloc t => exact s_alloc hr hN hop h
  | build t parts => exact s_build hr E hop h
  | buildSlice t n parts => exact s_buildSlice hr E hN hop h
  | slice t x lo hi m =>
    cases m with
    | none => exact s_slice hr E hop h
    | some _ => exact h.elim
  | box t x => exact s_box hr E hN hop h
  | store t x v => exact s_store hr E hop h
  | call cl =>
    simp only [opW] at h
    split at h
    · rename_i b hb
      generalize ha : cl.args.toList = as at h
      generalize ht : cl.argTypes.toList = ts at h
      cases b with
      | len =>
        match as, ts, h with
        | [x], [t], h => exact s_len hr E hop hb ha ht h
      | append =>
        match as, ts, h with
        | [s, x], [t, u], h => exact s_append hr E hN hop hb ha ht h
      | _ => exact h.elim
    · rename_i f hf
      split at h
      · exact s_call hr E hN hop hf ‹_› h
      · exact h.elim
    · exact h.elim
  | _ => exact h.elim
end
end Go.Am
