/-
  AM, part 6d2: slices that end where their room ends, new slices, copies, strings as bytes, arrays behind slices; all operations in one.
-/
import Derived.Test.YtnmnabagabejjaaGreatAmMap
import Derived.Laws.Cover3
namespace Go.Am
set_option linter.unusedVariables false
set_option linter.unusedSimpArgs false

section
variable {P : Program} {c : Ctx} {K : AV → Hp → Prop} {fr : Fr} {hp : Hp} {U : Nat → Prop} {N : Nat} {σ : Nat → Option Nat} {w : World} {a : Act} {o : Oper} {S : Nat → Prop}

theorem s_conv_own (hr : Rel c hp U σ w) (E : ∀ x, AIs w (Sof c w σ hp) σ hp U (ev fr x) (a.eval x)) {s t : TypeId} {x : Operand} (hop : o.op = .convert s t x) {bs : List Int} {el : TypeId} (hx : rowsOf hp 1 (ev fr x) = some (bs.map fun b => [.d (.int .u8 b)])) (hb : ∀ b, b ∈ bs → 0 ≤ b ∧ b < 256) (hs : tyk P s = .slice el) (ht : tyk P t = .str)
    (hel : P.underlying el = some (.int .u8)) (h : K (.d (.str bs)) hp) : OpOk P c K hp U N σ w ((execOp a.eval o).run P w) := by
  obtain ⟨A, k, hv, us, h1, h2, h3, h4⟩ := rows_is (P := P) hr (E x) hx
  rw [List.length_map] at hv h2 h4
  have hrun : ∃ s : ByteArray, (Conv.bytesToString (.slice A bs.length k)).run P w = .ok (.string s) w ∧ (s.data.toList.map fun c => (c.toNat : Int)) = bs := by
    rcases bs with _ | ⟨b0, bs'⟩
    · cases A with
      | none => exact ⟨.empty, by simp [Conv.bytesToString], rfl⟩
      | some ad =>
        refine ⟨.empty, ?_, rfl⟩
        exact run_bytesToString (P := P) w ad 0 k [] (by simp [loadCells, loadCellsFrom])
    · obtain ⟨ad, rfl, h5⟩ := h4 (by simp)
      have hcell := run_loadCells_list (P := P) w ad ((b0 :: bs').map (Value.int .u8)) (fun j u hj => by
        simp only [List.getElem?_map, Option.map_eq_some_iff] at hj
        obtain ⟨b, hb', rfl⟩ := hj
        have hj2 : j < us.size := by have := (List.getElem?_eq_some_iff.1 hb').1; omega
        have g1 := h5 j us[j] (Array.getElem?_eq_getElem hj2)
        have g2 := h3.is j 0 [.d (.int .u8 b)] (.d (.int .u8 b)) us[j] (by rw [List.getElem?_map, hb']; rfl) rfl (by rw [Nat.mul_one, Nat.add_zero]; exact Array.getElem?_eq_getElem hj2)
        rw [is_int g2] at g1
        exact g1)
      rw [List.length_map] at hcell
      have := run_bytesToString (P := P) w ad (b0 :: bs').length k (b0 :: bs') hcell
      refine ⟨_, this, ?_⟩
      rw [push_fold _ hb]
      rfl
  obtain ⟨s', g1, g2⟩ := hrun
  refine OpOk.val (x := .string s') ?_ (Good.same hr h (by rw [← g2]; exact .d (.str s')))
  have hconv := run_convert_bytes_string (P := P) w s t el A bs.length k (tyk_slice hs) hel (tyk_str ht)
  simp only [execOp, hop, hv, Sem.run_bind, hconv, g1, Result.andThen_ok, Sem.run_pure]

theorem s_conv_str (hr : Rel c hp U σ w) (E : ∀ x, AIs w (Sof c w σ hp) σ hp U (ev fr x) (a.eval x)) {s t : TypeId} {x : Operand} (hop : o.op = .convert s t x) {bs : List Int} {el : TypeId} (hx : ev fr x = .d (.str bs)) (hs : tyk P s = .str) (ht : tyk P t = .slice el)
    (hel : P.underlying el = some (.int .u8)) (h : K (.d (.ro 1 (bs.map fun b => [.int .u8 b]))) hp) : OpOk P c K hp U N σ w ((execOp a.eval o).run P w) := by
  have hx' := E x
  rw [hx] at hx'
  generalize hv : a.eval x = v at hx'
  cases hx' with
  | d hx' =>
    cases hx' with
    | str s0 =>
      have hr0 := run_bytes_of_string (P := P) w s t el s0 (tyk_str hs) (tyk_slice ht) hel
      simp only [execOp, hop, hv, Sem.run_bind, hr0, Result.andThen_ok, Sem.run_pure]
      have hlen : (((s0.data.toList.map fun c => (c.toNat : Int)).map fun b => [DV.int .u8 b])).length = s0.size := by rw [List.length_map, List.length_map]; rfl
      have hbs : s0.size ≤ (bytesRow s0 (grownCap w s0.size 0 el)).size := by unfold bytesRow; rw [Array.size_append, Array.size_map]; exact Nat.le_add_right _ _
      have := born (N := N) (K := K) hr (w' := w.drew.alloc (.cells (bytesRow s0 (grownCap w s0.size 0 el)) el ((bytesRow s0 (grownCap w s0.size 0 el)).size, (bytesRow s0 (grownCap w s0.size 0 el)).size + 1))) (e := 1) (cap := grownCap w s0.size 0 el) (C := bytesRow s0 (grownCap w s0.size 0 el))
        (es := (s0.data.toList.map fun c => (c.toNat : Int)).map fun b => [DV.int .u8 b]) ⟨rfl, rfl, rfl, by simp [World.size_alloc], fun b hb => heap_alloc_lt w.drew _ b hb⟩ (by rw [World.size_alloc]; exact Nat.lt_succ_self _) (fun j v hj => ?_) (fun r hr' => ?_) (by rw [hlen]; omega) (by rw [hlen]; exact grownCap_ge w s0.size 0 el) (fun i j r y x hi hj hx => ?_) h
      · rw [hlen] at this
        exact this
      · have h1 := heap_alloc_new w.drew (.cells (bytesRow s0 (grownCap w s0.size 0 el)) el ((bytesRow s0 (grownCap w s0.size 0 el)).size, (bytesRow s0 (grownCap w s0.size 0 el)).size + 1))
        simp only [World.cell?]
        rw [show w.heap.size = w.drew.heap.size from rfl, h1]
        simpa using hj
      · obtain ⟨b, _, rfl⟩ := List.mem_map.1 hr'
        rfl
      · simp only [List.getElem?_map, Option.map_eq_some_iff] at hi
        obtain ⟨b, ⟨ch, hch, rfl⟩, rfl⟩ := hi
        cases j with
        | succ j => simp at hj
        | zero =>
          simp at hj
          subst hj
          have hlt := (List.getElem?_eq_some_iff.1 hch)
          obtain ⟨h1, h2⟩ := hlt
          rw [Nat.mul_one, Nat.add_zero, bytesRow_at s0 _ i (by simpa using h1)] at hx
          injection hx with hx
          subst hx
          simp only [Array.getElem_toList] at h2
          rw [h2]
          exact .int _ _

theorem run_sliceBounds3 {len cap : Nat} {lo hi : Option Value} {mx : Value} {l h m : Int} (hlo : lo = none ∧ l = 0 ∨ ∃ k, lo = some (.int k l)) (hhi : ∃ k, hi = some (.int k h)) (hmx : ∃ k, mx = .int k m) (h0 : 0 ≤ l) (h1 : l ≤ h) (h2 : h ≤ m) (h3 : m ≤ cap) :
    (Instr.sliceBounds true len cap lo hi (some mx)).run P w = .ok (l.toNat, h.toNat, m.toNat) w := by
  unfold Instr.sliceBounds
  obtain ⟨k1, rfl⟩ := hhi
  obtain ⟨k2, rfl⟩ := hmx
  have a1 : h ≤ (m.toNat : Int) := by omega
  have a2 : l ≤ (h.toNat : Int) := by omega
  rcases hlo with ⟨rfl, rfl⟩ | ⟨k, rfl⟩
  · simp [Instr.sliceBound, asIntOf, show 0 ≤ m ∧ m ≤ (cap : Int) by omega, show 0 ≤ h ∧ h ≤ max m 0 by omega]
  · simp [Instr.sliceBound, asIntOf, show 0 ≤ m ∧ m ≤ (cap : Int) by omega, show 0 ≤ h ∧ h ≤ max m 0 by omega, show 0 ≤ l ∧ l ≤ max h 0 by omega]

theorem num_is {U : Nat → Prop} (E : ∀ x, AIs w S σ hp U (ev fr x) (a.eval x)) {x : Operand} {l : Int} (h : (ev fr x).num = some l) : ∃ k, a.eval x = .int k l := by
  have hx := E x
  unfold AV.num at h
  split at h
  · rename_i k n he
    injection h with h
    subst h
    rw [he] at hx
    exact ⟨k, is_int hx⟩
  · cases h

theorem s_slice3 (hr : Rel c hp U σ w) (E : ∀ x, AIs w (Sof c w σ hp) σ hp U (ev fr x) (a.eval x)) {t : TypeId} {x : Operand} {lo hi : Option Operand} {m : Operand} (hop : o.op = .slice t x lo hi (some m)) (h : opW P fr hp N (.slice t x lo hi (some m)) K) :
    OpOk P c K hp U N σ w ((execOp a.eval o).run P w) := by
  simp only [opW] at h
  have run : ∀ v, (Instr.sliceAt t (a.eval x) (lo.map a.eval) (hi.map a.eval) (some (a.eval m))).run P w = .ok v w → (execOp a.eval o).run P w = .ok (.value v) w := by
    intro v hv
    simp [execOp, hop, hv]
  have hx := E x
  generalize hxv : a.eval x = xv at hx run
  generalize hxa : ev fr x = xa at hx h
  generalize hlo : bnd fr 0 lo = blo at h
  generalize hhi : bndO fr hi = bhi at h
  generalize hmx : (ev fr m).num = bmx at h
  generalize hk : tyk P t = k at h
  unfold slice3W at h
  have hhi' : ∀ l, bhi = some l → ∃ k, hi.map a.eval = some (.int k l) := by
    intro l hl
    rw [hl] at hhi
    cases hi with
    | none => cases hhi
    | some y =>
      obtain ⟨k, h1⟩ := num_is E hhi
      exact ⟨k, by simp [h1]⟩
  split at h
  · rename_i e es el l hh mm
    obtain ⟨hz, he, h0, h1, rfl, h2, h⟩ := h
    cases hx with
    | d hx =>
      cases hx with
      | ro _ _ A cap vs hc hel hA hv1 hd =>
        have hb := run_sliceBounds3 (P := P) (w := w) (len := es.length) (cap := cap) (bnd_is E hlo) (hhi' _ rfl) (num_is E hmx) h0 h1 (Int.le_refl _) (by omega)
        have hlen : ((es.take hh.toNat).drop l.toNat).length = hh.toNat - l.toNat := by simp; omega
        have hel' : ∀ (i : Nat) (r : List DV), ((es.take hh.toNat).drop l.toNat)[i]? = some r → es[l.toNat + i]? = some r := by
          intro i r hi
          rw [List.getElem?_drop, List.getElem?_take] at hi
          split at hi
          · exact hi
          · cases hi
        have hne : ∀ (i : Nat) (r : List DV), ((es.take hh.toNat).drop l.toNat)[i]? = some r → hh.toNat ≠ l.toNat := by
          intro i r hi
          have := (List.getElem?_eq_some_iff.1 hi).1
          omega
        refine OpOk.val (run (.slice (if hh.toNat = l.toNat then A else A.map (·.add (l.toNat * P.cellsOf el))) (hh.toNat - l.toNat) (hh.toNat - l.toNat)) ?_) (Good.same hr h (.d ?_))
        · simp [Instr.sliceAt, Instr.slice, run_underlying (tyk_slice hk), hb, run_sizeOf_ne hz]
        · rw [← hlen]
          refine .rof e _ _ (fun i j => vs (l.toNat + i) j) (fun r hr' => ?_) (fun r hr' => ?_) (fun ad hAd i j r y hi hj => ?_) (fun i j r y (hi : ((es.take hh.toNat).drop l.toNat)[i]? = some r) hj => hd _ j r y (hel' i r hi) hj)
          · obtain ⟨i, hi⟩ := List.getElem?_of_mem hr'
            exact hel r (List.mem_of_getElem? (hel' i r hi))
          · obtain ⟨i, hi⟩ := List.getElem?_of_mem hr'
            obtain ⟨ad, k1, k2⟩ := hA r (List.mem_of_getElem? (hel' i r hi))
            rw [if_neg (hne i r hi), k1]
            exact ⟨_, rfl, by rw [add_block]; exact k2⟩
          · rw [if_neg (hne i r hi)] at hAd
            obtain ⟨ad', k1, rfl⟩ := Option.map_eq_some_iff.1 hAd
            rw [add_add, ← he, show l.toNat * e + (i * e + j) = (l.toNat + i) * e + j by rw [Nat.add_mul]; omega]
            exact hv1 ad' k1 _ j r y (hel' i r hi) hj
  · rename_i el l hh mm
    obtain ⟨hz, rfl, rfl, rfl, h⟩ := h
    have hb := run_sliceBounds3 (P := P) (w := w) (len := 0) (cap := 0) (bnd_is E hlo) (hhi' _ rfl) (num_is E hmx) (by omega) (by omega) (by omega) (by omega)
    cases hx with
    | nil =>
      refine OpOk.val (run (.slice none 0 0) ?_) (Good.same hr h (.d (.rof _ [] none (fun _ _ => undef) (by simp) (by simp) (by simp) (by simp))))
      simp [Instr.sliceAt, Instr.slice, run_underlying (tyk_slice hk), hb, run_sizeOf_ne hz]
  · rename_i id i0 len tot el l hh mm
    obtain ⟨hz, rfl, rfl, rfl, h⟩ := h
    cases hx with
    | own _ _ _ _ A cap hN hl h0 hq =>
      have hb := run_sliceBounds3 (P := P) (w := w) (len := len) (cap := cap) (bnd_is E hlo) (hhi' _ rfl) (num_is E hmx) (by omega) (by omega) (by omega) (by omega)
      refine OpOk.val (run (.slice A 0 0) ?_) (Good.same hr h (.d (.rof _ [] A (fun _ _ => undef) (by simp) (by simp) (by simp) (by simp))))
      simp [Instr.sliceAt, Instr.slice, run_underlying (tyk_slice hk), hb, run_sizeOf_ne hz]
  · exact h.elim

theorem s_make (hr : Rel c hp U σ w) (E : ∀ x, AIs w (Sof c w σ hp) σ hp U (ev fr x) (a.eval x)) (hN : Free U N) {t : TypeId} {l m : Operand} (hop : o.op = .makeSlice t l m) (h : opW P fr hp N (.makeSlice t l m) K) :
    OpOk P c K hp U N σ w ((execOp a.eval o).run P w) := by
  simp only [opW] at h
  have run : ∀ v w', (Instr.makeSlice t (a.eval l) (a.eval m)).run P w = .ok v w' → (execOp a.eval o).run P w = .ok (.value v) w' := by
    intro v w' hv
    simp [execOp, hop, hv]
  have hl := E l
  have hm := E m
  unfold makeW at h
  split at h
  · rename_i el kl n kc q hk hlv hmv
    split at h
    · rename_i z hz
      obtain ⟨h0, h1, h2, h3, h4, h⟩ := h
      rw [hlv] at hl
      rw [hmv] at hm
      obtain ⟨v, i, hi, hzv, hs, hne, _, hli⟩ := zeroV (w := w) (S := Sof c w σ hp) (σ := σ) (hp := hp) (U := U) hz
      have his : i.size = P.cellsOf el := by simp [Program.cellsOf, hi]
      have hib : i.bytes = P.bytesOf el := by simp [Program.bytesOf, hi]
      have hq0 : 0 ≤ q := by omega
      have hr0 := run_makeSlice (P := P) w t el i v (tyk_slice hk) hi hzv kl kc n q h0 h1 (by
        rw [his]
        have : ((q.toNat * P.cellsOf el : Nat) : Int) ≤ 16777216 := by
          rw [Int.natCast_mul, Int.toNat_of_nonneg hq0]; exact h2
        omega) (by rw [hib]; exact h3) h4
      rw [run _ _ (by rw [is_int hl, is_int hm]; exact hr0)]
      have hrows := zero_rows (P := P) (el := el) hli hs hne q.toNat
      have hrows' : RIs w (Sof c w σ hp) σ hp U (P.cellsOf el) (List.replicate n.toNat z) (madeCells v.cells (q.toNat * i.size)) := by
        have e1 : madeCells v.cells (q.toNat * i.size) = (Array.range (q.toNat * P.cellsOf el)).map (v.cells[· % v.cells.size]!) := by rw [his]; rfl
        rw [e1]
        refine ⟨?_, fun r hr' => ?_, hrows.one, fun i' j r y x hi' hj hx => ?_⟩
        · have := hrows.len
          rw [List.length_replicate] at this ⊢
          exact Nat.le_trans (Nat.mul_le_mul_right _ (by omega)) this
        · have hne' : 0 < n.toNat := by
            rcases Nat.eq_zero_or_pos n.toNat with h' | h'
            · rw [h'] at hr'; simp at hr'
            · exact h'
          refine hrows.row r ?_
          have e2 := List.eq_of_mem_replicate hr'
          subst e2
          exact List.mem_replicate.2 ⟨by omega, rfl⟩
        · refine hrows.is i' j r y x ?_ hj hx
          have h5 := (List.getElem?_eq_some_iff.1 hi').1
          rw [List.length_replicate] at h5
          rw [List.getElem?_replicate] at hi' ⊢
          rw [if_pos h5] at hi'
          rw [if_pos (by omega)]
          exact hi'
      have hG := new_row (K := K) hr hN (el := el) (cap := q.toNat) hrows' (by rw [List.length_replicate]; omega) (by rw [size_madeCells, his]; exact Nat.le_refl _) (by rw [List.length_replicate]; exact h)
      rw [List.length_replicate] at hG
      exact hG
    · exact h.elim
  · exact h.elim

theorem s_arr (hr : Rel c hp U σ w) (E : ∀ x, AIs w (Sof c w σ hp) σ hp U (ev fr x) (a.eval x)) {t : TypeId} {x : Operand} (hop : o.op = .sliceToArrayPointer t x) (h : opW P fr hp N (.sliceToArrayPointer t x) K) :
    OpOk P c K hp U N σ w ((execOp a.eval o).run P w) := by
  simp only [opW] at h
  have run : ∀ v, (Instr.arrayAt t (a.eval x)).run P w = .ok v w → (execOp a.eval o).run P w = .ok (.value v) w := by
    intro v hv
    simp [execOp, hop, hv]
  have hx := E x
  unfold arrW at h
  split at h
  · rename_i n el es hk hv
    obtain ⟨h0, h1, h⟩ := h
    rw [hv] at hx
    generalize a.eval x = xv at hx run
    cases hx with
    | d hx =>
      cases hx with
      | ro _ _ A cap vs hc hel hA hv1 hd =>
        have hpos : 0 < es.length := by omega
        obtain ⟨ad, k1, k2⟩ := hA es[0] (List.getElem_mem hpos)
        subst k1
        have flat : ∀ (l : List (List DV)), (∀ r, r ∈ l → r.length = 1) → ∀ (j : Nat) (y : DV), l.flatten[j]? = some y → l[j]? = some [y] := by
          intro l
          induction l with
          | nil => intro _ j y hj; simp at hj
          | cons r l ih =>
            intro hl j y hj
            match r, hl r (List.mem_cons_self ..) with
            | [u], _ =>
              cases j with
              | zero => simp at hj; subst hj; rfl
              | succ j => simp at hj; simpa using ih (fun r hr => hl r (List.mem_cons_of_mem _ hr)) j y hj
        refine OpOk.val (run (.pointer (some ad)) (run_arrayAt (P := P) w t el n (some ad) _ _ (tyk_arr hk) h1)) (Good.same hr h (.rop _ ad (fun j => vs j 0) k2 (fun j y hj => ?_) (fun j y hj => ?_)))
        · have := hv1 ad rfl j 0 _ y (flat es hel j y hj) rfl
          rw [Nat.mul_one, Nat.add_zero] at this
          exact this
        · exact hd j 0 _ y (flat es hel j y hj) rfl
  · rename_i n el id i off e len cap tot hk hv
    split at h
    · rename_i b hb
      obtain ⟨ht, h0, h1, h⟩ := h
      rw [hv] at hx
      generalize a.eval x = xv at hx run
      cases hx with
      | sub _ _ _ _ _ _ _ A hN' hl hA0 hA =>
        obtain ⟨q1, q2⟩ := hA b hb
        obtain ⟨q3, q4, q5⟩ := q2 ht
        obtain ⟨g, hg, rfl⟩ := q5 (by omega)
        refine OpOk.val (run (.pointer (some ⟨g, i * b.e + off, none⟩)) (run_arrayAt (P := P) w t el n (some ⟨g, i * b.e + off, none⟩) _ _ (tyk_arr hk) h1)) (Good.same hr h (.ptr id i off tot _ hN' fun b' hb' => ?_))
        rw [hb] at hb'
        cases hb'
        exact ⟨q1, fun _ => ⟨g, hg, rfl⟩⟩
    · exact h.elim
  · exact h.elim

/-- Cells of a row of the call's own are written. -/
theorem put_cells (hr : Rel c hp U σ w) {id g i off : Nat} {b : Blk} {row : List AV} {ccs : Array Value} (hb : lk id hp = some b) (hg : σ id = some g) (hrow : b.es[i]? = some row) (hheap : w.heap[g]? = some (.cells ccs b.ty (0, 0)))
    (us : List Value) (cs : List AV) (hcl : cs.length = us.length) (hfit : off + us.length ≤ row.length) (h1 : ∀ u ∈ us, u.oneCell' = true) (h2 : ∀ (j : Nat) (y : AV) (u : Value), cs[j]? = some y → us[j]? = some u → AIs w (Sof c w σ hp) σ hp U y u) :
    let w' := w.setRow g (ccs.toList.take (i * b.e + off) ++ us ++ ccs.toList.drop (i * b.e + off + us.length)).toArray
    let b' : Blk := ⟨b.ty, b.e, b.es.set i (row.take off ++ (cs ++ row.drop (off + cs.length)))⟩
    Rel c (setH id b' hp) U σ w' ∧ Step w (Sof c w σ hp) σ hp U w' (Sof c w' σ (setH id b' hp)) σ (setH id b' hp) U := by
  have hilt : i < b.es.length := (List.getElem?_eq_some_iff.1 hrow).1
  obtain ⟨cc0, q1, hone, q3, q4, q5⟩ := hr.at hb hg
  rw [hheap] at q1
  injection q1 with q1
  injection q1 with q1
  subst q1
  have hrl : row.length = b.e := q3 row (List.mem_of_getElem? hrow)
  have hle : i * b.e + b.e ≤ ccs.size := by
    have : (i + 1) * b.e ≤ b.es.length * b.e := Nat.mul_le_mul_right _ (by omega)
    rw [Nat.add_mul, Nat.one_mul] at this
    omega
  have hnl : (row.take off ++ (cs ++ row.drop (off + cs.length))).length = b.e := by simp; omega
  have hnth : ∀ m, (ccs.toList.take (i * b.e + off) ++ us ++ ccs.toList.drop (i * b.e + off + us.length)).toArray[m]? =
      if m < i * b.e + off then ccs[m]? else if m < i * b.e + off + us.length then us[m - (i * b.e + off)]? else ccs[m]? := by
    intro m
    simp only [List.getElem?_toArray, List.append_assoc]
    rw [List.getElem?_append]
    have hlt : (ccs.toList.take (i * b.e + off)).length = i * b.e + off := by simp; omega
    rw [hlt]
    by_cases hm : m < i * b.e + off
    · simp [hm]
    · rw [if_neg hm, if_neg hm, List.getElem?_append]
      by_cases hm2 : m < i * b.e + off + us.length
      · rw [if_pos (by omega), if_pos hm2]
      · rw [if_neg (by omega), if_neg hm2, List.getElem?_drop, Array.getElem?_toList]
        congr 1
        omega
  have hrowth : ∀ m, (row.take off ++ (cs ++ row.drop (off + cs.length)))[m]? = if m < off then row[m]? else if m < off + cs.length then cs[m - off]? else row[m]? := by
    intro m
    rw [List.getElem?_append]
    have hlt : (row.take off).length = off := by simp; omega
    rw [hlt]
    by_cases hm : m < off
    · simp [hm]
    · rw [if_neg hm, if_neg hm, List.getElem?_append]
      by_cases hm2 : m < off + cs.length
      · rw [if_pos (by omega), if_pos hm2]
      · rw [if_neg (by omega), if_neg hm2, List.getElem?_drop]
        congr 1
        omega
  exact set_blk hr (b' := ⟨b.ty, b.e, b.es.set i (row.take off ++ (cs ++ row.drop (off + cs.length)))⟩) hb hg rfl rfl (by simp) ccs (ccs.toList.take (i * b.e + off) ++ us ++ ccs.toList.drop (i * b.e + off + us.length)).toArray hheap (by simp; omega)
    (fun m y hy => by
      rw [hnth] at hy
      split at hy
      · exact hone m y hy
      · split at hy
        · exact h1 y (List.mem_of_getElem? hy)
        · exact hone m y hy)
    (fun y hy => by
      rcases List.mem_or_eq_of_mem_set hy with h' | rfl
      · exact q3 y h'
      · exact hnl)
    (fun k j r y u a1 a2 a3 => by
      rw [hnth] at a3
      simp only [List.getElem?_set] at a1
      by_cases hk : i = k
      · subst hk
        simp only [if_true, hilt] at a1
        injection a1 with a1
        subst a1
        rw [hrowth] at a2
        by_cases p1 : j < off
        · rw [if_pos p1] at a2
          rw [if_pos (by omega)] at a3
          exact q5 i j row y u hrow a2 a3
        · rw [if_neg p1] at a2
          rw [if_neg (by omega)] at a3
          by_cases p2 : j < off + cs.length
          · rw [if_pos p2] at a2
            rw [if_pos (by omega)] at a3
            rw [show i * b.e + j - (i * b.e + off) = j - off by omega] at a3
            exact h2 _ y u a2 a3
          · rw [if_neg p2] at a2
            rw [if_neg (by omega)] at a3
            exact q5 i j row y u hrow a2 a3
      · rw [if_neg hk] at a1
        have hj : j < b.e := by
          have := (List.getElem?_eq_some_iff.1 a2).1
          rw [q3 r (List.mem_of_getElem? a1)] at this
          exact this
        have hout : ¬ (i * b.e ≤ k * b.e + j ∧ k * b.e + j < i * b.e + b.e) := by
          rintro ⟨p1, p2⟩
          rcases Nat.lt_or_gt_of_ne hk with h' | h'
          · have : (i + 1) * b.e ≤ k * b.e := Nat.mul_le_mul_right _ (by omega)
            rw [Nat.add_mul, Nat.one_mul] at this
            omega
          · have : (k + 1) * b.e ≤ i * b.e := Nat.mul_le_mul_right _ (by omega)
            rw [Nat.add_mul, Nat.one_mul] at this
            omega
        have a3' : ccs[k * b.e + j]? = some u := by
          by_cases p1 : k * b.e + j < i * b.e + off
          · rwa [if_pos p1] at a3
          · rw [if_neg p1, if_neg (by omega)] at a3
            exact a3
        exact q5 k j r y u a1 a2 a3')

/-- Rows of one cell, in one. -/
theorem flat_one : ∀ (xs : List (List AV)), (∀ r, r ∈ xs → r.length = 1) → ∀ (j : Nat) (y : AV), xs.flatten[j]? = some y → xs[j]? = some [y]
  | [], _, j, y, h => by simp at h
  | r :: xs, hr, j, y, h => by
    have h1 := hr r (List.mem_cons_self ..)
    match r, h1 with
    | [x], _ =>
      cases j with
      | zero => simpa using h
      | succ j =>
        simp only [List.flatten_cons, List.cons_append, List.nil_append, List.getElem?_cons_succ] at h ⊢
        exact flat_one xs (fun r hr' => hr r (List.mem_cons_of_mem _ hr')) j y h
theorem flat_one_len : ∀ (xs : List (List AV)), (∀ r, r ∈ xs → r.length = 1) → xs.flatten.length = xs.length
  | [], _ => rfl
  | r :: xs, hr => by
    rw [List.flatten_cons, List.length_append, hr r (List.mem_cons_self ..), flat_one_len xs fun r h => hr r (List.mem_cons_of_mem _ h), List.length_cons]
    omega

theorem s_copy (hr : Rel c hp U σ w) (E : ∀ x, AIs w (Sof c w σ hp) σ hp U (ev fr x) (a.eval x)) {ts tx : TypeId} {s x : Operand} {cl : Call} (hop : o.op = .call cl) (hc : cl.callee = .builtin .copy) (ha : cl.args.toList = [s, x]) (ht : cl.argTypes.toList = [ts, tx])
    (h : biW P fr hp N .copy [s, x] [ts, tx] K) : OpOk P c K hp U N σ w ((execOp a.eval o).run P w) := by
  simp only [biW] at h
  have ha' : cl.args = #[s, x] := by rw [← Array.toArray_toList (xs := cl.args), ha]
  have ht' : cl.argTypes = #[ts, tx] := by rw [← Array.toArray_toList (xs := cl.argTypes), ht]
  have run : ∀ (v : Value) (w' : World), (Builtin.copy_ #[ts, tx] o.type #[a.eval s, a.eval x]).run P w = .ok v w' → (execOp a.eval o).run P w = .ok (.value v) w' := by
    intro v w' hv
    simp [execOp, hop, resolve, hc, ha', ht', invoke, builtin, hv]
  split at h
  · rename_i el el2 hks hkx
    have hts := tyk_slice hks
    have htx := tyk_slice hkx
    obtain ⟨hz2, h⟩ := h
    have hxx := E x
    have hss := E s
    generalize hxv : a.eval x = xv at hxx run
    generalize hsv : a.eval s = sv at hss run
    generalize ev fr x = xa at hxx h
    generalize ev fr s = sa at hss h
    generalize hxs : rowsOf hp (P.cellsOf el) xa = oxs at h
    unfold copyW at h
    split at h
    · rename_i id i0 len tot xs
      split at h
      · rename_i b hb
        obtain ⟨ht1, hbe, hz, h⟩ := h
        obtain ⟨B, k, rfl, us, hus, hul, hri, hcell⟩ := rows_is (P := P) hr hxx hxs
        rw [hz, Nat.mul_one] at hul
        have hinfo : (P.info? el).map (·.size) = some 1 := by
          have h1 : P.cellsOf el = 1 := hz
          unfold Program.cellsOf at h1
          cases hq : P.info? el with
          | none => rw [hq] at h1; simp at h1
          | some i => rw [hq] at h1; simp at h1; simp [h1]
        cases hss with
        | own _ _ _ _ A cap hU hl hA0 h' =>
          obtain ⟨k1, k2⟩ := h' b hb
          obtain ⟨k3, k4, k5⟩ := k2 ht1
          have hmn : Nat.min xs.length len = min len xs.length := by rw [Nat.min_comm]
          rcases Nat.eq_zero_or_pos (min len xs.length) with h0 | h0
          · have hr0 := run_copy_none (P := P) w ts tx o.type el A B len cap xs.length k hts hinfo (by rw [hmn]; exact h0)
            refine OpOk.val (run _ _ hr0) (Good.same hr (v := .d (.int .i64 0)) ?_ (.d (.int _ _)))
            rw [h0] at h
            have hxe : xs.take len = [] := by
              apply List.eq_nil_of_length_eq_zero
              rw [List.length_take]
              exact h0
            rw [hxe, List.nil_append, Nat.add_zero, List.take_append_drop] at h
            have e1 : (⟨b.ty, b.e, b.es⟩ : Blk) = b := rfl
            rw [e1, setH_self hb] at h
            exact h
          · obtain ⟨g, hg, hA, n, hrn, hn⟩ := k5 (by omega)
            obtain ⟨ccs, m1, m2, m3, m4, m5⟩ := hr.at hb hg
            have hnsz : ccs.size = n := by
              obtain ⟨cc, p1, p2⟩ := hrn
              rw [m1] at p1
              injection p1 with p1
              injection p1 with p1
              rw [p1]; exact p2
            rw [hbe, Nat.mul_one] at hA hn m4
            clear hrn k5 k2 h'
            subst hA
            obtain ⟨ad, hBad, hcell2⟩ := hcell (by omega)
            subst hBad
            let n0 := min len xs.length
            let cs := us.toList.take n0
            have hcl : cs.length = n0 := by simp only [cs, List.length_take, Array.length_toList]; omega
            have hr0 := run_copy_row (P := P) w ts tx o.type el g i0 len cap ad xs.length k ccs b.ty cs hts hinfo m1 (by rw [hcl, hmn]) (fun j v hj => hcell2 j v (by
              rw [List.getElem?_take] at hj
              split at hj
              · simpa using hj
              · cases hj)) (by omega) (fun v hv => by
              obtain ⟨j, hj⟩ := List.getElem?_of_mem (List.mem_of_mem_take hv)
              exact hri.one j v (by simpa using hj))
            rw [run _ _ hr0, hcl]
            have hlen : (b.es.take i0 ++ (xs.take len ++ b.es.drop (i0 + n0))).length = b.es.length := by
              simp only [List.length_append, List.length_take, List.length_drop]
              omega
            have hC : ∀ m, ((ccs.toList.take i0 ++ cs ++ ccs.toList.drop (i0 + n0)).toArray)[m]? = if m < i0 then ccs[m]? else if m < i0 + n0 then us[m - i0]? else ccs[m]? := by
              intro m
              rw [List.getElem?_toArray, List.append_assoc, List.getElem?_append]
              have e0 : (ccs.toList.take i0).length = i0 := by simp; omega
              rw [e0]
              split
              · rename_i hm
                rw [List.getElem?_take, if_pos hm]
                simp
              · rename_i hm
                rw [List.getElem?_append, hcl]
                by_cases hm2 : m < i0 + n0
                · rw [if_pos (by omega), if_pos hm2, List.getElem?_take, if_pos (by omega)]
                  simp
                · rw [if_neg (by omega), if_neg hm2, List.getElem?_drop, show i0 + n0 + (m - i0 - n0) = m by omega]
                  simp
            have hE : ∀ (m : Nat) (r : List AV), (b.es.take i0 ++ (xs.take len ++ b.es.drop (i0 + n0)))[m]? = some r → (m < i0 ∧ b.es[m]? = some r) ∨ (i0 ≤ m ∧ m < i0 + n0 ∧ xs[m - i0]? = some r) ∨ (i0 + n0 ≤ m ∧ b.es[m]? = some r) := by
              intro m r hm
              rw [List.getElem?_append] at hm
              have e0 : (b.es.take i0).length = i0 := by simp; omega
              rw [e0] at hm
              split at hm
              · rename_i hlt
                rw [List.getElem?_take, if_pos hlt] at hm
                exact .inl ⟨hlt, hm⟩
              · rename_i hlt
                rw [List.getElem?_append, List.length_take] at hm
                split at hm
                · rename_i hlt2
                  rw [List.getElem?_take, if_pos (by omega)] at hm
                  exact .inr (.inl ⟨by omega, by omega, hm⟩)
                · rename_i hlt2
                  rw [List.getElem?_drop] at hm
                  refine .inr (.inr ⟨by omega, ?_⟩)
                  rw [show m = i0 + n0 + (m - i0 - min len xs.length) by omega]
                  exact hm
            have hup := set_blk hr hb hg (b' := ⟨b.ty, b.e, b.es.take i0 ++ (xs.take len ++ b.es.drop (i0 + n0))⟩) rfl rfl hlen ccs (ccs.toList.take i0 ++ cs ++ ccs.toList.drop (i0 + n0)).toArray m1 (by
                simp only [List.size_toArray, List.length_append, List.length_take, List.length_drop, hcl, Array.length_toList]
                omega) (fun i' y hy => by
                rw [hC] at hy
                split at hy
                · exact m2 _ _ hy
                · split at hy
                  · exact hri.one _ _ hy
                  · exact m2 _ _ hy) (fun r hr' => by
                obtain ⟨m, hm⟩ := List.getElem?_of_mem hr'
                rcases hE m r hm with ⟨_, h1⟩ | ⟨_, _, h1⟩ | ⟨_, h1⟩
                · exact m3 r (List.mem_of_getElem? h1)
                · rw [hbe, ← hz]; exact hri.row r (List.mem_of_getElem? h1)
                · exact m3 r (List.mem_of_getElem? h1)) (fun i' j r y v hi hj hv => by
                rw [hC] at hv
                have hj0 : j < b.e := by
                  have h1 := (List.getElem?_eq_some_iff.1 hj).1
                  rcases hE i' r hi with ⟨_, h2⟩ | ⟨_, _, h2⟩ | ⟨_, h2⟩
                  · rw [m3 r (List.mem_of_getElem? h2)] at h1; exact h1
                  · rw [hri.row r (List.mem_of_getElem? h2), hz] at h1; omega
                  · rw [m3 r (List.mem_of_getElem? h2)] at h1; exact h1
                have hj1 : j = 0 := by omega
                subst hj1
                rw [hbe, Nat.mul_one, Nat.add_zero] at hv
                rcases hE i' r hi with ⟨h1, h2⟩ | ⟨h1, h1', h2⟩ | ⟨h1, h2⟩
                · rw [if_pos h1] at hv
                  exact m5 i' 0 r y v h2 hj (by rw [hbe, Nat.mul_one, Nat.add_zero]; exact hv)
                · rw [if_neg (by omega), if_pos h1'] at hv
                  exact hri.is _ 0 r y v h2 hj (by rw [hz, Nat.mul_one, Nat.add_zero]; exact hv)
                · rw [if_neg (by omega), if_neg (by omega)] at hv
                  exact m5 i' 0 r y v h2 hj (by rw [hbe, Nat.mul_one, Nat.add_zero]; exact hv))
            obtain ⟨r1, r2⟩ := hup
            exact ⟨_, _, _, h, r1.more, r2.trans Step.more, .d (.int _ _)⟩
      · exact h.elim
    · rename_i id i off e len cap tot xs
      split at h
      · rename_i b hb
        split at h
        · rename_i row hrow
          obtain ⟨ht1, rfl, hz, h⟩ := h
          obtain ⟨B, k, rfl, us, hus, hul, hri, hcell⟩ := rows_is (P := P) hr hxx hxs
          rw [hz, Nat.mul_one] at hul
          have hinfo : (P.info? el).map (·.size) = some 1 := by
            have h1 : P.cellsOf el = 1 := hz
            unfold Program.cellsOf at h1
            cases hq : P.info? el with
            | none => rw [hq] at h1; simp at h1
            | some i => rw [hq] at h1; simp at h1; simp [h1]
          have hx1 : ∀ r, r ∈ xs.take len → r.length = 1 := fun r hr' => by
            have := hri.row r (List.mem_of_mem_take hr')
            rw [hz] at this
            exact this
          have hfl := flat_one_len _ hx1
          have htl : (xs.take len).length = min len xs.length := List.length_take
          cases hss with
          | sub _ _ _ _ _ _ _ A hU hl hA0 h' =>
            obtain ⟨k1, k2⟩ := h' b hb
            obtain ⟨k3, k4, k5⟩ := k2 ht1
            have hmn : Nat.min xs.length len = min len xs.length := by rw [Nat.min_comm]
            rcases Nat.eq_zero_or_pos (min len xs.length) with h0 | h0
            · have hr0 := run_copy_none (P := P) w ts tx o.type el A B len cap xs.length k hts hinfo (by rw [hmn]; exact h0)
              refine OpOk.val (run _ _ hr0) (Good.same hr (v := .d (.int .i64 0)) ?_ (.d (.int _ _)))
              rw [h0] at h
              have hxe : xs.take len = [] := List.eq_nil_of_length_eq_zero (by rw [htl]; exact h0)
              have hrs : b.es.set i row = b.es := by
                obtain ⟨hlt, he⟩ := List.getElem?_eq_some_iff.1 hrow
                rw [← he]
                exact List.set_getElem_self hlt
              rw [hxe, List.flatten_nil, List.nil_append, List.length_nil, Nat.add_zero, List.take_append_drop, hrs] at h
              have e1 : (⟨b.ty, b.e, b.es⟩ : Blk) = b := rfl
              rw [e1, setH_self hb] at h
              exact h
            · obtain ⟨g, hg, hA⟩ := k5 (by omega)
              obtain ⟨ccs, m1, m2, m3, m4, m5⟩ := hr.at hb hg
              have hrl : row.length = b.e := m3 row (List.mem_of_getElem? hrow)
              have hilt : i < b.es.length := (List.getElem?_eq_some_iff.1 hrow).1
              have hle : i * b.e + b.e ≤ ccs.size := by
                have : (i + 1) * b.e ≤ b.es.length * b.e := Nat.mul_le_mul_right _ (by omega)
                rw [Nat.add_mul, Nat.one_mul] at this
                omega
              subst hA
              obtain ⟨ad, hBad, hcell2⟩ := hcell (by omega)
              subst hBad
              let n0 := min len xs.length
              let cs := us.toList.take n0
              have hcl : cs.length = n0 := by simp only [cs, List.length_take, Array.length_toList]; omega
              have hr0 := run_copy_row (P := P) w ts tx o.type el g (i * b.e + off) len cap ad xs.length k ccs b.ty cs hts hinfo m1 (by rw [hcl, hmn]) (fun j v hj => hcell2 j v (by
                rw [List.getElem?_take] at hj
                split at hj
                · simpa using hj
                · cases hj)) (by omega) (fun v hv => by
                obtain ⟨j, hj⟩ := List.getElem?_of_mem (List.mem_of_mem_take hv)
                exact hri.one j v (by simpa using hj))
              rw [run _ _ hr0]
              obtain ⟨r1, r2⟩ := put_cells hr (off := off) hb hg hrow m1 cs (xs.take len).flatten (by rw [hfl, htl, hcl]) (by omega) (fun v hv => by
                obtain ⟨j, hj⟩ := List.getElem?_of_mem (List.mem_of_mem_take hv)
                exact hri.one j v (by simpa using hj)) (fun j y u hy hu => by
                have hy' := flat_one _ hx1 j y hy
                rw [List.getElem?_take] at hy'
                simp only [cs] at hu
                rw [List.getElem?_take] at hu
                split at hy'
                · split at hu
                  · exact hri.is j 0 [y] y u hy' rfl (by rw [hz, Nat.mul_one, Nat.add_zero]; simpa using hu)
                  · cases hu
                · cases hy')
              rw [hcl] at r1 r2 ⊢
              exact ⟨_, _, _, h, r1.more, r2.trans Step.more, .d (.int _ _)⟩
        · exact h.elim
      · exact h.elim
    · exact h.elim
  · exact h.elim

/-- A part of a struct's cells. -/
theorem run_part_ldv {t : TypeId} {v : AV} {cells : List AV} {xs : Array Value} {off : Nat} {S : Nat → Prop} (hl : ldv P t cells = some v)
    (hx : ∀ (j : Nat) (y : AV), cells[j]? = some y → ∃ x, xs[off + j]? = some x ∧ x.oneCell' = true ∧ AIs w S σ hp U y x) :
    ∃ x, (part t xs off).run P w = .ok x w ∧ AIs w S σ hp U v x := by
  have agg : ∀ d, P.underlying t = some d → isA d = true → P.cellsOf t ≤ cells.length → v = .agg (cells.take (P.cellsOf t)) →
      ∃ x, (part t xs off).run P w = .ok x w ∧ AIs w S σ hp U v x := by
    intro d hu hd' hle hv'
    subst hv'
    refine ⟨.agg (xs.extract off (off + P.cellsOf t)), ?_, ?_⟩
    · unfold part
      rw [Sem.run_bind, run_isAgg_u hu, hd']
      simp [run_sizeOf_u hu]
    · have hsz : P.cellsOf t = 0 ∨ off + P.cellsOf t ≤ xs.size := by
        rcases Nat.eq_zero_or_pos (P.cellsOf t) with h0 | h0
        · exact .inl h0
        · obtain ⟨x, q1, _, _⟩ := hx (P.cellsOf t - 1) _ (List.getElem?_eq_getElem (by omega))
          have := (Array.getElem?_eq_some_iff.1 q1).1
          exact .inr (by omega)
      refine .agg _ _ (by simp; omega) (fun i x hxi => ?_) (fun i c' x hc hxi => ?_)
      · rw [Array.getElem?_extract] at hxi
        split at hxi
        · rename_i hlt
          obtain ⟨x', q1, q2, _⟩ := hx i _ (List.getElem?_eq_getElem (by omega))
          rw [q1] at hxi
          injection hxi with hxi
          subst hxi
          exact q2
        · cases hxi
      · rw [Array.getElem?_extract] at hxi
        rw [List.getElem?_take] at hc
        split at hc
        · split at hxi
          · obtain ⟨x', q1, _, q3⟩ := hx i _ hc
            rw [q1] at hxi
            injection hxi with hxi
            subst hxi
            exact q3
          · cases hxi
        · cases hc
  have scal : ∀ d, P.underlying t = some d → isA d = false → cells.head? = some v →
      ∃ x, (part t xs off).run P w = .ok x w ∧ AIs w S σ hp U v x := by
    intro d hu hd' hh
    have h0 : cells[0]? = some v := by rw [← List.head?_eq_getElem?]; exact hh
    obtain ⟨x, q1, _, q3⟩ := hx 0 v h0
    rw [Nat.add_zero] at q1
    refine ⟨x, ?_, q3⟩
    unfold part
    rw [Sem.run_bind, run_isAgg_u hu, hd']
    simp [q1]
  unfold ldv at hl
  cases hu : P.underlying t with
  | none => simp [tyk, hu] at hl
  | some d =>
    cases d with
    | struct F =>
      simp only [tyk, hu] at hl
      split at hl
      · injection hl with hl; exact agg _ hu rfl ‹_› hl.symm
      · cases hl
    | array n e =>
      simp only [tyk, hu] at hl
      split at hl
      · injection hl with hl; exact agg _ hu rfl ‹_› hl.symm
      · cases hl
    | _ => simp only [tyk, hu] at hl; exact scal _ hu rfl hl
theorem s_field (hr : Rel c hp U σ w) (E : ∀ x, AIs w (Sof c w σ hp) σ hp U (ev fr x) (a.eval x)) {t : TypeId} {x : Operand} {i : Nat} (hop : o.op = .field t x i) (h : opW P fr hp N (.field t x i) K) :
    OpOk P c K hp U N σ w ((execOp a.eval o).run P w) := by
  simp only [opW] at h
  split at h
  · rename_i cs o' ft hx hf
    have hx' := E x
    rw [hx] at hx'
    generalize hvx : a.eval x = vx at hx'
    cases hx' with
    | agg _ xs hl h2 h3 =>
      split at h
      · rename_i v hv
        obtain ⟨F, f, hu, hF, rfl, rfl⟩ := fieldOff_of hf
        obtain ⟨y, hy, hi⟩ := run_part_ldv (w := w) (xs := xs) (off := f.offset) hv fun j y hy => by
          rw [List.getElem?_drop] at hy
          have hlt : f.offset + j < xs.size := by rw [← hl]; exact (List.getElem?_eq_some_iff.1 hy).1
          exact ⟨xs[f.offset + j], Array.getElem?_eq_getElem hlt, h2 _ _ (Array.getElem?_eq_getElem hlt), h3 _ y _ hy (Array.getElem?_eq_getElem hlt)⟩
        refine OpOk.val (x := y) ?_ (Good.same hr h hi)
        simp [execOp, hop, hvx, Instr.field, asAgg, run_underlying hu, hF, hy]
      · exact h.elim
  · exact h.elim
theorem s_index (hr : Rel c hp U σ w) (E : ∀ x, AIs w (Sof c w σ hp) σ hp U (ev fr x) (a.eval x)) {t : TypeId} {x i : Operand} (hop : o.op = .index t x i) (h : opW P fr hp N (.index t x i) K) :
    OpOk P c K hp U N σ w ((execOp a.eval o).run P w) := by
  simp only [opW] at h
  split at h
  · rename_i n el cs k m hk hx hi
    obtain ⟨h0, h1, h⟩ := h
    have hx' := E x
    rw [hx] at hx'
    have hi' := is_int (hi ▸ E i)
    generalize hvx : a.eval x = vx at hx'
    cases hx' with
    | agg _ xs hl h2 h3 =>
      split at h
      · rename_i hs
        obtain ⟨hz, h⟩ := h
        split at h
        · rename_i v hv
          have hlt : m.toNat < xs.size := by rw [← hl]; exact (List.getElem?_eq_some_iff.1 hv).1
          refine OpOk.val (x := xs[m.toNat]) ?_ (Good.same hr h (h3 _ v _ hv (Array.getElem?_eq_getElem hlt)))
          have hagg : (isAgg el).run P w = .ok false w := by
            have hd : ∃ d, P.underlying el = some d ∧ isA d = false := by
              unfold tyk at hs
              cases hu : P.underlying el with
              | none => rw [hu] at hs; cases hs
              | some d =>
                rw [hu] at hs
                refine ⟨d, rfl, ?_⟩
                cases d <;> first | rfl | cases hs
            obtain ⟨d, hu, hda⟩ := hd
            rw [run_isAgg_u hu, hda]
          have hmn : m.toNat * 1 = m.toNat := Nat.mul_one _
          simp [execOp, hop, hvx, hi', Instr.index, asIntOf, run_underlying (tyk_arr hk), h0, h1, run_sizeOf_ne (P := P) (w := w) (t := el) (by rw [hz]; decide), hz, part, hagg, hlt]
        · exact h.elim
      · rename_i hs
        obtain ⟨hz, h⟩ := h
        split at h
        · rename_i v hv
          have hlt : m.toNat < xs.size := by rw [← hl]; exact (List.getElem?_eq_some_iff.1 hv).1
          refine OpOk.val (x := xs[m.toNat]) ?_ (Good.same hr h (h3 _ v _ hv (Array.getElem?_eq_getElem hlt)))
          have hagg : (isAgg el).run P w = .ok false w := by
            have hd : ∃ d, P.underlying el = some d ∧ isA d = false := by
              unfold tyk at hs
              cases hu : P.underlying el with
              | none => rw [hu] at hs; cases hs
              | some d =>
                rw [hu] at hs
                refine ⟨d, rfl, ?_⟩
                cases d <;> first | rfl | cases hs
            obtain ⟨d, hu, hda⟩ := hd
            rw [run_isAgg_u hu, hda]
          have hmn : m.toNat * 1 = m.toNat := Nat.mul_one _
          simp [execOp, hop, hvx, hi', Instr.index, asIntOf, run_underlying (tyk_arr hk), h0, h1, run_sizeOf_ne (P := P) (w := w) (t := el) (by rw [hz]; decide), hz, part, hagg, hlt]
        · exact h.elim
      · obtain ⟨hz, h⟩ := h
        split at h
        · rename_i v hv
          obtain ⟨y, hy, hiy⟩ := run_part_ldv (w := w) (xs := xs) (off := m.toNat * P.cellsOf el) hv fun j y hy => by
            rw [List.getElem?_drop] at hy
            have hlt : m.toNat * P.cellsOf el + j < xs.size := by rw [← hl]; exact (List.getElem?_eq_some_iff.1 hy).1
            exact ⟨xs[m.toNat * P.cellsOf el + j], Array.getElem?_eq_getElem hlt, h2 _ _ (Array.getElem?_eq_getElem hlt), h3 _ y _ hy (Array.getElem?_eq_getElem hlt)⟩
          refine OpOk.val (x := y) ?_ (Good.same hr h hiy)
          simp [execOp, hop, hvx, hi', Instr.index, asIntOf, run_underlying (tyk_arr hk), h0, h1, run_sizeOf_ne (P := P) (w := w) (t := el) hz, hy]
        · exact h.elim
      · exact h.elim
  · rename_i bs k m hk hx hi
    obtain ⟨h0, h⟩ := h
    have hx' := E x
    rw [hx] at hx'
    have hi' := is_int (hi ▸ E i)
    split at h
    · rename_i b hv
      generalize hvx : a.eval x = vx at hx'
      cases hx' with
      | d hd =>
        cases hd with
        | str s =>
          rw [List.getElem?_map, Option.map_eq_some_iff] at hv
          obtain ⟨c', hc', rfl⟩ := hv
          rw [Array.getElem?_toList] at hc'
          have hlt : m.toNat < s.size := (Array.getElem?_eq_some_iff.1 hc').1
          have hs : s[m.toNat]? = some c' := by
            rw [getElem?_pos s m.toNat hlt]
            exact congrArg some (Array.getElem?_eq_some_iff.1 hc').2
          refine OpOk.val (x := .int .u8 (c'.toNat : Int)) ?_ (Good.same hr h (.d (.int .u8 _)))
          simp [execOp, hop, hvx, hi', Instr.index, asIntOf, run_underlying (tyk_str hk), h0, hs]
    · exact h.elim
  · exact h.elim

section
variable {ts tx ty el : TypeId} {i : TypeInfo} {z : Value}
theorem run_appi_stay {k' : IntKind} (hts : P.underlying ts = some (.slice el)) (htx : P.underlying tx = some (.int k')) (hi : P.info? el = some i) (hz : i.zero = some z) (hzs : z.cells.size = i.size) (hne : i.size ≠ 0) {base : Option Addr} {sLen sCap : Nat} {n : Int} {w' : World} (h0 : 0 ≤ n) (h1 : n ≤ 4294967296) (h2 : i.bytes * n ≤ 281474976710656)
    (hneed : sLen + n.toNat ≤ sCap) (hsto : (match base with | some a => storeCells (a.add (sLen * i.size)) (Builtin.zeroCells z.cells n.toNat).toList | none => pure ()).run P w = .ok () w') :
    (Builtin.append_ #[ts, tx] ty #[.slice base sLen sCap, .int k' n]).run P w = .ok (.slice base (sLen + n.toNat) sCap) w' := by
  have hw : IntKind.i64.wrap n = n := IntWalk.i64_in _ (by omega)
  have h3 : ¬ (281474976710656 < n * i.bytes) := by rw [Int.mul_comm]; omega
  have h4 : ¬ n < 0 := by omega
  by_cases hn0 : n.toNat * i.size = 0
  · have hn1 : n.toNat = 0 := by
      rcases Nat.mul_eq_zero.1 hn0 with h | h
      · exact h
      · exact absurd h hne
    have hzc : Builtin.zeroCells z.cells n.toNat = #[] := by rw [hn1]; simp [Builtin.zeroCells]
    rw [hzc] at hsto
    cases base with
    | none =>
      simp at hsto
      subst hsto
      simp [Builtin.append_, run_underlying hts, run_underlying htx, sizeOf, typeInfo, hi, asInt, asIntOf, hw, h3, h4, hneed, hn0]
    | some ad =>
      simp only at hsto
      simp [Builtin.append_, run_underlying hts, run_underlying htx, sizeOf, typeInfo, hi, asInt, asIntOf, hw, h3, h4, hneed, hn0, hsto]
  · cases base with
    | none =>
      simp at hsto
      subst hsto
      simp [Builtin.append_, run_underlying hts, run_underlying htx, sizeOf, typeInfo, hi, hz, zeroValue, asInt, asIntOf, hw, h3, h4, hneed, hn0]
    | some ad =>
      simp only at hsto
      simp [Builtin.append_, run_underlying hts, run_underlying htx, sizeOf, typeInfo, hi, hz, zeroValue, asInt, asIntOf, hw, h3, h4, hneed, hn0, hsto]

theorem run_appi_grow {k' : IntKind} (hts : P.underlying ts = some (.slice el)) (htx : P.underlying tx = some (.int k')) (hi : P.info? el = some i) (hz : i.zero = some z) (hzs : z.cells.size = i.size) (hne : i.size ≠ 0) {base : Option Addr} {sLen sCap : Nat} {n : Int} {os : Array Value} (h0 : 0 ≤ n) (h1 : n ≤ 4294967296) (h2 : i.bytes * n ≤ 281474976710656)
    (hfo : (Builtin.firstCells i.size sLen (.slice base sLen sCap)).run P w.drew = .ok os w.drew) (hneed : sCap < sLen + n.toNat) (hb : i.bytes ≠ 0) (hfit : (sLen + n.toNat) * i.bytes ≤ 140737488355328) :
    (Builtin.append_ #[ts, tx] ty #[.slice base sLen sCap, .int k' n]).run P w = .ok (.slice (some ⟨w.heap.size, 0, none⟩) (sLen + n.toNat) (grownCap w (sLen + n.toNat) sCap el))
        (w.drew.alloc (.cells (os ++ Builtin.zeroCells z.cells n.toNat ++ Builtin.zeroCells z.cells (grownCap w (sLen + n.toNat) sCap el - (sLen + n.toNat))) el)) := by
  have hw : IntKind.i64.wrap n = n := IntWalk.i64_in _ (by omega)
  have h3 : ¬ (281474976710656 < n * i.bytes) := by rw [Int.mul_comm]; omega
  have h4 : ¬ n < 0 := by omega
  have hn : ¬ (sLen + n.toNat ≤ sCap) := by omega
  have h48' : ¬ (281474976710656 < Builtin.nextslicecap (sLen + n.toNat) sCap * i.bytes) := by
    have := growslice_fits hneed hfit
    omega
  have hbig : ¬ ((IntKind.i64.max : Int) < sLen + n.toNat) := by
    have h5 : sLen + n.toNat ≤ (sLen + n.toNat) * i.bytes := Nat.le_mul_of_pos_right _ (by omega)
    have h6 : IntKind.i64.max = 9223372036854775807 := by decide
    omega
  have hbig2 : ¬ (9223372036854775807 < (sLen : Int) + max n 0) := by
    have h6 : IntKind.i64.max = 9223372036854775807 := by decide
    rw [h6] at hbig
    omega
  by_cases hn0 : n.toNat * i.size = 0
  · have hn1 : n.toNat = 0 := by
      rcases Nat.mul_eq_zero.1 hn0 with h | h
      · exact h
      · exact absurd h hne
    have hzc : Builtin.zeroCells z.cells n.toNat = #[] := by rw [hn1]; simp [Builtin.zeroCells]
    rw [hzc]
    simp [Builtin.append_, run_underlying hts, run_underlying htx, sizeOf, typeInfo, zeroValue, hi, hz, asInt, asIntOf, hw, h3, h4, hn, hn0, hb, h48', Question.forced, hfo, newRow, grownCap]
    all_goals (intro hh; exact absurd hh hbig2)
  · simp [Builtin.append_, run_underlying hts, run_underlying htx, sizeOf, typeInfo, zeroValue, hi, hz, asInt, asIntOf, hw, h3, h4, hn, hn0, hb, h48', Question.forced, hfo, newRow, grownCap]
    all_goals (intro hh; exact absurd hh hbig2)
end

theorem s_app_int (hr : Rel c hp U σ w) (E : ∀ x, AIs w (Sof c w σ hp) σ hp U (ev fr x) (a.eval x)) {ts tx : TypeId} {s x : Operand} {cl : Call} (hop : o.op = .call cl) (hc : cl.callee = .builtin .append) (ha : cl.args.toList = [s, x]) (ht : cl.argTypes.toList = [ts, tx])
    {el : TypeId} {id i0 len tot : Nat} {k : IntKind} {n : Int} {z : List AV} (hks : tyk P ts = .slice el) (hkx : tyk P tx = .scal) (hs : ev fr s = .own id i0 len tot) (hx : ev fr x = .d (.int k n)) (hk : ikind P tx = some k) (h0 : 0 ≤ n) (h1 : n ≤ 4294967296) (h2 : P.bytesOf el * n ≤ 281474976710656) (hz : tzO P el = some z)
    (h : appendW P el (.own id i0 len tot) (some (List.replicate n.toNat z)) N K hp) : OpOk P c K hp U N σ w ((execOp a.eval o).run P w) := by
  have ha' : cl.args = #[s, x] := by rw [← Array.toArray_toList (xs := cl.args), ha]
  have ht' : cl.argTypes = #[ts, tx] := by rw [← Array.toArray_toList (xs := cl.argTypes), ht]
  have hxi := is_int (hx ▸ E x)
  have run : ∀ (v : Value) (w' : World), (Builtin.append_ #[ts, tx] o.type #[a.eval s, .int k n]).run P w = .ok v w' → (execOp a.eval o).run P w = .ok (.value v) w' := by
    intro v w' hv
    simp [execOp, hop, resolve, hc, ha', ht', invoke, builtin, hxi, hv]
  have hss := E s
  rw [hs] at hss
  generalize hsv : a.eval s = sv at hss run
  have hts := tyk_slice hks
  have htx : P.underlying tx = some (.int k) := by
    unfold ikind at hk
    split at hk
    · rename_i k' hu; injection hk with hk; rw [hu, hk]
    · cases hk
  obtain ⟨v, i, hi, hzv, hzs, hne, hzl, hli⟩ := zeroV (w := w) (S := Sof c w σ hp) (σ := σ) (hp := hp) (U := U) hz
  have his : i.size = P.cellsOf el := by simp [Program.cellsOf, hi]
  have hib : i.bytes = P.bytesOf el := by simp [Program.bytesOf, hi]
  have zone : ∀ (z : Value) (m : Nat), (∀ (n : Nat) (v : Value), z.cells[n]? = some v → v.oneCell' = true) → z.cells.size ≠ 0 → ∀ (n : Nat) (v : Value), (Builtin.zeroCells z.cells m)[n]? = some v → v.oneCell' = true := by
    intro z m hz1 hz0 n v hv
    unfold Builtin.zeroCells at hv
    simp only [Array.getElem?_map, Option.map_eq_some_iff] at hv
    obtain ⟨k, _, rfl⟩ := hv
    have hlt : k % z.cells.size < z.cells.size := Nat.mod_lt _ (by omega)
    exact hz1 (k % z.cells.size) _ (by simp [hlt])
  unfold appendW at h
  split at h
  · rename_i hq _
    cases hq
  · rename_i id' len' tot' xs hq hxs
    injection hq with q1 q2 q3 q4
    subst q1; subst q2; subst q3; subst q4
    injection hxs with hxs
    subst hxs
    split at h
    · rename_i b hb
      obtain ⟨ht1, ht2, ht3, q, hby, hfit, hst, hgr⟩ := h
      rw [List.length_replicate] at hfit
      refine app_own (i := i) (z := v) hr hss hb ht1 ht2 ht3 hst hgr his hzs hne hli.one zone (fun A cap e hneed => ?_) (fun A cap os e hneed hos => ?_)
      · subst e
        rw [List.length_replicate] at hneed ⊢
        refine ⟨Builtin.zeroCells v.cells n.toNat, by rw [size_zeroCells, hzs], ?_, fun w' hsto => run _ _ (run_appi_stay (ty := o.type) hts htx hi hzv (by rw [hzs, his]) (by rw [his]; exact hne) h0 h1 (by rw [hib]; exact h2) hneed hsto)⟩
        have := zero_rows (P := P) (el := el) hli hzs hne n.toNat
        rw [← hzs] at this ⊢
        exact this
      · subst e
        rw [List.length_replicate] at hneed ⊢
        refine ⟨Builtin.zeroCells v.cells n.toNat, by rw [size_zeroCells, hzs], ?_, run _ _ (run_appi_grow (ty := o.type) hts htx hi hzv (by rw [hzs, his]) (by rw [his]; exact hne) h0 h1 (by rw [hib]; exact h2) hos (by omega) (by rw [hib]; exact hby) (by rw [hib]; exact hfit))⟩
        have hli' : LIs w.drew (Sof c w.drew σ hp) σ hp U z v.cells := ⟨hli.len, hli.one, fun i c x hc hx => (hli.is i c x hc hx).step step_drew⟩
        have := zero_rows (P := P) (el := el) hli' hzs hne n.toNat
        rw [← hzs] at this ⊢
        exact this
    · exact h.elim
  · rename_i hq _
    cases hq
  · rename_i hq _
    cases hq
  · exact h.elim

theorem s_makeFunc (hr : Rel c hp U σ w) (E : ∀ x, AIs w (Sof c w σ hp) σ hp U (ev fr x) (a.eval x)) {f : FuncId} {caps : Array Operand} (hop : o.op = .makeFunc (.func f) #[] caps) (h : K (.fn f (caps.toList.map (ev fr))) hp) : OpOk P c K hp U N σ w ((execOp a.eval o).run P w) := by
  have run : (execOp a.eval o).run P w = .ok (.value (.func (.func f) #[] (caps.map a.eval))) w := by simp [execOp, hop, Instr.makeFunc]
  refine OpOk.val run (Good.same hr h (.fn f _ _ (by simp) fun i cc x hc hx => ?_))
  rw [List.getElem?_map, Array.getElem?_toList] at hc
  rw [Array.getElem?_map] at hx
  cases hq : caps[i]? with
  | none => rw [hq] at hc; cases hc
  | some y =>
    rw [hq] at hc hx
    simp only [Option.map_some, Option.some.injEq] at hc hx
    subst hc
    subst hx
    exact E y

theorem s_makeMth (hr : Rel c hp U σ w) (E : ∀ x, AIs w (Sof c w σ hp) σ hp U (ev fr x) (a.eval x)) {f : FuncId} {caps : Array Operand} (hop : o.op = .makeFunc (.func f) caps #[]) (h : K (.mth f (caps.toList.map (ev fr))) hp) : OpOk P c K hp U N σ w ((execOp a.eval o).run P w) := by
  have run : (execOp a.eval o).run P w = .ok (.value (.func (.func f) (caps.map a.eval) #[])) w := by simp [execOp, hop, Instr.makeFunc]
  refine OpOk.val run (Good.same hr h (.mth f _ _ (by simp) fun i cc x hc hx => ?_))
  rw [List.getElem?_map, Array.getElem?_toList] at hc
  rw [Array.getElem?_map] at hx
  cases hq : caps[i]? with
  | none => rw [hq] at hc; cases hc
  | some y =>
    rw [hq] at hc hx
    simp only [Option.map_some, Option.some.injEq] at hc hx
    subst hc
    subst hx
    exact E y

theorem s_max (hr : Rel c hp U σ w) (E : ∀ x, AIs w (Sof c w σ hp) σ hp U (ev fr x) (a.eval x)) {x y : Operand} {tx ty : TypeId} {cl : Call} (hop : o.op = .call cl) (hc : cl.callee = .builtin .max) (ha : cl.args.toList = [x, y]) (ht : cl.argTypes.toList = [tx, ty])
    (h : biW P fr hp N .max [x, y] [tx, ty] K) : OpOk P c K hp U N σ w ((execOp a.eval o).run P w) := by
  simp only [biW] at h
  have ha' : cl.args = #[x, y] := by rw [← Array.toArray_toList (xs := cl.args), ha]
  have ht' : cl.argTypes = #[tx, ty] := by rw [← Array.toArray_toList (xs := cl.argTypes), ht]
  split at h
  · rename_i k m k' n hx hy
    have h1 := is_int (hx ▸ E x)
    have h2 := is_int (hy ▸ E y)
    have run : (execOp a.eval o).run P w = .ok (.value (.int k (if n > m then n else m))) w := by
      simp [execOp, hop, resolve, hc, ha', ht', invoke, builtin, h1, h2, Builtin.max_, Builtin.max2]
    exact OpOk.val run (Good.same hr h (.d (.int k _)))
  · exact h.elim

theorem s_min (hr : Rel c hp U σ w) (E : ∀ x, AIs w (Sof c w σ hp) σ hp U (ev fr x) (a.eval x)) {x y : Operand} {tx ty : TypeId} {cl : Call} (hop : o.op = .call cl) (hc : cl.callee = .builtin .min) (ha : cl.args.toList = [x, y]) (ht : cl.argTypes.toList = [tx, ty])
    (h : biW P fr hp N .min [x, y] [tx, ty] K) : OpOk P c K hp U N σ w ((execOp a.eval o).run P w) := by
  simp only [biW] at h
  have ha' : cl.args = #[x, y] := by rw [← Array.toArray_toList (xs := cl.args), ha]
  have ht' : cl.argTypes = #[tx, ty] := by rw [← Array.toArray_toList (xs := cl.argTypes), ht]
  split at h
  · rename_i k m k' n hx hy
    have h1 := is_int (hx ▸ E x)
    have h2 := is_int (hy ▸ E y)
    have run : (execOp a.eval o).run P w = .ok (.value (.int k (if n < m then n else m))) w := by
      simp [execOp, hop, resolve, hc, ha', ht', invoke, builtin, h1, h2, Builtin.min_, Builtin.min2]
    exact OpOk.val run (Good.same hr h (.d (.int k _)))
  · exact h.elim

/-- Every operation that opW knows is sound. -/
theorem opW_snd (hr : Rel c hp U σ w) (E : ∀ x, AIs w (Sof c w σ hp) σ hp U (ev fr x) (a.eval x)) (hN : Free U N) (h : opW P fr hp N o.op K) : OpOk P c K hp U N σ w ((execOp a.eval o).run P w) := by
  generalize hop : o.op = op at h
  cases op with
  | move x => exact s_move hr E (.inl hop) h
  | assign x => exact s_move hr E (.inr hop) h
  | pick x y z => exact s_pick hr E hop h
  | binOp op t x y t' => exact s_bin hr E hop h
  | unOp op t x => exact s_un hr E hop h
  | nilCheck x => exact s_nilCheck hr E hop h
  | extract x i => exact s_extract hr E hop h
  | convert s t x => exact s_convert hr E hop (fun bs el h1 h2 h3 h4 h5 => s_conv_str hr E hop h1 h2 h3 h4 h5) (fun bs el h1 h2 h3 h4 h5 h6 => s_conv_own hr E hop h1 h2 h3 h4 h5 h6) h
  | load t x => exact s_load hr E hop h
  | fieldAddr t x i => exact s_fieldAddr hr E hop h
  | indexAddr t x ix => exact s_indexAddr hr E hop h
  | alloc t => exact s_alloc hr hN hop h
  | build t parts => exact s_build hr E hop h
  | buildSlice t n parts => exact s_buildSlice hr E hN hop h
  | slice t x lo hi m =>
    cases m with
    | none => exact s_slice hr E hop h
    | some m => exact s_slice3 hr E hop h
  | index t x i => exact s_index hr E hop h
  | field t x i => exact s_field hr E hop h
  | makeSlice t l m => exact s_make hr E hN hop h
  | makeFunc fn first caps =>
    cases fn with
    | func f =>
      simp only [opW] at h
      split at h
      · rename_i hf
        obtain rfl : first = #[] := by simpa using hf
        exact s_makeFunc hr E hop h
      · obtain ⟨rfl, h⟩ := h
        exact s_makeMth hr E hop h
    | _ => exact h.elim
  | sliceToArrayPointer t x => exact s_arr hr E hop h
  | box t x => exact s_box hr E hN hop h
  | store t x v => exact s_store hr E hop h
  | makeMap t r =>
    cases r with
    | none => exact s_makeMap hr hN hop h
    | some r => exact h.elim
  | lookup t m x ok =>
    cases ok with
    | false => exact s_lookup hr E hop h
    | true => exact h.elim
  | mapUpdate t m x v => exact s_mapUpdate hr E hop h
  | call cl =>
    simp only [opW] at h
    split at h
    · rename_i b hb
      generalize ha : cl.args.toList = as at h
      generalize ht : cl.argTypes.toList = ts at h
      cases b with
      | len =>
        match as, ts, h with
        | [x], [t], h => exact s_len hr E hop hb ha ht h
      | append =>
        match as, ts, h with
        | [s, x], [t, u], h => exact s_append hr E hN hop hb ha ht (fun el id i0 len tot k n z h1 h2 h3 h4 h5 h6 h7 h8 h9 h10 => s_app_int hr E hop hb ha ht h1 h2 h3 h4 h5 h6 h7 h8 h9 h10) h
      | copy =>
        match as, ts, h with
        | [s, x], [t, u], h => exact s_copy hr E hop hb ha ht h
      | max =>
        match as, ts, h with
        | [s, x], [t, u], h => exact s_max hr E hop hb ha ht h
      | min =>
        match as, ts, h with
        | [s, x], [t, u], h => exact s_min hr E hop hb ha ht h
      | _ => exact h.elim
    · rename_i f hf
      split at h
      · exact s_call hr E hN hop hf ‹_› h
      · exact s_callm hr E hN hop hf ‹_› h
      · exact h.elim
    · exact h.elim
  | _ => exact h.elim
end
end Go.Am
