/-
  AM, part 10: what an argument reads as is a deep value.
-/
import Derived.Test.YtnmnabagabejjaaGreatAmFn
import Derived.ProofKit
namespace Go.Am
set_option linter.unusedVariables false

/-- Cells of consecutive fields. -/
def TyFs (R : TypeId → List DV → Prop) (size : TypeId → Nat) : List TypeId → List DV → Prop
  | [], ds => ds = []
  | t :: r, ds => ∃ a b, ds = a ++ b ∧ a.length = size t ∧ R t a ∧ TyFs R size r b

/-- The cells of a value of a type. -/
def TyD (P : Program) : Nat → TypeId → List DV → Prop
  | 0, _, _ => False
  | n + 1, t, ds =>
    match P.underlying t with
    | some .bool => ∃ b, ds = [.bool b]
    | some (.int k) => ∃ x, ds = [.int k x] ∧ k.has x
    | some .string => ∃ bs : List Int, ds = [.str bs] ∧ bs.length ≤ maxLen ∧ ∀ b, b ∈ bs → 0 ≤ b ∧ b < 256
    | some (.slice e) => ∃ es, ds = [.ro (P.cellsOf e) es] ∧ es.length ≤ maxLen ∧ ∀ r, r ∈ es → TyD P n e r ∧ r.length = P.cellsOf e
    | some (.pointer e) => ds = [.nilp] ∨ ∃ cs, ds = [.box cs] ∧ TyD P n e cs ∧ cs.length = P.cellsOf e
    | some (.struct fs) => TyFs (TyD P n) P.cellsOf (fs.toList.map (·.type)) ds
    | some (.array m e) => TyFs (TyD P n) P.cellsOf (List.replicate m e) ds
    | _ => False

/-- Fields that stand one behind the other, from off on; where they end. -/
def layF (P : Program) : Nat → List Field → Option Nat
  | off, [] => some off
  | off, f :: r => if f.offset = off then layF P (off + P.cellsOf f.type) r else none

def okTy (P : Program) : Nat → TypeId → Bool
  | 0, _ => false
  | n + 1, t =>
    match P.underlying t with
    | some .bool => true
    | some (.int _) => true
    | some .string => true
    | some (.slice e) => decide (0 < P.cellsOf e) && okTy P n e
    | some (.pointer e) => decide (0 < P.cellsOf e) && okTy P n e
    | some (.struct fs) => decide (layF P 0 fs.toList = some (P.cellsOf t)) && fs.toList.all fun f => okTy P n f.type
    | some (.array m e) => decide (m * P.cellsOf e = P.cellsOf t) && okTy P n e
    | _ => false

section
variable {H : Type} {enc : TypeId × Value → H} {P : Program} {w : World} {spare : Nat → Bool}

def AllD (w : World) (ds : List DV) (cs : List Value) : Prop := ds.length = cs.length ∧ ∀ (j : Nat) (d : DV) (v : Value), ds[j]? = some d → cs[j]? = some v → DIs w (fun b => b < w.heap.size) d v

theorem mapM_each {α β : Type} {f : α → Option β} : ∀ {l : List α} {r : List β}, l.mapM f = some r → ∀ x, x ∈ l → ∃ y, f x = some y
  | [], _, _, x, hx => by simp at hx
  | a :: l, r, h, x, hx => by
    rw [List.mapM_cons] at h
    cases ha : f a with
    | none => simp [ha] at h
    | some b =>
      cases hl : l.mapM f with
      | none => simp [ha, hl] at h
      | some bs =>
        rcases List.mem_cons.1 hx with rfl | hx
        · exact ⟨b, ha⟩
        · exact mapM_each hl x hx

theorem allD_app {a b : List DV} {cs : List Value} {k : Nat} (ha : AllD w a (cs.take k)) (hk : k ≤ cs.length) (hb : AllD w b (cs.drop k)) : AllD w (a ++ b) cs := by
  have hal : a.length = k := by rw [ha.1]; simp; omega
  have hbl := hb.1
  rw [List.length_drop] at hbl
  refine ⟨by rw [List.length_append]; omega, fun j d v hj hv => ?_⟩
  rw [List.getElem?_append] at hj
  split at hj
  · rename_i h
    exact ha.2 j d v hj (by rw [List.getElem?_take, if_pos (by omega)]; exact hv)
  · rename_i h
    refine hb.2 (j - a.length) d v hj ?_
    rw [List.getElem?_drop, show k + (j - a.length) = j by omega]
    exact hv

theorem fields_deep {R : TypeId → List DV → Prop} {size : TypeId → Nat} : ∀ (ts : List TypeId) (cs : List Value), (ts.map size).sum = cs.length →
      (∀ (pre : List TypeId) (t : TypeId) (post : List TypeId), ts = pre ++ t :: post → ∃ ds, R t ds ∧ AllD w ds ((cs.drop (pre.map size).sum).take (size t))) → ∃ ds, TyFs R size ts ds ∧ AllD w ds cs
  | [], cs, hl, _ => by
    simp at hl
    have : cs = [] := List.eq_nil_of_length_eq_zero hl.symm
    subst this
    exact ⟨[], rfl, rfl, by simp⟩
  | t :: r, cs, hl, h => by
    simp only [List.map_cons, List.sum_cons] at hl
    obtain ⟨a, ha1, ha2⟩ := h [] t r rfl
    simp only [List.map_nil, List.sum_nil, List.drop_zero] at ha2
    obtain ⟨b, hb1, hb2⟩ := fields_deep (R := R) (size := size) r (cs.drop (size t)) (by rw [List.length_drop]; omega) fun pre u post e => by
      obtain ⟨ds, h1, h2⟩ := h (t :: pre) u post (by rw [e]; rfl)
      refine ⟨ds, h1, ?_⟩
      rw [List.drop_drop]
      simpa using h2
    refine ⟨a ++ b, ⟨a, b, rfl, ?_, ha1, hb1⟩, allD_app ha2 (by omega) hb2⟩
    rw [ha2.1]
    simp
    omega

theorem layF_at : ∀ (fs : List Field) (off tot : Nat), layF P off fs = some tot → off + ((fs.map (·.type)).map P.cellsOf).sum = tot ∧ ∀ (pre : List Field) (f : Field) (post : List Field), fs = pre ++ f :: post → f.offset = off + ((pre.map (·.type)).map P.cellsOf).sum
  | [], off, tot, h => by
    simp only [layF] at h
    injection h with h
    exact ⟨by simpa using h, fun pre f post e => by simp at e⟩
  | g :: r, off, tot, h => by
    simp only [layF] at h
    split at h
    · rename_i ho
      obtain ⟨h1, h2⟩ := layF_at r _ tot h
      refine ⟨by simp only [List.map_cons, List.sum_cons]; omega, fun pre f post e => ?_⟩
      cases pre with
      | nil => simp at e; rw [← e.1, ho]; simp
      | cons p pre =>
        simp at e
        have := h2 pre f post e.2
        rw [this, ← e.1]
        simp only [List.map_cons, List.sum_cons]
        omega
    · cases h

theorem sum_rep (f : TypeId → Nat) (e : TypeId) : ∀ m : Nat, ((List.replicate m e).map f).sum = m * f e
  | 0 => by simp
  | m + 1 => by simp only [List.replicate_succ, List.map_cons, List.sum_cons, sum_rep f e m, Nat.add_mul, Nat.one_mul]; omega

theorem has_of_wf {k : IntKind} {x : Int} (h : (Lit.int k x).wf = true) : k.has x := by
  simp only [Lit.wf, Bool.and_eq_true, decide_eq_true_eq] at h
  exact h

theorem trod_deep : ∀ (fuel n : Nat) (t : TypeId) (cs : List Value) (x : DataW H × List MemPlace), okTy P n t = true → DataW.trod enc P w 0 spare true fuel t cs = some x → ∃ ds, TyD P n t ds ∧ AllD w ds cs
  | 0, _, _, _, _, _, h => by simp [DataW.trod] at h
  | _ + 1, 0, _, _, _, hk, _ => by simp [okTy] at hk
  | fuel + 1, n + 1, t, cs, x, hk, h => by
    have ih := fun e cs x hk h => trod_deep fuel n e cs x hk h
    have one : ∀ d v, DIs w (fun b => b < w.heap.size) d v → AllD w [d] [v] := by
      intro d v hd
      refine ⟨rfl, fun j d' v' h1 h2 => ?_⟩
      cases j with
      | zero => simp at h1 h2; subst h1; subst h2; exact hd
      | succ j => simp at h1
    simp only [okTy] at hk
    cases hu : P.underlying t with
    | none => simp [hu] at hk
    | some td =>
      rw [hu] at hk
      cases td with
      | bool =>
        rcases cs with _ | ⟨v, _ | ⟨u, r⟩⟩
        · simp [DataW.trod, hu] at h
        · cases v <;> simp [DataW.trod, hu] at h
          exact ⟨[.bool _], by simp [TyD, hu], one _ _ (.bool _)⟩
        · simp [DataW.trod, hu] at h
      | int k =>
        rcases cs with _ | ⟨v, _ | ⟨u, r⟩⟩
        · simp [DataW.trod, hu] at h
        · cases v <;> simp [DataW.trod, hu] at h
          rename_i k' x'
          obtain ⟨⟨rfl, hw⟩, _⟩ := h
          exact ⟨[.int _ x'], by simp [TyD, hu]; exact has_of_wf hw, one _ _ (.int _ _)⟩
        · simp [DataW.trod, hu] at h
      | string =>
        rcases cs with _ | ⟨v, _ | ⟨u, r⟩⟩
        · simp [DataW.trod, hu] at h
        · cases v <;> simp [DataW.trod, hu] at h
          rename_i s
          refine ⟨[.str (s.data.toList.map fun c => (c.toNat : Int))], ?_, one _ _ (.str _)⟩
          simp only [TyD, hu]
          refine ⟨_, rfl, by simpa using h.1, fun b hb => ?_⟩
          rw [List.mem_map] at hb
          obtain ⟨c, _, rfl⟩ := hb
          have := c.toNat_lt
          omega
        · simp [DataW.trod, hu] at h
      | slice e =>
        rw [Bool.and_eq_true, decide_eq_true_eq] at hk
        rcases cs with _ | ⟨v, _ | ⟨u, r⟩⟩
        · simp [DataW.trod, hu] at h
        · cases v with
          | slice A len cap =>
            cases A with
            | none =>
              have : len = 0 ∧ cap = 0 := by
                rcases len with _ | len <;> rcases cap with _ | cap <;> simp [DataW.trod, hu] at h ⊢
              obtain ⟨rfl, rfl⟩ := this
              refine ⟨[.ro (P.cellsOf e) []], by simp [TyD, hu], one _ _ ?_⟩
              exact .ro _ [] none 0 (fun _ _ => default) (by simp) (by simp) (by simp) (by simp) (by simp)
            | some ad =>
              simp only [DataW.trod, hu] at h
              split at h
              · rename_i hc
                obtain ⟨_, hlc, hcm⟩ := hc
                cases he : (List.range len).mapM fun i => (w.cells? 0 (ad.add (i * P.cellsOf e)) (P.cellsOf e)).bind (DataW.trod enc P w 0 spare true fuel e) with
                | none => simp [he] at h
                | some elems =>
                  have hel : ∀ i, i < len → ∃ cells ds, w.cells? 0 (ad.add (i * P.cellsOf e)) (P.cellsOf e) = some cells ∧ TyD P n e ds ∧ AllD w ds cells := by
                    intro i hi
                    obtain ⟨y, hy⟩ := mapM_each he i (by simp [hi])
                    cases hcl : w.cells? 0 (ad.add (i * P.cellsOf e)) (P.cellsOf e) with
                    | none => simp [hcl] at hy
                    | some cells =>
                      simp only [hcl, Option.bind_some] at hy
                      obtain ⟨ds, h1, h2⟩ := ih e cells y hk.2 hy
                      exact ⟨cells, ds, rfl, h1, h2⟩
                  let es : List (List DV) := (List.range len).map fun i => if hi : i < len then (hel i hi).choose_spec.choose else []
                  have hes : ∀ i r, es[i]? = some r → ∃ cells, i < len ∧ w.cells? 0 (ad.add (i * P.cellsOf e)) (P.cellsOf e) = some cells ∧ TyD P n e r ∧ AllD w r cells := by
                    intro i r hr
                    have hi : i < len := by
                      have := (List.getElem?_eq_some_iff.1 hr).1
                      simpa [es] using this
                    simp only [es, List.getElem?_map, List.getElem?_range hi, Option.map_some, Option.some.injEq, dif_pos hi] at hr
                    subst hr
                    exact ⟨(hel i hi).choose, hi, (hel i hi).choose_spec.choose_spec⟩
                  have hlen : es.length = len := by simp [es]
                  have hrl : ∀ r, r ∈ es → TyD P n e r ∧ r.length = P.cellsOf e := by
                    intro r hr
                    obtain ⟨i, hi⟩ := List.getElem?_of_mem hr
                    obtain ⟨cells, _, h1, h2, h3⟩ := hes i r hi
                    exact ⟨h2, by rw [h3.1, (World.cells?_some h1).2.1]⟩
                  refine ⟨[.ro (P.cellsOf e) es], ?_, one _ _ ?_⟩
                  · simp only [TyD, hu]
                    exact ⟨es, rfl, by omega, hrl⟩
                  · have := DIs.ro (w := w) (S := fun b => b < w.heap.size) (P.cellsOf e) es (some ad) cap (fun i j => (w.cell? (ad.add (i * P.cellsOf e + j))).getD undef) (by omega) (fun r hr => (hrl r hr).2)
                      (fun r hr => ⟨ad, rfl, by
                        obtain ⟨i, hi⟩ := List.getElem?_of_mem hr
                        obtain ⟨cells, _, h1, _, _⟩ := hes i r hi
                        have := World.cells?_block h1 hk.1
                        rwa [add_block] at this⟩)
                      (fun a' ha i j r y hi hj => by
                        injection ha with ha
                        subst ha
                        obtain ⟨cells, _, h1, _, h3⟩ := hes i r hi
                        have hj' : j < P.cellsOf e := by
                          have := (List.getElem?_eq_some_iff.1 hj).1
                          rw [h3.1, (World.cells?_some h1).2.1] at this
                          exact this
                        have h4 := (World.cells?_some h1).2.2 j hj'
                        rw [add_add] at h4
                        have : cells[j]? = some (cells[j]'(by rw [(World.cells?_some h1).2.1]; exact hj')) := List.getElem?_eq_getElem _
                        rw [h4, this]
                        rfl)
                      (fun i j r y hi hj => by
                        obtain ⟨cells, _, h1, _, h3⟩ := hes i r hi
                        have hj' : j < P.cellsOf e := by
                          have := (List.getElem?_eq_some_iff.1 hj).1
                          rw [h3.1, (World.cells?_some h1).2.1] at this
                          exact this
                        have h4 := (World.cells?_some h1).2.2 j hj'
                        rw [add_add] at h4
                        have h5 : cells[j]? = some (cells[j]'(by rw [(World.cells?_some h1).2.1]; exact hj')) := List.getElem?_eq_getElem _
                        rw [h4, h5]
                        exact h3.2 j y _ hj h5)
                    rw [hlen] at this
                    exact this
              · cases h
          | _ => simp [DataW.trod, hu] at h
        · simp [DataW.trod, hu] at h
      | pointer e =>
        rw [Bool.and_eq_true, decide_eq_true_eq] at hk
        rcases cs with _ | ⟨v, _ | ⟨u, r⟩⟩
        · simp [DataW.trod, hu] at h
        · cases v with
          | pointer A =>
            cases A with
            | none => exact ⟨[.nilp], by simp [TyD, hu], one _ _ .nilp⟩
            | some ad =>
              simp only [DataW.trod, hu] at h
              cases hcl : w.cells? 0 ad (P.cellsOf e) with
              | none => simp [hcl] at h
              | some cells =>
                simp only [hcl, Option.bind_some] at h
                cases hy : DataW.trod enc P w 0 spare true fuel e cells with
                | none => simp [hy] at h
                | some y =>
                  obtain ⟨ds, h1, h2⟩ := ih e cells y hk.2 hy
                  have hc := World.cells?_some hcl
                  refine ⟨[.box ds], ?_, one _ _ (.box ds ad (fun j => (w.cell? (ad.add j)).getD undef) (World.cells?_block hcl hk.1) (fun j z hz => ?_) (fun j z hz => ?_))⟩
                  · simp only [TyD, hu]
                    exact .inr ⟨ds, rfl, h1, by rw [h2.1, hc.2.1]⟩
                  · have hj : j < P.cellsOf e := by
                      have := (List.getElem?_eq_some_iff.1 hz).1
                      rw [h2.1, hc.2.1] at this
                      exact this
                    have h5 : cells[j]? = some (cells[j]'(by rw [hc.2.1]; exact hj)) := List.getElem?_eq_getElem _
                    rw [hc.2.2 j hj, h5]
                    rfl
                  · have hj : j < P.cellsOf e := by
                      have := (List.getElem?_eq_some_iff.1 hz).1
                      rw [h2.1, hc.2.1] at this
                      exact this
                    have h5 : cells[j]? = some (cells[j]'(by rw [hc.2.1]; exact hj)) := List.getElem?_eq_getElem _
                    rw [hc.2.2 j hj, h5]
                    exact h2.2 j z _ hz h5
          | _ => simp [DataW.trod, hu] at h
        · simp [DataW.trod, hu] at h
      | struct fs =>
        rw [Bool.and_eq_true, decide_eq_true_eq] at hk
        obtain ⟨hk1, hk2⟩ := hk
        obtain ⟨l1, l2⟩ := layF_at fs.toList 0 _ hk1
        have hh : cs.length = P.cellsOf t ∧ ∃ xs, (fs.toList.mapM fun f => DataW.trod enc P w 0 spare true fuel f.type ((cs.drop f.offset).take (P.cellsOf f.type))) = some xs := by
          simp only [DataW.trod, hu] at h
          split at h
          · rename_i hc
            cases hm : (fs.toList.mapM fun f => DataW.trod enc P w 0 spare true fuel f.type ((cs.drop f.offset).take (P.cellsOf f.type))) with
            | none => simp [hm] at h
            | some xs => exact ⟨hc, xs, rfl⟩
          · cases h
        obtain ⟨hc, xs, hxs⟩ := hh
        obtain ⟨ds, d1, d2⟩ := fields_deep (w := w) (R := TyD P n) (size := P.cellsOf) (fs.toList.map (·.type)) cs (by omega) (fun pre u post e => by
          rw [List.map_eq_append_iff] at e
          obtain ⟨fp, fr, e1, e2, e3⟩ := e
          rw [List.map_eq_cons_iff] at e3
          obtain ⟨f, fr', e4, e5, e6⟩ := e3
          subst e2 e5
          have hmem : f ∈ fs.toList := by rw [e1, e4]; simp
          obtain ⟨y, hy⟩ := mapM_each hxs f hmem
          have ho := l2 fp f fr' (by rw [e1, e4])
          rw [Nat.zero_add] at ho
          rw [ho] at hy
          exact ih _ _ y (List.all_eq_true.1 hk2 f hmem) hy)
        exact ⟨ds, by simp only [TyD, hu]; exact d1, d2⟩
      | array m e =>
        rw [Bool.and_eq_true, decide_eq_true_eq] at hk
        obtain ⟨hk1, hk2⟩ := hk
        have hh : cs.length = P.cellsOf t ∧ ∃ xs, ((List.range m).mapM fun i => DataW.trod enc P w 0 spare true fuel e ((cs.drop (i * P.cellsOf e)).take (P.cellsOf e))) = some xs := by
          simp only [DataW.trod, hu] at h
          split at h
          · rename_i hc
            cases hm : ((List.range m).mapM fun i => DataW.trod enc P w 0 spare true fuel e ((cs.drop (i * P.cellsOf e)).take (P.cellsOf e))) with
            | none => simp [hm] at h
            | some xs => exact ⟨hc, xs, rfl⟩
          · cases h
        obtain ⟨hc, xs, hxs⟩ := hh
        obtain ⟨ds, d1, d2⟩ := fields_deep (w := w) (R := TyD P n) (size := P.cellsOf) (List.replicate m e) cs (by rw [sum_rep]; omega) (fun pre u post h' => by
          have hpl : pre.length < m := by
            have := congrArg List.length h'
            simp at this
            omega
          have hpe : pre = List.replicate pre.length e := List.eq_replicate_iff.2 ⟨rfl, fun x hx => List.eq_of_mem_replicate (n := m) (by rw [h']; simp [hx])⟩
          have hu' : u = e := by
            have : u ∈ List.replicate m e := by rw [h']; simp
            exact List.eq_of_mem_replicate this
          subst hu'
          obtain ⟨y, hy⟩ := mapM_each hxs pre.length (by simp [hpl])
          have hs : (pre.map P.cellsOf).sum = pre.length * P.cellsOf u := by
            rw [hpe, sum_rep, List.length_replicate]
          rw [hs]
          exact ih _ _ y hk2 hy)
        exact ⟨ds, by simp only [TyD, hu]; exact d1, d2⟩
      | _ => simp at hk
end
end Go.Am
