/-
  AM, part 11: a law, from a contract: whatever the input, true; the input reads as it did.
-/
import Derived.Test.YtnmnabagabejjaaGreatAmIn
namespace Go.Am
set_option linter.unusedVariables false
open Go.ChangeShapes Go.RowKit

def ArgTy (P : Program) (n : Nat) (t : TypeId) (a : AV) : Prop :=
  match P.underlying t with
  | some (.struct _) => ∃ ds, a = .agg (ds.map .d) ∧ TyD P n t ds
  | some (.array _ _) => ∃ ds, a = .agg (ds.map .d) ∧ TyD P n t ds
  | _ => ∃ d, a = .d d ∧ TyD P n t [d]

def ArgTys (P : Program) (n : Nat) : List TypeId → List AV → Prop
  | [], as => as = []
  | t :: ts, as => ∃ a r, as = a :: r ∧ ArgTy P n t a ∧ ArgTys P n ts r

section
variable {H : Type} {enc : TypeId × Value → H} {P : Program} {W : World}

theorem arg_in {n : Nat} {t : TypeId} {v : Value} {d : DataW H} {ps : List MemPlace} {base : Nat} (hk : okTy P n t = true) (hv : Value.okWide P W .any base t v) (h : DataW.Trod enc P W 0 (fun _ => true) true t v d ps) :
    ∃ a, ArgTy P n t a ∧ AIs W (fun b => b < W.heap.size) (fun _ => none) [] (fun _ => False) a v := by
  obtain ⟨fuel, h⟩ := h
  obtain ⟨ds, h1, h2⟩ := trod_deep fuel n t _ _ hk h
  have agg : (∃ cs, v = .agg cs ∧ cs.size = P.cellsOf t ∧ Row.okWide P W .any base t cs) → ∃ a, (∃ ds, a = .agg (ds.map .d) ∧ TyD P n t ds) ∧ AIs W (fun b => b < W.heap.size) (fun _ => none) [] (fun _ => False) a v := by
    rintro ⟨cs, rfl, _, _⟩
    simp only [Value.cells] at h2
    have hl : ds.length = cs.size := by simpa using h2.1
    refine ⟨_, ⟨ds, rfl, h1⟩, .agg _ cs (by simp [hl]) (fun i x hx => ?_) (fun i c x hc hx => ?_)⟩
    · have hi : i < ds.length := by
        have := (Array.getElem?_eq_some_iff.1 hx).1
        omega
      exact dis_one (h2.2 i ds[i] x (List.getElem?_eq_getElem hi) (by simpa using hx))
    · simp only [List.getElem?_map, Option.map_eq_some_iff] at hc
      obtain ⟨d, hd, rfl⟩ := hc
      exact .d (h2.2 i d x hd (by simpa using hx))
  have one : v.cells = #[v] → ∃ a, (∃ d, a = .d d ∧ TyD P n t [d]) ∧ AIs W (fun b => b < W.heap.size) (fun _ => none) [] (fun _ => False) a v := by
    intro hc
    rw [hc] at h2
    simp only at h2
    have hl := h2.1
    match ds, hl, h1, h2 with
    | [d], _, h1, h2 => exact ⟨_, ⟨d, rfl, h1⟩, .d (h2.2 0 d v rfl rfl)⟩
  unfold ArgTy
  unfold Value.okWide at hv
  cases n with
  | zero => simp [okTy] at hk
  | succ n =>
    simp only [okTy] at hk
    cases hu : P.underlying t with
    | none => simp [hu] at hk
    | some td =>
      rw [hu] at hk hv
      cases td with
      | struct fs => exact agg hv
      | array m e => exact agg hv
      | bool =>
        simp only [Cell.okWide, Cell.ok, hu] at hv
        refine one ?_
        cases v <;> simp at hv <;> rfl
      | int k =>
        simp only [Cell.okWide, Cell.ok, hu] at hv
        refine one ?_
        cases v <;> simp at hv <;> rfl
      | string =>
        simp only [Cell.okWide, Cell.ok, hu] at hv
        refine one ?_
        cases v <;> simp at hv <;> rfl
      | slice e =>
        simp only [Cell.okWide, Cell.ok, hu] at hv
        refine one ?_
        cases v <;> simp at hv <;> rfl
      | pointer e =>
        simp only [Cell.okWide, Cell.ok, hu] at hv
        refine one ?_
        cases v <;> simp at hv <;> rfl
      | _ => simp at hk

theorem args_in {n : Nat} {base : Nat} : ∀ (ts : List TypeId) (vs : List Value) (ds : List (DataW H)) (ps : List MemPlace), ts.all (okTy P n) = true → (∀ (j : Nat) (t : TypeId) (v : Value), ts[j]? = some t → vs[j]? = some v → Value.okWide P W .any base t v) →
    DataW.TrodAll enc P W 0 (fun _ => true) true ts vs ds ps → vs.length = ts.length ∧ ds.length = ts.length ∧ ∃ as, ArgTys P n ts as ∧ as.length = ts.length ∧ ∀ (i : Nat) (a : AV) (x : Value), as[i]? = some a → vs[i]? = some x → AIs W (fun b => b < W.heap.size) (fun _ => none) [] (fun _ => False) a x
  | [], vs, ds, ps, _, _, h => by
    cases vs <;> cases ds <;> simp [DataW.TrodAll] at h
    exact ⟨rfl, rfl, [], rfl, rfl, by simp⟩
  | t :: ts, vs, ds, ps, hk, hv, h => by
    obtain ⟨v, vs', d, ds', p, q, rfl, rfl, rfl, h1, h2⟩ := trodAll_cons h
    simp only [List.all_cons, Bool.and_eq_true] at hk
    obtain ⟨a, ha1, ha2⟩ := arg_in hk.1 (hv 0 t v rfl rfl) h1
    obtain ⟨l1, l2, as, k1, k2, k3⟩ := args_in ts vs' ds' q hk.2 (fun j t v ht hv' => hv (j + 1) t v (by simpa using ht) (by simpa using hv')) h2
    refine ⟨by simp [l1], by simp [l2], a :: as, ⟨a, as, rfl, ha1, k1⟩, by simp [k2], fun i b x hb hx => ?_⟩
    cases i with
    | zero => simp at hb hx; subst hb; subst hx; exact ha2
    | succ i => simp at hb hx; exact k3 i b x hb hx

theorem trodAll_below (hl : laidOutB P = true) {W' : World} (hb : Below W.heap.size W W') : ∀ (ts : List TypeId) (vs : List Value) (ds : List (DataW H)) (ps : List MemPlace), (ts.all fun t => P.readableRec t && decide (t < P.types.size)) = true → (∀ x, x ∈ ps → x.block < W.heap.size) →
    DataW.TrodAll enc P W 0 (fun _ => true) true ts vs ds ps → DataW.TrodAll enc P W' 0 (fun b => decide (b < W.heap.size)) true ts vs ds ps
  | [], vs, ds, ps, _, _, h => by
    cases vs <;> cases ds <;> simp [DataW.TrodAll] at h ⊢
    exact h
  | t :: ts, vs, ds, ps, hk, hlt, h => by
    obtain ⟨v, vs', d, ds', p, q, rfl, rfl, rfl, h1, h2⟩ := trodAll_cons h
    simp only [List.all_cons, Bool.and_eq_true, decide_eq_true_eq] at hk
    exact ⟨p, q, Below.trod hl hk.1.1 hk.1.2 h1 hb (fun x hx => hlt x (by simp [hx])), trodAll_below hl hb ts vs' ds' q hk.2 (fun x hx => hlt x (by simp [hx])) h2, rfl⟩

/-- A law. -/
theorem law_fin {f : Func} {s : ChangeSpec} {g : FuncId} {n base : Nat} {args : Array Value} {ds gs : List (DataW H)} {before : List MemPlace} {tb : TypeId} (hl : laidOutB P = true) (hr : f.resultTypes = #[tb]) (htb : P.underlying tb = some .bool) (hvars : s.vars = [])
    (hrd : (f.params.toList.all fun t => P.readableRec t && decide (t < P.types.size)) = true) (hok : f.params.toList.all (okTy P n) = true)
    (hval : ∀ (j : Nat) (t : TypeId) (v : Value), f.params[j]? = some t → args[j]? = some v → Value.okWide P W .any base t v) (hW : DataW.Whole enc P f.params.toList s.vars false W args.toList ds gs before)
    (hs : ∀ ds : List (DataW H), ds.length = f.params.size → s.fn H ds = { results := [.lit (.bool true)], args := ds })
    (hlaw : ∀ as, ArgTys P n f.params.toList as → Rets P g as (fun r => r = .d (.bool true))) :
    Calls P g args W fun e W' => ∃ v, e = .returned v ∧ s.post enc P f false true false false W args v W' := by
  have hW' := hW
  obtain ⟨p, q, hA, hV, rfl, hfz, hnd⟩ := hW
  rw [hvars] at hV
  obtain ⟨rfl, rfl⟩ := trodVars_none hV
  obtain ⟨l1, l2, as, k1, k2, k3⟩ := args_in f.params.toList args.toList ds p hok (fun j t v ht hv => hval j t v (by simpa using ht) (by simpa using hv)) hA
  have hc := (hlaw as k1).2 W (fun b => b < W.heap.size) args.toList (fun b hb => hb) (by omega) k3
  have e : args.toList.toArray = args := Array.toArray_toList
  rw [e] at hc
  refine hc.mono fun e W' he => ?_
  obtain ⟨x, r, rfl, rfl, hd, hb, hx⟩ := he
  have hx' := is_bool hx
  subst hx'
  have hfn := hs ds (by simpa using l2)
  refine ⟨_, rfl, ds, [], p ++ [], [], p, [], hW', ?_, ?_, ?_, hb.frame _, fun h => by cases h⟩
  · rw [List.append_nil, hfn, hr]
    exact trodAll_mk1 (shut_bool htb true)
  · rw [List.append_nil, hfn]
    exact trodAll_below hl hb _ _ _ _ hrd (fun x hx => by simpa using hW'.lt x (by simp [hx])) hA
  · rw [hvars, List.append_nil, hfn]
    rfl

end

theorem map_of {α β : Type} {enc : α → β} {R : α → Prop} : ∀ {es : List β}, (∀ r, r ∈ es → ∃ o, r = enc o ∧ R o) → ∃ os : List α, es = os.map enc ∧ ∀ o, o ∈ os → R o
  | [], _ => ⟨[], rfl, by simp⟩
  | e :: es, h => by
    obtain ⟨o, rfl, ho⟩ := h e (List.mem_cons_self ..)
    obtain ⟨os, rfl, hos⟩ := map_of fun r hr => h r (List.mem_cons_of_mem _ hr)
    exact ⟨o :: os, rfl, fun x hx => by rcases List.mem_cons.1 hx with rfl | h; exact ho; exact hos x h⟩
end Go.Am
