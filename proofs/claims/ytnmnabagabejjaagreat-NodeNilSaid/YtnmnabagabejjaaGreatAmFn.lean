/-
  AM, part 8: contracts of functions that turn nothing that was there, and how a call uses them.
-/
import Derived.Test.YtnmnabagabejjaaGreatAmCode
namespace Go.Am
set_option linter.unusedVariables false

/-- What a call of function g hands back, whatever world it is called in; what was there stays. Q speaks of a deep value. -/
def Rets (P : Program) (g : FuncId) (args : List AV) (Q : AV → Prop) : Prop :=
  (∃ fn, P.funcs[g]? = some fn ∧ (fn.name == "runtime.NumGoroutine") = false ∧ fn.body.isNone = false) ∧
  ∀ (w : World) (S : Nat → Prop) (vs : List Value), (∀ b, S b → b < w.heap.size) → vs.length = args.length →
    (∀ (i : Nat) (v : AV) (x : Value), args[i]? = some v → vs[i]? = some x → AIs w S (fun _ => none) [] (fun _ => False) v x) →
    Calls P g vs.toArray w fun e w' => ∃ x r, e = .returned x ∧ Q r ∧ r.deep ∧ RowKit.Below w.heap.size w w' ∧
      AIs w' (fun b => S b ∨ (w.heap.size ≤ b ∧ b < w'.heap.size)) (fun _ => none) [] (fun _ => False) r x

section
variable {P : Program}

/-- A call by a contract; the arguments bear no ids. -/
theorem callsA_fn {g : FuncId} {args : List AV} {hp : Hp} {N : Nat} {K : AV → Hp → Prop} {Q : AV → Prop} (h : Rets P g args Q) (hd : ∀ v, v ∈ args → v.deep) (hK : ∀ r, Q r → K r hp) : CallsA P g args hp N K := by
  refine ⟨h.1, fun c U σ w vs hr hN hl hv => ?_⟩
  refine (h.2 w (Sof c w σ hp) vs (fun b hb => hb.1.1) hl (fun i v x hi hx => deep_is (hd v (List.mem_of_getElem? hi)) (fun _ h => h) (hv i v x hi hx))).mono fun e w' he => ?_
  obtain ⟨x, r, rfl, hQ, hdr, hb, hx⟩ := he
  obtain ⟨r1, r2⟩ := rel_below (N := N) hr hb
  refine ⟨x, rfl, r, hp, σ, hK r hQ, r1, r2, deep_is hdr (fun b hb' => ?_) hx⟩
  rcases hb' with h | ⟨h1, h2⟩
  · exact ⟨⟨Nat.lt_of_lt_of_le h.1.1 hb.size, h.1.2⟩, h.2⟩
  · exact ⟨⟨h2, fun id blk g hk hg => by have := blk_lt (hr.at hk hg); omega⟩, .inr (Nat.le_trans hr.size h1)⟩

/-- A call by a contract; what the call owns is read, and the result bears no memory. -/
theorem callsA_snap {g : FuncId} {args args' : List AV} {hp : Hp} {N : Nat} {K : AV → Hp → Prop} {Q : AV → Prop} (h : Rets P g args' Q) (hl' : args.length = args'.length)
    (hs : ∀ (i : Nat) (v v' : AV), args[i]? = some v → args'[i]? = some v' → Snap hp (fun _ => True) v v') (hf : ∀ r, Q r → r.flat) (hK : ∀ r, Q r → K r hp) : CallsA P g args hp N K := by
  refine ⟨h.1, fun c U σ w vs hr hN hl hv => ?_⟩
  refine (h.2 w (fun b => b < w.heap.size) vs (fun b hb => hb) (hl.trans hl') (fun i v' x hi hx => ?_)).mono fun e w' he => ?_
  · have hlt : i < args.length := by have := (List.getElem?_eq_some_iff.1 hi).1; omega
    exact snap_is (fun b hb => hb.1.1) (fun id blk g _ hk hg => blk_lt (hr.at hk hg)) hr (hs i _ v' (List.getElem?_eq_getElem hlt) hi) (hv i _ x (List.getElem?_eq_getElem hlt) hx)
  · obtain ⟨x, r, rfl, hQ, hdr, hb, hx⟩ := he
    obtain ⟨r1, r2⟩ := rel_below (N := N) hr hb
    exact ⟨x, rfl, r, hp, σ, hK r hQ, r1, r2, flat_is (hf r hQ) hx⟩

/-- A call that is handed rows of the call's own, for good. -/
theorem callsA_froz (ids : List Nat) {g : FuncId} {args args' : List AV} {hp : Hp} {N : Nat} {K : AV → Hp → Prop} {Q : AV → Prop} (h : Rets P g args' Q) (hl' : args.length = args'.length)
    (hs : ∀ (i : Nat) (v v' : AV), args[i]? = some v → args'[i]? = some v' → Snap hp (fun id => id ∈ ids) v v') (hK : ∀ r, Q r → K r (dropH ids hp)) : CallsA P g args hp N K := by
  refine ⟨h.1, fun c U σ w vs hr hN hl hv => ?_⟩
  obtain ⟨d1, d2⟩ := rel_drop ids hr
  refine (h.2 w (Sof c w σ (dropH ids hp)) vs (fun b hb => hb.1.1) (hl.trans hl') (fun i v' x hi hx => ?_)).mono fun e w' he => ?_
  · have hlt : i < args.length := by have := (List.getElem?_eq_some_iff.1 hi).1; omega
    refine snap_is (fun b hb => d2.sub b hb) (fun id blk g hid hk hg => ⟨⟨blk_lt (hr.at hk hg), fun id' blk' g' hk' hg' e => ?_⟩, ?_⟩) hr (hs i _ v' (List.getElem?_eq_getElem hlt) hi) (hv i _ x (List.getElem?_eq_getElem hlt) hx)
    · subst e
      rw [lk_dropH] at hk'
      split at hk'
      · cases hk'
      · rename_i hn
        have := hr.inj id id' blk blk' g hk hk' hg hg'
        subst this
        exact hn (by simpa using hid)
    · rcases hr.mine id blk g hk hg with h | h
      · exact .inl (c.hM g h)
      · exact .inr h
  · obtain ⟨x, r, rfl, hQ, hdr, hb, hx⟩ := he
    obtain ⟨r1, r2⟩ := rel_below (N := N) d1 hb
    refine ⟨x, rfl, r, _, σ, hK r hQ, r1, d2.trans r2, deep_is hdr (fun b hb' => ?_) hx⟩
    rcases hb' with h | ⟨h1, h2⟩
    · exact ⟨⟨Nat.lt_of_lt_of_le h.1.1 hb.size, h.1.2⟩, h.2⟩
    · refine ⟨⟨h2, fun id blk g hk hg e => ?_⟩, .inr (Nat.le_trans hr.size h1)⟩
      have := blk_lt (d1.at hk hg)
      omega

def resRun (tmps : Array Value) : ResultVar → Sem Value
  | .tmp t => pure (tmps.getD t undef)
  | .cell a t => do loadVar t (← asAddr (tmps.getD a undef))

theorem results_eq (fn : Func) (tmps : Array Value) : results fn tmps = (do let vs ← fn.results.toList.toArray.mapM (resRun tmps); pure (if h : vs.size = 1 then vs[0] else .tuple vs)) := by
  unfold results
  have : (fun x : ResultVar => (match x with | .tmp t => pure (tmps.getD t undef) | .cell a t => do loadVar t (← asAddr (tmps.getD a undef)) : Sem Value)) = resRun tmps := by
    funext x; cases x <;> rfl
  rw [← this, Array.toArray_toList]
  rfl

/-- One result. -/
def resV (P : Program) (st : St) : ResultVar → Option AV
  | .tmp t => some (fv t st.fr)
  | .cell t ty =>
    match fv t st.fr with
    | .ptr id i off tot =>
      (match lk id st.hp with
      | some b =>
        (match b.es[i]? with
        | some row => if b.es.length = tot then ldv P ty (row.drop off) else none
        | none => none)
      | none => none)
    | _ => none

/-- What stands at a function's end. -/
def retW (P : Program) (rs : List ResultVar) (R : AV → St → Prop) (st : St) : Prop :=
  match rs with
  | [] => R (.tup []) st
  | [x] => (match resV P st x with
    | some v => R v st
    | none => False)
  | [x, y] => (match resV P st x, resV P st y with
    | some v, some u => R (.tup [v, u]) st
    | _, _ => False)
  | [x, y, z] => (match resV P st x, resV P st y, resV P st z with
    | some v, some u, some t => R (.tup [v, u, t]) st
    | _, _, _ => False)
  | _ => False

def EndK (P : Program) (rs : List ResultVar) (R : AV → St → Prop) : Exit → St → Prop
  | .normal, st => retW P rs R st
  | .ret, st => retW P rs R st
  | _, _ => False

theorem resV_is {c : Ctx} {st : St} {w : World} {σ : Nat → Option Nat} {tmps : Array Value} (hr : Rel c st.hp (fun i => i < st.nx) σ w)
    (hf : ∀ n, AIs w (Sof c w σ st.hp) σ st.hp (fun i => i < st.nx) (fv n st.fr) (tmps.getD n undef)) {rv : ResultVar} {v : AV} (h : resV P st rv = some v) :
    ∃ x, (resRun tmps rv).run P w = .ok x w ∧ AIs w (Sof c w σ st.hp) σ st.hp (fun i => i < st.nx) v x := by
  cases rv with
  | tmp t =>
    simp only [resV] at h
    injection h with h
    subst h
    exact ⟨_, rfl, hf t⟩
  | cell t ty =>
    simp only [resV] at h
    split at h
    · rename_i id i off tot hx
      have hx' := hf t
      rw [hx] at hx'
      split at h
      · rename_i b hb
        split at h
        · rename_i row hrow
          split at h
          · rename_i ht
            obtain ⟨g, ccs, hg, hxv, hheap, hone, hrl, hle, hcell⟩ := row_cells hr hx' hb hrow ht
            have hat : ∀ (j : Nat) (y : AV), (row.drop off)[j]? = some y → ∃ u, ccs[i * b.e + off + j]? = some u ∧ AIs w (Sof c w σ st.hp) σ st.hp (fun i => i < st.nx) y u := by
              intro j y hy
              rw [List.getElem?_drop] at hy
              obtain ⟨u, h1, h2⟩ := hcell _ y hy
              exact ⟨u, by rw [Nat.add_assoc]; exact h1, h2⟩
            obtain ⟨u, hu1, hu2⟩ := run_loadVar_cells (P := P) (w := w) (S := Sof c w σ st.hp) (σ := σ) (hp := st.hp) (U := fun i => i < st.nx) (ad := ⟨g, i * b.e + off, none⟩) (vs := fun j => ccs.getD (i * b.e + off + j) undef) h
              (fun j y hy => by
                obtain ⟨u, h1, h2⟩ := hat j y hy
                rw [add_mk, cell_of_row w _ _ ccs _ _ hheap, h1]
                simp [Array.getD_eq_getD_getElem?, h1])
              (fun j y hy => by
                obtain ⟨u, h1, h2⟩ := hat j y hy
                simp only [Array.getD_eq_getD_getElem?, h1, Option.getD_some]
                exact hone _ u h1)
              (fun j y hy => by
                obtain ⟨u, h1, h2⟩ := hat j y hy
                simp only [Array.getD_eq_getD_getElem?, h1, Option.getD_some]
                exact h2)
            refine ⟨u, ?_, hu2⟩
            simp only [resRun, hxv, asAddr, Sem.run_bind, Sem.run_pure, Result.andThen_ok, hu1]
          · cases h
        · cases h
      · cases h
    · cases h

theorem retW_is {c : Ctx} {fn : Func} {R : AV → St → Prop} {st : St} {a : Act} {w : World} (hs : Sim c st a w) (h : retW P fn.results.toList R st) :
    ∃ v x, R v st ∧ (results fn a.tmps).run P w = .ok x w ∧ ∃ σ, Rel c st.hp (fun i => i < st.nx) σ w ∧ AIs w (Sof c w σ st.hp) σ st.hp (fun i => i < st.nx) v x ∧ Hist c st.hp (fun i => i < st.nx) σ w := by
  obtain ⟨_, _, σ, hr, hf, hh⟩ := hs
  rw [results_eq]
  generalize fn.results.toList = rs at h
  unfold retW at h
  split at h
  · exact ⟨_, .tuple #[], h, by simp, σ, hr, .tup [] #[] rfl (by simp), hh⟩
  · rename_i rv
    split at h
    · rename_i v hv
      obtain ⟨x, h1, h2⟩ := resV_is hr hf hv
      exact ⟨v, x, h, by simp [h1], σ, hr, h2, hh⟩
    · exact h.elim
  · rename_i r1 r2
    split at h
    · rename_i v1 v2 hv1 hv2
      obtain ⟨x1, h1, k1⟩ := resV_is hr hf hv1
      obtain ⟨x2, h2, k2⟩ := resV_is hr hf hv2
      refine ⟨_, .tuple #[x1, x2], h, by simp [h1, h2], σ, hr, .tup _ _ rfl fun i c x hc hx => ?_, hh⟩
      match i, hc, hx with
      | 0, hc, hx => simp at hc hx; subst hc; subst hx; exact k1
      | 1, hc, hx => simp at hc hx; subst hc; subst hx; exact k2
      | n + 2, hc, hx => simp at hc
    · exact h.elim
  · rename_i r1 r2 r3
    split at h
    · rename_i v1 v2 v3 hv1 hv2 hv3
      obtain ⟨x1, h1, k1⟩ := resV_is hr hf hv1
      obtain ⟨x2, h2, k2⟩ := resV_is hr hf hv2
      obtain ⟨x3, h3, k3⟩ := resV_is hr hf hv3
      refine ⟨_, .tuple #[x1, x2, x3], h, by simp [h1, h2, h3], σ, hr, .tup _ _ rfl fun i c x hc hx => ?_, hh⟩
      match i, hc, hx with
      | 0, hc, hx => simp at hc hx; subst hc; subst hx; exact k1
      | 1, hc, hx => simp at hc hx; subst hc; subst hx; exact k2
      | 2, hc, hx => simp at hc hx; subst hc; subst hx; exact k3
      | n + 3, hc, hx => simp at hc
    · exact h.elim
  · exact h.elim

/-- The frame in which a function begins. -/
def fr0 (k : Nat) : List AV → Fr
  | [] => []
  | v :: r => (k, v) :: fr0 (k + 1) r

theorem lk_fr0 : ∀ (args : List AV) (k n : Nat), lk n (fr0 k args) = if k ≤ n then args[n - k]? else none
  | [], k, n => by simp [fr0, lk]
  | v :: r, k, n => by
    simp only [fr0, lk, lk_fr0 r (k + 1) n]
    by_cases h : k = n
    · subst h; simp
    · rw [if_neg h]
      by_cases h2 : k ≤ n
      · rw [if_pos (by omega), if_pos h2, show n - k = (n - (k + 1)) + 1 by omega, List.getElem?_cons_succ]
      · rw [if_neg (by omega), if_neg h2]

/-- What a function's end must give, for a contract. -/
def PostK (Q : AV → Prop) (v : AV) (st : St) : Prop := ∃ r, Snap st.hp (fun _ => True) v r ∧ r.deep ∧ Q r

theorem post_same {Q : AV → Prop} {v : AV} {st : St} (hd : v.deep) (hq : Q v) : PostK Q v st := ⟨v, .deep hd, hd, hq⟩

theorem post_one {Q : AV → Prop} {v v' : AV} {st : St} (h : Snap1 st.hp (fun _ => True) v v') (hd : v'.deep) (hq : Q v') : PostK Q v st := ⟨v', .one h, hd, hq⟩

theorem post_tup {Q : AV → Prop} {cs cs' : List AV} {st : St} (h : ∀ (i : Nat) (c c' : AV), cs[i]? = some c → cs'[i]? = some c' → Snap1 st.hp (fun _ => True) c c') (hl : cs'.length = cs.length) (hd : (AV.tup cs').deep) (hq : Q (.tup cs')) : PostK Q (.tup cs) st :=
  ⟨.tup cs', .tup hl (fun i c c' h1 h2 => .inl (h i c c' h1 h2)), hd, hq⟩

theorem post_agg {Q : AV → Prop} {cs cs' : List AV} {st : St} (h : ∀ (i : Nat) (c c' : AV), cs[i]? = some c → cs'[i]? = some c' → Snap1 st.hp (fun _ => True) c c') (hl : cs'.length = cs.length) (hd : (AV.agg cs').deep) (hq : Q (.agg cs')) : PostK Q (.agg cs) st :=
  ⟨.agg cs', .agg ⟨hl, h⟩, hd, hq⟩

/-- A contract, by the function's code. -/
theorem fn_of_awp {g : FuncId} {fn : Func} {code : Code} {args : List AV} {Q : AV → Prop} (hf : P.funcs[g]? = some fn) (hn : (fn.name == "runtime.NumGoroutine") = false) (hb : fn.body = some code)
    {n : Nat} {rs : List ResultVar} (hnt : fn.ntmps = n) (hrs : fn.results.toList = rs) (hle : args.length ≤ n) (hd : ∀ v, v ∈ args → v.deep)
    (h : awp P n code (EndK P rs (PostK Q)) ⟨fr0 0 args, [], 0⟩) : Rets P g args Q := by
  subst hnt
  subst hrs
  refine ⟨⟨fn, hf, hn, by simp [hb]⟩, fun w S vs hS hl hv => ?_⟩
  have hsz : ((vs.toArray ++ Array.replicate (fn.ntmps - vs.toArray.size) undef) : Array Value).size = fn.ntmps := by simp; omega
  refine calls_of_wp hf hb ?_
  let c : Ctx := ⟨w, fun _ => False, S, fn.ntmps, fun _ h => h.elim, fun _ => False, fun _ => none, [], 0, by omega⟩
  have hsim : Sim c ⟨fr0 0 args, [], 0⟩ { tmps := vs.toArray ++ Array.replicate (fn.ntmps - vs.toArray.size) undef, defers := [] } w := by
    refine ⟨rfl, hsz, fun _ => none, ⟨(fun i j bi bj g h => by cases h), (fun i b h => by cases h), (fun i b h => by cases h), (fun i b g h => by cases h), rfl, rfl, rfl, Nat.le_refl _, fun _ _ _ => rfl⟩, fun n => ?_, ⟨fun _ h => h.elim, fun _ h => h.elim, fun i h => absurd h (Nat.not_lt_zero _), fun i b' h => absurd h (Nat.not_lt_zero _)⟩⟩
    simp only [fv, lk_fr0, Nat.zero_le, if_true, Nat.sub_zero]
    cases hn : args[n]? with
    | none => exact .any _
    | some v =>
      have hlt : n < vs.length := by have := (List.getElem?_eq_some_iff.1 hn).1; omega
      have hx : vs[n]? = some vs[n] := List.getElem?_eq_getElem hlt
      have : (vs.toArray ++ Array.replicate (fn.ntmps - vs.toArray.size) undef).getD n undef = vs[n] := by
        rw [Array.getD_eq_getD_getElem?, Array.getElem?_append, if_pos (by simpa using hlt)]
        simp [hx]
      rw [this]
      simp only [Option.getD_some]
      exact deep_is (hd v (List.mem_of_getElem? hn)) (fun b hb => ⟨⟨hS b hb, (fun id blk g h => by cases h)⟩, .inl hb⟩) (hv n v _ hn hx)
  have fin : ∀ st a w', retW P fn.results.toList (PostK Q) st → Sim c st a w' → ∃ v, (results fn a.tmps).run P w' = .ok v w' ∧ ∃ x r, Ending.returned v = .returned x ∧ Q r ∧ r.deep ∧ RowKit.Below w.heap.size w w' ∧
      AIs w' (fun b => S b ∨ (w.heap.size ≤ b ∧ b < w'.heap.size)) (fun _ => none) [] (fun _ => False) r x := by
    intro st a w' hret hs
    obtain ⟨v, x, ⟨r, hsn, hrd, hQ⟩, hrun, σ, hr, hx, _⟩ := retW_is hs hret
    refine ⟨x, hrun, x, r, rfl, hQ, hrd, ⟨hr.os, hr.tape, hr.output, hr.size, fun b hb => hr.old b hb (fun h => h)⟩, ?_⟩
    refine snap_is (fun b hb => ?_) (fun id blk g _ hk hg => ?_) hr hsn hx
    · rcases hb.2 with h | h
      · exact .inl h
      · exact .inr ⟨h, hb.1.1⟩
    · rcases hr.mine id blk g hk hg with h | h
      · exact h.elim
      · exact .inr ⟨h, blk_lt (hr.at hk hg)⟩
  refine wp_mono (awp_snd (c := c) code _ _ _ w h hsim) fun e a w' ⟨st, hq, hs⟩ => ?_
  cases e with
  | normal => exact ⟨hs.1, fin st a w' hq hs⟩
  | ret => exact ⟨hs.1, fin st a w' hq hs⟩
  | _ => exact hq.elim
end
end Go.Am
