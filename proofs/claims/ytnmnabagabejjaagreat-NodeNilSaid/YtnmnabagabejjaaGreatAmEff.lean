/-
  AM, part 11: functions that are handed memory of the caller's own, and change it.
-/
import Derived.Test.YtnmnabagabejjaaGreatAmFn
namespace Go.Am
set_option linter.unusedVariables false
set_option linter.unusedSimpArgs false

mutual
def AV.ren (ρ : Nat → Nat) : AV → AV
  | .any => .any
  | .d v => .d v
  | .agg cs => .agg (AV.renL ρ cs)
  | .tup vs => .tup (AV.renL ρ vs)
  | .own id i0 len tot => .own (ρ id) i0 len tot
  | .sub id i off e len cap tot => .sub (ρ id) i off e len cap tot
  | .ptr id i off tot => .ptr (ρ id) i off tot
  | .rop cs => .rop cs
  | .fn f cs => .fn f (AV.renL ρ cs)
  | .mth f cs => .mth f (AV.renL ρ cs)
  | .nil => .nil
  | .mp id => .mp (ρ id)
def AV.renL (ρ : Nat → Nat) : List AV → List AV
  | [] => []
  | a :: r => a.ren ρ :: AV.renL ρ r
end

theorem renL_len (ρ : Nat → Nat) : ∀ l, (AV.renL ρ l).length = l.length
  | [] => by simp [AV.renL]
  | a :: r => by simp [AV.renL, renL_len ρ r]
theorem renL_get (ρ : Nat → Nat) : ∀ (l : List AV) (i : Nat), (AV.renL ρ l)[i]? = (l[i]?).map (AV.ren ρ)
  | [], i => by simp [AV.renL]
  | a :: r, 0 => by simp [AV.renL]
  | a :: r, i + 1 => by simp [AV.renL, renL_get ρ r i]

def renR (ρ : Nat → Nat) (rows : List (List AV)) : List (List AV) := rows.map (AV.renL ρ)
def Blk.ren (ρ : Nat → Nat) (b : Blk) : Blk := ⟨b.ty, b.e, renR ρ b.es⟩

theorem AIs.ren {w : World} {S S' : Nat → Prop} {σ σ' : Nat → Option Nat} {hp hp' : Hp} {U U' : Nat → Prop} {ρ : Nat → Nat} (hS : ∀ b, S b → S' b) (h1 : ∀ id, U id → U' (ρ id))
    (h2 : ∀ id b', U id → lk (ρ id) hp' = some b' → ∃ b, lk id hp = some b ∧ b'.e = b.e ∧ b'.ty = b.ty ∧ b'.es.length = b.es.length ∧ σ' (ρ id) = σ id) {a : AV} {v : Value} (h : AIs w S σ hp U a v) : AIs w S' σ' hp' U' (a.ren ρ) v := by
  induction h with
  | any v => exact .any v
  | d h => exact .d (h.mono hS fun _ _ => rfl)
  | agg cs xs hl h1 _ ih =>
    refine .agg _ xs (by rw [renL_len]; exact hl) h1 fun i c x hc hx => ?_
    rw [renL_get] at hc
    cases hc' : cs[i]? with
    | none => rw [hc'] at hc; simp at hc
    | some c' => rw [hc'] at hc; simp at hc; subst hc; exact ih i c' x hc' hx
  | tup cs xs hl _ ih =>
    refine .tup _ xs (by rw [renL_len]; exact hl) fun i c x hc hx => ?_
    rw [renL_get] at hc
    cases hc' : cs[i]? with
    | none => rw [hc'] at hc; simp at hc
    | some c' => rw [hc'] at hc; simp at hc; subst hc; exact ih i c' x hc' hx
  | own id i0 len tot A cap hN hl h0 h =>
    refine .own _ i0 len tot A cap (h1 _ hN) hl h0 fun b' hb' => ?_
    obtain ⟨b, hb, he, hty, hle, hσ⟩ := h2 id b' hN hb'
    obtain ⟨k1, k2⟩ := h b hb
    rw [hσ, he, hty, hle]
    exact ⟨k1, k2⟩
  | sub id i off e len cap tot A hN hl h0 h =>
    refine .sub _ i off e len cap tot A (h1 _ hN) hl h0 fun b' hb' => ?_
    obtain ⟨b, hb, he, hty, hle, hσ⟩ := h2 id b' hN hb'
    obtain ⟨k1, k2⟩ := h b hb
    rw [hσ, he, hle]
    exact ⟨k1, k2⟩
  | ptr id i off tot a hN h =>
    refine .ptr _ i off tot a (h1 _ hN) fun b' hb' => ?_
    obtain ⟨b, hb, he, hty, hle, hσ⟩ := h2 id b' hN hb'
    obtain ⟨k1, k2⟩ := h b hb
    rw [hσ, he, hle]
    exact ⟨k1, k2⟩
  | rop cs ad vs h1 h2 h3 => exact .rop cs ad vs (hS _ h1) h2 fun j y hy => (h3 j y hy).mono hS fun _ _ => rfl
  | fn f cs xs hl _ ih =>
    refine .fn f _ xs (by rw [renL_len]; exact hl) fun i c x hc hx => ?_
    rw [renL_get] at hc
    cases hc' : cs[i]? with
    | none => rw [hc'] at hc; simp at hc
    | some c' => rw [hc'] at hc; simp at hc; subst hc; exact ih i c' x hc' hx
  | mth f cs xs hl _ ih =>
    refine .mth f _ xs (by rw [renL_len]; exact hl) fun i c x hc hx => ?_
    rw [renL_get] at hc
    cases hc' : cs[i]? with
    | none => rw [hc'] at hc; simp at hc
    | some c' => rw [hc'] at hc; simp at hc; subst hc; exact ih i c' x hc' hx
  | nil => exact .nil
  | mp id g hN h =>
    refine .mp _ g (h1 _ hN) fun b' hb' => ?_
    obtain ⟨b, hb, _, hty, _⟩ := h2 id b' hN hb'
    rw [hty]
    exact h b hb

theorem renL_keyR (ρ : Nat → Nat) : ∀ u, AV.renL ρ (keyR u) = keyR u
  | [] => rfl
  | _ :: u => by
    show AV.renL ρ (.d _ :: keyR u) = _
    rw [AV.renL, renL_keyR ρ u]
    rfl
theorem NoB.ren {n : Nat} {w : World} {b : Blk} (ρ : Nat → Nat) (h : NoB n w b) : NoB n w (b.ren ρ) := by
  rcases h with h | ⟨h0, hn, ks, ms, clock, h1, h2⟩
  · exact .inl (by simp [Blk.ren, renR, h])
  · refine .inr ⟨h0, hn, ks, ms, clock, ?_, h2⟩
    simp only [Blk.ren, renR, h1, mapR, List.map_cons, List.map_map, AV.renL, AV.ren]
    congr 1
    exact List.map_congr_left fun u _ => renL_keyR ρ u

/-- The context of a function that is handed blocks: hp0, by ids below k. -/
def ctxE (w : World) (S : Nat → Prop) (σ : Nat → Option Nat) (hp0 : Hp) (k n : Nat) (hk : k ≤ 64) : Ctx where
  w0 := w
  M0 := fun b => ∃ id blk, lk id hp0 = some blk ∧ σ id = some b
  S0 := fun b => S b ∨ ∃ id blk, lk id hp0 = some blk ∧ σ id = some b
  n := n
  hM := fun b h => .inr h
  Sx := S
  σx := σ
  hpx := hp0
  kx := k
  hk := hk

structure Hand (w : World) (S : Nat → Prop) (σ : Nat → Option Nat) (hp0 : Hp) (k : Nat) : Prop where
  lo : ∀ b, S b → b < w.heap.size ∧ ∀ id blk g, lk id hp0 = some blk → σ id = some g → b ≠ g
  inj : ∀ i j bi bj g, lk i hp0 = some bi → lk j hp0 = some bj → σ i = some g → σ j = some g → i = j
  lt : ∀ i b, lk i hp0 = some b → i < k
  blk : ∀ i b, lk i hp0 = some b → (σ i = none ∧ b.es = []) ∨ ∃ g, σ i = some g ∧ BlkOk w S σ hp0 (fun i => i < k + 1) g b

/-- A contract of a function that is handed blocks of the caller's own: hp0, by ids below k. Q: the result, and the blocks behind it. -/
def RetsE (P : Program) (g : FuncId) (k : Nat) (hp0 : Hp) (args : List AV) (Q : AV → Hp → Prop) : Prop :=
  (∃ fn, P.funcs[g]? = some fn ∧ (fn.name == "runtime.NumGoroutine") = false ∧ fn.body.isNone = false) ∧
  ∃ hk : k ≤ 64, ∀ (w : World) (S : Nat → Prop) (σ : Nat → Option Nat) (vs : List Value), Hand w S σ hp0 k → vs.length = args.length →
    (∀ (i : Nat) (v : AV) (x : Value), args[i]? = some v → vs[i]? = some x → AIs w S σ hp0 (fun i => i < k + 1) v x) →
    Calls P g vs.toArray w fun e w' => ∃ x r hp' U' σ', e = .returned x ∧ Q r hp' ∧ Rel (ctxE w S σ hp0 k 0 hk) hp' U' σ' w' ∧ Hist (ctxE w S σ hp0 k 0 hk) hp' U' σ' w' ∧
      AIs w' (Sof (ctxE w S σ hp0 k 0 hk) w' σ' hp') σ' hp' U' r x

section
variable {P : Program}

theorem sofE {w : World} {S : Nat → Prop} {σ : Nat → Option Nat} {hp0 : Hp} {k n : Nat} {hk : k ≤ 64} (h : Hand w S σ hp0 k) {b : Nat} (hb : S b) : Sof (ctxE w S σ hp0 k n hk) w σ hp0 b :=
  ⟨h.lo b hb, .inl (.inl hb)⟩

theorem BlkOk.mono {w : World} {S S' : Nat → Prop} {σ : Nat → Option Nat} {hp : Hp} {U : Nat → Prop} {g : Nat} {b : Blk} (hS : ∀ b, S b → S' b) (h : BlkOk w S σ hp U g b) : BlkOk w S' σ hp U g b := by
  obtain ⟨ccs, h1, h2, h3, h4, h5⟩ := h
  exact ⟨ccs, h1, h2, h3, h4, fun i j x y v a1 a2 a3 => (h5 i j x y v a1 a2 a3).step ⟨hS, fun _ _ => rfl, fun _ h => h, fun id b' _ h => ⟨b', h, rfl, rfl, Nat.le_refl _, fun _ g hg => ⟨hg, fun _ h => h⟩⟩⟩⟩

/-- Such a contract, by the function's code. -/
theorem fnE_of_awp {g : FuncId} {fn : Func} {code : Code} {k : Nat} {hp0 : Hp} {args : List AV} {Q : AV → Hp → Prop} (hf : P.funcs[g]? = some fn) (hn : (fn.name == "runtime.NumGoroutine") = false) (hb : fn.body = some code)
    {n : Nat} {rs : List ResultVar} (hnt : fn.ntmps = n) (hrs : fn.results.toList = rs) (hle : args.length ≤ n) (hk : k ≤ 64)
    (h : awp P n code (EndK P rs (fun v st => Q v st.hp)) ⟨fr0 0 args, hp0, k + 1⟩) : RetsE P g k hp0 args Q := by
  subst hnt
  subst hrs
  refine ⟨⟨fn, hf, hn, by simp [hb]⟩, hk, fun w S σ vs hH hl hv => ?_⟩
  have hsz : ((vs.toArray ++ Array.replicate (fn.ntmps - vs.toArray.size) undef) : Array Value).size = fn.ntmps := by simp; omega
  refine calls_of_wp hf hb ?_
  let c : Ctx := ctxE w S σ hp0 k fn.ntmps hk
  have hsof : ∀ b, S b → Sof c w σ hp0 b := fun b hb => sofE hH hb
  have hst0 : Step w S σ hp0 (fun i => i < k + 1) w (Sof c w σ hp0) σ hp0 (fun i => i < k + 1) := ⟨hsof, fun _ _ => rfl, fun _ h => h, fun id b' _ h => ⟨b', h, rfl, rfl, Nat.le_refl _, fun _ g hg => ⟨hg, fun _ h => h⟩⟩⟩
  have hsim : Sim c ⟨fr0 0 args, hp0, k + 1⟩ { tmps := vs.toArray ++ Array.replicate (fn.ntmps - vs.toArray.size) undef, defers := [] } w := by
    refine ⟨rfl, hsz, σ, ⟨hH.inj, fun i b h => Nat.lt_succ_of_lt (hH.lt i b h), fun i b h => ?_, fun i b g h hg => .inl ⟨i, b, h, hg⟩, rfl, rfl, rfl, Nat.le_refl _, fun _ _ _ => rfl⟩, fun n => ?_, ⟨hsof, fun _ _ => rfl, fun i h => Nat.lt_succ_of_lt h, fun id b' _ h => ⟨b', h, rfl, rfl, Nat.le_refl _, fun _ g hg => ⟨hg, fun _ h => h⟩⟩⟩⟩
    · rcases hH.blk i b h with h0 | ⟨g, h1, h2⟩
      · exact .inl ⟨h0.1, .inl h0.2⟩
      · exact .inr ⟨g, h1, h2.mono hsof⟩
    · simp only [fv, lk_fr0, Nat.zero_le, if_true, Nat.sub_zero]
      cases hn : args[n]? with
      | none => exact .any _
      | some v =>
        have hlt : n < vs.length := by have := (List.getElem?_eq_some_iff.1 hn).1; omega
        have hx : vs[n]? = some vs[n] := List.getElem?_eq_getElem hlt
        have : (vs.toArray ++ Array.replicate (fn.ntmps - vs.toArray.size) undef).getD n undef = vs[n] := by
          rw [Array.getD_eq_getD_getElem?, Array.getElem?_append, if_pos (by simpa using hlt)]
          simp [hx]
        rw [this]
        simp only [Option.getD_some]
        exact (hv n v _ hn hx).step hst0
  have fin : ∀ st a w', retW P fn.results.toList (fun v st => Q v st.hp) st → Sim c st a w' → ∃ v, (results fn a.tmps).run P w' = .ok v w' ∧ ∃ x r hp' U' σ', Ending.returned v = .returned x ∧ Q r hp' ∧ Rel (ctxE w S σ hp0 k 0 hk) hp' U' σ' w' ∧ Hist (ctxE w S σ hp0 k 0 hk) hp' U' σ' w' ∧
      AIs w' (Sof (ctxE w S σ hp0 k 0 hk) w' σ' hp') σ' hp' U' r x := by
    intro st a w' hret hs
    obtain ⟨v, x, hQ, hrun, σ', hr, hx, hh⟩ := retW_is hs hret
    exact ⟨x, hrun, x, v, st.hp, _, σ', rfl, hQ, ⟨hr.inj, hr.lt, hr.blk, hr.mine, hr.os, hr.tape, hr.output, hr.size, hr.old⟩, hh, hx⟩
  refine wp_mono (awp_snd (c := c) code _ _ _ w h hsim) fun e a w' ⟨st, hq, hs⟩ => ?_
  cases e with
  | normal => exact ⟨hs.1, fin st a w' hq hs⟩
  | ret => exact ⟨hs.1, fin st a w' hq hs⟩
  | _ => exact hq.elim


theorem lk_app {α : Type} (n : Nat) : ∀ (a b : List (Nat × α)), lk n (a ++ b) = match lk n a with | some v => some v | none => lk n b
  | [], b => rfl
  | (m, v) :: t, b => by
    simp only [List.cons_append, lk]
    split
    · rfl
    · exact lk_app n t b
theorem lk_filter {α : Type} (f : Nat → Bool) (n : Nat) : ∀ (l : List (Nat × α)), lk n (l.filter fun p => f p.1) = if f n then lk n l else none
  | [] => by simp [lk]
  | (m, v) :: t => by
    have ih := lk_filter f n t
    by_cases hm : f m = true
    · rw [List.filter_cons_of_pos (by exact hm)]
      simp only [lk]
      by_cases h : m = n
      · subst h; simp [hm]
      · simp only [if_neg h, ih]
    · rw [List.filter_cons_of_neg (by exact hm), ih]
      simp only [lk]
      by_cases h : m = n
      · subst h; simp [hm]
      · simp only [if_neg h]

/-- Pairs of ids: each on one side once. -/
def prsB (prs : List (Nat × Nat)) : Bool := prs.all fun p => prs.all fun q => (p.1 == q.1) == (p.2 == q.2)
theorem prs_iff {prs : List (Nat × Nat)} (h : prsB prs = true) {i a j b : Nat} (h1 : (i, a) ∈ prs) (h2 : (j, b) ∈ prs) : i = j ↔ a = b := by
  have := List.all_eq_true.1 (List.all_eq_true.1 h _ h1) _ h2
  simp only [beq_iff_eq] at this
  by_cases e : i = j
  · subst e
    by_cases e2 : a = b
    · simp [e2]
    · simp [e2] at this
  · by_cases e2 : a = b
    · simp [e, e2] at this
    · simp [e, e2]
theorem lk_of_mem {prs : List (Nat × Nat)} (hf : ∀ i a b, (i, a) ∈ prs → (i, b) ∈ prs → a = b) {i a : Nat} (h : (i, a) ∈ prs) : lk i prs = some a := by
  cases hl : lk i prs with
  | none =>
    exfalso
    revert h hl
    clear hf
    induction prs with
    | nil => intro h; cases h
    | cons p t ih =>
      obtain ⟨m, v⟩ := p
      intro h hl
      simp only [lk] at hl
      by_cases e : m = i
      · simp [e] at hl
      · rw [if_neg e] at hl
        rcases List.mem_cons.1 h with h | h
        · cases h; exact e rfl
        · exact ih h hl
  | some b => rw [hf i a b h (lk_mem hl)]
def swp (prs : List (Nat × Nat)) : List (Nat × Nat) := prs.map fun p => (p.2, p.1)
theorem mem_swp {prs : List (Nat × Nat)} {a i : Nat} : (a, i) ∈ swp prs ↔ (i, a) ∈ prs := by
  simp only [swp, List.mem_map]
  constructor
  · rintro ⟨⟨x, y⟩, h, e⟩; cases e; exact h
  · intro h; exact ⟨(i, a), h, rfl⟩
theorem lk_fst {prs : List (Nat × Nat)} (h : prsB prs = true) {i a : Nat} : lk i prs = some a ↔ (i, a) ∈ prs :=
  ⟨lk_mem, fun hm => lk_of_mem (fun i a b h1 h2 => (prs_iff h h1 h2).1 rfl) hm⟩
theorem lk_snd {prs : List (Nat × Nat)} (h : prsB prs = true) {i a : Nat} : lk a (swp prs) = some i ↔ (i, a) ∈ prs :=
  ⟨fun hl => mem_swp.1 (lk_mem hl), fun hm => lk_of_mem (fun i a b h1 h2 => (prs_iff h (mem_swp.1 h1) (mem_swp.1 h2)).2 rfl) (mem_swp.2 hm)⟩

/-- What ids of the one are to the other: by pairs; others d. -/
def rho (prs : List (Nat × Nat)) (d : Nat) (i : Nat) : Nat := (lk i prs).getD d
theorem rho_of {prs : List (Nat × Nat)} {d i a : Nat} (h : lk i prs = some a) : rho prs d i = a := by simp [rho, h]
theorem rho_eq {prs : List (Nat × Nat)} {d i a : Nat} (h : rho prs d i = a) (hd : a ≠ d) : lk i prs = some a := by
  unfold rho at h
  cases hl : lk i prs with
  | none => rw [hl] at h; exact absurd h.symm hd
  | some b => rw [hl] at h; simp at h; rw [h]

def outP (prs news : List (Nat × Nat)) (N : Nat) : List (Nat × Nat) := prs ++ news.map fun p => (p.1, N + p.2)
/-- The caller's blocks behind a call. -/
def outH (prs news : List (Nat × Nat)) (N : Nat) (hp' hp : Hp) : Hp :=
  ((outP prs news N).filterMap fun p => (lk p.1 hp').map fun b => (p.2, b.ren (rho (outP prs news N) (N + 31)))) ++ hp.filter fun p => !(prs.map (·.2)).contains p.1

def newsB (prs news : List (Nat × Nat)) : Bool := prsB news && news.all fun p => decide (p.2 < 31) && prs.all fun q => q.1 != p.1

theorem out_lk {prs news : List (Nat × Nat)} {N : Nat} {hp' hp : Hp} {id : Nat} {b : Blk} (h : lk id (outH prs news N hp' hp) = some b) :
    (∃ i b', (i, id) ∈ outP prs news N ∧ lk i hp' = some b' ∧ b = b'.ren (rho (outP prs news N) (N + 31))) ∨ ((∀ i, (i, id) ∉ prs) ∧ lk id hp = some b) := by
  unfold outH at h
  rw [lk_app] at h
  split at h
  · rename_i v hv
    injection h with h
    subst h
    have := lk_mem hv
    rw [List.mem_filterMap] at this
    obtain ⟨⟨i, id'⟩, h1, h2⟩ := this
    simp only at h2
    cases hl : lk i hp' with
    | none => rw [hl] at h2; simp at h2
    | some b' =>
      rw [hl] at h2
      simp only [Option.map_some, Option.some.injEq, Prod.mk.injEq] at h2
      obtain ⟨rfl, rfl⟩ := h2
      exact .inl ⟨i, b', h1, hl, rfl⟩
  · rw [lk_filter fun n => !(prs.map (·.2)).contains n] at h
    split at h
    · rename_i hc
      refine .inr ⟨fun i hi => ?_, h⟩
      simp only [Bool.not_eq_true', List.contains_eq_mem, decide_eq_false_iff_not, List.mem_map, not_exists, not_and] at hc
      exact hc (i, id) hi rfl
    · cases h

theorem renR_len (ρ : Nat → Nat) (rows : List (List AV)) : (renR ρ rows).length = rows.length := by simp [renR]

theorem BlkOk.ren {w : World} {S S' : Nat → Prop} {σ σ' : Nat → Option Nat} {hp hp' : Hp} {U U' : Nat → Prop} {ρ : Nat → Nat} (hS : ∀ b, S b → S' b) (h1 : ∀ id, U id → U' (ρ id))
    (h2 : ∀ id b', U id → lk (ρ id) hp' = some b' → ∃ b, lk id hp = some b ∧ b'.e = b.e ∧ b'.ty = b.ty ∧ b'.es.length = b.es.length ∧ σ' (ρ id) = σ id) {g : Nat} {b : Blk} (h : BlkOk w S σ hp U g b) : BlkOk w S' σ' hp' U' g (b.ren ρ) := by
  obtain ⟨ccs, k1, k2, k3, k4, k5⟩ := h
  refine ⟨ccs, k1, k2, fun x hx => ?_, by simp only [Blk.ren, renR_len]; exact k4, fun i j x y v a1 a2 a3 => ?_⟩
  · simp only [Blk.ren, renR, List.mem_map] at hx
    obtain ⟨y, hy, rfl⟩ := hx
    rw [renL_len]
    exact k3 y hy
  · simp only [Blk.ren, renR, List.getElem?_map] at a1
    cases hx : b.es[i]? with
    | none => rw [hx] at a1; simp at a1
    | some x0 =>
      rw [hx] at a1
      simp only [Option.map_some, Option.some.injEq] at a1
      subst a1
      rw [renL_get] at a2
      cases hy : x0[j]? with
      | none => rw [hy] at a2; simp at a2
      | some y0 =>
        rw [hy] at a2
        simp only [Option.map_some, Option.some.injEq] at a2
        subst a2
        exact (k5 i j x0 y0 v hx hy a3).ren hS h1 h2

/-- Blocks by other ids. -/
def renH (prs : List (Nat × Nat)) (d : Nat) (hp : Hp) : Hp := prs.filterMap fun p => (lk p.1 hp).map fun b => (p.2, b.ren (rho prs d))
def renF (ρ : Nat → Nat) : Fr → Fr
  | [] => []
  | (n, v) :: r => (n, v.ren ρ) :: renF ρ r
theorem fv_renF (ρ : Nat → Nat) (n : Nat) : ∀ fr : Fr, fv n (renF ρ fr) = (fv n fr).ren ρ
  | [] => rfl
  | (m, v) :: r => by
    simp only [renF, fv_cons, fv_renF ρ n r]
    split <;> rfl
theorem renH_lk {prs : List (Nat × Nat)} {d : Nat} {hp : Hp} {j : Nat} {b : Blk} (h : lk j (renH prs d hp) = some b) : ∃ i b0, (i, j) ∈ prs ∧ lk i hp = some b0 ∧ b = b0.ren (rho prs d) := by
  have := lk_mem h
  unfold renH at this
  rw [List.mem_filterMap] at this
  obtain ⟨⟨i, j'⟩, h1, h2⟩ := this
  simp only at h2
  cases hl : lk i hp with
  | none => rw [hl] at h2; simp at h2
  | some b' =>
    rw [hl] at h2
    simp only [Option.map_some, Option.some.injEq, Prod.mk.injEq] at h2
    obtain ⟨rfl, rfl⟩ := h2
    exact ⟨i, b', h1, hl, rfl⟩

/-- A state by other ids; what prs does not name is forgotten. -/
theorem ren_wk (prs : List (Nat × Nat)) (N : Nat) {st : St} (hprs : prsB prs = true) (hlo : ∀ p, p ∈ prs → p.1 = p.2 ∨ 64 ≤ p.2) (hN : ∀ p, p ∈ prs → p.2 < N) (h64 : 64 ≤ N) : Wk st ⟨renF (rho prs N) st.fr, renH prs N st.hp, N + 1⟩ := by
  rintro c a w ⟨q1, q2, σ, hr, hf, hh⟩
  have hσ : ∀ i j, (i, j) ∈ prs → (lk j (swp prs)).bind σ = σ i := fun i j h => by rw [(lk_snd hprs).2 h]; rfl
  have hU : ∀ id, id < st.nx → rho prs N id < N + 1 := fun id _ => by
    unfold rho
    cases hl : lk id prs with
    | none => simp
    | some k => have := hN _ (lk_mem hl); simp only [Option.getD_some]; omega
  have h2 : ∀ id b', id < st.nx → lk (rho prs N id) (renH prs N st.hp) = some b' → ∃ b, lk id st.hp = some b ∧ b'.e = b.e ∧ b'.ty = b.ty ∧ b'.es.length = b.es.length ∧ (lk (rho prs N id) (swp prs)).bind σ = σ id := by
    intro id b' _ hb
    obtain ⟨i, b0, h1, h3, rfl⟩ := renH_lk hb
    have hne : rho prs N id ≠ N := by have := hN _ h1; simp only at this; omega
    have h4 := lk_mem (rho_eq (rfl : rho prs N id = rho prs N id) hne)
    have : i = id := (prs_iff hprs h1 h4).2 rfl
    subst this
    exact ⟨b0, h3, rfl, rfl, by simp only [Blk.ren, renR_len], hσ _ _ h4⟩
  have hS : ∀ b, Sof c w σ st.hp b → Sof c w (fun j => (lk j (swp prs)).bind σ) (renH prs N st.hp) b := by
    rintro b ⟨⟨k1, k2⟩, k3⟩
    refine ⟨⟨k1, fun id blk g hb hg => ?_⟩, k3⟩
    obtain ⟨i, b0, h1, h3, rfl⟩ := renH_lk hb
    simp only [hσ _ _ h1] at hg
    exact k2 i b0 g h3 hg
  refine ⟨q1, q2, fun j => (lk j (swp prs)).bind σ, ⟨fun i j bi bj g hi hj si sj => ?_, fun i b hi => ?_, fun i b hi => ?_, fun i b g hi hg => ?_, hr.os, hr.tape, hr.output, hr.size, hr.old⟩, fun n => ?_, ⟨fun b hb => hS b (hh.sub b hb), hh.cell, fun i hi => ?_, fun id b' hid hb => ?_⟩⟩
  · obtain ⟨i0, b1, h1, h3, rfl⟩ := renH_lk hi
    obtain ⟨j0, b2, h4, h5, rfl⟩ := renH_lk hj
    simp only [hσ _ _ h1] at si
    simp only [hσ _ _ h4] at sj
    exact (prs_iff hprs h1 h4).1 (hr.inj i0 j0 _ _ g h3 h5 si sj)
  · obtain ⟨i0, b1, h1, h3, rfl⟩ := renH_lk hi
    have h4 := hN _ h1
    simp only at h4 ⊢
    omega
  · obtain ⟨i0, b1, h1, h3, rfl⟩ := renH_lk hi
    rcases hr.blk i0 b1 h3 with ⟨k1, k2⟩ | ⟨g, k1, k2⟩
    · exact .inl ⟨(hσ _ _ h1).trans k1, k2.ren _⟩
    · exact .inr ⟨g, (hσ _ _ h1).trans k1, k2.ren hS hU h2⟩
  · obtain ⟨i0, b1, h1, h3, rfl⟩ := renH_lk hi
    simp only [hσ _ _ h1] at hg
    exact hr.mine i0 b1 g h3 hg
  · simp only [fv_renF]
    exact (hf n).ren hS hU h2
  · have := c.hk
    have h4 : i < c.kx := hi
    simp only
    omega
  · obtain ⟨i0, b1, h1, h3, rfl⟩ := renH_lk hb
    have hkx := c.hk
    have h4 : id < c.kx := hid
    have : i0 = id := by
      rcases hlo _ h1 with h | h
      · exact h
      · simp only at h; omega
    subst this
    obtain ⟨b, m1, m2, m3, m4, m5⟩ := hh.blk i0 b1 hid h3
    refine ⟨b, m1, m2, m3, by simp only [Blk.ren, renR_len]; exact m4, fun he g hg => ?_⟩
    simp only [Blk.ren, renR_len] at he
    obtain ⟨n1, n2⟩ := m5 he g hg
    exact ⟨(hσ _ _ h1).trans n1, n2⟩

/-- A call of such a function. -/
theorem callsA_eff (prs : List (Nat × Nat)) {g : FuncId} {k : Nat} {hp0 : Hp} {args args0 : List AV} {hp : Hp} {N : Nat} {K : AV → Hp → Prop} {Q : AV → Hp → Prop} (h : RetsE P g k hp0 args0 Q)
    (hprs : prsB prs = true) (hlt : ∀ p, p ∈ prs → p.1 < k) (hall : ∀ p, p ∈ prs → ∃ b, lk p.2 hp = some b ∧ b.e ≠ 0)
    (hin : ∀ i b0, lk i hp0 = some b0 → ∃ id b, lk i prs = some id ∧ lk id hp = some b ∧ b0 = b.ren (rho (swp prs) k))
    (hargs : args0 = AV.renL (rho (swp prs) k) args)
    (hK : ∀ r hp', Q r hp' → ∃ news, newsB prs news = true ∧ K (r.ren (rho (outP prs news N) (N + 31))) (outH prs news N hp' hp)) : CallsA P g args hp N K := by
  refine ⟨h.1, fun c U σ w vs hr hN hl hv => ?_⟩
  obtain ⟨hk, hcon⟩ := h.2
  let σ0 : Nat → Option Nat := fun i => (lk i prs).bind σ
  let ri := rho (swp prs) k
  have hσ0 : ∀ {i id}, (i, id) ∈ prs → σ0 i = σ id := by
    intro i id hm
    simp only [σ0, (lk_fst hprs).2 hm, Option.bind_some]
  have hri : ∀ {id i b}, ri id = i → lk i hp0 = some b → (i, id) ∈ prs := by
    intro id i b he hb
    have hik : i < k := by
      obtain ⟨id', b', h1, _, _⟩ := hin i b hb
      exact hlt _ (lk_mem h1)
    exact mem_swp.1 (lk_mem (rho_eq he (by omega)))
  have hU : ∀ id, U id → ri id < k + 1 := by
    intro id _
    simp only [ri, rho]
    cases hl : lk id (swp prs) with
    | none => simp
    | some i => have := hlt _ (mem_swp.1 (lk_mem hl)); simp; omega
  have h2 : ∀ id b', U id → lk (ri id) hp0 = some b' → ∃ b, lk id hp = some b ∧ b'.e = b.e ∧ b'.ty = b.ty ∧ b'.es.length = b.es.length ∧ σ0 (ri id) = σ id := by
    intro id b' _ hb
    have hm := hri rfl hb
    obtain ⟨id', b, h3, h4, rfl⟩ := hin _ _ hb
    have := (prs_iff hprs hm (lk_mem h3)).1 rfl
    subst this
    exact ⟨b, h4, rfl, rfl, renR_len _ _, hσ0 hm⟩
  have hhand : Hand w (Sof c w σ hp) σ0 hp0 k := by
    refine ⟨fun b hb => ⟨hb.1.1, fun i blk gg hi hg => ?_⟩, fun i j bi bj gg hi hj hgi hgj => ?_, fun i b hi => ?_, fun i b hi => ?_⟩
    · obtain ⟨id, b', h3, h4, _⟩ := hin i blk hi
      rw [hσ0 (lk_mem h3)] at hg
      exact hb.1.2 id b' gg h4 hg
    · obtain ⟨id, b', h3, h4, _⟩ := hin i bi hi
      obtain ⟨id2, b2, h5, h6, _⟩ := hin j bj hj
      rw [hσ0 (lk_mem h3)] at hgi
      rw [hσ0 (lk_mem h5)] at hgj
      exact (prs_iff hprs (lk_mem h3) (lk_mem h5)).2 (hr.inj id id2 b' b2 gg h4 h6 hgi hgj)
    · obtain ⟨id, b', h3, h4, _⟩ := hin i b hi
      exact hlt _ (lk_mem h3)
    · obtain ⟨id, b', h3, h4, rfl⟩ := hin i b hi
      rw [hσ0 (lk_mem h3)]
      rcases hr.blk id b' h4 with ⟨k1, k2⟩ | ⟨gg, k1, k2⟩
      · obtain ⟨b1, q1, q2⟩ := hall _ (lk_mem h3)
        rw [h4] at q1
        injection q1 with q1
        subst q1
        exact .inl ⟨k1, by simp [Blk.ren, renR, k2.none q2]⟩
      · exact .inr ⟨gg, k1, k2.ren (fun _ h => h) hU h2⟩
  refine (hcon w (Sof c w σ hp) σ0 vs hhand (by rw [hargs, renL_len]; exact hl) (fun i v x hi hx => ?_)).mono fun e w' he => ?_
  · rw [hargs, renL_get] at hi
    cases ha : args[i]? with
    | none => rw [ha] at hi; simp at hi
    | some a =>
      rw [ha] at hi
      simp only [Option.map_some, Option.some.injEq] at hi
      subst hi
      exact (hv i a x ha hx).ren (fun _ h => h) hU h2
  obtain ⟨x, r, hp', U', σ', rfl, hQ, hr', hist, hx⟩ := he
  obtain ⟨news, hnews, hK⟩ := hK r hp' hQ
  simp only [newsB, Bool.and_eq_true, List.all_eq_true, decide_eq_true_eq, bne_iff_ne, ne_eq] at hnews
  obtain ⟨hnp, hnews⟩ := hnews
  let c0 := ctxE w (Sof c w σ hp) σ0 hp0 k 0 hk
  let opr := outP prs news N
  let ro := rho opr (N + 31)
  let hp2 := outH prs news N hp' hp
  have hUprs : ∀ {i id}, (i, id) ∈ prs → U id := by
    intro i id hm
    obtain ⟨b, hb, _⟩ := hall _ hm
    exact hr.lt id b hb
  have hmem : ∀ {i id}, (i, id) ∈ opr → (i, id) ∈ prs ∨ ∃ j, (i, j) ∈ news ∧ id = N + j ∧ j < 31 := by
    intro i id hm
    rcases List.mem_append.1 hm with h | h
    · exact .inl h
    · obtain ⟨⟨a, j⟩, h1, h2⟩ := List.mem_map.1 h
      cases h2
      exact .inr ⟨j, h1, rfl, (hnews _ h1).1⟩
  have hoprB : prsB opr = true := by
    refine List.all_eq_true.2 fun p hp1 => List.all_eq_true.2 fun q hq1 => ?_
    have key : p.1 = q.1 ↔ p.2 = q.2 := by
      rcases hmem (i := p.1) (id := p.2) hp1 with h1 | ⟨j, h1, e1, l1⟩ <;> rcases hmem (i := q.1) (id := q.2) hq1 with h2 | ⟨j2, h2, e2, l2⟩
      · exact prs_iff hprs h1 h2
      · have a1 : p.1 ≠ q.1 := (hnews _ h2).2 _ h1
        have a2 : p.2 ≠ q.2 := fun e => hN (N + j2) (by omega) (by omega) (by rw [← e2, ← e]; exact hUprs h1)
        exact ⟨fun e => absurd e a1, fun e => absurd e a2⟩
      · have a1 : q.1 ≠ p.1 := (hnews _ h1).2 _ h2
        have a2 : p.2 ≠ q.2 := fun e => hN (N + j) (by omega) (by omega) (by rw [← e1, e]; exact hUprs h2)
        exact ⟨fun e => absurd e.symm a1, fun e => absurd e a2⟩
      · rw [e1, e2]
        rw [prs_iff hnp h1 h2]
        omega
    rw [beq_iff_eq, Bool.eq_iff_iff, beq_iff_eq, beq_iff_eq]
    exact key
  have hdum : ∀ {i}, (i, N + 31) ∉ opr := by
    intro i hm
    rcases hmem hm with h | ⟨j, _, e, l⟩
    · exact hN (N + 31) (by omega) (by omega) (hUprs h)
    · omega
  let σ2 : Nat → Option Nat := fun id => match lk id (swp opr) with
    | some i => σ' i
    | none => σ id
  have hσ2 : ∀ {i id}, (i, id) ∈ opr → σ2 id = σ' i := by
    intro i id hm
    simp only [σ2, (lk_snd hoprB).2 hm]
  have hσ2' : ∀ {id}, (∀ i, (i, id) ∉ opr) → σ2 id = σ id := by
    intro id hm
    simp only [σ2]
    cases hl : lk id (swp opr) with
    | none => rfl
    | some i => exact absurd ((lk_snd hoprB).1 hl) (hm i)
  -- what a block of the caller's is now
  have hlk2 : ∀ {id b}, lk id hp2 = some b → (∃ i b', (i, id) ∈ opr ∧ lk i hp' = some b' ∧ b = b'.ren ro) ∨ ((∀ i, (i, id) ∉ opr) ∧ lk id hp = some b) := by
    intro id b hb
    rcases out_lk hb with h | ⟨h1, h2⟩
    · exact .inl h
    · refine .inr ⟨fun i hm => ?_, h2⟩
      rcases hmem hm with h | ⟨j, _, rfl, l⟩
      · exact h1 i h
      · exact hN (N + j) (by omega) (by omega) (hr.lt _ _ h2)
  have hUo : ∀ {i id}, (i, id) ∈ opr → unite U N id := by
    intro i id hm
    rcases hmem hm with h | ⟨j, _, rfl, l⟩
    · exact .inl (hUprs h)
    · exact .inr ⟨by omega, by omega⟩
  have hro : ∀ i, unite U N (ro i) := by
    intro i
    simp only [ro, rho]
    cases hl : lk i opr with
    | none => exact .inr ⟨Nat.le_add_right N 31, Nat.lt_succ_self (N + 31)⟩
    | some id => exact hUo (lk_mem hl)
  -- what the callee owned at the beginning
  have hM0 : ∀ {b}, c0.M0 b → ∃ i id bb, (i, id) ∈ prs ∧ lk id hp = some bb ∧ σ id = some b := by
    rintro b ⟨i, blk, hi, hg⟩
    obtain ⟨id, bb, h3, h4, _⟩ := hin i blk hi
    rw [hσ0 (lk_mem h3)] at hg
    exact ⟨i, id, bb, lk_mem h3, h4, hg⟩
  have hM0' : ∀ {b}, c0.M0 b → c.M0 b ∨ c.w0.heap.size ≤ b := by
    intro b hb
    obtain ⟨i, id, bb, _, h4, hg⟩ := hM0 hb
    exact hr.mine id bb b h4 hg
  have hother : ∀ {id b gg}, (∀ i, (i, id) ∉ prs) → lk id hp = some b → σ id = some gg → ¬ c0.M0 gg := by
    intro id b gg hn hb hg hm
    obtain ⟨i, id2, bb, h1, h2, h3⟩ := hM0 hm
    have := hr.inj id id2 b bb gg hb h2 hg h3
    subst this
    exact hn i h1
  have hsz : w.heap.size ≤ w'.heap.size := hr'.size
  have hold : ∀ {b}, b < w.heap.size → ¬ c0.M0 b → w'.heap[b]? = w.heap[b]? := fun hb hm => hr'.old _ hb hm
  have hnotown : ∀ {b}, Sof c w σ hp b → ¬ c0.M0 b := by
    intro b hb hm
    obtain ⟨i, id, bb, _, h2, h3⟩ := hM0 hm
    exact hb.1.2 id bb b h2 h3 rfl
  have hin_prs : ∀ {i id}, (i, id) ∈ opr → i < k → (i, id) ∈ prs ∨ False ∨ ∃ j, (i, j) ∈ news := by
    intro i id hm _
    rcases hmem hm with h | ⟨j, h, _, _⟩
    · exact .inl h
    · exact .inr (.inr ⟨j, h⟩)
  have hsub1 : ∀ b, Sof c w σ hp b → Sof c w' σ2 hp2 b := by
    intro b hb
    refine ⟨⟨Nat.lt_of_lt_of_le hb.1.1 hsz, fun id blk gg hi hg => ?_⟩, hb.2⟩
    rcases hlk2 hi with ⟨i, b', hm, hb', _⟩ | ⟨hn, hb'⟩
    · rw [hσ2 hm] at hg
      intro e
      subst e
      rcases hr'.mine i b' b hb' hg with h | h
      · exact hnotown hb h
      · have h5 : w.heap.size ≤ b := h
        have := hb.1.1
        omega
    · rw [hσ2' hn] at hg
      exact hb.1.2 id blk gg hb' hg
  have hsub2 : ∀ b, Sof c0 w' σ' hp' b → Sof c w' σ2 hp2 b := by
    intro b hb
    refine ⟨⟨hb.1.1, fun id blk gg hi hg => ?_⟩, ?_⟩
    · rcases hlk2 hi with ⟨i, b', hm, hb', _⟩ | ⟨hn, hb'⟩
      · rw [hσ2 hm] at hg
        exact hb.1.2 i b' gg hb' hg
      · rw [hσ2' hn] at hg
        intro e
        subst e
        have hlt2 : b < w.heap.size := blk_lt (hr.at hb' hg)
        rcases hb.2 with (h | h) | h
        · exact h.1.2 id blk b hb' hg rfl
        · exact hother (fun i hi => hn i (List.mem_append.2 (.inl hi))) hb' hg h
        · have h5 : w.heap.size ≤ b := h
          omega
    · rcases hb.2 with (h | h) | h
      · exact h.2
      · rcases hM0' h with h | h
        · exact .inl (c.hM _ h)
        · exact .inr h
      · have h5 : w.heap.size ≤ b := h
        have := hr.size
        exact .inr (by omega)
  -- the callee's blocks, renamed
  have h3 : ∀ id b', U' id → lk (ro id) hp2 = some b' → ∃ b, lk id hp' = some b ∧ b'.e = b.e ∧ b'.ty = b.ty ∧ b'.es.length = b.es.length ∧ σ2 (ro id) = σ' id := by
    intro id b' _ hb
    rcases hlk2 hb with ⟨i, b0, hm, hb0, rfl⟩ | ⟨hn, hb'⟩
    · have he : lk id opr = some (ro id) := rho_eq rfl (fun e => by rw [e] at hm; exact hdum hm)
      have hii := (prs_iff hoprB (lk_mem he) hm).2 rfl
      subst hii
      exact ⟨b0, hb0, rfl, rfl, renR_len _ _, hσ2 hm⟩
    · exfalso
      cases hl : lk id opr with
      | none =>
        have : ro id = N + 31 := by simp [ro, rho, hl]
        rw [this] at hb'
        exact hN (N + 31) (by omega) (by omega) (hr.lt _ _ hb')
      | some y =>
        have he : ro id = y := rho_of hl
        exact hn id (by rw [he]; exact lk_mem hl)
  have hstep : Step w (Sof c w σ hp) σ hp U w' (Sof c w' σ2 hp2) σ2 hp2 (unite U N) := by
    refine ⟨hsub1, fun p hp1 => World.cell?_of_block (w := w) (hold hp1.1.1 (hnotown hp1)), fun i h => .inl h, fun id b2 hu hb => ?_⟩
    rcases hlk2 hb with ⟨i, b', hm, hb', rfl⟩ | ⟨hn, hb'⟩
    · rcases hmem hm with h | ⟨j, _, rfl, l⟩
      · obtain ⟨b0, k0, k1, k2, k3, k4⟩ := hist.blk i b' (hlt _ h) hb'
        obtain ⟨id2, bb, q1, q2, rfl⟩ := hin i b0 k0
        have := (prs_iff hprs h (lk_mem q1)).1 rfl
        subst this
        refine ⟨bb, q2, k1, k2, by simpa [Blk.ren, renR_len] using k3, fun hle gg hg => ?_⟩
        have hg0 : σ0 i = some gg := by rw [hσ0 h]; exact hg
        obtain ⟨p1, p2⟩ := k4 (by simpa [Blk.ren, renR_len] using hle) gg hg0
        exact ⟨by rw [hσ2 hm]; exact p1, p2⟩
      · exact absurd hu (hN _ (by omega) (by omega))
    · refine ⟨b2, hb', rfl, rfl, Nat.le_refl _, fun _ gg hg => ⟨by rw [hσ2' hn]; exact hg, fun n hn2 => ?_⟩⟩
      obtain ⟨cc, h5, h6⟩ := hn2
      exact ⟨cc, (hold (blk_lt (hr.at hb' hg)) (hother (fun i hi => hn i (List.mem_append.2 (.inl hi))) hb' hg)).trans h5, h6⟩
  refine ⟨x, rfl, r.ren ro, hp2, σ2, hK, ⟨fun i j bi bj gg hi hj hgi hgj => ?_, fun id b hb => ?_, fun id b hb => ?_, fun id b gg hb hg => ?_, hr'.os.trans hr.os, hr'.tape.trans hr.tape, hr'.output.trans hr.output, Nat.le_trans hr.size hsz, fun b hb hm => ?_⟩, hstep, hx.ren hsub2 (fun _ _ => hro _) h3⟩
  · rcases hlk2 hi with ⟨i1, b1, m1, l1, _⟩ | ⟨n1, l1⟩ <;> rcases hlk2 hj with ⟨i2, b2, m2, l2, _⟩ | ⟨n2, l2⟩
    · rw [hσ2 m1] at hgi
      rw [hσ2 m2] at hgj
      exact (prs_iff hoprB m1 m2).1 (hr'.inj i1 i2 b1 b2 gg l1 l2 hgi hgj)
    · exfalso
      rw [hσ2 m1] at hgi
      rw [hσ2' n2] at hgj
      rcases hr'.mine i1 b1 gg l1 hgi with h | h
      · exact hother (fun i hi => n2 i (List.mem_append.2 (.inl hi))) l2 hgj h
      · have h5 : w.heap.size ≤ gg := h
        have := blk_lt (hr.at l2 hgj)
        omega
    · exfalso
      rw [hσ2' n1] at hgi
      rw [hσ2 m2] at hgj
      rcases hr'.mine i2 b2 gg l2 hgj with h | h
      · exact hother (fun i hi => n1 i (List.mem_append.2 (.inl hi))) l1 hgi h
      · have h5 : w.heap.size ≤ gg := h
        have := blk_lt (hr.at l1 hgi)
        omega
    · rw [hσ2' n1] at hgi
      rw [hσ2' n2] at hgj
      exact hr.inj i j bi bj gg l1 l2 hgi hgj
  · rcases hlk2 hb with ⟨i1, b1, m1, l1, _⟩ | ⟨n1, l1⟩
    · exact hUo m1
    · exact .inl (hr.lt id b l1)
  · rcases hlk2 hb with ⟨i1, b1, m1, l1, rfl⟩ | ⟨n1, l1⟩
    · rw [hσ2 m1]
      rcases hr'.blk i1 b1 l1 with ⟨k1, k2⟩ | ⟨gg, k1, k2⟩
      · exact .inl ⟨k1, (k2.ren _).le hr.size⟩
      · exact .inr ⟨gg, k1, k2.ren hsub2 (fun _ _ => hro _) h3⟩
    · rw [hσ2' n1]
      rcases hr.blk id b l1 with h0 | ⟨gg, hg, h0⟩
      · refine .inl ⟨h0.1, h0.2.keep fun g ms ck hm => hold (map_lt hm) fun hM => ?_⟩
        obtain ⟨_, id2, bb, _, q2, q3⟩ := hM0 hM
        obtain ⟨ccs, q4, _⟩ := hr.at q2 q3
        rw [hm] at q4
        cases q4
      · exact .inr ⟨gg, hg, h0.step hstep (hold (blk_lt h0) (hother (fun i hi => n1 i (List.mem_append.2 (.inl hi))) l1 hg))⟩
  · rcases hlk2 hb with ⟨i1, b1, m1, l1, _⟩ | ⟨n1, l1⟩
    · rw [hσ2 m1] at hg
      rcases hr'.mine i1 b1 gg l1 hg with h | h
      · exact hM0' h
      · have h5 : w.heap.size ≤ gg := h
        have := hr.size
        exact .inr (by omega)
    · rw [hσ2' n1] at hg
      exact hr.mine id b gg l1 hg
  · have hb2 : b < w.heap.size := Nat.lt_of_lt_of_le hb hr.size
    rw [hold hb2 (fun h => by
      rcases hM0' h with h | h
      · exact hm h
      · omega)]
    exact hr.old b hb hm
end
end Go.Am
