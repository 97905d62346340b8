/-
  AM, part 7: code: regions, tests, blocks, loops; functions that only read what they are handed.
-/
import Derived.Test.YtnmnabagabejjaaGreatAmSnp
namespace Go.Am
set_option linter.unusedVariables false

structure St where
  fr : Fr
  hp : Hp
  nx : Nat

def Sim (c : Ctx) (st : St) (a : Act) (w : World) : Prop := SimU c st.fr st.hp (fun i => i < st.nx) a w

/-- What stands behind an operation. -/
def OpK (f : St → Prop) (fr : Fr) (nx : Nat) (dst : Option Tmp) (v : AV) (hp : Hp) : Prop := f ⟨putFr fr dst v, hp, nx + 32⟩

def opsW (P : Program) (n : Nat) (ops : Array Oper) : List Oper → (St → Prop) → St → Prop
  | [], K, st => K st
  | o :: rest, K, st =>
    match o.guard with
    | none => dstOk n o.dst ∧ opW P st.fr st.hp st.nx o.op (OpK (opsW P n ops rest K) st.fr st.nx o.dst)
    | some (j, want) =>
      match (ops[j]?).bind (·.dst) with
      | some d =>
        (match fv d st.fr with
        | .d (.bool b) => dstOk n o.dst ∧ (b = want → opW P st.fr st.hp st.nx o.op (OpK (opsW P n ops rest K) st.fr st.nx o.dst)) ∧
            (b = !want → OpK (opsW P n ops rest K) st.fr st.nx o.dst (.tup []) st.hp)
        | .tup [] => dstOk n o.dst ∧ OpK (opsW P n ops rest K) st.fr st.nx o.dst (.tup []) st.hp
        | _ => False)
      | none => False

def NormK (Q : Exit → St → Prop) (st : St) : Prop := Q .normal st
def SeqK (f : St → Prop) (Q : Exit → St → Prop) : Exit → St → Prop
  | .normal, st => f st
  | e, st => Q e st
def BlockK (id : Nat) (Q : Exit → St → Prop) : Exit → St → Prop
  | .exit i, st => if i = id then Q .normal st else Q (.exit i) st
  | e, st => Q e st

/-- Ids below a number; one level deep. -/
def AV.low1 (N : Nat) : AV → Prop
  | .own id _ _ _ => id < N
  | .sub id _ _ _ _ _ _ => id < N
  | .ptr id _ _ _ => id < N
  | .mp id => id < N
  | .agg _ => False
  | .tup _ => False
  | .fn _ cs => cs = []
  | .mth _ cs => cs = []
  | _ => True
def AV.low (N : Nat) : AV → Prop
  | .agg cs => ∀ c, c ∈ cs → c.low1 N
  | .fn _ cs => ∀ c, c ∈ cs → c.low1 N
  | .mth _ cs => ∀ c, c ∈ cs → c.low1 N
  | v => v.low1 N

/-- What a slot may be taken for: what it holds; the nil slice for a row of the call's own, without elements. -/
def slotOk (st st' : St) (v u : AV) : Prop :=
  u = v ∨ (v = .nil ∧ match u with
    | .own id 0 0 0 => (match lk id st'.hp with
      | some b => b.es = []
      | none => False)
    | _ => False)

/-- st' says no more than st: some slots, some blocks; blocks without elements may come. -/
def Weak (st st' : St) : Prop :=
  (∀ p, p ∈ st'.fr → slotOk st st' (fv p.1 st.fr) p.2 ∧ p.2.low st'.nx) ∧
  (∀ p, p ∈ st'.hp → (lk p.1 st.hp = some p.2 ∨ (st.nx ≤ p.1 ∧ p.2.es = [])) ∧ p.1 < st'.nx ∧ ∀ r, r ∈ p.2.es → ∀ v, v ∈ r → v.low1 st'.nx) ∧ (st.nx ≤ st'.nx ∨ 64 ≤ st'.nx)

/-- What may stand for a state: whatever the one tells truly the other does, too. -/
def Wk (st st' : St) : Prop := ∀ (c : Ctx) (a : Act) (w : World), Sim c st a w → Sim c st' a w
theorem Wk.trans {s1 s2 s3 : St} (h : Wk s1 s2) (k : Wk s2 s3) : Wk s1 s3 := fun c a w hs => k c a w (h c a w hs)

def LoopK (I : Nat → St → Prop) (m : Nat) (Q : Exit → St → Prop) : Exit → St → Prop
  | .normal, st => ∃ m' st', m' < m ∧ Wk st st' ∧ I m' st'
  | e, st => Q e st

def loopW (W : (Exit → St → Prop) → St → Prop) (Q : Exit → St → Prop) (st : St) : Prop :=
  ∃ I : Nat → St → Prop, (∃ m st', Wk st st' ∧ I m st') ∧ ∀ m st', I m st' → W (LoopK I m Q) st'

def awp (P : Program) (n : Nat) : Code → (Exit → St → Prop) → St → Prop
  | .skip, Q, st => Q .normal st
  | .region _ ops false, Q, st => opsW P n ops ops.toList (NormK Q) st
  | .region _ ops true, Q, st => (∃ zs ss m, regB n ops zs ss m = true ∧ P.follows .mixedOrders = true ∧ zW P ops st.nx st.hp (fun fr => chW P ops st.nx st.hp (fun fr hp => Q .normal ⟨fr, hp, st.nx + 32 * ops.size⟩) ss m fr st.hp) zs st.fr) ∨
      ∃ zs is za t st', tregB n ops zs is za t = true ∧ P.follows .mixedOrders = true ∧ zW P ops st.nx st.hp (fun fr => trW P ops st.nx st.hp (fun fr hp => Wk ⟨fr, hp, st.nx + 32 * ops.size⟩ st') t fr st.hp) zs st.fr ∧ Q .normal st'
  | .seq x y, Q, st => awp P n x (SeqK (awp P n y Q) Q) st
  | .cond c x y, Q, st =>
    match ev st.fr c with
    | .d (.bool b) => (b = true → awp P n x Q st) ∧ (b = false → awp P n y Q st)
    | _ => False
  | .block id x, Q, st => awp P n x (BlockK id Q) st
  | .loop x, Q, st => loopW (awp P n x) Q st
  | .exit id, Q, st => Q (.exit id) st
  | .ret, Q, st => Q .ret st
  | _, _, _ => False

section
variable {P : Program} {c : Ctx}

theorem unite_lt (nx i : Nat) : unite (fun i => i < nx) nx i ↔ i < nx + 32 := by unfold unite; omega

theorem unite_eq (nx : Nat) : unite (fun i => i < nx) nx = fun i => i < nx + 32 := funext fun i => propext (unite_lt nx i)

theorem sim_ev {st : St} {a : Act} {w : World} (h : Sim c st a w) : ∃ σ, Rel c st.hp (fun i => i < st.nx) σ w ∧ (∀ n, AIs w (Sof c w σ st.hp) σ st.hp (fun i => i < st.nx) (fv n st.fr) (a.tmps.getD n undef)) ∧ ∀ x, AIs w (Sof c w σ st.hp) σ st.hp (fun i => i < st.nx) (ev st.fr x) (a.eval x) := by
  obtain ⟨_, _, σ, hr, hf, _⟩ := h
  exact ⟨σ, hr, hf, fun x => ev_is hf x⟩

/-- One operation. -/
theorem op_step {st : St} {a : Act} {w : World} {o : Oper} {f : St → Prop} {next : Act → World → Prop} {Q : Exit → Act → World → Prop}
    (hs : Sim c st a w) (hd : dstOk c.n o.dst) (h : opW P st.fr st.hp st.nx o.op (OpK f st.fr st.nx o.dst))
    (hn : ∀ st' a' w', f st' → Sim c st' a' w' → next a' w') : o.wp P a w next Q := by
  obtain ⟨h1, h2, σ, hr, hf, hh⟩ := hs
  have hok := opW_snd (o := o) (N := st.nx) hr (fun x => ev_is hf x) (fun i h1 _ h3 => by have h4 : i < st.nx := h3; omega) h
  refine upon_ok h1 h2 hd hf hh hok fun v hp' a' w' hK hS => hn _ a' w' hK ?_
  rw [unite_eq] at hS
  exact hS

theorem sim_any {st : St} {a : Act} {w : World} {dst : Option Tmp} (hs : Sim c st a w) : Sim c ⟨putFr st.fr dst (.tup []), st.hp, st.nx + 32⟩ (a.put dst undef) w := by
  obtain ⟨h1, h2, σ, hr, hf, hh⟩ := hs
  have hr' : Rel c st.hp (fun i => i < st.nx + 32) σ w := by rw [← unite_eq]; exact hr.more
  have hst : Step w (Sof c w σ st.hp) σ st.hp (fun i => i < st.nx) w (Sof c w σ st.hp) σ st.hp (fun i => i < st.nx + 32) := by rw [← unite_eq]; exact Step.more
  cases dst with
  | none => exact ⟨h1, h2, σ, hr', fun n => (hf n).step hst, hh.trans hst⟩
  | some d =>
    refine ⟨h1, by simp [Act.put, h2], σ, hr', fun n => ?_, hh.trans hst⟩
    simp only [putFr, Act.put, fv_cons]
    by_cases h : d = n
    · subst h
      have hu : (a.tmps.setIfInBounds d undef).getD d undef = .tuple #[] := by
        simp only [Array.getD_eq_getD_getElem?, Array.getElem?_setIfInBounds, if_true]
        split <;> rfl
      rw [hu]
      simp only [if_true]
      exact .tup [] #[] rfl (by simp)
    · simp only [if_neg h]
      have : (a.tmps.setIfInBounds d undef).getD n undef = a.tmps.getD n undef := by
        simp only [Array.getD_eq_getD_getElem?, Array.getElem?_setIfInBounds, if_neg h]
      rw [this]
      exact (hf n).step hst

/-- A region in the order of its text. -/
theorem ops_snd {ops : Array Oper} {Q : Exit → Act → World → Prop} {K : St → Prop} (hQ : ∀ st a w, K st → Sim c st a w → Q .normal a w) :
    ∀ (l : List Oper) (st : St) (a : Act) (w : World), opsW P c.n ops l K st → Sim c st a w → wpList P ops Q l a w
  | [], st, a, w, h, hs => hQ st a w h hs
  | o :: rest, st, a, w, h, hs => by
    have ih := ops_snd (ops := ops) (Q := Q) hQ rest
    simp only [opsW] at h
    unfold wpList
    split at h
    · rename_i hg
      obtain ⟨hd, h⟩ := h
      rw [if_pos (by simp [Region.wanted, hg])]
      exact .inl (op_step hs hd h fun st' a' w' h' hs' => ih st' a' w' h' hs')
    · rename_i j want hg
      split at h
      · rename_i d hd
        split at h
        · rename_i b hb
          obtain ⟨hdst, h1, h2⟩ := h
          obtain ⟨σ, hr, hf, _⟩ := sim_ev hs
          have hv := is_bool (hb ▸ hf d)
          have hy : yielded ops a.tmps j = some b := by
            unfold yielded
            rw [hd]
            have hv' : a.tmps[d]?.getD undef = .bool b := by simpa using hv
            cases ht : a.tmps[d]? with
            | none => rw [ht] at hv'; cases hv'
            | some u => rw [ht] at hv'; simp at hv'; subst hv'; simp [ht]
          by_cases hw : b = want
          · rw [if_pos (by simp [Region.wanted, hg, hy, hw])]
            exact .inl (op_step hs hdst (h1 hw) fun st' a' w' h' hs' => ih st' a' w' h' hs')
          · rw [if_neg (by simp [Region.wanted, hg, hy, hw])]
            exact ih _ _ _ (h2 (by cases b <;> cases want <;> simp_all)) (sim_any hs)
        · rename_i hb
          obtain ⟨hdst, h2⟩ := h
          obtain ⟨σ, hr, hf, _⟩ := sim_ev hs
          have hv := hb ▸ hf d
          have hy : ¬ (yielded ops a.tmps j = some want) := by
            unfold yielded
            rw [hd]
            cases ht : a.tmps[d]? with
            | none => simp [ht]
            | some u =>
              have e : a.tmps.getD d undef = u := by simp [Array.getD_eq_getD_getElem?, ht]
              rw [e] at hv
              cases hv with
              | tup _ xs _ _ => simp [ht]
          rw [if_neg (by simp [Region.wanted, hg, hy])]
          exact ih _ _ _ h2 (sim_any hs)
        · exact h.elim
      · exact h.elim

theorem low1_keep {w : World} {S S' : Nat → Prop} {σ σ' : Nat → Option Nat} {hp hp' : Hp} {U : Nat → Prop} {N : Nat} (hS : ∀ b, S b → S' b) (hh : ∀ id b, U id → lk id hp' = some b → lk id hp = some b) (hσ : ∀ id, U id → σ' id = σ id) {v : AV} {x : Value} (hl : v.low1 N) (h : AIs w S σ hp U v x) :
    AIs w S' σ' hp' (fun i => i < N) v x := by
  cases h with
  | any => exact .any _
  | d h => exact .d (h.mono hS fun _ _ => rfl)
  | agg => exact hl.elim
  | tup => exact hl.elim
  | own id i0 len tot A cap hN hle h0 h => exact .own id i0 len tot A cap hl hle h0 fun b hb => by rw [hσ id hN]; exact h b (hh id b hN hb)
  | sub id i off e len cap tot A hN hle h0 h => exact .sub id i off e len cap tot A hl hle h0 fun b hb => by rw [hσ id hN]; exact h b (hh id b hN hb)
  | ptr id i off tot a hN h => exact .ptr id i off tot a hl fun b hb => by rw [hσ id hN]; exact h b (hh id b hN hb)
  | rop cs ad vs h1 h2 h3 => exact .rop cs ad vs (hS _ h1) h2 fun j y hy => (h3 j y hy).mono hS fun _ _ => rfl
  | fn f cs xs hle h => obtain rfl : cs = [] := hl; exact .fn f [] xs hle (by simp)
  | mth f cs xs hle h => obtain rfl : cs = [] := hl; exact .mth f [] xs hle (by simp)
  | nil => exact .nil
  | mp id g hN h => exact .mp id g hl fun b hb => h b (hh id b hN hb)

theorem low_keep {w : World} {S S' : Nat → Prop} {σ σ' : Nat → Option Nat} {hp hp' : Hp} {U : Nat → Prop} {N : Nat} (hS : ∀ b, S b → S' b) (hh : ∀ id b, U id → lk id hp' = some b → lk id hp = some b) (hσ : ∀ id, U id → σ' id = σ id) {v : AV} {x : Value} (hl : v.low N) (h : AIs w S σ hp U v x) :
    AIs w S' σ' hp' (fun i => i < N) v x := by
  cases v with
  | agg cs =>
    cases h with
    | agg _ xs hle h1 h => exact .agg cs xs hle h1 fun i c x hc hx => low1_keep hS hh hσ (hl c (List.mem_of_getElem? hc)) (h i c x hc hx)
  | fn f cs =>
    cases h with
    | fn _ _ xs hle h => exact .fn f cs xs hle fun i c x hc hx => low1_keep hS hh hσ (hl c (List.mem_of_getElem? hc)) (h i c x hc hx)
  | mth f cs =>
    cases h with
    | mth _ _ xs hle h => exact .mth f cs xs hle fun i c x hc hx => low1_keep hS hh hσ (hl c (List.mem_of_getElem? hc)) (h i c x hc hx)
  | _ => exact low1_keep hS hh hσ hl h

theorem lk_mem {α : Type} {n : Nat} {v : α} : ∀ {l : List (Nat × α)}, lk n l = some v → (n, v) ∈ l
  | [], h => by cases h
  | (m, u) :: t, h => by
    simp only [lk] at h
    split at h
    · rename_i e; injection h with h; subst e; subst h; exact List.mem_cons_self ..
    · exact List.mem_cons_of_mem _ (lk_mem h)

theorem weak_sim {st st' : St} {a : Act} {w : World} (hw : Weak st st') (hs : Sim c st a w) : Sim c st' a w := by
  obtain ⟨hf', hh', hnx⟩ := hw
  obtain ⟨h1, h2, σ, hr, hf, hist⟩ := hs
  have hh : ∀ id b, id < st.nx → lk id st'.hp = some b → lk id st.hp = some b := fun id b hid h => by
    rcases (hh' _ (lk_mem h)).1 with h | ⟨h, _⟩
    · exact h
    · simp only at h; omega
  let σ' : Nat → Option Nat := fun id => if st.nx ≤ id then none else σ id
  have hσ : ∀ id, id < st.nx → σ' id = σ id := fun id h => if_neg (by omega)
  have hσ' : ∀ id g, σ' id = some g → id < st.nx ∧ σ id = some g := by
    intro id g h
    by_cases hle : st.nx ≤ id
    · simp only [σ', if_pos hle] at h; cases h
    · exact ⟨by omega, by rw [hσ id (by omega)] at h; exact h⟩
  have hS : ∀ b, Sof c w σ st.hp b → Sof c w σ' st'.hp b := fun b hb => ⟨⟨hb.1.1, fun id blk g h hg => by
    obtain ⟨h3, h4⟩ := hσ' id g hg
    exact hb.1.2 id blk g (hh id blk h3 h) h4⟩, hb.2⟩
  refine ⟨h1, h2, σ', ⟨fun i j bi bj g hi hj hgi hgj => ?_, fun i b h => (hh' _ (lk_mem h)).2.1, fun i b h => ?_, fun i b g h hg => ?_, hr.os, hr.tape, hr.output, hr.size, hr.old⟩, fun n => ?_, ⟨fun b h => hS b (hist.sub b h), hist.cell, fun i h => ?_, fun id b' hu hb' => ?_⟩⟩
  · obtain ⟨a1, a2⟩ := hσ' i g hgi
    obtain ⟨b1, b2⟩ := hσ' j g hgj
    exact hr.inj i j bi bj g (hh i bi a1 hi) (hh j bj b1 hj) a2 b2
  · rcases (hh' _ (lk_mem h)).1 with h0 | ⟨h0, h3⟩
    · simp only at h0
      have hi : i < st.nx := hr.lt i b h0
      rcases hr.blk i b h0 with ⟨k1, k2⟩ | ⟨g, k1, ccs, k2, k3, k4, k5, k6⟩
      · exact .inl ⟨(hσ i hi).trans k1, k2⟩
      · exact .inr ⟨g, (hσ i hi).trans k1, ccs, k2, k3, k4, k5, fun i' j x y v a1 a2 a3 => low1_keep hS hh hσ ((hh' _ (lk_mem h)).2.2 x (List.mem_of_getElem? a1) y (List.mem_of_getElem? a2)) (k6 i' j x y v a1 a2 a3)⟩
    · exact .inl ⟨if_pos h0, .inl h3⟩
  · obtain ⟨a1, a2⟩ := hσ' i g hg
    exact hr.mine i b g (hh i b a1 h) a2
  · cases hl : lk n st'.fr with
    | none => simp only [fv, hl]; exact .any _
    | some v =>
      have := hf' _ (lk_mem hl)
      simp only [fv, hl, Option.getD_some]
      obtain ⟨h3, h4⟩ := this
      simp only at h3 h4
      rcases h3 with h3 | ⟨h3, h5⟩
      · refine low_keep (U := fun i => i < st.nx) hS hh hσ h4 ?_
        rw [h3]
        exact hf n
      · have hx := hf n
        rw [h3] at hx
        generalize a.tmps.getD n undef = x at hx
        cases hx with
        | nil =>
          split at h5
          · rename_i id
            exact .own id 0 0 0 none 0 h4 (Nat.le_refl _) (fun _ => rfl) fun b hb => ⟨Nat.zero_le _, fun _ => ⟨Nat.le_refl _, Nat.le_refl _, fun h => by omega⟩⟩
          · exact h5.elim
  · have h0 := hist.le i h
    have h3 := c.hk
    rcases hnx with h4 | h4
    · exact Nat.lt_of_lt_of_le h0 h4
    · exact Nat.lt_of_lt_of_le (Nat.lt_of_lt_of_le h h3) h4
  · have h0 := hist.le id hu
    obtain ⟨b1, f0, f1, f2, f3, f4⟩ := hist.blk id b' hu (hh id b' h0 hb')
    refine ⟨b1, f0, f1, f2, f3, fun hl g hg => ?_⟩
    obtain ⟨p1, p2⟩ := f4 hl g hg
    exact ⟨(hσ id h0).trans p1, p2⟩

theorem weak_wk {st st' : St} (h : Weak st st') : Wk st st' := fun _ _ _ hs => weak_sim h hs
/-- Own rows given up: ids are theirs, fz tells what slots read as then. -/
theorem froz_wk (ids : List Nat) (fz : Fr) {st : St} (hz : ∀ p, p ∈ fz → Snap st.hp (fun id => id ∈ ids) (fv p.1 st.fr) p.2) : Wk st ⟨fz ++ st.fr, dropH ids st.hp, st.nx⟩ := fun _ _ _ hs => froz_sim ids fz hz hs
theorem weakF_of {st st' : St} (ids : List Nat) (fz : Fr) (hz : ∀ p, p ∈ fz → Snap st.hp (fun id => id ∈ ids) (fv p.1 st.fr) p.2) (h : Weak ⟨fz ++ st.fr, dropH ids st.hp, st.nx⟩ st') : Wk st st' := (froz_wk ids fz hz).trans (weak_wk h)

theorem simU_mono {fr : Fr} {hp : Hp} {U U' : Nat → Prop} {a : Act} {w : World} (h : ∀ k, U k → U' k) (hs : SimU c fr hp U a w) : SimU c fr hp U' a w := by
  obtain ⟨q1, q2, σ, hr, hf, hh⟩ := hs
  have st : Step w (Sof c w σ hp) σ hp U w (Sof c w σ hp) σ hp U' := ⟨fun _ h => h, fun _ _ => rfl, h, fun id b' _ h => ⟨b', h, rfl, rfl, Nat.le_refl _, fun _ g hg => ⟨hg, fun _ h => h⟩⟩⟩
  refine ⟨q1, q2, σ, ⟨hr.inj, fun i b hb => h _ (hr.lt i b hb), fun i b hb => ?_, hr.mine, hr.os, hr.tape, hr.output, hr.size, hr.old⟩, fun n => (hf n).step st, hh.trans st⟩
  rcases hr.blk i b hb with h0 | ⟨g, hg, h0⟩
  · exact .inl h0
  · exact .inr ⟨g, hg, h0.step st rfl⟩

/-- Code is sound. -/
theorem awp_snd : ∀ (x : Code) (Q : Exit → St → Prop) (st : St) (a : Act) (w : World), awp P c.n x Q st → Sim c st a w → x.wp P (fun e a' w' => ∃ st', Q e st' ∧ Sim c st' a' w') a w
  | .skip, Q, st, a, w, h, hs => wp_skip ⟨st, h, hs⟩
  | .region id ops false, Q, st, a, w, h, hs => wp_region_list (ops_snd (Q := fun e a' w' => ∃ st', Q e st' ∧ Sim c st' a' w') (fun st a w hK hs => ⟨st, hK, hs⟩) ops.toList st a w h hs)
  | .region id ops true, Q, st, a, w, h, hs => by
    rcases h with ⟨zs, ss, m, hB, hm, h⟩ | ⟨zs, is, za, t, st', hB, hm, h, hq⟩
    · exact region_snd hm hB (fun fr hp a w U hK hU hS => ⟨_, hK, simU_mono hU hS⟩) (fun k hk => hk) hs h
    · exact tre_snd hm hB (fun fr hp a w U hK hU hS => ⟨st', hq, hK c _ _ (simU_mono hU hS)⟩) (fun k hk => hk) hs h
  | .seq x y, Q, st, a, w, h, hs => by
    refine wp_seq (wp_mono (awp_snd x _ st a w h hs) fun e a' w' ⟨st', hq, hs'⟩ => ?_)
    cases e with
    | normal => exact awp_snd y Q st' a' w' hq hs'
    | _ => exact ⟨st', hq, hs'⟩
  | .cond cnd x y, Q, st, a, w, h, hs => by
    simp only [awp] at h
    split at h
    · rename_i b hb
      obtain ⟨σ, _, _, E⟩ := sim_ev hs
      have hv := is_bool (hb ▸ E cnd)
      refine wp_cond_split hv (fun ht => ?_) (fun hf => ?_)
      · exact awp_snd x Q st a w (h.1 ht) hs
      · exact awp_snd y Q st a w (h.2 hf) hs
    · exact h.elim
  | .block id x, Q, st, a, w, h, hs => by
    refine wp_block (wp_mono (awp_snd x _ st a w h hs) fun e a' w' ⟨st', hq, hs'⟩ => ?_)
    cases e with
    | exit i =>
      simp only [BlockK] at hq
      simp only [Exit.inBlock]
      split at hq
      · rename_i hi; rw [if_pos hi]; exact ⟨st', hq, hs'⟩
      · rename_i hi; rw [if_neg hi]; exact ⟨st', hq, hs'⟩
    | _ => exact ⟨st', hq, hs'⟩
  | .loop x, Q, st, a, w, h, hs => by
    obtain ⟨I, ⟨m0, st0, hw0, hI0⟩, hround⟩ := h
    have key : ∀ m st a w, I m st → Sim c st a w → (Code.loop x).wp P (fun e a' w' => ∃ st', Q e st' ∧ Sim c st' a' w') a w := by
      intro m0 st0 a0 w0 hI hsim
      -- a measure: the least m with which some state of the relation is there
      refine wp_loop (fun a w => ∃ m st, I m st ∧ Sim c st a w) (fun a w => Classical.epsilon fun m => (∃ st, I m st ∧ Sim c st a w) ∧ ∀ m', (∃ st, I m' st ∧ Sim c st a w) → m ≤ m') ⟨m0, st0, hI, hsim⟩ ?_
      rintro a1 w1 ⟨m1, st1, h1, h2⟩
      have least : ∃ m, (∃ st, I m st ∧ Sim c st a1 w1) ∧ ∀ m', (∃ st, I m' st ∧ Sim c st a1 w1) → m ≤ m' := by
        have hex : ∃ m, ∃ st, I m st ∧ Sim c st a1 w1 := ⟨m1, st1, h1, h2⟩
        clear h1 h2
        have : ∀ k, (∃ m, m ≤ k ∧ ∃ st, I m st ∧ Sim c st a1 w1) → ∃ m, (∃ st, I m st ∧ Sim c st a1 w1) ∧ ∀ m', (∃ st, I m' st ∧ Sim c st a1 w1) → m ≤ m' := by
          intro k
          induction k with
          | zero =>
            rintro ⟨m, hm, hx⟩
            exact ⟨m, hx, fun m' _ => by omega⟩
          | succ k ih =>
            rintro ⟨m, hm, hx⟩
            by_cases hk : ∃ m, m ≤ k ∧ ∃ st, I m st ∧ Sim c st a1 w1
            · exact ih hk
            · refine ⟨m, hx, fun m' hm' => ?_⟩
              rcases Nat.lt_or_ge m' m with hlt | hge
              · exact absurd ⟨m', by omega, hm'⟩ hk
              · exact hge
        obtain ⟨m, hx⟩ := hex
        exact this m ⟨m, Nat.le_refl _, hx⟩
      have hmu := Classical.epsilon_spec least
      generalize (Classical.epsilon fun m => (∃ st, I m st ∧ Sim c st a1 w1) ∧ ∀ m', (∃ st, I m' st ∧ Sim c st a1 w1) → m ≤ m') = mu at hmu
      obtain ⟨⟨st2, h3, h4⟩, _⟩ := hmu
      refine wp_mono (awp_snd x _ st2 a1 w1 (hround mu st2 h3) h4) fun e a' w' ⟨st', hq, hs'⟩ => ?_
      cases e with
      | normal =>
        obtain ⟨m', st'', hlt, hweak, hI'⟩ := hq
        have hs'' := hweak c _ _ hs'
        refine ⟨⟨m', st'', hI', hs''⟩, ?_⟩
        have least' : ∃ m, (∃ st, I m st ∧ Sim c st a' w') ∧ ∀ m', (∃ st, I m' st ∧ Sim c st a' w') → m ≤ m' := by
          have : ∀ k, (∃ m, m ≤ k ∧ ∃ st, I m st ∧ Sim c st a' w') → ∃ m, (∃ st, I m st ∧ Sim c st a' w') ∧ ∀ m', (∃ st, I m' st ∧ Sim c st a' w') → m ≤ m' := by
            intro k
            induction k with
            | zero =>
              rintro ⟨m, hm, hx⟩
              exact ⟨m, hx, fun m' _ => by omega⟩
            | succ k ih =>
              rintro ⟨m, hm, hx⟩
              by_cases hk : ∃ m, m ≤ k ∧ ∃ st, I m st ∧ Sim c st a' w'
              · exact ih hk
              · refine ⟨m, hx, fun m' hm' => ?_⟩
                rcases Nat.lt_or_ge m' m with hlt | hge
                · exact absurd ⟨m', by omega, hm'⟩ hk
                · exact hge
          exact this m' ⟨m', Nat.le_refl _, st'', hI', hs''⟩
        have hmu' := Classical.epsilon_spec least'
        exact Nat.lt_of_le_of_lt (hmu'.2 m' ⟨st'', hI', hs''⟩) hlt
      | _ => exact ⟨st', hq, hs'⟩
    exact key m0 st0 a w hI0 (hw0 c _ _ hs)
  | .exit id, Q, st, a, w, h, hs => wp_exit ⟨st, h, hs⟩
  | .ret, Q, st, a, w, h, hs => wp_ret ⟨st, h, hs⟩
  | .rangeFunc .., Q, st, a, w, h, hs => h.elim
  | .scope _, Q, st, a, w, h, hs => h.elim
  | .label _, Q, st, a, w, h, hs => h.elim
  | .goto _, Q, st, a, w, h, hs => h.elim
  | .refuse _, Q, st, a, w, h, hs => h.elim
end
end Go.Am
