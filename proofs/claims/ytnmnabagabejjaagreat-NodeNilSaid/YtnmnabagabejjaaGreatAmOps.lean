/-
  AM, part 2: the state, what each operation does to it, and that this is sound.
-/
import Derived.Test.YtnmnabagabejjaaGreatAm
namespace Go.Am
set_option linter.unusedVariables false

/-- The shape of a type. -/
inductive TK where
  | none
  | scal
  | str
  | slice (e : TypeId)
  | arr (n : Nat) (e : TypeId)
  | struct (fs : List (Nat × TypeId))
  deriving Inhabited

def tyk (P : Program) (t : TypeId) : TK :=
  match P.underlying t with
  | Option.none => .none
  | some (.struct fs) => .struct (fs.toList.map fun f => (f.offset, f.type))
  | some (.array n e) => .arr n e
  | some (.slice e) => .slice e
  | some .string => .str
  | some _ => .scal

/-- A one-cell value as an abstract one. -/
def ofV1 : Value → AV
  | .int k n => .d (.int k n)
  | .bool b => .d (.bool b)
  | .string s => .d (.str (s.data.toList.map fun c => (c.toNat : Int)))
  | .slice Option.none 0 0 => .nil
  | .pointer Option.none => .d .nilp
  | .nilFunc => .d .nilf
  | _ => .any

def ofV : Value → AV
  | .agg cs => if cs.all Value.oneCell' then .agg (cs.toList.map ofV1) else .any
  | v => ofV1 v

/-- The zero cells of a type. -/
def tz (P : Program) (t : TypeId) : List AV :=
  match (P.info? t).bind (·.zero) with
  | some v => v.cells.toList.map ofV1
  | Option.none => []

abbrev Fr := List (Nat × AV)

def fv (n : Nat) (fr : Fr) : AV := (lk n fr).getD .any

def ev (fr : Fr) : Operand → AV
  | .tmp t => fv t fr
  | .const v => ofV v
  | .func f => .fn f []
  | .global _ => .any

def AV.cells : AV → List AV
  | .agg cs => cs
  | v => [v]

/-- What a variable of a type reads as, out of cells. -/
def ldv (P : Program) (t : TypeId) (cells : List AV) : Option AV :=
  match tyk P t with
  | .none => Option.none
  | .arr _ _ | .struct _ => if P.cellsOf t ≤ cells.length then some (.agg (cells.take (P.cellsOf t))) else Option.none
  | _ => cells.head?

def setH (id : Nat) (b : Blk) : Hp → Hp
  | [] => []
  | (m, v) :: t => if m = id then (m, b) :: t else (m, v) :: setH id b t

section
variable {w : World} {S : Nat → Prop} {σ : Nat → Option Nat} {hp : Hp} {U : Nat → Prop}

theorem dis_one {d : DV} {v : Value} (h : DIs w S d v) : v.oneCell' = true := by cases h <;> rfl

theorem ofV1_is (v : Value) : AIs w S σ hp U (ofV1 v) v := by
  unfold ofV1
  split
  · exact .d (.int _ _)
  · exact .d (.bool _)
  · exact .d (.str _)
  · exact .nil
  · exact .d .nilp
  · exact .d .nilf
  · exact .any _

theorem ofV_is (v : Value) : AIs w S σ hp U (ofV v) v := by
  unfold ofV
  split
  · rename_i cs
    split
    · rename_i h
      refine .agg _ _ (by simp) (fun i x hx => ?_) (fun i c x hc hx => ?_)
      · grind
      grind [Option.map_eq_some_iff, ofV1_is]
    · exact .any _
  · exact ofV1_is _

theorem ev_is {fr : Fr} {a : Act} (h : ∀ n, AIs w S σ hp U (fv n fr) (a.tmps.getD n undef)) (x : Operand) : AIs w S σ hp U (ev fr x) (a.eval x) := by
  cases x with
  | tmp t => exact h t
  | const v => exact ofV_is v
  | func f => exact .fn f [] #[] rfl (by simp)
  | global g => exact .any _

theorem Step.refl : Step w S σ hp U w S σ hp U := ⟨fun _ h => h, fun _ _ => rfl, fun _ h => h, fun id b' _ h => ⟨b', h, rfl, rfl, Nat.le_refl _, fun _ g hg => ⟨hg, fun _ h => h⟩⟩⟩

theorem Step.trans {w1 w2 : World} {S1 S2 : Nat → Prop} {σ1 σ2 : Nat → Option Nat} {hp1 hp2 : Hp} {U1 U2 : Nat → Prop} (h : Step w S σ hp U w1 S1 σ1 hp1 U1) (k : Step w1 S1 σ1 hp1 U1 w2 S2 σ2 hp2 U2) : Step w S σ hp U w2 S2 σ2 hp2 U2 := by
  refine ⟨fun b hb => k.sub b (h.sub b hb), fun p hp => (k.cell p (h.sub _ hp)).trans (h.cell p hp), fun i hi => k.le i (h.le i hi), fun id b' hid hb' => ?_⟩
  obtain ⟨b1, h1, e1, t1, l1, q1⟩ := k.blk id b' (h.le _ hid) hb'
  obtain ⟨b0, h0, e0, t0, l0, q0⟩ := h.blk id b1 hid h1
  grind
end

/-- An operation may take 32 ids. -/
def unite (U : Nat → Prop) (N : Nat) (i : Nat) : Prop := U i ∨ (N ≤ i ∧ i < N + 32)
def Free (U : Nat → Prop) (N : Nat) : Prop := ∀ i, N ≤ i → i < N + 32 → ¬ U i
theorem Free.at {U : Nat → Prop} {N : Nat} (h : Free U N) : ¬ U N := h N (Nat.le_refl _) (by omega)
theorem unite_N {U : Nat → Prop} {N : Nat} : unite U N N := .inr ⟨Nat.le_refl _, by omega⟩

/-- What an operation's end must be: a value and a new memory of which K holds. N: the id that it may take for a new block. -/
def Good (c : Ctx) (K : AV → Hp → Prop) (hp : Hp) (U : Nat → Prop) (N : Nat) (σ : Nat → Option Nat) (w : World) (x : Value) (w' : World) : Prop :=
  ∃ v hp' σ', K v hp' ∧ Rel c hp' (unite U N) σ' w' ∧ Step w (Sof c w σ hp) σ hp U w' (Sof c w' σ' hp') σ' hp' (unite U N) ∧ AIs w' (Sof c w' σ' hp') σ' hp' (unite U N) v x

def OpOk (P : Program) (c : Ctx) (K : AV → Hp → Prop) (hp : Hp) (U : Nat → Prop) (N : Nat) (σ : Nat → Option Nat) (w : World) : Result Next → Prop
  | .ok (.value x) w' => Good c K hp U N σ w x w'
  | .ok .skip w' => Good c K hp U N σ w undef w'
  | .ok (.enter f args) w' => w' = w ∧ Calls P f args w fun e w' => ∃ x, e = .returned x ∧ Good c K hp U N σ w x w'
  | _ => False

section
variable {P : Program} {c : Ctx} {K : AV → Hp → Prop} {hp : Hp} {U : Nat → Prop} {N : Nat} {σ : Nat → Option Nat} {w : World}

theorem Step.more {S : Nat → Prop} : Step w S σ hp U w S σ hp (unite U N) := ⟨fun _ h => h, fun _ _ => rfl, fun _ h => .inl h, fun id b' _ h => ⟨b', h, rfl, rfl, Nat.le_refl _, fun _ g hg => ⟨hg, fun _ h => h⟩⟩⟩

theorem Rel.more (hr : Rel c hp U σ w) : Rel c hp (unite U N) σ w := by
  refine ⟨hr.inj, fun i b h => .inl (hr.lt i b h), fun i b h => ?_, hr.mine, hr.os, hr.tape, hr.output, hr.size, hr.old⟩
  rcases hr.blk i b h with h0 | ⟨g, hg, ccs, h1, h2, h3, h4, h5⟩
  · exact .inl h0
  · exact .inr ⟨g, hg, ccs, h1, h2, h3, h4, fun i j x y v a1 a2 a3 => (h5 i j x y v a1 a2 a3).step Step.more⟩

theorem Good.same (hr : Rel c hp U σ w) {v : AV} {x : Value} (hK : K v hp) (h : AIs w (Sof c w σ hp) σ hp U v x) : Good c K hp U N σ w x w :=
  ⟨v, hp, σ, hK, hr.more, Step.more, h.step Step.more⟩

theorem OpOk.val {r : Result Next} {x : Value} (h : r = .ok (.value x) w) (g : Good c K hp U N σ w x w) : OpOk P c K hp U N σ w r := by
  subst h; exact g
end

/-- From where one began to here. -/
def Hist (c : Ctx) (hp : Hp) (U : Nat → Prop) (σ : Nat → Option Nat) (w : World) : Prop := Step c.w0 c.Sx c.σx c.hpx (fun i => i < c.kx) w (Sof c w σ hp) σ hp U

/-- The state and the frame. -/
def SimU (c : Ctx) (fr : Fr) (hp : Hp) (U : Nat → Prop) (a : Act) (w : World) : Prop :=
  a.defers = [] ∧ a.tmps.size = c.n ∧ ∃ σ, Rel c hp U σ w ∧ (∀ n, AIs w (Sof c w σ hp) σ hp U (fv n fr) (a.tmps.getD n undef)) ∧ Hist c hp U σ w

def putFr (fr : Fr) (dst : Option Tmp) (v : AV) : Fr :=
  match dst with
  | some d => (d, v) :: fr
  | none => fr

def dstOk (n : Nat) : Option Tmp → Prop
  | some d => d < n
  | none => True

theorem fv_cons (d n : Nat) (v : AV) (fr : Fr) : fv n ((d, v) :: fr) = if d = n then v else fv n fr := by
  grind [fv, lk]

theorem sim_put {c : Ctx} {fr : Fr} {hp hp' : Hp} {U U' : Nat → Prop} {a : Act} {w w' : World} {σ σ' : Nat → Option Nat} {dst : Option Tmp} {v : AV} {x : Value}
    (hd : a.defers = []) (hn : a.tmps.size = c.n) (hdst : dstOk c.n dst)
    (hf : ∀ n, AIs w (Sof c w σ hp) σ hp U (fv n fr) (a.tmps.getD n undef))
    (hh : Hist c hp U σ w) (hr : Rel c hp' U' σ' w') (hs : Step w (Sof c w σ hp) σ hp U w' (Sof c w' σ' hp') σ' hp' U') (hv : AIs w' (Sof c w' σ' hp') σ' hp' U' v x) :
    SimU c (putFr fr dst v) hp' U' (a.put dst x) w' := by
  cases dst with
  | none => exact ⟨hd, hn, σ', hr, fun n => (hf n).step hs, hh.trans hs⟩
  | some d =>
    refine ⟨hd, by simp [Act.put, hn], σ', hr, fun n => ?_, hh.trans hs⟩
    simp only [putFr, Act.put, fv_cons]
    have hdn : d < a.tmps.size := by rw [hn]; exact hdst
    by_cases h : d = n
    · simp_all
    · simp only [if_neg h]
      have : (a.tmps.setIfInBounds d x).getD n undef = a.tmps.getD n undef := by
        simp_all
      rw [this]
      exact (hf n).step hs

/-- From an operation to the walk. -/
theorem upon_ok {P : Program} {c : Ctx} {fr : Fr} {hp : Hp} {U : Nat → Prop} {N : Nat} {a : Act} {w : World} {σ : Nat → Option Nat} {o : Oper} {K : AV → Hp → Prop} {next : Act → World → Prop} {Q : Exit → Act → World → Prop} {r : Result Next}
    (hd : a.defers = []) (hn : a.tmps.size = c.n) (hdst : dstOk c.n o.dst)
    (hf : ∀ n, AIs w (Sof c w σ hp) σ hp U (fv n fr) (a.tmps.getD n undef)) (hh : Hist c hp U σ w)
    (h : OpOk P c K hp U N σ w r)
    (hnext : ∀ v hp' a' w', K v hp' → SimU c (putFr fr o.dst v) hp' (unite U N) a' w' → next a' w') :
    o.upon P a next Q r := by
  have key : ∀ x w', Good c K hp U N σ w x w' → next (a.put o.dst x) w' := by
    rintro x w' ⟨v, hp', σ', hK, hr, hs, hv⟩
    exact hnext v hp' _ w' hK (sim_put hd hn hdst hf hh hr hs hv)
  cases r with
  | halt e w' => exact h.elim
  | ok n w' =>
    cases n with
    | value x => exact key x w' h
    | skip => exact key undef w' h
    | enter f args =>
      obtain ⟨rfl, h⟩ := h
      refine h.mono fun e w' he => ?_
      grind
    | _ => exact h.elim

end Go.Am
