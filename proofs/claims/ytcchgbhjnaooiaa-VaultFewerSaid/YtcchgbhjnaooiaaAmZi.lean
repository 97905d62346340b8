/-
  AM, part 10: drawn regions by short lists: each operation with its guard's name, without the rest of the region; what comes behind is a name.
-/
import Derived.Test.YtcchgbhjnaooiaaAmRun
namespace Go.Am
set_option linter.unusedVariables false
set_option linter.unusedSimpArgs false

structure ZIt where
  g : Option (Tmp × Bool)
  z : Nat
  op : Op
  dst : Option Tmp

inductive Its (ops : Array Oper) : List Nat → List ZIt → Prop
  | nil : Its ops [] []
  | plain {z : Nat} {d : Option Tmp} {op : Op} {ty : TypeId} {pos : String} {af : Array Edge} {zs : List Nat} {its : List ZIt} (h : ops[z]? = some ⟨d, op, ty, pos, af, none⟩) (t : Its ops zs its) : Its ops (z :: zs) (⟨none, z, op, d⟩ :: its)
  | guard {z : Nat} {d : Option Tmp} {op : Op} {ty : TypeId} {pos : String} {af : Array Edge} {g : Nat} {want : Bool} {gd : Tmp} {zs : List Nat} {its : List ZIt} (h : ops[z]? = some ⟨d, op, ty, pos, af, some (g, want)⟩) (hg : (ops[g]?).bind (·.dst) = some gd) (t : Its ops zs its) : Its ops (z :: zs) (⟨some (gd, want), z, op, d⟩ :: its)

section
variable (P : Program) (base : Nat) (hp0 : Hp)
def zI (F : Fr → Prop) : List ZIt → Fr → Prop
  | [], fr => F fr
  | ⟨none, z, op, d⟩ :: r, fr => zOp P hp0 fr base op fun v => zI F r (putFr fr d v)
  | ⟨some (t, want), z, op, d⟩ :: r, fr => match fv t fr with
    | .d (.bool b) => (b = want → zOp P hp0 fr base op fun v => zI F r (putFr fr d v)) ∧ (b = !want → zI F r (putFr fr d .any))
    | _ => False
def chI (F : Fr → Hp → Prop) : List ZIt → Nat → Fr → Hp → Prop
  | [], _, fr, hp => F fr hp
  | ⟨none, z, op, d⟩ :: r, m, fr, hp => opW P fr hp (base + z) op fun v hp' => (m ≠ 0 → SaW hp0 hp') ∧ chI F r (m - 1) (putFr fr d v) hp'
  | ⟨some (t, want), z, op, d⟩ :: r, m, fr, hp => match fv t fr with
    | .d (.bool b) => (b = want → opW P fr hp (base + z) op fun v hp' => (m ≠ 0 → SaW hp0 hp') ∧ chI F r (m - 1) (putFr fr d v) hp') ∧
        (b = !want → chI F r (m - 1) (putFr fr d .any) hp)
    | _ => False
end

theorem chI_eq {P : Program} {base : Nat} {hp0 : Hp} {ops : Array Oper} {K : Fr → Hp → Prop} {is : List Nat} {its : List ZIt} (h : Its ops is its) : ∀ (m : Nat) (fr : Fr) (hp : Hp), chW P ops base hp0 K is m fr hp = chI P base hp0 K its m fr hp := by
  induction h with
  | nil => intro m fr hp; rfl
  | plain h _ ih =>
    intro m fr hp
    simp only [chW, chI, h, ih]
  | @guard z d op ty pos af g want gd zs its h hg _ ih =>
    intro m fr hp
    simp only [chW, chI, h, hg, ih]
    cases fv gd fr with
    | d v => cases v <;> rfl
    | _ => rfl

theorem zI_eq {P : Program} {base : Nat} {hp0 : Hp} {ops : Array Oper} {K : Fr → Hp → Prop} {is : List Nat} {m : Nat} {zs : List Nat} {its : List ZIt} (h : Its ops zs its) : ∀ (fr : Fr), zW P ops base hp0 K is m zs fr = zI P base hp0 (fun fr => chW P ops base hp0 K is m fr hp0) its fr := by
  induction h with
  | nil => intro fr; rfl
  | plain h _ ih =>
    intro fr
    simp only [zW, zI, h, ih]
  | @guard z d op ty pos af g want gd zs its h hg _ ih =>
    intro fr
    simp only [zW, zI, h, hg, ih]
    cases fv gd fr with
    | d v => cases v <;> rfl
    | _ => rfl

theorem draw2 {P : Program} {n : Nat} {ops : Array Oper} {Q : Exit → St → Prop} {st : St} (zs is : List Nat) (m : Nat) {its jts : List ZIt} {k : Nat} (h1 : regB n ops zs is m = true) (h2 : P.follows .mixedOrders = true) (hk : ops.size = k) (hz : Its ops zs its) (hj : Its ops is jts)
    (h3 : ∀ F : Fr → Hp → Prop, (∀ fr hp, Q .normal ⟨fr, hp, st.nx + k⟩ → F fr hp) → zI P st.nx st.hp (fun fr => chI P st.nx st.hp F jts m fr st.hp) its st.fr) : DrW P n ops Q st := by
  subst hk
  refine draw_of zs is m h1 h2 ?_
  rw [zI_eq hz]
  have := h3 (fun fr hp => Q .normal ⟨fr, hp, st.nx + ops.size⟩) (fun fr hp h => h)
  refine cast ?_ this
  congr 1
  funext fr
  exact (chI_eq hj _ _ _).symm

section
variable (P : Program) (base : Nat) (hp0 : Hp) (F : Fr → Prop) (G : Fr → Hp → Prop) (fr : Fr) (hp : Hp) (m : Nat) (r : List ZIt)
def ZiK (dst : Option Tmp) (v : AV) (hp' : Hp) : Prop := zI P base hp0 F r (putFr fr dst v)
def ChiK (dst : Option Tmp) (v : AV) (hp' : Hp) : Prop := (m ≠ 0 → SaW hp0 hp') ∧ chI P base hp0 G r (m - 1) (putFr fr dst v) hp'
def zi1 (op : Op) (dst : Option Tmp) : Bool → Prop
  | true => opW P fr hp0 base op (ZiK P base hp0 F fr r dst)
  | false => ∃ v, Still P fr hp0 op v ∧ zI P base hp0 F r (putFr fr dst v)
theorem r_zi_o (op : Op) (dst : Option Tmp) : (zOp P hp0 fr base op fun v => zI P base hp0 F r (putFr fr dst v)) = zi1 P base hp0 F fr r op dst (stillKind P op) := by
  unfold zOp zi1
  cases stillKind P op
  · simp
  · simp only [if_true]; rfl
def ziG (op : Op) (dst : Option Tmp) (want : Bool) : AV → Prop
  | .d (.bool b) => (b = want → zi1 P base hp0 F fr r op dst (stillKind P op)) ∧ (b = !want → zI P base hp0 F r (putFr fr dst .any))
  | _ => False
def chG (op : Op) (dst : Option Tmp) (N : Nat) (want : Bool) : AV → Prop
  | .d (.bool b) => (b = want → opW P fr hp N op (ChiK P base hp0 G fr m r dst)) ∧ (b = !want → chI P base hp0 G r (m - 1) (putFr fr dst .any) hp)
  | _ => False
theorem r_zi0 : zI P base hp0 F [] fr = F fr := rfl
theorem r_zi1 (z : Nat) (op : Op) (d : Option Tmp) : zI P base hp0 F (⟨none, z, op, d⟩ :: r) fr = zi1 P base hp0 F fr r op d (stillKind P op) := by
  simp only [zI]; exact r_zi_o ..
theorem r_zi2 (t : Tmp) (want : Bool) (z : Nat) (op : Op) (d : Option Tmp) : zI P base hp0 F (⟨some (t, want), z, op, d⟩ :: r) fr = ziG P base hp0 F fr r op d want (fv t fr) := by
  simp only [zI, ziG, r_zi_o]
theorem r_zi_t (op : Op) (dst : Option Tmp) : zi1 P base hp0 F fr r op dst true = opW P fr hp0 base op (ZiK P base hp0 F fr r dst) := rfl
theorem r_zik (dst : Option Tmp) (v : AV) (hp' : Hp) : ZiK P base hp0 F fr r dst v hp' = zI P base hp0 F r (putFr fr dst v) := rfl
theorem r_zig_t (op : Op) (dst : Option Tmp) : ziG P base hp0 F fr r op dst true (.d (.bool true)) = zi1 P base hp0 F fr r op dst (stillKind P op) := by simp [ziG]
theorem r_zig_f (op : Op) (dst : Option Tmp) : ziG P base hp0 F fr r op dst false (.d (.bool false)) = zi1 P base hp0 F fr r op dst (stillKind P op) := by simp [ziG]
theorem r_zig_tf (op : Op) (dst : Option Tmp) : ziG P base hp0 F fr r op dst false (.d (.bool true)) = zI P base hp0 F r (putFr fr dst .any) := by simp [ziG]
theorem r_zig_ft (op : Op) (dst : Option Tmp) : ziG P base hp0 F fr r op dst true (.d (.bool false)) = zI P base hp0 F r (putFr fr dst .any) := by simp [ziG]
theorem r_zig_dt (p : Prop) [Decidable p] (op : Op) (dst : Option Tmp) : ziG P base hp0 F fr r op dst true (.d (.bool (decide p))) = ((p → zi1 P base hp0 F fr r op dst (stillKind P op)) ∧ (¬ p → zI P base hp0 F r (putFr fr dst .any))) := by simp [ziG]
theorem r_zig_df (p : Prop) [Decidable p] (op : Op) (dst : Option Tmp) : ziG P base hp0 F fr r op dst false (.d (.bool (decide p))) = ((¬ p → zi1 P base hp0 F fr r op dst (stillKind P op)) ∧ (p → zI P base hp0 F r (putFr fr dst .any))) := by simp [ziG]
theorem r_chi0 : chI P base hp0 G [] m fr hp = G fr hp := rfl
theorem r_chi1 (z : Nat) (op : Op) (d : Option Tmp) : chI P base hp0 G (⟨none, z, op, d⟩ :: r) m fr hp = opW P fr hp (base + z) op (ChiK P base hp0 G fr m r d) := rfl
theorem r_chi2 (t : Tmp) (want : Bool) (z : Nat) (op : Op) (d : Option Tmp) : chI P base hp0 G (⟨some (t, want), z, op, d⟩ :: r) m fr hp = chG P base hp0 G fr hp m r op d (base + z) want (fv t fr) := rfl
theorem r_chik (dst : Option Tmp) (v : AV) (hp' : Hp) : ChiK P base hp0 G fr m r dst v hp' = ((m ≠ 0 → SaW hp0 hp') ∧ chI P base hp0 G r (m - 1) (putFr fr dst v) hp') := rfl
theorem r_chg_t (op : Op) (dst : Option Tmp) (N : Nat) : chG P base hp0 G fr hp m r op dst N true (.d (.bool true)) = opW P fr hp N op (ChiK P base hp0 G fr m r dst) := by simp [chG]
theorem r_chg_f (op : Op) (dst : Option Tmp) (N : Nat) : chG P base hp0 G fr hp m r op dst N false (.d (.bool false)) = opW P fr hp N op (ChiK P base hp0 G fr m r dst) := by simp [chG]
theorem r_chg_tf (op : Op) (dst : Option Tmp) (N : Nat) : chG P base hp0 G fr hp m r op dst N false (.d (.bool true)) = chI P base hp0 G r (m - 1) (putFr fr dst .any) hp := by simp [chG]
theorem r_chg_ft (op : Op) (dst : Option Tmp) (N : Nat) : chG P base hp0 G fr hp m r op dst N true (.d (.bool false)) = chI P base hp0 G r (m - 1) (putFr fr dst .any) hp := by simp [chG]
theorem r_chg_dt (p : Prop) [Decidable p] (op : Op) (dst : Option Tmp) (N : Nat) : chG P base hp0 G fr hp m r op dst N true (.d (.bool (decide p))) = ((p → opW P fr hp N op (ChiK P base hp0 G fr m r dst)) ∧ (¬ p → chI P base hp0 G r (m - 1) (putFr fr dst .any) hp)) := by simp [chG]
theorem r_chg_df (p : Prop) [Decidable p] (op : Op) (dst : Option Tmp) (N : Nat) : chG P base hp0 G fr hp m r op dst N false (.d (.bool (decide p))) = ((¬ p → opW P fr hp N op (ChiK P base hp0 G fr m r dst)) ∧ (p → chI P base hp0 G r (m - 1) (putFr fr dst .any) hp)) := by simp [chG]
end
attribute [go_sem] r_zi0 r_zi1 r_zi2 r_zi_t r_zik r_zig_t r_zig_f r_zig_tf r_zig_ft r_zig_dt r_zig_df r_chi0 r_chi1 r_chi2 r_chik r_chg_t r_chg_f r_chg_tf r_chg_ft r_chg_dt r_chg_df
end Go.Am
