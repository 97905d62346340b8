/-
  AM, part 10: drawn regions by short lists: each operation with its guard's name, without the rest of the region; what comes behind is a name.
-/
import Derived.Test.YtnmnabagabejjaaGreatAmRun
import Derived.Test.YtnmnabagabejjaaGreatAmEff
namespace Go.Am
set_option linter.unusedVariables false
set_option linter.unusedSimpArgs false

structure ZIt where
  g : Option (Tmp × Bool)
  z : Nat
  op : Op
  dst : Option Tmp

inductive Its (ops : Array Oper) : List Nat → List ZIt → Prop
  | nil : Its ops [] []
  | plain {z : Nat} {d : Option Tmp} {op : Op} {ty : TypeId} {pos : String} {af : Array Edge} {zs : List Nat} {its : List ZIt} (h : ops[z]? = some ⟨d, op, ty, pos, af, none⟩) (t : Its ops zs its) : Its ops (z :: zs) (⟨none, z, op, d⟩ :: its)
  | guard {z : Nat} {d : Option Tmp} {op : Op} {ty : TypeId} {pos : String} {af : Array Edge} {g : Nat} {want : Bool} {gd : Tmp} {zs : List Nat} {its : List ZIt} (h : ops[z]? = some ⟨d, op, ty, pos, af, some (g, want)⟩) (hg : (ops[g]?).bind (·.dst) = some gd) (t : Its ops zs its) : Its ops (z :: zs) (⟨some (gd, want), z, op, d⟩ :: its)

section
variable (P : Program) (base : Nat) (hp0 : Hp)
def zI (F : Fr → Prop) : List ZIt → Fr → Prop
  | [], fr => F fr
  | ⟨none, z, op, d⟩ :: r, fr => zOp P hp0 fr base op fun v => zI F r (putFr fr d v)
  | ⟨some (t, want), z, op, d⟩ :: r, fr => match fv t fr with
    | .d (.bool b) => (b = want → zOp P hp0 fr base op fun v => zI F r (putFr fr d v)) ∧ (b = !want → zI F r (putFr fr d (.tup [])))
    | .tup [] => zI F r (putFr fr d (.tup []))
    | _ => False
def chI (F : Fr → Hp → Prop) : List (ZIt × List ZIt) → Nat → Fr → Hp → Prop
  | [], _, fr, hp => F fr hp
  | (⟨none, z, op, d⟩, zs) :: r, m, fr, hp => opW P fr hp (base + 32 * z) op fun v hp' => (m ≠ 0 → SaW hp0 hp') ∧ zI P base hp0 (fun fr => chI F r (m - 1) fr hp') zs (putFr fr d v)
  | (⟨some (t, want), z, op, d⟩, zs) :: r, m, fr, hp => match fv t fr with
    | .d (.bool b) => (b = want → opW P fr hp (base + 32 * z) op fun v hp' => (m ≠ 0 → SaW hp0 hp') ∧ zI P base hp0 (fun fr => chI F r (m - 1) fr hp') zs (putFr fr d v)) ∧
        (b = !want → zI P base hp0 (fun fr => chI F r (m - 1) fr hp) zs (putFr fr d (.tup [])))
    | .tup [] => zI P base hp0 (fun fr => chI F r (m - 1) fr hp) zs (putFr fr d (.tup []))
    | _ => False
end

inductive Jts (ops : Array Oper) : Segs → List (ZIt × List ZIt) → Prop
  | nil : Jts ops [] []
  | plain {z : Nat} {d : Option Tmp} {op : Op} {ty : TypeId} {pos : String} {af : Array Edge} {zs : List Nat} {its : List ZIt} {ss : Segs} {jts : List (ZIt × List ZIt)} (h : ops[z]? = some ⟨d, op, ty, pos, af, none⟩) (hz : Its ops zs its) (t : Jts ops ss jts) : Jts ops ((z, zs) :: ss) ((⟨none, z, op, d⟩, its) :: jts)
  | guard {z : Nat} {d : Option Tmp} {op : Op} {ty : TypeId} {pos : String} {af : Array Edge} {g : Nat} {want : Bool} {gd : Tmp} {zs : List Nat} {its : List ZIt} {ss : Segs} {jts : List (ZIt × List ZIt)} (h : ops[z]? = some ⟨d, op, ty, pos, af, some (g, want)⟩) (hg : (ops[g]?).bind (·.dst) = some gd) (hz : Its ops zs its) (t : Jts ops ss jts) : Jts ops ((z, zs) :: ss) ((⟨some (gd, want), z, op, d⟩, its) :: jts)

theorem zI_eq {P : Program} {base : Nat} {hp0 : Hp} {ops : Array Oper} {C : Fr → Prop} {zs : List Nat} {its : List ZIt} (h : Its ops zs its) : ∀ (fr : Fr), zW P ops base hp0 C zs fr = zI P base hp0 C its fr := by
  induction h with
  | nil => intro fr; rfl
  | plain h _ ih =>
    intro fr
    simp only [zW, zI, h, ih]
  | @guard z d op ty pos af g want gd zs its h hg _ ih =>
    intro fr
    simp only [zW, zI, h, hg, ih]
    cases fv gd fr with
    | d v => cases v <;> rfl
    | tup l => cases l <;> rfl
    | _ => rfl

theorem chI_eq {P : Program} {base : Nat} {hp0 : Hp} {ops : Array Oper} {K : Fr → Hp → Prop} {ss : Segs} {jts : List (ZIt × List ZIt)} (h : Jts ops ss jts) : ∀ (m : Nat) (fr : Fr) (hp : Hp), chW P ops base hp0 K ss m fr hp = chI P base hp0 K jts m fr hp := by
  induction h with
  | nil => intro m fr hp; rfl
  | plain h hz _ ih =>
    intro m fr hp
    simp only [chW, chI, h, ih, zI_eq hz]
  | @guard z d op ty pos af g want gd zs its ss jts h hg hz _ ih =>
    intro m fr hp
    simp only [chW, chI, h, hg, ih, zI_eq hz]
    cases fv gd fr with
    | d v => cases v <;> rfl
    | tup l => cases l <;> rfl
    | _ => rfl

theorem draw2 {P : Program} {n : Nat} {ops : Array Oper} {Q : Exit → St → Prop} {st : St} (zs : List Nat) (ss : Segs) (m : Nat) {its : List ZIt} {jts : List (ZIt × List ZIt)} {k : Nat} (h1 : regB n ops zs ss m = true) (h2 : P.follows .mixedOrders = true) (hk : ops.size = k) (hz : Its ops zs its) (hj : Jts ops ss jts)
    (h3 : ∀ F : Fr → Hp → Prop, (∀ fr hp, Q .normal ⟨fr, hp, st.nx + 32 * k⟩ → F fr hp) → zI P st.nx st.hp (fun fr => chI P st.nx st.hp F jts m fr st.hp) its st.fr) : DrW P n ops Q st := by
  subst hk
  refine .inl ⟨zs, ss, m, h1, h2, ?_⟩
  rw [zI_eq hz]
  have := h3 (fun fr hp => Q .normal ⟨fr, hp, st.nx + 32 * ops.size⟩) (fun fr hp h => h)
  refine cast ?_ this
  congr 1
  funext fr
  exact (chI_eq hj _ _ _).symm

section
variable (P : Program) (base : Nat) (hp0 : Hp) (F : Fr → Prop) (G : Fr → Hp → Prop) (fr : Fr) (hp : Hp) (m : Nat) (r : List ZIt) (q : List (ZIt × List ZIt)) (zs : List ZIt)
def ZiK (dst : Option Tmp) (v : AV) (hp' : Hp) : Prop := zI P base hp0 F r (putFr fr dst v)
def ChiK (dst : Option Tmp) (v : AV) (hp' : Hp) : Prop := (m ≠ 0 → SaW hp0 hp') ∧ zI P base hp0 (fun fr => chI P base hp0 G q (m - 1) fr hp') zs (putFr fr dst v)
def zi1 (op : Op) (dst : Option Tmp) : Bool → Prop
  | true => opW P fr hp0 base op (ZiK P base hp0 F fr r dst)
  | false => ∃ v, Still P fr hp0 op v ∧ zI P base hp0 F r (putFr fr dst v)
theorem r_zi_o (op : Op) (dst : Option Tmp) : (zOp P hp0 fr base op fun v => zI P base hp0 F r (putFr fr dst v)) = zi1 P base hp0 F fr r op dst (stillKind P op) := by
  unfold zOp zi1
  cases stillKind P op
  · simp
  · simp only [if_true]; rfl
def ziG (op : Op) (dst : Option Tmp) (want : Bool) : AV → Prop
  | .d (.bool b) => (b = want → zi1 P base hp0 F fr r op dst (stillKind P op)) ∧ (b = !want → zI P base hp0 F r (putFr fr dst (.tup [])))
  | .tup [] => zI P base hp0 F r (putFr fr dst (.tup []))
  | _ => False
def chG (op : Op) (dst : Option Tmp) (N : Nat) (want : Bool) : AV → Prop
  | .d (.bool b) => (b = want → opW P fr hp N op (ChiK P base hp0 G fr m q zs dst)) ∧ (b = !want → zI P base hp0 (fun fr => chI P base hp0 G q (m - 1) fr hp) zs (putFr fr dst (.tup [])))
  | .tup [] => zI P base hp0 (fun fr => chI P base hp0 G q (m - 1) fr hp) zs (putFr fr dst (.tup []))
  | _ => False
theorem r_zi0 : zI P base hp0 F [] fr = F fr := rfl
theorem r_zi1 (z : Nat) (op : Op) (d : Option Tmp) : zI P base hp0 F (⟨none, z, op, d⟩ :: r) fr = zi1 P base hp0 F fr r op d (stillKind P op) := by
  simp only [zI]; exact r_zi_o ..
theorem r_zi2 (t : Tmp) (want : Bool) (z : Nat) (op : Op) (d : Option Tmp) : zI P base hp0 F (⟨some (t, want), z, op, d⟩ :: r) fr = ziG P base hp0 F fr r op d want (fv t fr) := by
  simp only [zI, ziG, r_zi_o]
theorem r_zi_t (op : Op) (dst : Option Tmp) : zi1 P base hp0 F fr r op dst true = opW P fr hp0 base op (ZiK P base hp0 F fr r dst) := rfl
theorem r_zik (dst : Option Tmp) (v : AV) (hp' : Hp) : ZiK P base hp0 F fr r dst v hp' = zI P base hp0 F r (putFr fr dst v) := rfl
theorem r_zig_u (op : Op) (dst : Option Tmp) (want : Bool) : ziG P base hp0 F fr r op dst want (.tup []) = zI P base hp0 F r (putFr fr dst (.tup [])) := rfl
theorem r_zig_t (op : Op) (dst : Option Tmp) : ziG P base hp0 F fr r op dst true (.d (.bool true)) = zi1 P base hp0 F fr r op dst (stillKind P op) := by simp [ziG]
theorem r_zig_f (op : Op) (dst : Option Tmp) : ziG P base hp0 F fr r op dst false (.d (.bool false)) = zi1 P base hp0 F fr r op dst (stillKind P op) := by simp [ziG]
theorem r_zig_tf (op : Op) (dst : Option Tmp) : ziG P base hp0 F fr r op dst false (.d (.bool true)) = zI P base hp0 F r (putFr fr dst (.tup [])) := by simp [ziG]
theorem r_zig_ft (op : Op) (dst : Option Tmp) : ziG P base hp0 F fr r op dst true (.d (.bool false)) = zI P base hp0 F r (putFr fr dst (.tup [])) := by simp [ziG]
theorem r_zig_dt (p : Prop) [Decidable p] (op : Op) (dst : Option Tmp) : ziG P base hp0 F fr r op dst true (.d (.bool (decide p))) = ((p → zi1 P base hp0 F fr r op dst (stillKind P op)) ∧ (¬ p → zI P base hp0 F r (putFr fr dst (.tup [])))) := by simp [ziG]
theorem r_zig_df (p : Prop) [Decidable p] (op : Op) (dst : Option Tmp) : ziG P base hp0 F fr r op dst false (.d (.bool (decide p))) = ((¬ p → zi1 P base hp0 F fr r op dst (stillKind P op)) ∧ (p → zI P base hp0 F r (putFr fr dst (.tup [])))) := by simp [ziG]
theorem r_chi0 : chI P base hp0 G [] m fr hp = G fr hp := rfl
theorem r_chi1 (z : Nat) (op : Op) (d : Option Tmp) : chI P base hp0 G ((⟨none, z, op, d⟩, zs) :: q) m fr hp = opW P fr hp (base + 32 * z) op (ChiK P base hp0 G fr m q zs d) := rfl
theorem r_chi2 (t : Tmp) (want : Bool) (z : Nat) (op : Op) (d : Option Tmp) : chI P base hp0 G ((⟨some (t, want), z, op, d⟩, zs) :: q) m fr hp = chG P base hp0 G fr hp m q zs op d (base + 32 * z) want (fv t fr) := rfl
theorem r_chik (dst : Option Tmp) (v : AV) (hp' : Hp) : ChiK P base hp0 G fr m q zs dst v hp' = ((m ≠ 0 → SaW hp0 hp') ∧ zI P base hp0 (fun fr => chI P base hp0 G q (m - 1) fr hp') zs (putFr fr dst v)) := rfl
theorem r_chg_u (op : Op) (dst : Option Tmp) (N : Nat) (want : Bool) : chG P base hp0 G fr hp m q zs op dst N want (.tup []) = zI P base hp0 (fun fr => chI P base hp0 G q (m - 1) fr hp) zs (putFr fr dst (.tup [])) := rfl
theorem r_chg_t (op : Op) (dst : Option Tmp) (N : Nat) : chG P base hp0 G fr hp m q zs op dst N true (.d (.bool true)) = opW P fr hp N op (ChiK P base hp0 G fr m q zs dst) := by simp [chG]
theorem r_chg_f (op : Op) (dst : Option Tmp) (N : Nat) : chG P base hp0 G fr hp m q zs op dst N false (.d (.bool false)) = opW P fr hp N op (ChiK P base hp0 G fr m q zs dst) := by simp [chG]
theorem r_chg_tf (op : Op) (dst : Option Tmp) (N : Nat) : chG P base hp0 G fr hp m q zs op dst N false (.d (.bool true)) = zI P base hp0 (fun fr => chI P base hp0 G q (m - 1) fr hp) zs (putFr fr dst (.tup [])) := by simp [chG]
theorem r_chg_ft (op : Op) (dst : Option Tmp) (N : Nat) : chG P base hp0 G fr hp m q zs op dst N true (.d (.bool false)) = zI P base hp0 (fun fr => chI P base hp0 G q (m - 1) fr hp) zs (putFr fr dst (.tup [])) := by simp [chG]
theorem r_chg_dt (p : Prop) [Decidable p] (op : Op) (dst : Option Tmp) (N : Nat) : chG P base hp0 G fr hp m q zs op dst N true (.d (.bool (decide p))) = ((p → opW P fr hp N op (ChiK P base hp0 G fr m q zs dst)) ∧ (¬ p → zI P base hp0 (fun fr => chI P base hp0 G q (m - 1) fr hp) zs (putFr fr dst (.tup [])))) := by simp [chG]
theorem r_chg_df (p : Prop) [Decidable p] (op : Op) (dst : Option Tmp) (N : Nat) : chG P base hp0 G fr hp m q zs op dst N false (.d (.bool (decide p))) = ((¬ p → opW P fr hp N op (ChiK P base hp0 G fr m q zs dst)) ∧ (p → zI P base hp0 (fun fr => chI P base hp0 G q (m - 1) fr hp) zs (putFr fr dst (.tup [])))) := by simp [chG]
end
/-- Trees of orders, by short lists. -/
inductive TI where
  | done
  | alt (a b : TI)
  | step (it : ZIt) (zs : List ZIt) (keep : Bool) (t : TI)
section
variable (P : Program) (base : Nat) (hp0 : Hp) (F : Fr → Hp → Prop)
def tI : TI → Fr → Hp → Prop
  | .done, fr, hp => F fr hp
  | .alt a b, fr, hp => tI a fr hp ∧ tI b fr hp
  | .step ⟨none, z, op, d⟩ zs keep t, fr, hp => opW P fr hp (base + 32 * z) op fun v hp' => (keep = true → SaW hp0 hp') ∧ zI P base hp0 (fun fr => tI t fr hp') zs (putFr fr d v)
  | .step ⟨some (g, want), z, op, d⟩ zs keep t, fr, hp => match fv g fr with
    | .d (.bool b) => (b = want → opW P fr hp (base + 32 * z) op fun v hp' => (keep = true → SaW hp0 hp') ∧ zI P base hp0 (fun fr => tI t fr hp') zs (putFr fr d v)) ∧
        (b = !want → zI P base hp0 (fun fr => tI t fr hp) zs (putFr fr d (.tup [])))
    | .tup [] => zI P base hp0 (fun fr => tI t fr hp) zs (putFr fr d (.tup []))
    | _ => False
end
inductive Tts (ops : Array Oper) : Tr → TI → Prop
  | done : Tts ops .done .done
  | alt {a b : Tr} {x y : TI} (h : Tts ops a x) (h' : Tts ops b y) : Tts ops (.alt a b) (.alt x y)
  | plain {z : Nat} {d : Option Tmp} {op : Op} {ty : TypeId} {pos : String} {af : Array Edge} {zs : List Nat} {its : List ZIt} {t : Tr} {x : TI} {keep : Bool} (h : ops[z]? = some ⟨d, op, ty, pos, af, none⟩) (hz : Its ops zs its) (ht : Tts ops t x) : Tts ops (.step z zs keep t) (.step ⟨none, z, op, d⟩ its keep x)
  | guard {z : Nat} {d : Option Tmp} {op : Op} {ty : TypeId} {pos : String} {af : Array Edge} {g : Nat} {want : Bool} {gd : Tmp} {zs : List Nat} {its : List ZIt} {t : Tr} {x : TI} {keep : Bool} (h : ops[z]? = some ⟨d, op, ty, pos, af, some (g, want)⟩) (hg : (ops[g]?).bind (·.dst) = some gd) (hz : Its ops zs its) (ht : Tts ops t x) : Tts ops (.step z zs keep t) (.step ⟨some (gd, want), z, op, d⟩ its keep x)
theorem tI_eq {P : Program} {base : Nat} {hp0 : Hp} {ops : Array Oper} {K : Fr → Hp → Prop} {t : Tr} {x : TI} (h : Tts ops t x) : ∀ (fr : Fr) (hp : Hp), trW P ops base hp0 K t fr hp = tI P base hp0 K x fr hp := by
  induction h with
  | done => intro fr hp; rfl
  | alt _ _ ih1 ih2 => intro fr hp; simp only [trW, tI, ih1, ih2]
  | plain h hz _ ih =>
    intro fr hp
    simp only [trW, tI, h, ih, zI_eq hz]
  | @guard z d op ty pos af g want gd zs its t x keep h hg hz _ ih =>
    intro fr hp
    simp only [trW, tI, h, hg, ih, zI_eq hz]
    cases fv gd fr with
    | d v => cases v <;> rfl
    | tup l => cases l <;> rfl
    | _ => rfl
theorem draw3 {P : Program} {n : Nat} {ops : Array Oper} {Q : Exit → St → Prop} {st : St} (zs is za : List Nat) (t : Tr) (st' : St) {its : List ZIt} {x : TI} {k : Nat} (h1 : tregB n ops zs is za t = true) (h2 : P.follows .mixedOrders = true) (hk : ops.size = k) (hz : Its ops zs its) (hj : Tts ops t x)
    (h3 : ∀ F : Fr → Hp → Prop, (∀ fr hp, Wk ⟨fr, hp, st.nx + 32 * k⟩ st' → F fr hp) → zI P st.nx st.hp (fun fr => tI P st.nx st.hp F x fr st.hp) its st.fr) (hq : Q .normal st') : DrW P n ops Q st := by
  subst hk
  refine .inr ⟨zs, is, za, t, st', h1, h2, ?_, hq⟩
  rw [zI_eq hz]
  have := h3 (fun fr hp => Wk ⟨fr, hp, st.nx + 32 * ops.size⟩ st') (fun fr hp h => h)
  refine cast ?_ this
  congr 1
  funext fr
  exact (tI_eq hj _ _).symm
section
variable (P : Program) (base : Nat) (hp0 : Hp) (F : Fr → Hp → Prop) (fr : Fr) (hp : Hp)
def TiK (zs : List ZIt) (keep : Bool) (x : TI) (dst : Option Tmp) (v : AV) (hp' : Hp) : Prop := (keep = true → SaW hp0 hp') ∧ zI P base hp0 (fun fr => tI P base hp0 F x fr hp') zs (putFr fr dst v)
def tiG (zs : List ZIt) (keep : Bool) (x : TI) (op : Op) (dst : Option Tmp) (N : Nat) (want : Bool) : AV → Prop
  | .d (.bool b) => (b = want → opW P fr hp N op (TiK P base hp0 F fr zs keep x dst)) ∧ (b = !want → zI P base hp0 (fun fr => tI P base hp0 F x fr hp) zs (putFr fr dst (.tup [])))
  | .tup [] => zI P base hp0 (fun fr => tI P base hp0 F x fr hp) zs (putFr fr dst (.tup []))
  | _ => False
theorem r_ti0 : tI P base hp0 F .done fr hp = F fr hp := rfl
theorem r_tia (a b : TI) : tI P base hp0 F (.alt a b) fr hp = (tI P base hp0 F a fr hp ∧ tI P base hp0 F b fr hp) := rfl
theorem r_ti1 (z : Nat) (op : Op) (d : Option Tmp) (zs : List ZIt) (keep : Bool) (x : TI) : tI P base hp0 F (.step ⟨none, z, op, d⟩ zs keep x) fr hp = opW P fr hp (base + 32 * z) op (TiK P base hp0 F fr zs keep x d) := rfl
theorem r_ti2 (t : Tmp) (want : Bool) (z : Nat) (op : Op) (d : Option Tmp) (zs : List ZIt) (keep : Bool) (x : TI) : tI P base hp0 F (.step ⟨some (t, want), z, op, d⟩ zs keep x) fr hp = tiG P base hp0 F fr hp zs keep x op d (base + 32 * z) want (fv t fr) := rfl
theorem r_tik (zs : List ZIt) (keep : Bool) (x : TI) (dst : Option Tmp) (v : AV) (hp' : Hp) : TiK P base hp0 F fr zs keep x dst v hp' = ((keep = true → SaW hp0 hp') ∧ zI P base hp0 (fun fr => tI P base hp0 F x fr hp') zs (putFr fr dst v)) := rfl
theorem r_tig_u (zs : List ZIt) (keep : Bool) (x : TI) (op : Op) (dst : Option Tmp) (N : Nat) (want : Bool) : tiG P base hp0 F fr hp zs keep x op dst N want (.tup []) = zI P base hp0 (fun fr => tI P base hp0 F x fr hp) zs (putFr fr dst (.tup [])) := rfl
theorem r_tig_t (zs : List ZIt) (keep : Bool) (x : TI) (op : Op) (dst : Option Tmp) (N : Nat) : tiG P base hp0 F fr hp zs keep x op dst N true (.d (.bool true)) = opW P fr hp N op (TiK P base hp0 F fr zs keep x dst) := by simp [tiG]
theorem r_tig_f (zs : List ZIt) (keep : Bool) (x : TI) (op : Op) (dst : Option Tmp) (N : Nat) : tiG P base hp0 F fr hp zs keep x op dst N false (.d (.bool false)) = opW P fr hp N op (TiK P base hp0 F fr zs keep x dst) := by simp [tiG]
theorem r_tig_tf (zs : List ZIt) (keep : Bool) (x : TI) (op : Op) (dst : Option Tmp) (N : Nat) : tiG P base hp0 F fr hp zs keep x op dst N false (.d (.bool true)) = zI P base hp0 (fun fr => tI P base hp0 F x fr hp) zs (putFr fr dst (.tup [])) := by simp [tiG]
theorem r_tig_ft (zs : List ZIt) (keep : Bool) (x : TI) (op : Op) (dst : Option Tmp) (N : Nat) : tiG P base hp0 F fr hp zs keep x op dst N true (.d (.bool false)) = zI P base hp0 (fun fr => tI P base hp0 F x fr hp) zs (putFr fr dst (.tup [])) := by simp [tiG]
theorem r_tig_dt (p : Prop) [Decidable p] (zs : List ZIt) (keep : Bool) (x : TI) (op : Op) (dst : Option Tmp) (N : Nat) : tiG P base hp0 F fr hp zs keep x op dst N true (.d (.bool (decide p))) = ((p → opW P fr hp N op (TiK P base hp0 F fr zs keep x dst)) ∧ (¬ p → zI P base hp0 (fun fr => tI P base hp0 F x fr hp) zs (putFr fr dst (.tup [])))) := by simp [tiG]
theorem r_tig_df (p : Prop) [Decidable p] (zs : List ZIt) (keep : Bool) (x : TI) (op : Op) (dst : Option Tmp) (N : Nat) : tiG P base hp0 F fr hp zs keep x op dst N false (.d (.bool (decide p))) = ((¬ p → opW P fr hp N op (TiK P base hp0 F fr zs keep x dst)) ∧ (p → zI P base hp0 (fun fr => tI P base hp0 F x fr hp) zs (putFr fr dst (.tup [])))) := by simp [tiG]
end
attribute [go_sem] r_ti0 r_tia r_ti1 r_ti2 r_tik r_tig_u r_tig_t r_tig_f r_tig_tf r_tig_ft r_tig_dt r_tig_df
attribute [go_sem] r_zi0 r_zi1 r_zi2 r_zi_t r_zik r_zig_u r_zig_t r_zig_f r_zig_tf r_zig_ft r_zig_dt r_zig_df r_chi0 r_chi1 r_chi2 r_chik r_chg_u r_chg_t r_chg_f r_chg_tf r_chg_ft r_chg_dt r_chg_df

/-- A call of a function that is handed memory of one's own. -/
theorem cl_eff (prs : List (Nat × Nat)) {P : Program} {g : FuncId} {k : Nat} {hp0 : Hp} {args args0 : List AV} {hp : Hp} {N : Nat} {K : AV → Hp → Prop} {Q : AV → Hp → Prop} (h : RetsE P g k hp0 args0 Q)
    (hprs : prsB prs = true) (hlt : ∀ p, p ∈ prs → p.1 < k) (hall : ∀ p, p ∈ prs → ∃ b, lk p.2 hp = some b ∧ b.e ≠ 0)
    (hin : ∀ p, p ∈ hp0 → ∃ id b, lk p.1 prs = some id ∧ lk id hp = some b ∧ p.2 = b.ren (rho (swp prs) k))
    (hargs : args0 = AV.renL (rho (swp prs) k) args)
    (hK : ∀ r hp', Q r hp' → ∃ news, newsB prs news = true ∧ K (r.ren (rho (outP prs news N) (N + 31))) (outH prs news N hp' hp)) : ClW P g args hp N K :=
  .inl (callsA_eff prs h hprs hlt hall (fun i b0 hb => by
    obtain ⟨id, b, h1, h2, h3⟩ := hin _ (lk_mem hb)
    exact ⟨id, b, h1, h2, h3⟩) hargs hK)

/-- A round's end, by other ids. -/
theorem nextR_of {T : Type} {mk : T → St} {inv : T → Prop} {mu : T → Nat} {t : T} {Q : Exit → St → Prop} {st : St} (t' : T) (hI : inv t') (hm : mu t' < mu t) (prs : List (Nat × Nat)) (N : Nat) (hprs : prsB prs = true) (hlo : ∀ p, p ∈ prs → p.1 = p.2 ∨ 64 ≤ p.2) (hN : ∀ p, p ∈ prs → p.2 < N) (h64 : 64 ≤ N)
    (hw : Weak ⟨renF (rho prs N) st.fr, renH prs N st.hp, N + 1⟩ (mk t')) : LoopT mk inv mu t Q .normal st := nextW_of t' hI hm ((ren_wk prs N hprs hlo hN h64).trans (weak_wk hw))

/-- A contract whose result is the call's own, read. -/
theorem rets_of_E {P : Program} {g : FuncId} {args : List AV} {Q : AV → Hp → Prop} {Q' : AV → Prop} (h : RetsE P g 0 [] args Q) (hd : ∀ v, v ∈ args → v.deep) (hq : ∀ r hp', Q r hp' → ∃ r', Snap hp' (fun _ => True) r r' ∧ r'.deep ∧ Q' r') : Rets P g args Q' := by
  obtain ⟨h1, hk, h2⟩ := h
  refine ⟨h1, fun w S vs hS hl hv => ?_⟩
  have hH : Hand w S (fun _ => none) [] 0 := ⟨fun b hb => ⟨hS b hb, fun id blk g h => (by cases h)⟩, fun i j bi bj g h => (by cases h), fun i b h => (by cases h), fun i b h => (by cases h)⟩
  refine (h2 w S (fun _ => none) vs hH hl (fun i v x hi hx => deep_is (hd v (List.mem_of_getElem? hi)) (fun b hb => hb) (hv i v x hi hx))).mono fun e w' he => ?_
  obtain ⟨x, r, hp', U', σ', rfl, hQ, hr, hh, hx⟩ := he
  obtain ⟨r', hs, hdr, hQ'⟩ := hq r hp' hQ
  refine ⟨x, r', rfl, hQ', hdr, ⟨hr.os, hr.tape, hr.output, hr.size, fun b hb => hr.old b hb (fun ⟨id, blk, hc, _⟩ => by cases hc)⟩, snap_is (fun b hb => ?_) (fun id blk g _ hk hg => ?_) hr hs hx⟩
  · rcases hb.2 with h | h
    · rcases h with h | ⟨id, blk, hc, _⟩
      · exact .inl h
      · cases hc
    · exact .inr ⟨h, hb.1.1⟩
  · rcases hr.mine id blk g hk hg with h | h
    · obtain ⟨id, blk, hc, _⟩ := h
      cases hc
    · exact .inr ⟨h, blk_lt (hr.at hk hg)⟩

/-- A call ahead of which own rows are given up for good. -/
theorem callsA_drop (ids : List Nat) {P : Program} {g : FuncId} {args args' : List AV} {hp : Hp} {N : Nat} {K : AV → Hp → Prop} (h : CallsA P g args' (dropH ids hp) N K) (hl' : args.length = args'.length)
    (hs : ∀ (i : Nat) (v v' : AV), args[i]? = some v → args'[i]? = some v' → v' = v ∨ Snap hp (fun id => id ∈ ids) v v') : CallsA P g args hp N K := by
  refine ⟨h.1, fun c U σ w vs hr hN hl hv => ?_⟩
  obtain ⟨d1, d2⟩ := rel_drop ids hr
  refine (h.2 c U σ w vs d1 hN (hl.trans hl') (fun i v' x hi hx => ?_)).mono fun e w' he => ?_
  · have hlt : i < args.length := by have := (List.getElem?_eq_some_iff.1 hi).1; omega
    rcases hs i _ v' (List.getElem?_eq_getElem hlt) hi with e | hsn
    · rw [e]
      exact (hv i _ x (List.getElem?_eq_getElem hlt) hx).step d2
    · refine snap_is (fun b hb => d2.sub b hb) (fun id blk g hid hk hg => ⟨⟨blk_lt (hr.at hk hg), fun id' blk' g' hk' hg' e => ?_⟩, ?_⟩) hr hsn (hv i _ x (List.getElem?_eq_getElem hlt) hx)
      · subst e
        rw [lk_dropH] at hk'
        split at hk'
        · cases hk'
        · rename_i hn
          have := hr.inj id id' blk blk' g hk hk' hg hg'
          subst this
          exact hn (by simpa using hid)
      · rcases hr.mine id blk g hk hg with h | h
        · exact .inl (c.hM g h)
        · exact .inr h
  · obtain ⟨x, rfl, v, hp', σ', k1, k2, k3, k4⟩ := he
    exact ⟨x, rfl, v, hp', σ', k1, k2, d2.trans k3, k4⟩

theorem renL_deep1 (ρ : Nat → Nat) : ∀ (l : List AV), (∀ v, v ∈ l → v.deep1) → AV.renL ρ l = l
  | [], _ => by simp [AV.renL]
  | v :: r, h => by
    have h1 := h v (List.mem_cons_self ..)
    rw [AV.renL, renL_deep1 ρ r fun u hu => h u (List.mem_cons_of_mem _ hu)]
    cases v with
    | fn f cs => obtain rfl : cs = [] := h1; simp [AV.ren, AV.renL]
    | mth f cs => obtain rfl : cs = [] := h1; simp [AV.ren, AV.renL]
    | agg cs => exact h1.elim
    | tup cs => exact h1.elim
    | own => exact h1.elim
    | sub => exact h1.elim
    | ptr => exact h1.elim
    | mp => exact h1.elim
    | _ => simp [AV.ren]

/-- A call that is handed rows of one's own for good, and whose result is one's own. -/
theorem cl_effz (ids : List Nat) {P : Program} {g : FuncId} {args args' : List AV} {hp : Hp} {N : Nat} {K : AV → Hp → Prop} {Q : AV → Hp → Prop} (h : RetsE P g 0 [] args' Q) (hl' : args.length = args'.length)
    (hs : ∀ (i : Nat) (v v' : AV), args[i]? = some v → args'[i]? = some v' → Snap hp (fun id => id ∈ ids) v v') (hd : ∀ ρ, args' = AV.renL ρ args')
    (hK : ∀ r hp', Q r hp' → ∃ news, newsB [] news = true ∧ K (r.ren (rho (outP [] news N) (N + 31))) (outH [] news N hp' (dropH ids hp))) : ClW P g args hp N K :=
  .inl (callsA_drop ids (callsA_eff [] h rfl (by simp) (by simp) (by intro i b0 hb; cases hb) (hd _) hK) hl' fun i v v' h1 h2 => .inr (hs i v v' h1 h2))
end Go.Am
