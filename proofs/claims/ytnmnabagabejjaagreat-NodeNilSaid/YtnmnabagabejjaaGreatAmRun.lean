/-
  AM, part 9: the equations by which simp runs it.
-/
import Derived.Test.YtnmnabagabejjaaGreatAmFn
namespace Go.Am
set_option linter.unusedVariables false

def SqK (P : Program) (n : Nat) (y : Code) (Q : Exit → St → Prop) : Exit → St → Prop := SeqK (awp P n y Q) Q
def RgK (P : Program) (n : Nat) (ops : Array Oper) (rest : List Oper) (K : St → Prop) (fr : Fr) (nx : Nat) (dst : Option Tmp) : AV → Hp → Prop := OpK (opsW P n ops rest K) fr nx dst
def LpW (P : Program) (n : Nat) (x : Code) (Q : Exit → St → Prop) (st : St) : Prop := loopW (awp P n x) Q st
/-- A call. -/
def ClW (P : Program) (g : FuncId) (args : List AV) (hp : Hp) (N : Nat) (K : AV → Hp → Prop) : Prop := CallsA P g args hp N K ∨ ExtW P g args hp K

section
variable (P : Program) (n : Nat) (Q : Exit → St → Prop) (fr : Fr) (hp : Hp) (nx : Nat) (st : St) (K : AV → Hp → Prop) (KS : St → Prop)

theorem r_seq (x y : Code) : awp P n (.seq x y) Q st = awp P n x (SqK P n y Q) st := rfl
theorem r_skip : awp P n .skip Q st = Q .normal st := rfl
theorem r_ret : awp P n .ret Q st = Q .ret st := rfl
theorem r_exit (i : Nat) : awp P n (.exit i) Q st = Q (.exit i) st := rfl
theorem r_block (i : Nat) (x : Code) : awp P n (.block i x) Q st = awp P n x (BlockK i Q) st := rfl
theorem r_region (i : Nat) (ops : Array Oper) : awp P n (.region i ops false) Q st = opsW P n ops ops.toList (NormK Q) st := rfl
/-- A region whose order the tape picks. -/
def DrW (P : Program) (n : Nat) (ops : Array Oper) (Q : Exit → St → Prop) (st : St) : Prop := (∃ zs ss m, regB n ops zs ss m = true ∧ P.follows .mixedOrders = true ∧ zW P ops st.nx st.hp (fun fr => chW P ops st.nx st.hp (fun fr hp => Q .normal ⟨fr, hp, st.nx + 32 * ops.size⟩) ss m fr st.hp) zs st.fr) ∨
  ∃ zs is za t st', tregB n ops zs is za t = true ∧ P.follows .mixedOrders = true ∧ zW P ops st.nx st.hp (fun fr => trW P ops st.nx st.hp (fun fr hp => Wk ⟨fr, hp, st.nx + 32 * ops.size⟩ st') t fr st.hp) zs st.fr ∧ Q .normal st'
theorem r_draw (i : Nat) (ops : Array Oper) : awp P n (.region i ops true) Q st = DrW P n ops Q st := rfl
theorem r_loop (x : Code) : awp P n (.loop x) Q st = LpW P n x Q st := rfl
def condW (v : AV) (A B : Prop) : Prop :=
  match v with
  | .d (.bool b) => (b = true → A) ∧ (b = false → B)
  | _ => False
def CdK (P : Program) (n : Nat) (x : Code) (Q : Exit → St → Prop) (st : St) : Prop := awp P n x Q st
def cndW (P : Program) (n : Nat) (v : AV) (x y : Code) (Q : Exit → St → Prop) (st : St) : Prop :=
  match v with
  | .d (.bool b) => (b = true → awp P n x Q st) ∧ (b = false → awp P n y Q st)
  | _ => False
theorem r_cond (c : Operand) (x y : Code) : awp P n (.cond c x y) Q st = cndW P n (ev st.fr c) x y Q st := rfl
theorem r_cnd_t (x y : Code) : cndW P n (.d (.bool true)) x y Q st = awp P n x Q st := by simp [cndW]
theorem r_cnd_f (x y : Code) : cndW P n (.d (.bool false)) x y Q st = awp P n y Q st := by simp [cndW]
theorem r_cnd_d (p : Prop) [Decidable p] (x y : Code) : cndW P n (.d (.bool (decide p))) x y Q st = ((p → awp P n x Q st) ∧ (¬ p → awp P n y Q st)) := by simp [cndW]
theorem r_cnd_n (p : Prop) [Decidable p] (x y : Code) : cndW P n (.d (.bool (!decide p))) x y Q st = ((¬ p → awp P n x Q st) ∧ (p → awp P n y Q st)) := by simp [cndW]

theorem r_sq_n (y : Code) : SqK P n y Q .normal st = awp P n y Q st := rfl
theorem r_sq_r (y : Code) : SqK P n y Q .ret st = Q .ret st := rfl
theorem r_sq_e (y : Code) (i : Nat) : SqK P n y Q (.exit i) st = Q (.exit i) st := rfl
theorem r_bl_n (i : Nat) : BlockK i Q .normal st = Q .normal st := rfl
theorem r_bl_r (i : Nat) : BlockK i Q .ret st = Q .ret st := rfl
theorem r_bl_e (i j : Nat) : BlockK i Q (.exit j) st = if j = i then Q .normal st else Q (.exit j) st := rfl
theorem r_norm : NormK Q st = Q .normal st := rfl
theorem r_lp_r (I : Nat → St → Prop) (m : Nat) : LoopK I m Q .ret st = Q .ret st := rfl
theorem r_lp_e (I : Nat → St → Prop) (m i : Nat) : LoopK I m Q (.exit i) st = Q (.exit i) st := rfl

theorem r_nil (ops : Array Oper) : opsW P n ops [] KS st = KS st := rfl
theorem r_cons (ops : Array Oper) (dst : Option Tmp) (op : Op) (ty : TypeId) (pos : String) (af : Array Edge) (rest : List Oper) :
    opsW P n ops (⟨dst, op, ty, pos, af, none⟩ :: rest) KS ⟨fr, hp, nx⟩ = (dstOk n dst ∧ opW P fr hp nx op (RgK P n ops rest KS fr nx dst)) := rfl
def grdW (P : Program) (n : Nat) (ops : Array Oper) (v : AV) (want : Bool) (dst : Option Tmp) (op : Op) (rest : List Oper) (KS : St → Prop) (fr : Fr) (hp : Hp) (nx : Nat) : Prop :=
  match v with
  | .d (.bool b) => dstOk n dst ∧ (b = want → opW P fr hp nx op (RgK P n ops rest KS fr nx dst)) ∧ (b = !want → RgK P n ops rest KS fr nx dst (.tup []) hp)
  | .tup [] => dstOk n dst ∧ RgK P n ops rest KS fr nx dst (.tup []) hp
  | _ => False
theorem r_guard (ops : Array Oper) (dst : Option Tmp) (op : Op) (ty : TypeId) (pos : String) (af : Array Edge) (j : Nat) (want : Bool) (rest : List Oper) :
    opsW P n ops (⟨dst, op, ty, pos, af, some (j, want)⟩ :: rest) KS ⟨fr, hp, nx⟩ =
      (match (ops[j]?).bind (·.dst) with
      | some d => grdW P n ops (fv d fr) want dst op rest KS fr hp nx
      | none => False) := by
  simp only [opsW]
  cases (ops[j]?).bind (·.dst) with
  | none => rfl
  | some d =>
    simp only [grdW]
    generalize fv d fr = v
    cases v with
    | d dv => cases dv <;> rfl
    | tup l => cases l <;> rfl
    | _ => rfl
theorem r_g_u (ops : Array Oper) (want : Bool) (dst : Option Tmp) (op : Op) (rest : List Oper) : grdW P n ops (.tup []) want dst op rest KS fr hp nx = (dstOk n dst ∧ RgK P n ops rest KS fr nx dst (.tup []) hp) := rfl
theorem r_g_t (ops : Array Oper) (dst : Option Tmp) (op : Op) (rest : List Oper) : grdW P n ops (.d (.bool true)) true dst op rest KS fr hp nx = (dstOk n dst ∧ opW P fr hp nx op (RgK P n ops rest KS fr nx dst)) := by simp [grdW]
theorem r_g_f (ops : Array Oper) (dst : Option Tmp) (op : Op) (rest : List Oper) : grdW P n ops (.d (.bool false)) false dst op rest KS fr hp nx = (dstOk n dst ∧ opW P fr hp nx op (RgK P n ops rest KS fr nx dst)) := by simp [grdW]
theorem r_g_tf (ops : Array Oper) (dst : Option Tmp) (op : Op) (rest : List Oper) : grdW P n ops (.d (.bool true)) false dst op rest KS fr hp nx = (dstOk n dst ∧ RgK P n ops rest KS fr nx dst (.tup []) hp) := by simp [grdW]
theorem r_g_ft (ops : Array Oper) (dst : Option Tmp) (op : Op) (rest : List Oper) : grdW P n ops (.d (.bool false)) true dst op rest KS fr hp nx = (dstOk n dst ∧ RgK P n ops rest KS fr nx dst (.tup []) hp) := by simp [grdW]
theorem r_g_dt (p : Prop) [Decidable p] (ops : Array Oper) (dst : Option Tmp) (op : Op) (rest : List Oper) : grdW P n ops (.d (.bool (decide p))) true dst op rest KS fr hp nx = (dstOk n dst ∧ (p → opW P fr hp nx op (RgK P n ops rest KS fr nx dst)) ∧ (¬ p → RgK P n ops rest KS fr nx dst (.tup []) hp)) := by simp [grdW]
theorem r_g_df (p : Prop) [Decidable p] (ops : Array Oper) (dst : Option Tmp) (op : Op) (rest : List Oper) : grdW P n ops (.d (.bool (decide p))) false dst op rest KS fr hp nx = (dstOk n dst ∧ (¬ p → opW P fr hp nx op (RgK P n ops rest KS fr nx dst)) ∧ (p → RgK P n ops rest KS fr nx dst (.tup []) hp)) := by simp [grdW]
theorem r_rg (ops : Array Oper) (rest : List Oper) (dst : Option Tmp) (v : AV) (hp' : Hp) : RgK P n ops rest KS fr nx dst v hp' = opsW P n ops rest KS ⟨putFr fr dst v, hp', nx + 32⟩ := rfl

theorem r_put (d : Nat) (v : AV) : putFr fr (some d) v = (d, v) :: fr := rfl
theorem r_put0 (v : AV) : putFr fr none v = fr := rfl
theorem r_dst (d : Nat) : dstOk n (some d) = (d < n) := rfl
theorem r_dst0 : dstOk n none = True := rfl
theorem r_tmp (t : Nat) : ev fr (.tmp t) = fv t fr := rfl
theorem r_const (v : Value) : ev fr (.const v) = ofV v := rfl
theorem r_func (f : FuncId) : ev fr (.func f) = .fn f [] := rfl
theorem r_fv (d m : Nat) (v : AV) : fv m ((d, v) :: fr) = if d = m then v else fv m fr := fv_cons d m v fr
theorem r_fv0 (m : Nat) : fv m [] = .any := rfl
theorem r_lk {α : Type} (m k : Nat) (v : α) (t : List (Nat × α)) : lk k ((m, v) :: t) = if m = k then some v else lk k t := rfl
theorem r_lk0 {α : Type} (k : Nat) : lk k ([] : List (Nat × α)) = none := rfl
theorem r_setH (id m : Nat) (b v : Blk) (t : Hp) : setH id b ((m, v) :: t) = if m = id then (m, b) :: t else (m, v) :: setH id b t := rfl
theorem r_vi (k : IntKind) (i : Int) : ofV (.int k i) = .d (.int k i) := rfl
theorem r_vb (b : Bool) : ofV (.bool b) = .d (.bool b) := rfl
theorem r_vs : ofV (.slice none 0 0) = .nil := rfl
theorem r_vstr (s : ByteArray) : ofV (.string s) = .d (.str (s.data.toList.map fun c => (c.toNat : Int))) := rfl
theorem r_vp : ofV (.pointer none) = .d .nilp := rfl
theorem r_vf : ofV .nilFunc = .d .nilf := rfl

theorem r_move (x : Operand) : opW P fr hp nx (.move x) K = K (ev fr x) hp := rfl
theorem r_assign (x : Operand) : opW P fr hp nx (.assign x) K = K (ev fr x) hp := rfl
def pickW (c a b : AV) (K : AV → Hp → Prop) (hp : Hp) : Prop :=
  match c with
  | .d (.bool t) =>
    (match a, b with
    | .d (.bool x), .d (.bool y) => K (.d (.bool (if t then x else y))) hp
    | va, vb => (t = true → K va hp) ∧ (t = false → K vb hp))
  | _ => False
theorem r_pick (c a b : Operand) : opW P fr hp nx (.pick c a b) K = pickW (ev fr c) (ev fr a) (ev fr b) K hp := by
  simp only [opW, pickW]
  rfl
theorem r_pick_t (a b : AV) : pickW (.d (.bool true)) a b K hp = K a hp := by
  unfold pickW; dsimp only; split <;> simp
theorem r_pick_f (a b : AV) : pickW (.d (.bool false)) a b K hp = K b hp := by
  unfold pickW; dsimp only; split <;> simp
theorem r_pick_bb (t x y : Bool) : pickW (.d (.bool t)) (.d (.bool x)) (.d (.bool y)) K hp = K (.d (.bool (if t then x else y))) hp := rfl
theorem r_pick_a (t : Bool) (x : Bool) : pickW (.d (.bool t)) (.d (.bool x)) .any K hp = ((t = true → K (.d (.bool x)) hp) ∧ (t = false → K .any hp)) := rfl
theorem r_pick_u (t : Bool) (x : Bool) : pickW (.d (.bool t)) (.d (.bool x)) (.tup []) K hp = ((t = true → K (.d (.bool x)) hp) ∧ (t = false → K (.tup []) hp)) := rfl
theorem r_bin (op : BinOp) (t t' : TypeId) (x y : Operand) : opW P fr hp nx (.binOp op t x y t') K = binW P op t (ev fr x) (ev fr y) K hp := rfl
theorem r_b_add (t : TypeId) (k : IntKind) (x y : Int) : binW P .add t (.d (.int k x)) (.d (.int k y)) K hp = K (.d (.int k (k.wrap (x + y)))) hp := by simp [binW, binW0, ibin]
theorem r_b_sub (t : TypeId) (k : IntKind) (x y : Int) : binW P .sub t (.d (.int k x)) (.d (.int k y)) K hp = K (.d (.int k (k.wrap (x - y)))) hp := by simp [binW, binW0, ibin]
theorem r_b_mul (t : TypeId) (k : IntKind) (x y : Int) : binW P .mul t (.d (.int k x)) (.d (.int k y)) K hp = K (.d (.int k (k.wrap (x * y)))) hp := by simp [binW, binW0, ibin]
theorem r_b_quo (t : TypeId) (k : IntKind) (x y : Int) : binW P .quo t (.d (.int k x)) (.d (.int k y)) K hp = (y ≠ 0 ∧ K (.d (.int k (k.wrap (x.tdiv y)))) hp) := by simp [binW, binW0, ibin]
theorem r_b_rem (t : TypeId) (k : IntKind) (x y : Int) : binW P .rem t (.d (.int k x)) (.d (.int k y)) K hp = (y ≠ 0 ∧ K (.d (.int k (x.tmod y))) hp) := by simp [binW, binW0, ibin]
theorem r_b_and (t : TypeId) (k : IntKind) (x y : Int) : binW P .and t (.d (.int k x)) (.d (.int k y)) K hp = K (.d (.int k (bits .and k x y))) hp := by simp [binW, binW0, ibin]
theorem r_b_or (t : TypeId) (k : IntKind) (x y : Int) : binW P .or t (.d (.int k x)) (.d (.int k y)) K hp = K (.d (.int k (bits .or k x y))) hp := by simp [binW, binW0, ibin]
theorem r_b_xor (t : TypeId) (k : IntKind) (x y : Int) : binW P .xor t (.d (.int k x)) (.d (.int k y)) K hp = K (.d (.int k (bits .xor k x y))) hp := by simp [binW, binW0, ibin]
theorem r_b_andNot (t : TypeId) (k : IntKind) (x y : Int) : binW P .andNot t (.d (.int k x)) (.d (.int k y)) K hp = K (.d (.int k (bits .andNot k x y))) hp := by simp [binW, binW0, ibin]
theorem r_b_shl (t : TypeId) (k k' : IntKind) (x y : Int) : binW P .shl t (.d (.int k x)) (.d (.int k' y)) K hp = (0 ≤ y ∧ K (.d (.int k (k.wrap (x * 2 ^ (min y.toNat k.bits))))) hp) := by simp [binW, binW0, ibin, isShift]
theorem r_b_shr (t : TypeId) (k k' : IntKind) (x y : Int) : binW P .shr t (.d (.int k x)) (.d (.int k' y)) K hp = (0 ≤ y ∧ K (.d (.int k (x.fdiv (2 ^ (min y.toNat k.bits))))) hp) := by simp [binW, binW0, ibin, isShift]
theorem r_b_eql (t : TypeId) (k : IntKind) (x y : Int) : binW P .eql t (.d (.int k x)) (.d (.int k y)) K hp = K (.d (.bool (decide (x = y)))) hp := by simp [binW, binW0, ibin]
theorem r_b_neq (t : TypeId) (k : IntKind) (x y : Int) : binW P .neq t (.d (.int k x)) (.d (.int k y)) K hp = K (.d (.bool (!decide (x = y)))) hp := by simp [binW, binW0, ibin]
theorem r_b_lss (t : TypeId) (k : IntKind) (x y : Int) : binW P .lss t (.d (.int k x)) (.d (.int k y)) K hp = K (.d (.bool (decide (x < y)))) hp := by simp [binW, binW0, ibin]
theorem r_b_leq (t : TypeId) (k : IntKind) (x y : Int) : binW P .leq t (.d (.int k x)) (.d (.int k y)) K hp = K (.d (.bool (decide (x ≤ y)))) hp := by simp [binW, binW0, ibin]
theorem r_b_gtr (t : TypeId) (k : IntKind) (x y : Int) : binW P .gtr t (.d (.int k x)) (.d (.int k y)) K hp = K (.d (.bool (decide (y < x)))) hp := by simp [binW, binW0, ibin]
theorem r_b_geq (t : TypeId) (k : IntKind) (x y : Int) : binW P .geq t (.d (.int k x)) (.d (.int k y)) K hp = K (.d (.bool (decide (y ≤ x)))) hp := by simp [binW, binW0, ibin]

theorem r_b_pn1 (op : BinOp) (t : TypeId) (a b c d : Nat) : binW P op t (.ptr a b c d) (.d .nilp) K hp = pnW P op t false K hp := rfl
theorem r_b_pn2 (op : BinOp) (t : TypeId) (cs : List DV) : binW P op t (.rop cs) (.d .nilp) K hp = pnW P op t false K hp := rfl
theorem r_b_pn3 (op : BinOp) (t : TypeId) : binW P op t (.d .nilp) (.d .nilp) K hp = pnW P op t true K hp := rfl
theorem r_b_fn1 (op : BinOp) (t : TypeId) (f : FuncId) (cs : List AV) : binW P op t (.fn f cs) (.d .nilf) K hp = fnW P op t false K hp := rfl
theorem r_b_fn2 (op : BinOp) (t : TypeId) (f : FuncId) (cs : List AV) : binW P op t (.mth f cs) (.d .nilf) K hp = fnW P op t false K hp := rfl
theorem r_b_fn3 (op : BinOp) (t : TypeId) : binW P op t (.d .nilf) (.d .nilf) K hp = fnW P op t true K hp := rfl
def agK (P : Program) (op : BinOp) (t : TypeId) (k : TK) (a b : List AV) (K : AV → Hp → Prop) (hp : Hp) : Prop :=
  match k with
  | .arr n el => agW P op t n el (ikind P el) a b K hp
  | .struct _ => sgW P op t a b K hp
  | _ => False
theorem r_b_ag (op : BinOp) (t : TypeId) (a b : List AV) : binW P op t (.agg a) (.agg b) K hp = agK P op t (tyk P t) a b K hp := by
  simp only [binW, agK]
  cases tyk P t <;> rfl
def agO (P : Program) (op : BinOp) (t : TypeId) (n : Nat) (el : TypeId) (us vs : Option (List Int)) (K : AV → Hp → Prop) (hp : Hp) : Prop :=
  match us, vs with
  | some us, some vs => us.length = n ∧ vs.length = n ∧ P.cellsOf el = 1 ∧ P.eqGuardType P.depth t = false ∧ (match op with
      | .eql => K (.d (.bool (decide (us = vs)))) hp
      | .neq => K (.d (.bool (!decide (us = vs)))) hp
      | _ => False)
  | _, _ => False
theorem r_ag (op : BinOp) (t : TypeId) (n : Nat) (el : TypeId) (k : IntKind) (a b : List AV) : agW P op t n el (some k) a b K hp = agO P op t n el (intsOf k a) (intsOf k b) K hp := by
  simp only [agW, agO]
  cases intsOf k a <;> cases intsOf k b <;> rfl
/-- Whether two structs of numbers and truths are equal. -/
def sgR (P : Program) (op : BinOp) (t : TypeId) (ks : Option (List (Option IntKind))) (us vs : Option (List L1)) (K : AV → Hp → Prop) (hp : Hp) : Prop :=
  match us, vs with
  | some us, some vs => P.eqGuardType P.depth t = false ∧ ks = some (us.map L1.k) ∧ ks = some (vs.map L1.k) ∧ (match op with
      | .eql => K (.d (.bool (decide (us = vs)))) hp
      | .neq => K (.d (.bool (!decide (us = vs)))) hp
      | _ => False)
  | _, _ => False
theorem r_sg (op : BinOp) (t : TypeId) (a b : List AV) : sgW P op t a b K hp = sgR P op t (kindsOf P 8 t) (litsOf a) (litsOf b) K hp := by
  simp only [sgW, sgR]
  cases litsOf a <;> cases litsOf b <;> rfl
theorem lits_ints (k : IntKind) (us : List Int) (r : List AV) : litsOf (us.map (fun m => AV.d (.int k m)) ++ r) = (litsOf r).map (us.map (L1.i k) ++ ·) := by
  induction us with
  | nil => cases h : litsOf r <;> simp [h]
  | cons u us ih => simp [litsOf, ih, Option.map_map, Function.comp_def]
theorem lits_map (k : IntKind) (us : List Int) : litsOf (us.map fun m => AV.d (.int k m)) = some (us.map (L1.i k)) := by
  have := lits_ints k us []
  simpa [litsOf] using this
theorem ints_map (k : IntKind) (us : List Int) : intsOf k (us.map fun m => AV.d (.int k m)) = some us := by
  induction us with
  | nil => rfl
  | cons u r ih => simp [intsOf, ih]
def idO (o : Option AV) (K : AV → Hp → Prop) (hp : Hp) : Prop :=
  match o with
  | some v => K v hp
  | none => False
def idS (o : Option Int) (K : AV → Hp → Prop) (hp : Hp) : Prop :=
  match o with
  | some b => K (.d (.int .u8 b)) hp
  | none => False
def idX (P : Program) (k : TK) (el : TypeId) (cs : List AV) (m : Int) (K : AV → Hp → Prop) (hp : Hp) : Prop :=
  match k with
  | .scal => P.cellsOf el = 1 ∧ idO cs[m.toNat]? K hp
  | .slice _ => P.cellsOf el = 1 ∧ idO cs[m.toNat]? K hp
  | .arr _ _ => P.cellsOf el ≠ 0 ∧ idO (ldv P el (cs.drop (m.toNat * P.cellsOf el))) K hp
  | _ => False
def idW (P : Program) (k : TK) (x i : AV) (K : AV → Hp → Prop) (hp : Hp) : Prop :=
  match k, x, i with
  | .arr n el, .agg cs, .d (.int _ m) => 0 ≤ m ∧ m < n ∧ idX P (tyk P el) el cs m K hp
  | .str, .d (.str bs), .d (.int _ m) => 0 ≤ m ∧ idS bs[m.toNat]? K hp
  | _, _, _ => False
theorem r_index (t : TypeId) (x i : Operand) : opW P fr hp nx (.index t x i) K = idW P (tyk P t) (ev fr x) (ev fr i) K hp := rfl
def unW (op : UnOp) (v : AV) (K : AV → Hp → Prop) (hp : Hp) : Prop :=
  match op, v with
  | .not, .d (.bool b) => K (.d (.bool (!b))) hp
  | .neg, .d (.int k n) => K (.d (.int k (k.wrap (0 - n)))) hp
  | .xor, .d (.int k n) => K (.d (.int k (bits .xor k (if k.signed then -1 else k.max) n))) hp
  | _, _ => False
theorem r_un (op : UnOp) (t : TypeId) (x : Operand) : opW P fr hp nx (.unOp op t x) K = unW op (ev fr x) K hp := by
  cases op <;> simp only [opW, unW] <;> split <;> simp_all
def nilW (v : AV) (K : AV → Hp → Prop) (hp : Hp) : Prop :=
  match v with
  | .ptr id i off tot => K (.ptr id i off tot) hp
  | .rop cs => K (.rop cs) hp
  | .fn f cs => K (.fn f cs) hp
  | .mth f cs => K (.mth f cs) hp
  | _ => False
theorem r_nilc (x : Operand) : opW P fr hp nx (.nilCheck x) K = nilW (ev fr x) K hp := rfl
def exW (v : AV) (i : Nat) (K : AV → Hp → Prop) (hp : Hp) : Prop :=
  match v with
  | .tup vs => (match vs[i]? with
    | some v => K v hp
    | none => False)
  | _ => False
theorem r_ex (x : Operand) (i : Nat) : opW P fr hp nx (.extract x i) K = exW (ev fr x) i K hp := rfl
/-- The kind of an integer type. -/
def cvS (P : Program) (s t : TypeId) (es : List (List DV)) (K : AV → Hp → Prop) (hp : Hp) : Prop :=
  ∃ bs : List Int, es = bs.map (fun b => [.int .u8 b]) ∧ (∀ b, b ∈ bs → 0 ≤ b ∧ b < 256) ∧ (match tyk P s, tyk P t with
      | .slice el, .str => P.underlying el = some (.int .u8) ∧ K (.d (.str bs)) hp
      | _, _ => False)
def cvB (P : Program) (bs : List Int) (a b : TK) (K : AV → Hp → Prop) (hp : Hp) : Prop :=
  match a, b with
  | .str, .slice el => P.underlying el = some (.int .u8) ∧ K (.d (.ro 1 (bs.map fun b => [.int .u8 b]))) hp
  | _, _ => False
def cvO (P : Program) (s t : TypeId) (xs : Option (List (List AV))) (K : AV → Hp → Prop) (hp : Hp) : Prop :=
  ∃ bs : List Int, xs = some (bs.map fun b => [.d (.int .u8 b)]) ∧ (∀ b, b ∈ bs → 0 ≤ b ∧ b < 256) ∧ (match tyk P s, tyk P t with
      | .slice el, .str => P.underlying el = some (.int .u8) ∧ K (.d (.str bs)) hp
      | _, _ => False)
def cvW (P : Program) (s t : TypeId) (v : AV) (K : AV → Hp → Prop) (hp : Hp) : Prop :=
  match v with
  | .d (.int _ n) => (match (P.underlying s).isSome, ikind P t with
    | true, some k => K (.d (.int k (k.wrap n))) hp
    | _, _ => False)
  | .d (.ro 1 es) => cvS P s t es K hp
  | .d (.str bs) => cvB P bs (tyk P s) (tyk P t) K hp
  | v => cvO P s t (rowsOf hp 1 v) K hp
theorem r_cv (s t : TypeId) (x : Operand) : opW P fr hp nx (.convert s t x) K = cvW P s t (ev fr x) K hp := by
  simp only [opW, cvW, ikind]
  generalize ev fr x = v
  cases v with
  | d dv =>
    cases dv with
    | int k n =>
      cases P.underlying s <;> cases hu : P.underlying t with
      | none => simp
      | some d => cases d <;> simp
    | ro e es =>
      match e with
      | 0 => rfl
      | 1 => rfl
      | _ + 2 => rfl
    | str bs => cases tyk P s <;> cases tyk P t <;> rfl
    | _ => rfl
  | _ => rfl
def ldO (o : Option AV) (K : AV → Hp → Prop) (hp : Hp) : Prop :=
  match o with
  | some v => K v hp
  | none => False
def ldR (P : Program) (t : TypeId) (row : Option (List AV)) (ntot tot off : Nat) (K : AV → Hp → Prop) (hp : Hp) : Prop :=
  match row with
  | some row => ntot = tot ∧ ldO (ldv P t (row.drop off)) K hp
  | none => False
def ldB (P : Program) (t : TypeId) (b : Option Blk) (i off tot : Nat) (K : AV → Hp → Prop) (hp : Hp) : Prop :=
  match b with
  | some b => ldR P t b.es[i]? b.es.length tot off K hp
  | none => False
def ldW (P : Program) (t : TypeId) (v : AV) (K : AV → Hp → Prop) (hp : Hp) : Prop :=
  match v with
  | .ptr id i off tot => ldB P t (lk id hp) i off tot K hp
  | .rop cs => ldO (ldv P t (cs.map .d)) K hp
  | _ => False
theorem r_ld (t : TypeId) (x : Operand) : opW P fr hp nx (.load t x) K = ldW P t (ev fr x) K hp := rfl
def ldvK (P : Program) (t : TypeId) (k : TK) (cells : List AV) : Option AV :=
  match k with
  | .none => Option.none
  | .arr _ _ => if P.cellsOf t ≤ cells.length then some (.agg (cells.take (P.cellsOf t))) else Option.none
  | .struct _ => if P.cellsOf t ≤ cells.length then some (.agg (cells.take (P.cellsOf t))) else Option.none
  | .scal => cells.head?
  | .str => cells.head?
  | .slice _ => cells.head?
theorem r_ldv (t : TypeId) (cells : List AV) : ldv P t cells = ldvK P t (tyk P t) cells := by
  unfold ldv ldvK
  cases tyk P t <;> rfl
def faO (P : Program) (v : AV) (o : Option (Nat × TypeId)) (K : AV → Hp → Prop) (hp : Hp) : Prop :=
  match v, o with
  | .ptr id j off tot, some (o, ft) => P.cellsOf ft ≠ 0 ∧ K (.ptr id j (off + o) tot) hp
  | .rop cs, some (o, ft) => P.cellsOf ft ≠ 0 ∧ K (.rop (cs.drop o)) hp
  | _, _ => False
def fldK (k : TK) (i : Nat) : Option (Nat × TypeId) :=
  match k with
  | .struct fs => fs[i]?
  | _ => none
theorem r_fa (t : TypeId) (x : Operand) (i : Nat) : opW P fr hp nx (.fieldAddr t x i) K = faO P (ev fr x) (fldK (tyk P t) i) K hp := by
  simp only [opW, fieldOff, fldK, faO]
  generalize ev fr x = v
  cases v <;> cases tyk P t <;> rfl
def fdO (P : Program) (v : AV) (o : Option (Nat × TypeId)) (K : AV → Hp → Prop) (hp : Hp) : Prop :=
  match v, o with
  | .agg cs, some (o, ft) => ldO (ldv P ft (cs.drop o)) K hp
  | _, _ => False
theorem r_fd (t : TypeId) (x : Operand) (i : Nat) : opW P fr hp nx (.field t x i) K = fdO P (ev fr x) (fldK (tyk P t) i) K hp := by
  simp only [opW, fieldOff, fldK, fdO]
  generalize ev fr x = v
  cases v <;> cases tyk P t <;> rfl
def ixO (cs : Option (List DV)) (K : AV → Hp → Prop) (hp : Hp) : Prop :=
  match cs with
  | some cs => K (.rop cs) hp
  | none => False
def ixB (b : Option Blk) (id i off e el tot : Nat) (row : Bool) (K : AV → Hp → Prop) (hp : Hp) : Prop :=
  match b, row with
  | some b, true => b.es.length = tot ∧ b.e = el ∧ el ≠ 0 ∧ K (.ptr id i 0 tot) hp
  | some b, false => b.es.length = tot ∧ e = el ∧ el ≠ 0 ∧ K (.ptr id i off tot) hp
  | none, _ => False
def ixW (P : Program) (ix v : AV) (k : TK) (K : AV → Hp → Prop) (hp : Hp) : Prop :=
  match ix, v, k with
  | .d (.int _ n), .d (.ro e es), .slice el => 0 ≤ n ∧ e = P.cellsOf el ∧ P.cellsOf el ≠ 0 ∧ ixO es[n.toNat]? K hp
  | .d (.int _ n), .own id i0 len tot, .slice el => 0 ≤ n ∧ n < len ∧ ixB (lk id hp) id (i0 + n.toNat) 0 0 (P.cellsOf el) tot true K hp
  | .d (.int _ n), .sub id i off e len _ tot, .slice el => 0 ≤ n ∧ n < len ∧ ixB (lk id hp) id i (off + n.toNat * e) e (P.cellsOf el) tot false K hp
  | .d (.int _ n), .ptr id i off tot, .arr len el => 0 ≤ n ∧ n < len ∧ P.cellsOf el ≠ 0 ∧ K (.ptr id i (off + n.toNat * P.cellsOf el) tot) hp
  | .d (.int _ n), .rop cs, .arr len el => 0 ≤ n ∧ n < len ∧ P.cellsOf el ≠ 0 ∧ K (.rop (cs.drop (n.toNat * P.cellsOf el))) hp
  | _, _, _ => False
theorem r_ix (t : TypeId) (x ix : Operand) : opW P fr hp nx (.indexAddr t x ix) K = ixW P (ev fr ix) (ev fr x) (tyk P t) K hp := by
  simp only [opW, ixW]
  generalize ev fr ix = u
  generalize ev fr x = v
  cases u with
  | d dv =>
    cases dv with
    | int k n =>
      cases v with
      | d dv => cases dv <;> cases tyk P t <;> rfl
      | own id i0 len tot => cases tyk P t <;> first | rfl | (simp only; cases lk id hp <;> rfl)
      | sub id i off e len cap tot => cases tyk P t <;> first | rfl | (simp only; cases lk id hp <;> rfl)
      | _ => cases tyk P t <;> rfl
    | _ => rfl
  | _ => rfl
def alW (t : TypeId) (z : Option (List AV)) (nx : Nat) (K : AV → Hp → Prop) (hp : Hp) : Prop :=
  match z with
  | some cs => K (.ptr nx 0 0 1) ((nx, ⟨t, cs.length, [cs]⟩) :: hp)
  | none => False
theorem r_al (t : TypeId) : opW P fr hp nx (.alloc t) K = alW t (tzO P t) nx K hp := rfl
def bdO (P : Program) (k : TK) (z : Option (List AV)) (ps : List (Nat × AV)) (K : AV → Hp → Prop) (hp : Hp) : Prop :=
  match z with
  | some z => buildW P k z ps K hp
  | none => False
theorem r_bd (t : TypeId) (parts : Array (Nat × Operand)) : opW P fr hp nx (.build t parts) K = bdO P (tyk P t) (tzO P t) (parts.toList.map fun p => (p.1, ev fr p.2)) K hp := rfl
def fillO (o : Option (List AV)) (K : AV → Hp → Prop) (hp : Hp) : Prop :=
  match o with
  | some cs => K (.agg cs) hp
  | none => False
theorem r_bd_s (fs : List (Nat × TypeId)) (z : List AV) (ps : List (Nat × AV)) : buildW P (.struct fs) z ps K hp = ((∀ f, f ∈ fs → P.cellsOf f.2 ≠ 0) ∧ fillO (fillA (structPlace P fs) z ps) K hp) := rfl
theorem r_bd_a (n : Nat) (el : TypeId) (z : List AV) (ps : List (Nat × AV)) : buildW P (.arr n el) z ps K hp = (P.cellsOf el ≠ 0 ∧ fillO (fillA (fun i => some (i * P.cellsOf el, P.cellsOf el)) z ps) K hp) := rfl
def bsR (el : TypeId) (e len nx : Nat) (o : Option (List (List AV))) (K : AV → Hp → Prop) (hp : Hp) : Prop :=
  match o with
  | some rows => K (.own nx 0 len len) ((nx, ⟨el, e, rows⟩) :: hp)
  | none => False
def bsO (P : Program) (el : TypeId) (len : Nat) (z : Option (List AV)) (ps : List (Nat × AV)) (nx : Nat) (K : AV → Hp → Prop) (hp : Hp) : Prop :=
  match z with
  | some z => len * P.cellsOf el ≤ 16777216 ∧ bsR el (P.cellsOf el) len nx (fillR (P.cellsOf el) (List.replicate len z) ps) K hp
  | none => False
def bsW (P : Program) (k : TK) (len : Nat) (ps : List (Nat × AV)) (nx : Nat) (K : AV → Hp → Prop) (hp : Hp) : Prop :=
  match k with
  | .slice el => bsO P el len (tzO P el) ps nx K hp
  | _ => False
theorem r_bs (t : TypeId) (len : Nat) (parts : Array (Nat × Operand)) : opW P fr hp nx (.buildSlice t len parts) K = bsW P (tyk P t) len (parts.toList.map fun p => (p.1, ev fr p.2)) nx K hp := by
  simp only [opW, buildSliceW, bsW]
  cases tyk P t <;> rfl
theorem r_sl (t : TypeId) (x : Operand) (lo hi : Option Operand) : opW P fr hp nx (.slice t x lo hi none) K = sliceW P (tyk P t) (ev fr x) (bnd fr 0 lo) (bnd fr ((ev fr x).topLen (tyk P t)) hi) K hp := rfl
theorem r_sl3 (t : TypeId) (x m : Operand) (lo hi : Option Operand) : opW P fr hp nx (.slice t x lo hi (some m)) K = slice3W P (tyk P t) (ev fr x) (bnd fr 0 lo) (bndO fr hi) (ev fr m).num K hp := rfl
theorem r_bndO (x : Operand) : bndO fr (some x) = (ev fr x).num := rfl
theorem r_sl3_ro (el : TypeId) (l h m : Int) (e : Nat) (es : List (List DV)) : slice3W P (.slice el) (.d (.ro e es)) (some l) (some h) (some m) K hp = (P.cellsOf el ≠ 0 ∧ e = P.cellsOf el ∧ 0 ≤ l ∧ l ≤ h ∧ h = m ∧ h ≤ es.length ∧ K (.d (.rof e ((es.take h.toNat).drop l.toNat))) hp) := rfl
theorem r_sl3_nil (el : TypeId) (l h m : Int) : slice3W P (.slice el) .nil (some l) (some h) (some m) K hp = (P.cellsOf el ≠ 0 ∧ l = 0 ∧ h = 0 ∧ m = 0 ∧ K (.d (.rof (P.cellsOf el) [])) hp) := rfl
theorem r_sl3_own (el : TypeId) (id i0 len tot : Nat) (l h m : Int) : slice3W P (.slice el) (.own id i0 len tot) (some l) (some h) (some m) K hp = (P.cellsOf el ≠ 0 ∧ l = 0 ∧ h = 0 ∧ m = 0 ∧ K (.d (.rof (P.cellsOf el) [])) hp) := rfl
def mkO (P : Program) (el : TypeId) (z : Option (List AV)) (n c : Int) (nx : Nat) (K : AV → Hp → Prop) (hp : Hp) : Prop :=
  match z with
  | some z => 0 ≤ n ∧ n ≤ c ∧ c * P.cellsOf el ≤ 16777216 ∧ P.bytesOf el * c ≤ 281474976710656 ∧ c ≤ 9223372036854775807 ∧ K (.own nx 0 n.toNat n.toNat) ((nx, ⟨el, P.cellsOf el, List.replicate n.toNat z⟩) :: hp)
  | none => False
theorem r_mk (t : TypeId) (l m : Operand) : opW P fr hp nx (.makeSlice t l m) K = makeW P (tyk P t) (ev fr l) (ev fr m) nx K hp := rfl
theorem r_mk1 (el : TypeId) (k1 k2 : IntKind) (n c : Int) : makeW P (.slice el) (.d (.int k1 n)) (.d (.int k2 c)) nx K hp = mkO P el (tzO P el) n c nx K hp := rfl
theorem r_arr (t : TypeId) (x : Operand) : opW P fr hp nx (.sliceToArrayPointer t x) K = arrW (tyk P t) (ev fr x) K hp := rfl
theorem r_arr2 (n : Nat) (el : TypeId) (id i off e len cap tot : Nat) : arrW (.arr n el) (.sub id i off e len cap tot) K hp = (match lk id hp with
    | some b => b.es.length = tot ∧ 0 < n ∧ n ≤ len ∧ K (.ptr id i off tot) hp
    | none => False) := rfl
theorem r_arr1 (n : Nat) (el : TypeId) (es : List (List DV)) : arrW (.arr n el) (.d (.ro 1 es)) K hp = (0 < n ∧ n ≤ es.length ∧ K (.rop es.flatten) hp) := rfl
theorem r_cp (s x : Operand) (t u : TypeId) : opW P fr hp nx (.call ⟨.builtin .copy, #[s, x], #[t, u]⟩) K = biW P fr hp nx .copy [s, x] [t, u] K := rfl
def cpB (P : Program) (el : TypeId) (b : Option Blk) (id i0 len tot : Nat) (xs : List (List AV)) (K : AV → Hp → Prop) (hp : Hp) : Prop :=
  match b with
  | some b => b.es.length = tot ∧ b.e = 1 ∧ P.cellsOf el = 1 ∧ K (.d (.int .i64 (min len xs.length : Nat))) (setH id ⟨b.ty, b.e, b.es.take i0 ++ (xs.take len ++ b.es.drop (i0 + min len xs.length))⟩ hp)
  | none => False
theorem r_cp1 (el : TypeId) (id i0 len tot : Nat) (xs : List (List AV)) : copyW P el (.own id i0 len tot) (some xs) K hp = cpB P el (lk id hp) id i0 len tot xs K hp := by
  simp only [copyW, cpB]
  cases lk id hp <;> rfl
theorem drows_inj : ∀ {a b : List (List DV)}, a.map (fun r => r.map AV.d) = b.map (fun r => r.map AV.d) → a = b := by
  have one : ∀ {x y : List DV}, x.map AV.d = y.map AV.d → x = y := by
    intro x
    induction x with
    | nil => intro y h; cases y with
      | nil => rfl
      | cons _ _ => simp at h
    | cons u x ih => intro y h; cases y with
      | nil => simp at h
      | cons v y => simp at h; rw [h.1, ih (by simpa using h.2)]
  intro a
  induction a with
  | nil => intro b h; cases b with
    | nil => rfl
    | cons _ _ => simp at h
  | cons u a ih => intro b h; cases b with
    | nil => simp at h
    | cons v b =>
      rw [List.map_cons, List.map_cons] at h
      injection h with h1 h2
      rw [one h1, ih h2]
def apS (P : Program) (el : TypeId) (o : Option (List (List AV))) (len cap : Nat) (xs : List (List AV)) (nx : Nat) (K : AV → Hp → Prop) (hp : Hp) : Prop :=
  cap < len + xs.length ∧ (tzO P el).isSome = true ∧ P.bytesOf el ≠ 0 ∧ (len + xs.length) * P.bytesOf el ≤ 140737488355328 ∧
      (match o with
      | some rs => K (.own nx 0 (len + xs.length) (len + xs.length)) ((nx, ⟨el, P.cellsOf el, rs ++ xs⟩) :: hp)
      | none => False)
theorem r_ap_sub (el : TypeId) (xs : List (List AV)) (id i off e len cap tot : Nat) : appendW P el (.sub id i off e len cap tot) (some xs) nx K hp = apS P el (rowsOf hp (P.cellsOf el) (.sub id i off e len cap tot)) len cap xs nx K hp := by
  simp only [appendW, apS]
  generalize rowsOf hp (P.cellsOf el) (.sub id i off e len cap tot) = o
  cases o <;> rfl
/-- One of two ways to go on, as one likes. -/
def EitherK (A B : Prop) : Prop := A ∨ B
theorem r_ap_rof (el : TypeId) (e : Nat) (es ds : List (List DV)) : appendW P el (.d (.rof e es)) (some (ds.map fun r => r.map AV.d)) nx K hp = (e = P.cellsOf el ∧ (tzO P el).isSome = true ∧ P.bytesOf el ≠ 0 ∧ (es.length + ds.length) * P.bytesOf el ≤ 140737488355328 ∧
    EitherK (K (.d (.ro e (es ++ ds))) hp) (ds ≠ [] ∧ K (.own nx 0 (es.length + ds.length) (es.length + ds.length)) ((nx, ⟨el, P.cellsOf el, es.map (fun r => r.map AV.d) ++ ds.map fun r => r.map AV.d⟩) :: hp))) := by
  simp only [appendW, List.length_map, eq_iff_iff, EitherK]
  constructor
  · rintro ⟨h1, h2, h3, h4, ⟨ds', h5, h6⟩ | ⟨h5, h6⟩⟩
    · have h7 := drows_inj h5
      subst h7
      exact ⟨h1, h2, h3, h4, .inl h6⟩
    · exact ⟨h1, h2, h3, h4, .inr ⟨by simpa using h5, h6⟩⟩
  · rintro ⟨h1, h2, h3, h4, h5 | ⟨h5, h6⟩⟩
    · exact ⟨h1, h2, h3, h4, .inl ⟨ds, rfl, h5⟩⟩
    · exact ⟨h1, h2, h3, h4, .inr ⟨by simpa using h5, h6⟩⟩
theorem r_bnd0 (d : Int) : bnd fr d none = some d := rfl
theorem r_bnd1 (d : Int) (x : Operand) : bnd fr d (some x) = (ev fr x).num := rfl
theorem r_num (k : IntKind) (n : Int) : (AV.d (.int k n)).num = some n := rfl
theorem r_sl_nil (el : TypeId) (l h : Int) : sliceW P (.slice el) .nil (some l) (some h) K hp = (P.cellsOf el ≠ 0 ∧ l = 0 ∧ h = 0 ∧ K .nil hp) := rfl
theorem r_sl_ro (el : TypeId) (l h : Int) (e : Nat) (es : List (List DV)) : sliceW P (.slice el) (.d (.ro e es)) (some l) (some h) K hp = (P.cellsOf el ≠ 0 ∧ e = P.cellsOf el ∧ 0 ≤ l ∧ l ≤ h ∧ h ≤ es.length ∧ K (.d (.ro e ((es.take h.toNat).drop l.toNat))) hp) := rfl
def slB (b : Option Blk) (n : Nat) (A : Prop) : Prop :=
  match b with
  | some b => b.e = n ∧ A
  | none => False
theorem r_sl_own (el : TypeId) (l h : Int) (id i0 len tot : Nat) : sliceW P (.slice el) (.own id i0 len tot) (some l) (some h) K hp = slB (lk id hp) (P.cellsOf el) (P.cellsOf el ≠ 0 ∧ 0 ≤ l ∧ l ≤ h ∧ h ≤ len ∧ K (.own id (i0 + l.toNat) (h.toNat - l.toNat) tot) hp) := by
  simp only [sliceW]
  cases lk id hp with
  | none => rfl
  | some b => simp only [slB, eq_iff_iff]; exact ⟨fun ⟨a, b, c⟩ => ⟨b, a, c⟩, fun ⟨b, a, c⟩ => ⟨a, b, c⟩⟩
theorem r_sl_sub (el : TypeId) (l h : Int) (id i off e len cap tot : Nat) : sliceW P (.slice el) (.sub id i off e len cap tot) (some l) (some h) K hp = (P.cellsOf el ≠ 0 ∧ e = P.cellsOf el ∧ 0 ≤ l ∧ l ≤ h ∧ h ≤ len ∧ K (.sub id i (off + l.toNat * e) e (h.toNat - l.toNat) (cap - l.toNat) tot) hp) := rfl
def slP (b : Option Blk) (n : Nat) (A : Prop) : Prop :=
  match b with
  | some b => n ≤ b.e ∧ A
  | none => False
theorem r_sl_ptr (n : Nat) (el : TypeId) (l h : Int) (id i off tot : Nat) : sliceW P (.arr n el) (.ptr id i off tot) (some l) (some h) K hp = slP (lk id hp) (off + n * P.cellsOf el) (P.cellsOf el ≠ 0 ∧ i < tot ∧ 0 ≤ l ∧ l ≤ h ∧ h ≤ n ∧ K (.sub id i (off + l.toNat * P.cellsOf el) (P.cellsOf el) (h.toNat - l.toNat) (n - l.toNat) tot) hp) := by
  simp only [sliceW]
  cases lk id hp with
  | none => rfl
  | some b => simp only [slP, eq_iff_iff]; exact ⟨fun ⟨a, b, c⟩ => ⟨b, a, c⟩, fun ⟨b, a, c⟩ => ⟨a, b, c⟩⟩
theorem r_sl_rop (n : Nat) (el : TypeId) (l h : Int) (cs : List DV) : sliceW P (.arr n el) (.rop cs) (some l) (some h) K hp = (P.cellsOf el = 1 ∧ n ≤ cs.length ∧ 0 ≤ l ∧ l ≤ h ∧ h ≤ n ∧ K (.d (.ro 1 (((cs.take h.toNat).drop l.toNat).map fun c => [c]))) hp) := rfl
theorem r_sl_str (bs : List Int) (l h : Int) : sliceW P .str (.d (.str bs)) (some l) (some h) K hp = (0 ≤ l ∧ l ≤ h ∧ h ≤ bs.length ∧ K (.d (.str ((bs.take h.toNat).drop l.toNat))) hp) := rfl
/-- append, its parts apart. -/
def apB (P : Program) (el : TypeId) (b : Option Blk) (id len tot : Nat) (xs : List (List AV)) (K : AV → Hp → Prop) (hp : Hp) : Prop :=
  match b with
  | some b => b.es.length = tot ∧ b.ty = el ∧ b.e = P.cellsOf el ∧ (tzO P el).isSome = true ∧ P.bytesOf el ≠ 0 ∧ (len + xs.length) * P.bytesOf el ≤ 140737488355328 ∧
        (len + xs.length ≤ tot → K (.own id 0 (len + xs.length) tot) (setH id ⟨b.ty, b.e, b.es.take len ++ (xs ++ b.es.drop (len + xs.length))⟩ hp)) ∧
        (tot < len + xs.length → K (.own id 0 (len + xs.length) (len + xs.length)) (setH id ⟨b.ty, b.e, b.es.take len ++ xs⟩ hp))
  | none => False
theorem r_ap_nil (el : TypeId) (xs : List (List AV)) : appendW P el .nil (some xs) nx K hp = ((tzO P el).isSome = true ∧ P.bytesOf el ≠ 0 ∧ xs.length * P.bytesOf el ≤ 140737488355328 ∧ K (.own nx 0 xs.length xs.length) ((nx, ⟨el, P.cellsOf el, xs⟩) :: hp)) := rfl
theorem r_ap_own (el : TypeId) (xs : List (List AV)) (id len tot : Nat) : appendW P el (.own id 0 len tot) (some xs) nx K hp = apB P el (lk id hp) id len tot xs K hp := rfl
/-- append where the row is full: what is appended stands behind what was there. -/
def apF (P : Program) (el : TypeId) (b : Option Blk) (id len : Nat) (xs : List (List AV)) (K : AV → Hp → Prop) (hp : Hp) : Prop :=
  match b with
  | some b => b.es.length = len ∧ b.ty = el ∧ b.e = P.cellsOf el ∧ (tzO P el).isSome = true ∧ P.bytesOf el ≠ 0 ∧ (len + xs.length) * P.bytesOf el ≤ 140737488355328 ∧ K (.own id 0 (len + xs.length) (len + xs.length)) (setH id ⟨b.ty, b.e, b.es ++ xs⟩ hp)
  | none => False
theorem r_ap_full (el : TypeId) (xs : List (List AV)) (id len : Nat) : appendW P el (.own id 0 len len) (some xs) nx K hp = apF P el (lk id hp) id len xs K hp := by
  rw [r_ap_own]
  unfold apB apF
  cases hb : lk id hp with
  | none => rfl
  | some b =>
    simp only [eq_iff_iff]
    constructor
    · rintro ⟨h1, h2, h3, h4, h5, h6, h7, h8⟩
      refine ⟨h1, h2, h3, h4, h5, h6, ?_⟩
      rcases Nat.eq_zero_or_pos xs.length with h0 | h0
      · have hx : xs = [] := List.eq_nil_of_length_eq_zero h0
        subst hx
        have := h7 (by simp)
        simpa using this
      · have := h8 (by omega)
        rw [List.take_of_length_le (by omega)] at this
        exact this
    · rintro ⟨h1, h2, h3, h4, h5, h6, h7⟩
      refine ⟨h1, h2, h3, h4, h5, h6, fun h => ?_, fun h => ?_⟩
      · have hx : xs = [] := List.eq_nil_of_length_eq_zero (by omega)
        subst hx
        simpa using h7
      · rw [List.take_of_length_le (by omega)]
        exact h7
theorem r_ro_nil (sz : Nat) : rowsOf hp sz .nil = some [] := rfl
theorem r_ro_ro (sz e : Nat) (es : List (List DV)) : rowsOf hp sz (.d (.ro e es)) = if e = sz then some (es.map fun r => r.map .d) else none := rfl
def roB (b : Option Blk) (sz i0 len tot : Nat) : Option (List (List AV)) :=
  match b with
  | some b => if b.es.length = tot ∧ b.e = sz then some ((b.es.drop i0).take len) else none
  | none => none
theorem r_ro_own (sz id i0 len tot : Nat) : rowsOf hp sz (.own id i0 len tot) = roB (lk id hp) sz i0 len tot := rfl
def roR (row : Option (List AV)) (n tot e sz off len : Nat) : Option (List (List AV)) :=
  match row with
  | some row => if n = tot ∧ e = sz then some ((List.range len).map fun k => (row.drop (off + k * e)).take e) else none
  | none => none
def roS (b : Option Blk) (sz i off e len tot : Nat) : Option (List (List AV)) :=
  match b with
  | some b => roR b.es[i]? b.es.length tot e sz off len
  | none => none
theorem r_ro_sub (sz id i off e len cap tot : Nat) : rowsOf hp sz (.sub id i off e len cap tot) = roS (lk id hp) sz i off e len tot := by
  simp only [rowsOf, roS]
  cases lk id hp with
  | none => rfl
  | some b =>
    simp only
    cases b.es[i]? <;> rfl
theorem r_app (s x : Operand) (t u : TypeId) : opW P fr hp nx (.call ⟨.builtin .append, #[s, x], #[t, u]⟩) K = biW P fr hp nx .append [s, x] [t, u] K := rfl
theorem r_co_d (v : DV) : (AV.d v).cellsO = some [.d v] := rfl
theorem r_co_a (cs : List AV) : (AV.agg cs).cellsO = some cs := rfl
theorem r_co_own (a b c d : Nat) : (AV.own a b c d).cellsO = some [.own a b c d] := rfl
theorem r_co_sub (a b c d e f g : Nat) : (AV.sub a b c d e f g).cellsO = some [.sub a b c d e f g] := rfl
theorem r_co_ptr (a b c d : Nat) : (AV.ptr a b c d).cellsO = some [.ptr a b c d] := rfl
theorem r_co_nil : (AV.nil).cellsO = some [.nil] := rfl
theorem r_co_fn (f : FuncId) (cs : List AV) : (AV.fn f cs).cellsO = some [.fn f cs] := rfl
theorem r_co_mth (f : FuncId) (cs : List AV) : (AV.mth f cs).cellsO = some [.mth f cs] := rfl
theorem r_co_rop (cs : List DV) : (AV.rop cs).cellsO = some [.rop cs] := rfl
/-- A test against nil. -/
def nilQ (eq : Bool) (k : TK) (v : AV) (K : AV → Hp → Prop) (hp : Hp) : Prop :=
  match v, k with
  | .nil, .slice _ => K (.d (.bool eq)) hp
  | .d (.ro _ es), .slice _ => ∀ b, (b = eq → es.length = 0) → K (.d (.bool b)) hp
  | .d (.rof _ es), .slice _ => ∀ b, (b = eq → es.length = 0) → K (.d (.bool b)) hp
  | .own _ _ len _, .slice _ => ∀ b, (b = eq → len = 0) → K (.d (.bool b)) hp
  | .sub _ _ _ _ len _ _, .slice _ => ∀ b, (b = eq → len = 0) → K (.d (.bool b)) hp
  | _, _ => False
theorem r_b_nile (t : TypeId) (v : AV) : binW P .eql t v .nil K hp = nilQ true (tyk P t) v K hp := by
  unfold binW binW0 nilQ
  cases v with
  | d dv => cases dv <;> cases tyk P t <;> rfl
  | _ => cases tyk P t <;> rfl
theorem r_b_niln (t : TypeId) (v : AV) : binW P .neq t v .nil K hp = nilQ false (tyk P t) v K hp := by
  unfold binW binW0 nilQ
  cases v with
  | d dv => cases dv <;> cases tyk P t <;> rfl
  | _ => cases tyk P t <;> rfl
theorem r_b_seq (t : TypeId) (a b : List Int) : binW P .eql t (.d (.str a)) (.d (.str b)) K hp = K (.d (.bool (decide (a = b)))) hp := rfl
theorem r_b_slt (t : TypeId) (a b : List Int) : binW P .lss t (.d (.str a)) (.d (.str b)) K hp = K (.d (.bool (strLess a b))) hp := rfl
theorem r_b_sle (t : TypeId) (a b : List Int) : binW P .leq t (.d (.str a)) (.d (.str b)) K hp = K (.d (.bool (strLess a b || decide (a = b)))) hp := rfl
theorem r_b_sgt (t : TypeId) (a b : List Int) : binW P .gtr t (.d (.str a)) (.d (.str b)) K hp = K (.d (.bool (!(strLess a b || decide (a = b))))) hp := rfl
theorem r_b_sge (t : TypeId) (a b : List Int) : binW P .geq t (.d (.str a)) (.d (.str b)) K hp = K (.d (.bool (!strLess a b))) hp := rfl
theorem r_b_sadd (t : TypeId) (a b : List Int) : binW P .add t (.d (.str a)) (.d (.str b)) K hp = (a.length + b.length ≤ 9223372036854775807 ∧ K (.d (.str (a ++ b))) hp) := rfl
def clV (P : Program) (v : AV) (args : List AV) (hp : Hp) (N : Nat) (K : AV → Hp → Prop) : Prop := match v with
  | .fn g caps => ClW P g (args ++ caps) hp N K
  | .mth g caps => ClW P g (caps ++ args) hp N K
  | _ => False
theorem r_callv (f : Tmp) (args : Array Operand) (ts : Array TypeId) : opW P fr hp nx (.call ⟨.value (.tmp f), args, ts⟩) K = clV P (fv f fr) (args.toList.map (ev fr)) hp nx K := by
  simp only [opW, clV, ev]
  cases fv f fr <;> rfl
theorem r_clv (g : FuncId) (args caps : List AV) (N : Nat) : clV P (.fn g caps) args hp N K = ClW P g (args ++ caps) hp N K := rfl
theorem r_clm (g : FuncId) (args caps : List AV) (N : Nat) : clV P (.mth g caps) args hp N K = ClW P g (caps ++ args) hp N K := rfl
theorem r_mfm (f : FuncId) (x : Operand) : opW P fr hp nx (.makeFunc (.func f) #[x] #[]) K = K (.mth f [ev fr x]) hp := by simp [opW]
theorem r_mf (f : FuncId) (caps : Array Operand) : opW P fr hp nx (.makeFunc (.func f) #[] caps) K = K (.fn f (caps.toList.map (ev fr))) hp := by simp [opW]
def mxW (x y : AV) (K : AV → Hp → Prop) (hp : Hp) : Prop :=
  match x, y with
  | .d (.int k m), .d (.int _ n) => K (.d (.int k (if n > m then n else m))) hp
  | _, _ => False
theorem r_max (x y : Operand) (t u : TypeId) : opW P fr hp nx (.call ⟨.builtin .max, #[x, y], #[t, u]⟩) K = mxW (ev fr x) (ev fr y) K hp := rfl
def mnW (x y : AV) (K : AV → Hp → Prop) (hp : Hp) : Prop :=
  match x, y with
  | .d (.int k m), .d (.int _ n) => K (.d (.int k (if n < m then n else m))) hp
  | _, _ => False
theorem r_min (x y : Operand) (t u : TypeId) : opW P fr hp nx (.call ⟨.builtin .min, #[x, y], #[t, u]⟩) K = mnW (ev fr x) (ev fr y) K hp := rfl
def cpS (P : Program) (el : TypeId) (b : Option Blk) (id i off e len tot : Nat) (xs : List (List AV)) (K : AV → Hp → Prop) (hp : Hp) : Prop :=
  match b with
  | some b => (match b.es[i]? with
    | some row => b.es.length = tot ∧ e = 1 ∧ P.cellsOf el = 1 ∧ K (.d (.int .i64 (min len xs.length : Nat))) (setH id ⟨b.ty, b.e, b.es.set i (row.take off ++ ((xs.take len).flatten ++ row.drop (off + (xs.take len).flatten.length)))⟩ hp)
    | none => False)
  | none => False
theorem r_cp2 (el : TypeId) (id i off e len cap tot : Nat) (xs : List (List AV)) : copyW P el (.sub id i off e len cap tot) (some xs) K hp = cpS P el (lk id hp) id i off e len tot xs K hp := by
  simp only [copyW, cpS]
  cases lk id hp with
  | none => rfl
  | some b => cases b.es[i]? <;> rfl
theorem r_b_sne (t : TypeId) (a b : List Int) : binW P .neq t (.d (.str a)) (.d (.str b)) K hp = K (.d (.bool (!decide (a = b)))) hp := rfl
def bxW (t : TypeId) (v : AV) (nx : Nat) (K : AV → Hp → Prop) (hp : Hp) : Prop :=
  match v with
  | .agg cs => K (.ptr nx 0 0 1) ((nx, ⟨t, cs.length, [cs]⟩) :: hp)
  | .any => False
  | .tup _ => False
  | .d v => K (.ptr nx 0 0 1) ((nx, ⟨t, 1, [[.d v]]⟩) :: hp)
  | .own a b c d => K (.ptr nx 0 0 1) ((nx, ⟨t, 1, [[.own a b c d]]⟩) :: hp)
  | .sub a b c d e f g => K (.ptr nx 0 0 1) ((nx, ⟨t, 1, [[.sub a b c d e f g]]⟩) :: hp)
  | .ptr a b c d => K (.ptr nx 0 0 1) ((nx, ⟨t, 1, [[.ptr a b c d]]⟩) :: hp)
  | .rop cs => K (.ptr nx 0 0 1) ((nx, ⟨t, 1, [[.rop cs]]⟩) :: hp)
  | .fn f cs => K (.ptr nx 0 0 1) ((nx, ⟨t, 1, [[.fn f cs]]⟩) :: hp)
  | .mth f cs => K (.ptr nx 0 0 1) ((nx, ⟨t, 1, [[.mth f cs]]⟩) :: hp)
  | .nil => K (.ptr nx 0 0 1) ((nx, ⟨t, 1, [[.nil]]⟩) :: hp)
  | .mp a => K (.ptr nx 0 0 1) ((nx, ⟨t, 1, [[.mp a]]⟩) :: hp)
theorem r_bx (t : TypeId) (x : Operand) : opW P fr hp nx (.box t x) K = bxW t (ev fr x) nx K hp := by
  simp only [opW]
  cases ev fr x <;> rfl
def stR (P : Program) (t : TypeId) (id : Nat) (b : Blk) (i off : Nat) (row : List AV) (u : AV) (K : AV → Hp → Prop) (hp : Hp) : Prop :=
  match u with
  | .agg cs => cs.length = P.cellsOf t ∧ P.cellsOf t ≠ 0 ∧ off + cs.length ≤ row.length ∧ K .any (setH id ⟨b.ty, b.e, b.es.set i (row.take off ++ (cs ++ row.drop (off + cs.length)))⟩ hp)
  | .any => False
  | .tup _ => False
  | .d v => P.cellsOf t = 1 ∧ off < row.length ∧ K .any (setH id ⟨b.ty, b.e, b.es.set i (row.set off (.d v))⟩ hp)
  | .own a1 a2 a3 a4 => P.cellsOf t = 1 ∧ off < row.length ∧ K .any (setH id ⟨b.ty, b.e, b.es.set i (row.set off (.own a1 a2 a3 a4))⟩ hp)
  | .sub a1 a2 a3 a4 a5 a6 a7 => P.cellsOf t = 1 ∧ off < row.length ∧ K .any (setH id ⟨b.ty, b.e, b.es.set i (row.set off (.sub a1 a2 a3 a4 a5 a6 a7))⟩ hp)
  | .ptr a1 a2 a3 a4 => P.cellsOf t = 1 ∧ off < row.length ∧ K .any (setH id ⟨b.ty, b.e, b.es.set i (row.set off (.ptr a1 a2 a3 a4))⟩ hp)
  | .rop cs => P.cellsOf t = 1 ∧ off < row.length ∧ K .any (setH id ⟨b.ty, b.e, b.es.set i (row.set off (.rop cs))⟩ hp)
  | .fn f cs => P.cellsOf t = 1 ∧ off < row.length ∧ K .any (setH id ⟨b.ty, b.e, b.es.set i (row.set off (.fn f cs))⟩ hp)
  | .mth f cs => P.cellsOf t = 1 ∧ off < row.length ∧ K .any (setH id ⟨b.ty, b.e, b.es.set i (row.set off (.mth f cs))⟩ hp)
  | .nil => P.cellsOf t = 1 ∧ off < row.length ∧ K .any (setH id ⟨b.ty, b.e, b.es.set i (row.set off .nil)⟩ hp)
  | .mp a => P.cellsOf t = 1 ∧ off < row.length ∧ K .any (setH id ⟨b.ty, b.e, b.es.set i (row.set off (.mp a))⟩ hp)
def stB (P : Program) (t : TypeId) (id : Nat) (b : Option Blk) (i off tot : Nat) (u : AV) (K : AV → Hp → Prop) (hp : Hp) : Prop :=
  match b with
  | some b => (match b.es[i]? with
    | some row => b.es.length = tot ∧ stR P t id b i off row u K hp
    | none => False)
  | none => False
def stW (P : Program) (t : TypeId) (v u : AV) (K : AV → Hp → Prop) (hp : Hp) : Prop :=
  match v with
  | .ptr id i off tot => stB P t id (lk id hp) i off tot u K hp
  | _ => False
theorem r_st (t : TypeId) (x y : Operand) : opW P fr hp nx (.store t x y) K = stW P t (ev fr x) (ev fr y) K hp := by
  simp only [opW, stW]
  generalize ev fr x = v
  generalize ev fr y = u
  cases v with
  | ptr id i off tot =>
    simp only [stB]
    cases lk id hp with
    | none => rfl
    | some b =>
      simp only
      cases b.es[i]? with
      | none => rfl
      | some row => cases u <;> rfl
  | _ => rfl
theorem r_mm (t : TypeId) : opW P fr hp nx (.makeMap t none) K = (∀ g, K (.mp nx) ((nx, ⟨g, 0, mapR []⟩) :: hp)) := rfl
theorem r_lu (t : TypeId) (m x : Operand) : opW P fr hp nx (.lookup t m x false) K = luW P t (ev fr m) (ev fr x) K hp := rfl
theorem r_mu (t : TypeId) (m x v : Operand) : opW P fr hp nx (.mapUpdate t m x v) K = muW P t (ev fr m) (ev fr x) (ev fr v) K hp := rfl
theorem lu_of {t : TypeId} {id : Nat} {cs : List AV} {b : Blk} {ks : List (List (IntKind × Int))} (u : List (IntKind × Int)) (hb : lk id hp = some b) (he : b.e = 0) (hes : b.es = mapR ks) (hc : cs = keyR u) (ht : MapTy P t (u :: ks)) (hK : K (.d (.bool (decide (u ∈ ks)))) hp) :
    luW P t (.mp id) (.agg cs) K hp := ⟨b, ks, u, hb, he, hes, hc, ht, hK⟩
theorem mu_of {t : TypeId} {id : Nat} {cs : List AV} {b : Blk} {ks : List (List (IntKind × Int))} (u : List (IntKind × Int)) (hb : lk id hp = some b) (he : b.e = 0) (hes : b.es = mapR ks) (hc : cs = keyR u) (ht : MapTy P t (u :: ks)) (ho : ∀ p, p ∈ hp → p.2.e = 0 → p.1 = id)
    (hK : K .any (setH id ⟨b.ty, b.e, mapR (ks ++ [u])⟩ hp)) : muW P t (.mp id) (.agg cs) (.d (.bool true)) K hp := ⟨b, ks, u, hb, he, hes, hc, ht, ho, hK⟩
theorem r_len (x : Operand) (t : TypeId) : opW P fr hp nx (.call ⟨.builtin .len, #[x], #[t]⟩) K = biW P fr hp nx .len [x] [t] K := rfl
theorem r_call (f : FuncId) (args : Array Operand) (ts : Array TypeId) : opW P fr hp nx (.call ⟨.value (.func f), args, ts⟩) K = ClW P f (args.toList.map (ev fr)) hp nx K := by
  simp [opW, ev, ClW]
end

section
variable (P : Program)
def skB (k : TK) : Bool := match k with
  | .slice _ => false
  | _ => true
theorem sk_bin (op : BinOp) (t t' : TypeId) (x y : Operand) : stillKind P (.binOp op t x y t') = skB (tyk P t) := by
  simp only [stillKind, skB]
  cases tyk P t <;> rfl
theorem sk_move (x : Operand) : stillKind P (.move x) = true := rfl
theorem sk_assign (x : Operand) : stillKind P (.assign x) = true := rfl
theorem sk_pick (x y z : Operand) : stillKind P (.pick x y z) = true := rfl
theorem sk_un (o : UnOp) (t : TypeId) (x : Operand) : stillKind P (.unOp o t x) = true := rfl
theorem sk_nil (x : Operand) : stillKind P (.nilCheck x) = true := rfl
theorem sk_ex (x : Operand) (i : Nat) : stillKind P (.extract x i) = true := rfl
theorem sk_cv (s t : TypeId) (x : Operand) : stillKind P (.convert s t x) = skB (tyk P t) := by
  simp only [stillKind, skB]
  cases tyk P t <;> rfl
theorem sk_arr (t : TypeId) (x : Operand) : stillKind P (.sliceToArrayPointer t x) = true := rfl
theorem sk_ld (t : TypeId) (x : Operand) : stillKind P (.load t x) = true := rfl
theorem sk_fa (t : TypeId) (x : Operand) (i : Nat) : stillKind P (.fieldAddr t x i) = true := rfl
theorem sk_ix (t : TypeId) (x y : Operand) : stillKind P (.indexAddr t x y) = true := rfl
theorem sk_fd (t : TypeId) (x : Operand) (i : Nat) : stillKind P (.field t x i) = true := rfl
theorem sk_idx (t : TypeId) (x y : Operand) : stillKind P (.index t x y) = true := rfl
theorem sk_bd (t : TypeId) (x : Array (Nat × Operand)) : stillKind P (.build t x) = true := rfl
theorem sk_sl (t : TypeId) (x : Operand) (lo hi m : Option Operand) : stillKind P (.slice t x lo hi m) = true := rfl
theorem sk_len (x : Array Operand) (t : Array TypeId) : stillKind P (.call ⟨.builtin .len, x, t⟩) = true := rfl
end

attribute [go_sem] r_vf r_b_fn1 r_b_fn2 r_b_fn3 fnW r_min mnW cpS r_cp2 r_mm r_lu r_mu r_b_slt r_b_sle r_b_sgt r_b_sge r_b_sadd r_callv r_clv r_mf r_max mxW apS r_ap_sub r_b_pn1 r_b_pn2 r_b_pn3 pnW r_b_ag agK agO r_ag r_sg sgR litsOf lits_ints lits_map ints_map idO idS idX idW r_index sk_idx cvB r_sl3 r_bndO r_sl3_ro r_sl3_nil r_sl3_own mkO r_mk r_mk1 r_arr r_arr1 r_arr2 r_cp cpB r_cp1 r_ap_rof r_vstr List.getElem?_toArray Option.bind_some decide_not Bool.not_not r_draw skB sk_bin sk_move sk_assign sk_pick sk_un sk_nil sk_ex sk_cv sk_arr sk_ld sk_fa sk_ix sk_bd sk_sl sk_len SaW r_bd bdO r_bd_s r_bd_a fillO fillA structPlace r_bs bsW bsO bsR fillR r_sl r_bnd0 r_bnd1 r_num r_sl_nil r_sl_ro r_sl_own slB r_sl_sub slP r_sl_ptr r_sl_rop r_sl_str AV.topLen apF r_ap_nil r_ap_full r_ro_nil r_ro_ro r_ro_own roB roR roS r_ro_sub r_app r_co_d r_co_a r_co_own r_co_sub r_co_ptr r_co_nil r_co_fn r_co_rop nilQ r_b_nile r_b_niln r_b_seq r_b_sne Option.isSome_some List.length_replicate List.replicate_succ List.replicate_zero List.length_append r_un unW r_nilc nilW r_ex exW r_cv cvW r_ld ldW ldB ldR ldO r_ldv ldvK r_fa fldK faO r_fd fdO sk_fd r_ix ixW ixB ixO r_al alW r_bx bxW r_st stW stB stR EndK retW resV r_seq r_skip r_ret r_exit r_block r_region r_loop r_cond r_cnd_t r_cnd_f r_cnd_d r_cnd_n r_sq_n r_sq_r r_sq_e r_bl_n r_bl_r r_bl_e r_norm r_lp_r r_lp_e r_nil r_cons r_guard r_g_u r_g_t r_g_f r_g_tf r_g_ft r_g_dt r_g_df r_rg r_put r_put0 r_dst r_dst0 r_tmp r_const r_func r_fv r_fv0 r_setH r_vi r_vb r_vs r_vp r_move r_assign r_pick r_pick_t r_pick_f r_pick_bb r_pick_a r_pick_u r_bin r_b_add r_b_sub r_b_mul r_b_quo r_b_rem r_b_and r_b_or r_b_xor r_b_andNot r_b_shl r_b_shr r_b_eql r_b_neq r_b_lss r_b_leq r_b_gtr r_b_geq r_len r_call r_lk r_lk0 fr0 biW AV.slen List.length_map Int.toNat_natCast List.getElem?_map Option.map_some Int.natCast_nonneg ne_eq not_false_eq_true List.map_cons List.map_nil List.drop_zero List.drop_succ_cons List.length_cons List.length_nil List.take_succ_cons List.take_zero List.getElem?_cons_zero List.getElem?_cons_succ List.head?_cons List.set_cons_zero List.cons_append List.nil_append Nat.zero_add List.drop_nil Nat.add_zero true_and and_true

/-- A loop, by a type of what it carries: how a state of it looks, what holds of it, what goes down. -/
def LoopT {T : Type} (mk : T → St) (inv : T → Prop) (mu : T → Nat) (t : T) (Q : Exit → St → Prop) : Exit → St → Prop
  | .normal, st => ∃ t', inv t' ∧ mu t' < mu t ∧ Wk st (mk t')
  | e, st => Q e st

theorem r_lt_r {T : Type} (mk : T → St) (inv : T → Prop) (mu : T → Nat) (t : T) (Q : Exit → St → Prop) (st : St) : LoopT mk inv mu t Q .ret st = Q .ret st := rfl
theorem r_lt_e {T : Type} (mk : T → St) (inv : T → Prop) (mu : T → Nat) (t : T) (Q : Exit → St → Prop) (st : St) (i : Nat) : LoopT mk inv mu t Q (.exit i) st = Q (.exit i) st := rfl
attribute [go_sem] r_lt_r r_lt_e

/-- A round's end. -/
theorem next_of {T : Type} {mk : T → St} {inv : T → Prop} {mu : T → Nat} {t : T} {Q : Exit → St → Prop} {st : St} (t' : T) (hI : inv t') (hm : mu t' < mu t) (hw : Weak st (mk t')) : LoopT mk inv mu t Q .normal st := ⟨t', hI, hm, weak_wk hw⟩
theorem nextF_of {T : Type} {mk : T → St} {inv : T → Prop} {mu : T → Nat} {t : T} {Q : Exit → St → Prop} {st : St} (t' : T) (hI : inv t') (hm : mu t' < mu t) (ids : List Nat) (fz : Fr) (hz : ∀ p, p ∈ fz → Snap st.hp (fun id => id ∈ ids) (fv p.1 st.fr) p.2) (hw : Weak ⟨fz ++ st.fr, dropH ids st.hp, st.nx⟩ (mk t')) : LoopT mk inv mu t Q .normal st := ⟨t', hI, hm, weakF_of ids fz hz hw⟩
theorem nextW_of {T : Type} {mk : T → St} {inv : T → Prop} {mu : T → Nat} {t : T} {Q : Exit → St → Prop} {st : St} (t' : T) (hI : inv t') (hm : mu t' < mu t) (hw : Wk st (mk t')) : LoopT mk inv mu t Q .normal st := ⟨t', hI, hm, hw⟩

theorem loopW_of {P : Program} {n : Nat} {x : Code} {Q : Exit → St → Prop} {st : St} {T : Type} (mk : T → St) (inv : T → Prop) (mu : T → Nat) (t0 : T) (h0 : inv t0) (hw : Wk st (mk t0))
    (h : ∀ t, inv t → awp P n x (LoopT mk inv mu t Q) (mk t)) : LpW P n x Q st := by
  refine ⟨fun m st => ∃ t, mu t = m ∧ inv t ∧ st = mk t, ⟨mu t0, mk t0, hw, t0, rfl, h0, rfl⟩, ?_⟩
  rintro m _ ⟨t, rfl, hi, rfl⟩
  have : LoopK (fun m st => ∃ t, mu t = m ∧ inv t ∧ st = mk t) (mu t) Q = LoopT mk inv mu t Q := by
    funext e st
    cases e <;> try rfl
    simp only [LoopK, LoopT, eq_iff_iff]
    constructor
    · rintro ⟨m', st', h1, h2, t', rfl, h3, rfl⟩
      exact ⟨t', h3, h1, h2⟩
    · rintro ⟨t', h3, h1, h2⟩
      exact ⟨mu t', mk t', h1, h2, t', rfl, h3, rfl⟩
  rw [this]
  exact h t hi

theorem loop_of {P : Program} {n : Nat} {x : Code} {Q : Exit → St → Prop} {st : St} {T : Type} (mk : T → St) (inv : T → Prop) (mu : T → Nat) (t0 : T) (h0 : inv t0) (hw : Weak st (mk t0))
    (h : ∀ t, inv t → awp P n x (LoopT mk inv mu t Q) (mk t)) : LpW P n x Q st := loopW_of mk inv mu t0 h0 (weak_wk hw) h
/-- A loop ahead of which own rows are given up. -/
theorem loopF_of {P : Program} {n : Nat} {x : Code} {Q : Exit → St → Prop} {st : St} {T : Type} (mk : T → St) (inv : T → Prop) (mu : T → Nat) (t0 : T) (h0 : inv t0) (ids : List Nat) (fz : Fr) (hz : ∀ p, p ∈ fz → Snap st.hp (fun id => id ∈ ids) (fv p.1 st.fr) p.2) (hw : Weak ⟨fz ++ st.fr, dropH ids st.hp, st.nx⟩ (mk t0))
    (h : ∀ t, inv t → awp P n x (LoopT mk inv mu t Q) (mk t)) : LpW P n x Q st := loopW_of mk inv mu t0 h0 (weakF_of ids fz hz hw) h

theorem cl_ext {P : Program} {g : FuncId} {args : List AV} {hp : Hp} {N : Nat} {K : AV → Hp → Prop} {r : AV} (h : ExtOk P g args r) (hK : K r hp) : ClW P g args hp N K := .inr ⟨r, h, hK⟩
theorem cl_fn {P : Program} {g : FuncId} {args : List AV} {hp : Hp} {N : Nat} {K : AV → Hp → Prop} {Q : AV → Prop} (h : Rets P g args Q) (hd : ∀ v, v ∈ args → v.deep) (hK : ∀ r, Q r → K r hp) : ClW P g args hp N K := .inl (callsA_fn h hd hK)

theorem cl_eq {P : Program} {g : FuncId} {args : List AV} {hp : Hp} {N : Nat} {K : AV → Hp → Prop} {r : AV} (h : Rets P g args (fun x => x = r)) (hd : ∀ v, v ∈ args → v.deep) (hK : K r hp) : ClW P g args hp N K := .inl (callsA_fn h hd (fun _ e => by rw [e]; exact hK))

theorem cl_froz (ids : List Nat) {P : Program} {g : FuncId} {args args' : List AV} {hp : Hp} {N : Nat} {K : AV → Hp → Prop} {r : AV} (h : Rets P g args' (fun x => x = r)) (hl' : args.length = args'.length)
    (hs : ∀ (i : Nat) (v v' : AV), args[i]? = some v → args'[i]? = some v' → Snap hp (fun id => id ∈ ids) v v') (hK : K r (dropH ids hp)) : ClW P g args hp N K := .inl (callsA_froz ids h hl' hs (fun _ e => by rw [e]; exact hK))

theorem cl_snap {P : Program} {g : FuncId} {args args' : List AV} {hp : Hp} {N : Nat} {K : AV → Hp → Prop} {r : AV} (h : Rets P g args' (fun x => x = r)) (hl' : args.length = args'.length)
    (hs : ∀ (i : Nat) (v v' : AV), args[i]? = some v → args'[i]? = some v' → Snap hp (fun _ => True) v v') (hf : r.flat) (hK : K r hp) : ClW P g args hp N K := .inl (callsA_snap h hl' hs (fun _ e => by rw [e]; exact hf) (fun _ e => by rw [e]; exact hK))

theorem snap_nil {hp : Hp} {I : Nat → Prop} {args' : List AV} : ∀ (i : Nat) (v v' : AV), ([] : List AV)[i]? = some v → args'[i]? = some v' → Snap hp I v v' := by intro i v v' h; simp at h
theorem snap_cons {hp : Hp} {I : Nat → Prop} {a a' : AV} {args args' : List AV} (h : Snap hp I a a') (t : ∀ (i : Nat) (v v' : AV), args[i]? = some v → args'[i]? = some v' → Snap hp I v v') : ∀ (i : Nat) (v v' : AV), (a :: args)[i]? = some v → (a' :: args')[i]? = some v' → Snap hp I v v' := by
  intro i v v' h1 h2
  cases i with
  | zero => simp at h1 h2; subst h1; subst h2; exact h
  | succ i => simp at h1 h2; exact t i v v' h1 h2
theorem snap1_nil {hp : Hp} {I : Nat → Prop} {args' : List AV} : ∀ (i : Nat) (v v' : AV), ([] : List AV)[i]? = some v → args'[i]? = some v' → Snap1 hp I v v' := by intro i v v' h; simp at h
theorem snap1_cons {hp : Hp} {I : Nat → Prop} {a a' : AV} {args args' : List AV} (h : Snap1 hp I a a') (t : ∀ (i : Nat) (v v' : AV), args[i]? = some v → args'[i]? = some v' → Snap1 hp I v v') : ∀ (i : Nat) (v v' : AV), (a :: args)[i]? = some v → (a' :: args')[i]? = some v' → Snap1 hp I v v' := by
  intro i v v' h1 h2
  cases i with
  | zero => simp at h1 h2; subst h1; subst h2; exact h
  | succ i => simp at h1 h2; exact t i v v' h1 h2
theorem snap1_same {hp : Hp} {I : Nat → Prop} {v : AV} (h : v.deep1) : Snap1 hp I v v := .inl ⟨rfl, h⟩
theorem snap1_d {hp : Hp} {I : Nat → Prop} {v : AV} {d : DV} (h : SnapD hp I v d) : Snap1 hp I v (.d d) := .inr ⟨d, rfl, h⟩

end Go.Am
