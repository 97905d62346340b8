/-
  AM, part 6f: regions whose order the tape picks: what only reads is taken first, the rest stands in one order.
-/
import Derived.Test.YtnmnabagabejjaaGreatAmStill
import Derived.Orders
namespace Go.Am
set_option linter.unusedVariables false
set_option linter.unusedSimpArgs false

def dstOf (ops : Array Oper) (j : Nat) : Option Tmp := (ops[j]?).bind (·.dst)
def looks (ops : Array Oper) (j : Nat) : List Tmp := match ops[j]? with
  | some o => o.looksAt ops
  | none => []

/-- j waits for i, by some steps. -/
inductive Waits (ops : Array Oper) : Nat → Nat → Prop
  | edge {j : Nat} {o : Oper} {e : Edge} (ho : ops[j]? = some o) (he : e ∈ o.after) (hb : Region.binds .any e = true) : Waits ops j e.on
  | step {j i : Nat} {o : Oper} {e : Edge} (ho : ops[j]? = some o) (he : e ∈ o.after) (hb : Region.binds .any e = true) (h : Waits ops e.on i) : Waits ops j i

/-- For each operation those that it waits for, as bits. -/
def maskE (ms : List Nat) : List Edge → Nat → Nat
  | [], acc => acc
  | e :: r, acc => maskE ms r (if Region.binds .any e = true then acc ||| 2 ^ e.on ||| ms.getD e.on 0 else acc)
def masks : List Oper → List Nat → List Nat
  | [], ms => ms
  | o :: r, ms => masks r (ms ++ [maskE ms o.after.toList 0])
def wt (ms : List Nat) (j i : Nat) : Bool := (ms.getD j 0).testBit i

theorem maskE_bit (ms : List Nat) (i : Nat) : ∀ (l : List Edge) (acc : Nat), (maskE ms l acc).testBit i = true → acc.testBit i = true ∨ ∃ e, e ∈ l ∧ Region.binds .any e = true ∧ (e.on = i ∨ wt ms e.on i = true)
  | [], acc, h => .inl h
  | e :: r, acc, h => by
    rcases maskE_bit ms i r _ h with h1 | ⟨e', h1, h2, h3⟩
    · split at h1
      · rename_i hb
        rw [Nat.testBit_or, Nat.testBit_or, Bool.or_eq_true, Bool.or_eq_true] at h1
        rcases h1 with (h1 | h1) | h1
        · exact .inl h1
        · rw [Nat.testBit_two_pow] at h1
          exact .inr ⟨e, List.mem_cons_self .., hb, .inl (by simpa using h1)⟩
        · exact .inr ⟨e, List.mem_cons_self .., hb, .inr h1⟩
      · exact .inl h1
    · exact .inr ⟨e', List.mem_cons_of_mem _ h1, h2, h3⟩

theorem masks_wt {ops : Array Oper} : ∀ (l : List Oper) (ms : List Nat), (∀ k o, l[k]? = some o → ops[ms.length + k]? = some o) → (∀ j i, wt ms j i = true → Waits ops j i) → ∀ j i, wt (masks l ms) j i = true → Waits ops j i
  | [], ms, _, h, j, i, hw => h j i hw
  | o :: r, ms, ho, h, j, i, hw => by
    refine masks_wt r (ms ++ [maskE ms o.after.toList 0]) (fun k o' hk => ?_) (fun j i hw => ?_) j i hw
    · have := ho (k + 1) o' (by simpa using hk)
      rw [List.length_append, List.length_singleton, show ms.length + 1 + k = ms.length + (k + 1) by omega]
      exact this
    · unfold wt at hw
      rcases Nat.lt_trichotomy j ms.length with hj | hj | hj
      · rw [List.getD_eq_getElem?_getD, List.getElem?_append_left hj, ← List.getD_eq_getElem?_getD] at hw
        exact h j i hw
      · subst hj
        rw [List.getD_eq_getElem?_getD, List.getElem?_append_right (Nat.le_refl _), Nat.sub_self, List.getElem?_cons_zero, Option.getD_some] at hw
        have ho0 : ops[ms.length]? = some o := by simpa using ho 0 o rfl
        rcases maskE_bit ms i _ _ hw with h1 | ⟨e, h1, h2, h3⟩
        · simp at h1
        · rw [Array.mem_toList_iff] at h1
          rcases h3 with rfl | h3
          · exact .edge ho0 h1 h2
          · exact .step ho0 h1 h2 (h _ _ h3)
      · rw [List.getD_eq_getElem?_getD, List.getElem?_eq_none (by simp; omega)] at hw
        simp at hw

def mks (ops : Array Oper) : List Nat := masks ops.toList []
theorem mks_wt {ops : Array Oper} {j i : Nat} (h : wt (mks ops) j i = true) : Waits ops j i :=
  masks_wt ops.toList [] (fun k o hk => by simpa using hk) (fun j i h => by simp [wt] at h) j i h

def chainB (ms : List Nat) : List Nat → Bool
  | a :: b :: r => wt ms b a && chainB ms (b :: r)
  | _ => true
def chainP (ops : Array Oper) : List Nat → Prop
  | a :: b :: r => Waits ops b a ∧ chainP ops (b :: r)
  | _ => True

def orderB (ops : Array Oper) : List Nat → Bool
  | [] => true
  | z :: r => (z :: r).all (fun y => match dstOf ops y with
      | some d => !(looks ops z).contains d
      | none => true) && orderB ops r

def nodupB : List Nat → Bool
  | [] => true
  | a :: r => !r.contains a && nodupB r

/-- Parts: one that stands in its row, and those that only read and wait for it. -/
abbrev Segs := List (Nat × List Nat)
def heads : Segs → List Nat
  | [] => []
  | s :: r => s.1 :: heads r
def zids : Segs → List Nat
  | [] => []
  | s :: r => s.2 ++ zids r
def sids : Segs → List Nat
  | [] => []
  | s :: r => s.1 :: (s.2 ++ sids r)

def segB (ops : Array Oper) (ms : List Nat) : List Nat → Segs → Bool
  | _, [] => true
  | zv, s :: r => (match dstOf ops s.1 with
      | some d => zv.all fun z => !(looks ops z).contains d || wt ms s.1 z
      | none => true) && (s.2.all fun z => wt ms z s.1) && segB ops ms (zv ++ s.2) r
def segP (ops : Array Oper) : List Nat → Segs → Prop
  | _, [] => True
  | zv, s :: r => (∀ d, dstOf ops s.1 = some d → ∀ z, z ∈ zv → d ∈ looks ops z → Waits ops s.1 z) ∧ (∀ z, z ∈ s.2 → Waits ops z s.1) ∧ segP ops (zv ++ s.2) r

theorem segB_P {ops : Array Oper} : ∀ {zv : List Nat} {ss : Segs}, segB ops (mks ops) zv ss = true → segP ops zv ss
  | _, [], _ => trivial
  | zv, s :: r, h => by
    simp only [segB, Bool.and_eq_true] at h
    obtain ⟨⟨h1, h2⟩, h3⟩ := h
    refine ⟨fun d hd z hz hl => ?_, fun z hz => mks_wt (List.all_eq_true.1 h2 z hz), segB_P h3⟩
    simp only [hd] at h1
    have := List.all_eq_true.1 h1 z hz
    simp only [hl, List.contains_eq_mem, decide_true, Bool.not_true, Bool.false_or] at this
    exact mks_wt this
theorem chainB_P {ops : Array Oper} : ∀ {l : List Nat}, chainB (mks ops) l = true → chainP ops l
  | [], _ => trivial
  | [_], _ => trivial
  | a :: b :: r, h => by
    simp only [chainB, Bool.and_eq_true] at h
    exact ⟨mks_wt h.1, chainB_P h.2⟩

def regC (n : Nat) (ops : Array Oper) (ms : List Nat) (zs : List Nat) (ss : Segs) (m : Nat) (za is : List Nat) : Bool :=
  (List.range ops.size).all (fun j => (za.contains j || is.contains j) && !(za.contains j && is.contains j)) &&
  is.all (fun j => decide (j < ops.size)) && za.all (fun j => decide (j < ops.size)) && nodupB is && nodupB za &&
  (List.range ops.size).all (fun i => match dstOf ops i with
    | some d => decide (d < n) && (List.range ops.size).all fun j => j == i || dstOf ops j != some d
    | none => true) &&
  za.all (fun z => match dstOf ops z with
    | some d => (List.range ops.size).all fun j => !(looks ops j).contains d || wt ms j z
    | none => true) &&
  segB ops ms zs ss &&
  chainB ms is && orderB ops za &&
  (is.drop m).all (fun i => za.all fun z => wt ms i z) &&
  (List.range ops.size).all (fun j => match ops[j]? with
    | some o => o.after.all fun e => !Region.binds .any e || decide (e.on < j)
    | none => true)
def regB (n : Nat) (ops : Array Oper) (zs : List Nat) (ss : Segs) (m : Nat) : Bool := regC n ops (mks ops) zs ss m (zs ++ zids ss) (heads ss)

section
variable (P : Program) (n : Nat) (ops : Array Oper) (base : Nat) (hp0 : Hp) (K : Fr → Hp → Prop)

def SaW (hp' : Hp) : Prop := ∀ p, p ∈ hp0 → lk p.1 hp' = lk p.1 hp0

def zOp (fr : Fr) (N : Nat) (op : Op) (next : AV → Prop) : Prop :=
  if stillKind P op = true then opW P fr hp0 N op (fun v _ => next v) else ∃ v, Still P fr hp0 op v ∧ next v

/-- The operations that only read. -/
def zW (C : Fr → Prop) : List Nat → Fr → Prop
  | [], fr => C fr
  | z :: r, fr => match ops[z]? with
    | some o => (match o.guard with
      | none => zOp P hp0 fr base o.op fun v => zW C r (putFr fr o.dst v)
      | some (g, want) => (match (ops[g]?).bind (·.dst) with
        | some d => (match fv d fr with
          | .d (.bool b) => (b = want → zOp P hp0 fr base o.op fun v => zW C r (putFr fr o.dst v)) ∧ (b = !want → zW C r (putFr fr o.dst (.tup [])))
          | .tup [] => zW C r (putFr fr o.dst (.tup []))
          | _ => False)
        | none => False))
    | none => False

/-- The operations that stand in one order, each with those that only read and wait for it. -/
def chW : Segs → Nat → Fr → Hp → Prop
  | [], _, fr, hp => K fr hp
  | s :: r, m, fr, hp => match ops[s.1]? with
    | some o => (match o.guard with
      | none => opW P fr hp (base + 32 * s.1) o.op fun v hp' => (m ≠ 0 → SaW hp0 hp') ∧ zW P ops base hp0 (fun fr => chW r (m - 1) fr hp') s.2 (putFr fr o.dst v)
      | some (g, want) => (match (ops[g]?).bind (·.dst) with
        | some d => (match fv d fr with
          | .d (.bool b) => (b = want → opW P fr hp (base + 32 * s.1) o.op fun v hp' => (m ≠ 0 → SaW hp0 hp') ∧ zW P ops base hp0 (fun fr => chW r (m - 1) fr hp') s.2 (putFr fr o.dst v)) ∧
              (b = !want → zW P ops base hp0 (fun fr => chW r (m - 1) fr hp) s.2 (putFr fr o.dst (.tup [])))
          | .tup [] => zW P ops base hp0 (fun fr => chW r (m - 1) fr hp) s.2 (putFr fr o.dst (.tup []))
          | _ => False)
        | none => False))
    | none => False

def ZOk (fr : Fr) (v : AV) (o : Oper) : Prop :=
  match o.guard with
  | none => Still P fr hp0 o.op v
  | some (g, want) => ∃ d, (ops[g]?).bind (·.dst) = some d ∧ ((∃ b, fv d fr = .d (.bool b) ∧ (b = want → Still P fr hp0 o.op v) ∧ (b = !want → v = .tup [])) ∨ (fv d fr = .tup [] ∧ v = .tup []))

def ZFact (z : Nat) (fr : Fr) : Prop := ∃ v o, ops[z]? = some o ∧ (∀ d, o.dst = some d → fv d fr = v) ∧ ZOk P ops hp0 fr v o
end

section
variable {P : Program} {c : Ctx} {ops : Array Oper} {base : Nat} {hp0 : Hp} {K : Fr → Hp → Prop} {fr fr' : Fr}

theorem ev_looks {o : Oper} (h : ∀ t, t ∈ o.looksAt ops → fv t fr = fv t fr') : ∀ x, x ∈ o.op.operands → ev fr x = ev fr' x := by
  intro x hx
  cases x with
  | tmp t =>
    refine h t ?_
    unfold Oper.looksAt
    rw [List.mem_append]
    left
    rw [List.mem_filterMap]
    exact ⟨.tmp t, by simpa using hx, rfl⟩
  | _ => rfl

theorem guard_looks {o : Oper} {g : Nat} {want : Bool} {d : Tmp} (hg : o.guard = some (g, want)) (hd : (ops[g]?).bind (·.dst) = some d) : d ∈ o.looksAt ops := by
  unfold Oper.looksAt
  rw [List.mem_append]
  right
  simp [hg, hd]

theorem still_congr {o : Oper} {v : AV} (h : ∀ t, t ∈ o.looksAt ops → fv t fr = fv t fr') (hs : Still P fr hp0 o.op v) : Still P fr' hp0 o.op v := by
  intro hp' N' K' ha hk
  rw [← opW_congr (ev_looks h)]
  exact hs hp' N' K' ha hk

theorem zok_congr {o : Oper} {v : AV} (h : ∀ t, t ∈ o.looksAt ops → fv t fr = fv t fr') (hz : ZOk P ops hp0 fr v o) : ZOk P ops hp0 fr' v o := by
  unfold ZOk at hz ⊢
  split at hz
  · exact still_congr h hz
  · rename_i g want hg
    obtain ⟨d, h1, hz⟩ := hz
    have e := h d (guard_looks hg h1)
    rcases hz with ⟨b, h2, h3, h4⟩ | ⟨h2, h3⟩
    · exact ⟨d, h1, .inl ⟨b, by rw [← e]; exact h2, fun q => still_congr h (h3 q), h4⟩⟩
    · exact ⟨d, h1, .inr ⟨by rw [← e]; exact h2, h3⟩⟩

theorem fv_put {dst : Option Tmp} {v : AV} {t : Nat} (h : dst ≠ some t) : fv t (putFr fr dst v) = fv t fr := by
  cases dst with
  | none => rfl
  | some d =>
    simp only [putFr, fv_cons]
    rw [if_neg (fun e => h (by rw [e]))]

theorem fv_put_same {d : Tmp} {v : AV} : fv d (putFr fr (some d) v) = v := by simp [putFr, fv_cons]

theorem zW_facts {C : Fr → Prop} (hu : ∀ i j d, dstOf ops i = some d → dstOf ops j = some d → i = j) : ∀ (zs : List Nat) (fr : Fr), orderB ops zs = true → nodupB zs = true → zW P ops base hp0 C zs fr →
    ∃ frZ, C frZ ∧ (∀ t, (∀ z, z ∈ zs → dstOf ops z ≠ some t) → fv t frZ = fv t fr) ∧ ∀ z, z ∈ zs → ZFact P ops hp0 z frZ
  | [], fr, _, _, h => ⟨fr, h, fun _ _ => rfl, by simp⟩
  | z :: r, fr, ho, hn, h => by
    simp only [orderB, Bool.and_eq_true] at ho
    simp only [nodupB, Bool.and_eq_true] at hn
    obtain ⟨ho1, ho2⟩ := ho
    simp only [zW] at h
    cases hz : ops[z]? with
    | none => rw [hz] at h; exact h.elim
    | some o =>
      rw [hz] at h
      simp only at h
      have hdz : dstOf ops z = o.dst := by simp [dstOf, hz]
      have hlz : looks ops z = o.looksAt ops := by simp [looks, hz]
      -- what is read is put by none of these
      have hno : ∀ y, y ∈ z :: r → ∀ t, t ∈ o.looksAt ops → dstOf ops y ≠ some t := by
        intro y hy t ht he
        have := List.all_eq_true.1 ho1 y hy
        simp only [he, hlz, Bool.not_eq_true', List.contains_eq_mem, decide_eq_false_iff_not] at this
        exact this ht
      -- from one value
      have go : ∀ v, ZOk P ops hp0 fr v o → zW P ops base hp0 C r (putFr fr o.dst v) → ∃ frZ, C frZ ∧ (∀ t, (∀ y, y ∈ z :: r → dstOf ops y ≠ some t) → fv t frZ = fv t fr) ∧ ∀ y, y ∈ z :: r → ZFact P ops hp0 y frZ := by
        intro v hv hrest
        obtain ⟨frZ, h1, h2, h3⟩ := zW_facts hu r _ ho2 hn.2 hrest
        refine ⟨frZ, h1, fun t ht => ?_, fun y hy => ?_⟩
        · rw [h2 t fun y hy => ht y (List.mem_cons_of_mem _ hy)]
          exact fv_put (by rw [← hdz]; exact ht z (List.mem_cons_self ..))
        · rcases List.mem_cons.1 hy with rfl | hy
          · refine ⟨v, o, hz, fun d hd => ?_, zok_congr (fun t ht => ?_) hv⟩
            · rw [h2 d fun y' hy' he => ?_]
              · rw [hd]; exact fv_put_same
              · have := hu y' y d he (by rw [hdz]; exact hd)
                subst this
                have hn1 := hn.1
                simp only [Bool.not_eq_true', List.contains_eq_mem, decide_eq_false_iff_not] at hn1
                exact hn1 hy'
            · rw [h2 t fun y' hy' => hno y' (List.mem_cons_of_mem _ hy') t ht, fv_put]
              rw [← hdz]
              exact hno _ (List.mem_cons_self ..) t ht
          · exact h3 y hy
      have one : ∀ next : AV → Prop, zOp P hp0 fr base o.op next → ∃ v, Still P fr hp0 o.op v ∧ next v := by
        intro next hq
        unfold zOp at hq
        split at hq
        · rename_i hk
          obtain ⟨v, q1, q2⟩ := still_snd hk hq
          exact ⟨v, q2, q1⟩
        · exact hq
      split at h
      · rename_i hg
        obtain ⟨v, q1, q2⟩ := one _ h
        exact go v (by unfold ZOk; rw [hg]; exact q1) q2
      · rename_i g want hg
        split at h
        · rename_i d hd
          split at h
          · rename_i b hb
            by_cases hbw : b = want
            · obtain ⟨v, q1, q2⟩ := one _ (h.1 hbw)
              exact go v (by unfold ZOk; rw [hg]; exact ⟨d, hd, .inl ⟨b, hb, fun _ => q1, fun h' => by rw [hbw] at h'; cases want <;> cases h'⟩⟩) q2
            · have hbn : b = !want := by cases b <;> cases want <;> simp_all
              exact go (.tup []) (by unfold ZOk; rw [hg]; exact ⟨d, hd, .inl ⟨b, hb, fun h' => absurd h' hbw, fun _ => rfl⟩⟩) (h.2 hbn)
          · rename_i hb
            exact go (.tup []) (by unfold ZOk; rw [hg]; exact ⟨d, hd, .inr ⟨hb, rfl⟩⟩) h
          · exact h.elim
        · exact h.elim

/-- Some temporaries are not looked at. -/
theorem masked (fr : Fr) : ∀ l : List Tmp, ∃ frm : Fr, (∀ t, t ∈ l → fv t frm = .any) ∧ ∀ t, t ∉ l → fv t frm = fv t fr
  | [] => ⟨fr, by simp, fun _ _ => rfl⟩
  | d :: l => by
    obtain ⟨frm, h1, h2⟩ := masked fr l
    refine ⟨(d, .any) :: frm, fun t ht => ?_, fun t ht => ?_⟩
    · rw [fv_cons]
      split
      · rfl
      · rename_i hne
        rcases List.mem_cons.1 ht with rfl | h
        · exact absurd rfl hne
        · exact h1 t h
    · rw [fv_cons, if_neg (fun e => ht (by rw [← e]; exact List.mem_cons_self ..))]
      exact h2 t fun h => ht (List.mem_cons_of_mem _ h)

/-- How many have not come up. -/
def unl (listed : Array Bool) : Nat := (listed.toList.filter fun b => !b).length

theorem unl_set {listed : Array Bool} {i : Nat} (h : listed.getD i true = false) : unl (listed.setIfInBounds i true) + 1 = unl listed := by
  unfold unl
  rw [Array.toList_setIfInBounds]
  have h' : listed.toList[i]? = some false := by
    cases hi : listed[i]? with
    | none => simp [Array.getD_eq_getD_getElem?, hi] at h
    | some b => simp [Array.getD_eq_getD_getElem?, hi] at h; subst h; simpa using hi
  clear h
  generalize listed.toList = l at h'
  induction l generalizing i with
  | nil => simp at h'
  | cons b r ih =>
    cases i with
    | zero => simp at h'; subst h'; simp
    | succ i =>
      simp only [List.getElem?_cons_succ] at h'
      have := ih h'
      simp only [List.set_cons_succ, List.filter_cons]
      split <;> simp_all <;> omega

/-- A region's state. -/
structure RInv (P : Program) (c : Ctx) (ops : Array Oper) (base : Nat) (hp0 : Hp) (za zs rest : List Nat) (listed : Array Bool) (fr : Fr) (hp : Hp) (a : Act) (w : World) : Prop where
  size : listed.size = ops.size
  closed : ∀ j o, ops[j]? = some o → listed.getD j false = true → ∀ e, e ∈ o.after → Region.binds .any e = true → listed.getD e.on false = true
  un : ∀ j, j ∈ rest → listed.getD j true = false
  done : ∀ j, j < ops.size → j ∉ zs → j ∉ rest → listed.getD j false = true
  def_ : a.defers = []
  tmps : a.tmps.size = c.n
  sim : ∃ U σ, Rel c hp U σ w ∧ Hist c hp U σ w ∧ (∀ k, U k → k < base ∨ ∃ j, base + 32 * j ≤ k ∧ k < base + 32 * j + 32 ∧ listed.getD j false = true) ∧
    ∀ t, (∀ z, z ∈ zs → listed.getD z true = false → dstOf ops z ≠ some t) → AIs w (Sof c w σ hp) σ hp U (fv t fr) (a.tmps.getD t undef)
  facts : ∀ z, z ∈ zs → listed.getD z true = false → ZFact P ops hp0 z fr
  sa : Agree hp0 hp ∨ ∀ z, z ∈ za → listed.getD z true = true

theorem waits_listed {listed : Array Bool} (hc : ∀ j o, ops[j]? = some o → listed.getD j false = true → ∀ e, e ∈ o.after → Region.binds .any e = true → listed.getD e.on false = true) {j i : Nat} (hw : Waits ops j i) :
    (∀ o, ops[j]? = some o → ∀ e, e ∈ o.after → Region.binds .any e = true → listed.getD e.on false = true) → listed.getD i false = true := by
  induction hw with
  | edge ho he hb => intro h; exact h _ ho _ he hb
  | step ho he hb _ ih => intro h; exact ih fun o' ho' => hc _ o' ho' (h _ ho _ he hb)

theorem getD_true_of {listed : Array Bool} {i : Nat} (h : listed.getD i false = true) : listed.getD i true = true := by
  simp only [Array.getD_eq_getD_getElem?] at h ⊢
  cases hi : listed[i]? with
  | none => rfl
  | some b => rw [hi] at h; simpa using h

theorem getD_false_of {listed : Array Bool} {i : Nat} (hi : i < listed.size) (h : listed.getD i false = false) : listed.getD i true = false := by
  simp only [Array.getD_eq_getD_getElem?] at h ⊢
  rw [Array.getElem?_eq_getElem hi] at h ⊢
  simpa using h

theorem getD_set_iff {listed : Array Bool} {i j : Nat} (d : Bool) (hi : i < listed.size) : (listed.setIfInBounds i true).getD j d = if i = j then true else listed.getD j d := by
  simp only [Array.getD_eq_getD_getElem?, Array.getElem?_setIfInBounds]
  split
  · rename_i h; subst h; simp [hi]
  · rfl

theorem chain_pred : ∀ (l : List Nat) (j : Nat), chainP ops (j :: l) → ∀ i, i ∈ l → ∃ p, p ∈ j :: l ∧ Waits ops i p
  | [], _, _, _, h => by simp at h
  | b :: r, j, hc, i, hi => by
    rcases List.mem_cons.1 hi with rfl | h
    · exact ⟨j, List.mem_cons_self .., hc.1⟩
    · obtain ⟨p, h1, h2⟩ := chain_pred r b hc.2 i h
      exact ⟨p, List.mem_cons_of_mem _ h1, h2⟩

theorem heads_sids : ∀ {ss : Segs} {i : Nat}, i ∈ heads ss → i ∈ sids ss
  | s :: r, i, h => by
    rcases List.mem_cons.1 h with rfl | h
    · exact List.mem_cons_self ..
    · exact List.mem_cons_of_mem _ (List.mem_append.2 (.inr (heads_sids h)))
theorem zids_sids : ∀ {ss : Segs} {i : Nat}, i ∈ zids ss → i ∈ sids ss
  | s :: r, i, h => by
    rcases List.mem_append.1 h with h | h
    · exact List.mem_cons_of_mem _ (List.mem_append.2 (.inl h))
    · exact List.mem_cons_of_mem _ (List.mem_append.2 (.inr (zids_sids h)))
theorem sids_or : ∀ {ss : Segs} {i : Nat}, i ∈ sids ss → i ∈ heads ss ∨ i ∈ zids ss
  | s :: r, i, h => by
    rcases List.mem_cons.1 h with rfl | h
    · exact .inl (List.mem_cons_self ..)
    · rcases List.mem_append.1 h with h | h
      · exact .inr (List.mem_append.2 (.inl h))
      · rcases sids_or h with h | h
        · exact .inl (List.mem_cons_of_mem _ h)
        · exact .inr (List.mem_append.2 (.inr h))
/-- One of a later part waits for one that stands in the row. -/
theorem seg_wait : ∀ {zv : List Nat} {ss : Segs} {i : Nat}, segP ops zv ss → i ∈ zids ss → ∃ p, p ∈ heads ss ∧ Waits ops i p
  | zv, s :: r, i, h, hi => by
    rcases List.mem_append.1 hi with h1 | h1
    · exact ⟨s.1, List.mem_cons_self .., h.2.1 i h1⟩
    · obtain ⟨p, h2, h3⟩ := seg_wait h.2.2 h1
      exact ⟨p, List.mem_cons_of_mem _ h2, h3⟩
theorem orderB_app : ∀ {a b : List Nat}, orderB ops (a ++ b) = true → orderB ops a = true ∧ orderB ops b = true ∧ ∀ z, z ∈ a → ∀ y, y ∈ b → ∀ t, t ∈ looks ops z → dstOf ops y ≠ some t
  | [], b, h => ⟨rfl, h, by simp⟩
  | z :: r, b, h => by
    simp only [List.cons_append, orderB, Bool.and_eq_true] at h
    obtain ⟨h1, h2⟩ := h
    obtain ⟨k1, k2, k3⟩ := orderB_app h2
    refine ⟨?_, k2, fun x hx y hy t ht he => ?_⟩
    · simp only [orderB, Bool.and_eq_true]
      refine ⟨List.all_eq_true.2 fun y hy => List.all_eq_true.1 h1 y ?_, k1⟩
      rcases List.mem_cons.1 hy with rfl | h
      · exact List.mem_cons_self ..
      · exact List.mem_cons_of_mem _ (List.mem_append.2 (.inl h))
    · rcases List.mem_cons.1 hx with rfl | hx
      · have := List.all_eq_true.1 h1 y (List.mem_cons_of_mem _ (List.mem_append.2 (.inr hy)))
        simp only [he, Bool.not_eq_true', List.contains_eq_mem, decide_eq_false_iff_not] at this
        exact this ht
      · exact k3 x hx y hy t ht he
theorem nodupB_app : ∀ {a b : List Nat}, nodupB (a ++ b) = true → nodupB a = true ∧ nodupB b = true ∧ ∀ z, z ∈ a → z ∉ b
  | [], b, h => ⟨rfl, h, by simp⟩
  | z :: r, b, h => by
    simp only [List.cons_append, nodupB, Bool.and_eq_true, Bool.not_eq_true', List.contains_eq_mem, decide_eq_false_iff_not, List.mem_append, not_or] at h
    obtain ⟨⟨h1, h1'⟩, h2⟩ := h
    obtain ⟨k1, k2, k3⟩ := nodupB_app h2
    refine ⟨by simp [nodupB, h1, k1], k2, fun x hx => ?_⟩
    rcases List.mem_cons.1 hx with rfl | hx
    · exact h1'
    · exact k3 x hx

theorem sa_agree {hp' : Hp} (h : SaW hp0 hp') : Agree hp0 hp' := by
  intro id b hb
  have hmem : ∀ {l : Hp}, lk id l = some b → (id, b) ∈ l := by
    intro l
    induction l with
    | nil => intro h; cases h
    | cons p t ih =>
      intro h
      obtain ⟨m, u⟩ := p
      simp only [lk] at h
      split at h
      · rename_i e; injection h with h; subst e; subst h; exact List.mem_cons_self ..
      · exact List.mem_cons_of_mem _ (ih h)
  have := h _ (hmem hb)
  simp only at this
  rw [this, hb]

structure RegOk (n : Nat) (ops : Array Oper) (za is : List Nat) : Prop where
  part : ∀ j, j < ops.size → (j ∈ za ∨ j ∈ is) ∧ ¬ (j ∈ za ∧ j ∈ is)
  inb : ∀ j, j ∈ is → j < ops.size
  lt : ∀ i d, dstOf ops i = some d → d < n
  uniq : ∀ i j d, dstOf ops i = some d → dstOf ops j = some d → i = j
  zdst : ∀ z, z ∈ za → ∀ d, dstOf ops z = some d → ∀ j, d ∈ looks ops j → Waits ops j z
  low : ∀ j o, ops[j]? = some o → ∀ e, e ∈ o.after → Region.binds .any e = true → e.on < j

structure RegMore (ops : Array Oper) (zs : List Nat) (ss : Segs) (m : Nat) (za is : List Nat) : Prop where
  nis : nodupB is = true
  nza : nodupB za = true
  seg : segP ops zs ss
  chain : chainP ops is
  order : orderB ops za = true
  tail : ∀ i, i ∈ is.drop m → ∀ z, z ∈ za → Waits ops i z
  inz : ∀ z, z ∈ za → z < ops.size

theorem regB_ok {n : Nat} {zs : List Nat} {ss : Segs} {m : Nat} (h : regB n ops zs ss m = true) : RegOk n ops (zs ++ zids ss) (heads ss) ∧ RegMore ops zs ss m (zs ++ zids ss) (heads ss) := by
  unfold regB at h
  generalize zs ++ zids ss = za at h
  generalize heads ss = is at h
  simp only [regC, Bool.and_eq_true] at h
  obtain ⟨⟨⟨⟨⟨⟨⟨⟨⟨⟨⟨h1, h2⟩, h2b⟩, h3⟩, h3b⟩, h4⟩, h5⟩, h6⟩, h7⟩, h8⟩, h9⟩, h10⟩ := h
  have inr : ∀ {i d}, dstOf ops i = some d → i ∈ List.range ops.size := by
    intro i d hi
    rw [List.mem_range]
    rcases Nat.lt_or_ge i ops.size with h | h
    · exact h
    · simp [dstOf, Array.getElem?_eq_none h] at hi
  refine ⟨⟨fun j hj => ?_, fun j hj => ?_, fun i d hi => ?_, fun i j d hi hj => ?_, fun z hz d hd j hj => ?_, fun j o ho e he hb => ?_⟩, ⟨h3, h3b, segB_P h6, chainB_P h7, h8, fun i hi z hz => ?_, fun z hz => by simpa using List.all_eq_true.1 h2b z hz⟩⟩
  · have := List.all_eq_true.1 h1 j (List.mem_range.2 hj)
    simp at this
    exact ⟨this.1, fun h => by rcases this.2 with h' | h' <;> simp_all⟩
  · simpa using List.all_eq_true.1 h2 j hj
  · have := List.all_eq_true.1 h4 i (inr hi)
    simp only [hi, Bool.and_eq_true, decide_eq_true_eq] at this
    exact this.1
  · have := List.all_eq_true.1 h4 i (inr hi)
    simp only [hi, Bool.and_eq_true] at this
    have := List.all_eq_true.1 this.2 j (inr hj)
    simp only [hj, bne_self_eq_false, Bool.or_false, beq_iff_eq] at this
    exact this.symm
  · have := List.all_eq_true.1 h5 z hz
    simp only [hd] at this
    have hjr : j ∈ List.range ops.size := by
      rw [List.mem_range]
      rcases Nat.lt_or_ge j ops.size with h | h
      · exact h
      · simp [looks, Array.getElem?_eq_none h] at hj
    have := List.all_eq_true.1 this j hjr
    simp only [hj, List.contains_eq_mem, decide_true, Bool.not_true, Bool.false_or] at this
    exact mks_wt this
  · have hjr : j ∈ List.range ops.size := by
      rw [List.mem_range]
      exact (Array.getElem?_eq_some_iff.1 ho).1
    have := List.all_eq_true.1 h10 j hjr
    simp only [ho] at this
    have := Array.all_eq_true_iff_forall_mem.1 this e he
    simpa [hb] using this
  · have := List.all_eq_true.1 h9 i hi
    exact mks_wt (List.all_eq_true.1 this z hz)

theorem any_put {frm : Fr} {hp : Hp} {U : Nat → Prop} {N : Nat} {σ : Nat → Option Nat} {a : Act} {w : World} {dst : Option Tmp} (hd : a.defers = []) (hn : a.tmps.size = c.n) (hr : Rel c hp U σ w) (hh : Hist c hp U σ w)
    (hf : ∀ t, AIs w (Sof c w σ hp) σ hp U (fv t frm) (a.tmps.getD t undef)) : SimU c (putFr frm dst (.tup [])) hp (unite U N) (a.put dst undef) w := by
  cases dst with
  | none => exact ⟨hd, hn, σ, hr.more, fun n => (hf n).step Step.more, hh.trans Step.more⟩
  | some d =>
    refine ⟨hd, by simp [Act.put, hn], σ, hr.more, fun n => ?_, hh.trans Step.more⟩
    simp only [putFr, Act.put, fv_cons]
    by_cases h : d = n
    · subst h
      have hu : (a.tmps.setIfInBounds d undef).getD d undef = .tuple #[] := by
        simp only [Array.getD_eq_getD_getElem?, Array.getElem?_setIfInBounds, if_true]
        split <;> rfl
      rw [hu]
      simp only [if_true]
      exact .tup [] #[] rfl (by simp)
    · simp only [if_neg h]
      have : (a.tmps.setIfInBounds d undef).getD n undef = a.tmps.getD n undef := by
        simp only [Array.getD_eq_getD_getElem?, Array.getElem?_setIfInBounds, if_neg h]
      rw [this]
      exact (hf n).step Step.more

set_option maxHeartbeats 1000000 in
/-- Every order. -/
theorem reg_go {za is : List Nat} {Q : Exit → Act → World → Prop} (hB : RegOk c.n ops za is)
    (hQ : ∀ fr hp a w U, K fr hp → (∀ k, U k → k < base + 32 * ops.size) → SimU c fr hp U a w → Q .normal a w) :
    ∀ (fuel : Nat) (listed : Array Bool) (zs : List Nat) (rest : Segs) (m : Nat) (fr : Fr) (hp : Hp) (a : Act) (w : World), unl listed ≤ fuel → (∀ i, i ∈ (heads rest).drop m → ∀ z, z ∈ za → Waits ops i z) → chainP ops (heads rest) → nodupB (heads rest) = true → (∀ i, i ∈ heads rest → i ∈ is) →
      segP ops zs rest → orderB ops (zs ++ zids rest) = true → nodupB (zs ++ zids rest) = true → (∀ z, z ∈ zs ++ zids rest → z ∈ za) →
      RInv P c ops base hp0 za zs (sids rest) listed fr hp a w → chW P ops base hp0 K rest m fr hp → wpAny P .any ops Q fuel listed a w := by
  have notboth : ∀ {listed : Array Bool} {i : Nat}, listed.getD i true = false → listed.getD i false = true → False := by
    intro listed i h1 h2
    rw [getD_true_of h2] at h1
    cases h1
  -- where nothing is left
  have fin : ∀ (listed : Array Bool) (zs : List Nat) (rest : Segs) (m : Nat) (fr : Fr) (hp : Hp) (a : Act) (w : World), (∀ i, i ∈ heads rest → i ∈ is) → RInv P c ops base hp0 za zs (sids rest) listed fr hp a w → chW P ops base hp0 K rest m fr hp → Region.ready .any ops listed = [] → Q .normal a w := by
    intro listed zs rest m fr hp a w hsub hI hW hr0
    have all : ∀ k j, j ≤ k → j < ops.size → listed.getD j false = true := by
      intro k
      induction k with
      | zero =>
        intro j hj hjs
        cases hl : listed.getD j false with
        | true => rfl
        | false =>
          have hmem : j ∈ Region.ready .any ops listed := mem_ready.2 ⟨getD_false_of (by rw [hI.size]; exact hjs) hl, ops[j], Array.getElem?_eq_getElem hjs, fun e he hb => by
            have := hB.low j _ (Array.getElem?_eq_getElem hjs) e he hb
            omega⟩
          rw [hr0] at hmem
          simp at hmem
      | succ k ih =>
        intro j hj hjs
        cases hl : listed.getD j false with
        | true => rfl
        | false =>
          have hmem : j ∈ Region.ready .any ops listed := mem_ready.2 ⟨getD_false_of (by rw [hI.size]; exact hjs) hl, ops[j], Array.getElem?_eq_getElem hjs, fun e he hb => by
            have := hB.low j _ (Array.getElem?_eq_getElem hjs) e he hb
            exact ih e.on (by omega) (by omega)⟩
          rw [hr0] at hmem
          simp at hmem
    have hnil : rest = [] := by
      cases rest with
      | nil => rfl
      | cons j r =>
        have h1 := hI.un j.1 (List.mem_cons_self ..)
        exact (notboth h1 (all j.1 j.1 (Nat.le_refl _) (hB.inb j.1 (hsub j.1 (List.mem_cons_self ..))))).elim
    subst hnil
    simp only [chW] at hW
    obtain ⟨U, σ, hr, hh, hU, hf⟩ := hI.sim
    refine hQ fr hp a w U hW (fun k hk => ?_) ⟨hI.def_, hI.tmps, σ, hr, fun t => hf t fun z hz hun => ?_, hh⟩
    · rcases hU k hk with h | ⟨j, hj1, hj2, hj⟩
      · omega
      · have : j < listed.size := by
          rcases Nat.lt_or_ge j listed.size with h | h
          · exact h
          · simp [Array.getD_eq_getD_getElem?, Array.getElem?_eq_none h] at hj
        have := hI.size
        omega
    · intro he
      have : z < ops.size := by
        rcases Nat.lt_or_ge z ops.size with h | h
        · exact h
        · simp [dstOf, Array.getElem?_eq_none h] at he
      exact notboth hun (all z z (Nat.le_refl _) this)
  intro fuel
  induction fuel with
  | zero =>
    intro listed zs rest m fr hp a w hf ht hc hn hsub hsg hord hnz hza hI hW
    have hr0 : Region.ready .any ops listed = [] := by
      rw [List.eq_nil_iff_forall_not_mem]
      intro i hi
      have := unl_set (mem_ready.1 hi).1
      omega
    exact ⟨hr0, fin listed zs rest m fr hp a w hsub hI hW hr0⟩
  | succ fuel ih =>
    intro listed zs rest m fr hp a w hfuel ht hc hn hsub hsg hord hnz hza hI hW
    refine ⟨fin listed zs rest m fr hp a w hsub hI hW, fun i hi => ?_⟩
    obtain ⟨hun, o, ho, haft⟩ := mem_ready.1 hi
    have his : i < ops.size := (Array.getElem?_eq_some_iff.1 ho).1
    have hil : i < listed.size := by rw [hI.size]; exact his
    have hdi : dstOf ops i = o.dst := by simp [dstOf, ho]
    have hli : looks ops i = o.looksAt ops := by simp [looks, ho]
    have hwl : ∀ z, Waits ops i z → listed.getD z false = true := fun z hz => waits_listed hI.closed hz fun o' ho' => by
      rw [ho] at ho'
      injection ho' with ho'
      subst ho'
      exact haft
    have hzza : ∀ z, z ∈ zs → z ∈ za := fun z hz => hza z (List.mem_append.2 (.inl hz))
    have hdst : dstOk c.n o.dst := by
      unfold dstOk
      cases hd : o.dst with
      | none => trivial
      | some d => exact hB.lt i d (by rw [hdi, hd])
    have hun' : ∀ z, (listed.setIfInBounds i true).getD z true = false → listed.getD z true = false ∧ z ≠ i := by
      intro z hz
      rw [getD_set_iff true hil] at hz
      split at hz
      · cases hz
      · rename_i hne; exact ⟨hz, fun h => hne h.symm⟩
    have hclosed' : ∀ j o', ops[j]? = some o' → (listed.setIfInBounds i true).getD j false = true → ∀ e, e ∈ o'.after → Region.binds .any e = true → (listed.setIfInBounds i true).getD e.on false = true := by
      intro j o' hj hl e he hb
      rw [getD_set_iff false hil] at hl ⊢
      split
      · rfl
      · split at hl
        · rename_i hij
          subst hij
          rw [ho] at hj
          injection hj with hj
          subst hj
          exact haft e he hb
        · exact hI.closed j o' hj hl e he hb
    have hfuel' : unl (listed.setIfInBounds i true) ≤ fuel := by
      have := unl_set hun
      omega
    obtain ⟨U, σ, hr, hh, hU, hf⟩ := hI.sim
    have hNU : Free U (base + 32 * i) := by
      intro k k1 k2 h
      rcases hU _ h with h | ⟨j, hj, hj2, hl⟩
      · omega
      · have : j = i := by omega
        subst this
        exact notboth hun hl
    have hU' : ∀ k, unite U (base + 32 * i) k → k < base ∨ ∃ j, base + 32 * j ≤ k ∧ k < base + 32 * j + 32 ∧ (listed.setIfInBounds i true).getD j false = true := by
      rintro k (h | h)
      · rcases hU k h with h | ⟨j, h1, h1', h2⟩
        · exact .inl h
        · exact .inr ⟨j, h1, h1', by rw [getD_set_iff false hil]; split <;> simp [h2]⟩
      · exact .inr ⟨i, h.1, h.2, by rw [getD_set_iff false hil]; simp⟩
    obtain ⟨frm, hm1, hm2⟩ := masked fr (zs.filterMap fun z => if listed.getD z true = true then none else dstOf ops z)
    have hml : ∀ t, t ∈ (zs.filterMap fun z => if listed.getD z true = true then none else dstOf ops z) ↔ ∃ z, z ∈ zs ∧ listed.getD z true = false ∧ dstOf ops z = some t := by
      intro t
      rw [List.mem_filterMap]
      constructor
      · rintro ⟨z, hz, h⟩
        split at h
        · cases h
        · rename_i hne
          exact ⟨z, hz, by simpa using hne, h⟩
      · rintro ⟨z, hz, h1, h2⟩
        exact ⟨z, hz, by simp [h1, h2]⟩
    have hfm : ∀ t, AIs w (Sof c w σ hp) σ hp U (fv t frm) (a.tmps.getD t undef) := by
      intro t
      by_cases hm : t ∈ (zs.filterMap fun z => if listed.getD z true = true then none else dstOf ops z)
      · rw [hm1 t hm]; exact .any _
      · rw [hm2 t hm]
        exact hf t fun z hz hzu he => hm ((hml t).2 ⟨z, hz, hzu, he⟩)
    have hlook : ∀ t, t ∈ o.looksAt ops → fv t frm = fv t fr := by
      intro t ht'
      refine hm2 t fun hm => ?_
      obtain ⟨z, hz, hzu, he⟩ := (hml t).1 hm
      exact notboth hzu (hwl z (hB.zdst z (hzza z hz) t he i (by rw [hli]; exact ht')))
    have hlook' : ∀ t, t ∈ o.looksAt ops → fv t fr = fv t frm := fun t ht' => (hlook t ht').symm
    have hgu : ∀ {g want d}, o.guard = some (g, want) → (ops[g]?).bind (·.dst) = some d → fv d fr = .tup [] → ¬ (yielded ops a.tmps g = some want) := by
      intro g want d hg hd hb
      have hx := hfm d
      rw [hlook d (guard_looks hg hd), hb] at hx
      unfold yielded
      rw [hd]
      cases ht : a.tmps[d]? with
      | none => simp [ht]
      | some u =>
        have e : a.tmps.getD d undef = u := by simp [Array.getD_eq_getD_getElem?, ht]
        rw [e] at hx
        cases hx with
        | tup _ xs _ _ => simp [ht]
    have hgv : ∀ {g want d b}, o.guard = some (g, want) → (ops[g]?).bind (·.dst) = some d → fv d fr = .d (.bool b) → yielded ops a.tmps g = some b := by
      intro g want d b hg hd hb
      have hx := hfm d
      rw [hlook d (guard_looks hg hd), hb] at hx
      have hv := is_bool hx
      unfold yielded
      rw [hd]
      have hv' : a.tmps[d]?.getD undef = .bool b := by simpa using hv
      cases ht : a.tmps[d]? with
      | none => rw [ht] at hv'; cases hv'
      | some u => rw [ht] at hv'; simp at hv'; subst hv'; simp [ht]
    unfold wpOp
    simp only [ho]
    by_cases hz : i ∈ zs
    · -- one that only reads
      have hag : Agree hp0 hp := by
        rcases hI.sa with h | h
        · exact h
        · have := h i (hzza i hz); rw [hun] at this; cases this
      have hirest : i ∉ sids rest := fun h => by
        rcases sids_or h with h | h
        · exact (hB.part i his).2 ⟨hzza i hz, hsub i h⟩
        · exact (nodupB_app hnz).2.2 i hz h
      obtain ⟨v, o', ho', hdv, hzk⟩ := hI.facts i hz hun
      rw [ho] at ho'
      injection ho' with ho'
      subst ho'
      have next : ∀ a' w', SimU c (putFr frm o.dst v) hp (unite U (base + 32 * i)) a' w' → wpAny P .any ops Q fuel (listed.setIfInBounds i true) a' w' := by
        rintro a' w' ⟨q1, q2, σ', q3, q4, q5⟩
        refine ih _ zs rest m fr hp a' w' hfuel' ht hc hn hsub hsg hord hnz hza ⟨by simp [hI.size], hclosed', fun j hj => ?_, fun j hj hjz hjr => ?_, q1, q2, ⟨_, σ', q3, q5, hU', fun t htu => ?_⟩, fun z hz' hzu => hI.facts z hz' (hun' z hzu).1, .inl hag⟩ hW
        · rw [getD_set_iff true hil, if_neg (fun e => hirest (by rw [e]; exact hj))]
          exact hI.un j hj
        · rw [getD_set_iff false hil]
          split
          · rfl
          · exact hI.done j hj hjz hjr
        · have := q4 t
          by_cases hd : o.dst = some t
          · rw [hd, fv_put_same] at this
            rw [hdv t hd]
            exact this
          · rw [fv_put hd, hm2 t fun hm => ?_] at this
            · exact this
            · obtain ⟨z, hz', hzu, he⟩ := (hml t).1 hm
              refine htu z hz' ?_ he
              rw [getD_set_iff true hil, if_neg]
              · exact hzu
              · intro e; subst e; exact hd (by rw [← hdi]; exact he)
      have exec : Still P fr hp0 o.op v → o.wp P a w (wpAny P .any ops Q fuel (listed.setIfInBounds i true)) Q := by
        intro hs
        have hop := still_congr hlook' hs hp (base + 32 * i) (fun v' hp' => v' = v ∧ hp' = hp) hag ⟨rfl, rfl⟩
        have hok := opW_snd (o := o) hr (fun x => ev_is hfm x) hNU hop
        refine upon_ok hI.def_ hI.tmps hdst hfm hh hok fun v' hp' a' w' hK hS => ?_
        obtain ⟨rfl, rfl⟩ := hK
        exact next a' w' hS
      unfold ZOk at hzk
      split at hzk
      · rename_i hg
        rw [if_pos (by simp [Region.wanted, hg])]
        exact .inl (exec hzk)
      · rename_i g want hg
        obtain ⟨d, hd, ⟨b, hb, h1, h2⟩ | ⟨hb, hv⟩⟩ := hzk
        · have hy := hgv hg hd hb
          by_cases hbw : b = want
          · rw [if_pos (by simp [Region.wanted, hg, hy, hbw])]
            exact .inl (exec (h1 hbw))
          · rw [if_neg (by simp [Region.wanted, hg, hy, hbw])]
            have hv := h2 (by cases b <;> cases want <;> simp_all)
            subst hv
            exact next _ _ (any_put hI.def_ hI.tmps hr hh hfm)
        · have hy := hgu hg hd hb
          rw [if_neg (by simp [Region.wanted, hg, hy])]
          subst hv
          exact next _ _ (any_put hI.def_ hI.tmps hr hh hfm)
    · -- the next in the row
      have hir : i ∈ sids rest := by
        rcases Classical.em (i ∈ sids rest) with h | h
        · exact h
        · exact (notboth hun (hI.done i his hz h)).elim
      cases rest with
      | nil => simp [sids] at hir
      | cons s r =>
        obtain ⟨j, zj⟩ := s
        have hij : i = j := by
          have far : ∀ p, p ∈ heads ((j, zj) :: r) → Waits ops i p → False := fun p hp1 hp2 => notboth (hI.un p (heads_sids hp1)) (hwl p hp2)
          rcases sids_or hir with h | h
          · rcases List.mem_cons.1 h with h | h
            · exact h
            · obtain ⟨p, hp1, hp2⟩ := chain_pred (heads r) j hc i h
              exact (far p hp1 hp2).elim
          · obtain ⟨p, hp1, hp2⟩ := seg_wait hsg h
            exact (far p hp1 hp2).elim
        subst hij
        have hiza : i ∉ za := fun h => (hB.part i his).2 ⟨h, hsub i (List.mem_cons_self ..)⟩
        have hni : i ∉ heads r := by
          simp only [heads, nodupB, Bool.and_eq_true, Bool.not_eq_true', List.contains_eq_mem, decide_eq_false_iff_not] at hn
          exact hn.1
        have hns : i ∉ sids r := fun h => by
          rcases sids_or h with h | h
          · exact hni h
          · exact hiza (hza i (List.mem_append.2 (.inr (List.mem_append.2 (.inr h)))))
        have hnr : nodupB (heads r) = true := by
          simp only [heads, nodupB, Bool.and_eq_true] at hn
          exact hn.2
        have hcr : chainP ops (heads r) := by
          cases r with
          | nil => trivial
          | cons b r => exact hc.2
        have htr : ∀ k, k ∈ (heads r).drop (m - 1) → ∀ z, z ∈ za → Waits ops k z := by
          intro k hk
          refine ht k ?_
          cases m with
          | zero => exact List.mem_cons_of_mem _ (by simpa using hk)
          | succ m => simpa [heads] using hk
        have hord' : orderB ops ((zs ++ zj) ++ zids r) = true := by rw [List.append_assoc]; exact hord
        have hnz' : nodupB ((zs ++ zj) ++ zids r) = true := by rw [List.append_assoc]; exact hnz
        have hza' : ∀ z, z ∈ (zs ++ zj) ++ zids r → z ∈ za := by rw [List.append_assoc]; exact hza
        have hzj : ∀ z, z ∈ zj → z ∈ za := fun z hz' => hza' z (List.mem_append.2 (.inl (List.mem_append.2 (.inr hz'))))
        have hordj := orderB_app (orderB_app hord').1
        have hnzj := nodupB_app (nodupB_app hnz').1
        have hunj : ∀ z, z ∈ zj → listed.getD z true = false := fun z hz' => hI.un z (List.mem_cons_of_mem _ (List.mem_append.2 (.inl hz')))
        simp only [chW, ho] at hW
        have next : ∀ v hp' a' w', (m ≠ 0 → Agree hp0 hp' ∨ ∀ z, z ∈ za → listed.getD z true = true) → zW P ops base hp0 (fun fr => chW P ops base hp0 K r (m - 1) fr hp') zj (putFr fr o.dst v) → SimU c (putFr frm o.dst v) hp' (unite U (base + 32 * i)) a' w' → wpAny P .any ops Q fuel (listed.setIfInBounds i true) a' w' := by
          rintro v hp' a' w' hsa hW' ⟨q1, q2, σ', q3, q4, q5⟩
          obtain ⟨frZ, g1, g2, g3⟩ := zW_facts hB.uniq zj _ hordj.2.1 hnzj.2.1 hW'
          refine ih _ (zs ++ zj) r (m - 1) frZ hp' a' w' hfuel' htr hcr hnr (fun k hk => hsub k (List.mem_cons_of_mem _ hk)) hsg.2.2 hord' hnz' hza' ⟨by simp [hI.size], hclosed', fun k hk => ?_, fun k hk hkz hkr => ?_, q1, q2, ⟨_, σ', q3, q5, hU', fun t htu => ?_⟩, fun z hz' hzu => ?_, ?_⟩ g1
          · rw [getD_set_iff true hil, if_neg (fun e => hns (by rw [e]; exact hk))]
            exact hI.un k (List.mem_cons_of_mem _ (List.mem_append.2 (.inr hk)))
          · rw [getD_set_iff false hil]
            split
            · rfl
            · rename_i hne
              exact hI.done k hk (fun h => hkz (List.mem_append.2 (.inl h))) (fun h => by
                rcases List.mem_cons.1 h with h | h
                · exact hne h.symm
                · rcases List.mem_append.1 h with h | h
                  · exact hkz (List.mem_append.2 (.inr h))
                  · exact hkr h)
          · have hnj : ∀ z, z ∈ zj → dstOf ops z ≠ some t := fun z hz' => htu z (List.mem_append.2 (.inr hz')) (by
              rw [getD_set_iff true hil, if_neg (fun e => hiza (by rw [e]; exact hzj z hz'))]
              exact hunj z hz')
            rw [g2 t hnj]
            have := q4 t
            by_cases hd : o.dst = some t
            · rw [hd, fv_put_same] at this ⊢
              exact this
            · rw [fv_put hd] at this ⊢
              rw [hm2 t fun hm => ?_] at this
              · exact this
              · obtain ⟨z, hz', hzu, he⟩ := (hml t).1 hm
                refine htu z (List.mem_append.2 (.inl hz')) ?_ he
                rw [getD_set_iff true hil, if_neg (fun e => hz (by rw [e]; exact hz'))]
                exact hzu
          · rcases List.mem_append.1 hz' with hz' | hz'
            · obtain ⟨hzu1, hzi⟩ := hun' z hzu
              obtain ⟨vz, oz, hoz, hdz, hzk⟩ := hI.facts z hz' hzu1
              have hdz' : dstOf ops z = oz.dst := by simp [dstOf, hoz]
              have hlz : looks ops z = oz.looksAt ops := by simp [looks, hoz]
              refine ⟨vz, oz, hoz, fun d hd => ?_, zok_congr (fun t ht' => ?_) hzk⟩
              · rw [g2 d fun y hy he => ?_, fv_put]
                · exact hdz d hd
                · intro he
                  exact hzi (hB.uniq z i d (by rw [hdz']; exact hd) (by rw [hdi]; exact he))
                · have := hB.uniq z y d (by rw [hdz']; exact hd) he
                  subst this
                  exact hnzj.2.2 z hz' hy
              · rw [g2 t fun y hy => hordj.2.2 z hz' y hy t (by rw [hlz]; exact ht'), fv_put]
                intro he
                exact notboth hzu1 (hwl z (hsg.1 t (by rw [hdi]; exact he) z hz' (by rw [hlz]; exact ht')))
            · exact g3 z hz'
          · cases m with
            | zero =>
              right
              intro z hz'
              have := hwl z (ht i (by simp [heads]) z hz')
              rw [getD_set_iff true hil]
              split
              · rfl
              · exact getD_true_of this
            | succ m =>
              rcases hsa (by omega) with h | h
              · exact .inl h
              · right
                intro z hz'
                rw [getD_set_iff true hil]
                split
                · rfl
                · exact h z hz'
        have exec : opW P fr hp (base + 32 * i) o.op (fun v hp' => (m ≠ 0 → SaW hp0 hp') ∧ zW P ops base hp0 (fun fr => chW P ops base hp0 K r (m - 1) fr hp') zj (putFr fr o.dst v)) → o.wp P a w (wpAny P .any ops Q fuel (listed.setIfInBounds i true)) Q := by
          intro hop
          rw [opW_congr (ev_looks hlook')] at hop
          have hok := opW_snd (o := o) hr (fun x => ev_is hfm x) hNU hop
          refine upon_ok hI.def_ hI.tmps hdst hfm hh hok fun v' hp' a' w' hK hS => ?_
          exact next v' hp' a' w' (fun h => .inl (sa_agree (hK.1 h))) hK.2 hS
        split at hW
        · rename_i hg
          rw [if_pos (by simp [Region.wanted, hg])]
          exact .inl (exec hW)
        · rename_i g want hg
          split at hW
          · rename_i d hd
            split at hW
            · rename_i b hb
              have hy := hgv hg hd hb
              by_cases hbw : b = want
              · rw [if_pos (by simp [Region.wanted, hg, hy, hbw])]
                exact .inl (exec (hW.1 hbw))
              · rw [if_neg (by simp [Region.wanted, hg, hy, hbw])]
                have hv := hW.2 (by cases b <;> cases want <;> simp_all)
                exact next (.tup []) hp _ _ (fun hm => hI.sa) hv (any_put hI.def_ hI.tmps hr hh hfm)
            · rename_i hb
              have hy := hgu hg hd hb
              rw [if_neg (by simp [Region.wanted, hg, hy])]
              exact next (.tup []) hp _ _ (fun hm => hI.sa) hW (any_put hI.def_ hI.tmps hr hh hfm)
            · exact hW.elim
          · exact hW.elim

/-- A region whose order the tape picks. -/
theorem region_snd {zs : List Nat} {ss : Segs} {m : Nat} {id : Nat} {U : Nat → Prop} {a : Act} {w : World} {Q : Exit → Act → World → Prop} (hmix : P.follows .mixedOrders = true) (hB : regB c.n ops zs ss m = true)
    (hQ : ∀ fr hp a w U, K fr hp → (∀ k, U k → k < base + 32 * ops.size) → SimU c fr hp U a w → Q .normal a w)
    (hU : ∀ k, U k → k < base) (hs : SimU c fr hp0 U a w) (h : zW P ops base hp0 (fun fr => chW P ops base hp0 K ss m fr hp0) zs fr) : (Code.region id ops true).wp P Q a w := by
  obtain ⟨hok, hmore⟩ := regB_ok hB
  obtain ⟨frZ, h1, h2, h3⟩ := zW_facts hok.uniq zs fr (orderB_app hmore.order).1 (nodupB_app hmore.nza).1 h
  obtain ⟨q1, q2, σ, q3, q4, q5⟩ := hs
  have hrd := rel_drew q3
  have rep : ∀ j, (Array.replicate ops.size false).getD j false = false := by
    intro j
    simp only [Array.getD_eq_getD_getElem?, Array.getElem?_replicate]
    split <;> rfl
  have rep' : ∀ j, j < ops.size → (Array.replicate ops.size false).getD j true = false := by
    intro j hj
    simp [Array.getD_eq_getD_getElem?, Array.getElem?_replicate, hj]
  refine wp_region_any hmix (reg_go hok hQ ops.size _ zs ss m frZ hp0 a w.drew ?_ hmore.tail hmore.chain hmore.nis (fun _ h => h) hmore.seg hmore.order hmore.nza (fun _ h => h) ⟨by simp, fun j o ho hl => (by rw [rep] at hl; cases hl), fun j hj => ?_, fun j hj hz hi => ?_, q1, q2,
    ⟨U, σ, hrd, q5.trans step_drew, fun k hk => .inl (hU k hk), fun t ht => ?_⟩, fun z hz _ => h3 z hz, .inl fun _ _ h => h⟩ h1)
  · unfold unl
    refine Nat.le_trans (List.length_filter_le _ _) ?_
    simp
  · refine rep' j ?_
    rcases sids_or hj with h | h
    · exact hok.inb j h
    · rcases Nat.lt_or_ge j ops.size with h' | h'
      · exact h'
      · exact absurd h' (by have := hmore.inz j (List.mem_append.2 (.inr h)); omega)
  · rcases (hok.part j hj).1 with h | h
    · rcases List.mem_append.1 h with h | h
      · exact absurd h hz
      · exact absurd (zids_sids h) hi
    · exact absurd (heads_sids h) hi
  · rw [h2 t fun z hz he => ?_]
    · exact (q4 t).step step_drew
    · refine ht z hz (rep' z ?_) he
      rcases Nat.lt_or_ge z ops.size with h | h
      · exact h
      · simp [dstOf, Array.getElem?_eq_none h] at he
end
end Go.Am
