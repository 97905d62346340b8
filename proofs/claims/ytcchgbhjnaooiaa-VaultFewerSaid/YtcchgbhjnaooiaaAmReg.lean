/-
  AM, part 6f: regions whose order the tape picks: what only reads is taken first, the rest stands in one order.
-/
import Derived.Test.YtcchgbhjnaooiaaAmStill
import Derived.Orders
namespace Go.Am
set_option linter.unusedVariables false
set_option linter.unusedSimpArgs false

def dstOf (ops : Array Oper) (j : Nat) : Option Tmp := (ops[j]?).bind (·.dst)
def looks (ops : Array Oper) (j : Nat) : List Tmp := match ops[j]? with
  | some o => o.looksAt ops
  | none => []

/-- j waits for i, by some steps. -/
def waitsN (ops : Array Oper) : Nat → Nat → Nat → Bool
  | 0, _, _ => false
  | k + 1, j, i => match ops[j]? with
    | some o => o.after.any fun e => Region.binds .any e && (e.on == i || waitsN ops k e.on i)
    | none => false

def chainB (ops : Array Oper) : List Nat → Bool
  | a :: b :: r => waitsN ops 3 b a && chainB ops (b :: r)
  | _ => true

def orderB (ops : Array Oper) : List Nat → Bool
  | [] => true
  | z :: r => (z :: r).all (fun y => match dstOf ops y with
      | some d => !(looks ops z).contains d
      | none => true) && orderB ops r

def nodupB : List Nat → Bool
  | [] => true
  | a :: r => !r.contains a && nodupB r

def regB (n : Nat) (ops : Array Oper) (zs is : List Nat) (m : Nat) : Bool :=
  (List.range ops.size).all (fun j => (zs.contains j || is.contains j) && !(zs.contains j && is.contains j)) &&
  is.all (fun j => decide (j < ops.size)) && nodupB is && nodupB zs &&
  (List.range ops.size).all (fun i => match dstOf ops i with
    | some d => decide (d < n) && (List.range ops.size).all fun j => j == i || dstOf ops j != some d
    | none => true) &&
  zs.all (fun z => match dstOf ops z with
    | some d => (List.range ops.size).all fun j => !(looks ops j).contains d || waitsN ops 3 j z
    | none => true) &&
  is.all (fun i => match dstOf ops i with
    | some d => zs.all fun z => !(looks ops z).contains d || waitsN ops 3 i z
    | none => true) &&
  chainB ops is && orderB ops zs &&
  (is.drop m).all (fun i => zs.all fun z => waitsN ops 3 i z) &&
  (List.range ops.size).all (fun j => match ops[j]? with
    | some o => o.after.all fun e => !Region.binds .any e || decide (e.on < j)
    | none => true)

section
variable (P : Program) (n : Nat) (ops : Array Oper) (base : Nat) (hp0 : Hp) (K : Fr → Hp → Prop)

def SaW (hp' : Hp) : Prop := ∀ p, p ∈ hp0 → lk p.1 hp' = lk p.1 hp0

/-- The operations that stand in one order. -/
def chW : List Nat → Nat → Fr → Hp → Prop
  | [], _, fr, hp => K fr hp
  | j :: r, m, fr, hp => match ops[j]? with
    | some o => (match o.guard with
      | none => opW P fr hp (base + j) o.op fun v hp' => (m ≠ 0 → SaW hp0 hp') ∧ chW r (m - 1) (putFr fr o.dst v) hp'
      | some (g, want) => (match (ops[g]?).bind (·.dst) with
        | some d => (match fv d fr with
          | .d (.bool b) => (b = want → opW P fr hp (base + j) o.op fun v hp' => (m ≠ 0 → SaW hp0 hp') ∧ chW r (m - 1) (putFr fr o.dst v) hp') ∧
              (b = !want → chW r (m - 1) (putFr fr o.dst .any) hp)
          | _ => False)
        | none => False))
    | none => False

def zOp (fr : Fr) (N : Nat) (op : Op) (next : AV → Prop) : Prop :=
  if stillKind P op = true then opW P fr hp0 N op (fun v _ => next v) else ∃ v, Still P fr hp0 op v ∧ next v

/-- The operations that only read. -/
def zW (is : List Nat) (m : Nat) : List Nat → Fr → Prop
  | [], fr => chW P ops base hp0 K is m fr hp0
  | z :: r, fr => match ops[z]? with
    | some o => (match o.guard with
      | none => zOp P hp0 fr base o.op fun v => zW is m r (putFr fr o.dst v)
      | some (g, want) => (match (ops[g]?).bind (·.dst) with
        | some d => (match fv d fr with
          | .d (.bool b) => (b = want → zOp P hp0 fr base o.op fun v => zW is m r (putFr fr o.dst v)) ∧ (b = !want → zW is m r (putFr fr o.dst .any))
          | _ => False)
        | none => False))
    | none => False

def ZOk (fr : Fr) (v : AV) (o : Oper) : Prop :=
  match o.guard with
  | none => Still P fr hp0 o.op v
  | some (g, want) => ∃ d b, (ops[g]?).bind (·.dst) = some d ∧ fv d fr = .d (.bool b) ∧ (b = want → Still P fr hp0 o.op v) ∧ (b = !want → v = .any)

def ZFact (z : Nat) (fr : Fr) : Prop := ∃ v o, ops[z]? = some o ∧ (∀ d, o.dst = some d → fv d fr = v) ∧ ZOk P ops hp0 fr v o
end

section
variable {P : Program} {c : Ctx} {ops : Array Oper} {base : Nat} {hp0 : Hp} {K : Fr → Hp → Prop} {fr fr' : Fr}

theorem ev_looks {o : Oper} (h : ∀ t, t ∈ o.looksAt ops → fv t fr = fv t fr') : ∀ x, x ∈ o.op.operands → ev fr x = ev fr' x := by
  intro x hx
  cases x with
  | tmp t =>
    refine h t ?_
    unfold Oper.looksAt
    rw [List.mem_append]
    left
    rw [List.mem_filterMap]
    exact ⟨.tmp t, by simpa using hx, rfl⟩
  | _ => rfl

theorem guard_looks {o : Oper} {g : Nat} {want : Bool} {d : Tmp} (hg : o.guard = some (g, want)) (hd : (ops[g]?).bind (·.dst) = some d) : d ∈ o.looksAt ops := by
  unfold Oper.looksAt
  rw [List.mem_append]
  right
  simp [hg, hd]

theorem still_congr {o : Oper} {v : AV} (h : ∀ t, t ∈ o.looksAt ops → fv t fr = fv t fr') (hs : Still P fr hp0 o.op v) : Still P fr' hp0 o.op v := by
  intro hp' N' K' ha hk
  rw [← opW_congr (ev_looks h)]
  exact hs hp' N' K' ha hk

theorem zok_congr {o : Oper} {v : AV} (h : ∀ t, t ∈ o.looksAt ops → fv t fr = fv t fr') (hz : ZOk P ops hp0 fr v o) : ZOk P ops hp0 fr' v o := by
  unfold ZOk at hz ⊢
  split at hz
  · exact still_congr h hz
  · rename_i g want hg
    obtain ⟨d, b, h1, h2, h3, h4⟩ := hz
    exact ⟨d, b, h1, by rw [← h d (guard_looks hg h1)]; exact h2, fun q => still_congr h (h3 q), h4⟩

theorem fv_put {dst : Option Tmp} {v : AV} {t : Nat} (h : dst ≠ some t) : fv t (putFr fr dst v) = fv t fr := by
  cases dst with
  | none => rfl
  | some d =>
    simp only [putFr, fv_cons]
    rw [if_neg (fun e => h (by rw [e]))]

theorem fv_put_same {d : Tmp} {v : AV} : fv d (putFr fr (some d) v) = v := by simp [putFr, fv_cons]

theorem zW_facts {is : List Nat} {m : Nat} (hu : ∀ i j d, dstOf ops i = some d → dstOf ops j = some d → i = j) : ∀ (zs : List Nat) (fr : Fr), orderB ops zs = true → nodupB zs = true → zW P ops base hp0 K is m zs fr →
    ∃ frZ, chW P ops base hp0 K is m frZ hp0 ∧ (∀ t, (∀ z, z ∈ zs → dstOf ops z ≠ some t) → fv t frZ = fv t fr) ∧ ∀ z, z ∈ zs → ZFact P ops hp0 z frZ
  | [], fr, _, _, h => ⟨fr, h, fun _ _ => rfl, by simp⟩
  | z :: r, fr, ho, hn, h => by
    simp only [orderB, Bool.and_eq_true] at ho
    simp only [nodupB, Bool.and_eq_true] at hn
    obtain ⟨ho1, ho2⟩ := ho
    simp only [zW] at h
    cases hz : ops[z]? with
    | none => rw [hz] at h; exact h.elim
    | some o =>
      rw [hz] at h
      simp only at h
      have hdz : dstOf ops z = o.dst := by simp [dstOf, hz]
      have hlz : looks ops z = o.looksAt ops := by simp [looks, hz]
      -- what is read is put by none of these
      have hno : ∀ y, y ∈ z :: r → ∀ t, t ∈ o.looksAt ops → dstOf ops y ≠ some t := by
        intro y hy t ht he
        have := List.all_eq_true.1 ho1 y hy
        simp only [he, hlz, Bool.not_eq_true', List.contains_eq_mem, decide_eq_false_iff_not] at this
        exact this ht
      -- from one value
      have go : ∀ v, ZOk P ops hp0 fr v o → zW P ops base hp0 K is m r (putFr fr o.dst v) → ∃ frZ, chW P ops base hp0 K is m frZ hp0 ∧ (∀ t, (∀ y, y ∈ z :: r → dstOf ops y ≠ some t) → fv t frZ = fv t fr) ∧ ∀ y, y ∈ z :: r → ZFact P ops hp0 y frZ := by
        intro v hv hrest
        obtain ⟨frZ, h1, h2, h3⟩ := zW_facts hu r _ ho2 hn.2 hrest
        refine ⟨frZ, h1, fun t ht => ?_, fun y hy => ?_⟩
        · rw [h2 t fun y hy => ht y (List.mem_cons_of_mem _ hy)]
          exact fv_put (by rw [← hdz]; exact ht z (List.mem_cons_self ..))
        · rcases List.mem_cons.1 hy with rfl | hy
          · refine ⟨v, o, hz, fun d hd => ?_, zok_congr (fun t ht => ?_) hv⟩
            · rw [h2 d fun y' hy' he => ?_]
              · rw [hd]; exact fv_put_same
              · have := hu y' y d he (by rw [hdz]; exact hd)
                subst this
                have hn1 := hn.1
                simp only [Bool.not_eq_true', List.contains_eq_mem, decide_eq_false_iff_not] at hn1
                exact hn1 hy'
            · rw [h2 t fun y' hy' => hno y' (List.mem_cons_of_mem _ hy') t ht, fv_put]
              rw [← hdz]
              exact hno _ (List.mem_cons_self ..) t ht
          · exact h3 y hy
      have one : ∀ next : AV → Prop, zOp P hp0 fr base o.op next → ∃ v, Still P fr hp0 o.op v ∧ next v := by
        intro next hq
        unfold zOp at hq
        split at hq
        · rename_i hk
          obtain ⟨v, q1, q2⟩ := still_snd hk hq
          exact ⟨v, q2, q1⟩
        · exact hq
      split at h
      · rename_i hg
        obtain ⟨v, q1, q2⟩ := one _ h
        exact go v (by unfold ZOk; rw [hg]; exact q1) q2
      · rename_i g want hg
        split at h
        · rename_i d hd
          split at h
          · rename_i b hb
            by_cases hbw : b = want
            · obtain ⟨v, q1, q2⟩ := one _ (h.1 hbw)
              exact go v (by unfold ZOk; rw [hg]; exact ⟨d, b, hd, hb, fun _ => q1, fun h' => by rw [hbw] at h'; cases want <;> cases h'⟩) q2
            · have hbn : b = !want := by cases b <;> cases want <;> simp_all
              exact go .any (by unfold ZOk; rw [hg]; exact ⟨d, b, hd, hb, fun h' => absurd h' hbw, fun _ => rfl⟩) (h.2 hbn)
          · exact h.elim
        · exact h.elim

/-- Some temporaries are not looked at. -/
theorem masked (fr : Fr) : ∀ l : List Tmp, ∃ frm : Fr, (∀ t, t ∈ l → fv t frm = .any) ∧ ∀ t, t ∉ l → fv t frm = fv t fr
  | [] => ⟨fr, by simp, fun _ _ => rfl⟩
  | d :: l => by
    obtain ⟨frm, h1, h2⟩ := masked fr l
    refine ⟨(d, .any) :: frm, fun t ht => ?_, fun t ht => ?_⟩
    · rw [fv_cons]
      split
      · rfl
      · rename_i hne
        rcases List.mem_cons.1 ht with rfl | h
        · exact absurd rfl hne
        · exact h1 t h
    · rw [fv_cons, if_neg (fun e => ht (by rw [← e]; exact List.mem_cons_self ..))]
      exact h2 t fun h => ht (List.mem_cons_of_mem _ h)

/-- How many have not come up. -/
def unl (listed : Array Bool) : Nat := (listed.toList.filter fun b => !b).length

theorem unl_set {listed : Array Bool} {i : Nat} (h : listed.getD i true = false) : unl (listed.setIfInBounds i true) + 1 = unl listed := by
  unfold unl
  rw [Array.toList_setIfInBounds]
  have h' : listed.toList[i]? = some false := by
    cases hi : listed[i]? with
    | none => simp [Array.getD_eq_getD_getElem?, hi] at h
    | some b => simp [Array.getD_eq_getD_getElem?, hi] at h; subst h; simpa using hi
  clear h
  generalize listed.toList = l at h'
  induction l generalizing i with
  | nil => simp at h'
  | cons b r ih =>
    cases i with
    | zero => simp at h'; subst h'; simp
    | succ i =>
      simp only [List.getElem?_cons_succ] at h'
      have := ih h'
      simp only [List.set_cons_succ, List.filter_cons]
      split <;> simp_all <;> omega

/-- A region's state. -/
structure RInv (P : Program) (c : Ctx) (ops : Array Oper) (base : Nat) (hp0 : Hp) (zs rest : List Nat) (listed : Array Bool) (fr : Fr) (hp : Hp) (a : Act) (w : World) : Prop where
  size : listed.size = ops.size
  closed : ∀ j o, ops[j]? = some o → listed.getD j false = true → ∀ e, e ∈ o.after → Region.binds .any e = true → listed.getD e.on false = true
  un : ∀ j, j ∈ rest → listed.getD j true = false
  done : ∀ j, j < ops.size → j ∉ zs → j ∉ rest → listed.getD j false = true
  def_ : a.defers = []
  tmps : a.tmps.size = c.n
  sim : ∃ U σ, Rel c hp U σ w ∧ (∀ k, U k → k < base ∨ ∃ j, k = base + j ∧ listed.getD j false = true) ∧
    ∀ t, (∀ z, z ∈ zs → listed.getD z true = false → dstOf ops z ≠ some t) → AIs w (Sof c w σ hp) σ hp U (fv t fr) (a.tmps.getD t undef)
  facts : ∀ z, z ∈ zs → listed.getD z true = false → ZFact P ops hp0 z fr
  sa : Agree hp0 hp ∨ ∀ z, z ∈ zs → listed.getD z true = true

theorem waits_listed {listed : Array Bool} (hc : ∀ j o, ops[j]? = some o → listed.getD j false = true → ∀ e, e ∈ o.after → Region.binds .any e = true → listed.getD e.on false = true) :
    ∀ (k j i : Nat) (o : Oper), ops[j]? = some o → (∀ e, e ∈ o.after → Region.binds .any e = true → listed.getD e.on false = true) → waitsN ops k j i = true → listed.getD i false = true
  | 0, _, _, _, _, _, h => by simp [waitsN] at h
  | k + 1, j, i, o, ho, ha, h => by
    simp only [waitsN, ho] at h
    obtain ⟨e, he, hb⟩ := Array.any_eq_true'.1 h
    simp only [Bool.and_eq_true, Bool.or_eq_true, beq_iff_eq] at hb
    have h1 := ha e he hb.1
    rcases hb.2 with rfl | h2
    · exact h1
    · cases hj : ops[e.on]? with
      | none =>
        cases k with
        | zero => simp [waitsN] at h2
        | succ k => simp [waitsN, hj] at h2
      | some o' => exact waits_listed hc k e.on i o' hj (hc _ o' hj h1) h2

theorem getD_true_of {listed : Array Bool} {i : Nat} (h : listed.getD i false = true) : listed.getD i true = true := by
  simp only [Array.getD_eq_getD_getElem?] at h ⊢
  cases hi : listed[i]? with
  | none => rfl
  | some b => rw [hi] at h; simpa using h

theorem getD_false_of {listed : Array Bool} {i : Nat} (hi : i < listed.size) (h : listed.getD i false = false) : listed.getD i true = false := by
  simp only [Array.getD_eq_getD_getElem?] at h ⊢
  rw [Array.getElem?_eq_getElem hi] at h ⊢
  simpa using h

theorem getD_set_iff {listed : Array Bool} {i j : Nat} (d : Bool) (hi : i < listed.size) : (listed.setIfInBounds i true).getD j d = if i = j then true else listed.getD j d := by
  simp only [Array.getD_eq_getD_getElem?, Array.getElem?_setIfInBounds]
  split
  · rename_i h; subst h; simp [hi]
  · rfl

theorem chain_pred : ∀ (l : List Nat) (j : Nat), chainB ops (j :: l) = true → ∀ i, i ∈ l → ∃ p, p ∈ j :: l ∧ waitsN ops 3 i p = true
  | [], _, _, _, h => by simp at h
  | b :: r, j, hc, i, hi => by
    simp only [chainB, Bool.and_eq_true] at hc
    rcases List.mem_cons.1 hi with rfl | h
    · exact ⟨j, List.mem_cons_self .., hc.1⟩
    · obtain ⟨p, h1, h2⟩ := chain_pred r b hc.2 i h
      exact ⟨p, List.mem_cons_of_mem _ h1, h2⟩

theorem sa_agree {hp' : Hp} (h : SaW hp0 hp') : Agree hp0 hp' := by
  intro id b hb
  have hmem : ∀ {l : Hp}, lk id l = some b → (id, b) ∈ l := by
    intro l
    induction l with
    | nil => intro h; cases h
    | cons p t ih =>
      intro h
      obtain ⟨m, u⟩ := p
      simp only [lk] at h
      split at h
      · rename_i e; injection h with h; subst e; subst h; exact List.mem_cons_self ..
      · exact List.mem_cons_of_mem _ (ih h)
  have := h _ (hmem hb)
  simp only at this
  rw [this, hb]

structure RegOk (n : Nat) (ops : Array Oper) (zs is : List Nat) (m : Nat) : Prop where
  part : ∀ j, j < ops.size → (j ∈ zs ∨ j ∈ is) ∧ ¬ (j ∈ zs ∧ j ∈ is)
  inb : ∀ j, j ∈ is → j < ops.size
  nis : nodupB is = true
  nzs : nodupB zs = true
  lt : ∀ i d, dstOf ops i = some d → d < n
  uniq : ∀ i j d, dstOf ops i = some d → dstOf ops j = some d → i = j
  zdst : ∀ z, z ∈ zs → ∀ d, dstOf ops z = some d → ∀ j, d ∈ looks ops j → waitsN ops 3 j z = true
  idst : ∀ i, i ∈ is → ∀ d, dstOf ops i = some d → ∀ z, z ∈ zs → d ∈ looks ops z → waitsN ops 3 i z = true
  chain : chainB ops is = true
  order : orderB ops zs = true
  tail : ∀ i, i ∈ is.drop m → ∀ z, z ∈ zs → waitsN ops 3 i z = true
  low : ∀ j o, ops[j]? = some o → ∀ e, e ∈ o.after → Region.binds .any e = true → e.on < j

theorem regB_ok {n : Nat} {zs is : List Nat} {m : Nat} (h : regB n ops zs is m = true) : RegOk n ops zs is m := by
  simp only [regB, Bool.and_eq_true] at h
  obtain ⟨⟨⟨⟨⟨⟨⟨⟨⟨⟨h1, h2⟩, h3⟩, h3b⟩, h4⟩, h5⟩, h6⟩, h7⟩, h8⟩, h9⟩, h10⟩ := h
  have inr : ∀ {i d}, dstOf ops i = some d → i ∈ List.range ops.size := by
    intro i d hi
    rw [List.mem_range]
    rcases Nat.lt_or_ge i ops.size with h | h
    · exact h
    · simp [dstOf, Array.getElem?_eq_none h] at hi
  refine ⟨fun j hj => ?_, fun j hj => ?_, h3, h3b, fun i d hi => ?_, fun i j d hi hj => ?_, fun z hz d hd j hj => ?_, fun i hi d hd z hz hl => ?_, h7, h8, fun i hi z hz => ?_, fun j o ho e he hb => ?_⟩
  · have := List.all_eq_true.1 h1 j (List.mem_range.2 hj)
    simp at this
    exact ⟨this.1, fun h => by rcases this.2 with h' | h' <;> simp_all⟩
  · simpa using List.all_eq_true.1 h2 j hj
  · have := List.all_eq_true.1 h4 i (inr hi)
    simp only [hi, Bool.and_eq_true, decide_eq_true_eq] at this
    exact this.1
  · have := List.all_eq_true.1 h4 i (inr hi)
    simp only [hi, Bool.and_eq_true] at this
    have := List.all_eq_true.1 this.2 j (inr hj)
    simp only [hj, bne_self_eq_false, Bool.or_false, beq_iff_eq] at this
    exact this.symm
  · have := List.all_eq_true.1 h5 z hz
    simp only [hd] at this
    have hjr : j ∈ List.range ops.size := by
      rw [List.mem_range]
      rcases Nat.lt_or_ge j ops.size with h | h
      · exact h
      · simp [looks, Array.getElem?_eq_none h] at hj
    have := List.all_eq_true.1 this j hjr
    simpa [hj] using this
  · have := List.all_eq_true.1 h6 i hi
    simp only [hd] at this
    have := List.all_eq_true.1 this z hz
    simpa [hl] using this
  · have := List.all_eq_true.1 h9 i hi
    exact List.all_eq_true.1 this z hz
  · have hjr : j ∈ List.range ops.size := by
      rw [List.mem_range]
      exact (Array.getElem?_eq_some_iff.1 ho).1
    have := List.all_eq_true.1 h10 j hjr
    simp only [ho] at this
    have := Array.all_eq_true_iff_forall_mem.1 this e he
    simpa [hb] using this

theorem any_put {frm : Fr} {hp : Hp} {U : Nat → Prop} {N : Nat} {σ : Nat → Option Nat} {a : Act} {w : World} {dst : Option Tmp} (hd : a.defers = []) (hn : a.tmps.size = c.n) (hr : Rel c hp U σ w)
    (hf : ∀ t, AIs w (Sof c w σ hp) σ hp U (fv t frm) (a.tmps.getD t undef)) : SimU c (putFr frm dst .any) hp (unite U N) (a.put dst undef) w := by
  cases dst with
  | none => exact ⟨hd, hn, σ, hr.more, fun n => (hf n).step Step.more⟩
  | some d =>
    refine ⟨hd, by simp [Act.put, hn], σ, hr.more, fun n => ?_⟩
    simp only [putFr, Act.put, fv_cons]
    by_cases h : d = n
    · simp only [h, if_true]; exact .any _
    · simp only [if_neg h]
      have : (a.tmps.setIfInBounds d undef).getD n undef = a.tmps.getD n undef := by
        simp only [Array.getD_eq_getD_getElem?, Array.getElem?_setIfInBounds, if_neg h]
      rw [this]
      exact (hf n).step Step.more

/-- Every order. -/
theorem reg_go {zs is : List Nat} {m0 : Nat} {Q : Exit → Act → World → Prop} (hB : RegOk c.n ops zs is m0)
    (hQ : ∀ fr hp a w U, K fr hp → (∀ k, U k → k < base + ops.size) → SimU c fr hp U a w → Q .normal a w) :
    ∀ (fuel : Nat) (listed : Array Bool) (rest : List Nat) (m : Nat) (fr : Fr) (hp : Hp) (a : Act) (w : World), unl listed ≤ fuel → (∀ i, i ∈ rest.drop m → ∀ z, z ∈ zs → waitsN ops 3 i z = true) → chainB ops rest = true → nodupB rest = true → (∀ i, i ∈ rest → i ∈ is) →
      RInv P c ops base hp0 zs rest listed fr hp a w → chW P ops base hp0 K rest m fr hp → wpAny P .any ops Q fuel listed a w := by
  have notboth : ∀ {listed : Array Bool} {i : Nat}, listed.getD i true = false → listed.getD i false = true → False := by
    intro listed i h1 h2
    rw [getD_true_of h2] at h1
    cases h1
  -- where nothing is left
  have fin : ∀ (listed : Array Bool) (rest : List Nat) (m : Nat) (fr : Fr) (hp : Hp) (a : Act) (w : World), (∀ i, i ∈ rest → i ∈ is) → RInv P c ops base hp0 zs rest listed fr hp a w → chW P ops base hp0 K rest m fr hp → Region.ready .any ops listed = [] → Q .normal a w := by
    intro listed rest m fr hp a w hsub hI hW hr0
    have all : ∀ k j, j ≤ k → j < ops.size → listed.getD j false = true := by
      intro k
      induction k with
      | zero =>
        intro j hj hjs
        cases hl : listed.getD j false with
        | true => rfl
        | false =>
          have hmem : j ∈ Region.ready .any ops listed := mem_ready.2 ⟨getD_false_of (by rw [hI.size]; exact hjs) hl, ops[j], Array.getElem?_eq_getElem hjs, fun e he hb => by
            have := hB.low j _ (Array.getElem?_eq_getElem hjs) e he hb
            omega⟩
          rw [hr0] at hmem
          simp at hmem
      | succ k ih =>
        intro j hj hjs
        cases hl : listed.getD j false with
        | true => rfl
        | false =>
          have hmem : j ∈ Region.ready .any ops listed := mem_ready.2 ⟨getD_false_of (by rw [hI.size]; exact hjs) hl, ops[j], Array.getElem?_eq_getElem hjs, fun e he hb => by
            have := hB.low j _ (Array.getElem?_eq_getElem hjs) e he hb
            exact ih e.on (by omega) (by omega)⟩
          rw [hr0] at hmem
          simp at hmem
    have hnil : rest = [] := by
      cases rest with
      | nil => rfl
      | cons j r =>
        have h1 := hI.un j (List.mem_cons_self ..)
        exact (notboth h1 (all j j (Nat.le_refl _) (hB.inb j (hsub j (List.mem_cons_self ..))))).elim
    subst hnil
    simp only [chW] at hW
    obtain ⟨U, σ, hr, hU, hf⟩ := hI.sim
    refine hQ fr hp a w U hW (fun k hk => ?_) ⟨hI.def_, hI.tmps, σ, hr, fun t => hf t fun z hz hun => ?_⟩
    · rcases hU k hk with h | ⟨j, rfl, hj⟩
      · omega
      · have : j < listed.size := by
          rcases Nat.lt_or_ge j listed.size with h | h
          · exact h
          · simp [Array.getD_eq_getD_getElem?, Array.getElem?_eq_none h] at hj
        have := hI.size
        omega
    · intro he
      have : z < ops.size := by
        rcases Nat.lt_or_ge z ops.size with h | h
        · exact h
        · simp [dstOf, Array.getElem?_eq_none h] at he
      exact notboth hun (all z z (Nat.le_refl _) this)
  intro fuel
  induction fuel with
  | zero =>
    intro listed rest m fr hp a w hf ht hc hn hsub hI hW
    have hr0 : Region.ready .any ops listed = [] := by
      rw [List.eq_nil_iff_forall_not_mem]
      intro i hi
      have := unl_set (mem_ready.1 hi).1
      omega
    exact ⟨hr0, fin listed rest m fr hp a w hsub hI hW hr0⟩
  | succ fuel ih =>
    intro listed rest m fr hp a w hfuel ht hc hn hsub hI hW
    refine ⟨fin listed rest m fr hp a w hsub hI hW, fun i hi => ?_⟩
    obtain ⟨hun, o, ho, haft⟩ := mem_ready.1 hi
    have his : i < ops.size := (Array.getElem?_eq_some_iff.1 ho).1
    have hil : i < listed.size := by rw [hI.size]; exact his
    have hdi : dstOf ops i = o.dst := by simp [dstOf, ho]
    have hli : looks ops i = o.looksAt ops := by simp [looks, ho]
    have hwl : ∀ z, waitsN ops 3 i z = true → listed.getD z false = true := fun z hz => waits_listed hI.closed 3 i z o ho haft hz
    have hdst : dstOk c.n o.dst := by
      unfold dstOk
      cases hd : o.dst with
      | none => trivial
      | some d => exact hB.lt i d (by rw [hdi, hd])
    have hun' : ∀ z, (listed.setIfInBounds i true).getD z true = false → listed.getD z true = false ∧ z ≠ i := by
      intro z hz
      rw [getD_set_iff true hil] at hz
      split at hz
      · cases hz
      · rename_i hne; exact ⟨hz, fun h => hne h.symm⟩
    have hclosed' : ∀ j o', ops[j]? = some o' → (listed.setIfInBounds i true).getD j false = true → ∀ e, e ∈ o'.after → Region.binds .any e = true → (listed.setIfInBounds i true).getD e.on false = true := by
      intro j o' hj hl e he hb
      rw [getD_set_iff false hil] at hl ⊢
      split
      · rfl
      · split at hl
        · rename_i hij
          subst hij
          rw [ho] at hj
          injection hj with hj
          subst hj
          exact haft e he hb
        · exact hI.closed j o' hj hl e he hb
    have hfuel' : unl (listed.setIfInBounds i true) ≤ fuel := by
      have := unl_set hun
      omega
    obtain ⟨U, σ, hr, hU, hf⟩ := hI.sim
    have hNU : ¬ U (base + i) := by
      intro h
      rcases hU _ h with h | ⟨j, hj, hl⟩
      · omega
      · have : j = i := by omega
        subst this
        exact notboth hun hl
    have hU' : ∀ k, unite U (base + i) k → k < base ∨ ∃ j, k = base + j ∧ (listed.setIfInBounds i true).getD j false = true := by
      rintro k (h | h)
      · rcases hU k h with h | ⟨j, h1, h2⟩
        · exact .inl h
        · exact .inr ⟨j, h1, by rw [getD_set_iff false hil]; split <;> simp [h2]⟩
      · exact .inr ⟨i, h, by rw [getD_set_iff false hil]; simp⟩
    obtain ⟨frm, hm1, hm2⟩ := masked fr (zs.filterMap fun z => if listed.getD z true = true then none else dstOf ops z)
    have hml : ∀ t, t ∈ (zs.filterMap fun z => if listed.getD z true = true then none else dstOf ops z) ↔ ∃ z, z ∈ zs ∧ listed.getD z true = false ∧ dstOf ops z = some t := by
      intro t
      rw [List.mem_filterMap]
      constructor
      · rintro ⟨z, hz, h⟩
        split at h
        · cases h
        · rename_i hne
          exact ⟨z, hz, by simpa using hne, h⟩
      · rintro ⟨z, hz, h1, h2⟩
        exact ⟨z, hz, by simp [h1, h2]⟩
    have hfm : ∀ t, AIs w (Sof c w σ hp) σ hp U (fv t frm) (a.tmps.getD t undef) := by
      intro t
      by_cases hm : t ∈ (zs.filterMap fun z => if listed.getD z true = true then none else dstOf ops z)
      · rw [hm1 t hm]; exact .any _
      · rw [hm2 t hm]
        exact hf t fun z hz hzu he => hm ((hml t).2 ⟨z, hz, hzu, he⟩)
    have hlook : ∀ t, t ∈ o.looksAt ops → fv t frm = fv t fr := by
      intro t ht'
      refine hm2 t fun hm => ?_
      obtain ⟨z, hz, hzu, he⟩ := (hml t).1 hm
      exact notboth hzu (hwl z (hB.zdst z hz t he i (by rw [hli]; exact ht')))
    have hlook' : ∀ t, t ∈ o.looksAt ops → fv t fr = fv t frm := fun t ht' => (hlook t ht').symm
    have hgv : ∀ {g want d b}, o.guard = some (g, want) → (ops[g]?).bind (·.dst) = some d → fv d fr = .d (.bool b) → yielded ops a.tmps g = some b := by
      intro g want d b hg hd hb
      have hx := hfm d
      rw [hlook d (guard_looks hg hd), hb] at hx
      have hv := is_bool hx
      unfold yielded
      rw [hd]
      have hv' : a.tmps[d]?.getD undef = .bool b := by simpa using hv
      cases ht : a.tmps[d]? with
      | none => rw [ht] at hv'; cases hv'
      | some u => rw [ht] at hv'; simp at hv'; subst hv'; simp [ht]
    unfold wpOp
    simp only [ho]
    by_cases hz : i ∈ zs
    · -- one that only reads
      have hag : Agree hp0 hp := by
        rcases hI.sa with h | h
        · exact h
        · have := h i hz; rw [hun] at this; cases this
      have hirest : i ∉ rest := fun h => (hB.part i his).2 ⟨hz, hsub i h⟩
      obtain ⟨v, o', ho', hdv, hzk⟩ := hI.facts i hz hun
      rw [ho] at ho'
      injection ho' with ho'
      subst ho'
      have next : ∀ a' w', SimU c (putFr frm o.dst v) hp (unite U (base + i)) a' w' → wpAny P .any ops Q fuel (listed.setIfInBounds i true) a' w' := by
        rintro a' w' ⟨q1, q2, σ', q3, q4⟩
        refine ih _ rest m fr hp a' w' hfuel' ht hc hn hsub ⟨by simp [hI.size], hclosed', fun j hj => ?_, fun j hj hjz hjr => ?_, q1, q2, ⟨_, σ', q3, hU', fun t htu => ?_⟩, fun z hz' hzu => hI.facts z hz' (hun' z hzu).1, .inl hag⟩ hW
        · rw [getD_set_iff true hil, if_neg (fun e => hirest (by rw [e]; exact hj))]
          exact hI.un j hj
        · rw [getD_set_iff false hil]
          split
          · rfl
          · exact hI.done j hj hjz hjr
        · have := q4 t
          by_cases hd : o.dst = some t
          · rw [hd, fv_put_same] at this
            rw [hdv t hd]
            exact this
          · rw [fv_put hd, hm2 t fun hm => ?_] at this
            · exact this
            · obtain ⟨z, hz', hzu, he⟩ := (hml t).1 hm
              refine htu z hz' ?_ he
              rw [getD_set_iff true hil, if_neg]
              · exact hzu
              · intro e; subst e; exact hd (by rw [← hdi]; exact he)
      have exec : Still P fr hp0 o.op v → o.wp P a w (wpAny P .any ops Q fuel (listed.setIfInBounds i true)) Q := by
        intro hs
        have hop := still_congr hlook' hs hp (base + i) (fun v' hp' => v' = v ∧ hp' = hp) hag ⟨rfl, rfl⟩
        have hok := opW_snd (o := o) hr (fun x => ev_is hfm x) hNU hop
        refine upon_ok hI.def_ hI.tmps hdst hfm hok fun v' hp' a' w' hK hS => ?_
        obtain ⟨rfl, rfl⟩ := hK
        exact next a' w' hS
      unfold ZOk at hzk
      split at hzk
      · rename_i hg
        rw [if_pos (by simp [Region.wanted, hg])]
        exact .inl (exec hzk)
      · rename_i g want hg
        obtain ⟨d, b, hd, hb, h1, h2⟩ := hzk
        have hy := hgv hg hd hb
        by_cases hbw : b = want
        · rw [if_pos (by simp [Region.wanted, hg, hy, hbw])]
          exact .inl (exec (h1 hbw))
        · rw [if_neg (by simp [Region.wanted, hg, hy, hbw])]
          have hv := h2 (by cases b <;> cases want <;> simp_all)
          subst hv
          exact next _ _ (any_put hI.def_ hI.tmps hr hfm)
    · -- the next in the row
      have hir : i ∈ rest := by
        rcases Classical.em (i ∈ rest) with h | h
        · exact h
        · exact (notboth hun (hI.done i his hz h)).elim
      cases rest with
      | nil => simp at hir
      | cons j r =>
        have hij : i = j := by
          rcases List.mem_cons.1 hir with h | h
          · exact h
          · obtain ⟨p, hp1, hp2⟩ := chain_pred r j hc i h
            exact (notboth (hI.un p hp1) (hwl p hp2)).elim
        subst hij
        have hni : i ∉ r := by
          simp only [nodupB, Bool.and_eq_true, Bool.not_eq_true', List.contains_eq_mem, decide_eq_false_iff_not] at hn
          exact hn.1
        have hnr : nodupB r = true := by
          simp only [nodupB, Bool.and_eq_true] at hn
          exact hn.2
        have hcr : chainB ops r = true := by
          cases r with
          | nil => rfl
          | cons b r =>
            simp only [chainB, Bool.and_eq_true] at hc
            exact hc.2
        have htr : ∀ k, k ∈ r.drop (m - 1) → ∀ z, z ∈ zs → waitsN ops 3 k z = true := by
          intro k hk
          refine ht k ?_
          cases m with
          | zero => exact List.mem_cons_of_mem _ (by simpa using hk)
          | succ m => simpa using hk
        simp only [chW, ho] at hW
        have next : ∀ v hp' a' w', (m ≠ 0 → Agree hp0 hp' ∨ ∀ z, z ∈ zs → listed.getD z true = true) → chW P ops base hp0 K r (m - 1) (putFr fr o.dst v) hp' → SimU c (putFr frm o.dst v) hp' (unite U (base + i)) a' w' → wpAny P .any ops Q fuel (listed.setIfInBounds i true) a' w' := by
          rintro v hp' a' w' hsa hW' ⟨q1, q2, σ', q3, q4⟩
          refine ih _ r (m - 1) (putFr fr o.dst v) hp' a' w' hfuel' htr hcr hnr (fun k hk => hsub k (List.mem_cons_of_mem _ hk)) ⟨by simp [hI.size], hclosed', fun k hk => ?_, fun k hk hkz hkr => ?_, q1, q2, ⟨_, σ', q3, hU', fun t htu => ?_⟩, fun z hz' hzu => ?_, ?_⟩ hW'
          · rw [getD_set_iff true hil, if_neg (fun e => hni (by rw [e]; exact hk))]
            exact hI.un k (List.mem_cons_of_mem _ hk)
          · rw [getD_set_iff false hil]
            split
            · rfl
            · rename_i hne
              exact hI.done k hk hkz (fun h => by
                rcases List.mem_cons.1 h with h | h
                · exact hne h.symm
                · exact hkr h)
          · have := q4 t
            by_cases hd : o.dst = some t
            · rw [hd, fv_put_same] at this ⊢
              exact this
            · rw [fv_put hd] at this ⊢
              rw [hm2 t fun hm => ?_] at this
              · exact this
              · obtain ⟨z, hz', hzu, he⟩ := (hml t).1 hm
                refine htu z hz' ?_ he
                rw [getD_set_iff true hil, if_neg (fun e => hz (by rw [e]; exact hz'))]
                exact hzu
          · obtain ⟨hzu1, hzi⟩ := hun' z hzu
            obtain ⟨vz, oz, hoz, hdz, hzk⟩ := hI.facts z hz' hzu1
            have hdz' : dstOf ops z = oz.dst := by simp [dstOf, hoz]
            have hlz : looks ops z = oz.looksAt ops := by simp [looks, hoz]
            refine ⟨vz, oz, hoz, fun d hd => ?_, zok_congr (fun t ht' => ?_) hzk⟩
            · rw [fv_put]
              · exact hdz d hd
              · intro he
                exact hzi (hB.uniq z i d (by rw [hdz']; exact hd) (by rw [hdi]; exact he))
            · rw [fv_put]
              intro he
              exact notboth hzu1 (hwl z (hB.idst i (hsub i (List.mem_cons_self ..)) t (by rw [hdi]; exact he) z hz' (by rw [hlz]; exact ht')))
          · cases m with
            | zero =>
              right
              intro z hz'
              have := hwl z (ht i (by simp) z hz')
              rw [getD_set_iff true hil]
              split
              · rfl
              · exact getD_true_of this
            | succ m =>
              rcases hsa (by omega) with h | h
              · exact .inl h
              · right
                intro z hz'
                rw [getD_set_iff true hil]
                split
                · rfl
                · exact h z hz'
        have exec : opW P fr hp (base + i) o.op (fun v hp' => (m ≠ 0 → SaW hp0 hp') ∧ chW P ops base hp0 K r (m - 1) (putFr fr o.dst v) hp') → o.wp P a w (wpAny P .any ops Q fuel (listed.setIfInBounds i true)) Q := by
          intro hop
          rw [opW_congr (ev_looks hlook')] at hop
          have hok := opW_snd (o := o) hr (fun x => ev_is hfm x) hNU hop
          refine upon_ok hI.def_ hI.tmps hdst hfm hok fun v' hp' a' w' hK hS => ?_
          exact next v' hp' a' w' (fun h => .inl (sa_agree (hK.1 h))) hK.2 hS
        split at hW
        · rename_i hg
          rw [if_pos (by simp [Region.wanted, hg])]
          exact .inl (exec hW)
        · rename_i g want hg
          split at hW
          · rename_i d hd
            split at hW
            · rename_i b hb
              have hy := hgv hg hd hb
              by_cases hbw : b = want
              · rw [if_pos (by simp [Region.wanted, hg, hy, hbw])]
                exact .inl (exec (hW.1 hbw))
              · rw [if_neg (by simp [Region.wanted, hg, hy, hbw])]
                have hv := hW.2 (by cases b <;> cases want <;> simp_all)
                exact next .any hp _ _ (fun hm => hI.sa) hv (any_put hI.def_ hI.tmps hr hfm)
            · exact hW.elim
          · exact hW.elim

/-- A region whose order the tape picks. -/
theorem region_snd {zs is : List Nat} {m : Nat} {id : Nat} {U : Nat → Prop} {a : Act} {w : World} {Q : Exit → Act → World → Prop} (hmix : P.follows .mixedOrders = true) (hB : regB c.n ops zs is m = true)
    (hQ : ∀ fr hp a w U, K fr hp → (∀ k, U k → k < base + ops.size) → SimU c fr hp U a w → Q .normal a w)
    (hU : ∀ k, U k → k < base) (hs : SimU c fr hp0 U a w) (h : zW P ops base hp0 K is m zs fr) : (Code.region id ops true).wp P Q a w := by
  have hok := regB_ok hB
  obtain ⟨frZ, h1, h2, h3⟩ := zW_facts hok.uniq zs fr hok.order hok.nzs h
  obtain ⟨q1, q2, σ, q3, q4⟩ := hs
  have hrd := rel_drew q3
  have rep : ∀ j, (Array.replicate ops.size false).getD j false = false := by
    intro j
    simp only [Array.getD_eq_getD_getElem?, Array.getElem?_replicate]
    split <;> rfl
  have rep' : ∀ j, j < ops.size → (Array.replicate ops.size false).getD j true = false := by
    intro j hj
    simp [Array.getD_eq_getD_getElem?, Array.getElem?_replicate, hj]
  refine wp_region_any hmix (reg_go hok hQ ops.size _ is m frZ hp0 a w.drew ?_ hok.tail hok.chain hok.nis (fun _ h => h) ⟨by simp, fun j o ho hl => (by rw [rep] at hl; cases hl), fun j hj => rep' j (hok.inb j hj), fun j hj hz hi => ?_, q1, q2,
    ⟨U, σ, hrd, fun k hk => .inl (hU k hk), fun t ht => ?_⟩, fun z hz _ => h3 z hz, .inl fun _ _ h => h⟩ h1)
  · unfold unl
    refine Nat.le_trans (List.length_filter_le _ _) ?_
    simp
  · rcases (hok.part j hj).1 with h | h
    · exact absurd h hz
    · exact absurd h hi
  · rw [h2 t fun z hz he => ?_]
    · exact (q4 t).step step_drew
    · refine ht z hz (rep' z ?_) he
      rcases Nat.lt_or_ge z ops.size with h | h
      · exact h
      · simp [dstOf, Array.getElem?_eq_none h] at he
end
end Go.Am
