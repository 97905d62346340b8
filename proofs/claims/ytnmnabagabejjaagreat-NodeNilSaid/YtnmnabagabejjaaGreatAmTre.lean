/-
  AM, part 6g: regions whose order the tape picks, by a tree of orders: what may stand next is told at each place.
-/
import Derived.Test.YtnmnabagabejjaaGreatAmReg
namespace Go.Am
set_option linter.unusedVariables false
set_option linter.unusedSimpArgs false

inductive Tr where
  | done
  | alt (a b : Tr)
  | step (i : Nat) (zs : List Nat) (keep : Bool) (t : Tr)

def rmv (i : Nat) (hs : List Nat) : List Nat := hs.filter fun j => j != i
def zrem (za zs : List Nat) : List Nat := za.filter fun z => !zs.contains z
theorem mem_rmv {i k : Nat} {hs : List Nat} : k ∈ rmv i hs ↔ k ∈ hs ∧ k ≠ i := by simp [rmv]
theorem mem_zrem {za zs : List Nat} {k : Nat} : k ∈ zrem za zs ↔ k ∈ za ∧ k ∉ zs := by simp [zrem]

/-- What may come first. -/
def firsts : Tr → List Nat
  | .done => []
  | .alt a b => firsts a ++ firsts b
  | .step i _ _ _ => [i]
def covB (ms : List Nat) (hs : List Nat) (t : Tr) : Bool := hs.all fun j => (firsts t).contains j || hs.any fun p => wt ms j p
def covP (ops : Array Oper) (hs : List Nat) (t : Tr) : Prop := ∀ j, j ∈ hs → j ∈ firsts t ∨ ∃ p, p ∈ hs ∧ Waits ops j p

/-- A reader that looks at temporaries alone. -/
def nmB (ops : Array Oper) (z : Nat) : Bool := match ops[z]? with
  | some o => nmOp o.op
  | none => false
def trB (ops : Array Oper) (ms za is : List Nat) : List Nat → List Nat → Tr → Bool
  | zv, hs, .done => hs.isEmpty && za.all fun z => zv.contains z
  | zv, hs, .alt a b => trB ops ms za is zv hs a && trB ops ms za is zv hs b
  | zv, hs, .step i zs keep t => hs.contains i && (keep || za.all fun z => nmB ops z || wt ms i z || is.any fun h => !hs.contains h && wt ms h z) && (match dstOf ops i with
      | some d => zv.all fun z => !(looks ops z).contains d || wt ms i z
      | none => true) && (zs.all fun z => wt ms z i) && (zs.all fun z => za.contains z) && orderB ops (zv ++ zs) && nodupB (zv ++ zs) && covB ms (rmv i hs) t && trB ops ms za is (zv ++ zs) (rmv i hs) t
def trP (ops : Array Oper) (za is : List Nat) : List Nat → List Nat → Tr → Prop
  | zv, hs, .done => hs = [] ∧ ∀ z, z ∈ za → z ∈ zv
  | zv, hs, .alt a b => trP ops za is zv hs a ∧ trP ops za is zv hs b
  | zv, hs, .step i zs keep t => (i ∈ hs ∧ (keep = false → ∀ z, z ∈ za → nmB ops z = false → Waits ops i z ∨ ∃ h, h ∈ is ∧ h ∉ hs ∧ Waits ops h z)) ∧ (∀ d, dstOf ops i = some d → ∀ z, z ∈ zv → d ∈ looks ops z → Waits ops i z) ∧ (∀ z, z ∈ zs → Waits ops z i) ∧ (∀ z, z ∈ zs → z ∈ za) ∧
      orderB ops (zv ++ zs) = true ∧ nodupB (zv ++ zs) = true ∧ covP ops (rmv i hs) t ∧ trP ops za is (zv ++ zs) (rmv i hs) t

theorem covB_P {ops : Array Oper} {hs : List Nat} {t : Tr} (h : covB (mks ops) hs t = true) : covP ops hs t := by
  intro j hj
  have := List.all_eq_true.1 h j hj
  rw [Bool.or_eq_true] at this
  rcases this with h | h
  · exact .inl (by simpa using h)
  · obtain ⟨p, h1, h2⟩ := List.any_eq_true.1 h
    exact .inr ⟨p, h1, mks_wt h2⟩

theorem trB_P {ops : Array Oper} {za is : List Nat} : ∀ (t : Tr) {zv hs : List Nat}, trB ops (mks ops) za is zv hs t = true → trP ops za is zv hs t
  | .done, zv, hs, h => by
    simp only [trB, Bool.and_eq_true, List.isEmpty_iff] at h
    exact ⟨h.1, fun z hz => by simpa using List.all_eq_true.1 h.2 z hz⟩
  | .alt a b, zv, hs, h => by
    simp only [trB, Bool.and_eq_true] at h
    exact ⟨trB_P a h.1, trB_P b h.2⟩
  | .step i zs keep t, zv, hs, h => by
    simp only [trB, Bool.and_eq_true] at h
    obtain ⟨⟨⟨⟨⟨⟨⟨⟨h1, h2⟩, h3⟩, h4⟩, h5⟩, h6⟩, h7⟩, h8⟩, h9⟩ := h
    refine ⟨⟨by simpa using h1, fun hk z hz hnm => ?_⟩, fun d hd z hz hl => ?_, fun z hz => mks_wt (List.all_eq_true.1 h4 z hz), fun z hz => by simpa using List.all_eq_true.1 h5 z hz, h6, h7, covB_P h8, trB_P t h9⟩
    · rw [hk, Bool.false_or] at h2
      have h2' := List.all_eq_true.1 h2 z hz
      rw [hnm, Bool.false_or, Bool.or_eq_true] at h2'
      rcases h2' with h | h
      · exact .inl (mks_wt h)
      · obtain ⟨q, q1, q2⟩ := List.any_eq_true.1 h
        rw [Bool.and_eq_true] at q2
        exact .inr ⟨q, q1, by simpa using q2.1, mks_wt q2.2⟩
    · simp only [hd] at h3
      have := List.all_eq_true.1 h3 z hz
      simp only [hl, List.contains_eq_mem, decide_true, Bool.not_true, Bool.false_or] at this
      exact mks_wt this

section
variable (P : Program) (ops : Array Oper) (base : Nat) (hp0 : Hp) (K : Fr → Hp → Prop)
/-- All orders. -/
def trW : Tr → Fr → Hp → Prop
  | .done, fr, hp => K fr hp
  | .alt a b, fr, hp => trW a fr hp ∧ trW b fr hp
  | .step i zs keep t, fr, hp => match ops[i]? with
    | some o => (match o.guard with
      | none => opW P fr hp (base + 32 * i) o.op fun v hp' => (keep = true → SaW hp0 hp') ∧ zW P ops base hp0 (fun fr => trW t fr hp') zs (putFr fr o.dst v)
      | some (g, want) => (match (ops[g]?).bind (·.dst) with
        | some d => (match fv d fr with
          | .d (.bool b) => (b = want → opW P fr hp (base + 32 * i) o.op fun v hp' => (keep = true → SaW hp0 hp') ∧ zW P ops base hp0 (fun fr => trW t fr hp') zs (putFr fr o.dst v)) ∧
              (b = !want → zW P ops base hp0 (fun fr => trW t fr hp) zs (putFr fr o.dst (.tup [])))
          | .tup [] => zW P ops base hp0 (fun fr => trW t fr hp) zs (putFr fr o.dst (.tup []))
          | _ => False)
        | none => False))
    | none => False
end

section
variable {P : Program} {c : Ctx} {ops : Array Oper} {base : Nat} {hp0 : Hp} {K : Fr → Hp → Prop} {fr fr' : Fr}

theorem trW_done {za is zs : List Nat} {hp : Hp} : ∀ (t : Tr), trP ops za is zs [] t → trW P ops base hp0 K t fr hp → K fr hp
  | .done, _, h => h
  | .alt a b, hT, h => trW_done a hT.1 h.1
  | .step i zs keep t, hT, h => by have := hT.1.1; simp at this

theorem trP_wait {za is : List Nat} : ∀ (t : Tr) {zs hs : List Nat} {z : Nat}, trP ops za is zs hs t → z ∈ za → z ∉ zs → ∃ p, p ∈ hs ∧ Waits ops z p
  | .done, zs, hs, z, hT, h1, h2 => absurd (hT.2 z h1) h2
  | .alt a b, zs, hs, z, hT, h1, h2 => trP_wait a hT.1 h1 h2
  | .step i zj keep t, zs, hs, z, hT, h1, h2 => by
    obtain ⟨p1, p2, p3, p4, p5, p6, p7, p8⟩ := hT
    rcases Classical.em (z ∈ zj) with h | h
    · exact ⟨i, p1.1, p3 z h⟩
    · obtain ⟨p, q1, q2⟩ := trP_wait t p8 h1 (fun e => (List.mem_append.1 e).elim h2 h)
      exact ⟨p, (mem_rmv.1 q1).1, q2⟩

theorem trW_first {za is zs hs : List Nat} {hp : Hp} {i : Nat} : ∀ (t : Tr), i ∈ firsts t → trP ops za is zs hs t → trW P ops base hp0 K t fr hp → ∃ zj keep t', trP ops za is zs hs (.step i zj keep t') ∧ trW P ops base hp0 K (.step i zj keep t') fr hp
  | .done, h, _, _ => by simp [firsts] at h
  | .alt a b, h, hT, hW => by
    rcases List.mem_append.1 h with h | h
    · exact trW_first a h hT.1 hW.1
    · exact trW_first b h hT.2 hW.2
  | .step j zj keep t', h, hT, hW => by
    simp only [firsts, List.mem_singleton] at h
    subst h
    exact ⟨zj, keep, t', hT, hW⟩

set_option maxHeartbeats 1000000 in
/-- Every order. -/
theorem tre_go {za is : List Nat} {Q : Exit → Act → World → Prop} (hB : RegOk c.n ops za is)
    (hQ : ∀ fr hp a w U, K fr hp → (∀ k, U k → k < base + 32 * ops.size) → SimU c fr hp U a w → Q .normal a w) :
    ∀ (fuel : Nat) (listed : Array Bool) (zs hs : List Nat) (t : Tr) (fr : Fr) (hp : Hp) (a : Act) (w : World), unl listed ≤ fuel → trP ops za is zs hs t → covP ops hs t → (∀ i, i ∈ hs → i ∈ is) → (∀ z, z ∈ zs → z ∈ za) →
      RInv P c ops base hp0 (za.filter fun z => !nmB ops z) zs (hs ++ zrem za zs) listed fr hp a w → trW P ops base hp0 K t fr hp → wpAny P .any ops Q fuel listed a w := by
  have notboth : ∀ {listed : Array Bool} {i : Nat}, listed.getD i true = false → listed.getD i false = true → False := by
    intro listed i h1 h2
    rw [getD_true_of h2] at h1
    cases h1
  -- where nothing is left
  have fin : ∀ (listed : Array Bool) (zs hs : List Nat) (t : Tr) (fr : Fr) (hp : Hp) (a : Act) (w : World), trP ops za is zs hs t → (∀ i, i ∈ hs → i ∈ is) → RInv P c ops base hp0 (za.filter fun z => !nmB ops z) zs (hs ++ zrem za zs) listed fr hp a w → trW P ops base hp0 K t fr hp → Region.ready .any ops listed = [] → Q .normal a w := by
    intro listed zs hs t fr hp a w hT hsub hI hW hr0
    have all : ∀ k j, j ≤ k → j < ops.size → listed.getD j false = true := by
      intro k
      induction k with
      | zero =>
        intro j hj hjs
        cases hl : listed.getD j false with
        | true => rfl
        | false =>
          have hmem : j ∈ Region.ready .any ops listed := mem_ready.2 ⟨getD_false_of (by rw [hI.size]; exact hjs) hl, ops[j], Array.getElem?_eq_getElem hjs, fun e he hb => by
            have := hB.low j _ (Array.getElem?_eq_getElem hjs) e he hb
            omega⟩
          rw [hr0] at hmem
          simp at hmem
      | succ k ih =>
        intro j hj hjs
        cases hl : listed.getD j false with
        | true => rfl
        | false =>
          have hmem : j ∈ Region.ready .any ops listed := mem_ready.2 ⟨getD_false_of (by rw [hI.size]; exact hjs) hl, ops[j], Array.getElem?_eq_getElem hjs, fun e he hb => by
            have := hB.low j _ (Array.getElem?_eq_getElem hjs) e he hb
            exact ih e.on (by omega) (by omega)⟩
          rw [hr0] at hmem
          simp at hmem
    have hnil : hs = [] := by
      cases hs with
      | nil => rfl
      | cons j r =>
        have h1 := hI.un j (List.mem_append.2 (.inl (List.mem_cons_self ..)))
        exact (notboth h1 (all j j (Nat.le_refl _) (hB.inb j (hsub j (List.mem_cons_self ..))))).elim
    subst hnil
    have hW := trW_done t hT hW
    obtain ⟨U, σ, hr, hh, hU, hf⟩ := hI.sim
    refine hQ fr hp a w U hW (fun k hk => ?_) ⟨hI.def_, hI.tmps, σ, hr, fun t => hf t fun z hz hun => ?_, hh⟩
    · rcases hU k hk with h | ⟨j, hj1, hj2, hj⟩
      · omega
      · have : j < listed.size := by
          rcases Nat.lt_or_ge j listed.size with h | h
          · exact h
          · simp [Array.getD_eq_getD_getElem?, Array.getElem?_eq_none h] at hj
        have := hI.size
        omega
    · intro he
      have : z < ops.size := by
        rcases Nat.lt_or_ge z ops.size with h | h
        · exact h
        · simp [dstOf, Array.getElem?_eq_none h] at he
      exact notboth hun (all z z (Nat.le_refl _) this)
  intro fuel
  induction fuel with
  | zero =>
    intro listed zs hs t fr hp a w hf hT hcov hsub hza hI hW
    have hr0 : Region.ready .any ops listed = [] := by
      rw [List.eq_nil_iff_forall_not_mem]
      intro i hi
      have := unl_set (mem_ready.1 hi).1
      omega
    exact ⟨hr0, fin listed zs hs t fr hp a w hT hsub hI hW hr0⟩
  | succ fuel ih =>
    intro listed zs hs tr fr hp a w hfuel hT hcov hsub hza hI hW
    refine ⟨fin listed zs hs tr fr hp a w hT hsub hI hW, fun i hi => ?_⟩
    obtain ⟨hun, o, ho, haft⟩ := mem_ready.1 hi
    have his : i < ops.size := (Array.getElem?_eq_some_iff.1 ho).1
    have hil : i < listed.size := by rw [hI.size]; exact his
    have hdi : dstOf ops i = o.dst := by simp [dstOf, ho]
    have hli : looks ops i = o.looksAt ops := by simp [looks, ho]
    have hwl : ∀ z, Waits ops i z → listed.getD z false = true := fun z hz => waits_listed hI.closed hz fun o' ho' => by
      rw [ho] at ho'
      injection ho' with ho'
      subst ho'
      exact haft
    have hzza : ∀ z, z ∈ zs → z ∈ za := hza
    have hdst : dstOk c.n o.dst := by
      unfold dstOk
      cases hd : o.dst with
      | none => trivial
      | some d => exact hB.lt i d (by rw [hdi, hd])
    have hun' : ∀ z, (listed.setIfInBounds i true).getD z true = false → listed.getD z true = false ∧ z ≠ i := by
      intro z hz
      rw [getD_set_iff true hil] at hz
      split at hz
      · cases hz
      · rename_i hne; exact ⟨hz, fun h => hne h.symm⟩
    have hclosed' : ∀ j o', ops[j]? = some o' → (listed.setIfInBounds i true).getD j false = true → ∀ e, e ∈ o'.after → Region.binds .any e = true → (listed.setIfInBounds i true).getD e.on false = true := by
      intro j o' hj hl e he hb
      rw [getD_set_iff false hil] at hl ⊢
      split
      · rfl
      · split at hl
        · rename_i hij
          subst hij
          rw [ho] at hj
          injection hj with hj
          subst hj
          exact haft e he hb
        · exact hI.closed j o' hj hl e he hb
    have hfuel' : unl (listed.setIfInBounds i true) ≤ fuel := by
      have := unl_set hun
      omega
    obtain ⟨U, σ, hr, hh, hU, hf⟩ := hI.sim
    have hNU : Free U (base + 32 * i) := by
      intro k k1 k2 h
      rcases hU _ h with h | ⟨j, hj, hj2, hl⟩
      · omega
      · have : j = i := by omega
        subst this
        exact notboth hun hl
    have hU' : ∀ k, unite U (base + 32 * i) k → k < base ∨ ∃ j, base + 32 * j ≤ k ∧ k < base + 32 * j + 32 ∧ (listed.setIfInBounds i true).getD j false = true := by
      rintro k (h | h)
      · rcases hU k h with h | ⟨j, h1, h1', h2⟩
        · exact .inl h
        · exact .inr ⟨j, h1, h1', by rw [getD_set_iff false hil]; split <;> simp [h2]⟩
      · exact .inr ⟨i, h.1, h.2, by rw [getD_set_iff false hil]; simp⟩
    obtain ⟨frm, hm1, hm2⟩ := masked fr (zs.filterMap fun z => if listed.getD z true = true then none else dstOf ops z)
    have hml : ∀ t, t ∈ (zs.filterMap fun z => if listed.getD z true = true then none else dstOf ops z) ↔ ∃ z, z ∈ zs ∧ listed.getD z true = false ∧ dstOf ops z = some t := by
      intro t
      rw [List.mem_filterMap]
      constructor
      · rintro ⟨z, hz, h⟩
        split at h
        · cases h
        · rename_i hne
          exact ⟨z, hz, by simpa using hne, h⟩
      · rintro ⟨z, hz, h1, h2⟩
        exact ⟨z, hz, by simp [h1, h2]⟩
    have hfm : ∀ t, AIs w (Sof c w σ hp) σ hp U (fv t frm) (a.tmps.getD t undef) := by
      intro t
      by_cases hm : t ∈ (zs.filterMap fun z => if listed.getD z true = true then none else dstOf ops z)
      · rw [hm1 t hm]; exact .any _
      · rw [hm2 t hm]
        exact hf t fun z hz hzu he => hm ((hml t).2 ⟨z, hz, hzu, he⟩)
    have hlook : ∀ t, t ∈ o.looksAt ops → fv t frm = fv t fr := by
      intro t ht'
      refine hm2 t fun hm => ?_
      obtain ⟨z, hz, hzu, he⟩ := (hml t).1 hm
      exact notboth hzu (hwl z (hB.zdst z (hzza z hz) t he i (by rw [hli]; exact ht')))
    have hlook' : ∀ t, t ∈ o.looksAt ops → fv t fr = fv t frm := fun t ht' => (hlook t ht').symm
    have hgu : ∀ {g want d}, o.guard = some (g, want) → (ops[g]?).bind (·.dst) = some d → fv d fr = .tup [] → ¬ (yielded ops a.tmps g = some want) := by
      intro g want d hg hd hb
      have hx := hfm d
      rw [hlook d (guard_looks hg hd), hb] at hx
      unfold yielded
      rw [hd]
      cases ht : a.tmps[d]? with
      | none => simp [ht]
      | some u =>
        have e : a.tmps.getD d undef = u := by simp [Array.getD_eq_getD_getElem?, ht]
        rw [e] at hx
        cases hx with
        | tup _ xs _ _ => simp [ht]
    have hgv : ∀ {g want d b}, o.guard = some (g, want) → (ops[g]?).bind (·.dst) = some d → fv d fr = .d (.bool b) → yielded ops a.tmps g = some b := by
      intro g want d b hg hd hb
      have hx := hfm d
      rw [hlook d (guard_looks hg hd), hb] at hx
      have hv := is_bool hx
      unfold yielded
      rw [hd]
      have hv' : a.tmps[d]?.getD undef = .bool b := by simpa using hv
      cases ht : a.tmps[d]? with
      | none => rw [ht] at hv'; cases hv'
      | some u => rw [ht] at hv'; simp at hv'; subst hv'; simp [ht]
    unfold wpOp
    simp only [ho]
    by_cases hz : i ∈ zs
    · -- one that only reads
      have hopw : ∀ (K' : AV → Hp → Prop) (v : AV), Still P frm hp0 o.op v → K' v hp → opW P frm hp (base + 32 * i) o.op K' := by
        intro K' v hs hk
        rcases hI.sa with h | h
        · exact hs hp _ K' h hk
        · have hn : nmOp o.op = true := by
            cases hn : nmOp o.op with
            | true => rfl
            | false =>
              have := h i (List.mem_filter.2 ⟨hzza i hz, by simp [nmB, ho, hn]⟩)
              rw [hun] at this; cases this
          exact nm_free hn hs hp _ K' hk
      have hsa' : Agree hp0 hp ∨ ∀ z, z ∈ (za.filter fun z => !nmB ops z) → (listed.setIfInBounds i true).getD z true = true := hI.sa.imp id fun h z hz' => by
        rw [getD_set_iff true hil]
        split
        · rfl
        · exact h z hz'
      have hirest : i ∉ hs ++ zrem za zs := fun h => by
        rcases List.mem_append.1 h with h | h
        · exact (hB.part i his).2 ⟨hzza i hz, hsub i h⟩
        · exact (mem_zrem.1 h).2 hz
      obtain ⟨v, o', ho', hdv, hzk⟩ := hI.facts i hz hun
      rw [ho] at ho'
      injection ho' with ho'
      subst ho'
      have next : ∀ a' w', SimU c (putFr frm o.dst v) hp (unite U (base + 32 * i)) a' w' → wpAny P .any ops Q fuel (listed.setIfInBounds i true) a' w' := by
        rintro a' w' ⟨q1, q2, σ', q3, q4, q5⟩
        refine ih _ zs hs tr fr hp a' w' hfuel' hT hcov hsub hza ⟨by simp [hI.size], hclosed', fun j hj => ?_, fun j hj hjz hjr => ?_, q1, q2, ⟨_, σ', q3, q5, hU', fun t htu => ?_⟩, fun z hz' hzu => hI.facts z hz' (hun' z hzu).1, hsa'⟩ hW
        · rw [getD_set_iff true hil, if_neg (fun e => hirest (by rw [e]; exact hj))]
          exact hI.un j hj
        · rw [getD_set_iff false hil]
          split
          · rfl
          · exact hI.done j hj hjz hjr
        · have := q4 t
          by_cases hd : o.dst = some t
          · rw [hd, fv_put_same] at this
            rw [hdv t hd]
            exact this
          · rw [fv_put hd, hm2 t fun hm => ?_] at this
            · exact this
            · obtain ⟨z, hz', hzu, he⟩ := (hml t).1 hm
              refine htu z hz' ?_ he
              rw [getD_set_iff true hil, if_neg]
              · exact hzu
              · intro e; subst e; exact hd (by rw [← hdi]; exact he)
      have exec : Still P fr hp0 o.op v → o.wp P a w (wpAny P .any ops Q fuel (listed.setIfInBounds i true)) Q := by
        intro hs
        have hop := hopw (fun v' hp' => v' = v ∧ hp' = hp) v (still_congr hlook' hs) ⟨rfl, rfl⟩
        have hok := opW_snd (o := o) hr (fun x => ev_is hfm x) hNU hop
        refine upon_ok hI.def_ hI.tmps hdst hfm hh hok fun v' hp' a' w' hK hS => ?_
        obtain ⟨rfl, rfl⟩ := hK
        exact next a' w' hS
      unfold ZOk at hzk
      split at hzk
      · rename_i hg
        rw [if_pos (by simp [Region.wanted, hg])]
        exact .inl (exec hzk)
      · rename_i g want hg
        obtain ⟨d, hd, ⟨b, hb, h1, h2⟩ | ⟨hb, hv⟩⟩ := hzk
        · have hy := hgv hg hd hb
          by_cases hbw : b = want
          · rw [if_pos (by simp [Region.wanted, hg, hy, hbw])]
            exact .inl (exec (h1 hbw))
          · rw [if_neg (by simp [Region.wanted, hg, hy, hbw])]
            have hv := h2 (by cases b <;> cases want <;> simp_all)
            subst hv
            exact next _ _ (any_put hI.def_ hI.tmps hr hh hfm)
        · have hy := hgu hg hd hb
          rw [if_neg (by simp [Region.wanted, hg, hy])]
          subst hv
          exact next _ _ (any_put hI.def_ hI.tmps hr hh hfm)
    · -- the next in the row
      have hir : i ∈ hs ++ zrem za zs := by
        rcases Classical.em (i ∈ hs ++ zrem za zs) with h | h
        · exact h
        · exact (notboth hun (hI.done i his hz h)).elim
      have far : ∀ p, p ∈ hs → Waits ops i p → False := fun p hp1 hp2 => notboth (hI.un p (List.mem_append.2 (.inl hp1))) (hwl p hp2)
      have hih : i ∈ hs := by
        rcases List.mem_append.1 hir with h | h
        · exact h
        · obtain ⟨p, hp1, hp2⟩ := trP_wait tr hT (mem_zrem.1 h).1 (mem_zrem.1 h).2
          exact (far p hp1 hp2).elim
      have hfi : i ∈ firsts tr := by
        rcases hcov i hih with h | ⟨p, hp1, hp2⟩
        · exact h
        · exact (far p hp1 hp2).elim
      obtain ⟨zj, keep, t', hT', hW'⟩ := trW_first tr hfi hT hW
      clear hT hW hcov hfi
      obtain ⟨p1, p2, p3, p4, p5, p6, p7, p8⟩ := hT'
      have hW := hW'
      clear hW'
      · have hiza : i ∉ za := fun h => (hB.part i his).2 ⟨h, hsub i hih⟩
        have hzj : ∀ z, z ∈ zj → z ∈ za := p4
        have hza' : ∀ z, z ∈ zs ++ zj → z ∈ za := fun z hz' => (List.mem_append.1 hz').elim (hza z) (p4 z)
        have hordj := orderB_app p5
        have hnzj := nodupB_app p6
        have hmr : ∀ {k}, k ∈ rmv i hs ++ zrem za (zs ++ zj) → k ∈ hs ++ zrem za zs ∧ k ≠ i := by
          intro k hk
          rcases List.mem_append.1 hk with h | h
          · exact ⟨List.mem_append.2 (.inl (mem_rmv.1 h).1), (mem_rmv.1 h).2⟩
          · have h' := mem_zrem.1 h
            exact ⟨List.mem_append.2 (.inr (mem_zrem.2 ⟨h'.1, fun e => h'.2 (List.mem_append.2 (.inl e))⟩)), fun e => hiza (by rw [← e]; exact h'.1)⟩
        have hunj : ∀ z, z ∈ zj → listed.getD z true = false := fun z hz' => hI.un z (List.mem_append.2 (.inr (mem_zrem.2 ⟨hzj z hz', fun e => hnzj.2.2 z e hz'⟩)))
        simp only [trW, ho] at hW
        have next : ∀ v hp' a' w', (keep = true → Agree hp0 hp' ∨ ∀ z, z ∈ (za.filter fun z => !nmB ops z) → listed.getD z true = true) → zW P ops base hp0 (fun fr => trW P ops base hp0 K t' fr hp') zj (putFr fr o.dst v) → SimU c (putFr frm o.dst v) hp' (unite U (base + 32 * i)) a' w' → wpAny P .any ops Q fuel (listed.setIfInBounds i true) a' w' := by
          rintro v hp' a' w' hsa hW' ⟨q1, q2, σ', q3, q4, q5⟩
          obtain ⟨frZ, g1, g2, g3⟩ := zW_facts hB.uniq zj _ hordj.2.1 hnzj.2.1 hW'
          refine ih _ (zs ++ zj) (rmv i hs) t' frZ hp' a' w' hfuel' p8 p7 (fun k hk => hsub k (mem_rmv.1 hk).1) hza' ⟨by simp [hI.size], hclosed', fun k hk => ?_, fun k hk hkz hkr => ?_, q1, q2, ⟨_, σ', q3, q5, hU', fun t htu => ?_⟩, fun z hz' hzu => ?_, ?_⟩ g1
          · rw [getD_set_iff true hil, if_neg (fun e => (hmr hk).2 e.symm)]
            exact hI.un k (hmr hk).1
          · rw [getD_set_iff false hil]
            split
            · rfl
            · rename_i hne
              exact hI.done k hk (fun h => hkz (List.mem_append.2 (.inl h))) (fun h => by
                rcases List.mem_append.1 h with h | h
                · exact hkr (List.mem_append.2 (.inl (mem_rmv.2 ⟨h, fun e => hne e.symm⟩)))
                · exact hkr (List.mem_append.2 (.inr (mem_zrem.2 ⟨(mem_zrem.1 h).1, hkz⟩))))
          · have hnj : ∀ z, z ∈ zj → dstOf ops z ≠ some t := fun z hz' => htu z (List.mem_append.2 (.inr hz')) (by
              rw [getD_set_iff true hil, if_neg (fun e => hiza (by rw [e]; exact hzj z hz'))]
              exact hunj z hz')
            rw [g2 t hnj]
            have := q4 t
            by_cases hd : o.dst = some t
            · rw [hd, fv_put_same] at this ⊢
              exact this
            · rw [fv_put hd] at this ⊢
              rw [hm2 t fun hm => ?_] at this
              · exact this
              · obtain ⟨z, hz', hzu, he⟩ := (hml t).1 hm
                refine htu z (List.mem_append.2 (.inl hz')) ?_ he
                rw [getD_set_iff true hil, if_neg (fun e => hz (by rw [e]; exact hz'))]
                exact hzu
          · rcases List.mem_append.1 hz' with hz' | hz'
            · obtain ⟨hzu1, hzi⟩ := hun' z hzu
              obtain ⟨vz, oz, hoz, hdz, hzk⟩ := hI.facts z hz' hzu1
              have hdz' : dstOf ops z = oz.dst := by simp [dstOf, hoz]
              have hlz : looks ops z = oz.looksAt ops := by simp [looks, hoz]
              refine ⟨vz, oz, hoz, fun d hd => ?_, zok_congr (fun t ht' => ?_) hzk⟩
              · rw [g2 d fun y hy he => ?_, fv_put]
                · exact hdz d hd
                · intro he
                  exact hzi (hB.uniq z i d (by rw [hdz']; exact hd) (by rw [hdi]; exact he))
                · have := hB.uniq z y d (by rw [hdz']; exact hd) he
                  subst this
                  exact hnzj.2.2 z hz' hy
              · rw [g2 t fun y hy => hordj.2.2 z hz' y hy t (by rw [hlz]; exact ht'), fv_put]
                intro he
                exact notboth hzu1 (hwl z (p2 t (by rw [hdi]; exact he) z hz' (by rw [hlz]; exact ht')))
            · exact g3 z hz'
          · cases hk : keep with
            | false =>
              right
              intro z hz'
              have hz'' := List.mem_filter.1 hz'
              have : listed.getD z false = true := by
                rcases p1.2 hk z hz''.1 (by simpa using hz''.2) with h | ⟨q, h1, h2, h3⟩
                · exact hwl z h
                · have hqz : q ∉ za := fun e => (hB.part q (hB.inb q h1)).2 ⟨e, h1⟩
                  have hl := hI.done q (hB.inb q h1) (fun e => hqz (hza q e)) (fun e => (List.mem_append.1 e).elim h2 fun e => hqz (mem_zrem.1 e).1)
                  exact waits_listed hI.closed h3 fun o' ho' => hI.closed q o' ho' hl
              rw [getD_set_iff true hil]
              split
              · rfl
              · exact getD_true_of this
            | true =>
              rcases hsa hk with h | h
              · exact .inl h
              · right
                intro z hz'
                rw [getD_set_iff true hil]
                split
                · rfl
                · exact h z hz'
        have exec : opW P fr hp (base + 32 * i) o.op (fun v hp' => (keep = true → SaW hp0 hp') ∧ zW P ops base hp0 (fun fr => trW P ops base hp0 K t' fr hp') zj (putFr fr o.dst v)) → o.wp P a w (wpAny P .any ops Q fuel (listed.setIfInBounds i true)) Q := by
          intro hop
          rw [opW_congr (ev_looks hlook')] at hop
          have hok := opW_snd (o := o) hr (fun x => ev_is hfm x) hNU hop
          refine upon_ok hI.def_ hI.tmps hdst hfm hh hok fun v' hp' a' w' hK hS => ?_
          exact next v' hp' a' w' (fun h => .inl (sa_agree (hK.1 h))) hK.2 hS
        split at hW
        · rename_i hg
          rw [if_pos (by simp [Region.wanted, hg])]
          exact .inl (exec hW)
        · rename_i g want hg
          split at hW
          · rename_i d hd
            split at hW
            · rename_i b hb
              have hy := hgv hg hd hb
              by_cases hbw : b = want
              · rw [if_pos (by simp [Region.wanted, hg, hy, hbw])]
                exact .inl (exec (hW.1 hbw))
              · rw [if_neg (by simp [Region.wanted, hg, hy, hbw])]
                have hv := hW.2 (by cases b <;> cases want <;> simp_all)
                exact next (.tup []) hp _ _ (fun hm => hI.sa) hv (any_put hI.def_ hI.tmps hr hh hfm)
            · rename_i hb
              have hy := hgu hg hd hb
              rw [if_neg (by simp [Region.wanted, hg, hy])]
              exact next (.tup []) hp _ _ (fun hm => hI.sa) hW (any_put hI.def_ hI.tmps hr hh hfm)
            · exact hW.elim
          · exact hW.elim
def tregC (n : Nat) (ops : Array Oper) (ms : List Nat) (zs is za : List Nat) (t : Tr) : Bool :=
  (List.range ops.size).all (fun j => (za.contains j || is.contains j) && !(za.contains j && is.contains j)) &&
  is.all (fun j => decide (j < ops.size)) && za.all (fun j => decide (j < ops.size)) && nodupB zs && orderB ops zs && (zs.all fun z => za.contains z) &&
  (List.range ops.size).all (fun i => match dstOf ops i with
    | some d => decide (d < n) && (List.range ops.size).all fun j => j == i || dstOf ops j != some d
    | none => true) &&
  za.all (fun z => match dstOf ops z with
    | some d => (List.range ops.size).all fun j => !(looks ops j).contains d || wt ms j z
    | none => true) &&
  trB ops ms za is zs is t && covB ms is t &&
  (List.range ops.size).all (fun j => match ops[j]? with
    | some o => o.after.all fun e => !Region.binds .any e || decide (e.on < j)
    | none => true)
def tregB (n : Nat) (ops : Array Oper) (zs is za : List Nat) (t : Tr) : Bool := tregC n ops (mks ops) zs is za t

theorem tregB_ok {n : Nat} {zs is za : List Nat} {t : Tr} (h : tregB n ops zs is za t = true) : RegOk n ops za is ∧ trP ops za is zs is t ∧ covP ops is t ∧ orderB ops zs = true ∧ nodupB zs = true ∧ (∀ z, z ∈ zs → z ∈ za) ∧ ∀ z, z ∈ za → z < ops.size := by
  unfold tregB at h
  simp only [tregC, Bool.and_eq_true] at h
  obtain ⟨⟨⟨⟨⟨⟨⟨⟨⟨⟨h1, h2⟩, h2b⟩, h3⟩, h3b⟩, h3c⟩, h4⟩, h5⟩, h6⟩, h7⟩, h10⟩ := h
  have inr : ∀ {i d}, dstOf ops i = some d → i ∈ List.range ops.size := by
    intro i d hi
    rw [List.mem_range]
    rcases Nat.lt_or_ge i ops.size with h | h
    · exact h
    · simp [dstOf, Array.getElem?_eq_none h] at hi
  refine ⟨⟨fun j hj => ?_, fun j hj => ?_, fun i d hi => ?_, fun i j d hi hj => ?_, fun z hz d hd j hj => ?_, fun j o ho e he hb => ?_⟩, trB_P t h6, covB_P h7, h3b, h3, fun z hz => by simpa using List.all_eq_true.1 h3c z hz, fun z hz => by simpa using List.all_eq_true.1 h2b z hz⟩
  · have := List.all_eq_true.1 h1 j (List.mem_range.2 hj)
    simp at this
    exact ⟨this.1, fun h => by rcases this.2 with h' | h' <;> simp_all⟩
  · simpa using List.all_eq_true.1 h2 j hj
  · have := List.all_eq_true.1 h4 i (inr hi)
    simp only [hi, Bool.and_eq_true, decide_eq_true_eq] at this
    exact this.1
  · have := List.all_eq_true.1 h4 i (inr hi)
    simp only [hi, Bool.and_eq_true] at this
    have := List.all_eq_true.1 this.2 j (inr hj)
    simp only [hj, bne_self_eq_false, Bool.or_false, beq_iff_eq] at this
    exact this.symm
  · have := List.all_eq_true.1 h5 z hz
    simp only [hd] at this
    have hjr : j ∈ List.range ops.size := by
      rw [List.mem_range]
      rcases Nat.lt_or_ge j ops.size with h | h
      · exact h
      · simp [looks, Array.getElem?_eq_none h] at hj
    have := List.all_eq_true.1 this j hjr
    simp only [hj, List.contains_eq_mem, decide_true, Bool.not_true, Bool.false_or] at this
    exact mks_wt this
  · have hjr : j ∈ List.range ops.size := by
      rw [List.mem_range]
      exact (Array.getElem?_eq_some_iff.1 ho).1
    have := List.all_eq_true.1 h10 j hjr
    simp only [ho] at this
    have := Array.all_eq_true_iff_forall_mem.1 this e he
    simpa [hb] using this

/-- A region whose order the tape picks. -/
theorem tre_snd {zs is za : List Nat} {t : Tr} {id : Nat} {U : Nat → Prop} {a : Act} {w : World} {Q : Exit → Act → World → Prop} (hmix : P.follows .mixedOrders = true) (hB : tregB c.n ops zs is za t = true)
    (hQ : ∀ fr hp a w U, K fr hp → (∀ k, U k → k < base + 32 * ops.size) → SimU c fr hp U a w → Q .normal a w)
    (hU : ∀ k, U k → k < base) (hs : SimU c fr hp0 U a w) (h : zW P ops base hp0 (fun fr => trW P ops base hp0 K t fr hp0) zs fr) : (Code.region id ops true).wp P Q a w := by
  obtain ⟨hok, hT, hcov, hord, hnd, hza, hinz⟩ := tregB_ok hB
  obtain ⟨frZ, h1, h2, h3⟩ := zW_facts hok.uniq zs fr hord hnd h
  obtain ⟨q1, q2, σ, q3, q4, q5⟩ := hs
  have hrd := rel_drew q3
  have rep : ∀ j, (Array.replicate ops.size false).getD j false = false := by
    intro j
    simp only [Array.getD_eq_getD_getElem?, Array.getElem?_replicate]
    split <;> rfl
  have rep' : ∀ j, j < ops.size → (Array.replicate ops.size false).getD j true = false := by
    intro j hj
    simp [Array.getD_eq_getD_getElem?, Array.getElem?_replicate, hj]
  refine wp_region_any hmix (tre_go hok hQ ops.size _ zs is t frZ hp0 a w.drew ?_ hT hcov (fun _ h => h) hza ⟨by simp, fun j o ho hl => (by rw [rep] at hl; cases hl), fun j hj => ?_, fun j hj hz hi => ?_, q1, q2,
    ⟨U, σ, hrd, q5.trans step_drew, fun k hk => .inl (hU k hk), fun t ht => ?_⟩, fun z hz _ => h3 z hz, .inl fun _ _ h => h⟩ h1)
  · unfold unl
    refine Nat.le_trans (List.length_filter_le _ _) ?_
    simp
  · refine rep' j ?_
    rcases List.mem_append.1 hj with h | h
    · exact hok.inb j h
    · exact hinz j (mem_zrem.1 h).1
  · rcases (hok.part j hj).1 with h | h
    · exact absurd (List.mem_append.2 (.inr (mem_zrem.2 ⟨h, hz⟩))) hi
    · exact absurd (List.mem_append.2 (.inl h)) hi
  · rw [h2 t fun z hz he => ?_]
    · exact (q4 t).step step_drew
    · refine ht z hz (rep' z ?_) he
      rcases Nat.lt_or_ge z ops.size with h | h
      · exact h
      · simp [dstOf, Array.getElem?_eq_none h] at he
end
end Go.Am
