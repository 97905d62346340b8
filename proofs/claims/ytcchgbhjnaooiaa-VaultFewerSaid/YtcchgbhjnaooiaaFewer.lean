/-
  The statement VaultFewer, proved: the plain law, and the joining.
-/
import Derived.Test.YtcchgbhjnaooiaaLawFewer
import Derived.Test.YtcchgbhjnaooiaaSettle
namespace Go.Proofs.Ytcchgbhjnaooiaa
open Go.ChangeShapes Go.WideShapes Go.ChangeAt Go.RowKit Go.Am

def tot (out : Int) : List (Int × Int) → Int
  | [] => 0
  | c :: r => if c.1 = out then c.2 + tot out r else tot out r

def Good (cs : List (Int × Int)) : Prop := ∀ c, c ∈ cs → 0 ≤ c.2 ∧ c.2 < 18446744073709551616
theorem Good.tail {c : Int × Int} {r : List (Int × Int)} (h : Good (c :: r)) : Good r := fun x hx => h x (List.mem_cons_of_mem _ hx)
theorem tot_nn {out : Int} : ∀ {cs : List (Int × Int)}, Good cs → 0 ≤ tot out cs
  | [], _ => by simp [tot]
  | c :: r, h => by
    have h1 := tot_nn (out := out) h.tail
    have h2 := h c List.mem_cons_self
    simp only [tot]
    split <;> omega
theorem owed_tot (out : Int) : ∀ (cs : List (Int × Int)) (s : Int), Good cs → 0 ≤ s → s < 18446744073709551616 → owed out cs s = if s + tot out cs < 18446744073709551616 then (s + tot out cs, 0) else (0, 31)
  | [], s, _, h0, h1 => by simp [owed, tot, h1]
  | c :: r, s, h, h0, h1 => by
    have h2 := h c List.mem_cons_self
    have h3 := tot_nn (out := out) h.tail
    simp only [owed, tot]
    by_cases e : c.1 = out
    · simp only [e, ne_eq, not_true_eq_false, ite_false, ite_true, u64_wrap]
      by_cases h4 : s + c.2 < 18446744073709551616
      · rw [Int.emod_eq_of_lt (by omega) h4, if_neg (by omega), owed_tot out r _ h.tail (by omega) h4]
        simp only [Int.add_assoc]
      · have : (s + c.2) % 18446744073709551616 = s + c.2 - 18446744073709551616 := by omega
        rw [this, if_pos (by omega), if_neg (by omega)]
    · simp only [e, ne_eq, not_false_eq_true, ite_true, ite_false]
      exact owed_tot out r s h.tail h0 h1

theorem chk1_iff (n : Int) : ∀ cs : List (Int × Int), chk1 n cs = true ↔ ∀ c, c ∈ cs → ¬ c.1 < 0 ∧ ¬ n ≤ c.1
  | [] => by simp [chk1]
  | c :: r => by
    have := chk1_iff n r
    simp only [chk1]
    by_cases h1 : c.1 < 0
    · simp [h1]
      intro h; omega
    · by_cases h2 : n ≤ c.1
      · simp [h1, h2]
        omega
      · simp only [h1, h2, if_false, this, List.mem_cons, forall_eq_or_imp, not_false_eq_true, true_and, and_self]

theorem chk2_iff (cs : List (Int × Int)) (hg : Good cs) : ∀ (os : List (Int × List Int)) (i : Nat), (∀ o, o ∈ os → o.1 < 18446744073709551616) → (chk2 cs i os = true ↔ ∀ (j : Nat) o, os[j]? = some o → tot ((i + j : Nat) : Int) cs ≤ o.1)
  | [], i, _ => by simp [chk2]
  | o :: r, i, ho => by
    have ih := chk2_iff cs hg r (i + 1) (fun x hx => ho x (List.mem_cons_of_mem _ hx))
    have h0 := ho o List.mem_cons_self
    have h1 := tot_nn (out := (i : Int)) hg
    have hs : (∀ (j : Nat) p, (o :: r)[j]? = some p → tot ((i + j : Nat) : Int) cs ≤ p.1) ↔ tot (i : Int) cs ≤ o.1 ∧ ∀ (j : Nat) p, r[j]? = some p → tot ((i + 1 + j : Nat) : Int) cs ≤ p.1 := by
      constructor
      · intro h
        refine ⟨by simpa using h 0 o rfl, fun j p hp => ?_⟩
        have := h (j + 1) p (by simpa using hp)
        rwa [show i + (j + 1) = i + 1 + j by omega] at this
      · rintro ⟨ha, hb⟩ j p hp
        cases j with
        | zero => simp at hp; subst hp; simpa using ha
        | succ j => rw [show i + (j + 1) = i + 1 + j by omega]; exact hb j p (by simpa using hp)
    rw [hs, ← ih]
    simp only [chk2]
    rw [owed_tot _ cs 0 hg (by omega) (by omega)]
    by_cases h2 : 0 + tot (i : Int) cs < 18446744073709551616
    · rw [if_pos h2]
      by_cases h3 : o.1 < 0 + tot (i : Int) cs
      · simp
      · simp
    · rw [if_neg h2]
      simp; omega

theorem settle_iff (outs : List (Int × List Int)) (cs : List (Int × Int)) (hg : Good cs) (ho : ∀ o, o ∈ outs → o.1 < 18446744073709551616) :
    settle outs cs = 0 ↔ (∀ c, c ∈ cs → ¬ c.1 < 0 ∧ ¬ (outs.length : Int) ≤ c.1) ∧ ∀ (j : Nat) o, outs[j]? = some o → tot (j : Int) cs ≤ o.1 := by
  have h1 := chk1_iff outs.length cs
  have h2 := chk2_iff cs hg outs 0 ho
  simp only [Nat.zero_add] at h2
  rw [← h1, ← h2]
  unfold settle
  cases chk1 outs.length cs <;> cases chk2 cs 0 outs <;> simp

theorem tot_append (out : Int) : ∀ a b : List (Int × Int), tot out (a ++ b) = tot out a + tot out b
  | [], b => by simp [tot]
  | c :: r, b => by
    simp only [List.cons_append, tot, tot_append out r b]
    split <;> omega
theorem tot_rev (out : Int) : ∀ a : List (Int × Int), tot out a.reverse = tot out a
  | [] => rfl
  | c :: r => by
    simp only [List.reverse_cons, tot_append, tot, tot_rev out r]
    split <;> omega
theorem less_sub (out : Int) : ∀ (l : List (Int × Int)) (i : Nat) (c : Int × Int), c ∈ less out i l → c ∈ l
  | [], _, _, h => h
  | x :: r, i, c, h => by
    simp only [less] at h
    split at h
    · exact List.mem_cons_of_mem _ (less_sub out r _ _ h)
    · rcases List.mem_cons.1 h with rfl | h
      · exact List.mem_cons_self
      · exact List.mem_cons_of_mem _ (less_sub out r _ _ h)
theorem tot_less (out k : Int) : ∀ (l : List (Int × Int)) (i : Nat), Good l → tot k (less out i l) ≤ tot k l
  | [], _, _ => by simp [less]
  | x :: r, i, h => by
    have ih := tot_less out k r (i + 1) h.tail
    have h2 := h x List.mem_cons_self
    simp only [less]
    split
    · simp only [tot]; split <;> omega
    · simp only [tot]; split <;> omega
theorem tot_mem {k : Int} : ∀ {l : List (Int × Int)} {c : Int × Int}, Good l → c ∈ l → c.1 = k → c.2 ≤ tot k l
  | x :: r, c, h, hc, hk => by
    have h2 := h x List.mem_cons_self
    have h3 := tot_nn (out := k) h.tail
    simp only [tot]
    rcases List.mem_cons.1 hc with rfl | hc
    · rw [if_pos hk]; omega
    · have := tot_mem h.tail hc hk
      split <;> omega

theorem or_u64 {x : Int} (h0 : 0 ≤ x) (h1 : x < 18446744073709551616) : x ≤ bits .or .u64 x 9223372036854775808 ∧ bits .or .u64 x 9223372036854775808 < 18446744073709551616 := by
  obtain ⟨n, rfl⟩ := Int.eq_ofNat_of_zero_le h0
  have hn : n < 2 ^ 64 := by omega
  have e : bits .or .u64 (n : Int) 9223372036854775808 = ((n ||| 9223372036854775808 : Nat) : Int) := by
    unfold bits
    rw [u64_wrap]
    have hb : (BitVec.ofInt IntKind.u64.bits (n : Int) ||| BitVec.ofInt IntKind.u64.bits 9223372036854775808).toNat = n ||| 9223372036854775808 := by
      rw [BitVec.toNat_or]
      have ha : (BitVec.ofInt IntKind.u64.bits (n : Int)).toNat = n := by
        simp only [BitVec.toNat_ofInt, IntKind.bits]; omega
      rw [ha]
      rfl
    simp only [hb]
    have := Nat.or_lt_two_pow (n := 64) hn (show 9223372036854775808 < 2 ^ 64 by decide)
    omega
  rw [e]
  have := Nat.or_lt_two_pow (n := 64) hn (show 9223372036854775808 < 2 ^ 64 by decide)
  have h2 : n ≤ n ||| 9223372036854775808 := Nat.left_le_or
  omega

theorem fewer_plain (outs : List (Int × List Int)) (cs : List (Int × Int)) (out : Int) (hg : Good cs) (ho : ∀ o, o ∈ outs → 0 ≤ o.1 ∧ o.1 < 18446744073709551616) :
    settle outs cs = 0 → (∀ c, c ∈ cs → ¬ c.1 < 0 ∧ ¬ (outs.length : Int) ≤ c.1 ∧ ∃ o, outs[c.1.toNat]? = some o ∧ ¬ o.1 < c.2) ∧ settle outs cs.reverse = 0 ∧ settle outs (less out 0 cs) = 0 ∧ settle (outs.map up) cs = 0 := by
  intro h
  rw [settle_iff outs cs hg (fun o h => (ho o h).2)] at h
  obtain ⟨h1, h2⟩ := h
  have hgr : Good cs.reverse := fun c hc => hg c (List.mem_reverse.1 hc)
  have hgl : Good (less out 0 cs) := fun c hc => hg c (less_sub _ _ _ _ hc)
  refine ⟨fun c hc => ?_, (settle_iff outs _ hgr (fun o h => (ho o h).2)).2 ⟨fun c hc => h1 c (List.mem_reverse.1 hc), fun j o hj => by rw [tot_rev]; exact h2 j o hj⟩,
    (settle_iff outs _ hgl (fun o h => (ho o h).2)).2 ⟨fun c hc => h1 c (less_sub _ _ _ _ hc), fun j o hj => Int.le_trans (tot_less _ _ _ _ hg) (h2 j o hj)⟩,
    (settle_iff _ cs hg (fun o h => ?_)).2 ⟨fun c hc => by rw [List.length_map]; exact h1 c hc, fun j o hj => ?_⟩⟩
  · obtain ⟨a, b⟩ := h1 c hc
    refine ⟨a, b, ?_⟩
    have hl : c.1.toNat < outs.length := by omega
    refine ⟨outs[c.1.toNat], List.getElem?_eq_getElem hl, ?_⟩
    have := h2 c.1.toNat _ (List.getElem?_eq_getElem hl)
    rw [show ((c.1.toNat : Nat) : Int) = c.1 by omega] at this
    have := tot_mem (k := c.1) hg hc rfl
    omega
  · simp only [List.mem_map] at h
    obtain ⟨p, hp, rfl⟩ := h
    exact (or_u64 (ho p hp).1 (ho p hp).2).2
  · rw [List.getElem?_map] at hj
    cases hp : outs[j]? with
    | none => rw [hp] at hj; simp at hj
    | some p =>
      rw [hp] at hj
      simp only [Option.map_some, Option.some.injEq] at hj
      subst hj
      have hm := List.mem_of_getElem? hp
      have := (or_u64 (ho p hm).1 (ho p hm).2).1
      exact Int.le_trans (h2 j p hp) this

theorem fewer_args (l : List AV) (h : ArgTys Try.prog 6 [22, 23, 3] l) : Rets Try.prog 4 l (fun r => r = .d (.bool true)) := by
  obtain ⟨a0, r0, rfl, h0, a1, r1, rfl, h1, a2, r2, rfl, h2, rfl⟩ := h
  obtain ⟨d0, rfl, t0⟩ := arg_one Try.underlying22 (by simp) (by simp) h0
  obtain ⟨d1, rfl, t1⟩ := arg_one Try.underlying23 (by simp) (by simp) h1
  obtain ⟨d2, rfl, t2⟩ := arg_one Try.underlying3 (by simp) (by simp) h2
  obtain ⟨outs, rfl, ho⟩ := ty_outs t0
  obtain ⟨cs, rfl, hc⟩ := ty_claims t1
  rw [TyD] at t2
  simp only [Try.underlying3, List.cons.injEq, and_true] at t2
  obtain ⟨x, rfl, _⟩ := t2
  exact fewer_walk outs cs x (fewer_plain outs cs x hc ho)

set_option maxRecDepth 100000 in
theorem fewer_lifted (os : Os) (started : os.Started) (H : Type) (enc : TypeId × Value → H) :
    ReturnsInHanded {} Try.checked os 4 .any (Rows.vaultFewerSpec.pre6 enc Try.prog Try.f4 Rows.vaultFewerRow.domain false) (Rows.vaultFewerSpec.post enc Try.prog Try.f4 false true false false) := by
  refine returnsInHanded_of_change (C := Try.checked) Try.own started (by kernel_rfl) Try.func4
    (ChangeSpec.witness6 (enc := enc) (C := Try.checked) false ⟨#[], #[.slice none 0 0, .slice none 0 0, .int .i64 0], []⟩ 8 (by kernel_rfl) (by kernel_rfl) (by kernel_rfl) (by kernel_rfl)) ?_
  intro W base args ds gs before hval0 hW hcnd _
  exact law_fin (P := Try.prog) (n := 6) Try.laidOut rfl Try.underlying4 rfl (by kernel_rfl) (by kernel_rfl) hval0 hW
    (fun ds hd => by
      match ds, hd with
      | [a, b, c], _ => rfl) (by rw [Try.params4]; exact fewer_args)

theorem fewer_holds : Rows.VaultFewerSaid :=
  OpenClaim.holds_of_wide 4 Try.f4 rfl rfl rfl rfl rfl rfl rfl ⟨rfl, rfl, rfl, rfl, rfl⟩ rfl rfl rfl rfl rfl (by kernel_rfl) Try.func4 (by kernel_rfl)
    (of_decide_eq_true (by kernel_rfl)) (by unfold Func.isWrapper; first | (rw [if_pos (by decide +kernel)]; kernel_rfl) | (rw [if_neg (by decide +kernel)]; exact ⟨rfl, rfl⟩))
    (fun os started H enc _ => fewer_lifted os started H enc)

end Go.Proofs.Ytcchgbhjnaooiaa
