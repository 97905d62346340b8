/-
  References to nothing: by the program and by the other text; first transactions.
-/
import Derived.Test.YthieefhjokekmaaGreatRal
namespace Go.Proofs.YthieefhjokekmaaGreat
open Go.Am Go.Sha
set_option linter.unusedSimpArgs false
set_option linter.unusedVariables false

theorem zref : tzO Tryz.prog 77 = some (cb z32 ++ [.d (.int .u32 0)]) := by kernel_rfl
attribute [go_sem] zref
theorem ks88 : kindsOf Tryz.prog 8 77 = some (List.replicate 32 (some .u8) ++ [some .u32]) := by kernel_rfl
theorem eg88 : Tryz.prog.eqGuardType Tryz.prog.depth 77 = false := by kernel_rfl
def l1B (l : List Nat) : List L1 := l.map fun (x : Nat) => L1.i .u8 (x : Int)
theorem lits_cb (l : List Nat) (r : List AV) : litsOf (cb l ++ r) = (litsOf r).map (l1B l ++ ·) := by
  induction l with
  | nil => cases h : litsOf r <;> simp [cb, l1B, h]
  | cons u us ih =>
    have e : litsOf (cb (u :: us) ++ r) = (litsOf (cb us ++ r)).map (L1.i .u8 (u : Int) :: ·) := rfl
    rw [e, ih]
    cases litsOf r <;> simp [l1B]
theorem l1B_kinds {l : List Nat} (h : l.length = 32) : (l1B l).map L1.k = List.replicate 32 (some .u8) := by
  rw [List.eq_replicate_iff]
  refine ⟨by simp [l1B, h], fun b hb => ?_⟩
  simp only [l1B, List.map_map, List.mem_map] at hb
  obtain ⟨x, _, rfl⟩ := hb
  rfl
theorem l1B_inj : ∀ {a b : List Nat}, l1B a = l1B b → a = b
  | [], [], _ => rfl
  | [], _ :: _, h => by simp [l1B] at h
  | _ :: _, [], h => by simp [l1B] at h
  | x :: a, y :: b, h => by
    simp only [l1B, List.map_cons, List.cons.injEq, L1.i.injEq, true_and] at h
    rw [l1B_inj (a := a) (b := b) h.2, Int.ofNat.inj h.1]
/-- The cells of a reference. -/
def cR (h : List Nat) (i : Nat) : List AV := cb h ++ [.d (.int .u32 (i : Int))]
theorem cR_lits (h : List Nat) (i : Nat) : litsOf (cR h i) = some (l1B h ++ [.i .u32 (i : Int)]) := by
  unfold cR
  rw [lits_cb]
  rfl
theorem cR_kinds {h : List Nat} (hl : h.length = 32) (i : Nat) : (l1B h ++ [L1.i .u32 (i : Int)]).map L1.k = List.replicate 32 (some .u8) ++ [some .u32] := by
  rw [List.map_append, l1B_kinds hl]; rfl
theorem cR_eq {a b : List Nat} {i j : Nat} (ha : a.length = 32) (hb : b.length = 32) : (l1B a ++ [L1.i .u32 (i : Int)] = l1B b ++ [L1.i .u32 (j : Int)]) ↔ (a = b ∧ i = j) := by
  constructor
  · intro h
    obtain ⟨h1, h2⟩ := List.append_inj h (by simp [l1B, ha, hb])
    simp only [List.cons.injEq, L1.i.injEq, true_and, and_true] at h2
    exact ⟨l1B_inj h1, Int.ofNat.inj h2⟩
  · rintro ⟨rfl, rfl⟩; rfl
theorem cR_len {h : List Nat} (hl : h.length = 32) (i : Nat) : (cR h i).length = 33 := by simp [cR, cb_len, hl]
/-- Whether two references are equal, as the machine tells it. -/
theorem ref_eql {a b : List Nat} {i j : Nat} (ha : a.length = 32) (hb : b.length = 32) {K : AV → Hp → Prop} {hp : Hp} (hK : K (.d (.bool (decide (a = b ∧ i = j)))) hp) : binW Tryz.prog .eql 77 (.agg (cR a i)) (.agg (cR b j)) K hp := by
  rw [r_b_ag]
  simp only [agK, k77]
  rw [r_sg, ks88, cR_lits, cR_lits]
  simp only [sgR]
  refine ⟨eg88, by rw [cR_kinds ha], by rw [cR_kinds hb], ?_⟩
  simp only [cR_eq ha hb]
  exact hK
theorem ref_neq {a b : List Nat} {i j : Nat} (ha : a.length = 32) (hb : b.length = 32) {K : AV → Hp → Prop} {hp : Hp} (hK : K (.d (.bool (!decide (a = b ∧ i = j)))) hp) : binW Tryz.prog .neq 77 (.agg (cR a i)) (.agg (cR b j)) K hp := by
  rw [r_b_ag]
  simp only [agK, k77]
  rw [r_sg, ks88, cR_lits, cR_lits]
  simp only [sgR]
  refine ⟨eg88, by rw [cR_kinds ha], by rw [cR_kinds hb], ?_⟩
  simp only [cR_eq ha hb]
  exact hK
theorem zref_drop : List.drop 33 (cb z32 ++ [AV.d (.int .u32 0)]) = [] := rfl
theorem isNull_fn (h : List Nat) (i : Nat) (hl : h.length = 32) : Rets Tryz.prog 207 [.agg (cR h i)] (fun r => r = .d (.bool (decide (h = z32 ∧ i = 4294967295)))) := by
  refine fn_of_awp Tryz.func207 (by kernel_rfl) rfl Tryz.ntmps207 (rs := [.tmp 2]) rfl (Nat.le_of_ble_eq_true rfl) (by
    intro v hv
    simp only [List.mem_cons, List.mem_nil_iff, or_false] at hv
    subst hv
    intro c hc
    simp only [cR, List.mem_append, List.mem_cons, List.mem_nil_iff, or_false] at hc
    rcases hc with hc | rfl
    · exact cb_deep _ _ hc
    · trivial) ?_
  have hrl := cR_len hl i
  have ht : (cR h i).take 33 = cR h i := List.take_of_length_le (by omega)
  have hz : litsOf (cb z32 ++ [AV.d (.int .u32 4294967295)]) = some (l1B z32 ++ [.i .u32 4294967295]) := cR_lits z32 4294967295
  have k1 := cR_kinds hl i
  have k2 : (l1B z32 ++ [L1.i .u32 4294967295]).map L1.k = List.replicate 32 (some .u8) ++ [some .u32] := cR_kinds rfl 4294967295
  have he : (l1B h ++ [L1.i .u32 (i : Int)] = l1B z32 ++ [L1.i .u32 4294967295]) ↔ (h = z32 ∧ i = 4294967295) := cR_eq (j := 4294967295) hl rfl
  have hl1 := cR_lits h i
  generalize l1B h ++ [L1.i .u32 (i : Int)] = us at *
  generalize l1B z32 ++ [L1.i .u32 4294967295] = vs at *
  simp [go_sem, hrl, ht, zref_drop, hz, hl1, ks88, k1, k2]
  exact post_same (by simp [AV.deep, AV.deep1]) (by simp [he])
/-- Does an input spend nothing? -/
def nullI (i : Ip) : Bool := decide (i.hash = z32 ∧ i.idx = 4294967295)
set_option maxHeartbeats 1000000 in
theorem checkFirst_fn (t : Tn) (ht : t.ok) : Rets Tryz.prog 149 [.agg (eT t)] (fun r => r = .d (.int .i64 (if t.ins.length = 1 ∧ (t.ins.all nullI) = true then 0 else 38))) := by
  obtain ⟨_, _, hi, _⟩ := ht
  refine fn_of_awp Tryz.func149 (by kernel_rfl) rfl Tryz.ntmps149 (rs := [.tmp 2]) rfl (Nat.le_of_ble_eq_true rfl) (by simp [AV.deep, AV.deep1, eT]) ?_
  generalize hF : (if t.ins.length = 1 ∧ (t.ins.all nullI) = true then (0 : Int) else 38) = F
  by_cases c1 : t.ins.length = 1
  · have i1 : (t.ins.length : Int) = 1 := by omega
    obtain ⟨ver, ins, outs, lock⟩ := t
    simp only at *
    match ins, c1 with
    | [i], _ =>
      have hio := hi i (by simp)
      have h32 := hio.1
      have hel := eI_len hio.1
      have hrow : List.take 33 ((eI i).map AV.d) = cR i.hash i.idx := by
        rw [eI_cI, cI, List.take_append, cb_len, h32, List.take_of_length_le (by rw [cb_len]; omega)]; rfl
      simp [go_sem, eT, hel, hrow]
      refine cl_eq (isNull_fn i.hash i.idx h32) (by
        intro v hv
        simp only [List.mem_cons, List.mem_nil_iff, or_false] at hv
        subst hv
        intro c hc
        simp only [cR, List.mem_append, List.mem_cons, List.mem_nil_iff, or_false] at hc
        rcases hc with hc | rfl
        · exact cb_deep _ _ hc
        · trivial) ?_
      by_cases hn : i.hash = z32 ∧ i.idx = 4294967295
      · have : F = 0 := by rw [← hF]; simp [nullI, hn]
        subst this
        rw [decide_eq_true hn]
        simp [go_sem]
        exact post_same (by simp [AV.deep, AV.deep1]) rfl
      · have : F = 38 := by rw [← hF, if_neg]; simp [nullI, hn]
        subst this
        rw [decide_eq_false hn]
        simp [go_sem]
        exact post_same (by simp [AV.deep, AV.deep1]) rfl
  · have i1 : ¬ (t.ins.length : Int) = 1 := by omega
    rw [if_neg (fun e => c1 e.1)] at hF
    subst hF
    simp [go_sem, eT, i1, c1]
    exact post_same (by simp [AV.deep, AV.deep1]) rfl
end Go.Proofs.YthieefhjokekmaaGreat
