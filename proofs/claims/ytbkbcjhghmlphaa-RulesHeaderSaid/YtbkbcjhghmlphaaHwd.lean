/-
  Headers: mining, by the program; whether a header may be.
-/
import Derived.Test.YtbkbcjhghmlphaaHwc
import Derived.Test.YtbkbcjhghmlphaaRam
namespace Go.Sha
/-- The next nonce. -/
def bump (h : Hd) : Hd := { h with nonce := (h.nonce + 1) % 4294967296 }
theorem bump_ok {h : Hd} (hk : h.ok) : (bump h).ok := by
  obtain ⟨h1, h2, h3, h4, h5, h6, h7⟩ := hk
  exact ⟨h1, h2, h3, h4, h5, Nat.mod_lt _ (by omega), h7⟩
/-- The first of so many headers that meets its bits. -/
def mineG : Nat → Hd → Option Hd
  | 0, _ => none
  | n + 1, m => if meetsV (dblB (headB m)) m.bits then some m else mineG n (bump m)
def mineH (n : Nat) (h : Hd) : Hd := (mineG n h).getD h
def mineB (n : Nat) (h : Hd) : Bool := (mineG n h).isSome
theorem dblB_len (b : List Nat) : (dblB b).length = 32 := sumB_len _
theorem dblB_by (b : List Nat) : ∀ x, x ∈ dblB b → x < 256 := sumB_bytes _
theorem mineG_ok : ∀ (n : Nat) {h m : Hd}, h.ok → mineG n h = some m → m.ok
  | 0, h, m, hk, e => by simp [mineG] at e
  | n + 1, h, m, hk, e => by
    unfold mineG at e
    split at e
    · injection e with e; subst e; exact hk
    · exact mineG_ok n (bump_ok hk) e
theorem mineH_ok {n : Nat} {h : Hd} (hk : h.ok) : (mineH n h).ok := by
  unfold mineH
  cases e : mineG n h with
  | none => exact hk
  | some m => exact mineG_ok n hk e
/-- Whether a header may be. -/
def headV (h : Hd) (bits median now : Nat) : Int := if h.bits ≠ bits ∨ meetsV (dblB (headB h)) bits = false then 36 else if h.time ≤ median ∨ now + 7200 < h.time then 35 else 0
end Go.Sha
namespace Go.Proofs.Ytbkbcjhghmlphaa
open Go.Am Go.Sha
set_option linter.unusedSimpArgs false
set_option linter.unusedVariables false

def zHd : Hd := ⟨0, z32, z32, 0, 0, 0⟩
theorem zhd : tzO Try.prog 67 = some (eH zHd) := by kernel_rfl
attribute [go_sem] zhd
theorem zHd_len : (eH zHd).length = 68 := rfl
theorem eH_set {h : Hd} (hp : h.prev.length = 32) (hr : h.root.length = 32) (x : Nat) : (eH h).set 67 (.d (.int .u32 (x : Int))) = eH { h with nonce := x } := by
  have e : ∀ y : Nat, eH { h with nonce := y } = (.d (.int .u32 (h.ver : Int)) :: (cb h.prev ++ cb h.root ++ [.d (.int .u32 (h.time : Int)), .d (.int .u32 (h.bits : Int))])) ++ [.d (.int .u32 (y : Int))] := by intro y; simp [eH]
  have e0 := e h.nonce
  have : ({ h with nonce := h.nonce } : Hd) = h := rfl
  rw [this] at e0
  rw [e0, e x, List.set_append, if_neg (by simp [cb_len, hp, hr])]
  simp [cb_len, hp, hr]
theorem ksH : kindsOf Try.prog 8 67 = some (some .u32 :: (List.replicate 64 (some .u8) ++ [some .u32, some .u32, some .u32])) := by kernel_rfl
theorem egH : Try.prog.eqGuardType Try.prog.depth 67 = false := by kernel_rfl
/-- A header's cells, as literals. -/
def eHl (h : Hd) : List L1 := .i .u32 (h.ver : Int) :: (l1B h.prev ++ (l1B h.root ++ [.i .u32 (h.time : Int), .i .u32 (h.bits : Int), .i .u32 (h.nonce : Int)]))
theorem eH_lits (h : Hd) : litsOf (eH h) = some (eHl h) := by
  have e : litsOf (eH h) = (litsOf (cb h.prev ++ (cb h.root ++ [.d (.int .u32 (h.time : Int)), .d (.int .u32 (h.bits : Int)), .d (.int .u32 (h.nonce : Int))]))).map (L1.i .u32 (h.ver : Int) :: ·) := rfl
  rw [e, lits_cb, lits_cb]
  rfl
theorem eHl_kinds {h : Hd} (hp : h.prev.length = 32) (hr : h.root.length = 32) : (eHl h).map L1.k = some .u32 :: (List.replicate 64 (some .u8) ++ [some .u32, some .u32, some .u32]) := by
  unfold eHl
  rw [List.map_cons, List.map_append, List.map_append, l1B_kinds hp, l1B_kinds hr, ← List.append_assoc, List.replicate_append_replicate]
  rfl
theorem ksH_of {h : Hd} (hk : h.ok) : kindsOf Try.prog 8 67 = some ((eHl h).map L1.k) := by rw [ksH, eHl_kinds hk.2.1 hk.2.2.1]
theorem eH_ren (ρ : Nat → Nat) (h : Hd) : AV.renL ρ (eH h) = eH h := renL_deep1 ρ _ (eH_deep h)
theorem pairH_deep (h : Hd) (d : DV) : (AV.tup [.agg (eH h), .d d]).deep := by
  intro c hc
  simp only [List.mem_cons, List.mem_nil_iff, or_false] at hc
  rcases hc with rfl | rfl
  · exact .inr ⟨_, rfl, eH_deep h⟩
  · exact .inl trivial
theorem one_eH (h : Hd) : ∀ v, v ∈ [AV.agg (eH h)] → v.deep := by intro v hv; simp at hv; subst hv; exact eH_deep h
theorem one_cb (h : List Nat) (d : DV) : ∀ v, v ∈ [AV.agg (cb h), .d d] → v.deep := by intro v hv; simp at hv; rcases hv with rfl | rfl; exact cb_deepA _; trivial
theorem two_eH (h : Hd) (d : DV) : ∀ v, v ∈ [AV.agg (eH h), .d d] → v.deep := by intro v hv; simp at hv; rcases hv with rfl | rfl; exact eH_deep _; trivial

set_option maxHeartbeats 4000000 in
theorem mine_fn (h : Hd) (hk : h.ok) (k : Int) (n : Nat) (hn : n = k.toNat) (h9 : k < 4000) (h8 : -4000 < k) :
    Rets Try.prog 42 [.agg (eH h), .d (.int .i64 k)] (fun r => r = .tup [.agg (eH (mineH n h)), .d (.bool (mineB n h))]) := by
  refine fn_of_awp Try.func42 (by kernel_rfl) rfl Try.ntmps42 (rs := [.cell 4 67, .tmp 5]) rfl (Nat.le_of_ble_eq_true rfl) (by intro v hv; simp at hv; rcases hv with rfl | rfl; exact eH_deep _; trivial) ?_
  have hl := eH_len hk.2.1 hk.2.2.1
  have h0 := zHd_len
  have tk : ∀ m : Hd, m.ok → (eH m).take 68 = eH m := fun m hm => List.take_of_length_le (by rw [eH_len hm.2.1 hm.2.2.1]; omega)
  have dk : ∀ m : Hd, m.ok → (eH m).drop 68 = [] := fun m hm => List.drop_eq_nil_of_le (by rw [eH_len hm.2.1 hm.2.2.1]; omega)
  have d0 : (eH zHd).drop 68 = [] := rfl
  have tkh := tk h hk
  unfold mineH mineB
  generalize hF : mineG n h = F
  simp [go_sem, hl, h0, tkh, d0]
  refine loop_of (fun u : Nat × Int × Hd => ⟨[(1, .d (.int .i64 u.2.1)), (2, .ptr 0 0 0 1), (4, .ptr 32 0 0 1), (6, .ptr 128 0 0 1)], [(0, ⟨67, 68, [eH h]⟩), (32, ⟨67, 68, [eH zHd]⟩), (128, ⟨67, 68, [eH u.2.2]⟩)], 1000⟩)
    (fun u => u.1 = u.2.1.toNat ∧ -4000 < u.2.1 ∧ u.2.1 < 4000 ∧ u.2.2.ok ∧ mineG u.1 u.2.2 = F) (fun u => u.1) (n, k, h) ⟨hn, h8, h9, hk, hF⟩ (by
      simp [Weak, slotOk, fv, lk, AV.low, AV.low1]
      repeat' apply And.intro
      all_goals first | rfl | exact eH_low _ _) ?_
  rintro ⟨j, i, m⟩ ⟨hj, hi1, hi2, hmo, hG0⟩
  simp only at hj hi1 hi2 hmo hG0
  have hml := eH_len hmo.2.1 hmo.2.2.1
  have tkm := tk m hmo
  have hm66 := eH_get hmo.2.1 hmo.2.2.1 1
  have hm67 := eH_get hmo.2.1 hmo.2.2.1 2
  have g66 : ∀ p : 66 < (eH m).length, (eH m)[66] = .d (.int .u32 (m.bits : Int)) := fun p => (List.getElem?_eq_some_iff.1 hm66).2
  have g67 : ∀ p : 67 < (eH m).length, (eH m)[67] = .d (.int .u32 (m.nonce : Int)) := fun p => (List.getElem?_eq_some_iff.1 hm67).2
  simp only [go_sem, Nat.reduceEqDiff, Nat.reduceAdd, Nat.reduceLT, ↓reduceIte, Nat.reduceMul]
  refine ⟨fun hlt => ?_, fun hge => ?_⟩
  · obtain ⟨j', rfl⟩ : ∃ j', j = j' + 1 := ⟨j - 1, by omega⟩
    simp only [mineG] at hG0
    apply draw2 (0 :: 2 :: 3 :: []) ((1, ([])) :: (4, ([])) :: []) 1 (k := 5) (by kernel_rfl) (by kernel_rfl) rfl
    case hz => repeat (first | exact Its.nil | apply Its.plain rfl | apply Its.guard rfl rfl)
    case hj => repeat (first | exact Jts.nil | exact Its.nil | apply Its.plain rfl | apply Its.guard rfl rfl | apply Jts.plain rfl | apply Jts.guard rfl rfl)
    intro G hG
    simp [go_sem, hml, tkm, g66]
    refine cl_eq (name_fn m hmo) (one_eH m) ?_
    simp [go_sem, SaW]
    refine cl_eq (meets_fn _ m.bits (dblB_len _) (dblB_by _) hmo.2.2.2.2.1) (one_cb _ _) ?_
    generalize meetsV (dblB (headB m)) m.bits = M at *
    simp [go_sem]
    refine hG _ _ ?_
    cases M
    · simp only [Bool.false_eq_true, if_false] at hG0
      have hb := bump_ok hmo
      have es := eH_set hmo.2.1 hmo.2.2.1 ((m.nonce + 1) % 4294967296)
      have wn : IntKind.u32.wrap ((m.nonce : Int) + 1) = (((m.nonce + 1) % 4294967296 : Nat) : Int) := by rw [u32w]; omega
      have e2 : ({ m with nonce := (m.nonce + 1) % 4294967296 } : Hd) = bump m := rfl
      rw [e2] at es
      generalize (m.nonce + 1) % 4294967296 = nn at *
      have hbl := eH_len hb.2.1 hb.2.2.1
      have tkb := tk _ hb
      have wi : IntKind.i64.wrap (i - 1) = i - 1 := IntWalk.i64_in _ (by omega)
      generalize bump m = mb at *
      simp [go_sem, g67, wn, hml, es, hbl, tkb, d0, h0, wi]
      refine nextR_of (j', i - 1, mb) ⟨by simp only; omega, by simp only; omega, by simp only; omega, hb, hG0⟩ (by simp only; omega) [(0, 0), (32, 32), (1416, 128)] 9000 (by decide) (by decide) (by decide) (by decide) ?_
      simp [renF, renH, rho, AV.ren, Blk.ren, renR, Weak, slotOk, fv, lk, AV.low, AV.low1, AV.renL, eH_ren]
      repeat' apply And.intro
      all_goals exact eH_low _ _
    · simp only [if_true] at hG0
      subst hG0
      simp [go_sem, hml, tkm, d0, h0, dk m hmo, resV]
      exact post_same (pairH_deep _ _) rfl
  · have hj0 : j = 0 := by omega
    subst hj0
    simp only [mineG] at hG0
    subst hG0
    simp [go_sem, hl, tkh, d0, h0, resV]
    exact post_same (pairH_deep _ _) rfl

set_option maxHeartbeats 2000000 in
theorem header_fn (h : Hd) (hk : h.ok) (bits median now : Nat) (hb : bits < 4294967296) (hm : median < 4294967296) (hw : now < 4294967296) :
    Rets Try.prog 46 [.agg (eH h), .d (.int .u32 (bits : Int)), .d (.int .u32 (median : Int)), .d (.int .u32 (now : Int))] (fun r => r = .d (.int .i64 (headV h bits median now))) := by
  refine fn_of_awp Try.func46 (by kernel_rfl) rfl Try.ntmps46 (rs := [.tmp 8]) rfl (Nat.le_of_ble_eq_true rfl) (by intro v hv; simp at hv; rcases hv with rfl | rfl | rfl | rfl; exact eH_deep _; trivial; trivial; trivial) ?_
  have hl := eH_len hk.2.1 hk.2.2.1
  have tkh : (eH h).take 68 = eH h := List.take_of_length_le (by omega)
  have h65 := eH_get hk.2.1 hk.2.2.1 0
  have h66 := eH_get hk.2.1 hk.2.2.1 1
  have g65 : ∀ p : 65 < (eH h).length, (eH h)[65] = .d (.int .u32 (h.time : Int)) := fun p => (List.getElem?_eq_some_iff.1 h65).2
  have g66 : ∀ p : 66 < (eH h).length, (eH h)[66] = .d (.int .u32 (h.bits : Int)) := fun p => (List.getElem?_eq_some_iff.1 h66).2
  generalize hF : headV h bits median now = F
  unfold headV at hF
  have ht := hk.2.2.2.1
  have w1 : IntKind.u64.wrap (h.time : Int) = (h.time : Int) := by rw [u64w]; omega
  have w2 : IntKind.u64.wrap (now : Int) = (now : Int) := by rw [u64w]; omega
  have w3 : IntKind.u64.wrap ((now : Int) + 7200) = ((now + 7200 : Nat) : Int) := by rw [u64w]; omega
  obtain ⟨nw, hnw⟩ : ∃ nw, nw = now + 7200 := ⟨_, rfl⟩
  rw [← hnw] at w3 hF
  by_cases c1 : h.bits = bits
  · simp [go_sem, hl, g66, c1, tkh]
    refine cl_eq (name_fn h hk) (one_eH h) ?_
    simp [go_sem, hl, g66, c1, tkh]
    refine cl_eq (meets_fn _ bits (dblB_len _) (dblB_by _) hb) (one_cb _ _) ?_
    generalize meetsV (dblB (headB h)) bits = M at *
    cases M
    · rw [if_pos (.inr rfl)] at hF
      subst hF
      simp [go_sem, resV]
      exact post_same (by simp [AV.deep, AV.deep1]) rfl
    · rw [if_neg (by simp [c1])] at hF
      by_cases c2 : h.time ≤ median
      · rw [if_pos (.inl c2)] at hF
        subst hF
        simp [go_sem, hl, g65, c2, resV]
        exact post_same (by simp [AV.deep, AV.deep1]) rfl
      · by_cases c3 : nw < h.time
        · rw [if_pos (.inr c3)] at hF
          subst hF
          simp [go_sem, hl, g65, c2, w1, w2, w3, c3, resV]
          exact post_same (by simp [AV.deep, AV.deep1]) rfl
        · rw [if_neg (by rintro (e | e) <;> contradiction)] at hF
          subst hF
          simp [go_sem, hl, g65, c2, w1, w2, w3, c3, resV]
          exact post_same (by simp [AV.deep, AV.deep1]) rfl
  · rw [if_pos (.inl c1)] at hF
    subst hF
    have i1 : ¬ (h.bits : Int) = (bits : Int) := by omega
    simp [go_sem, hl, g66, i1, resV]
    exact post_same (by simp [AV.deep, AV.deep1]) rfl
end Go.Proofs.Ytbkbcjhghmlphaa
