/-
  The law RulesMined.
-/
import Derived.Test.YtbkbcjhghmlphaaHwd
import Derived.Test.YtbkbcjhghmlphaaRcd
namespace Go.Proofs.Ytbkbcjhghmlphaa
open Go.Am Go.Sha
set_option linter.unusedSimpArgs false
set_option linter.unusedVariables false

theorem b_15 (x : Int) : ∃ n : Nat, n ≤ 15 ∧ Go.bits .and .i64 x 15 = (n : Int) := by
  refine ⟨(BitVec.ofInt 64 x &&& BitVec.ofInt 64 15).toNat, ?_, ?_⟩
  · rw [BitVec.toNat_and]
    exact Nat.and_le_right
  · have h : (BitVec.ofInt 64 x &&& BitVec.ofInt 64 15).toNat ≤ 15 := by
      rw [BitVec.toNat_and]
      exact Nat.and_le_right
    show IntKind.i64.wrap (((BitVec.ofInt 64 x &&& BitVec.ofInt 64 15).toNat : Nat) : Int) = _
    exact i64n (by omega)
set_option maxRecDepth 20000 in
set_option maxHeartbeats 4000000 in
theorem mined_law (h : Hd) (hk : h.ok) (tries : Int) : Rets Try.prog 9 [.agg (eH h), .d (.int .i64 tries)] (fun r => r = .d (.bool true)) := by
  refine fn_of_awp Try.func9 (by kernel_rfl) rfl Try.ntmps9 (rs := [.tmp 4]) rfl (Nat.le_of_ble_eq_true rfl) (two_eH h _) ?_
  have hl := eH_len hk.2.1 hk.2.2.1
  have h0 := zHd_len
  have tk : ∀ m : Hd, m.ok → (eH m).take 68 = eH m := fun m hm => List.take_of_length_le (by rw [eH_len hm.2.1 hm.2.2.1]; omega)
  have d0 : (eH zHd).drop 68 = [] := rfl
  have tkh := tk h hk
  have h66 := eH_get hk.2.1 hk.2.2.1 1
  have g66 : ∀ p : 66 < (eH h).length, (eH h)[66] = .d (.int .u32 (h.bits : Int)) := fun p => (List.getElem?_eq_some_iff.1 h66).2
  obtain ⟨n, hn, hb15⟩ := b_15 tries
  simp [go_sem, hl, tkh, hb15]
  refine cl_eq (mine_fn h hk n n (by simp) (by omega) (by omega)) (two_eH h _) ?_
  obtain ⟨F, hF⟩ : ∃ F, mineG n h = F := ⟨_, rfl⟩
  have eH1 : mineH n h = F.getD h := by unfold mineH; rw [hF]
  have eB1 : mineB n h = F.isSome := by unfold mineB; rw [hF]
  have hFo : (F.getD h).ok := by rw [← eH1]; exact mineH_ok hk
  rw [eH1, eB1]
  have hrl := eH_len hFo.2.1 hFo.2.2.1
  have tkr := tk _ hFo
  simp [go_sem, hl, tkh, h0, d0, hrl, tkr]
  refine loop_of (fun u : Nat × Nat × Hd => ⟨[(2, .ptr 0 0 0 1), (5, .d (.int .i64 (n : Int))), (6, .ptr 352 0 0 1), (7, .d (.bool F.isSome)), (8, .ptr 480 0 0 1), (9, .d (.int .i64 (u.1 : Int)))], [(0, ⟨67, 68, [eH h]⟩), (352, ⟨67, 68, [eH (F.getD h)]⟩), (480, ⟨67, 68, [eH u.2.2]⟩)], 1000⟩)
    (fun u => u.1 + u.2.1 = n ∧ u.2.2.ok ∧ u.2.2.bits = h.bits ∧ mineG u.2.1 u.2.2 = F) (fun u => u.2.1) (0, n, h) ⟨by simp, hk, rfl, hF⟩ (by
      simp [Weak, slotOk, fv, lk, AV.low, AV.low1]
      repeat' apply And.intro
      all_goals first | rfl | exact eH_low _ _) ?_
  rintro ⟨i, j, m⟩ ⟨hij, hmo, hmb, hG0⟩
  simp only at hij hmo hmb hG0
  have hml := eH_len hmo.2.1 hmo.2.2.1
  have tkm := tk m hmo
  have hm67 := eH_get hmo.2.1 hmo.2.2.1 2
  have g67 : ∀ p : 67 < (eH m).length, (eH m)[67] = .d (.int .u32 (m.nonce : Int)) := fun p => (List.getElem?_eq_some_iff.1 hm67).2
  have w3 := next_i64 (k := i) (by omega)
  simp only [go_sem, Nat.reduceEqDiff, Nat.reduceAdd, Nat.reduceLT, ↓reduceIte, Nat.reduceMul]
  refine ⟨fun hlt => ?_, fun hge => ?_⟩
  · obtain ⟨j', rfl⟩ : ∃ j', j = j' + 1 := ⟨j - 1, by omega⟩
    simp only [mineG] at hG0
    rw [hmb] at hG0
    apply draw2 (0 :: 2 :: 3 :: []) ((1, ([])) :: (4, ([])) :: []) 1 (k := 5) (by kernel_rfl) (by kernel_rfl) rfl
    case hz => repeat (first | exact Its.nil | apply Its.plain rfl | apply Its.guard rfl rfl)
    case hj => repeat (first | exact Jts.nil | exact Its.nil | apply Its.plain rfl | apply Its.guard rfl rfl | apply Jts.plain rfl | apply Jts.guard rfl rfl)
    intro G hG
    simp [go_sem, hml, tkm, hl, g66]
    refine cl_eq (name_fn m hmo) (one_eH m) ?_
    simp [go_sem, SaW, hml, tkm, hl, g66]
    refine cl_eq (meets_fn _ h.bits (dblB_len _) (dblB_by _) hk.2.2.2.2.1) (one_cb _ _) ?_
    generalize meetsV (dblB (headB m)) h.bits = M at *
    simp [go_sem]
    refine hG _ _ ?_
    cases M
    · simp only [Bool.false_eq_true, if_false] at hG0
      have hb := bump_ok hmo
      have es := eH_set hmo.2.1 hmo.2.2.1 ((m.nonce + 1) % 4294967296)
      have wn : IntKind.u32.wrap ((m.nonce : Int) + 1) = (((m.nonce + 1) % 4294967296 : Nat) : Int) := by rw [u32w]; omega
      have e2 : ({ m with nonce := (m.nonce + 1) % 4294967296 } : Hd) = bump m := rfl
      rw [e2] at es
      have hmb2 : (bump m).bits = h.bits := hmb
      generalize (m.nonce + 1) % 4294967296 = nn at *
      generalize bump m = mb at *
      simp [go_sem, g67, wn, hml, es, w3]
      refine next_of (i + 1, j', mb) ⟨by simp only; omega, hb, hmb2, hG0⟩ (by simp only; omega) ?_
      simp [Weak, slotOk, fv, lk, AV.low, AV.low1]
      repeat' apply And.intro
      all_goals first | rfl | exact eH_low _ _
    · simp only [if_true] at hG0
      subst hG0
      simp [go_sem]
      refine cl_eq alive26_fn (by simp) ?_
      have hks := ksH_of hmo
      have hlt2 := eH_lits m
      simp [go_sem, hml, tkm, hlt2]
      exact ⟨hks, post_same (by simp [AV.deep, AV.deep1]) rfl⟩
  · have hj0 : j = 0 := by omega
    subst hj0
    simp only [mineG] at hG0
    subst hG0
    simp [go_sem]
    refine cl_eq alive26_fn (by simp) ?_
    have hks := ksH_of hk
    have hlt2 := eH_lits h
    simp [go_sem, hl, tkh, hlt2]
    exact ⟨hks, post_same (by simp [AV.deep, AV.deep1]) rfl⟩

set_option maxRecDepth 100000
theorem ty_hd {n : Nat} {ds : List DV} (h : TyD Try.prog (n + 4) 67 ds) : ∃ g : Hd, ds.map .d = eH g ∧ g.ok := by
  rw [TyD] at h
  simp only [Try.underlying67, List.map_cons, List.map_nil] at h
  obtain ⟨a, b, rfl, ha, ha2, a', b', rfl, hb, hb2, a3, b3, rfl, hc, hc2, a4, b4, rfl, hd, hd2, a5, b5, rfl, he, he2, a6, b6, rfl, hf, hf2, rfl⟩ := h
  obtain ⟨x, rfl, hx⟩ := ty_u32 ha2
  obtain ⟨p, rfl, hp1, hp2⟩ := ty_h32 hb2
  obtain ⟨r, rfl, hr1, hr2⟩ := ty_h32 hc2
  obtain ⟨t, rfl, ht⟩ := ty_u32 hd2
  obtain ⟨b, rfl, hb⟩ := ty_u32 he2
  obtain ⟨o, rfl, ho⟩ := ty_u32 hf2
  exact ⟨⟨x, p, r, t, b, o⟩, by simp [eH, cd_map], hx, hp1, hr1, ht, hb, ho, hp2, hr2⟩
theorem arg_hd {n : Nat} {a : AV} (h : ArgTy Try.prog (n + 4) 67 a) : ∃ g : Hd, a = .agg (eH g) ∧ g.ok := by
  unfold ArgTy at h
  simp only [Try.underlying67] at h
  obtain ⟨ds, rfl, h⟩ := h
  obtain ⟨g, h1, h2⟩ := ty_hd h
  exact ⟨g, by rw [h1], h2⟩
theorem arg_int {n : Nat} {a : AV} (h : ArgTy Try.prog (n + 1) 3 a) : ∃ x : Int, a = .d (.int .i64 x) := by
  obtain ⟨d, rfl, t⟩ := arg_one Try.underlying3 (by simp) (by simp) h
  rw [TyD] at t
  simp only [Try.underlying3] at t
  obtain ⟨x, e, _⟩ := t
  simp only [List.cons.injEq, and_true] at e
  exact ⟨x, by rw [e]⟩
theorem mined_args (l : List AV) (h : ArgTys Try.prog 8 [67, 3] l) : Rets Try.prog 9 l (fun r => r = .d (.bool true)) := by
  obtain ⟨a0, r0, rfl, h0, a1, r1, rfl, h1, rfl⟩ := h
  obtain ⟨g, rfl, hg⟩ := arg_hd h0
  obtain ⟨x, rfl⟩ := arg_int h1
  exact mined_law g hg x
end Go.Proofs.Ytbkbcjhghmlphaa
