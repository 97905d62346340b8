/-
  The other text's SHA-256: a block.
-/
import Derived.Test.YtiihldilefeldaaRsb
namespace Go.Proofs.Ytiihldilefeldaa
open Go.Am Go.Sha
set_option linter.unusedSimpArgs false
set_option linter.unusedVariables false

theorem w_s16 (a : Nat) : IntKind.u32.wrap ((a : Int) * 65536) = ((s32 16 a : Nat) : Int) := w_mul a 65536
theorem w_s24 (a : Nat) : IntKind.u32.wrap ((a : Int) * 16777216) = ((s32 24 a : Nat) : Int) := w_mul a 16777216
theorem w_xorc (a : Nat) : bits .xor .u32 (a : Int) 4294967295 = ((c32 a : Nat) : Int) := (w_xor a 4294967295).trans (by rw [x32_c])
theorem rw4_ren (ρ : Nat → Nat) (L : List Nat) : List.map (AV.renL ρ) (rw4 L) = rw4 L := by
  simp [rw4, AV.renL, AV.ren]
theorem four {b : List Nat} {k : Nat} (h : k + 4 ≤ b.length) : ∃ x0 x1 x2 x3, b[k]? = some x0 ∧ b[k + 1]? = some x1 ∧ b[k + 2]? = some x2 ∧ b[k + 3]? = some x3 ∧ (b.take (k + 4)).drop k = [x0, x1, x2, x3] := by
  refine ⟨b[k], b[k + 1], b[k + 2], b[k + 3], List.getElem?_eq_getElem _, List.getElem?_eq_getElem _, List.getElem?_eq_getElem _, List.getElem?_eq_getElem _, ?_⟩
  rw [List.drop_take, show k + 4 - k = 4 by omega, List.drop_eq_getElem_cons (by omega : k < b.length), List.drop_eq_getElem_cons (by omega : k + 1 < b.length), List.drop_eq_getElem_cons (by omega : k + 1 + 1 < b.length), List.drop_eq_getElem_cons (by omega : k + 1 + 1 + 1 < b.length)]
  rfl

set_option maxHeartbeats 4000000 in
theorem blockR_fn (s : S8) (b : List Nat) (hb : b.length = 64) (hby : ∀ x, x ∈ b → x < 256) : Rets Try.prog 104 [.d (nw s.l), .d (nw K), .d (nb b)] (fun r => r = .d (nw (Go.Sha.take s b).l)) := by
  refine fn_of_awp Try.func104 (by kernel_rfl) rfl Try.ntmps104 (rs := [.tmp 6]) rfl (Nat.le_of_ble_eq_true rfl) (by simp [AV.deep, AV.deep1]) ?_
  simp only [go_sem, Nat.reduceEqDiff, Nat.reduceAdd, Nat.reduceLT, ↓reduceIte, Nat.reduceMul]
  refine ⟨by omega, ?_⟩
  refine loop_of (fun t : Nat => ⟨[(0, .d (nw s.l)), (1, .d (nw K)), (2, .d (nb b)), (7, .own 32 0 t t), (8, .d (.int .i64 (t : Int)))], [(32, ⟨38, 1, rw4 (wds b t)⟩)], 128⟩)
    (fun t => t ≤ 64) (fun t => 64 - t) 0 (by omega) (by
      simp [Weak, slotOk, fv, lk, AV.low, AV.low1, nw, nb]
      exact ⟨rfl, rw4_low _ _⟩) ?_
  intro t ht
  have hwl := wds_len b t
  simp only [go_sem, Nat.reduceEqDiff, Nat.reduceAdd, Nat.reduceLT, ↓reduceIte, Nat.reduceMul]
  refine ⟨fun h => ?_, fun h => ?_⟩
  · by_cases h16 : t < 16
    · have i16 : (t : Int) < 16 := by omega
      obtain ⟨x0, x1, x2, x3, g0, g1, g2, g3, g4⟩ := four (b := b) (k := 4 * t) (by omega)
      have hw4 := word4_eq (hby x0 (List.mem_of_getElem? g0)) (hby x1 (List.mem_of_getElem? g1)) (hby x2 (List.mem_of_getElem? g2)) (hby x3 (List.mem_of_getElem? g3))
      rw [← g4] at hw4
      have hst := wds_lo (b := b) h16
      rw [← hw4] at hst
      unfold word4 at hst
      have w1 : IntKind.i64.wrap (4 * (t : Int)) = ((4 * t : Nat) : Int) := by rw [IntWalk.i64_in _ (by omega)]; omega
      have w2 : IntKind.i64.wrap (((4 * t : Nat) : Int) + 1) = ((4 * t + 1 : Nat) : Int) := by rw [IntWalk.i64_in _ (by omega)]; omega
      have w3 : IntKind.i64.wrap (((4 * t : Nat) : Int) + 2) = ((4 * t + 2 : Nat) : Int) := by rw [IntWalk.i64_in _ (by omega)]; omega
      have w4 : IntKind.i64.wrap (((4 * t : Nat) : Int) + 3) = ((4 * t + 3 : Nat) : Int) := by rw [IntWalk.i64_in _ (by omega)]; omega
      generalize 4 * t = q at *
      generalize q + 1 = q1 at g1 w2
      generalize q + 2 = q2 at g2 w3
      generalize q + 3 = q3 at g3 w4
      simp [go_sem, i16]
      apply draw2 (0 :: 1 :: 2 :: 3 :: 4 :: 5 :: 6 :: 7 :: 8 :: 9 :: 10 :: 11 :: 12 :: 13 :: 14 :: 15 :: 16 :: 17 :: 18 :: 19 :: 20 :: 21 :: 22 :: 23 :: 24 :: 25 :: 26 :: 27 :: 28 :: 29 :: 30 :: 31 :: 32 :: 33 :: []) ((34, ([])) :: (35, ([])) :: (36, ([])) :: []) 1 (k := 37) (by kernel_rfl) (by kernel_rfl) rfl
      case hz => repeat (first | exact Its.nil | apply Its.plain rfl | apply Its.guard rfl rfl)
      case hj => repeat (first | exact Jts.nil | exact Its.nil | apply Its.plain rfl | apply Its.guard rfl rfl | apply Jts.plain rfl | apply Jts.guard rfl rfl)
      intro G hG
      simp [go_sem, nb, w1, w2, w3, w4, g0, g1, g2, g3, IntKind.bits, w_nat, w_s8, w_s16, w_s24, w_or]
      rw [rw4_snoc, ← hst]
      refine ⟨rw4_len _ ▸ hwl, by omega, hG _ _ ?_⟩
      clear hG G
      have w5 := next_i64 (k := t) (by omega)
      simp [go_sem, w5]
      refine next_of (t + 1) (by omega) (by omega) ?_
      simp [Weak, slotOk, fv, lk, AV.low, AV.low1, nw, nb]
      exact rw4_low _ _
    · have i16 : ¬ (t : Int) < 16 := by omega
      have w1 : IntKind.i64.wrap ((t : Int) - 15) = ((t - 15 : Nat) : Int) := by rw [IntWalk.i64_in _ (by omega)]; omega
      have w2 : IntKind.i64.wrap ((t : Int) - 2) = ((t - 2 : Nat) : Int) := by rw [IntWalk.i64_in _ (by omega)]; omega
      have w3 : IntKind.i64.wrap ((t : Int) - 7) = ((t - 7 : Nat) : Int) := by rw [IntWalk.i64_in _ (by omega)]; omega
      have w4 : IntKind.i64.wrap ((t : Int) - 16) = ((t - 16 : Nat) : Int) := by rw [IntWalk.i64_in _ (by omega)]; omega
      have hst := wds_hi (b := b) (t := t) (by omega)
      have hx2 : wx2 (wds b t) = a32 (a32 (a32 (x32 (x32 (ror 17 ((wds b t).getD (t - 2) 0)) (ror 19 ((wds b t).getD (t - 2) 0))) (r32 10 ((wds b t).getD (t - 2) 0))) ((wds b t).getD (t - 7) 0)) (x32 (x32 (ror 7 ((wds b t).getD (t - 15) 0)) (ror 18 ((wds b t).getD (t - 15) 0))) (r32 3 ((wds b t).getD (t - 15) 0)))) ((wds b t).getD (t - 16) 0) := by
        unfold wx2
        rw [hwl]
      rw [← wx2_eq, hx2] at hst
      clear hx2
      have gg : ∀ i, i < t → (wds b t)[i]? = some ((wds b t).getD i 0) := fun i hi => by
        rw [List.getD_eq_getElem?_getD, List.getElem?_eq_getElem (by omega)]; rfl
      have g15 := gg (t - 15) (by omega)
      have g2 := gg (t - 2) (by omega)
      have g7 := gg (t - 7) (by omega)
      have g16 := gg (t - 16) (by omega)
      clear gg
      generalize (wds b t).getD (t - 15) 0 = x at g15 hst
      generalize (wds b t).getD (t - 2) 0 = y at g2 hst
      generalize (wds b t).getD (t - 7) 0 = u at g7 hst
      generalize (wds b t).getD (t - 16) 0 = v at g16 hst
      have o15 : ((t - 15 : Nat) : Int) < (t : Int) := by omega
      have o2 : ((t - 2 : Nat) : Int) < (t : Int) := by omega
      have o7 : ((t - 7 : Nat) : Int) < (t : Int) := by omega
      have o16 : ((t - 16 : Nat) : Int) < (t : Int) := by omega
      generalize t - 15 = t15 at *
      generalize t - 2 = t2 at *
      generalize t - 7 = t7 at *
      generalize t - 16 = t16 at *
      simp [go_sem, i16]
      apply draw2 (0 :: 1 :: 2 :: 3 :: 4 :: 5 :: 6 :: 7 :: 8 :: 9 :: 10 :: 11 :: []) ([]) 0 (k := 12) (by kernel_rfl) (by kernel_rfl) rfl
      case hz => repeat (first | exact Its.nil | apply Its.plain rfl | apply Its.guard rfl rfl)
      case hj => repeat (first | exact Jts.nil | exact Its.nil | apply Its.plain rfl | apply Its.guard rfl rfl | apply Jts.plain rfl | apply Jts.guard rfl rfl)
      intro G hG
      simp [go_sem, w1, w2, rw4_get, rw4_len, hwl, g15, g2]
      refine ⟨by omega, by omega, hG _ _ ?_⟩
      clear hG G
      simp [go_sem]
      refine cl_eq (turn_fn x 7 7 rfl (by omega)) (by simp [AV.deep, AV.deep1]) ?_
      simp [go_sem]
      refine cl_eq (turn_fn x 18 18 rfl (by omega)) (by simp [AV.deep, AV.deep1]) ?_
      simp [go_sem, w_xor, IntKind.bits, d_r3]
      refine cl_eq (turn_fn y 17 17 rfl (by omega)) (by simp [AV.deep, AV.deep1]) ?_
      simp [go_sem]
      refine cl_eq (turn_fn y 19 19 rfl (by omega)) (by simp [AV.deep, AV.deep1]) ?_
      simp [go_sem, w_xor, IntKind.bits, d_r10]
      apply draw2 (0 :: 1 :: 2 :: 3 :: 4 :: 5 :: 6 :: 7 :: 8 :: 9 :: 10 :: 11 :: 12 :: 13 :: 14 :: 15 :: []) ((16, ([])) :: (17, ([])) :: (18, ([])) :: []) 1 (k := 19) (by kernel_rfl) (by kernel_rfl) rfl
      case hz => repeat (first | exact Its.nil | apply Its.plain rfl | apply Its.guard rfl rfl)
      case hj => repeat (first | exact Jts.nil | exact Its.nil | apply Its.plain rfl | apply Its.guard rfl rfl | apply Jts.plain rfl | apply Jts.guard rfl rfl)
      intro G hG
      simp [go_sem, w3, w4, rw4_get, rw4_len, hwl, g7, g16, w_add]
      rw [rw4_snoc, ← hst]
      refine ⟨by omega, by omega, by omega, hG _ _ ?_⟩
      clear hG G
      have w5 := next_i64 (k := t) (by omega)
      simp [go_sem, w5]
      refine next_of (t + 1) (by omega) (by omega) ?_
      simp [Weak, slotOk, fv, lk, AV.low, AV.low1, nw, nb]
      exact rw4_low _ _
  · have ht64 : t = 64 := by omega
    subst ht64
    rw [wds_end] at *
    unfold Go.Sha.take rounds
    generalize hR : restG rdp 0 (K.zip (sched b)) s = R
    have hzl : (K.zip (sched b)).length = 64 := by rw [List.length_zip, sched_len, K_len]; rfl
    generalize sched b = ws at *
    simp [go_sem, nw, rw4_of]
    refine ⟨by simp [rw4_len, S8.l], ?_⟩
    refine loop_of (fun t : Nat × S8 => ⟨[(0, .d (nw s.l)), (1, .d (nw K)), (7, .own 32 0 64 64), (13, .own 192 0 8 8), (14, .d (.int .i64 (t.1 : Int)))], [(32, ⟨38, 1, rw4 ws⟩), (192, ⟨38, 1, rw4 t.2.l⟩)], 3000⟩)
      (fun t => t.1 ≤ 64 ∧ restG rdp t.1 (K.zip ws) t.2 = R) (fun t => 64 - t.1) (0, s) ⟨by omega, hR⟩ (by
        simp [Weak, slotOk, fv, lk, AV.low, AV.low1, nw]
        exact ⟨rfl, rw4_low _ _, rw4_low _ _⟩) ?_
    clear hR
    rintro ⟨t, v⟩ ⟨ht, hR⟩
    simp only at ht hR
    simp only [go_sem, Nat.reduceEqDiff, Nat.reduceAdd, Nat.reduceLT, ↓reduceIte, Nat.reduceMul]
    refine ⟨fun h => ?_, fun h => ?_⟩
    · obtain ⟨k, hk, _⟩ := drop_of (l := K) (k := t) (by rw [K_len]; omega)
      obtain ⟨w, hw, _⟩ := drop_of (l := ws) (k := t) (by omega)
      have hz : (K.zip ws)[t]? = some (k, w) := by rw [List.getElem?_zip_eq_some]; exact ⟨hk, hw⟩
      rw [restG_step rdp hz] at hR
      apply draw2 (0 :: 1 :: 2 :: 3 :: 4 :: 5 :: 6 :: 7 :: 8 :: 9 :: 10 :: 11 :: []) ([]) 0 (k := 12) (by kernel_rfl) (by kernel_rfl) rfl
      case hz => repeat (first | exact Its.nil | apply Its.plain rfl | apply Its.guard rfl rfl)
      case hj => repeat (first | exact Jts.nil | exact Its.nil | apply Its.plain rfl | apply Its.guard rfl rfl | apply Jts.plain rfl | apply Jts.guard rfl rfl)
      intro G hG
      simp [go_sem, rw4, S8.l]
      refine hG _ _ ?_
      clear hG G
      simp [go_sem]
      apply draw2 (0 :: 1 :: 2 :: 3 :: 5 :: 8 :: 12 :: 13 :: 14 :: 15 :: 16 :: 17 :: 18 :: 19 :: 20 :: 21 :: 22 :: 23 :: 25 :: 26 :: 27 :: 28 :: 30 :: 31 :: 32 :: 33 :: []) ((4, ([])) :: (6, (7 :: [])) :: (9, (10 :: 11 :: 24 :: 29 :: 34 :: 35 :: [])) :: []) 3 (k := 36) (by kernel_rfl) (by kernel_rfl) rfl
      case hz => repeat (first | exact Its.nil | apply Its.plain rfl | apply Its.guard rfl rfl)
      case hj => repeat (first | exact Jts.nil | exact Its.nil | apply Its.plain rfl | apply Its.guard rfl rfl | apply Jts.plain rfl | apply Jts.guard rfl rfl)
      intro G hG
      simp [go_sem, nw, hk, hw, w_xor, w_and, w_xorc, w_add]
      refine ⟨by omega, hwl, ?_⟩
      refine cl_eq (turn_fn v.e 6 6 rfl (by omega)) (by simp [AV.deep, AV.deep1]) ?_
      simp [go_sem, w_xor, w_and, w_add]
      refine cl_eq (turn_fn v.e 11 11 rfl (by omega)) (by simp [AV.deep, AV.deep1]) ?_
      simp [go_sem, w_xor, w_and, w_add]
      refine cl_eq (turn_fn v.e 25 25 rfl (by omega)) (by simp [AV.deep, AV.deep1]) ?_
      simp [go_sem, w_xor, w_and, w_add]
      have hT1 : a32 (a32 (a32 (a32 v.h (x32 (x32 (ror 6 v.e) (ror 11 v.e)) (ror 25 v.e))) (x32 (n32 v.e v.f) (n32 (c32 v.e) v.g))) k) w = T1 v k w := by
        rw [ror_rol (by omega), ror_rol (by omega), ror_rol (by omega)]
        unfold T1; with_reducible rfl
      rw [hT1]
      refine hG _ _ ?_
      clear hG G
      simp [go_sem]
      apply draw2 (0 :: 2 :: 5 :: 8 :: 9 :: 10 :: 11 :: 12 :: 13 :: 14 :: 15 :: 16 :: 17 :: 18 :: 19 :: 20 :: 21 :: 22 :: []) ((1, ([])) :: (3, (4 :: [])) :: (6, (7 :: 23 :: 24 :: [])) :: []) 3 (k := 25) (by kernel_rfl) (by kernel_rfl) rfl
      case hz => repeat (first | exact Its.nil | apply Its.plain rfl | apply Its.guard rfl rfl)
      case hj => repeat (first | exact Jts.nil | exact Its.nil | apply Its.plain rfl | apply Its.guard rfl rfl | apply Jts.plain rfl | apply Jts.guard rfl rfl)
      intro G hG
      simp [go_sem, w_xor, w_and, w_add]
      refine cl_eq (turn_fn v.a 2 2 rfl (by omega)) (by simp [AV.deep, AV.deep1]) ?_
      simp [go_sem, w_xor, w_and, w_add]
      refine cl_eq (turn_fn v.a 13 13 rfl (by omega)) (by simp [AV.deep, AV.deep1]) ?_
      simp [go_sem, w_xor, w_and, w_add]
      refine cl_eq (turn_fn v.a 22 22 rfl (by omega)) (by simp [AV.deep, AV.deep1]) ?_
      simp [go_sem, w_xor, w_and, w_add]
      have hT2 : a32 (x32 (x32 (ror 2 v.a) (ror 13 v.a)) (ror 22 v.a)) (x32 (x32 (n32 v.a v.b) (n32 v.a v.c)) (n32 v.b v.c)) = T2 v := by
        rw [ror_rol (by omega), ror_rol (by omega), ror_rol (by omega)]
        unfold T2; with_reducible rfl
      rw [hT2]
      refine hG _ _ ?_
      clear hG G
      simp [go_sem]
      apply draw2 (0 :: 1 :: 2 :: 3 :: 4 :: 5 :: 6 :: 7 :: 8 :: 9 :: 10 :: 11 :: 12 :: 13 :: 14 :: 15 :: 16 :: 17 :: 18 :: 19 :: 20 :: 21 :: 22 :: 23 :: 24 :: 25 :: []) ((26, ([])) :: (27, ([])) :: []) 0 (k := 28) (by kernel_rfl) (by kernel_rfl) rfl
      case hz => repeat (first | exact Its.nil | apply Its.plain rfl | apply Its.guard rfl rfl)
      case hj => repeat (first | exact Jts.nil | exact Its.nil | apply Its.plain rfl | apply Its.guard rfl rfl | apply Jts.plain rfl | apply Jts.guard rfl rfl)
      intro G hG
      simp [go_sem, w_add]
      refine hG _ _ ?_
      clear hG G
      have w3 := next_i64 (k := t) (by omega)
      simp [go_sem, w3]
      refine nextR_of (t + 1, rdp v (k, w)) ⟨by simp only; omega, hR⟩ (by simp only; omega) [(32, 32), (6232, 192)] 2000 (by decide) (by decide) (by decide) (by decide) ?_
      simp [renF, renH, rho, AV.ren, Blk.ren, renR, Weak, slotOk, fv, lk, AV.low, AV.low1, nw, AV.renL, rdp, rd, rw4, S8.l]
    · have ht64 : t = 64 := by omega
      subst ht64
      rw [restG_end rdp (by omega)] at hR
      subst hR
      rw [show (s8add s v).l = addL s.l 8 v.l from (addL_end s v).symm]
      have hsl : s.l.length = 8 := rfl
      have hvl : v.l.length = 8 := rfl
      generalize s.l = sl at *
      generalize v.l = vl at *
      refine loop_of (fun i : Nat => ⟨[(0, .d (nw sl)), (13, .own 192 0 8 8), (20, .d (.int .i64 (i : Int)))], [(192, ⟨38, 1, rw4 (addL sl i vl)⟩)], 3200⟩)
        (fun i => i ≤ 8) (fun i => 8 - i) 0 (by omega) (by
          simp [Weak, slotOk, fv, lk, AV.low, AV.low1, nw, addL]
          exact rw4_low _ _) ?_
      intro i hi
      have hal := addL_len sl vl i
      simp only [go_sem, Nat.reduceEqDiff, Nat.reduceAdd, Nat.reduceLT, ↓reduceIte, Nat.reduceMul]
      refine ⟨fun h => ?_, fun h => ?_⟩
      · have e1 : (addL sl i vl)[i]? = some ((addL sl i vl).getD i 0) := by rw [List.getD_eq_getElem?_getD, List.getElem?_eq_getElem (by omega)]; rfl
        have e2 : sl[i]? = some (sl.getD i 0) := by rw [List.getD_eq_getElem?_getD, List.getElem?_eq_getElem (by omega)]; rfl
        have e3 : addL sl (i + 1) vl = (addL sl i vl).set i (a32 ((addL sl i vl).getD i 0) (sl.getD i 0)) := rfl
        generalize (addL sl i vl).getD i 0 = x at *
        generalize sl.getD i 0 = y at *
        generalize addL sl i vl = A at *
        apply draw2 (0 :: 1 :: 2 :: 3 :: 4 :: 5 :: 6 :: 7 :: 8 :: 9 :: 10 :: 11 :: []) ((12, ([])) :: []) 0 (k := 13) (by kernel_rfl) (by kernel_rfl) rfl
        case hz => repeat (first | exact Its.nil | apply Its.plain rfl | apply Its.guard rfl rfl)
        case hj => repeat (first | exact Jts.nil | exact Its.nil | apply Its.plain rfl | apply Its.guard rfl rfl | apply Jts.plain rfl | apply Jts.guard rfl rfl)
        intro G hG
        simp [go_sem, nw, rw4_get, e1, e2, w_add, rw4_len, rw4_set]
        refine ⟨by omega, by omega, by omega, by omega, hG _ _ ?_⟩
        clear hG G
        have w5 := next_i64 (k := i) (by omega)
        simp [go_sem, w5]
        refine next_of (i + 1) (by omega) (by omega) ?_
        simp [Weak, slotOk, fv, lk, AV.low, AV.low1, nw, e3]
        exact rw4_low _ _
      · have hi8 : i = 8 := by omega
        subst hi8
        simp [go_sem, resV]
        have := post_words (id := 192) (L := addL sl 8 vl) (Q := fun r => r = AV.d (nw (addL sl 8 vl))) (st := ⟨[], [(192, ⟨38, 1, rw4 (addL sl 8 vl)⟩)], 0⟩) rfl rfl
        rw [hal, hvl] at this
        exact this
end Go.Proofs.Ytiihldilefeldaa
