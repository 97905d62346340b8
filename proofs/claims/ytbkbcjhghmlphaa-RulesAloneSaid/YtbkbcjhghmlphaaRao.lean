/-
  Whether a transaction is final, and medians, by the other text.
-/
import Derived.Test.YtbkbcjhghmlphaaRan
namespace Go.Proofs.Ytbkbcjhghmlphaa
open Go.Am Go.Sha
set_option linter.unusedSimpArgs false
set_option linter.unusedVariables false

set_option maxHeartbeats 4000000 in
theorem finalR_fn (t : Tn) (h m : Nat) (ht : t.ok) (hl : t.ins.length ≤ 1000000) : Rets Try.prog 32 [.agg (eT t), .d (.int .u32 (h : Int)), .d (.int .u32 (m : Int))] (fun r => r = .d (.bool (finalV t h m))) := by
  obtain ⟨_, _, hi, _⟩ := ht
  refine fn_of_awp Try.func32 (by kernel_rfl) rfl Try.ntmps32 (rs := [.tmp 6]) rfl (Nat.le_of_ble_eq_true rfl) (by simp [AV.deep, AV.deep1, eT]) ?_
  generalize hF : finalV t h m = F
  unfold finalV at hF
  by_cases qA : t.lock = 0 ∨ (t.lock < 500000000 ∧ t.lock < h) ∨ (500000000 ≤ t.lock ∧ t.lock < m)
  · have : F = true := by
      rw [← hF]
      rcases qA with q | q | q
      · simp [q]
      · simp [q.1, q.2]
      · simp [q.1, q.2]
    subst this
    by_cases q1 : t.lock = 0
    · have q1' : (t.lock : Int) = 0 := by omega
      simp [go_sem, eT, q1, q1']
      exact post_same (by simp [AV.deep, AV.deep1]) rfl
    · have q1' : ¬ (t.lock : Int) = 0 := by omega
      by_cases q2 : t.lock < 500000000
      · have q2' : (t.lock : Int) < 500000000 := by omega
        have q4' : (t.lock : Int) < (h : Int) := by omega
        simp [go_sem, eT, q1, q1', q2', q4']
        exact post_same (by simp [AV.deep, AV.deep1]) rfl
      · have q2' : ¬ (t.lock : Int) < 500000000 := by omega
        have q3' : (500000000 : Int) ≤ (t.lock : Int) := by omega
        have q4' : (t.lock : Int) < (m : Int) := by omega
        simp [go_sem, eT, q1, q1', q2', q3', q4']
        exact post_same (by simp [AV.deep, AV.deep1]) rfl
  · have hF2 : F = allMax t.ins := by
      rw [← hF]
      have a1 : ¬ t.lock = 0 := fun e => qA (.inl e)
      have a2 : ¬ (t.lock < 500000000 ∧ t.lock < h) := fun e => qA (.inr (.inl e))
      have a3 : ¬ (500000000 ≤ t.lock ∧ t.lock < m) := fun e => qA (.inr (.inr e))
      rw [decide_eq_false a1, decide_eq_false a2, decide_eq_false a3]
      rfl
    rw [hF2]
    have q1' : ¬ (t.lock : Int) = 0 := by omega
    have q1 : ¬ t.lock = 0 := by omega
    by_cases q2 : t.lock < 500000000
    · have q2' : (t.lock : Int) < 500000000 := by omega
      have q3' : ¬ (500000000 : Int) ≤ (t.lock : Int) := by omega
      have q4' : ¬ (t.lock : Int) < (h : Int) := by omega
      simp [go_sem, eT, q1, q1', q2', q3', q4']
      refine loop_of (fun k : Nat => ⟨[(3, .ptr 0 0 0 1), (7, .d (.int .i64 (k : Int)))], [(0, ⟨42, 4, [eT t]⟩)], 4000⟩)
        (fun k => k ≤ t.ins.length ∧ allMax (t.ins.drop k) = allMax t.ins) (fun k => t.ins.length - k) 0 ⟨by omega, rfl⟩ (by
          simp [Weak, slotOk, fv, lk, AV.low, AV.low1, eT]) ?_
      rintro k ⟨hk, ho⟩
      simp only [eT]
      simp only [go_sem, Nat.reduceEqDiff, Nat.reduceAdd, Nat.reduceLT, ↓reduceIte, Nat.reduceMul]
      refine ⟨fun hlt => ?_, fun hge => ?_⟩
      · obtain ⟨x, hx1, hd⟩ := drop_of (l := t.ins) (k := k) (by omega)
        have hxo := hi x (List.mem_of_getElem? hx1)
        have w3 := next_i64 (k := k) (by omega)
        by_cases hx : x.seq = 4294967295
        · have hx' : (x.seq : Int) = 4294967295 := by omega
          simp [go_sem, hx1, eI33 hxo.1, hx', w3]
          refine next_of (k + 1) ⟨by omega, all_step hd ho (by simpa using hx)⟩ (by omega) ?_
          simp [Weak, slotOk, fv, lk, AV.low, AV.low1, eT]
        · have hx' : ¬ (x.seq : Int) = 4294967295 := by omega
          have := all_stop hd ho (by simpa using hx)
          simp [go_sem, hx1, eI33 hxo.1, hx']
          exact post_same (by simp [AV.deep, AV.deep1]) (by rw [show allMax t.ins = false from this])
      · have hkl : k = t.ins.length := by omega
        subst hkl
        have hI : allMax t.ins = true := all_done ho
        simp [go_sem]
        exact post_same (by simp [AV.deep, AV.deep1]) (by rw [hI])
    · have q2' : ¬ (t.lock : Int) < 500000000 := by omega
      have q3' : (500000000 : Int) ≤ (t.lock : Int) := by omega
      have q4' : ¬ (t.lock : Int) < (m : Int) := by omega
      simp [go_sem, eT, q1, q1', q2', q3', q4']
      refine loop_of (fun k : Nat => ⟨[(3, .ptr 0 0 0 1), (7, .d (.int .i64 (k : Int)))], [(0, ⟨42, 4, [eT t]⟩)], 4000⟩)
        (fun k => k ≤ t.ins.length ∧ allMax (t.ins.drop k) = allMax t.ins) (fun k => t.ins.length - k) 0 ⟨by omega, rfl⟩ (by
          simp [Weak, slotOk, fv, lk, AV.low, AV.low1, eT]) ?_
      rintro k ⟨hk, ho⟩
      simp only [eT]
      simp only [go_sem, Nat.reduceEqDiff, Nat.reduceAdd, Nat.reduceLT, ↓reduceIte, Nat.reduceMul]
      refine ⟨fun hlt => ?_, fun hge => ?_⟩
      · obtain ⟨x, hx1, hd⟩ := drop_of (l := t.ins) (k := k) (by omega)
        have hxo := hi x (List.mem_of_getElem? hx1)
        have w3 := next_i64 (k := k) (by omega)
        by_cases hx : x.seq = 4294967295
        · have hx' : (x.seq : Int) = 4294967295 := by omega
          simp [go_sem, hx1, eI33 hxo.1, hx', w3]
          refine next_of (k + 1) ⟨by omega, all_step hd ho (by simpa using hx)⟩ (by omega) ?_
          simp [Weak, slotOk, fv, lk, AV.low, AV.low1, eT]
        · have hx' : ¬ (x.seq : Int) = 4294967295 := by omega
          have := all_stop hd ho (by simpa using hx)
          simp [go_sem, hx1, eI33 hxo.1, hx']
          exact post_same (by simp [AV.deep, AV.deep1]) (by rw [show allMax t.ins = false from this])
      · have hkl : k = t.ins.length := by omega
        subst hkl
        have hI : allMax t.ins = true := all_done ho
        simp [go_sem]
        exact post_same (by simp [AV.deep, AV.deep1]) (by rw [hI])

set_option maxRecDepth 20000 in
set_option maxHeartbeats 4000000 in
theorem medianR_fn (l : List Nat) (hl : l.length ≤ 1000) : Rets Try.prog 36 [.d (nw l)] (fun r => r = .d (.int .u32 ((if l.length = 0 then 0 else medV l : Nat) : Int))) := by
  refine fn_of_awp Try.func36 (by kernel_rfl) rfl Try.ntmps36 (rs := [.tmp 2]) rfl (Nat.le_of_ble_eq_true rfl) (by simp [AV.deep, AV.deep1]) ?_
  generalize hV : (if l.length = 0 then 0 else medV l : Nat) = V
  have hL0 : medR (l.drop (l.length - 11)) 0 (l.drop (l.length - 11)).length = V := by
    rw [← hV]
    by_cases h0 : l.length = 0
    · rw [if_pos h0, show (l.drop (l.length - 11)).length = 0 by rw [List.length_drop]; omega]; rfl
    · rw [if_neg h0, medR_eq (by rw [List.length_drop]; omega)]; rfl
  have hLl : (l.drop (l.length - 11)).length ≤ 11 := by rw [List.length_drop]; omega
  by_cases h11 : 11 < l.length
  have i1 : (11 : Int) < (l.length : Int) := by omega
  have w : IntKind.i64.wrap ((l.length : Int) - 11) = ((l.length - 11 : Nat) : Int) := by rw [IntWalk.i64_in _ (by omega)]; omega
  have e1 : List.drop (l.length - 11) (List.map (fun (x : Nat) => [DV.int .u32 (x : Int)]) l) = List.map (fun (x : Nat) => [DV.int .u32 (x : Int)]) (l.drop (l.length - 11)) := by rw [List.map_drop]
  have e2 : List.take l.length (List.map (fun (x : Nat) => [DV.int .u32 (x : Int)]) l) = List.map (fun (x : Nat) => [DV.int .u32 (x : Int)]) l := List.take_of_length_le (by simp)
  simp only [go_sem, nw, i1, w, List.length_map, Int.toNat_natCast, Nat.reduceEqDiff, Nat.reduceAdd, Nat.reduceLT, ↓reduceIte, decide_true, e1, e2]
  refine ⟨by omega, by omega, ?_⟩
  clear e1 e2
  generalize l.drop (l.length - 11) = L at *
  rotate_left
  have i1 : ¬ (11 : Int) < (l.length : Int) := by omega
  rw [show l.length - 11 = 0 by omega, List.drop_zero] at hL0 hLl
  simp only [go_sem, nw, i1, List.length_map, Nat.reduceEqDiff, Nat.reduceAdd, Nat.reduceLT, ↓reduceIte, decide_false]
  clear hV
  generalize hLL : l = L at *
  all_goals (
    refine loop_of (fun i : Nat => ⟨[(0, .d (nw L)), (3, .d (.int .i64 (i : Int)))], [], 4000⟩)
      (fun i => i ≤ L.length ∧ medR L i (L.length - i) = V) (fun i => L.length - i) 0 ⟨by omega, hL0⟩ (by
        simp [Weak, slotOk, fv, lk, AV.low, AV.low1, nw]) ?_
    rintro i ⟨hi, hq⟩
    simp only [nw]
    simp only [go_sem, List.length_map, Nat.reduceEqDiff, Nat.reduceAdd, Nat.reduceLT, ↓reduceIte, Nat.reduceMul]
    refine ⟨fun hlt => ?_, fun hge => ?_⟩
    · have hi2 : i < L.length := by omega
      have gi : L[i]? = some (L.getD i 0) := by rw [List.getD_eq_getElem?_getD, List.getElem?_eq_getElem hi2]; rfl
      have w3 := next_i64 (k := i) (by omega)
      rw [show L.length - i = (L.length - (i + 1)) + 1 by omega] at hq
      simp only [medR] at hq
      refine loop_of (fun j : Nat => ⟨[(0, .d (nw L)), (3, .d (.int .i64 (i : Int))), (4, .d (.int .i64 ((rankTo L i j : Nat) : Int))), (5, .d (.int .i64 (j : Int)))], [], 6000⟩)
        (fun j => j ≤ L.length) (fun j => L.length - j) 0 (by omega) (by
          simp [Weak, slotOk, fv, lk, AV.low, AV.low1, nw, rankTo]) ?_
      intro j hj
      simp only [nw]
      simp only [go_sem, List.length_map, Nat.reduceEqDiff, Nat.reduceAdd, Nat.reduceLT, ↓reduceIte, Nat.reduceMul]
      refine ⟨fun hlt2 => ?_, fun hge2 => ?_⟩
      · have gj : L[j]? = some (L.getD j 0) := by rw [List.getD_eq_getElem?_getD, List.getElem?_eq_getElem (by omega)]; rfl
        have w4 := next_i64 (k := j) (by omega)
        have hr : rankTo L i (j + 1) = rankTo L i j + if L.getD j 0 < L.getD i 0 ∨ (L.getD j 0 = L.getD i 0 ∧ j < i) then 1 else 0 := rfl
        have hrl := rank_le L i j
        have w5 := next_i64 (k := rankTo L i j) (by omega)
        generalize L.getD j 0 = y at *
        generalize L.getD i 0 = x at *
        generalize hr' : rankTo L i (j + 1) = r' at *
        generalize hr0 : rankTo L i j = r at *
        apply draw2 (0 :: 1 :: 2 :: 3 :: 4 :: 5 :: 6 :: 7 :: 8 :: 9 :: 10 :: 11 :: 12 :: 13 :: 14 :: 15 :: 16 :: 17 :: 18 :: 19 :: 20 :: 21 :: 22 :: 23 :: 24 :: []) ([]) 0 (k := 25) (by kernel_rfl) (by kernel_rfl) rfl
        case hz => repeat (first | exact Its.nil | apply Its.plain rfl | apply Its.guard rfl rfl)
        case hj => repeat (first | exact Jts.nil | exact Its.nil | apply Its.plain rfl | apply Its.guard rfl rfl | apply Jts.plain rfl | apply Jts.guard rfl rfl)
        intro G hG
        by_cases c1 : y < x
        · have c1' : (y : Int) < (x : Int) := by omega
          rw [if_pos (.inl c1)] at hr
          simp [go_sem, gi, gj, c1', c1]
          refine hG _ _ ?_
          clear hG G
          simp [go_sem, w4, w5]
          refine next_of (j + 1) (by omega) (by omega) ?_
          simp [Weak, slotOk, fv, lk, AV.low, AV.low1, nw, hr', hr]
        · have c1' : ¬ (y : Int) < (x : Int) := by omega
          by_cases c2 : y = x
          · have c2' : (y : Int) = (x : Int) := by omega
            by_cases c3 : j < i
            · have c3' : (j : Int) < (i : Int) := by omega
              rw [if_pos (.inr ⟨c2, c3⟩)] at hr
              simp [go_sem, gi, gj, c1', c1, c2', c2, c3, c3']
              refine hG _ _ ?_
              clear hG G
              simp [go_sem, w4, w5]
              refine next_of (j + 1) (by omega) (by omega) ?_
              simp [Weak, slotOk, fv, lk, AV.low, AV.low1, nw, hr', hr]
            · have c3' : ¬ (j : Int) < (i : Int) := by omega
              rw [if_neg (by rintro (e | e) <;> omega)] at hr
              simp [go_sem, gi, gj, c1', c1, c2', c2, c3, c3']
              refine hG _ _ ?_
              clear hG G
              simp [go_sem, w4, w5]
              refine next_of (j + 1) (by omega) (by omega) ?_
              simp [Weak, slotOk, fv, lk, AV.low, AV.low1, nw, hr', hr]
          · have c2' : ¬ (y : Int) = (x : Int) := by omega
            rw [if_neg (by rintro (e | e) <;> omega)] at hr
            simp [go_sem, gi, gj, c1', c1, c2', c2]
            refine hG _ _ ?_
            clear hG G
            simp [go_sem, w4, w5]
            refine next_of (j + 1) (by omega) (by omega) ?_
            simp [Weak, slotOk, fv, lk, AV.low, AV.low1, nw, hr', hr]
      · have hjl : j = L.length := by omega
        subst hjl
        have e3 : Int.tdiv (L.length : Int) 2 = ((L.length / 2 : Nat) : Int) := (Int.ofNat_tdiv _ 2).symm
        have e4 : IntKind.i64.wrap ((L.length / 2 : Nat) : Int) = ((L.length / 2 : Nat) : Int) := IntWalk.i64_in _ (by omega)
        by_cases c4 : rankTo L i L.length = L.length / 2
        · rw [if_pos c4] at hq
          have c4' : ((rankTo L i L.length : Nat) : Int) = ((L.length / 2 : Nat) : Int) := by omega
          subst hq
          simp only [go_sem, List.length_map, Nat.reduceEqDiff, Nat.reduceAdd, Nat.reduceLT, ↓reduceIte, Nat.reduceMul, e3, e4, c4', decide_true, gi]
          exact ⟨by decide, fun _ => post_same (by simp [AV.deep, AV.deep1]) rfl, fun e => absurd trivial e⟩
        · rw [if_neg c4] at hq
          have c4' : ¬ ((rankTo L i L.length : Nat) : Int) = ((L.length / 2 : Nat) : Int) := by omega
          simp only [go_sem, List.length_map, Nat.reduceEqDiff, Nat.reduceAdd, Nat.reduceLT, ↓reduceIte, Nat.reduceMul, e3, e4, c4', decide_false, w3]
          refine ⟨by decide, fun e => e.elim, fun _ => ?_⟩
          refine next_of (i + 1) ⟨by omega, hq⟩ (by omega) ?_
          simp [Weak, slotOk, fv, lk, AV.low, AV.low1, nw]
    · have hil : i = L.length := by omega
      subst hil
      rw [Nat.sub_self] at hq
      simp only [medR] at hq
      subst hq
      simp [go_sem]
      exact post_same (by simp [AV.deep, AV.deep1]) rfl)
end Go.Proofs.Ytbkbcjhghmlphaa
