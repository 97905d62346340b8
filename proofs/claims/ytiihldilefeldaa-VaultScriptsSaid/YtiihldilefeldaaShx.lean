/-
  SHA-256 in the program: a block's words.
-/
import Derived.Test.YtiihldilefeldaaShw
namespace Go.Proofs.Ytiihldilefeldaa
open Go.Am Go.Sha
set_option linter.unusedSimpArgs false
set_option linter.unusedVariables false

theorem drop_of {α : Type} {l : List α} {k : Nat} (h : k < l.length) : ∃ c, l[k]? = some c ∧ l.drop k = c :: l.drop (k + 1) :=
  ⟨l[k], List.getElem?_eq_getElem h, List.drop_eq_getElem_cons h⟩
theorem next_i64 {k : Nat} (h : k < 4611686018427387904) : IntKind.i64.wrap ((k : Int) + 1) = ((k + 1 : Nat) : Int) := by
  rw [IntWalk.i64_in _ (by omega)]; omega
theorem i64n {n : Nat} (h : n < 4611686018427387904) : IntKind.i64.wrap (n : Int) = (n : Int) := IntWalk.i64_in _ (by omega)
theorem cw_low (n : Nat) (l : List Nat) : ∀ v, v ∈ cw l → v.low1 n := by
  intro c hc
  simp only [cw, List.mem_map] at hc
  obtain ⟨x, _, rfl⟩ := hc
  trivial

/-- The row while its first words are there. -/
def rowW (w : List Nat) : List Nat := w ++ List.replicate (64 - w.length) 0
theorem rowW_len {w : List Nat} (h : w.length ≤ 64) : (rowW w).length = 64 := by simp [rowW]; omega
theorem rowW_get {w : List Nat} {i : Nat} (h : i < w.length) : (rowW w)[i]? = some w[i] := by
  unfold rowW
  rw [List.getElem?_append_left h, List.getElem?_eq_getElem h]
theorem rowW_at {w : List Nat} (h : w.length < 64) : (rowW w)[w.length]? = some 0 := by
  unfold rowW
  rw [List.getElem?_append_right (Nat.le_refl _), Nat.sub_self, List.getElem?_replicate, if_pos (by omega)]
theorem rowW_set {w : List Nat} {x : Nat} (h : w.length < 64) : (rowW w).set w.length x = rowW (w ++ [x]) := by
  unfold rowW
  rw [List.set_append_right _ _ (Nat.le_refl _), Nat.sub_self]
  obtain ⟨k, hk⟩ : ∃ k, 64 - w.length = k + 1 := ⟨63 - w.length, by omega⟩
  rw [hk, List.replicate_succ, List.set_cons_zero, List.append_assoc]
  simp only [List.length_append, List.length_singleton, List.singleton_append]
  rw [show 64 - (w.length + 1) = k by omega]
theorem rowW_last {w : List Nat} {x y : Nat} (h : w.length < 64) : (rowW (w ++ [x])).set w.length y = rowW (w ++ [y]) := by
  rw [← rowW_set h, ← rowW_set h, List.set_set]
theorem rowW_mid {w : List Nat} {x : Nat} (h : w.length < 64) : (rowW (w ++ [x]))[w.length]? = some x := by
  rw [rowW_get (by simp)]
  simp

theorem rowW_zero {w : List Nat} (h : w.length < 64) : rowW (w ++ [0]) = rowW w := by
  unfold rowW
  obtain ⟨k, hk⟩ : ∃ k, 64 - w.length = k + 1 := ⟨63 - w.length, by omega⟩
  rw [hk, List.replicate_succ, List.append_assoc]
  simp only [List.length_append, List.length_singleton, List.singleton_append]
  rw [show 64 - (w.length + 1) = k by omega]
theorem cw_dh (l : List Nat) (i : Nat) : ((cw l).drop i).head? = (l[i]?).map fun (x : Nat) => AV.d (.int .u32 (x : Int)) := by
  rw [List.head?_drop, cw_get]
theorem word_snoc (q : List Nat) {j c : Nat} (h : q[j]? = some c) : word (q.take (j + 1)) = o32 (s32 8 (word (q.take j))) (t32 c) := by
  unfold word
  rw [List.take_add_one, h, List.foldl_append]
  rfl

set_option maxHeartbeats 4000000 in
theorem spread_fn (b : List Nat) (hb : b.length = 64) : Rets Try.prog 125 [.d (nb b)] (fun r => r = .agg (cw (sched b))) := by
  refine fn_of_awp Try.func125 (by kernel_rfl) rfl Try.ntmps125 (rs := [.cell 2 153]) rfl (Nat.le_of_ble_eq_true rfl) (by simp [AV.deep, AV.deep1]) ?_
  simp only [go_sem, Nat.reduceEqDiff, Nat.reduceAdd, Nat.reduceLT, ↓reduceIte, Nat.reduceMul, List.length_replicate]
  refine loop_of (fun t : Nat => ⟨[(0, .d (nb b)), (2, .ptr 0 0 0 1), (3, .ptr 32 0 0 1), (12, .d (.int .i64 t))], [(32, ⟨153, 64, [cw (rowW (wfirst b t))]⟩), (0, ⟨153, 64, [cw z64]⟩)], 96⟩)
    (fun t => t ≤ 16) (fun t => 16 - t) 0 (by omega) (by
      simp [Weak, slotOk, fv, lk, AV.low, AV.low1]
      refine ⟨⟨rfl, cw_low _ _⟩, cw_low _ _⟩) ?_
  intro t ht
  have e1 := wfirst_len b t
  have w1 : IntKind.i64.wrap (4 * (t : Int)) = ((4 * t : Nat) : Int) := by rw [IntWalk.i64_in _ (by omega)]; omega
  have w2 : IntKind.i64.wrap (((4 * t : Nat) : Int) + 4) = ((4 * t + 4 : Nat) : Int) := by rw [IntWalk.i64_in _ (by omega)]; omega
  simp only [go_sem, Nat.reduceEqDiff, Nat.reduceAdd, Nat.reduceLT, ↓reduceIte]
  refine ⟨fun h => ?_, fun h => ?_⟩
  · have hl4 : ((b.take (4 * t + 4)).drop (4 * t)).length = 4 := by simp; omega
    have hnb : ((b.map fun (b : Nat) => [DV.int .u8 (b : Int)]).take (4 * t + 4)).drop (4 * t) = ((b.take (4 * t + 4)).drop (4 * t)).map fun (b : Nat) => [DV.int .u8 (b : Int)] := by simp [List.map_drop, List.map_take]
    simp only [go_sem, Nat.reduceEqDiff, Nat.reduceAdd, Nat.reduceLT, ↓reduceIte, w1, w2, nb, Int.toNat_natCast, hnb, List.length_map, hl4]
    refine ⟨by omega, by omega, ?_⟩
    refine loop_of (fun j : Nat => ⟨[(0, .d (nb b)), (2, .ptr 0 0 0 1), (3, .ptr 32 0 0 1), (12, .d (.int .i64 t)), (4, .d (.int .i64 t)), (21, .d (nb ((b.take (4 * t + 4)).drop (4 * t)))), (22, .d (.int .i64 (4 : Nat))), (23, .d (.int .i64 j))],
        [(32, ⟨153, 64, [cw (rowW (wfirst b t ++ [word (((b.take (4 * t + 4)).drop (4 * t)).take j)]))]⟩), (0, ⟨153, 64, [cw z64]⟩)], 480⟩)
      (fun j => j ≤ 4) (fun j => 4 - j) 0 (by omega) (by
        simp [Weak, slotOk, fv, lk, AV.low, AV.low1, nb, List.map_drop, List.map_take]
        exact ⟨⟨by rw [show word [] = 0 from rfl, rowW_zero (by omega)], cw_low _ _⟩, cw_low _ _⟩) ?_
    intro j hj
    simp only [go_sem, Nat.reduceEqDiff, Nat.reduceAdd, Nat.reduceLT, ↓reduceIte]
    refine ⟨fun h2 => ?_, fun h2 => ?_⟩
    · obtain ⟨c, hc, _⟩ := drop_of (l := (b.take (4 * t + 4)).drop (4 * t)) (k := j) (by omega)
      have g1 : (rowW (wfirst b t ++ [word (((b.take (4 * t + 4)).drop (4 * t)).take j)]))[t]? = some (word (((b.take (4 * t + 4)).drop (4 * t)).take j)) := by
        have := rowW_mid (w := wfirst b t) (x := word (((b.take (4 * t + 4)).drop (4 * t)).take j)) (by omega)
        rw [e1] at this
        exact this
      have g2 : ∀ y, (rowW (wfirst b t ++ [word (((b.take (4 * t + 4)).drop (4 * t)).take j)])).set t y = rowW (wfirst b t ++ [y]) := by
        intro y
        have := rowW_last (w := wfirst b t) (x := word (((b.take (4 * t + 4)).drop (4 * t)).take j)) (y := y) (by omega)
        rw [e1] at this
        exact this
      have w3 := i64n (n := j + 1) (by omega)
      have g3 : (rowW (wfirst b t ++ [word (((b.take (4 * t + 4)).drop (4 * t)).take j)])).length = 64 := rowW_len (by simp; omega)
      generalize hq : (b.take (4 * t + 4)).drop (4 * t) = q at *
      simp [go_sem, nb, hc, cw_get, g1, IntKind.bits, w_s8, w_nat, w_or, cw_set, g2, g3, e1]
      refine ⟨by omega, by omega, ?_⟩
      have w3 := next_i64 (k := j) (by omega)
      rw [w3]
      refine next_of (j + 1) (by omega) (by omega) ?_
      simp [Weak, slotOk, fv, lk, AV.low, AV.low1, word_snoc q hc]
      exact ⟨cw_low _ _, cw_low _ _⟩
    · have hj4 : j = 4 := by omega
      subst hj4
      have w3 := next_i64 (k := t) (by omega)
      rw [w3]
      refine next_of (t + 1) (by omega) (by omega) ?_
      have hfull : word (((b.take (4 * t + 4)).drop (4 * t)).take 4) = word ((b.take (4 * t + 4)).drop (4 * t)) := by rw [List.take_of_length_le (by omega)]
      simp [Weak, slotOk, fv, lk, AV.low, AV.low1, wfirst]
      exact ⟨rfl, ⟨by rw [hfull], cw_low _ _⟩, cw_low _ _⟩
  · have ht16 : t = 16 := by omega
    subst ht16
    refine loop_of (fun t : Nat => ⟨[(2, .ptr 0 0 0 1), (3, .ptr 32 0 0 1), (7, .d (.int .i64 ((t + 16 : Nat) : Int)))], [(32, ⟨153, 64, [cw (rowW (wmore b t))]⟩), (0, ⟨153, 64, [cw z64]⟩)], 128⟩)
      (fun t => t ≤ 48) (fun t => 48 - t) 0 (by omega) (by
        simp [Weak, slotOk, fv, lk, AV.low, AV.low1, wmore]
        exact ⟨cw_low _ _, cw_low _ _⟩) ?_
    intro t ht
    have e1 := wmore_len b t
    simp only [go_sem, Nat.reduceEqDiff, Nat.reduceAdd, Nat.reduceLT, ↓reduceIte]
    refine ⟨fun h => ?_, fun h => ?_⟩
    · have i1 : IntKind.i64.wrap (((t + 16 : Nat) : Int) - 15) = ((t + 16 - 15 : Nat) : Int) := by rw [IntWalk.i64_in _ (by omega)]; omega
      have i2 : IntKind.i64.wrap (((t + 16 : Nat) : Int) - 2) = ((t + 16 - 2 : Nat) : Int) := by rw [IntWalk.i64_in _ (by omega)]; omega
      have i3 : IntKind.i64.wrap (((t + 16 : Nat) : Int) - 16) = ((t + 16 - 16 : Nat) : Int) := by rw [IntWalk.i64_in _ (by omega)]; omega
      have i4 : IntKind.i64.wrap (((t + 16 : Nat) : Int) - 7) = ((t + 16 - 7 : Nat) : Int) := by rw [IntWalk.i64_in _ (by omega)]; omega
      have gg : ∀ i, i < t + 16 → (rowW (wmore b t))[i]? = some ((wmore b t).getD i 0) := by
        intro i hi
        rw [rowW_get (by omega), List.getD_eq_getElem?_getD, List.getElem?_eq_getElem (by omega)]
        rfl
      have w3 := next_i64 (k := t + 16) (by omega)
      generalize hT : t + 16 = T at *
      apply draw2 (0 :: 1 :: 2 :: 3 :: 4 :: 5 :: 6 :: 7 :: 8 :: 9 :: []) ([]) 0 (k := 10) (by kernel_rfl) (by kernel_rfl) rfl
      case hz => repeat (first | exact Its.nil | apply Its.plain rfl | apply Its.guard rfl rfl)
      case hj => exact Jts.nil
      intro G hG
      have g15 := gg (T - 15) (by omega)
      have g2 := gg (T - 2) (by omega)
      have g16 := gg (T - 16) (by omega)
      have g7 := gg (T - 7) (by omega)
      have hwx : wx (wmore b t) = a32 (a32 (a32 ((wmore b t).getD (T - 16) 0) (x32 (x32 (rol 25 ((wmore b t).getD (T - 15) 0)) (rol 14 ((wmore b t).getD (T - 15) 0))) (r32 3 ((wmore b t).getD (T - 15) 0)))) ((wmore b t).getD (T - 7) 0)) (x32 (x32 (rol 15 ((wmore b t).getD (T - 2) 0)) (rol 13 ((wmore b t).getD (T - 2) 0))) (r32 10 ((wmore b t).getD (T - 2) 0))) := by
        unfold wx
        rw [e1]
      generalize (wmore b t).getD (T - 15) 0 = x at g15 hwx
      generalize (wmore b t).getD (T - 2) 0 = y at g2 hwx
      generalize (wmore b t).getD (T - 16) 0 = u at g16 hwx
      generalize (wmore b t).getD (T - 7) 0 = v at g7 hwx
      simp [go_sem, i1, i2, cw_get, g15, g2]
      refine ⟨by omega, by omega, hG _ _ ?_⟩
      simp only [go_sem, Nat.reduceEqDiff, Nat.reduceAdd, Nat.reduceLT, ↓reduceIte, Nat.reduceMul]
      refine cl_eq (rot_fn x 25 (-7) (by decide) (by omega)) (by simp [AV.deep, AV.deep1]) ?_
      simp only [go_sem, Nat.reduceEqDiff, Nat.reduceAdd, Nat.reduceLT, ↓reduceIte]
      refine cl_eq (rot_fn x 14 (-18) (by decide) (by omega)) (by simp [AV.deep, AV.deep1]) ?_
      simp [go_sem, w_xor, IntKind.bits, d_r3]
      refine cl_eq (rot_fn y 15 (-17) (by decide) (by omega)) (by simp [AV.deep, AV.deep1]) ?_
      simp only [go_sem, Nat.reduceEqDiff, Nat.reduceAdd, Nat.reduceLT, ↓reduceIte]
      refine cl_eq (rot_fn y 13 (-19) (by decide) (by omega)) (by simp [AV.deep, AV.deep1]) ?_
      simp [go_sem, w_xor, IntKind.bits, d_r10]
      apply draw2 (0 :: 1 :: 2 :: 3 :: 4 :: 5 :: 6 :: 7 :: 8 :: 9 :: 10 :: 11 :: 12 :: 13 :: 14 :: []) ((15, ([])) :: []) 0 (k := 16) (by kernel_rfl) (by kernel_rfl) rfl
      case hz => repeat (first | exact Its.nil | apply Its.plain rfl | apply Its.guard rfl rfl)
      case hj => exact Jts.plain rfl Its.nil Jts.nil
      intro G hG
      have hset : (rowW (wmore b t)).set T (wx (wmore b t)) = rowW (wmore b (t + 1)) := by
        have := rowW_set (w := wmore b t) (x := wx (wmore b t)) (by omega)
        rw [e1] at this
        exact this
      rw [hwx] at hset
      have hlen : (rowW (wmore b t)).length = 64 := rowW_len (by omega)
      simp [go_sem, i3, i4, cw_get, g16, g7, w_add, cw_set, hset, hlen]
      refine ⟨by omega, by omega, by omega, by omega, hG _ _ ?_⟩
      simp [go_sem, w3]
      refine next_of (t + 1) (by omega) (by omega) ?_
      subst hT
      simp [Weak, slotOk, fv, lk, AV.low, AV.low1]
      exact ⟨by omega, cw_low _ _, cw_low _ _⟩
    · have ht48 : t = 48 := by omega
      subst ht48
      have hfull : rowW (wmore b 48) = sched b := by
        have h0 : ∀ w : List Nat, w.length = 64 → rowW w = w := fun w hw => by unfold rowW; rw [hw, Nat.sub_self, List.replicate_zero, List.append_nil]
        exact h0 _ e1
      rw [hfull]
      have hsl := sched_len b
      generalize sched b = sb at hsl
      have htk : (cw sb).take 64 = cw sb := List.take_of_length_le (by rw [cw_len]; omega)
      simp [go_sem, resV, hsl, htk]
      exact post_same (by simp [AV.deep]; exact cw_deep _) rfl
end Go.Proofs.Ytiihldilefeldaa
