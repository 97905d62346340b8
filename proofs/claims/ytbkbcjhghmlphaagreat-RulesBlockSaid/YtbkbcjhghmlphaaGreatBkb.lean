/-
  Roots of hashes by the program; two hashes' hash, rows and roots by the other text.
-/
import Derived.Test.YtbkbcjhghmlphaaGreatBka
namespace Go.Proofs.YtbkbcjhghmlphaaGreat
open Go.Am Go.Sha
set_option linter.unusedSimpArgs false
set_option linter.unusedVariables false

theorem rootL_more {l : List (List Nat)} (d : Bool) (h : 1 < l.length) : rootL l d = rootL (upL l) (d || alL l) := by
  rw [rootL, if_pos h]
theorem rootL_one (a : List Nat) (d : Bool) : rootL [a] d = (a, d) := by
  rw [rootL]; rfl
theorem rootL_nil (d : Bool) : rootL [] d = (z32, false) := by
  rw [rootL]; rfl
theorem post_root {Q : AV → Prop} {st : St} {a : List Nat} {b : Bool} (hq : Q (.tup [.agg (cb a), .d (.bool b)])) : PostK Q (.tup [.agg (cb a), .d (.bool b)]) st :=
  post_same (by
    intro c hc
    simp at hc
    rcases hc with rfl | rfl
    · exact .inr ⟨_, rfl, cb_deep _⟩
    · exact .inl trivial) hq

set_option maxHeartbeats 2000000 in
theorem mroot_fn (ps : List (List Nat)) (hw : Ws ps) (hl : ps.length ≤ 1000) : Rets Tryz.prog 30 [.d (hs32 ps)] (fun r => r = .tup [.agg (cb (rootL ps false).1), .d (.bool (rootL ps false).2)]) := by
  refine fn_of_awp Tryz.func30 (by kernel_rfl) rfl Tryz.ntmps30 (rs := [.cell 2 23, .tmp 3]) rfl (Nat.le_of_ble_eq_true rfl) (by simp [AV.deep, AV.deep1]) ?_
  simp [go_sem, hs32]
  refine loop_of (fun t : List (List Nat) × Bool => ⟨[(0, .d (.ro 32 (t.1.map cd))), (2, .ptr 0 0 0 1), (4, .d (.bool t.2))], [(0, ⟨23, 32, [cb z32]⟩)], 500⟩)
    (fun t => rootL t.1 t.2 = rootL ps false ∧ Ws t.1 ∧ t.1.length ≤ 1000) (fun t => t.1.length) (ps, false) ⟨rfl, hw, hl⟩ (by
      simp [Weak, slotOk, fv, lk, AV.low, AV.low1]
      exact cb_low _ _) ?_
  rintro ⟨l, d⟩ ⟨hr, hwl, hll⟩
  simp only at hr hwl hll
  simp only [go_sem, Nat.reduceEqDiff, Nat.reduceAdd, Nat.reduceLT, ↓reduceIte, Nat.reduceMul]
  by_cases h1 : 1 < l.length
  · refine ⟨fun h => ?_, fun h => absurd (by exact_mod_cast h1) h⟩
    rw [rootL_more d h1] at hr
    have hul : (upL l).length < l.length := by rw [upL_len]; omega
    have huw := upL_ws hwl
    refine cl_eq (lift_fn l hwl hll) (by simp [AV.deep, AV.deep1]) ?_
    generalize hA : alL l = A at *
    cases d
    · simp [go_sem]
      refine next_of (upL l, A) ⟨by simpa using hr, huw, by simp; omega⟩ hul ?_
      simp [Weak, slotOk, fv, lk, AV.low, AV.low1, hs32]
      exact cb_low _ _
    · simp [go_sem]
      refine next_of (upL l, true) ⟨by simpa using hr, huw, by simp; omega⟩ hul ?_
      simp [Weak, slotOk, fv, lk, AV.low, AV.low1, hs32]
      exact cb_low _ _
  match l, hr, hwl, h1 with
  | [], hr, hwl, _ =>
    rw [← hr, rootL_nil]
    simp [go_sem, resV, cb_len, z32_drop, cb_take (l := z32) rfl]
    exact post_root rfl
  | [a], hr, hwl, _ =>
    rw [← hr, rootL_one]
    have hla := (hwl a (by simp)).1
    refine ⟨fun h => absurd h (by simp), fun _ => ⟨fun h => absurd h (by simp), fun _ => ?_⟩⟩
    simp [go_sem, resV, cd_len, cd_map, hla, cb_len, z32_drop, cb_take hla]
    exact post_root rfl
  | a :: b :: r, hr, hwl, h1 => exact absurd (by simp) h1

theorem doubleR_fn (b : List Nat) (hb : b.length ≤ 1000000) (hby : ∀ x, x ∈ b → x < 256) : Rets Tryz.prog 58 [.d (nb b)] (fun r => r = .agg (cb (dblB b))) := by
  refine fn_of_awp Tryz.func58 (by kernel_rfl) rfl Tryz.ntmps58 (rs := [.cell 2 23]) rfl (Nat.le_of_ble_eq_true rfl) (by simp [AV.deep, AV.deep1]) ?_
  simp [go_sem]
  refine cl_eq (sumR_fn b (by omega) hby) (by simp [AV.deep, AV.deep1]) ?_
  have hl := sumB_len b
  have hsb := sumB_bytes b
  unfold dblB
  generalize sumB b = s at *
  have hz : (cb z32).drop 32 = [] := rfl
  simp [go_sem, cb_len, hl, hz]
  refine cl_froz [96] (sumR_fn s (by omega) hsb) rfl (snap_cons (.one (snap1_d (snap_arr rfl (by simp) hl))) snap_nil) ?_
  have hl2 := sumB_len s
  generalize sumB s = s2 at *
  have ht : (cb s2).take 32 = cb s2 := List.take_of_length_le (by rw [cb_len]; omega)
  simp [go_sem, dropH, cb_len, hl2, hz, ht, resV]
  exact post_same (cb_deepA _) rfl

theorem pairR_fn (a b : List Nat) (ha : a.length = 32) (hb : b.length = 32) (hay : bytes a) (hby : bytes b) : Rets Tryz.prog 89 [.agg (cb a), .agg (cb b)] (fun r => r = .agg (cb (pairB a b))) := by
  refine fn_of_awp Tryz.func89 (by kernel_rfl) rfl Tryz.ntmps89 (rs := [.cell 4 23]) rfl (Nat.le_of_ble_eq_true rfl) (two_cb _ _) ?_
  have za : List.drop 32 (cb a) = [] := cb_drop ha
  have zb : List.drop 32 (cb b) = [] := cb_drop hb
  have hra := cb_rows ha
  have hrb := cb_rows hb
  simp [go_sem] at hra hrb
  have h64 : (a ++ b).length = 64 := by simp [ha, hb]
  have hab : ∀ x, x ∈ a ++ b → x < 256 := by
    intro x hx
    rcases List.mem_append.1 hx with hx | hx
    · exact hay x hx
    · exact hby x hx
  simp [go_sem, cb_len, ha, hb, cb_take ha, cb_take hb, za, zb, hra, hrb, rb_len, rb_app]
  refine cl_froz [96] (doubleR_fn (a ++ b) (by omega) hab) rfl (snap_cons (.one (snap1_d (snap_full h64 rfl (by simp)))) snap_nil) ?_
  have hl := dblB_len (a ++ b)
  unfold pairB
  generalize dblB (a ++ b) = s at *
  simp [go_sem, dropH, cb_len, hl, cb_take hl, z32_drop, resV]
  exact post_same (cb_deepA _) rfl

set_option maxHeartbeats 2000000 in
theorem partner_fn (ps : List (List Nat)) (k : Nat) (q : List Nat) (he : k % 2 = 0) (hk : k < ps.length) (hl : ps.length ≤ 1000) (hq : (if k + 1 < ps.length then ps[k + 1]? else ps[k]?) = some q) (hql : q.length = 32) :
    Rets Tryz.prog 90 [.d (hs32 ps), .d (.int .i64 (k : Int))] (fun r => r = .agg (cb q)) := by
  refine fn_of_awp Tryz.func90 (by kernel_rfl) rfl Tryz.ntmps90 (rs := [.cell 4 23]) rfl (Nat.le_of_ble_eq_true rfl) (by intro v hv; simp at hv; rcases hv with rfl | rfl <;> trivial) ?_
  have w1 := next_i64 (k := k) (by omega)
  have t1 : (k : Int).tmod 2 = 0 := by rw [Int.tmod_eq_emod_of_nonneg (by omega)]; omega
  have w2 : IntKind.i64.wrap 0 = 0 := IntWalk.i64_in _ (by omega)
  have qd : List.drop 32 (cb q) = [] := cb_drop hql
  by_cases h1 : k + 1 < ps.length
  · rw [if_pos h1] at hq
    simp [go_sem, hs32, w1, t1, w2, hq, hql, cd_len, cd_map, cb_len, cb_take hql, z32_drop, resV]
    exact ⟨fun h => absurd h (by omega), fun _ => ⟨by omega, post_same (cb_deepA _) rfl⟩⟩
  · rw [if_neg h1] at hq
    simp [go_sem, hs32, w1, t1, w2, hq, hql, cd_len, cd_map, cb_len, cb_take hql, z32_drop, resV]
    exact ⟨fun _ => post_same (cb_deepA _) rfl, fun h => absurd h (by omega)⟩

theorem upL_get : ∀ (ps : List (List Nat)) (j : Nat), 2 * j < ps.length → ∃ a q, ps[2 * j]? = some a ∧ (if 2 * j + 1 < ps.length then ps[2 * j + 1]? else ps[2 * j]?) = some q ∧ (upL ps)[j]? = some (pairB a q)
  | [], j, h => absurd h (by simp)
  | [a], 0, _ => ⟨a, a, rfl, rfl, by simp [upL]⟩
  | [a], j + 1, h => absurd h (by simp)
  | a :: b :: r, 0, _ => ⟨a, b, rfl, by simp, by simp [upL]⟩
  | a :: b :: r, j + 1, h => by
    obtain ⟨x, q, h1, h2, h3⟩ := upL_get r j (by simp at h; omega)
    refine ⟨x, q, ?_, ?_, ?_⟩
    · rw [show 2 * (j + 1) = 2 * j + 1 + 1 by omega, List.getElem?_cons_succ, List.getElem?_cons_succ, h1]
    · rw [show 2 * (j + 1) = 2 * j + 1 + 1 by omega, List.getElem?_cons_succ, List.getElem?_cons_succ, List.getElem?_cons_succ, List.getElem?_cons_succ, ← h2]
      simp
    · rw [upL, List.getElem?_cons_succ, h3]
theorem snap_hs1 {id n : Nat} {ps : List (List Nat)} {Q : AV → Prop} {st : St} (hn : ps.length = n) (hw : Ws ps) (hb : lk id st.hp = some ⟨23, 32, ps.map cb⟩) (hq : Q (.d (hs32 ps))) : PostK Q (.own id 0 n n) st :=
  post_one (snap1_d (snap_hs hn hw hb trivial)) trivial hq
def tw (j : Nat) : Nat := 2 * j
set_option maxHeartbeats 2000000 in
theorem lifted_fn (ps : List (List Nat)) (hw : Ws ps) (hl : ps.length ≤ 1000) : Rets Tryz.prog 60 [.d (hs32 ps)] (fun r => r = .d (hs32 (upL ps))) := by
  refine fn_of_awp Tryz.func60 (by kernel_rfl) rfl Tryz.ntmps60 (rs := [.tmp 2]) rfl (Nat.le_of_ble_eq_true rfl) (by simp [AV.deep, AV.deep1]) ?_
  have hul := upL_len ps
  have huw := upL_ws hw
  simp [go_sem, hs32]
  refine loop_of (fun j : Nat => ⟨[(0, .d (.ro 32 (ps.map cd))), (3, .own 32 0 j j), (4, .d (.int .i64 (tw j : Int)))], [(32, ⟨23, 32, ((upL ps).take j).map cb⟩)], 500⟩)
    (fun j => 2 * j ≤ ps.length + 1) (fun j => ps.length + 1 - 2 * j) 0 (by omega) (by
      simp [Weak, slotOk, fv, lk, AV.low, AV.low1, tw]) ?_
  intro j hj
  have htw : tw j = 2 * j := rfl
  simp only [go_sem, Nat.reduceEqDiff, Nat.reduceAdd, Nat.reduceLT, ↓reduceIte, Nat.reduceMul]
  by_cases h1 : tw j < ps.length
  · refine ⟨fun h => ?_, fun h => absurd (by exact_mod_cast h1) h⟩
    obtain ⟨a, q, h2, h3, h4⟩ := upL_get ps j (by omega)
    rw [← htw] at h2 h3
    have w1 : IntKind.i64.wrap ((tw j : Int) + 2) = (tw (j + 1) : Int) := by unfold tw; rw [IntWalk.i64_in _ (by omega)]; omega
    have ham := List.mem_of_getElem? h2
    obtain ⟨hal, hab⟩ := hw a ham
    have hqm : q ∈ ps := by
      split at h3
      · exact List.mem_of_getElem? h3
      · exact List.mem_of_getElem? h3
    obtain ⟨hql, hqb⟩ := hw q hqm
    have hpl : (pairB a q).length = 32 := dblB_len _
    have htk : (upL ps).take j ++ [pairB a q] = (upL ps).take (j + 1) := by rw [List.take_add_one, h4]; rfl
    have htl : ((upL ps).take j).length = j := by rw [List.length_take]; omega
    have hrow : List.map cb ((upL ps).take j) ++ [cb (pairB a q)] = List.map cb ((upL ps).take (j + 1)) := by rw [← htk]; simp
    generalize (upL ps).take j = L at *
    apply draw2 (0 :: 1 :: 2 :: 3 :: 4 :: 5 :: 6 :: []) ((7, ([])) :: (8, ([])) :: (9, ([])) :: (10, ([])) :: (11, ([])) :: []) 3 (k := 12) (by kernel_rfl) (by kernel_rfl) rfl
    case hz => repeat (first | exact Its.nil | apply Its.plain rfl | apply Its.guard rfl rfl)
    case hj => repeat (first | exact Jts.nil | exact Its.nil | apply Its.plain rfl | apply Its.guard rfl rfl | apply Jts.plain rfl | apply Jts.guard rfl rfl)
    intro G hG
    simp [go_sem, cd_len, cd_map, cb_take, hal, h2]
    refine cl_eq (partner_fn ps (tw j) q (by omega) h1 hl h3 hql) (by intro v hv; simp at hv; rcases hv with rfl | rfl <;> trivial) ?_
    simp [go_sem]
    refine cl_eq (pairR_fn a q hal hql hab hqb) (two_cb _ _) ?_
    simp [go_sem, hpl, cb_len, htl, hrow, List.take_of_length_le]
    refine ⟨by omega, hG _ _ ?_⟩
    clear hG G
    simp [go_sem, w1]
    refine next_of (j + 1) (by omega) (by omega) ?_
    simp [Weak, slotOk, fv, lk, AV.low, AV.low1]
    intro r hr
    rw [← List.map_take, List.mem_map] at hr
    obtain ⟨p, _, rfl⟩ := hr
    exact cb_low _ _
  · refine ⟨fun h => absurd (by exact_mod_cast h) h1, fun h => ?_⟩
    simp [go_sem, resV]
    have hj2 : j = (upL ps).length := by omega
    rw [hj2]
    exact snap_hs1 rfl huw (by simp [lk]; exact List.take_of_length_le (by simp)) rfl

theorem alL_more {l : List (List Nat)} {j : Nat} {a b : List Nat} (ha : l[j]? = some a) (hb : l[j + 1]? = some b) : alL (l.drop j) = (decide (a = b) || alL (l.drop (j + 2))) := by
  obtain ⟨h1, e1⟩ := List.getElem?_eq_some_iff.1 ha
  obtain ⟨h2, e2⟩ := List.getElem?_eq_some_iff.1 hb
  rw [List.drop_eq_getElem_cons h1, List.drop_eq_getElem_cons h2, e1, e2]
  rfl
theorem alL_done {l : List (List Nat)} {j : Nat} (h : l.length ≤ j + 1) : alL (l.drop j) = false := by
  have : (l.drop j).length ≤ 1 := by rw [List.length_drop]; omega
  match l.drop j, this with
  | [], _ => rfl
  | [_], _ => rfl
set_option maxHeartbeats 2000000 in
theorem mrootR_fn (ps : List (List Nat)) (hw : Ws ps) (hl : ps.length ≤ 1000) : Rets Tryz.prog 37 [.d (hs32 ps)] (fun r => r = .tup [.agg (cb (rootL ps false).1), .d (.bool (rootL ps false).2)]) := by
  refine fn_of_awp Tryz.func37 (by kernel_rfl) rfl Tryz.ntmps37 (rs := [.cell 2 23, .tmp 3]) rfl (Nat.le_of_ble_eq_true rfl) (by simp [AV.deep, AV.deep1]) ?_
  simp [go_sem, hs32]
  refine loop_of (fun t : List (List Nat) × Bool => ⟨[(0, .d (.ro 32 (t.1.map cd))), (2, .ptr 0 0 0 1), (4, .d (.bool t.2))], [(0, ⟨23, 32, [cb z32]⟩)], 500⟩)
    (fun t => rootL t.1 t.2 = rootL ps false ∧ Ws t.1 ∧ t.1.length ≤ 1000) (fun t => t.1.length) (ps, false) ⟨rfl, hw, hl⟩ (by
      simp [Weak, slotOk, fv, lk, AV.low, AV.low1]
      exact cb_low _ _) ?_
  rintro ⟨l, d⟩ ⟨hr, hwl, hll⟩
  simp only at hr hwl hll
  simp only [go_sem, Nat.reduceEqDiff, Nat.reduceAdd, Nat.reduceLT, ↓reduceIte, Nat.reduceMul]
  by_cases h1 : 1 < l.length
  · refine ⟨fun h => ?_, fun h => absurd (by exact_mod_cast h1) h⟩
    rw [rootL_more d h1] at hr
    have hul : (upL l).length < l.length := by rw [upL_len]; omega
    have huw := upL_ws hwl
    refine loop_of (fun t : Nat × Bool => ⟨[(0, .d (.ro 32 (l.map cd))), (2, .ptr 0 0 0 1), (4, .d (.bool t.2)), (5, .d (.int .i64 (tw t.1 : Int)))], [(0, ⟨23, 32, [cb z32]⟩)], 1000⟩)
      (fun t => (t.2 || alL (l.drop (tw t.1))) = (d || alL l) ∧ tw t.1 ≤ l.length + 1) (fun t => l.length + 1 - tw t.1) (0, d) ⟨rfl, by simp [tw]⟩ (by
        simp [Weak, slotOk, fv, lk, AV.low, AV.low1, tw]
        exact cb_low _ _) ?_
    rintro ⟨j, c⟩ ⟨hc, hj⟩
    simp only at hc hj
    have htw : tw j = 2 * j := rfl
    have htw1 : tw (j + 1) = tw j + 2 := by unfold tw; omega
    have w1 := next_i64 (k := tw j) (by omega)
    have w2 : IntKind.i64.wrap ((tw j : Int) + 2) = (tw (j + 1) : Int) := by unfold tw; rw [IntWalk.i64_in _ (by omega)]; omega
    simp only [go_sem, Nat.reduceEqDiff, Nat.reduceAdd, Nat.reduceLT, ↓reduceIte, Nat.reduceMul, w1]
    by_cases h2 : tw j + 1 < l.length
    · refine ⟨fun h => ?_, fun h => absurd (by exact_mod_cast h2) h⟩
      obtain ⟨a, ha⟩ : ∃ a, l[tw j]? = some a := ⟨l[tw j], List.getElem?_eq_getElem (by omega)⟩
      obtain ⟨b, hb⟩ : ∃ b, l[tw j + 1]? = some b := ⟨l[tw j + 1], List.getElem?_eq_getElem h2⟩
      have hal := (hwl a (List.mem_of_getElem? ha)).1
      have hbl := (hwl b (List.mem_of_getElem? hb)).1
      rw [alL_more ha hb] at hc
      have i2 : (tw j : Int) + 1 < (l.length : Int) := by omega
      have i3 : (0 : Int) ≤ (tw j : Int) + 1 := by omega
      cases c
      · skip
        apply draw2 (0 :: 1 :: 2 :: 3 :: 4 :: 5 :: 6 :: 7 :: 8 :: 9 :: 10 :: 11 :: 12 :: []) ((13, ([])) :: []) 0 (k := 14) (by kernel_rfl) (by kernel_rfl) rfl
        case hz => repeat (first | exact Its.nil | apply Its.plain rfl | apply Its.guard rfl rfl)
        case hj => repeat (first | exact Jts.nil | exact Its.nil | apply Its.plain rfl | apply Its.guard rfl rfl | apply Jts.plain rfl | apply Jts.guard rfl rfl)
        intro G hG
        simp [go_sem, cd_len, cd_map, cb_take, hal, hbl, ints_cb, natmap_inj, ha, hb, w1, i2, i3]
        refine hG _ _ ?_
        clear hG G
        simp [go_sem, w2]
        refine next_of (j + 1, decide (a = b)) ⟨by rw [← hc, htw1]; simp, by rw [htw1]; omega⟩ (by show l.length + 1 - tw (j + 1) < l.length + 1 - tw j; omega) ?_
        simp [Weak, slotOk, fv, lk, AV.low, AV.low1]
        exact cb_low _ _
      · skip
        apply draw2 (0 :: 1 :: 2 :: 3 :: 4 :: 5 :: 6 :: 7 :: 8 :: 9 :: 10 :: 11 :: 12 :: []) ((13, ([])) :: []) 0 (k := 14) (by kernel_rfl) (by kernel_rfl) rfl
        case hz => repeat (first | exact Its.nil | apply Its.plain rfl | apply Its.guard rfl rfl)
        case hj => repeat (first | exact Jts.nil | exact Its.nil | apply Its.plain rfl | apply Its.guard rfl rfl | apply Jts.plain rfl | apply Jts.guard rfl rfl)
        intro G hG
        simp [go_sem, cd_len, cd_map, cb_take, hal, hbl, ints_cb, natmap_inj, ha, hb, w1, i2, i3]
        refine hG _ _ ?_
        clear hG G
        simp [go_sem, w2]
        refine next_of (j + 1, true) ⟨by rw [← hc]; simp, by rw [htw1]; omega⟩ (by show l.length + 1 - tw (j + 1) < l.length + 1 - tw j; omega) ?_
        simp [Weak, slotOk, fv, lk, AV.low, AV.low1]
        exact cb_low _ _
    · refine ⟨fun h => absurd (by exact_mod_cast h) h2, fun h => ?_⟩
      rw [alL_done (by omega), Bool.or_false] at hc
      simp [go_sem]
      refine cl_eq (lifted_fn l hwl hll) (by simp [AV.deep, AV.deep1]) ?_
      simp [go_sem]
      refine next_of (upL l, c) ⟨by rw [hc]; exact hr, huw, by simp; omega⟩ hul ?_
      simp [Weak, slotOk, fv, lk, AV.low, AV.low1, hs32]
      exact cb_low _ _
  match l, hr, hwl, h1 with
  | [], hr, hwl, _ =>
    rw [← hr, rootL_nil]
    simp [go_sem, resV, cb_len, z32_drop, cb_take (l := z32) rfl]
    exact post_root rfl
  | [a], hr, hwl, _ =>
    rw [← hr, rootL_one]
    have hla := (hwl a (by simp)).1
    refine ⟨fun h => absurd h (by simp), fun _ => ⟨fun h => absurd h (by simp), fun _ => ?_⟩⟩
    simp [go_sem, resV, cd_len, cd_map, hla, cb_len, z32_drop, cb_take hla]
    exact post_root rfl
  | a :: b :: r, hr, hwl, h1 => exact absurd (by simp) h1
end Go.Proofs.YtbkbcjhghmlphaaGreat
