/-
  SHA-256 in the program: a block is taken, from bytes of one's own.
-/
import Derived.Test.YtiihldilefeldaaShy
namespace Go.Proofs.Ytiihldilefeldaa
open Go.Am Go.Sha
set_option linter.unusedSimpArgs false
set_option linter.unusedVariables false

/-- Bytes as rows of the call's own. -/
def rb (L : List Nat) : List (List AV) := L.map fun (x : Nat) => [.d (.int .u8 (x : Int))]
theorem rb_len (L : List Nat) : (rb L).length = L.length := by simp [rb]
theorem rb_low (n : Nat) (L : List Nat) : ∀ r, r ∈ rb L → ∀ v, v ∈ r → v.low1 n := by
  intro r hr v hv
  simp only [rb, List.mem_map] at hr
  obtain ⟨x, _, rfl⟩ := hr
  simp at hv
  subst hv
  trivial
theorem cw_flat (l : List Nat) : ∀ c, c ∈ cw l → c.flat1 := by
  intro c hc
  simp only [cw, List.mem_map] at hc
  obtain ⟨x, _, rfl⟩ := hc
  trivial
theorem rb_rows {hp : Hp} {I : Nat → Prop} : ∀ (L : List Nat), RowsR hp I (rb L) (L.map fun (x : Nat) => [.int .u8 (x : Int)])
  | [] => .nil
  | x :: r => .cons (.cons (.d _) .nil) (rb_rows r)
theorem snap_rb {hp : Hp} {I : Nat → Prop} {id i0 n : Nat} {L : List Nat} (hb : lk id hp = some ⟨5, 1, rb L⟩) (hI : I id) (h : i0 + n ≤ L.length) : SnapD hp I (.own id i0 n L.length) (nb ((L.drop i0).take n)) := by
  refine own_of hb hI (rb_len L) (es := ((L.drop i0).take n).map fun (x : Nat) => [.int .u8 (x : Int)]) ?_ (by simp; omega) (fun r hr => by
    rw [List.mem_map] at hr
    obtain ⟨c, _, rfl⟩ := hr
    rfl)
  have : ((rb L).drop i0).take n = rb ((L.drop i0).take n) := by simp [rb, List.map_drop, List.map_take]
  rw [this]
  exact rb_rows _

set_option maxHeartbeats 4000000 in
theorem take_own_fn (ty : TypeId) (e : Nat) (s : S8) (tail : List AV) (L : List Nat) (i0 : Nat) (hi0 : i0 + 64 ≤ L.length) (htail : ∀ n, ∀ v, v ∈ tail → v.low1 n) :
    RetsE Try.prog 97 2 [(0, ⟨ty, e, [s8c s ++ tail]⟩), (1, ⟨5, 1, rb L⟩)] [.ptr 0 0 0 1, .own 1 i0 64 L.length] (fun r hp' => r = .tup [] ∧ lk 0 hp' = some ⟨ty, e, [s8c (take s ((L.drop i0).take 64)) ++ tail]⟩ ∧ lk 1 hp' = some ⟨5, 1, rb L⟩) := by
  refine fnE_of_awp Try.func97 (by kernel_rfl) rfl Try.ntmps97 (rs := []) rfl (Nat.le_of_ble_eq_true rfl) (by decide) ?_
  simp only [go_sem, Nat.reduceEqDiff, Nat.reduceAdd, Nat.reduceLT, ↓reduceIte, Nat.reduceMul]
  have hb : ((L.drop i0).take 64).length = 64 := by simp; omega
  refine cl_snap (spread_fn ((L.drop i0).take 64) hb) rfl (snap_cons (.one (snap1_d (snap_rb rfl trivial hi0))) snap_nil) (by simp [AV.flat]; exact cw_flat _) ?_
  generalize (L.drop i0).take 64 = b at *
  simp only [go_sem, Nat.reduceEqDiff, Nat.reduceAdd, Nat.reduceLT, ↓reduceIte, Nat.reduceMul]
  refine cl_eq steps_fn (by simp [AV.deep, AV.deep1]) ?_
  have hsl := sched_len b
  have hzl : (K.zip (sched b)).length = 64 := by rw [List.length_zip, hsl, K_len]; rfl
  unfold Go.Sha.take rounds
  generalize sched b = ws at *
  have hz64 : (cw z64).drop 64 = [] := rfl
  generalize hR : restG rdp 0 (K.zip ws) s = R
  simp [go_sem, K_len, hsl, s8c, hz64]
  refine loop_of (fun t : Nat × S8 => ⟨[(0, .ptr 0 0 0 1), (4, .ptr 99 0 0 1), (5, .ptr 131 0 0 1), (6, .ptr 323 0 0 1), (19, .d (.int .i64 t.1))],
      [(323, ⟨125, 8, [s8c t.2]⟩), (131, ⟨153, 64, [cw K]⟩), (99, ⟨153, 64, [cw ws]⟩), (0, ⟨ty, e, [s8c s ++ tail]⟩), (1, ⟨5, 1, rb L⟩)], 419⟩)
    (fun t => t.1 ≤ 64 ∧ restG rdp t.1 (K.zip ws) t.2 = R) (fun t => 64 - t.1) (0, s) ⟨by omega, hR⟩ (by
      simp [Weak, slotOk, fv, lk, AV.low, AV.low1, s8c]
      exact ⟨cw_low _ _, cw_low _ _, fun v hv => htail _ v hv, rb_low _ _⟩) ?_
  clear hR
  rintro ⟨t, v⟩ ⟨ht, hR⟩
  simp only at ht hR
  simp only [go_sem, Nat.reduceEqDiff, Nat.reduceAdd, Nat.reduceLT, ↓reduceIte]
  refine ⟨fun h => ?_, fun h => ?_⟩
  · obtain ⟨k, hk, _⟩ := drop_of (l := K) (k := t) (by rw [K_len]; omega)
    obtain ⟨w, hw, _⟩ := drop_of (l := ws) (k := t) (by omega)
    have hz : (K.zip ws)[t]? = some (k, w) := by rw [List.getElem?_zip_eq_some]; exact ⟨hk, hw⟩
    rw [restG_step rdp hz] at hR
    simp only [go_sem, Nat.reduceEqDiff, Nat.reduceAdd, Nat.reduceLT, ↓reduceIte, s8c]
    simp [go_sem]
    apply draw2 (0 :: 1 :: 2 :: 4 :: 7 :: 11 :: 12 :: 13 :: 14 :: 15 :: 16 :: 17 :: 18 :: 19 :: 20 :: 22 :: 23 :: 24 :: 26 :: 27 :: 28 :: []) ((3, ([])) :: (5, (6 :: [])) :: (8, (9 :: 10 :: 21 :: 25 :: 29 :: 30 :: [])) :: []) 3 (k := 31) (by kernel_rfl) (by kernel_rfl) rfl
    case hz => repeat (first | exact Its.nil | apply Its.plain rfl | apply Its.guard rfl rfl)
    case hj => repeat (first | exact Jts.nil | exact Its.nil | apply Its.plain rfl | apply Its.guard rfl rfl | apply Jts.plain rfl | apply Jts.guard rfl rfl)
    intro G hG
    simp [go_sem, cw_get, hk, hw, w_xor, w_and, max32, w_not, w_add]
    refine ⟨by omega, ?_⟩
    refine cl_eq (rot_fn v.e 26 (-6) (by decide) (by omega)) (by simp [AV.deep, AV.deep1]) ?_
    simp [go_sem, w_xor, w_and, w_add]
    refine cl_eq (rot_fn v.e 21 (-11) (by decide) (by omega)) (by simp [AV.deep, AV.deep1]) ?_
    simp [go_sem, w_xor, w_and, w_add]
    refine cl_eq (rot_fn v.e 7 (-25) (by decide) (by omega)) (by simp [AV.deep, AV.deep1]) ?_
    simp [go_sem, w_xor, w_and, w_add]
    have hT1 : a32 (a32 (a32 (a32 v.h (x32 (x32 (rol 26 v.e) (rol 21 v.e)) (rol 7 v.e))) (x32 (n32 v.e v.f) (n32 (c32 v.e) v.g))) k) w = T1 v k w := by unfold T1; with_reducible rfl
    rw [hT1]
    refine hG _ _ ?_
    clear hG G
    simp [go_sem]
    apply draw2 (0 :: 2 :: 5 :: 8 :: 9 :: 10 :: 11 :: 12 :: 13 :: 14 :: 15 :: 16 :: 17 :: 18 :: 19 :: 20 :: 21 :: 22 :: []) ((1, ([])) :: (3, (4 :: [])) :: (6, (7 :: 23 :: 24 :: [])) :: []) 3 (k := 25) (by kernel_rfl) (by kernel_rfl) rfl
    case hz => repeat (first | exact Its.nil | apply Its.plain rfl | apply Its.guard rfl rfl)
    case hj => repeat (first | exact Jts.nil | exact Its.nil | apply Its.plain rfl | apply Its.guard rfl rfl | apply Jts.plain rfl | apply Jts.guard rfl rfl)
    intro G hG
    simp [go_sem, w_xor, w_and, w_add]
    refine cl_eq (rot_fn v.a 30 (-2) (by decide) (by omega)) (by simp [AV.deep, AV.deep1]) ?_
    simp [go_sem, w_xor, w_and, w_add]
    refine cl_eq (rot_fn v.a 19 (-13) (by decide) (by omega)) (by simp [AV.deep, AV.deep1]) ?_
    simp [go_sem, w_xor, w_and, w_add]
    refine cl_eq (rot_fn v.a 10 (-22) (by decide) (by omega)) (by simp [AV.deep, AV.deep1]) ?_
    simp [go_sem, w_xor, w_and, w_add]
    have hT2 : a32 (x32 (x32 (rol 30 v.a) (rol 19 v.a)) (rol 10 v.a)) (x32 (x32 (n32 v.a v.b) (n32 v.a v.c)) (n32 v.b v.c)) = T2 v := by unfold T2; with_reducible rfl
    rw [hT2]
    refine hG _ _ ?_
    clear hG G
    have w3 := next_i64 (k := t) (by omega)
    simp [go_sem, w_add, fillA, w3]
    refine next_of (t + 1, rdp v (k, w)) ⟨by simp only; omega, hR⟩ (by simp only; omega) ?_
    simp [Weak, slotOk, fv, lk, AV.low, AV.low1, s8c, rdp, rd]
    exact ⟨cw_low _ _, cw_low _ _, fun v hv => htail _ v hv, rb_low _ _⟩
  · have ht64 : t = 64 := by omega
    subst ht64
    rw [restG_end rdp (by omega)] at hR
    subst hR
    refine loop_of (fun i : Nat => ⟨[(0, .ptr 0 0 0 1), (6, .ptr 323 0 0 1), (101, .d (.int .i64 i))], [(323, ⟨125, 8, [cw v.l]⟩), (0, ⟨ty, e, [cw (mixL s v i) ++ tail]⟩), (1, ⟨5, 1, rb L⟩)], 483⟩)
      (fun i => i ≤ 8) (fun i => 8 - i) 0 (by omega) (by
        simp [Weak, slotOk, fv, lk, AV.low, AV.low1, mixL_zero, s8c_cw]
        refine ⟨cw_low _ _, fun v hv => ?_, rb_low _ _⟩
        rcases hv with hv | hv
        · exact cw_low _ _ v hv
        · exact htail _ v hv) ?_
    intro i hi
    simp only [go_sem, Nat.reduceEqDiff, Nat.reduceAdd, Nat.reduceLT, ↓reduceIte]
    refine ⟨fun h => ?_, fun h => ?_⟩
    · obtain ⟨x, y, hy, hx, hset⟩ := mixL_step s v (i := i) (by omega)
      have hml := mixL_len s v hi
      apply draw2 (0 :: 1 :: 2 :: 3 :: 4 :: 5 :: 6 :: 7 :: 8 :: 9 :: 10 :: []) ((11, ([])) :: []) 0 (k := 12) (by kernel_rfl) (by kernel_rfl) rfl
      case hz => repeat (first | exact Its.nil | apply Its.plain rfl | apply Its.guard rfl rfl)
      case hj => repeat (first | exact Jts.nil | exact Its.nil | apply Its.plain rfl | apply Its.guard rfl rfl | apply Jts.plain rfl | apply Jts.guard rfl rfl)
      intro G hG
      have hs2 := cwa_set (l := mixL s v i) (tail := tail) (i := i) (x := a32 x y) (by omega)
      rw [hset] at hs2
      simp [go_sem, cwa_get hx, cw_get, hy, w_add, hs2, hml]
      refine ⟨by omega, by omega, hG _ _ ?_⟩
      have w3 := next_i64 (k := i) (by omega)
      simp [go_sem, w3]
      refine next_of (i + 1) (by omega) (by omega) ?_
      simp [Weak, slotOk, fv, lk, AV.low, AV.low1]
      refine ⟨cw_low _ _, fun v hv => ?_, rb_low _ _⟩
      rcases hv with hv | hv
      · exact cw_low _ _ v hv
      · exact htail _ v hv
    · have hi8 : i = 8 := by omega
      subst hi8
      simp [go_sem, resV, mixL_end, s8c_cw]
      simp [cw, S8.l]
end Go.Proofs.Ytiihldilefeldaa
