/-
  SHA-256 in the program: a block is taken.
-/
import Derived.Test.YtiihldilefeldaaShx
namespace Go.Proofs.Ytiihldilefeldaa
open Go.Am Go.Sha
set_option linter.unusedSimpArgs false
set_option linter.unusedVariables false

def s8c (s : S8) : List AV := [.d (.int .u32 (s.a : Int)), .d (.int .u32 (s.b : Int)), .d (.int .u32 (s.c : Int)), .d (.int .u32 (s.d : Int)), .d (.int .u32 (s.e : Int)), .d (.int .u32 (s.f : Int)), .d (.int .u32 (s.g : Int)), .d (.int .u32 (s.h : Int))]
theorem s8c_cw (s : S8) : s8c s = cw s.l := rfl
theorem K_len : K.length = 64 := rfl

def mixL (s v : S8) (i : Nat) : List Nat := (List.zipWith a32 s.l v.l).take i ++ s.l.drop i
theorem mixL_len (s v : S8) {i : Nat} (h : i ≤ 8) : (mixL s v i).length = 8 := by simp [mixL, S8.l]; omega
theorem mixL_zero (s v : S8) : mixL s v 0 = s.l := by simp [mixL]
theorem mixL_end (s v : S8) : mixL s v 8 = (s8add s v).l := by simp [mixL, S8.l, s8add]
theorem mixL_step (s v : S8) {i : Nat} (h : i < 8) : ∃ x y, v.l[i]? = some y ∧ (mixL s v i)[i]? = some x ∧ (mixL s v i).set i (a32 x y) = mixL s v (i + 1) := by
  rcases (by omega : i = 0 ∨ i = 1 ∨ i = 2 ∨ i = 3 ∨ i = 4 ∨ i = 5 ∨ i = 6 ∨ i = 7) with rfl | rfl | rfl | rfl | rfl | rfl | rfl | rfl
  · exact ⟨s.a, v.a, by simp [S8.l], by simp [mixL, S8.l], by simp [mixL, S8.l]⟩
  · exact ⟨s.b, v.b, by simp [S8.l], by simp [mixL, S8.l], by simp [mixL, S8.l]⟩
  · exact ⟨s.c, v.c, by simp [S8.l], by simp [mixL, S8.l], by simp [mixL, S8.l]⟩
  · exact ⟨s.d, v.d, by simp [S8.l], by simp [mixL, S8.l], by simp [mixL, S8.l]⟩
  · exact ⟨s.e, v.e, by simp [S8.l], by simp [mixL, S8.l], by simp [mixL, S8.l]⟩
  · exact ⟨s.f, v.f, by simp [S8.l], by simp [mixL, S8.l], by simp [mixL, S8.l]⟩
  · exact ⟨s.g, v.g, by simp [S8.l], by simp [mixL, S8.l], by simp [mixL, S8.l]⟩
  · exact ⟨s.h, v.h, by simp [S8.l], by simp [mixL, S8.l], by simp [mixL, S8.l]⟩
theorem cwa_get {l : List Nat} {tail : List AV} {i x : Nat} (h : l[i]? = some x) : (cw l ++ tail)[i]? = some (.d (.int .u32 (x : Int))) := by
  have hl : i < (cw l).length := by rw [cw_len]; exact (List.getElem?_eq_some_iff.1 h).1
  rw [List.getElem?_append_left hl, cw_get, h]
  rfl
theorem cwa_set {l : List Nat} {tail : List AV} {i x : Nat} (h : i < l.length) : (cw l ++ tail).set i (.d (.int .u32 (x : Int))) = cw (l.set i x) ++ tail := by
  rw [List.set_append_left _ _ (by rw [cw_len]; exact h), cw_set]
theorem max32 : (if IntKind.u32.signed = true then -1 else IntKind.u32.max) = (4294967295 : Int) := by decide

set_option maxHeartbeats 4000000 in
theorem take_fn (ty : TypeId) (e : Nat) (s : S8) (tail : List AV) (b : List Nat) (hb : b.length = 64) (htail : ∀ n, ∀ v, v ∈ tail → v.low1 n) :
    RetsE Try.prog 97 1 [(0, ⟨ty, e, [s8c s ++ tail]⟩)] [.ptr 0 0 0 1, .d (nb b)] (fun r hp' => r = .tup [] ∧ lk 0 hp' = some ⟨ty, e, [s8c (take s b) ++ tail]⟩) := by
  refine fnE_of_awp Try.func97 (by kernel_rfl) rfl Try.ntmps97 (rs := []) rfl (Nat.le_of_ble_eq_true rfl) (by decide) ?_
  simp only [go_sem, Nat.reduceEqDiff, Nat.reduceAdd, Nat.reduceLT, ↓reduceIte, Nat.reduceMul]
  refine cl_eq (spread_fn b hb) (by simp [AV.deep, AV.deep1]) ?_
  simp only [go_sem, Nat.reduceEqDiff, Nat.reduceAdd, Nat.reduceLT, ↓reduceIte, Nat.reduceMul]
  refine cl_eq steps_fn (by simp [AV.deep, AV.deep1]) ?_
  have hsl := sched_len b
  have hzl : (K.zip (sched b)).length = 64 := by rw [List.length_zip, hsl, K_len]; rfl
  unfold Go.Sha.take rounds
  generalize sched b = ws at *
  have hz64 : (cw z64).drop 64 = [] := rfl
  generalize hR : restG rdp 0 (K.zip ws) s = R
  simp [go_sem, K_len, hsl, s8c, hz64]
  refine loop_of (fun t : Nat × S8 => ⟨[(0, .ptr 0 0 0 1), (4, .ptr 98 0 0 1), (5, .ptr 130 0 0 1), (6, .ptr 322 0 0 1), (19, .d (.int .i64 t.1))],
      [(322, ⟨125, 8, [s8c t.2]⟩), (130, ⟨153, 64, [cw K]⟩), (98, ⟨153, 64, [cw ws]⟩), (0, ⟨ty, e, [s8c s ++ tail]⟩)], 418⟩)
    (fun t => t.1 ≤ 64 ∧ restG rdp t.1 (K.zip ws) t.2 = R) (fun t => 64 - t.1) (0, s) ⟨by omega, hR⟩ (by
      simp [Weak, slotOk, fv, lk, AV.low, AV.low1, s8c]
      exact ⟨cw_low _ _, cw_low _ _, fun v hv => htail _ v hv⟩) ?_
  clear hR
  rintro ⟨t, v⟩ ⟨ht, hR⟩
  simp only at ht hR
  simp only [go_sem, Nat.reduceEqDiff, Nat.reduceAdd, Nat.reduceLT, ↓reduceIte]
  refine ⟨fun h => ?_, fun h => ?_⟩
  · obtain ⟨k, hk, _⟩ := drop_of (l := K) (k := t) (by rw [K_len]; omega)
    obtain ⟨w, hw, _⟩ := drop_of (l := ws) (k := t) (by omega)
    have hz : (K.zip ws)[t]? = some (k, w) := by rw [List.getElem?_zip_eq_some]; exact ⟨hk, hw⟩
    rw [restG_step rdp hz] at hR
    simp only [go_sem, Nat.reduceEqDiff, Nat.reduceAdd, Nat.reduceLT, ↓reduceIte, s8c]
    simp [go_sem]
    apply draw2 (0 :: 1 :: 2 :: 4 :: 7 :: 11 :: 12 :: 13 :: 14 :: 15 :: 16 :: 17 :: 18 :: 19 :: 20 :: 22 :: 23 :: 24 :: 26 :: 27 :: 28 :: []) ((3, ([])) :: (5, (6 :: [])) :: (8, (9 :: 10 :: 21 :: 25 :: 29 :: 30 :: [])) :: []) 3 (k := 31) (by kernel_rfl) (by kernel_rfl) rfl
    case hz => repeat (first | exact Its.nil | apply Its.plain rfl | apply Its.guard rfl rfl)
    case hj => repeat (first | exact Jts.nil | exact Its.nil | apply Its.plain rfl | apply Its.guard rfl rfl | apply Jts.plain rfl | apply Jts.guard rfl rfl)
    intro G hG
    simp [go_sem, cw_get, hk, hw, w_xor, w_and, max32, w_not, w_add]
    refine ⟨by omega, ?_⟩
    refine cl_eq (rot_fn v.e 26 (-6) (by decide) (by omega)) (by simp [AV.deep, AV.deep1]) ?_
    simp [go_sem, w_xor, w_and, w_add]
    refine cl_eq (rot_fn v.e 21 (-11) (by decide) (by omega)) (by simp [AV.deep, AV.deep1]) ?_
    simp [go_sem, w_xor, w_and, w_add]
    refine cl_eq (rot_fn v.e 7 (-25) (by decide) (by omega)) (by simp [AV.deep, AV.deep1]) ?_
    simp [go_sem, w_xor, w_and, w_add]
    have hT1 : a32 (a32 (a32 (a32 v.h (x32 (x32 (rol 26 v.e) (rol 21 v.e)) (rol 7 v.e))) (x32 (n32 v.e v.f) (n32 (c32 v.e) v.g))) k) w = T1 v k w := by unfold T1; with_reducible rfl
    rw [hT1]
    refine hG _ _ ?_
    clear hG G
    simp [go_sem]
    apply draw2 (0 :: 2 :: 5 :: 8 :: 9 :: 10 :: 11 :: 12 :: 13 :: 14 :: 15 :: 16 :: 17 :: 18 :: 19 :: 20 :: 21 :: 22 :: []) ((1, ([])) :: (3, (4 :: [])) :: (6, (7 :: 23 :: 24 :: [])) :: []) 3 (k := 25) (by kernel_rfl) (by kernel_rfl) rfl
    case hz => repeat (first | exact Its.nil | apply Its.plain rfl | apply Its.guard rfl rfl)
    case hj => repeat (first | exact Jts.nil | exact Its.nil | apply Its.plain rfl | apply Its.guard rfl rfl | apply Jts.plain rfl | apply Jts.guard rfl rfl)
    intro G hG
    simp [go_sem, w_xor, w_and, w_add]
    refine cl_eq (rot_fn v.a 30 (-2) (by decide) (by omega)) (by simp [AV.deep, AV.deep1]) ?_
    simp [go_sem, w_xor, w_and, w_add]
    refine cl_eq (rot_fn v.a 19 (-13) (by decide) (by omega)) (by simp [AV.deep, AV.deep1]) ?_
    simp [go_sem, w_xor, w_and, w_add]
    refine cl_eq (rot_fn v.a 10 (-22) (by decide) (by omega)) (by simp [AV.deep, AV.deep1]) ?_
    simp [go_sem, w_xor, w_and, w_add]
    have hT2 : a32 (x32 (x32 (rol 30 v.a) (rol 19 v.a)) (rol 10 v.a)) (x32 (x32 (n32 v.a v.b) (n32 v.a v.c)) (n32 v.b v.c)) = T2 v := by unfold T2; with_reducible rfl
    rw [hT2]
    refine hG _ _ ?_
    clear hG G
    have w3 := next_i64 (k := t) (by omega)
    simp [go_sem, w_add, fillA, w3]
    refine next_of (t + 1, rdp v (k, w)) ⟨by simp only; omega, hR⟩ (by simp only; omega) ?_
    simp [Weak, slotOk, fv, lk, AV.low, AV.low1, s8c, rdp, rd]
    exact ⟨cw_low _ _, cw_low _ _, fun v hv => htail _ v hv⟩
  · have ht64 : t = 64 := by omega
    subst ht64
    rw [restG_end rdp (by omega)] at hR
    subst hR
    refine loop_of (fun i : Nat => ⟨[(0, .ptr 0 0 0 1), (6, .ptr 322 0 0 1), (101, .d (.int .i64 i))], [(322, ⟨125, 8, [cw v.l]⟩), (0, ⟨ty, e, [cw (mixL s v i) ++ tail]⟩)], 482⟩)
      (fun i => i ≤ 8) (fun i => 8 - i) 0 (by omega) (by
        simp [Weak, slotOk, fv, lk, AV.low, AV.low1, mixL_zero, s8c_cw]
        refine ⟨cw_low _ _, fun v hv => ?_⟩
        rcases hv with hv | hv
        · exact cw_low _ _ v hv
        · exact htail _ v hv) ?_
    intro i hi
    simp only [go_sem, Nat.reduceEqDiff, Nat.reduceAdd, Nat.reduceLT, ↓reduceIte]
    refine ⟨fun h => ?_, fun h => ?_⟩
    · obtain ⟨x, y, hy, hx, hset⟩ := mixL_step s v (i := i) (by omega)
      have hml := mixL_len s v hi
      apply draw2 (0 :: 1 :: 2 :: 3 :: 4 :: 5 :: 6 :: 7 :: 8 :: 9 :: 10 :: []) ((11, ([])) :: []) 0 (k := 12) (by kernel_rfl) (by kernel_rfl) rfl
      case hz => repeat (first | exact Its.nil | apply Its.plain rfl | apply Its.guard rfl rfl)
      case hj => repeat (first | exact Jts.nil | exact Its.nil | apply Its.plain rfl | apply Its.guard rfl rfl | apply Jts.plain rfl | apply Jts.guard rfl rfl)
      intro G hG
      have hs2 := cwa_set (l := mixL s v i) (tail := tail) (i := i) (x := a32 x y) (by omega)
      rw [hset] at hs2
      simp [go_sem, cwa_get hx, cw_get, hy, w_add, hs2, hml]
      refine ⟨by omega, by omega, hG _ _ ?_⟩
      have w3 := next_i64 (k := i) (by omega)
      simp [go_sem, w3]
      refine next_of (i + 1) (by omega) (by omega) ?_
      simp [Weak, slotOk, fv, lk, AV.low, AV.low1]
      refine ⟨cw_low _ _, fun v hv => ?_⟩
      rcases hv with hv | hv
      · exact cw_low _ _ v hv
      · exact htail _ v hv
    · have hi8 : i = 8 := by omega
      subst hi8
      simp [go_sem, resV, mixL_end, s8c_cw]
      simp [cw, S8.l]
end Go.Proofs.Ytiihldilefeldaa
