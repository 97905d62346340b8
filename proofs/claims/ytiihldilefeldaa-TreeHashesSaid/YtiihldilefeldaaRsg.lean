/-
  The other text's tree: roots; the law TreeHashes.
-/
import Derived.Test.YtiihldilefeldaaRsf
namespace Go.Proofs.Ytiihldilefeldaa
open Go.Am Go.Sha
set_option linter.unusedSimpArgs false
set_option linter.unusedVariables false

set_option maxHeartbeats 2000000 in
theorem rootR_fn (inner : List Nat) (ps : List (List Nat)) (x : List Nat) (hi : inner.length = 32) (hp32 : ∀ p, p ∈ ps → p.length = 32 ∧ bytes p) (hps : ps.length ≤ 1000) (hx : x.length ≤ 100000) (hxb : bytes x) :
    Rets Try.prog 16 [.agg (leafC inner (.d (hs32 ps)) (.d (nb x)))] (fun r => r = .agg (cb (rootB ps (leafB x)))) := by
  have hleaf : (AV.agg (leafC inner (.d (hs32 ps)) (.d (nb x)))).deep := leaf_deep trivial trivial
  refine fn_of_awp Try.func16 (by kernel_rfl) rfl Try.ntmps16 (rs := [.cell 2 22]) rfl (Nat.le_of_ble_eq_true rfl) (by intro v hv; simp at hv; subst hv; exact hleaf) ?_
  simp [go_sem, leafC, leaf33 hi]
  refine cl_eq (treeHashR_fn x hx hxb) (by simp [AV.deep, AV.deep1]) ?_
  have hL : (leafB x).length = 32 := leafB_len x
  have hLb : bytes (leafB x) := sumB_bytes _
  have hR : rootB ps (leafB x) = rootB (ps.drop 0) (leafB x) := by rw [List.drop_zero]
  rw [hR]
  generalize leafB x = R at *
  generalize hT : rootB (ps.drop 0) R = T
  clear hR
  simp [go_sem, hL, cb_take hL, z32_drop, hi]
  refine loop_of (fun t : Nat × List Nat => ⟨[(1, .ptr 0 0 0 1), (2, .ptr 32 0 0 1), (3, .ptr 160 0 0 1), (4, .d (.int .i64 (t.1 : Int)))], [(0, ⟨26, 34, [leafC inner (.d (hs32 ps)) (.d (nb x))]⟩), (32, ⟨22, 32, [cb z32]⟩), (160, ⟨22, 32, [cb t.2]⟩)], 256⟩)
    (fun t => t.1 ≤ ps.length ∧ t.2.length = 32 ∧ bytes t.2 ∧ rootB (ps.drop t.1) t.2 = T) (fun t => ps.length - t.1) (0, R) ⟨by omega, hL, hLb, hT⟩ (by
      simp [Weak, slotOk, fv, lk, AV.low, AV.low1, leafC]
      refine ⟨fun v hv => ?_, cb_low _ _, cb_low _ _⟩
      rcases hv with hv | rfl | rfl
      · exact cb_low _ _ v hv
      · trivial
      · trivial) ?_
  clear hT hL hLb
  rintro ⟨k, h⟩ ⟨hk, hh, hhb, hT'⟩
  simp only at hk hh hhb hT'
  simp only [go_sem, Nat.reduceEqDiff, Nat.reduceAdd, Nat.reduceLT, ↓reduceIte]
  simp [go_sem, leafC, leaf32 hi, hs32]
  refine ⟨fun hlt => ?_, fun hge => ?_⟩
  · have hlt' : k < ps.length := by omega
    have hp := List.getElem?_eq_getElem hlt'
    generalize ps[k] = p at hp
    obtain ⟨hpl, hpb⟩ := hp32 p (List.mem_of_getElem? hp)
    rw [rootB_step hp] at hT'
    apply draw2 (0 :: 1 :: 2 :: 3 :: 4 :: 5 :: []) ((6, ([])) :: (7, ([])) :: []) 0 (k := 8) (by kernel_rfl) (by kernel_rfl) rfl
    case hz => repeat (first | exact Its.nil | apply Its.plain rfl | apply Its.guard rfl rfl)
    case hj => repeat (first | exact Jts.nil | exact Its.nil | apply Its.plain rfl | apply Its.guard rfl rfl | apply Jts.plain rfl | apply Jts.guard rfl rfl)
    intro G hG
    simp [go_sem, leafC, leaf32 hi, hs32, hp, cd_len, hpl, cd_map, cb_take hpl, cb_len, hh, cb_take hh, z32_drop]
    refine cl_eq (branchR_fn h p hh hpl hhb hpb) (by simp [AV.deep]; exact ⟨cb_deep _, cb_deep _⟩) ?_
    have hB := branchB_len h p
    have hBb : bytes (branchB h p) := sumB_bytes _
    generalize branchB h p = B at *
    simp [go_sem, cb_len, hB, hh, cb_take hB, cb_drop hh]
    refine hG _ _ ?_
    clear hG G
    have w := next_i64 (k := k) (by omega)
    simp [go_sem, w]
    refine next_of (k + 1, B) ⟨by omega, hB, hBb, hT'⟩ (by simp only; omega) ?_
    simp [Weak, slotOk, fv, lk, AV.low, AV.low1, leafC, hs32]
    refine ⟨fun v hv => ?_, cb_low _ _, cb_low _ _⟩
    rcases hv with hv | rfl | rfl
    · exact cb_low _ _ v hv
    · trivial
    · trivial
  · have hkn : k = ps.length := by omega
    subst hkn
    have : T = h := by rw [← hT', List.drop_length]; rfl
    subst this
    simp [go_sem, resV, hh, cb_take hh, z32_drop]
    exact post_same (by simp [AV.deep]; exact cb_deep _) rfl

set_option maxHeartbeats 4000000 in
theorem hashes_law (inner : List Nat) (ps : List (List Nat)) (x a b : List Nat) (hi : inner.length = 32) (hp32 : ∀ p, p ∈ ps → p.length = 32 ∧ bytes p) (hxb : bytes x) (ha : a.length = 32) (hb : b.length = 32) (hab : bytes a) (hbb : bytes b) :
    Rets Try.prog 3 [.agg (leafC inner (.d (hs32 ps)) (.d (nb x))), .agg (cb a), .agg (cb b)] (fun r => r = .d (.bool true)) := by
  have hleaf : (AV.agg (leafC inner (.d (hs32 ps)) (.d (nb x)))).deep := leaf_deep trivial trivial
  refine fn_of_awp Try.func3 (by kernel_rfl) rfl Try.ntmps3 (rs := [.tmp 6]) rfl (Nat.le_of_ble_eq_true rfl) (by
    intro v hv
    simp only [List.mem_cons, List.mem_nil_iff, or_false] at hv
    rcases hv with rfl | rfl | rfl
    · exact hleaf
    · exact cb_deepA _
    · exact cb_deepA _) ?_
  have hll : ∀ u v, (leafC inner u v).length = 34 := fun u v => by simp [leafC, cb_len, hi]
  have hlt : ∀ u v, List.take 34 (leafC inner u v) = leafC inner u v := fun u v => List.take_of_length_le (by rw [hll]; omega)
  have hl33 : (leafC inner (.d (hs32 ps)) (.d (nb x)))[33]? = some (.d (nb x)) := leaf33 hi _ _
  simp [go_sem, hll, hlt]
  refine cl_eq (small16_fn inner ps x hi) (by intro v hv; simp at hv; subst hv; exact hleaf) ?_
  by_cases hs : ps.length ≤ 12 ∧ x.length ≤ 300
  · obtain ⟨hs1, hs2⟩ := hs
    simp [go_sem, hs1, hs2, hll, hlt]
    apply draw2 ([]) ((0, (1 :: 2 :: 3 :: 5 :: 6 :: [])) :: (4, ([])) :: (7, (8 :: 9 :: 10 :: 11 :: 12 :: 14 :: 15 :: [])) :: (13, ([])) :: (16, (17 :: 18 :: 19 :: 20 :: 22 :: [])) :: (21, ([])) :: (23, (24 :: 25 :: 26 :: [])) :: []) 7 (k := 27) (by kernel_rfl) (by kernel_rfl) rfl
    case hz => repeat (first | exact Its.nil | apply Its.plain rfl | apply Its.guard rfl rfl)
    case hj => repeat (first | exact Jts.nil | exact Its.nil | apply Its.plain rfl | apply Its.guard rfl rfl | apply Jts.plain rfl | apply Jts.guard rfl rfl)
    intro G hG
    simp [go_sem]
    refine cl_eq alive16_fn (by simp) ?_
    simp [go_sem, ha, hb, cb_take ha, cb_take hb, SaW, hl33]
    refine cl_eq (treeHash_fn x (by omega)) (by simp [AV.deep, AV.deep1]) ?_
    have hF : tagB [84, 97, 112, 76, 101, 97, 102] (192 :: (putSize x.length ++ x)) = leafB x := rfl
    rw [hF]
    simp [go_sem, SaW]
    refine cl_eq (treeHashR_fn x (by omega) hxb) (by simp [AV.deep, AV.deep1]) ?_
    have hLl := leafB_len x
    simp [go_sem, ints_cb, hLl, SaW, ha, hb, cb_take ha, cb_take hb]
    refine cl_eq (branch_fn a b ha hb) (by intro v hv; simp at hv; rcases hv with rfl | rfl <;> exact cb_deepA _) ?_
    simp [go_sem, SaW]
    refine cl_eq (branchR_fn a b ha hb hab hbb) (by intro v hv; simp at hv; rcases hv with rfl | rfl <;> exact cb_deepA _) ?_
    have hB := branchB_len a b
    simp [go_sem, ints_cb, hB, SaW, hll, hlt]
    refine cl_eq (root_fn inner ps x hi (fun p hp => (hp32 p hp).1) (by omega) (by omega)) (by intro v hv; simp at hv; subst hv; exact hleaf) ?_
    simp [go_sem, SaW]
    refine cl_eq (rootR_fn inner ps x hi hp32 (by omega) (by omega) hxb) (by intro v hv; simp at hv; subst hv; exact hleaf) ?_
    have hRl : (rootB ps (leafB x)).length = 32 := rootB_len ps (leafB_len x)
    simp [go_sem, ints_cb, hRl, SaW]
    refine hG _ _ ?_
    simp [go_sem, resV]
    exact post_same (by simp [AV.deep, AV.deep1]) rfl
  · simp [go_sem, hs]
    refine cl_eq alive16_fn (by simp) ?_
    simp [go_sem, resV]
    exact post_same (by simp [AV.deep, AV.deep1]) rfl

set_option maxRecDepth 100000 in
theorem hashes_args (l : List AV) (h : ArgTys Try.prog 6 [26, 22, 22] l) : Rets Try.prog 3 l (fun r => r = .d (.bool true)) := by
  obtain ⟨a0, r0, rfl, h0, a1, r1, rfl, h1, a2, r2, rfl, h2, rfl⟩ := h
  obtain ⟨inner, ps, x, rfl, q1, q2, q3, q4, q5⟩ := arg_leaf h0
  obtain ⟨a, rfl, q6, q7⟩ := arg_h32 h1
  obtain ⟨b, rfl, q8, q9⟩ := arg_h32 h2
  exact hashes_law inner ps x a b q1 q3 q5 q6 q8 q7 q9
end Go.Proofs.Ytiihldilefeldaa
