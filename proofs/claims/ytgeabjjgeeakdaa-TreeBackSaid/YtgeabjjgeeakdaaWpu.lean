/-
  The law TreeBack.
-/
import Derived.Test.YtgeabjjgeeakdaaWpt
namespace Go.Proofs.Ytgeabjjgeeakdaa
open Go.Am Go.Sha
set_option linter.unusedSimpArgs false
set_option linter.unusedVariables false

theorem leaf_hd2 {inner : List Nat} (hi : inner.length = 32) (a b : AV) : (List.drop 33 (leafC inner a b)).head? = some b := by
  have hl : (cb inner).length = 32 := by rw [cb_len, hi]
  have e : leafC inner a b = (cb inner ++ [a]) ++ [b] := by simp [leafC]
  rw [e, List.drop_append_of_le_length (by simp [hl]), List.drop_eq_nil_of_le (by simp [hl])]
  rfl
theorem leaf_cb (inner : List Nat) (ps : List (List Nat)) (x o : List Nat) : ∀ v, v ∈ [leafV inner ps x, AV.agg (cb o)] → v.deep := by
  intro v hv; simp at hv
  rcases hv with rfl | rfl
  · exact leafC_deep _ _ _
  · exact cb_deepA _
theorem two_leaf (inner : List Nat) (ps : List (List Nat)) (x : List Nat) : ∀ v, v ∈ [leafV inner ps x, leafV inner ps x] → v.deep := by
  intro v hv; simp at hv
  subst hv
  exact leafC_deep _ _ _
set_option maxRecDepth 20000 in
set_option maxHeartbeats 16000000 in
theorem back_law (inner : List Nat) (ps : List (List Nat)) (x o : List Nat) (hi : inner.length = 32) (hib : bytes inner) (hp32 : ∀ p, p ∈ ps → p.length = 32) (hxb : bytes x) (ho : o.length = 32) :
    Rets Try.prog 3 [leafV inner ps x, .agg (cb o)] (fun r => r = .d (.bool true)) := by
  refine fn_of_awp Try.func3 (by kernel_rfl) rfl Try.ntmps3 (rs := [.tmp 4]) rfl (Nat.le_of_ble_eq_true rfl) (leaf_cb _ _ _ _) ?_
  have f0 := small16_fn inner ps x hi
  have zd : List.drop 32 (cb z32) = [] := cb_drop rfl
  have zlf : (leafC z32 .nil .nil).length = 34 := rfl
  have lft : List.drop 34 (leafC z32 .nil .nil) = [] := rfl
  have zt : List.take 34 (leafC z32 .nil .nil) = leafC z32 .nil .nil := rfl
  simp [go_sem, leafV, cb_len, ho, cb_take ho, leaf_len hi, leaf_take2 hi]
  refine cl_eq f0 (leafV_deep _ _ _) ?_
  by_cases hs : ps.length ≤ 12 ∧ x.length ≤ 300
  · obtain ⟨hs1, hs2⟩ := hs
    obtain ⟨k, od, e, hk, hkb, he, f1, hle⟩ := turned_ex inner ps x hi hib hp32 (by omega) (by omega)
    rcases he with rfl | rfl
    · obtain ⟨h8, h1000⟩ := hle rfl
      have g1 := output_ok hi hk f1
      have g2 := control_ok hi hp32 (by omega) hk f1
      have g3 := keyOf_fn k hk
      have g4 := read_ok (x := x) od hi hp32 h8 h1000
      have g5 := check_ok hi hp32 h8 h1000 hk hk f1
      have g6 := check_ok hi hp32 h8 h1000 hk ho f1
      have g7 := same_ok hi hp32 (by omega) hxb
      rw [if_pos rfl] at g5
      simp [go_sem, hs1, hs2, leaf_len hi, leaf_take2 hi]
      refine cl_eq g1 (leafV_deep _ _ _) ?_
      simp [go_sem, leaf_len hi, leaf_take2 hi]
      refine cl_eq g2 (leafV_deep _ _ _) ?_
      simp [go_sem]
      refine cl_eq g3 (by simp [AV.deep, AV.deep1]) ?_
      simp [go_sem, cb_len, hk, cb_take hk, zd, leaf_hd2 hi]
      refine cl_eq g4 (by simp [AV.deep, AV.deep1]) ?_
      simp [go_sem, cb_len, hk, cb_take hk, zd, leaf_hd2 hi, leaf_len hi, leaf_take2 hi, zlf, lft]
      refine cl_eq g5 (three_d _ _ _) ?_
      simp [go_sem, cb_len, ho, cb_take ho, zd, leaf_hd2 hi, leaf_len hi, leaf_take2 hi, zlf, lft]
      by_cases q : k = o
      · rw [if_pos q] at g6
        refine cl_eq g6 (three_d _ _ _) ?_
        simp [go_sem, leaf_len hi, leaf_take2 hi, zlf, lft]
        refine cl_eq alive16_fn (by simp) ?_
        simp [go_sem, leaf_len hi, leaf_take2 hi]
        refine cl_eq g7 (two_leaf _ _ _) ?_
        simp [go_sem, leaf_len hi, leaf_take2 hi]
        refine cl_eq g7 (two_leaf _ _ _) ?_
        subst q
        simp [go_sem, cb_len, hk, cb_take hk, ints_cb, resV]
        exact post_same (by simp [AV.deep, AV.deep1]) rfl
      · rw [if_neg q] at g6
        refine cl_eq g6 (three_d _ _ _) ?_
        simp [go_sem, leaf_len hi, leaf_take2 hi, zlf, lft, zt]
        refine cl_eq alive16_fn (by simp) ?_
        simp [go_sem, leaf_len hi, leaf_take2 hi]
        refine cl_eq g7 (two_leaf _ _ _) ?_
        simp [go_sem, leaf_len hi, leaf_take2 hi]
        refine cl_eq g7 (two_leaf _ _ _) ?_
        have q2 : ¬ (List.map (fun (x : Nat) => (x : Int)) o = List.map (fun (x : Nat) => (x : Int)) k) := fun h => q (natmap_inj.1 h).symm
        simp [go_sem, cb_len, hk, ho, cb_take hk, cb_take ho, ints_cb, q2, resV]
        exact post_same (by simp [AV.deep, AV.deep1]) rfl
    · have g1 := output_no hi hk f1
      have g2 := control_no hi hk f1
      simp [go_sem, hs1, hs2, leaf_len hi, leaf_take2 hi]
      refine cl_eq g1 (leafV_deep _ _ _) ?_
      simp [go_sem, leaf_len hi, leaf_take2 hi]
      refine cl_eq g2 (leafV_deep _ _ _) ?_
      simp [go_sem, nb]
      refine cl_eq alive16_fn (by simp) ?_
      simp [go_sem, nb, resV]
      exact post_same (by simp [AV.deep, AV.deep1]) rfl
  · simp [go_sem, hs]
    refine cl_eq alive16_fn (by simp) ?_
    simp [go_sem, resV]
    exact post_same (by simp [AV.deep, AV.deep1]) rfl
set_option maxRecDepth 20000 in
theorem back_args (l : List AV) (h : ArgTys Try.prog 6 [26, 22] l) : Rets Try.prog 3 l (fun r => r = .d (.bool true)) := by
  obtain ⟨a0, r0, rfl, h0, a1, r1, rfl, h1, rfl⟩ := h
  obtain ⟨inner, ps, x, rfl, q1, q2, q3, q4, q5⟩ := arg_leaf h0
  obtain ⟨a, rfl, q6, q7⟩ := arg_h32 h1
  exact back_law inner ps x a q1 q2 (fun p hp => (q3 p hp).1) q5 q6
end Go.Proofs.Ytgeabjjgeeakdaa
