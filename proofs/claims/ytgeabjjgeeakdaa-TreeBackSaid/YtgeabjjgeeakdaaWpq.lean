/-
  Turned keys of leaves; outputs, controls.
-/
import Derived.Test.YtgeabjjgeeakdaaWpp
namespace Go.Proofs.Ytgeabjjgeeakdaa
open Go.Am Go.Sha
set_option linter.unusedSimpArgs false
set_option linter.unusedVariables false

def leafV (inner : List Nat) (ps : List (List Nat)) (x : List Nat) : AV := .agg (leafC inner (.d (hs32 ps)) (.d (nb x)))
theorem leafV_deep (inner : List Nat) (ps : List (List Nat)) (x : List Nat) : ∀ v, v ∈ [leafV inner ps x] → v.deep := by
  intro v hv
  simp at hv
  subst hv
  simp [AV.deep, leafC, leafV]
  intro c hc
  rcases hc with hc | rfl | rfl
  · exact cb_deep _ _ hc
  · trivial
  · trivial
theorem flat_be (k : List Nat) (o : Bool) (e : Int) : (AV.tup [.agg (cb k), .d (.bool o), .d (.int .i64 e)]).flat := by
  intro c hc
  simp at hc
  rcases hc with rfl | rfl | rfl
  · refine .inr ⟨_, rfl, fun x hx => ?_⟩
    rw [cb, List.mem_map] at hx
    obtain ⟨y, _, rfl⟩ := hx
    trivial
  · exact .inl trivial
  · exact .inl trivial
theorem cb_takeA {l : List Nat} (h : l.length = 32) (r : List AV) : List.take 32 (cb l ++ r) = cb l := by
  rw [List.take_append_of_le_length (by rw [cb_len, h]; exact Nat.le_refl _), cb_take h]
theorem leaf_take {inner : List Nat} (hi : inner.length = 32) (a b : AV) : List.take 34 (cb inner ++ [a, b]) = cb inner ++ [a, b] := List.take_of_length_le (by simp [cb_len, hi])
theorem rootB_lenA (ps : List (List Nat)) : ∀ h : List Nat, h.length = 32 → (rootB ps h).length = 32 := by
  induction ps with
  | nil => exact fun h hh => hh
  | cons p r ih => exact fun h hh => ih _ (branchB_len h p)
set_option maxRecDepth 20000 in
set_option maxHeartbeats 8000000 in
theorem turned_ex (inner : List Nat) (ps : List (List Nat)) (x : List Nat) (hi : inner.length = 32) (hib : bytes inner) (hp32 : ∀ p, p ∈ ps → p.length = 32) (hps : ps.length ≤ 1000) (hx : x.length ≤ 100000) : ∃ (k : List Nat) (o : Bool) (e : Int), k.length = 32 ∧ bytes k ∧ E1 e ∧ Rets Try.prog 16 [leafV inner ps x] (fun r => r = .tup [.agg (cb k), .d (.bool o), .d (.int .i64 e)]) ∧ (e = 0 → ps.length ≤ 8 ∧ x.length ≤ 1000) := by
  have hR := rootB_lenA ps (leafB x) (leafB_len x)
  have f1 := root_fn inner ps x hi hp32 hps hx
  generalize rootB ps (leafB x) = R at *
  obtain ⟨k, o, e, hk, hkb, he, f2⟩ := turn_ex inner R hi hib (by omega)
  have zb : bytes z32 := fun x hx => by simp [z32] at hx; omega
  have zd : List.drop 32 (cb z32) = [] := cb_drop rfl
  have zt : List.take 32 (cb z32) = cb z32 := cb_take rfl
  by_cases h1 : 8 < ps.length
  · refine ⟨z32, false, 1, rfl, zb, .inr rfl, ?_, fun h => by omega⟩
    refine fn_of_awp Try.func16 (by kernel_rfl) rfl Try.ntmps16 (rs := [.cell 2 22, .tmp 3, .tmp 4]) rfl (Nat.le_of_ble_eq_true rfl) (leafV_deep _ _ _) ?_
    have i1 : (8 : Int) < (ps.length : Int) := by omega
    simp [go_sem, leafV, leafC, leaf33 hi, leaf32 hi, hs32, nb, i1, zd, zt, cb_len, resV]
    exact post_be rfl
  by_cases h2 : 1000 < x.length
  · refine ⟨z32, false, 1, rfl, zb, .inr rfl, ?_, fun h => by omega⟩
    refine fn_of_awp Try.func16 (by kernel_rfl) rfl Try.ntmps16 (rs := [.cell 2 22, .tmp 3, .tmp 4]) rfl (Nat.le_of_ble_eq_true rfl) (leafV_deep _ _ _) ?_
    have i1 : ¬ (8 : Int) < (ps.length : Int) := by omega
    have i2 : (1000 : Int) < (x.length : Int) := by omega
    simp [go_sem, leafV, leafC, leaf33 hi, leaf32 hi, hs32, nb, i1, i2, zd, zt, cb_len, resV]
    exact post_be rfl
  refine ⟨k, o, e, hk, hkb, he, ?_, fun _ => by omega⟩
  refine fn_of_awp Try.func16 (by kernel_rfl) rfl Try.ntmps16 (rs := [.cell 2 22, .tmp 3, .tmp 4]) rfl (Nat.le_of_ble_eq_true rfl) (leafV_deep _ _ _) ?_
  have i1 : ¬ (8 : Int) < (ps.length : Int) := by omega
  have i2 : ¬ (1000 : Int) < (x.length : Int) := by omega
  simp [go_sem, leafV, leafC, leaf33 hi, leaf32 hi, hs32, nb, i1, i2, hi, leaf_take hi]
  refine cl_eq (by simpa only [leafC, hs32, nb] using f1) (by simpa only [leafV, leafC, hs32, nb] using leafV_deep inner ps x) ?_
  simp [go_sem, cb_len, hR, cb_take hR, zd]
  apply draw3 (0 :: 1 :: 2 :: []) (3 :: 7 :: 8 :: 9 :: []) (0 :: 1 :: 2 :: 4 :: 5 :: 6 :: []) (.step 3 (4 :: 5 :: 6 :: []) true (.step 7 ([]) false (.step 8 ([]) false (.step 9 ([]) false .done)))) ⟨[(2, .ptr 32 0 0 1), (3, .d (.bool o)), (4, .d (.int .i64 e))], [(32, ⟨22, 32, [cb k]⟩)], 9000⟩ (k := 10) (by kernel_rfl) (by kernel_rfl) rfl
  case hz => repeat (first | exact Its.nil | apply Its.plain rfl | apply Its.guard rfl rfl)
  case hj => repeat (first | exact Tts.done | exact Its.nil | apply Tts.alt | apply Its.plain rfl | apply Its.guard rfl rfl | apply Tts.plain rfl | apply Tts.guard rfl rfl)
  case h3 =>
    intro G hG
    have hW : ∀ (fr : Fr) (hp : Hp), (fv 2 fr = .ptr 32 0 0 1 ∧ fv 3 fr = .d (.bool o) ∧ fv 4 fr = .d (.int .i64 e) ∧ lk 32 hp = some ⟨22, 32, [cb k]⟩) → G fr hp := by
      rintro fr hp ⟨q0, q1, q2, q3⟩
      refine hG _ _ (weak_wk ?_)
      simp only [Weak, slotOk]
      refine ⟨fun p hp => ?_, fun p hp => ?_, by simp⟩
      · simp only [List.mem_cons, List.mem_nil_iff, or_false] at hp
        rcases hp with rfl | rfl | rfl
        · exact ⟨.inl q0.symm, by simp [AV.low, AV.low1]⟩
        · exact ⟨.inl q1.symm, by simp [AV.low, AV.low1]⟩
        · exact ⟨.inl q2.symm, by simp [AV.low, AV.low1]⟩
      · simp only [List.mem_cons, List.mem_nil_iff, or_false] at hp
        rcases hp with rfl
        · exact ⟨.inl q3, by simp, by intro r hr; simp only [List.mem_cons, List.mem_nil_iff, or_false] at hr; subst hr; exact (by first | exact cI_low _ _ | exact cb_low _ _ | exact cP_low _ _ _ _)⟩
    simp [go_sem, leafC, leaf33 hi, leaf32 hi, cb_len, hi, hR, hk, cb_take hi, cb_take hR, cb_take hk, zd, cb_takeA hi, SaW]
    repeat' first | exact hW _ _ ⟨rfl, rfl, rfl, rfl⟩ | (refine hW _ _ ?_; simp [fv, lk]; done) | refine cl_snap f2 rfl (snap_cons (.deep (cb_deepA _)) (snap_cons (.one (snap1_d (snap_arr rfl trivial hR))) snap_nil)) (flat_be _ _ _) ?_ | apply And.intro | simp [go_sem, leafC, leaf33 hi, leaf32 hi, cb_len, hi, hR, hk, cb_take hi, cb_take hR, cb_take hk, zd, cb_takeA hi, SaW]
  case hq =>
    simp [go_sem, cb_len, hk, cb_take hk, resV]
    exact post_be rfl
end Go.Proofs.Ytgeabjjgeeakdaa
