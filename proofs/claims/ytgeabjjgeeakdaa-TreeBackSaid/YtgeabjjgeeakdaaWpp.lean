/-
  Keys that commit to a hash.
-/
import Derived.Test.YtgeabjjgeeakdaaWpo
import Derived.Test.YtgeabjjgeeakdaaWpm
namespace Go.Proofs.Ytgeabjjgeeakdaa
open Go.Am Go.Sha
set_option linter.unusedSimpArgs false
set_option linter.unusedVariables false

def turnTag : List Nat := [84, 97, 112, 84, 119, 101, 97, 107]
theorem tagB_b (t b : List Nat) : (tagB t b).length = 32 ∧ bytes (tagB t b) := ⟨sumB_len _, sumB_bytes _⟩
theorem b_nb (b : List Nat) (d : DV) : ∀ v, v ∈ [AV.agg (cb b), AV.d d] → v.deep := by
  intro v hv; simp at hv; rcases hv with rfl | rfl; exact cb_deepA _; trivial
set_option maxHeartbeats 8000000 in
theorem turning_ex (inner root : List Nat) (hi : inner.length = 32) (hr : root.length ≤ 1000) : ∃ (t : List Int) (ok : Bool), Wn 4 t ∧ Rets Try.prog 33 [.agg (cb inner), .d (nb root)] (fun r => r = .tup [.agg (cI t), .d (.bool ok)]) := by
  obtain ⟨t, ok, ht, f1⟩ := sread_ex (tagB turnTag (inner ++ root)) (tagB_b _ _).1 (tagB_b _ _).2
  refine ⟨t, ok, ht, ?_⟩
  refine fn_of_awp Try.func33 (by kernel_rfl) rfl Try.ntmps33 (rs := [.cell 4 69, .tmp 5]) rfl (Nat.le_of_ble_eq_true rfl) (b_nb _ _) ?_
  have htl := ht.1
  have hz : List.drop 4 (cI zI) = [] := cI_drop rfl
  simp [go_sem, cb_len, hi, cb_take hi]
  refine cl_froz [0, 160] (joined_fn inner root hi (by omega)) rfl (snap_cons (.one (snap1_d (own_of (rows := [[.sub 0 0 0 1 32 32 1], [.d (nb root)]]) rfl (by simp) rfl (RowsR.cons (.cons (snap_arr rfl (by simp) hi) .nil) (RowsR.cons (.cons (.d _) .nil) .nil)) rfl (by intro r hr; simp at hr; rcases hr with rfl | rfl <;> rfl)))) snap_nil) ?_
  simp [go_sem, dropH]
  refine cl_eq (tagged_fn turnTag (.str [84, 97, 112, 84, 119, 101, 97, 107]) rfl (inner ++ root) (by simp [turnTag]) (by rw [List.length_append]; omega)) (by simp [AV.deep, AV.deep1]) ?_
  simp [go_sem]
  refine cl_eq f1 (one_cb1 _) ?_
  simp [go_sem, htl, cI_take htl, hz, resV]
  exact post_wb rfl
def E1 (e : Int) : Prop := e = 0 ∨ e = 1
theorem post_be {Q : AV → Prop} {st : St} {b : List Nat} {o : Bool} {e : Int} (hq : Q (.tup [.agg (cb b), .d (.bool o), .d (.int .i64 e)])) : PostK Q (.tup [.agg (cb b), .d (.bool o), .d (.int .i64 e)]) st :=
  post_same (by
    intro c hc
    simp at hc
    rcases hc with rfl | rfl | rfl
    · exact .inr ⟨_, rfl, cb_deep _⟩
    · exact .inl trivial
    · exact .inl trivial) hq
set_option maxRecDepth 20000 in
set_option maxHeartbeats 8000000 in
theorem turn_ex (inner root : List Nat) (hi : inner.length = 32) (hib : bytes inner) (hr : root.length ≤ 1000) : ∃ (k : List Nat) (o : Bool) (e : Int), k.length = 32 ∧ bytes k ∧ E1 e ∧ Rets Try.prog 24 [.agg (cb inner), .d (nb root)] (fun r => r = .tup [.agg (cb k), .d (.bool o), .d (.int .i64 e)]) := by
  obtain ⟨x, y, c, ok, hx, hy, f1⟩ := liftP_ex inner hi hib
  obtain ⟨t, ok2, ht, f2⟩ := turning_ex inner root hi hr
  obtain ⟨qx, qy, qc, hqx, hqy, f4⟩ := both_ex [1, 0, 0, 0] t x y gX gY c false (fromI_W ⟨by omega, by omega⟩) ht hx hy gX_W gY_W
  obtain ⟨kb, kl, kbb, f5⟩ := pbytes_ex qx qy qc hqx hqy
  obtain ⟨od, f6⟩ := even_ex qx qy qc hqx hqy
  have zb : bytes z32 := fun x hx => by simp [z32] at hx; omega
  have pl := cP_len hx.1 hy.1 c
  have pt := cP_take hx.1 hy.1 c
  have pd : (cP zI zI false).drop 9 = [] := cP_drop rfl rfl _
  have pl0 : (cP zI zI false).length = 9 := rfl
  have ql := cP_len hqx.1 hqy.1 qc
  have qt := cP_take hqx.1 hqy.1 qc
  have qb := cP_b hqx.1 hqy.1 qc
  have qg := cP_g hqx.1 hqy.1 qc
  have htl := ht.1
  have hz : List.drop 4 (cI zI) = [] := cI_drop rfl
  have zd : List.drop 32 (cb z32) = [] := cb_drop rfl
  have zt : List.take 32 (cb z32) = cb z32 := cb_take rfl
  cases ok
  · refine ⟨z32, false, 1, rfl, zb, .inr rfl, ?_⟩
    refine fn_of_awp Try.func24 (by kernel_rfl) rfl Try.ntmps24 (rs := [.cell 4 22, .tmp 5, .tmp 6]) rfl (Nat.le_of_ble_eq_true rfl) (b_nb _ _) ?_
    simp [go_sem, cb_len, hi, cb_take hi]
    refine cl_eq f1 (one_cb1 _) ?_
    simp [go_sem, pl, pt, pd, pl0, zd, zt, cb_len, resV]
    exact post_be rfl
  · cases ok2
    · refine ⟨z32, false, 1, rfl, zb, .inr rfl, ?_⟩
      refine fn_of_awp Try.func24 (by kernel_rfl) rfl Try.ntmps24 (rs := [.cell 4 22, .tmp 5, .tmp 6]) rfl (Nat.le_of_ble_eq_true rfl) (b_nb _ _) ?_
      simp [go_sem, cb_len, hi, cb_take hi]
      refine cl_eq f1 (one_cb1 _) ?_
      simp [go_sem, cb_len, hi, cb_take hi, pl, pt, pd, pl0]
      refine cl_eq f2 (b_nb _ _) ?_
      simp [go_sem, htl, cI_take htl, hz, zd, zt, cb_len, resV]
      exact post_be rfl
    · cases qc
      · refine ⟨kb, !od, 0, kl, kbb, .inl rfl, ?_⟩
        refine fn_of_awp Try.func24 (by kernel_rfl) rfl Try.ntmps24 (rs := [.cell 4 22, .tmp 5, .tmp 6]) rfl (Nat.le_of_ble_eq_true rfl) (b_nb _ _) ?_
        simp [go_sem, cb_len, hi, cb_take hi]
        refine cl_eq f1 (one_cb1 _) ?_
        simp [go_sem, cb_len, hi, cb_take hi, pl, pt, pd, pl0]
        refine cl_eq f2 (b_nb _ _) ?_
        simp [go_sem, htl, cI_take htl, hz]
        apply draw3 (1 :: 2 :: []) (0 :: 3 :: 4 :: 5 :: 6 :: []) (1 :: 2 :: []) (.alt (.step 0 ([]) true (.alt (.step 3 ([]) true (.alt (.step 4 ([]) false (.step 5 ([]) false (.step 6 ([]) false .done))) (.step 5 ([]) true (.step 4 ([]) false (.step 6 ([]) false .done))))) (.step 5 ([]) true (.step 3 ([]) true (.step 4 ([]) false (.step 6 ([]) false .done)))))) (.step 5 ([]) true (.step 0 ([]) true (.step 3 ([]) true (.step 4 ([]) false (.step 6 ([]) false .done)))))) ⟨[(4, .ptr 32 0 0 1), (10, .ptr 960 0 0 1)], [(960, ⟨71, 9, [cP qx qy false]⟩), (32, ⟨22, 32, [cb z32]⟩)], 5000⟩ (k := 7) (by kernel_rfl) (by kernel_rfl) rfl
        case hz => repeat (first | exact Its.nil | apply Its.plain rfl | apply Its.guard rfl rfl)
        case hj => repeat (first | exact Tts.done | exact Its.nil | apply Tts.alt | apply Its.plain rfl | apply Its.guard rfl rfl | apply Tts.plain rfl | apply Tts.guard rfl rfl)
        case h3 =>
          intro G hG
          have hW : ∀ (fr : Fr) (hp : Hp), (fv 4 fr = .ptr 32 0 0 1 ∧ fv 10 fr = .ptr 960 0 0 1 ∧ lk 960 hp = some ⟨71, 9, [cP qx qy false]⟩ ∧ lk 32 hp = some ⟨22, 32, [cb z32]⟩) → G fr hp := by
            rintro fr hp ⟨q0, q1, q2, q3⟩
            refine hG _ _ (weak_wk ?_)
            simp only [Weak, slotOk]
            refine ⟨fun p hp => ?_, fun p hp => ?_, by simp⟩
            · simp only [List.mem_cons, List.mem_nil_iff, or_false] at hp
              rcases hp with rfl | rfl
              · exact ⟨.inl q0.symm, by simp [AV.low, AV.low1]⟩
              · exact ⟨.inl q1.symm, by simp [AV.low, AV.low1]⟩
            · simp only [List.mem_cons, List.mem_nil_iff, or_false] at hp
              rcases hp with rfl | rfl
              · exact ⟨.inl q2, by simp, by intro r hr; simp only [List.mem_cons, List.mem_nil_iff, or_false] at hr; subst hr; exact (by first | exact cI_low _ _ | exact cb_low _ _ | exact cP_low _ _ _ _)⟩
              · exact ⟨.inl q3, by simp, by intro r hr; simp only [List.mem_cons, List.mem_nil_iff, or_false] at hr; subst hr; exact (by first | exact cI_low _ _ | exact cb_low _ _ | exact cP_low _ _ _ _)⟩
          simp [go_sem, htl, cI_take htl, pl, pt, ql, qt, pd, pl0, hz, SaW]
          repeat' first | exact hW _ _ ⟨rfl, rfl, rfl, rfl⟩ | (refine hW _ _ ?_; simp [fv, lk]; done) | refine cl_eq (fromI_fn 1) (by simp [AV.deep, AV.deep1]) ?_ | refine cl_eq base_fn (by simp) ?_ | refine cl_eq f4 (four_d _ _ _ _ _ _ _ _) ?_ | apply And.intro | simp [go_sem, htl, cI_take htl, pl, pt, ql, qt, pd, pl0, hz, SaW]
        case hq =>
          simp [go_sem, qb, qg, ql]
          apply draw3 (0 :: 2 :: []) (1 :: 3 :: 4 :: 5 :: 6 :: 7 :: []) (0 :: 2 :: []) (.step 1 ([]) true (.step 3 ([]) false (.alt (.step 4 ([]) false (.step 5 ([]) false (.step 6 ([]) false (.step 7 ([]) false .done)))) (.step 5 ([]) false (.step 4 ([]) false (.step 6 ([]) false (.step 7 ([]) false .done))))))) ⟨[(4, .ptr 32 0 0 1), (5, .d (.bool (!od))), (6, .d (.int .i64 0))], [(32, ⟨22, 32, [cb kb]⟩)], 9000⟩ (k := 8) (by kernel_rfl) (by kernel_rfl) rfl
          case hz => repeat (first | exact Its.nil | apply Its.plain rfl | apply Its.guard rfl rfl)
          case hj => repeat (first | exact Tts.done | exact Its.nil | apply Tts.alt | apply Its.plain rfl | apply Its.guard rfl rfl | apply Tts.plain rfl | apply Tts.guard rfl rfl)
          case h3 =>
            intro G hG
            have hW : ∀ (fr : Fr) (hp : Hp), (fv 4 fr = .ptr 32 0 0 1 ∧ fv 5 fr = .d (.bool (!od)) ∧ fv 6 fr = .d (.int .i64 0) ∧ lk 32 hp = some ⟨22, 32, [cb kb]⟩) → G fr hp := by
              rintro fr hp ⟨q0, q1, q2, q3⟩
              refine hG _ _ (weak_wk ?_)
              simp only [Weak, slotOk]
              refine ⟨fun p hp => ?_, fun p hp => ?_, by simp⟩
              · simp only [List.mem_cons, List.mem_nil_iff, or_false] at hp
                rcases hp with rfl | rfl | rfl
                · exact ⟨.inl q0.symm, by simp [AV.low, AV.low1]⟩
                · exact ⟨.inl q1.symm, by simp [AV.low, AV.low1]⟩
                · exact ⟨.inl q2.symm, by simp [AV.low, AV.low1]⟩
              · simp only [List.mem_cons, List.mem_nil_iff, or_false] at hp
                rcases hp with rfl
                · exact ⟨.inl q3, by simp, by intro r hr; simp only [List.mem_cons, List.mem_nil_iff, or_false] at hr; subst hr; exact (by first | exact cI_low _ _ | exact cb_low _ _ | exact cP_low _ _ _ _)⟩
            simp [go_sem, ql, qt, kl, cb_len, cb_take kl, zd, SaW]
            repeat' first | exact hW _ _ ⟨rfl, rfl, rfl, rfl⟩ | (refine hW _ _ ?_; simp [fv, lk]; done) | refine cl_eq f5 (one_cP _ _ _) ?_ | refine cl_eq f6 (one_cP _ _ _) ?_ | apply And.intro | simp [go_sem, ql, qt, kl, cb_len, cb_take kl, zd, SaW]
          case hq =>
            simp [go_sem, cb_len, kl, cb_take kl, resV]
            exact post_be rfl
      · refine ⟨z32, false, 1, rfl, zb, .inr rfl, ?_⟩
        refine fn_of_awp Try.func24 (by kernel_rfl) rfl Try.ntmps24 (rs := [.cell 4 22, .tmp 5, .tmp 6]) rfl (Nat.le_of_ble_eq_true rfl) (b_nb _ _) ?_
        simp [go_sem, cb_len, hi, cb_take hi]
        refine cl_eq f1 (one_cb1 _) ?_
        simp [go_sem, cb_len, hi, cb_take hi, pl, pt, pd, pl0]
        refine cl_eq f2 (b_nb _ _) ?_
        simp [go_sem, htl, cI_take htl, hz]
        apply draw3 (1 :: 2 :: []) (0 :: 3 :: 4 :: 5 :: 6 :: []) (1 :: 2 :: []) (.alt (.step 0 ([]) true (.alt (.step 3 ([]) true (.alt (.step 4 ([]) false (.step 5 ([]) false (.step 6 ([]) false .done))) (.step 5 ([]) true (.step 4 ([]) false (.step 6 ([]) false .done))))) (.step 5 ([]) true (.step 3 ([]) true (.step 4 ([]) false (.step 6 ([]) false .done)))))) (.step 5 ([]) true (.step 0 ([]) true (.step 3 ([]) true (.step 4 ([]) false (.step 6 ([]) false .done)))))) ⟨[(4, .ptr 32 0 0 1), (10, .ptr 960 0 0 1)], [(960, ⟨71, 9, [cP qx qy true]⟩), (32, ⟨22, 32, [cb z32]⟩)], 5000⟩ (k := 7) (by kernel_rfl) (by kernel_rfl) rfl
        case hz => repeat (first | exact Its.nil | apply Its.plain rfl | apply Its.guard rfl rfl)
        case hj => repeat (first | exact Tts.done | exact Its.nil | apply Tts.alt | apply Its.plain rfl | apply Its.guard rfl rfl | apply Tts.plain rfl | apply Tts.guard rfl rfl)
        case h3 =>
          intro G hG
          have hW : ∀ (fr : Fr) (hp : Hp), (fv 4 fr = .ptr 32 0 0 1 ∧ fv 10 fr = .ptr 960 0 0 1 ∧ lk 960 hp = some ⟨71, 9, [cP qx qy true]⟩ ∧ lk 32 hp = some ⟨22, 32, [cb z32]⟩) → G fr hp := by
            rintro fr hp ⟨q0, q1, q2, q3⟩
            refine hG _ _ (weak_wk ?_)
            simp only [Weak, slotOk]
            refine ⟨fun p hp => ?_, fun p hp => ?_, by simp⟩
            · simp only [List.mem_cons, List.mem_nil_iff, or_false] at hp
              rcases hp with rfl | rfl
              · exact ⟨.inl q0.symm, by simp [AV.low, AV.low1]⟩
              · exact ⟨.inl q1.symm, by simp [AV.low, AV.low1]⟩
            · simp only [List.mem_cons, List.mem_nil_iff, or_false] at hp
              rcases hp with rfl | rfl
              · exact ⟨.inl q2, by simp, by intro r hr; simp only [List.mem_cons, List.mem_nil_iff, or_false] at hr; subst hr; exact (by first | exact cI_low _ _ | exact cb_low _ _ | exact cP_low _ _ _ _)⟩
              · exact ⟨.inl q3, by simp, by intro r hr; simp only [List.mem_cons, List.mem_nil_iff, or_false] at hr; subst hr; exact (by first | exact cI_low _ _ | exact cb_low _ _ | exact cP_low _ _ _ _)⟩
          simp [go_sem, htl, cI_take htl, pl, pt, ql, qt, pd, pl0, hz, SaW]
          repeat' first | exact hW _ _ ⟨rfl, rfl, rfl, rfl⟩ | (refine hW _ _ ?_; simp [fv, lk]; done) | refine cl_eq (fromI_fn 1) (by simp [AV.deep, AV.deep1]) ?_ | refine cl_eq base_fn (by simp) ?_ | refine cl_eq f4 (four_d _ _ _ _ _ _ _ _) ?_ | apply And.intro | simp [go_sem, htl, cI_take htl, pl, pt, ql, qt, pd, pl0, hz, SaW]
        case hq =>
          simp [go_sem, qb, qg, ql, zd, zt, cb_len, resV]
          exact post_be rfl
end Go.Proofs.Ytgeabjjgeeakdaa
