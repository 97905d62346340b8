/-
  The curve's points: sums.
-/
import Derived.Test.YtgeabjjgeeakdaaWpk
namespace Go.Proofs.Ytgeabjjgeeakdaa
open Go.Am Go.Sha
set_option linter.unusedSimpArgs false
set_option linter.unusedVariables false

theorem two_cV (x y z x' y' z' : List Int) : ∀ v, v ∈ [AV.agg (cV x y z), AV.agg (cV x' y' z')] → v.deep := by
  intro v hv; simp at hv; rcases hv with rfl | rfl
  · exact cV_deep _ _ _
  · exact cV_deep _ _ _
set_option maxRecDepth 20000 in
set_option maxHeartbeats 32000000 in
theorem plus_ex (x y z x' y' z' : List Int) (hx : Wn 4 x) (hy : Wn 4 y) (hz : Wn 4 z) (hx' : Wn 4 x') (hy' : Wn 4 y') (hz' : Wn 4 z') : ∃ (u v w : List Int), Wn 4 u ∧ Wn 4 v ∧ Wn 4 w ∧ Rets Try.prog 55 [.agg (cV x y z), .agg (cV x' y' z')] (fun r => r = .agg (cV u v w)) := by
  obtain ⟨pz2, h1, f1⟩ := sq_ex z hz
  obtain ⟨qz2, h2, f2⟩ := sq_ex z' hz'
  obtain ⟨u1, h4, f4⟩ := fmul_ex x qz2 hx h2
  obtain ⟨u2, h5, f5⟩ := fmul_ex x' pz2 hx' h1
  obtain ⟨qz3, h6, f6⟩ := fmul_ex qz2 z' h2 hz'
  obtain ⟨s1, h7, f7⟩ := fmul_ex y qz3 hy h6
  obtain ⟨pz3, h8, f8⟩ := fmul_ex pz2 z h1 hz
  obtain ⟨s2, h9, f9⟩ := fmul_ex y' pz3 hy' h8
  obtain ⟨h, h11, f11⟩ := fsub_ex u2 u1 h5 h4
  obtain ⟨r, h12, f12⟩ := fsub_ex s2 s1 h9 h7
  obtain ⟨hh, h13, f13⟩ := sq_ex h h11
  obtain ⟨h3, h14, f14⟩ := fmul_ex hh h h13 h11
  obtain ⟨v, h15, f15⟩ := fmul_ex u1 hh h4 h13
  obtain ⟨rr, h16, f16⟩ := sq_ex r h12
  obtain ⟨d1, h17, f17⟩ := fsub_ex rr h3 h16 h14
  obtain ⟨w2, h20, f20⟩ := times_ex 2 v ⟨by omega, by omega⟩ h15
  obtain ⟨X, h18, f18⟩ := fsub_ex d1 w2 h17 h20
  obtain ⟨e1, h21, f21⟩ := fsub_ex v X h15 h18
  obtain ⟨e2, h22, f22⟩ := fmul_ex r e1 h12 h21
  obtain ⟨e3, h24, f24⟩ := fmul_ex s1 h3 h7 h14
  obtain ⟨Y, h19, f19⟩ := fsub_ex e2 e3 h22 h24
  obtain ⟨zz, h25, f25⟩ := fmul_ex z z' hz hz'
  obtain ⟨Z, h23, f23⟩ := fmul_ex h zz h11 h25
  obtain ⟨wu, wv, ww, h26, h27, h28, f26⟩ := weigh_ex zI zI true zI_W zI_W
  obtain ⟨du, dv, dw, h29, h30, h31, f29⟩ := doubled_ex x y z hx hy hz
  unfold W1 at f1 f2 f13 f16
  unfold W2 at f4 f5 f6 f7 f8 f9 f11 f12 f14 f15 f17 f18 f19 f21 f22 f23 f24 f25
  have l1 := h1.1
  have l2 := h2.1
  have l4 := h4.1
  have l5 := h5.1
  have l6 := h6.1
  have l7 := h7.1
  have l8 := h8.1
  have l9 := h9.1
  have l11 := h11.1
  have l12 := h12.1
  have l13 := h13.1
  have l14 := h14.1
  have l15 := h15.1
  have l16 := h16.1
  have l17 := h17.1
  have l18 := h18.1
  have l19 := h19.1
  have l20 := h20.1
  have l21 := h21.1
  have l22 := h22.1
  have l23 := h23.1
  have l24 := h24.1
  have l25 := h25.1
  have l26 := h26.1
  have l27 := h27.1
  have l28 := h28.1
  have l29 := h29.1
  have l30 := h30.1
  have l31 := h31.1
  have hxl := hx.1
  have hyl := hy.1
  have hzl := hz.1
  have hxlb := hx'.1
  have hylb := hy'.1
  have hzlb := hz'.1
  have z4 : List.drop 4 (cI zI) = [] := cI_drop rfl
  have vl := cV_len hxl hyl hzl
  have vt := cV_take hxl hyl hzl
  have v1 : (cV x y z).take 4 = cI x := cV_x hxl
  have v2 := cV_y (z := z) hxl hyl
  have v3 := cV_z hxl hyl hzl
  have vlb := cV_len hxlb hylb hzlb
  have vtb := cV_take hxlb hylb hzlb
  have v1b : (cV x' y' z').take 4 = cI x' := cV_x hxlb
  have v2b := cV_y (z := z') hxlb hylb
  have v3b := cV_z hxlb hylb hzlb
  have iz : intsOf .u64 [AV.d (.int .u64 0), AV.d (.int .u64 0), AV.d (.int .u64 0), AV.d (.int .u64 0)] = some zI := ints_cI zI
  have f0 := isZero_ex x y z hx hy hz
  have f0b := isZero_ex x' y' z' hx' hy' hz'
  have wd : (cV zI zI zI).drop 12 = [] := cV_drop rfl rfl rfl
  have wl : (cV zI zI zI).length = 12 := rfl
  have ul := cV_len l26 l27 l28
  have ut := cV_take l26 l27 l28
  have ul2 := cV_len l29 l30 l31
  have ut2 := cV_take l29 l30 l31
  by_cases q1 : z = zI
  · refine ⟨x', y', z', hx', hy', hz', ?_⟩
    refine fn_of_awp Try.func55 (by kernel_rfl) rfl Try.ntmps55 (rs := [.cell 4 99]) rfl (Nat.le_of_ble_eq_true rfl) (two_cV _ _ _ _ _ _) ?_
    simp [go_sem, vl, vt, vlb, vtb]
    refine cl_eq f0 (one_cV _ _ _) ?_
    simp [go_sem, q1, vlb, vtb, wd, wl, resV]
    exact post_v rfl
  by_cases q2 : z' = zI
  · refine ⟨x, y, z, hx, hy, hz, ?_⟩
    refine fn_of_awp Try.func55 (by kernel_rfl) rfl Try.ntmps55 (rs := [.cell 4 99]) rfl (Nat.le_of_ble_eq_true rfl) (two_cV _ _ _ _ _ _) ?_
    simp [go_sem, vl, vt, vlb, vtb]
    refine cl_eq f0 (one_cV _ _ _) ?_
    simp [go_sem, q1, vl, vt, vlb, vtb]
    refine cl_eq f0b (one_cV _ _ _) ?_
    simp [go_sem, q2, vl, vt, wd, wl, resV]
    exact post_v rfl
  obtain ⟨U, V, W, hU, hV, hW, e1, e2, e3⟩ : ∃ (U V W : List Int), Wn 4 U ∧ Wn 4 V ∧ Wn 4 W ∧ (h = zI → r = zI → (du = U ∧ dv = V ∧ dw = W)) ∧ (h = zI → r ≠ zI → (wu = U ∧ wv = V ∧ ww = W)) ∧ (h ≠ zI → (X = U ∧ Y = V ∧ Z = W)) := by
    by_cases q3 : h = zI
    · by_cases q4 : r = zI
      · exact ⟨du, dv, dw, h29, h30, h31, fun _ _ => ⟨rfl, rfl, rfl⟩, fun _ h => absurd q4 h, fun h => absurd q3 h⟩
      · exact ⟨wu, wv, ww, h26, h27, h28, fun _ h => absurd h q4, fun _ _ => ⟨rfl, rfl, rfl⟩, fun h => absurd q3 h⟩
    · exact ⟨X, Y, Z, h18, h19, h23, fun h => absurd h q3, fun h => absurd h q3, fun _ => ⟨rfl, rfl, rfl⟩⟩
  refine ⟨U, V, W, hU, hV, hW, ?_⟩
  refine fn_of_awp Try.func55 (by kernel_rfl) rfl Try.ntmps55 (rs := [.cell 4 99]) rfl (Nat.le_of_ble_eq_true rfl) (two_cV _ _ _ _ _ _) ?_
  simp [go_sem, vl, vt, vlb, vtb]
  refine cl_eq f0 (one_cV _ _ _) ?_
  simp [go_sem, q1, vl, vt, vlb, vtb]
  refine cl_eq f0b (one_cV _ _ _) ?_
  simp [go_sem, q2, vl, vt, vlb, vtb, v1, v2, v3, v1b, v2b, v3b]
  apply draw3 (0 :: 1 :: 3 :: 4 :: []) (2 :: 5 :: 6 :: 7 :: 8 :: 9 :: []) (0 :: 1 :: 3 :: 4 :: []) (.alt (.step 2 ([]) true (.alt (.step 5 ([]) false (.alt (.step 6 ([]) false (.step 7 ([]) false (.step 8 ([]) false (.step 9 ([]) false .done)))) (.step 7 ([]) false (.step 6 ([]) false (.step 8 ([]) false (.step 9 ([]) false .done)))))) (.alt (.step 6 ([]) true (.alt (.step 5 ([]) false (.step 7 ([]) false (.step 8 ([]) false (.step 9 ([]) false .done)))) (.step 7 ([]) true (.step 5 ([]) false (.step 8 ([]) false (.step 9 ([]) false .done)))))) (.step 7 ([]) true (.alt (.step 5 ([]) false (.step 6 ([]) false (.step 8 ([]) false (.step 9 ([]) false .done)))) (.step 6 ([]) true (.step 5 ([]) false (.step 8 ([]) false (.step 9 ([]) false .done))))))))) (.alt (.step 6 ([]) true (.alt (.step 2 ([]) true (.alt (.step 5 ([]) false (.step 7 ([]) false (.step 8 ([]) false (.step 9 ([]) false .done)))) (.step 7 ([]) true (.step 5 ([]) false (.step 8 ([]) false (.step 9 ([]) false .done)))))) (.step 7 ([]) true (.step 2 ([]) true (.step 5 ([]) false (.step 8 ([]) false (.step 9 ([]) false .done))))))) (.step 7 ([]) true (.alt (.step 2 ([]) true (.alt (.step 5 ([]) false (.step 6 ([]) false (.step 8 ([]) false (.step 9 ([]) false .done)))) (.step 6 ([]) true (.step 5 ([]) false (.step 8 ([]) false (.step 9 ([]) false .done)))))) (.step 6 ([]) true (.step 2 ([]) true (.step 5 ([]) false (.step 8 ([]) false (.step 9 ([]) false .done))))))))) ⟨[(2, .ptr 0 0 0 1), (3, .ptr 32 0 0 1), (4, .ptr 64 0 0 1), (5, .ptr 480 0 0 1), (6, .ptr 512 0 0 1)], [(512, ⟨69, 4, [cI qz2]⟩), (480, ⟨69, 4, [cI pz2]⟩), (64, ⟨99, 12, [cV zI zI zI]⟩), (32, ⟨99, 12, [cV x' y' z']⟩), (0, ⟨99, 12, [cV x y z]⟩)], 9000⟩ (k := 10) (by kernel_rfl) (by kernel_rfl) rfl
  case hz => repeat (first | exact Its.nil | apply Its.plain rfl | apply Its.guard rfl rfl)
  case hj => repeat (first | exact Tts.done | exact Its.nil | apply Tts.alt | apply Its.plain rfl | apply Its.guard rfl rfl | apply Tts.plain rfl | apply Tts.guard rfl rfl)
  case h3 =>
    intro G hG
    have hW : ∀ (fr : Fr) (hp : Hp), (fv 2 fr = .ptr 0 0 0 1 ∧ fv 3 fr = .ptr 32 0 0 1 ∧ fv 4 fr = .ptr 64 0 0 1 ∧ fv 5 fr = .ptr 480 0 0 1 ∧ fv 6 fr = .ptr 512 0 0 1 ∧ lk 512 hp = some ⟨69, 4, [cI qz2]⟩ ∧ lk 480 hp = some ⟨69, 4, [cI pz2]⟩ ∧ lk 64 hp = some ⟨99, 12, [cV zI zI zI]⟩ ∧ lk 32 hp = some ⟨99, 12, [cV x' y' z']⟩ ∧ lk 0 hp = some ⟨99, 12, [cV x y z]⟩) → G fr hp := by
      rintro fr hp ⟨q0, q1, q2, q3, q4, q5, q6, q7, q8, q9⟩
      refine hG _ _ (weak_wk ?_)
      simp only [Weak, slotOk]
      refine ⟨fun p hp => ?_, fun p hp => ?_, by simp⟩
      · simp only [List.mem_cons, List.mem_nil_iff, or_false] at hp
        rcases hp with rfl | rfl | rfl | rfl | rfl
        · exact ⟨.inl q0.symm, by simp [AV.low, AV.low1]⟩
        · exact ⟨.inl q1.symm, by simp [AV.low, AV.low1]⟩
        · exact ⟨.inl q2.symm, by simp [AV.low, AV.low1]⟩
        · exact ⟨.inl q3.symm, by simp [AV.low, AV.low1]⟩
        · exact ⟨.inl q4.symm, by simp [AV.low, AV.low1]⟩
      · simp only [List.mem_cons, List.mem_nil_iff, or_false] at hp
        rcases hp with rfl | rfl | rfl | rfl | rfl
        · exact ⟨.inl q5, by simp, by intro r hr; simp only [List.mem_cons, List.mem_nil_iff, or_false] at hr; subst hr; exact (by first | exact cI_low _ _ | exact cV_low _ _ _ _)⟩
        · exact ⟨.inl q6, by simp, by intro r hr; simp only [List.mem_cons, List.mem_nil_iff, or_false] at hr; subst hr; exact (by first | exact cI_low _ _ | exact cV_low _ _ _ _)⟩
        · exact ⟨.inl q7, by simp, by intro r hr; simp only [List.mem_cons, List.mem_nil_iff, or_false] at hr; subst hr; exact (by first | exact cI_low _ _ | exact cV_low _ _ _ _)⟩
        · exact ⟨.inl q8, by simp, by intro r hr; simp only [List.mem_cons, List.mem_nil_iff, or_false] at hr; subst hr; exact (by first | exact cI_low _ _ | exact cV_low _ _ _ _)⟩
        · exact ⟨.inl q9, by simp, by intro r hr; simp only [List.mem_cons, List.mem_nil_iff, or_false] at hr; subst hr; exact (by first | exact cI_low _ _ | exact cV_low _ _ _ _)⟩
    simp [go_sem, l1, l2, cI_take l1, cI_take l2, z4, v3, v3b, vl, vlb, SaW]
    repeat' first | exact hW _ _ ⟨rfl, rfl, rfl, rfl, rfl, rfl, rfl, rfl, rfl, rfl⟩ | (refine hW _ _ ?_; simp [fv, lk]; done) | refine cl_eq f1 (one_cI _) ?_ | refine cl_eq f2 (one_cI _) ?_ | apply And.intro | simp [go_sem, l1, l2, cI_take l1, cI_take l2, z4, v3, v3b, vl, vlb, SaW]
  case hq =>
    simp [go_sem]
    apply draw3 (0 :: 1 :: 2 :: 4 :: 5 :: 6 :: []) (3 :: 7 :: 8 :: 9 :: 10 :: 11 :: []) (0 :: 1 :: 2 :: 4 :: 5 :: 6 :: []) (.alt (.step 3 ([]) true (.alt (.step 7 ([]) false (.alt (.step 8 ([]) false (.step 9 ([]) false (.step 10 ([]) false (.step 11 ([]) false .done)))) (.step 9 ([]) false (.step 8 ([]) false (.step 10 ([]) false (.step 11 ([]) false .done)))))) (.alt (.step 8 ([]) true (.alt (.step 7 ([]) false (.step 9 ([]) false (.step 10 ([]) false (.step 11 ([]) false .done)))) (.step 9 ([]) true (.step 7 ([]) false (.step 10 ([]) false (.step 11 ([]) false .done)))))) (.step 9 ([]) true (.alt (.step 7 ([]) false (.step 8 ([]) false (.step 10 ([]) false (.step 11 ([]) false .done)))) (.step 8 ([]) true (.step 7 ([]) false (.step 10 ([]) false (.step 11 ([]) false .done))))))))) (.alt (.step 8 ([]) true (.alt (.step 3 ([]) true (.alt (.step 7 ([]) false (.step 9 ([]) false (.step 10 ([]) false (.step 11 ([]) false .done)))) (.step 9 ([]) true (.step 7 ([]) false (.step 10 ([]) false (.step 11 ([]) false .done)))))) (.step 9 ([]) true (.step 3 ([]) true (.step 7 ([]) false (.step 10 ([]) false (.step 11 ([]) false .done))))))) (.step 9 ([]) true (.alt (.step 3 ([]) true (.alt (.step 7 ([]) false (.step 8 ([]) false (.step 10 ([]) false (.step 11 ([]) false .done)))) (.step 8 ([]) true (.step 7 ([]) false (.step 10 ([]) false (.step 11 ([]) false .done)))))) (.step 8 ([]) true (.step 3 ([]) true (.step 7 ([]) false (.step 10 ([]) false (.step 11 ([]) false .done))))))))) ⟨[(2, .ptr 0 0 0 1), (3, .ptr 32 0 0 1), (4, .ptr 64 0 0 1), (5, .ptr 480 0 0 1), (6, .ptr 512 0 0 1), (7, .ptr 9256 0 0 1), (8, .ptr 9288 0 0 1)], [(9288, ⟨69, 4, [cI u2]⟩), (9256, ⟨69, 4, [cI u1]⟩), (512, ⟨69, 4, [cI qz2]⟩), (480, ⟨69, 4, [cI pz2]⟩), (64, ⟨99, 12, [cV zI zI zI]⟩), (32, ⟨99, 12, [cV x' y' z']⟩), (0, ⟨99, 12, [cV x y z]⟩)], 20000⟩ (k := 12) (by kernel_rfl) (by kernel_rfl) rfl
    case hz => repeat (first | exact Its.nil | apply Its.plain rfl | apply Its.guard rfl rfl)
    case hj => repeat (first | exact Tts.done | exact Its.nil | apply Tts.alt | apply Its.plain rfl | apply Its.guard rfl rfl | apply Tts.plain rfl | apply Tts.guard rfl rfl)
    case h3 =>
      intro G hG
      have hW : ∀ (fr : Fr) (hp : Hp), (fv 2 fr = .ptr 0 0 0 1 ∧ fv 3 fr = .ptr 32 0 0 1 ∧ fv 4 fr = .ptr 64 0 0 1 ∧ fv 5 fr = .ptr 480 0 0 1 ∧ fv 6 fr = .ptr 512 0 0 1 ∧ fv 7 fr = .ptr 9256 0 0 1 ∧ fv 8 fr = .ptr 9288 0 0 1 ∧ lk 9288 hp = some ⟨69, 4, [cI u2]⟩ ∧ lk 9256 hp = some ⟨69, 4, [cI u1]⟩ ∧ lk 512 hp = some ⟨69, 4, [cI qz2]⟩ ∧ lk 480 hp = some ⟨69, 4, [cI pz2]⟩ ∧ lk 64 hp = some ⟨99, 12, [cV zI zI zI]⟩ ∧ lk 32 hp = some ⟨99, 12, [cV x' y' z']⟩ ∧ lk 0 hp = some ⟨99, 12, [cV x y z]⟩) → G fr hp := by
        rintro fr hp ⟨q0, q1, q2, q3, q4, q5, q6, q7, q8, q9, q10, q11, q12, q13⟩
        refine hG _ _ (weak_wk ?_)
        simp only [Weak, slotOk]
        refine ⟨fun p hp => ?_, fun p hp => ?_, by simp⟩
        · simp only [List.mem_cons, List.mem_nil_iff, or_false] at hp
          rcases hp with rfl | rfl | rfl | rfl | rfl | rfl | rfl
          · exact ⟨.inl q0.symm, by simp [AV.low, AV.low1]⟩
          · exact ⟨.inl q1.symm, by simp [AV.low, AV.low1]⟩
          · exact ⟨.inl q2.symm, by simp [AV.low, AV.low1]⟩
          · exact ⟨.inl q3.symm, by simp [AV.low, AV.low1]⟩
          · exact ⟨.inl q4.symm, by simp [AV.low, AV.low1]⟩
          · exact ⟨.inl q5.symm, by simp [AV.low, AV.low1]⟩
          · exact ⟨.inl q6.symm, by simp [AV.low, AV.low1]⟩
        · simp only [List.mem_cons, List.mem_nil_iff, or_false] at hp
          rcases hp with rfl | rfl | rfl | rfl | rfl | rfl | rfl
          · exact ⟨.inl q7, by simp, by intro r hr; simp only [List.mem_cons, List.mem_nil_iff, or_false] at hr; subst hr; exact (by first | exact cI_low _ _ | exact cV_low _ _ _ _)⟩
          · exact ⟨.inl q8, by simp, by intro r hr; simp only [List.mem_cons, List.mem_nil_iff, or_false] at hr; subst hr; exact (by first | exact cI_low _ _ | exact cV_low _ _ _ _)⟩
          · exact ⟨.inl q9, by simp, by intro r hr; simp only [List.mem_cons, List.mem_nil_iff, or_false] at hr; subst hr; exact (by first | exact cI_low _ _ | exact cV_low _ _ _ _)⟩
          · exact ⟨.inl q10, by simp, by intro r hr; simp only [List.mem_cons, List.mem_nil_iff, or_false] at hr; subst hr; exact (by first | exact cI_low _ _ | exact cV_low _ _ _ _)⟩
          · exact ⟨.inl q11, by simp, by intro r hr; simp only [List.mem_cons, List.mem_nil_iff, or_false] at hr; subst hr; exact (by first | exact cI_low _ _ | exact cV_low _ _ _ _)⟩
          · exact ⟨.inl q12, by simp, by intro r hr; simp only [List.mem_cons, List.mem_nil_iff, or_false] at hr; subst hr; exact (by first | exact cI_low _ _ | exact cV_low _ _ _ _)⟩
          · exact ⟨.inl q13, by simp, by intro r hr; simp only [List.mem_cons, List.mem_nil_iff, or_false] at hr; subst hr; exact (by first | exact cI_low _ _ | exact cV_low _ _ _ _)⟩
      simp [go_sem, l1, l2, l4, l5, cI_take l1, cI_take l2, cI_take l4, cI_take l5, z4, v1, v1b, vl, vlb, SaW]
      repeat' first | exact hW _ _ ⟨rfl, rfl, rfl, rfl, rfl, rfl, rfl, rfl, rfl, rfl, rfl, rfl, rfl, rfl⟩ | (refine hW _ _ ?_; simp [fv, lk]; done) | refine cl_eq f4 (two_cI _ _) ?_ | refine cl_eq f5 (two_cI _ _) ?_ | apply And.intro | simp [go_sem, l1, l2, l4, l5, cI_take l1, cI_take l2, cI_take l4, cI_take l5, z4, v1, v1b, vl, vlb, SaW]
    case hq =>
      simp [go_sem]
      apply draw3 (0 :: 1 :: 2 :: 3 :: 4 :: 7 :: 8 :: 9 :: 10 :: 11 :: []) (5 :: 6 :: 12 :: 13 :: 14 :: 15 :: 16 :: 17 :: []) (0 :: 1 :: 2 :: 3 :: 4 :: 7 :: 8 :: 9 :: 10 :: 11 :: []) (.alt (.step 5 ([]) true (.alt (.step 6 ([]) true (.alt (.step 12 ([]) true (.alt (.step 13 ([]) false (.alt (.step 14 ([]) false (.step 15 ([]) false (.step 16 ([]) false (.step 17 ([]) false .done)))) (.step 15 ([]) false (.step 14 ([]) false (.step 16 ([]) false (.step 17 ([]) false .done)))))) (.alt (.step 14 ([]) true (.alt (.step 13 ([]) false (.step 15 ([]) false (.step 16 ([]) false (.step 17 ([]) false .done)))) (.step 15 ([]) true (.step 13 ([]) false (.step 16 ([]) false (.step 17 ([]) false .done)))))) (.step 15 ([]) true (.alt (.step 13 ([]) false (.step 14 ([]) false (.step 16 ([]) false (.step 17 ([]) false .done)))) (.step 14 ([]) true (.step 13 ([]) false (.step 16 ([]) false (.step 17 ([]) false .done))))))))) (.alt (.step 14 ([]) true (.alt (.step 12 ([]) true (.alt (.step 13 ([]) false (.step 15 ([]) false (.step 16 ([]) false (.step 17 ([]) false .done)))) (.step 15 ([]) true (.step 13 ([]) false (.step 16 ([]) false (.step 17 ([]) false .done)))))) (.step 15 ([]) true (.step 12 ([]) true (.step 13 ([]) false (.step 16 ([]) false (.step 17 ([]) false .done))))))) (.step 15 ([]) true (.alt (.step 12 ([]) true (.alt (.step 13 ([]) false (.step 14 ([]) false (.step 16 ([]) false (.step 17 ([]) false .done)))) (.step 14 ([]) true (.step 13 ([]) false (.step 16 ([]) false (.step 17 ([]) false .done)))))) (.step 14 ([]) true (.step 12 ([]) true (.step 13 ([]) false (.step 16 ([]) false (.step 17 ([]) false .done)))))))))) (.alt (.step 14 ([]) true (.alt (.step 6 ([]) true (.alt (.step 12 ([]) true (.alt (.step 13 ([]) false (.step 15 ([]) false (.step 16 ([]) false (.step 17 ([]) false .done)))) (.step 15 ([]) true (.step 13 ([]) false (.step 16 ([]) false (.step 17 ([]) false .done)))))) (.step 15 ([]) true (.step 12 ([]) true (.step 13 ([]) false (.step 16 ([]) false (.step 17 ([]) false .done))))))) (.step 15 ([]) true (.step 6 ([]) true (.step 12 ([]) true (.step 13 ([]) false (.step 16 ([]) false (.step 17 ([]) false .done)))))))) (.step 15 ([]) true (.alt (.step 6 ([]) true (.alt (.step 12 ([]) true (.alt (.step 13 ([]) false (.step 14 ([]) false (.step 16 ([]) false (.step 17 ([]) false .done)))) (.step 14 ([]) true (.step 13 ([]) false (.step 16 ([]) false (.step 17 ([]) false .done)))))) (.step 14 ([]) true (.step 12 ([]) true (.step 13 ([]) false (.step 16 ([]) false (.step 17 ([]) false .done))))))) (.step 14 ([]) true (.step 6 ([]) true (.step 12 ([]) true (.step 13 ([]) false (.step 16 ([]) false (.step 17 ([]) false .done))))))))))) (.alt (.step 14 ([]) true (.alt (.step 5 ([]) true (.alt (.step 6 ([]) true (.alt (.step 12 ([]) true (.alt (.step 13 ([]) false (.step 15 ([]) false (.step 16 ([]) false (.step 17 ([]) false .done)))) (.step 15 ([]) true (.step 13 ([]) false (.step 16 ([]) false (.step 17 ([]) false .done)))))) (.step 15 ([]) true (.step 12 ([]) true (.step 13 ([]) false (.step 16 ([]) false (.step 17 ([]) false .done))))))) (.step 15 ([]) true (.step 6 ([]) true (.step 12 ([]) true (.step 13 ([]) false (.step 16 ([]) false (.step 17 ([]) false .done)))))))) (.step 15 ([]) true (.step 5 ([]) true (.step 6 ([]) true (.step 12 ([]) true (.step 13 ([]) false (.step 16 ([]) false (.step 17 ([]) false .done))))))))) (.step 15 ([]) true (.alt (.step 5 ([]) true (.alt (.step 6 ([]) true (.alt (.step 12 ([]) true (.alt (.step 13 ([]) false (.step 14 ([]) false (.step 16 ([]) false (.step 17 ([]) false .done)))) (.step 14 ([]) true (.step 13 ([]) false (.step 16 ([]) false (.step 17 ([]) false .done)))))) (.step 14 ([]) true (.step 12 ([]) true (.step 13 ([]) false (.step 16 ([]) false (.step 17 ([]) false .done))))))) (.step 14 ([]) true (.step 6 ([]) true (.step 12 ([]) true (.step 13 ([]) false (.step 16 ([]) false (.step 17 ([]) false .done)))))))) (.step 14 ([]) true (.step 5 ([]) true (.step 6 ([]) true (.step 12 ([]) true (.step 13 ([]) false (.step 16 ([]) false (.step 17 ([]) false .done))))))))))) ⟨[(2, .ptr 0 0 0 1), (3, .ptr 32 0 0 1), (4, .ptr 64 0 0 1), (7, .ptr 9256 0 0 1), (8, .ptr 9288 0 0 1), (9, .ptr 20448 0 0 1), (10, .ptr 20480 0 0 1)], [(20480, ⟨69, 4, [cI s2]⟩), (20448, ⟨69, 4, [cI s1]⟩), (9288, ⟨69, 4, [cI u2]⟩), (9256, ⟨69, 4, [cI u1]⟩), (64, ⟨99, 12, [cV zI zI zI]⟩), (32, ⟨99, 12, [cV x' y' z']⟩), (0, ⟨99, 12, [cV x y z]⟩)], 30000⟩ (k := 18) (by kernel_rfl) (by kernel_rfl) rfl
      case hz => repeat (first | exact Its.nil | apply Its.plain rfl | apply Its.guard rfl rfl)
      case hj => repeat (first | exact Tts.done | exact Its.nil | apply Tts.alt | apply Its.plain rfl | apply Its.guard rfl rfl | apply Tts.plain rfl | apply Tts.guard rfl rfl)
      case h3 =>
        intro G hG
        have hW : ∀ (fr : Fr) (hp : Hp), (fv 2 fr = .ptr 0 0 0 1 ∧ fv 3 fr = .ptr 32 0 0 1 ∧ fv 4 fr = .ptr 64 0 0 1 ∧ fv 7 fr = .ptr 9256 0 0 1 ∧ fv 8 fr = .ptr 9288 0 0 1 ∧ fv 9 fr = .ptr 20448 0 0 1 ∧ fv 10 fr = .ptr 20480 0 0 1 ∧ lk 20480 hp = some ⟨69, 4, [cI s2]⟩ ∧ lk 20448 hp = some ⟨69, 4, [cI s1]⟩ ∧ lk 9288 hp = some ⟨69, 4, [cI u2]⟩ ∧ lk 9256 hp = some ⟨69, 4, [cI u1]⟩ ∧ lk 64 hp = some ⟨99, 12, [cV zI zI zI]⟩ ∧ lk 32 hp = some ⟨99, 12, [cV x' y' z']⟩ ∧ lk 0 hp = some ⟨99, 12, [cV x y z]⟩) → G fr hp := by
          rintro fr hp ⟨q0, q1, q2, q3, q4, q5, q6, q7, q8, q9, q10, q11, q12, q13⟩
          refine hG _ _ (weak_wk ?_)
          simp only [Weak, slotOk]
          refine ⟨fun p hp => ?_, fun p hp => ?_, by simp⟩
          · simp only [List.mem_cons, List.mem_nil_iff, or_false] at hp
            rcases hp with rfl | rfl | rfl | rfl | rfl | rfl | rfl
            · exact ⟨.inl q0.symm, by simp [AV.low, AV.low1]⟩
            · exact ⟨.inl q1.symm, by simp [AV.low, AV.low1]⟩
            · exact ⟨.inl q2.symm, by simp [AV.low, AV.low1]⟩
            · exact ⟨.inl q3.symm, by simp [AV.low, AV.low1]⟩
            · exact ⟨.inl q4.symm, by simp [AV.low, AV.low1]⟩
            · exact ⟨.inl q5.symm, by simp [AV.low, AV.low1]⟩
            · exact ⟨.inl q6.symm, by simp [AV.low, AV.low1]⟩
          · simp only [List.mem_cons, List.mem_nil_iff, or_false] at hp
            rcases hp with rfl | rfl | rfl | rfl | rfl | rfl | rfl
            · exact ⟨.inl q7, by simp, by intro r hr; simp only [List.mem_cons, List.mem_nil_iff, or_false] at hr; subst hr; exact (by first | exact cI_low _ _ | exact cV_low _ _ _ _)⟩
            · exact ⟨.inl q8, by simp, by intro r hr; simp only [List.mem_cons, List.mem_nil_iff, or_false] at hr; subst hr; exact (by first | exact cI_low _ _ | exact cV_low _ _ _ _)⟩
            · exact ⟨.inl q9, by simp, by intro r hr; simp only [List.mem_cons, List.mem_nil_iff, or_false] at hr; subst hr; exact (by first | exact cI_low _ _ | exact cV_low _ _ _ _)⟩
            · exact ⟨.inl q10, by simp, by intro r hr; simp only [List.mem_cons, List.mem_nil_iff, or_false] at hr; subst hr; exact (by first | exact cI_low _ _ | exact cV_low _ _ _ _)⟩
            · exact ⟨.inl q11, by simp, by intro r hr; simp only [List.mem_cons, List.mem_nil_iff, or_false] at hr; subst hr; exact (by first | exact cI_low _ _ | exact cV_low _ _ _ _)⟩
            · exact ⟨.inl q12, by simp, by intro r hr; simp only [List.mem_cons, List.mem_nil_iff, or_false] at hr; subst hr; exact (by first | exact cI_low _ _ | exact cV_low _ _ _ _)⟩
            · exact ⟨.inl q13, by simp, by intro r hr; simp only [List.mem_cons, List.mem_nil_iff, or_false] at hr; subst hr; exact (by first | exact cI_low _ _ | exact cV_low _ _ _ _)⟩
        simp [go_sem, l1, l2, l7, l9, cI_take l1, cI_take l2, cI_take l7, cI_take l9, z4, v2, v2b, v3, v3b, vl, vlb, SaW]
        repeat' first | exact hW _ _ ⟨rfl, rfl, rfl, rfl, rfl, rfl, rfl, rfl, rfl, rfl, rfl, rfl, rfl, rfl⟩ | (refine hW _ _ ?_; simp [fv, lk]; done) | refine cl_eq f6 (two_cI _ _) ?_ | refine cl_eq f7 (two_cI _ _) ?_ | refine cl_eq f8 (two_cI _ _) ?_ | refine cl_eq f9 (two_cI _ _) ?_ | apply And.intro | simp [go_sem, l1, l2, l7, l9, cI_take l1, cI_take l2, cI_take l7, cI_take l9, z4, v2, v2b, v3, v3b, vl, vlb, SaW]
      case hq =>
        simp [go_sem]
        apply draw3 (0 :: 1 :: 3 :: 4 :: []) (2 :: 5 :: 6 :: 7 :: 8 :: 9 :: []) (0 :: 1 :: 3 :: 4 :: []) (.alt (.step 2 ([]) true (.alt (.step 5 ([]) false (.alt (.step 6 ([]) false (.step 7 ([]) false (.step 8 ([]) false (.step 9 ([]) false .done)))) (.step 7 ([]) false (.step 6 ([]) false (.step 8 ([]) false (.step 9 ([]) false .done)))))) (.alt (.step 6 ([]) true (.alt (.step 5 ([]) false (.step 7 ([]) false (.step 8 ([]) false (.step 9 ([]) false .done)))) (.step 7 ([]) true (.step 5 ([]) false (.step 8 ([]) false (.step 9 ([]) false .done)))))) (.step 7 ([]) true (.alt (.step 5 ([]) false (.step 6 ([]) false (.step 8 ([]) false (.step 9 ([]) false .done)))) (.step 6 ([]) true (.step 5 ([]) false (.step 8 ([]) false (.step 9 ([]) false .done))))))))) (.alt (.step 6 ([]) true (.alt (.step 2 ([]) true (.alt (.step 5 ([]) false (.step 7 ([]) false (.step 8 ([]) false (.step 9 ([]) false .done)))) (.step 7 ([]) true (.step 5 ([]) false (.step 8 ([]) false (.step 9 ([]) false .done)))))) (.step 7 ([]) true (.step 2 ([]) true (.step 5 ([]) false (.step 8 ([]) false (.step 9 ([]) false .done))))))) (.step 7 ([]) true (.alt (.step 2 ([]) true (.alt (.step 5 ([]) false (.step 6 ([]) false (.step 8 ([]) false (.step 9 ([]) false .done)))) (.step 6 ([]) true (.step 5 ([]) false (.step 8 ([]) false (.step 9 ([]) false .done)))))) (.step 6 ([]) true (.step 2 ([]) true (.step 5 ([]) false (.step 8 ([]) false (.step 9 ([]) false .done))))))))) ⟨[(2, .ptr 0 0 0 1), (3, .ptr 32 0 0 1), (4, .ptr 64 0 0 1), (7, .ptr 9256 0 0 1), (9, .ptr 20448 0 0 1), (11, .ptr 30192 0 0 1), (12, .ptr 30224 0 0 1)], [(30224, ⟨69, 4, [cI r]⟩), (30192, ⟨69, 4, [cI h]⟩), (20448, ⟨69, 4, [cI s1]⟩), (9256, ⟨69, 4, [cI u1]⟩), (64, ⟨99, 12, [cV zI zI zI]⟩), (32, ⟨99, 12, [cV x' y' z']⟩), (0, ⟨99, 12, [cV x y z]⟩)], 40000⟩ (k := 10) (by kernel_rfl) (by kernel_rfl) rfl
        case hz => repeat (first | exact Its.nil | apply Its.plain rfl | apply Its.guard rfl rfl)
        case hj => repeat (first | exact Tts.done | exact Its.nil | apply Tts.alt | apply Its.plain rfl | apply Its.guard rfl rfl | apply Tts.plain rfl | apply Tts.guard rfl rfl)
        case h3 =>
          intro G hG
          have hW : ∀ (fr : Fr) (hp : Hp), (fv 2 fr = .ptr 0 0 0 1 ∧ fv 3 fr = .ptr 32 0 0 1 ∧ fv 4 fr = .ptr 64 0 0 1 ∧ fv 7 fr = .ptr 9256 0 0 1 ∧ fv 9 fr = .ptr 20448 0 0 1 ∧ fv 11 fr = .ptr 30192 0 0 1 ∧ fv 12 fr = .ptr 30224 0 0 1 ∧ lk 30224 hp = some ⟨69, 4, [cI r]⟩ ∧ lk 30192 hp = some ⟨69, 4, [cI h]⟩ ∧ lk 20448 hp = some ⟨69, 4, [cI s1]⟩ ∧ lk 9256 hp = some ⟨69, 4, [cI u1]⟩ ∧ lk 64 hp = some ⟨99, 12, [cV zI zI zI]⟩ ∧ lk 32 hp = some ⟨99, 12, [cV x' y' z']⟩ ∧ lk 0 hp = some ⟨99, 12, [cV x y z]⟩) → G fr hp := by
            rintro fr hp ⟨q0, q1, q2, q3, q4, q5, q6, q7, q8, q9, q10, q11, q12, q13⟩
            refine hG _ _ (weak_wk ?_)
            simp only [Weak, slotOk]
            refine ⟨fun p hp => ?_, fun p hp => ?_, by simp⟩
            · simp only [List.mem_cons, List.mem_nil_iff, or_false] at hp
              rcases hp with rfl | rfl | rfl | rfl | rfl | rfl | rfl
              · exact ⟨.inl q0.symm, by simp [AV.low, AV.low1]⟩
              · exact ⟨.inl q1.symm, by simp [AV.low, AV.low1]⟩
              · exact ⟨.inl q2.symm, by simp [AV.low, AV.low1]⟩
              · exact ⟨.inl q3.symm, by simp [AV.low, AV.low1]⟩
              · exact ⟨.inl q4.symm, by simp [AV.low, AV.low1]⟩
              · exact ⟨.inl q5.symm, by simp [AV.low, AV.low1]⟩
              · exact ⟨.inl q6.symm, by simp [AV.low, AV.low1]⟩
            · simp only [List.mem_cons, List.mem_nil_iff, or_false] at hp
              rcases hp with rfl | rfl | rfl | rfl | rfl | rfl | rfl
              · exact ⟨.inl q7, by simp, by intro r hr; simp only [List.mem_cons, List.mem_nil_iff, or_false] at hr; subst hr; exact (by first | exact cI_low _ _ | exact cV_low _ _ _ _)⟩
              · exact ⟨.inl q8, by simp, by intro r hr; simp only [List.mem_cons, List.mem_nil_iff, or_false] at hr; subst hr; exact (by first | exact cI_low _ _ | exact cV_low _ _ _ _)⟩
              · exact ⟨.inl q9, by simp, by intro r hr; simp only [List.mem_cons, List.mem_nil_iff, or_false] at hr; subst hr; exact (by first | exact cI_low _ _ | exact cV_low _ _ _ _)⟩
              · exact ⟨.inl q10, by simp, by intro r hr; simp only [List.mem_cons, List.mem_nil_iff, or_false] at hr; subst hr; exact (by first | exact cI_low _ _ | exact cV_low _ _ _ _)⟩
              · exact ⟨.inl q11, by simp, by intro r hr; simp only [List.mem_cons, List.mem_nil_iff, or_false] at hr; subst hr; exact (by first | exact cI_low _ _ | exact cV_low _ _ _ _)⟩
              · exact ⟨.inl q12, by simp, by intro r hr; simp only [List.mem_cons, List.mem_nil_iff, or_false] at hr; subst hr; exact (by first | exact cI_low _ _ | exact cV_low _ _ _ _)⟩
              · exact ⟨.inl q13, by simp, by intro r hr; simp only [List.mem_cons, List.mem_nil_iff, or_false] at hr; subst hr; exact (by first | exact cI_low _ _ | exact cV_low _ _ _ _)⟩
          simp [go_sem, l4, l5, l7, l9, l11, l12, cI_take l4, cI_take l5, cI_take l7, cI_take l9, cI_take l11, cI_take l12, z4, SaW]
          repeat' first | exact hW _ _ ⟨rfl, rfl, rfl, rfl, rfl, rfl, rfl, rfl, rfl, rfl, rfl, rfl, rfl, rfl⟩ | (refine hW _ _ ?_; simp [fv, lk]; done) | refine cl_eq f11 (two_cI _ _) ?_ | refine cl_eq f12 (two_cI _ _) ?_ | apply And.intro | simp [go_sem, l4, l5, l7, l9, l11, l12, cI_take l4, cI_take l5, cI_take l7, cI_take l9, cI_take l11, cI_take l12, z4, SaW]
        case hq =>
          by_cases q3 : h = zI
          · by_cases q4 : r = zI
            · obtain ⟨rfl, rfl, rfl⟩ := e1 q3 q4
              simp [go_sem, l11, l12, ints_cI, iz, cI_take l11, cI_take l12]
              refine ⟨fun _ => ⟨fun _ => ?_, fun h => absurd q4 h⟩, fun h => absurd q3 h⟩
              simp [go_sem, vl, vt]
              refine cl_eq f29 (one_cV _ _ _) ?_
              simp [go_sem, ul2, ut2, wd, wl, resV]
              exact post_v rfl
            · obtain ⟨rfl, rfl, rfl⟩ := e2 q3 q4
              simp [go_sem, l11, l12, ints_cI, iz, cI_take l11, cI_take l12]
              refine ⟨fun _ => ⟨fun h => absurd h q4, fun _ => ?_⟩, fun h => absurd q3 h⟩
              refine cl_eq zero_fn (by simp) ?_
              simp [go_sem]
              refine cl_eq f26 (one_cP _ _ _) ?_
              simp [go_sem, ul, ut, wd, wl, resV]
              exact post_v rfl
          obtain ⟨rfl, rfl, rfl⟩ := e3 q3
          simp [go_sem, l11, l12, ints_cI, iz, cI_take l11, cI_take l12]
          refine ⟨fun h => absurd h q3, fun _ => ?_⟩
          refine cl_eq f13 (one_cI _) ?_
          simp [go_sem, l11, l13, cI_take l11, cI_take l13, z4]
          refine cl_eq f14 (two_cI _ _) ?_
          simp [go_sem, l4, l13, l14, cI_take l4, cI_take l13, cI_take l14, z4]
          refine cl_eq f15 (two_cI _ _) ?_
          simp [go_sem, l15, cI_take l15, z4]
          apply draw3 (0 :: 2 :: 4 :: []) (1 :: 3 :: 5 :: 6 :: 7 :: 8 :: []) (0 :: 2 :: 4 :: []) (.alt (.step 1 ([]) true (.alt (.step 3 ([]) true (.alt (.step 5 ([]) false (.alt (.step 6 ([]) false (.step 7 ([]) false (.step 8 ([]) false .done))) (.step 7 ([]) false (.step 6 ([]) false (.step 8 ([]) false .done))))) (.step 7 ([]) true (.step 5 ([]) false (.step 6 ([]) false (.step 8 ([]) false .done)))))) (.step 7 ([]) true (.step 3 ([]) true (.step 5 ([]) false (.step 6 ([]) false (.step 8 ([]) false .done))))))) (.step 7 ([]) true (.step 1 ([]) true (.step 3 ([]) true (.step 5 ([]) false (.step 6 ([]) false (.step 8 ([]) false .done))))))) ⟨[(2, .ptr 0 0 0 1), (3, .ptr 32 0 0 1), (4, .ptr 64 0 0 1), (9, .ptr 20448 0 0 1), (11, .ptr 30192 0 0 1), (12, .ptr 30224 0 0 1), (14, .ptr 40320 0 0 1), (15, .ptr 40480 0 0 1), (16, .ptr 40768 0 0 1)], [(40768, ⟨69, 4, [cI X]⟩), (40480, ⟨69, 4, [cI v]⟩), (40320, ⟨69, 4, [cI h3]⟩), (30224, ⟨69, 4, [cI r]⟩), (30192, ⟨69, 4, [cI h]⟩), (20448, ⟨69, 4, [cI s1]⟩), (64, ⟨99, 12, [cV zI zI zI]⟩), (32, ⟨99, 12, [cV x' y' z']⟩), (0, ⟨99, 12, [cV x y z]⟩)], 50000⟩ (k := 9) (by kernel_rfl) (by kernel_rfl) rfl
          case hz => repeat (first | exact Its.nil | apply Its.plain rfl | apply Its.guard rfl rfl)
          case hj => repeat (first | exact Tts.done | exact Its.nil | apply Tts.alt | apply Its.plain rfl | apply Its.guard rfl rfl | apply Tts.plain rfl | apply Tts.guard rfl rfl)
          case h3 =>
            intro G hG
            have hW : ∀ (fr : Fr) (hp : Hp), (fv 2 fr = .ptr 0 0 0 1 ∧ fv 3 fr = .ptr 32 0 0 1 ∧ fv 4 fr = .ptr 64 0 0 1 ∧ fv 9 fr = .ptr 20448 0 0 1 ∧ fv 11 fr = .ptr 30192 0 0 1 ∧ fv 12 fr = .ptr 30224 0 0 1 ∧ fv 14 fr = .ptr 40320 0 0 1 ∧ fv 15 fr = .ptr 40480 0 0 1 ∧ fv 16 fr = .ptr 40768 0 0 1 ∧ lk 40768 hp = some ⟨69, 4, [cI X]⟩ ∧ lk 40480 hp = some ⟨69, 4, [cI v]⟩ ∧ lk 40320 hp = some ⟨69, 4, [cI h3]⟩ ∧ lk 30224 hp = some ⟨69, 4, [cI r]⟩ ∧ lk 30192 hp = some ⟨69, 4, [cI h]⟩ ∧ lk 20448 hp = some ⟨69, 4, [cI s1]⟩ ∧ lk 64 hp = some ⟨99, 12, [cV zI zI zI]⟩ ∧ lk 32 hp = some ⟨99, 12, [cV x' y' z']⟩ ∧ lk 0 hp = some ⟨99, 12, [cV x y z]⟩) → G fr hp := by
              rintro fr hp ⟨q0, q1, q2, q3, q4, q5, q6, q7, q8, q9, q10, q11, q12, q13, q14, q15, q16, q17⟩
              refine hG _ _ (weak_wk ?_)
              simp only [Weak, slotOk]
              refine ⟨fun p hp => ?_, fun p hp => ?_, by simp⟩
              · simp only [List.mem_cons, List.mem_nil_iff, or_false] at hp
                rcases hp with rfl | rfl | rfl | rfl | rfl | rfl | rfl | rfl | rfl
                · exact ⟨.inl q0.symm, by simp [AV.low, AV.low1]⟩
                · exact ⟨.inl q1.symm, by simp [AV.low, AV.low1]⟩
                · exact ⟨.inl q2.symm, by simp [AV.low, AV.low1]⟩
                · exact ⟨.inl q3.symm, by simp [AV.low, AV.low1]⟩
                · exact ⟨.inl q4.symm, by simp [AV.low, AV.low1]⟩
                · exact ⟨.inl q5.symm, by simp [AV.low, AV.low1]⟩
                · exact ⟨.inl q6.symm, by simp [AV.low, AV.low1]⟩
                · exact ⟨.inl q7.symm, by simp [AV.low, AV.low1]⟩
                · exact ⟨.inl q8.symm, by simp [AV.low, AV.low1]⟩
              · simp only [List.mem_cons, List.mem_nil_iff, or_false] at hp
                rcases hp with rfl | rfl | rfl | rfl | rfl | rfl | rfl | rfl | rfl
                · exact ⟨.inl q9, by simp, by intro r hr; simp only [List.mem_cons, List.mem_nil_iff, or_false] at hr; subst hr; exact (by first | exact cI_low _ _ | exact cV_low _ _ _ _)⟩
                · exact ⟨.inl q10, by simp, by intro r hr; simp only [List.mem_cons, List.mem_nil_iff, or_false] at hr; subst hr; exact (by first | exact cI_low _ _ | exact cV_low _ _ _ _)⟩
                · exact ⟨.inl q11, by simp, by intro r hr; simp only [List.mem_cons, List.mem_nil_iff, or_false] at hr; subst hr; exact (by first | exact cI_low _ _ | exact cV_low _ _ _ _)⟩
                · exact ⟨.inl q12, by simp, by intro r hr; simp only [List.mem_cons, List.mem_nil_iff, or_false] at hr; subst hr; exact (by first | exact cI_low _ _ | exact cV_low _ _ _ _)⟩
                · exact ⟨.inl q13, by simp, by intro r hr; simp only [List.mem_cons, List.mem_nil_iff, or_false] at hr; subst hr; exact (by first | exact cI_low _ _ | exact cV_low _ _ _ _)⟩
                · exact ⟨.inl q14, by simp, by intro r hr; simp only [List.mem_cons, List.mem_nil_iff, or_false] at hr; subst hr; exact (by first | exact cI_low _ _ | exact cV_low _ _ _ _)⟩
                · exact ⟨.inl q15, by simp, by intro r hr; simp only [List.mem_cons, List.mem_nil_iff, or_false] at hr; subst hr; exact (by first | exact cI_low _ _ | exact cV_low _ _ _ _)⟩
                · exact ⟨.inl q16, by simp, by intro r hr; simp only [List.mem_cons, List.mem_nil_iff, or_false] at hr; subst hr; exact (by first | exact cI_low _ _ | exact cV_low _ _ _ _)⟩
                · exact ⟨.inl q17, by simp, by intro r hr; simp only [List.mem_cons, List.mem_nil_iff, or_false] at hr; subst hr; exact (by first | exact cI_low _ _ | exact cV_low _ _ _ _)⟩
            simp [go_sem, l12, l14, l15, l18, cI_take l12, cI_take l14, cI_take l15, cI_take l18, z4, SaW]
            repeat' first | exact hW _ _ ⟨rfl, rfl, rfl, rfl, rfl, rfl, rfl, rfl, rfl, rfl, rfl, rfl, rfl, rfl, rfl, rfl, rfl, rfl⟩ | (refine hW _ _ ?_; simp [fv, lk]; done) | refine cl_eq f16 (one_cI _) ?_ | refine cl_eq f17 (two_cI _ _) ?_ | refine cl_eq f20 (lw_deep _ _) ?_ | refine cl_eq f18 (two_cI _ _) ?_ | apply And.intro | simp [go_sem, l12, l14, l15, l18, cI_take l12, cI_take l14, cI_take l15, cI_take l18, z4, SaW]
          case hq =>
            simp [go_sem]
            apply draw3 (0 :: 1 :: 2 :: 5 :: 6 :: []) (3 :: 4 :: 7 :: 8 :: 9 :: 10 :: []) (0 :: 1 :: 2 :: 5 :: 6 :: []) (.alt (.step 3 ([]) true (.alt (.step 4 ([]) true (.alt (.step 7 ([]) false (.alt (.step 8 ([]) false (.step 9 ([]) false (.step 10 ([]) false .done))) (.step 9 ([]) false (.step 8 ([]) false (.step 10 ([]) false .done))))) (.step 9 ([]) true (.step 7 ([]) false (.step 8 ([]) false (.step 10 ([]) false .done)))))) (.step 9 ([]) true (.step 4 ([]) true (.step 7 ([]) false (.step 8 ([]) false (.step 10 ([]) false .done))))))) (.step 9 ([]) true (.step 3 ([]) true (.step 4 ([]) true (.step 7 ([]) false (.step 8 ([]) false (.step 10 ([]) false .done))))))) ⟨[(2, .ptr 0 0 0 1), (3, .ptr 32 0 0 1), (4, .ptr 64 0 0 1), (11, .ptr 30192 0 0 1), (16, .ptr 40768 0 0 1), (17, .ptr 50288 0 0 1)], [(50288, ⟨69, 4, [cI Y]⟩), (40768, ⟨69, 4, [cI X]⟩), (30192, ⟨69, 4, [cI h]⟩), (64, ⟨99, 12, [cV zI zI zI]⟩), (32, ⟨99, 12, [cV x' y' z']⟩), (0, ⟨99, 12, [cV x y z]⟩)], 60000⟩ (k := 11) (by kernel_rfl) (by kernel_rfl) rfl
            case hz => repeat (first | exact Its.nil | apply Its.plain rfl | apply Its.guard rfl rfl)
            case hj => repeat (first | exact Tts.done | exact Its.nil | apply Tts.alt | apply Its.plain rfl | apply Its.guard rfl rfl | apply Tts.plain rfl | apply Tts.guard rfl rfl)
            case h3 =>
              intro G hG
              have hW : ∀ (fr : Fr) (hp : Hp), (fv 2 fr = .ptr 0 0 0 1 ∧ fv 3 fr = .ptr 32 0 0 1 ∧ fv 4 fr = .ptr 64 0 0 1 ∧ fv 11 fr = .ptr 30192 0 0 1 ∧ fv 16 fr = .ptr 40768 0 0 1 ∧ fv 17 fr = .ptr 50288 0 0 1 ∧ lk 50288 hp = some ⟨69, 4, [cI Y]⟩ ∧ lk 40768 hp = some ⟨69, 4, [cI X]⟩ ∧ lk 30192 hp = some ⟨69, 4, [cI h]⟩ ∧ lk 64 hp = some ⟨99, 12, [cV zI zI zI]⟩ ∧ lk 32 hp = some ⟨99, 12, [cV x' y' z']⟩ ∧ lk 0 hp = some ⟨99, 12, [cV x y z]⟩) → G fr hp := by
                rintro fr hp ⟨q0, q1, q2, q3, q4, q5, q6, q7, q8, q9, q10, q11⟩
                refine hG _ _ (weak_wk ?_)
                simp only [Weak, slotOk]
                refine ⟨fun p hp => ?_, fun p hp => ?_, by simp⟩
                · simp only [List.mem_cons, List.mem_nil_iff, or_false] at hp
                  rcases hp with rfl | rfl | rfl | rfl | rfl | rfl
                  · exact ⟨.inl q0.symm, by simp [AV.low, AV.low1]⟩
                  · exact ⟨.inl q1.symm, by simp [AV.low, AV.low1]⟩
                  · exact ⟨.inl q2.symm, by simp [AV.low, AV.low1]⟩
                  · exact ⟨.inl q3.symm, by simp [AV.low, AV.low1]⟩
                  · exact ⟨.inl q4.symm, by simp [AV.low, AV.low1]⟩
                  · exact ⟨.inl q5.symm, by simp [AV.low, AV.low1]⟩
                · simp only [List.mem_cons, List.mem_nil_iff, or_false] at hp
                  rcases hp with rfl | rfl | rfl | rfl | rfl | rfl
                  · exact ⟨.inl q6, by simp, by intro r hr; simp only [List.mem_cons, List.mem_nil_iff, or_false] at hr; subst hr; exact (by first | exact cI_low _ _ | exact cV_low _ _ _ _)⟩
                  · exact ⟨.inl q7, by simp, by intro r hr; simp only [List.mem_cons, List.mem_nil_iff, or_false] at hr; subst hr; exact (by first | exact cI_low _ _ | exact cV_low _ _ _ _)⟩
                  · exact ⟨.inl q8, by simp, by intro r hr; simp only [List.mem_cons, List.mem_nil_iff, or_false] at hr; subst hr; exact (by first | exact cI_low _ _ | exact cV_low _ _ _ _)⟩
                  · exact ⟨.inl q9, by simp, by intro r hr; simp only [List.mem_cons, List.mem_nil_iff, or_false] at hr; subst hr; exact (by first | exact cI_low _ _ | exact cV_low _ _ _ _)⟩
                  · exact ⟨.inl q10, by simp, by intro r hr; simp only [List.mem_cons, List.mem_nil_iff, or_false] at hr; subst hr; exact (by first | exact cI_low _ _ | exact cV_low _ _ _ _)⟩
                  · exact ⟨.inl q11, by simp, by intro r hr; simp only [List.mem_cons, List.mem_nil_iff, or_false] at hr; subst hr; exact (by first | exact cI_low _ _ | exact cV_low _ _ _ _)⟩
              simp [go_sem, l7, l12, l14, l15, l18, l19, cI_take l7, cI_take l12, cI_take l14, cI_take l15, cI_take l18, cI_take l19, z4, SaW]
              repeat' first | exact hW _ _ ⟨rfl, rfl, rfl, rfl, rfl, rfl, rfl, rfl, rfl, rfl, rfl, rfl⟩ | (refine hW _ _ ?_; simp [fv, lk]; done) | refine cl_eq f21 (two_cI _ _) ?_ | refine cl_eq f22 (two_cI _ _) ?_ | refine cl_eq f24 (two_cI _ _) ?_ | refine cl_eq f19 (two_cI _ _) ?_ | apply And.intro | simp [go_sem, l7, l12, l14, l15, l18, l19, cI_take l7, cI_take l12, cI_take l14, cI_take l15, cI_take l18, cI_take l19, z4, SaW]
            case hq =>
              simp only [go_sem, Nat.reduceEqDiff, Nat.reduceAdd, Nat.reduceLT, ↓reduceIte]
              apply draw2 (0 :: 1 :: 2 :: 3 :: 4 :: 5 :: 6 :: []) ((7, ([])) :: (8, (9 :: [])) :: (10, ([])) :: []) 2 (k := 11) (by kernel_rfl) (by kernel_rfl) rfl
              case hz => repeat (first | exact Its.nil | apply Its.plain rfl | apply Its.guard rfl rfl)
              case hj => repeat (first | exact Jts.nil | exact Its.nil | apply Its.plain rfl | apply Its.guard rfl rfl | apply Jts.plain rfl | apply Jts.guard rfl rfl)
              intro G hG
              simp [go_sem, l18, l19, l11, cI_take l18, cI_take l19, cI_take l11, v3, v3b, vl, vlb]
              refine cl_eq f25 (two_cI _ _) ?_
              simp [go_sem]
              refine cl_eq f23 (two_cI _ _) ?_
              have ev : cI X ++ (cI Y ++ cI Z) = cV X Y Z := rfl
              have xl := cV_len l18 l19 l23
              have xt := cV_take l18 l19 l23
              simp [go_sem, l18, l19, l23, wl, wd, mk8 l18 l19, mk12 l18 l19, ev, xl, SaW]
              refine hG _ _ ?_
              simp [go_sem, xl, xt, resV]
              exact post_v rfl
end Go.Proofs.Ytgeabjjgeeakdaa
