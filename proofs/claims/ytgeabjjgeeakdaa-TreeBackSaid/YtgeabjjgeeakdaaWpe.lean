/-
  The curve's points: multiples, doubles, sums.
-/
import Derived.Test.YtgeabjjgeeakdaaWpd
namespace Go.Proofs.Ytgeabjjgeeakdaa
open Go.Am Go.Sha
set_option linter.unusedSimpArgs false
set_option linter.unusedVariables false

theorem lw_deep (c : Int) (a : List Int) : ∀ v, v ∈ [AV.d (.int .u64 c), AV.agg (cI a)] → v.deep := by
  intro v hv; simp at hv; rcases hv with rfl | rfl; trivial; exact cI_deepA _
set_option maxRecDepth 20000 in
set_option maxHeartbeats 4000000 in
theorem times_ex (n : Int) (a : List Int) (hn : R64 n) (ha : Wn 4 a) : ∃ r, Wn 4 r ∧ Rets Try.prog 78 [.d (.int .u64 n), .agg (cI a)] (fun x => x = .agg (cI r)) := by
  obtain ⟨r, hr, f1⟩ := fmul_ex [n, 0, 0, 0] a (fromI_W hn) ha
  unfold W2 at f1
  have hal := ha.1
  have hrl := hr.1
  have hz : List.drop 4 (cI zI) = [] := cI_drop rfl
  refine ⟨r, hr, ?_⟩
  refine fn_of_awp Try.func78 (by kernel_rfl) rfl Try.ntmps78 (rs := [.cell 4 69]) rfl (Nat.le_of_ble_eq_true rfl) (lw_deep _ _) ?_
  simp [go_sem, hal, cI_take hal]
  apply draw3 (0 :: 2 :: []) (1 :: 3 :: 4 :: []) (0 :: 2 :: []) (.step 1 ([]) true (.step 3 ([]) false (.step 4 ([]) false .done))) ⟨[(4, .ptr 32 0 0 1)], [(32, ⟨69, 4, [cI r]⟩)], 9000⟩ (k := 5) (by kernel_rfl) (by kernel_rfl) rfl
  case hz => repeat (first | exact Its.nil | apply Its.plain rfl | apply Its.guard rfl rfl)
  case hj => repeat (first | exact Tts.done | exact Its.nil | apply Tts.alt | apply Its.plain rfl | apply Its.guard rfl rfl | apply Tts.plain rfl | apply Tts.guard rfl rfl)
  case h3 =>
    intro G hG
    have hW : ∀ (fr : Fr) (hp : Hp), (fv 4 fr = .ptr 32 0 0 1 ∧ lk 32 hp = some ⟨69, 4, [cI r]⟩) → G fr hp := by
      rintro fr hp ⟨q0, q1⟩
      refine hG _ _ (weak_wk ?_)
      simp only [Weak, slotOk]
      refine ⟨fun p hp => ?_, fun p hp => ?_, by simp⟩
      · simp only [List.mem_cons, List.mem_nil_iff, or_false] at hp
        rcases hp with rfl
        · exact ⟨.inl q0.symm, by simp [AV.low, AV.low1]⟩
      · simp only [List.mem_cons, List.mem_nil_iff, or_false] at hp
        rcases hp with rfl
        · exact ⟨.inl q1, by simp, by intro r hr; simp only [List.mem_cons, List.mem_nil_iff, or_false] at hr; subst hr; exact cI_low _ _⟩
    simp [go_sem, hal, cI_take hal, hrl, cI_take hrl, hz, SaW]
    repeat' first | exact hW _ _ ⟨rfl, rfl⟩ | (refine hW _ _ ?_; simp [fv, lk]; done) | refine cl_eq (fromI_fn n) (one_i _) ?_ | refine cl_eq f1 (two_cI _ _) ?_ | apply And.intro | simp [go_sem, hal, cI_take hal, hrl, cI_take hrl, hz, SaW]
  case hq =>
    simp [go_sem, hrl, cI_take hrl, resV]
    exact post_w rfl

theorem mk8 {x y : List Int} (hx : x.length = 4) (hy : y.length = 4) : List.take 8 (cI x ++ (cI y ++ List.drop 8 (cI x ++ [AV.d (.int .u64 0), AV.d (.int .u64 0), AV.d (.int .u64 0), AV.d (.int .u64 0), AV.d (.int .u64 0), AV.d (.int .u64 0), AV.d (.int .u64 0), AV.d (.int .u64 0)]))) = cI x ++ cI y := by
  match x, y, hx, hy with
  | [a, b, c, d], [e, f, g, h], _, _ => rfl
theorem mk12 {x y : List Int} (hx : x.length = 4) (hy : y.length = 4) : List.drop 12 (cI x ++ (cI y ++ List.drop 8 (cI x ++ [AV.d (.int .u64 0), AV.d (.int .u64 0), AV.d (.int .u64 0), AV.d (.int .u64 0), AV.d (.int .u64 0), AV.d (.int .u64 0), AV.d (.int .u64 0), AV.d (.int .u64 0)]))) = [] := by
  match x, y, hx, hy with
  | [a, b, c, d], [e, f, g, h], _, _ => rfl
set_option maxRecDepth 20000 in
set_option maxHeartbeats 16000000 in
theorem doubled_ex (x y z : List Int) (hx : Wn 4 x) (hy : Wn 4 y) (hz : Wn 4 z) : ∃ (u v w : List Int), Wn 4 u ∧ Wn 4 v ∧ Wn 4 w ∧ Rets Try.prog 57 [.agg (cV x y z)] (fun r => r = .agg (cV u v w)) := by
  obtain ⟨y2, h1, f1⟩ := sq_ex y hy
  obtain ⟨m1, h2, f2⟩ := fmul_ex x y2 hx h1
  obtain ⟨s, h3, f3⟩ := times_ex 4 m1 ⟨by omega, by omega⟩ h2
  obtain ⟨x2, h4, f4⟩ := sq_ex x hx
  obtain ⟨m, h5, f5⟩ := times_ex 3 x2 ⟨by omega, by omega⟩ h4
  obtain ⟨m2, h6, f6⟩ := sq_ex m h5
  obtain ⟨s2, h7, f7⟩ := times_ex 2 s ⟨by omega, by omega⟩ h3
  obtain ⟨X, h8, f8⟩ := fsub_ex m2 s2 h6 h7
  obtain ⟨d, h9, f9⟩ := fsub_ex s X h3 h8
  obtain ⟨e, h10, f10⟩ := fmul_ex m d h5 h9
  obtain ⟨y4, h11, f11⟩ := sq_ex y2 h1
  obtain ⟨y8, h12, f12⟩ := times_ex 8 y4 ⟨by omega, by omega⟩ h11
  obtain ⟨Y, h13, f13⟩ := fsub_ex e y8 h10 h12
  obtain ⟨yz, h14, f14⟩ := fmul_ex y z hy hz
  obtain ⟨Z, h15, f15⟩ := times_ex 2 yz ⟨by omega, by omega⟩ h14
  obtain ⟨wu, wv, ww, h16, h17, h18, f16⟩ := weigh_ex zI zI true zI_W zI_W
  unfold W1 at f1 f4 f6 f11
  unfold W2 at f2 f8 f9 f10 f13 f14
  have l1 := h1.1
  have l2 := h2.1
  have l3 := h3.1
  have l4 := h4.1
  have l5 := h5.1
  have l6 := h6.1
  have l7 := h7.1
  have l8 := h8.1
  have l9 := h9.1
  have l10 := h10.1
  have l11 := h11.1
  have l12 := h12.1
  have l13 := h13.1
  have l14 := h14.1
  have l15 := h15.1
  have l16 := h16.1
  have l17 := h17.1
  have l18 := h18.1
  have hxl := hx.1
  have hyl := hy.1
  have hzl := hz.1
  have z4 : List.drop 4 (cI zI) = [] := cI_drop rfl
  have vl := cV_len hxl hyl hzl
  have vt := cV_take hxl hyl hzl
  have v1 : (cV x y z).take 4 = cI x := cV_x hxl
  have v2 := cV_y (z := z) hxl hyl
  have v3 := cV_z hxl hyl hzl
  have iz : intsOf .u64 [AV.d (.int .u64 0), AV.d (.int .u64 0), AV.d (.int .u64 0), AV.d (.int .u64 0)] = some zI := ints_cI zI
  have f0 := isZero_ex x y z hx hy hz
  have wd : (cV zI zI zI).drop 12 = [] := cV_drop rfl rfl rfl
  have wl : (cV zI zI zI).length = 12 := rfl
  have ul := cV_len l16 l17 l18
  have ut := cV_take l16 l17 l18
  by_cases q0 : z = zI ∨ y = zI
  · refine ⟨wu, wv, ww, h16, h17, h18, ?_⟩
    refine fn_of_awp Try.func57 (by kernel_rfl) rfl Try.ntmps57 (rs := [.cell 2 99]) rfl (Nat.le_of_ble_eq_true rfl) (one_cV _ _ _) ?_
    simp [go_sem, vl, vt]
    refine cl_eq f0 (one_cV _ _ _) ?_
    by_cases q1 : z = zI
    · simp [go_sem, q1]
      refine cl_eq zero_fn (by simp) ?_
      simp [go_sem]
      refine cl_eq f16 (one_cP _ _ _) ?_
      simp [go_sem, ul, ut, wd, wl, resV]
      exact post_v rfl
    · have q2 : y = zI := q0.resolve_left q1
      simp [go_sem, q1, v2, vl, ints_cI, iz, hyl]
      refine ⟨fun _ => ?_, fun h => absurd q2 h⟩
      refine cl_eq zero_fn (by simp) ?_
      simp [go_sem]
      refine cl_eq f16 (one_cP _ _ _) ?_
      simp [go_sem, ul, ut, wd, wl, resV]
      exact post_v rfl
  · have q1 : z ≠ zI := fun h => q0 (.inl h)
    have q2 : y ≠ zI := fun h => q0 (.inr h)
    refine ⟨X, Y, Z, h8, h13, h15, ?_⟩
    refine fn_of_awp Try.func57 (by kernel_rfl) rfl Try.ntmps57 (rs := [.cell 2 99]) rfl (Nat.le_of_ble_eq_true rfl) (one_cV _ _ _) ?_
    simp [go_sem, vl, vt]
    refine cl_eq f0 (one_cV _ _ _) ?_
    simp [go_sem, q1, q2, v2, vl, ints_cI, iz, hyl]
    refine cl_eq f1 (one_cI _) ?_
    simp [go_sem, l1, cI_take l1, z4, v1, vl]
    refine cl_eq f2 (two_cI _ _) ?_
    simp [go_sem]
    refine cl_eq f3 (lw_deep _ _) ?_
    simp [go_sem, l3, cI_take l3, z4, v1, vl]
    refine cl_eq f4 (one_cI _) ?_
    simp [go_sem]
    refine cl_eq f5 (lw_deep _ _) ?_
    simp [go_sem, l5, cI_take l5, z4]
    apply draw3 (0 :: 2 :: []) (1 :: 3 :: 4 :: 5 :: 6 :: []) (0 :: 2 :: []) (.alt (.step 1 ([]) true (.alt (.step 3 ([]) false (.alt (.step 4 ([]) false (.step 5 ([]) false (.step 6 ([]) false .done))) (.step 5 ([]) false (.step 4 ([]) false (.step 6 ([]) false .done))))) (.step 5 ([]) true (.step 3 ([]) false (.step 4 ([]) false (.step 6 ([]) false .done)))))) (.step 5 ([]) true (.step 1 ([]) true (.step 3 ([]) false (.step 4 ([]) false (.step 6 ([]) false .done)))))) ⟨[(1, .ptr 0 0 0 1), (2, .ptr 32 0 0 1), (3, .ptr 416 0 0 1), (4, .ptr 640 0 0 1), (5, .ptr 832 0 0 1), (6, .ptr 1056 0 0 1)], [(1056, ⟨69, 4, [cI X]⟩), (832, ⟨69, 4, [cI m]⟩), (640, ⟨69, 4, [cI s]⟩), (416, ⟨69, 4, [cI y2]⟩), (32, ⟨99, 12, [cV zI zI zI]⟩), (0, ⟨99, 12, [cV x y z]⟩)], 9000⟩ (k := 7) (by kernel_rfl) (by kernel_rfl) rfl
    case hz => repeat (first | exact Its.nil | apply Its.plain rfl | apply Its.guard rfl rfl)
    case hj => repeat (first | exact Tts.done | exact Its.nil | apply Tts.alt | apply Its.plain rfl | apply Its.guard rfl rfl | apply Tts.plain rfl | apply Tts.guard rfl rfl)
    case h3 =>
      intro G hG
      have hW : ∀ (fr : Fr) (hp : Hp), (fv 1 fr = .ptr 0 0 0 1 ∧ fv 2 fr = .ptr 32 0 0 1 ∧ fv 3 fr = .ptr 416 0 0 1 ∧ fv 4 fr = .ptr 640 0 0 1 ∧ fv 5 fr = .ptr 832 0 0 1 ∧ fv 6 fr = .ptr 1056 0 0 1 ∧ lk 1056 hp = some ⟨69, 4, [cI X]⟩ ∧ lk 832 hp = some ⟨69, 4, [cI m]⟩ ∧ lk 640 hp = some ⟨69, 4, [cI s]⟩ ∧ lk 416 hp = some ⟨69, 4, [cI y2]⟩ ∧ lk 32 hp = some ⟨99, 12, [cV zI zI zI]⟩ ∧ lk 0 hp = some ⟨99, 12, [cV x y z]⟩) → G fr hp := by
        rintro fr hp ⟨q0, q1, q2, q3, q4, q5, q6, q7, q8, q9, q10, q11⟩
        refine hG _ _ (weak_wk ?_)
        simp only [Weak, slotOk]
        refine ⟨fun p hp => ?_, fun p hp => ?_, by simp⟩
        · simp only [List.mem_cons, List.mem_nil_iff, or_false] at hp
          rcases hp with rfl | rfl | rfl | rfl | rfl | rfl
          · exact ⟨.inl q0.symm, by simp [AV.low, AV.low1]⟩
          · exact ⟨.inl q1.symm, by simp [AV.low, AV.low1]⟩
          · exact ⟨.inl q2.symm, by simp [AV.low, AV.low1]⟩
          · exact ⟨.inl q3.symm, by simp [AV.low, AV.low1]⟩
          · exact ⟨.inl q4.symm, by simp [AV.low, AV.low1]⟩
          · exact ⟨.inl q5.symm, by simp [AV.low, AV.low1]⟩
        · simp only [List.mem_cons, List.mem_nil_iff, or_false] at hp
          rcases hp with rfl | rfl | rfl | rfl | rfl | rfl
          · exact ⟨.inl q6, by simp, by intro r hr; simp only [List.mem_cons, List.mem_nil_iff, or_false] at hr; subst hr; exact (by first | exact cI_low _ _ | exact cV_low _ _ _ _)⟩
          · exact ⟨.inl q7, by simp, by intro r hr; simp only [List.mem_cons, List.mem_nil_iff, or_false] at hr; subst hr; exact (by first | exact cI_low _ _ | exact cV_low _ _ _ _)⟩
          · exact ⟨.inl q8, by simp, by intro r hr; simp only [List.mem_cons, List.mem_nil_iff, or_false] at hr; subst hr; exact (by first | exact cI_low _ _ | exact cV_low _ _ _ _)⟩
          · exact ⟨.inl q9, by simp, by intro r hr; simp only [List.mem_cons, List.mem_nil_iff, or_false] at hr; subst hr; exact (by first | exact cI_low _ _ | exact cV_low _ _ _ _)⟩
          · exact ⟨.inl q10, by simp, by intro r hr; simp only [List.mem_cons, List.mem_nil_iff, or_false] at hr; subst hr; exact (by first | exact cI_low _ _ | exact cV_low _ _ _ _)⟩
          · exact ⟨.inl q11, by simp, by intro r hr; simp only [List.mem_cons, List.mem_nil_iff, or_false] at hr; subst hr; exact (by first | exact cI_low _ _ | exact cV_low _ _ _ _)⟩
      simp [go_sem, l1, l3, l5, l8, l13, cI_take l1, cI_take l3, cI_take l5, cI_take l8, cI_take l13, z4, SaW]
      repeat' first | exact hW _ _ ⟨rfl, rfl, rfl, rfl, rfl, rfl, rfl, rfl, rfl, rfl, rfl, rfl⟩ | (refine hW _ _ ?_; simp [fv, lk]; done) | refine cl_eq f6 (one_cI _) ?_ | refine cl_eq f7 (lw_deep _ _) ?_ | refine cl_eq f8 (two_cI _ _) ?_ | apply And.intro | simp [go_sem, l1, l3, l5, l8, l13, cI_take l1, cI_take l3, cI_take l5, cI_take l8, cI_take l13, z4, SaW]
    case hq =>
      simp [go_sem]
      apply draw3 (0 :: 1 :: 2 :: 5 :: []) (3 :: 4 :: 6 :: 7 :: 8 :: 9 :: 10 :: []) (0 :: 1 :: 2 :: 5 :: []) (.alt (.step 3 ([]) true (.alt (.step 4 ([]) true (.alt (.step 6 ([]) false (.alt (.step 7 ([]) false (.alt (.step 8 ([]) false (.step 9 ([]) false (.step 10 ([]) false .done))) (.step 9 ([]) false (.step 8 ([]) false (.step 10 ([]) false .done))))) (.step 9 ([]) false (.step 7 ([]) false (.step 8 ([]) false (.step 10 ([]) false .done)))))) (.step 9 ([]) true (.step 6 ([]) false (.step 7 ([]) false (.step 8 ([]) false (.step 10 ([]) false .done))))))) (.step 9 ([]) true (.step 4 ([]) true (.step 6 ([]) false (.step 7 ([]) false (.step 8 ([]) false (.step 10 ([]) false .done)))))))) (.step 9 ([]) true (.step 3 ([]) true (.step 4 ([]) true (.step 6 ([]) false (.step 7 ([]) false (.step 8 ([]) false (.step 10 ([]) false .done)))))))) ⟨[(1, .ptr 0 0 0 1), (2, .ptr 32 0 0 1), (3, .ptr 416 0 0 1), (4, .ptr 640 0 0 1), (5, .ptr 832 0 0 1), (6, .ptr 1056 0 0 1), (7, .ptr 9288 0 0 1)], [(9288, ⟨69, 4, [cI Y]⟩), (1056, ⟨69, 4, [cI X]⟩), (832, ⟨69, 4, [cI m]⟩), (640, ⟨69, 4, [cI s]⟩), (416, ⟨69, 4, [cI y2]⟩), (32, ⟨99, 12, [cV zI zI zI]⟩), (0, ⟨99, 12, [cV x y z]⟩)], 20000⟩ (k := 11) (by kernel_rfl) (by kernel_rfl) rfl
      case hz => repeat (first | exact Its.nil | apply Its.plain rfl | apply Its.guard rfl rfl)
      case hj => repeat (first | exact Tts.done | exact Its.nil | apply Tts.alt | apply Its.plain rfl | apply Its.guard rfl rfl | apply Tts.plain rfl | apply Tts.guard rfl rfl)
      case h3 =>
        intro G hG
        have hW : ∀ (fr : Fr) (hp : Hp), (fv 1 fr = .ptr 0 0 0 1 ∧ fv 2 fr = .ptr 32 0 0 1 ∧ fv 3 fr = .ptr 416 0 0 1 ∧ fv 4 fr = .ptr 640 0 0 1 ∧ fv 5 fr = .ptr 832 0 0 1 ∧ fv 6 fr = .ptr 1056 0 0 1 ∧ fv 7 fr = .ptr 9288 0 0 1 ∧ lk 9288 hp = some ⟨69, 4, [cI Y]⟩ ∧ lk 1056 hp = some ⟨69, 4, [cI X]⟩ ∧ lk 832 hp = some ⟨69, 4, [cI m]⟩ ∧ lk 640 hp = some ⟨69, 4, [cI s]⟩ ∧ lk 416 hp = some ⟨69, 4, [cI y2]⟩ ∧ lk 32 hp = some ⟨99, 12, [cV zI zI zI]⟩ ∧ lk 0 hp = some ⟨99, 12, [cV x y z]⟩) → G fr hp := by
          rintro fr hp ⟨q0, q1, q2, q3, q4, q5, q6, q7, q8, q9, q10, q11, q12, q13⟩
          refine hG _ _ (weak_wk ?_)
          simp only [Weak, slotOk]
          refine ⟨fun p hp => ?_, fun p hp => ?_, by simp⟩
          · simp only [List.mem_cons, List.mem_nil_iff, or_false] at hp
            rcases hp with rfl | rfl | rfl | rfl | rfl | rfl | rfl
            · exact ⟨.inl q0.symm, by simp [AV.low, AV.low1]⟩
            · exact ⟨.inl q1.symm, by simp [AV.low, AV.low1]⟩
            · exact ⟨.inl q2.symm, by simp [AV.low, AV.low1]⟩
            · exact ⟨.inl q3.symm, by simp [AV.low, AV.low1]⟩
            · exact ⟨.inl q4.symm, by simp [AV.low, AV.low1]⟩
            · exact ⟨.inl q5.symm, by simp [AV.low, AV.low1]⟩
            · exact ⟨.inl q6.symm, by simp [AV.low, AV.low1]⟩
          · simp only [List.mem_cons, List.mem_nil_iff, or_false] at hp
            rcases hp with rfl | rfl | rfl | rfl | rfl | rfl | rfl
            · exact ⟨.inl q7, by simp, by intro r hr; simp only [List.mem_cons, List.mem_nil_iff, or_false] at hr; subst hr; exact (by first | exact cI_low _ _ | exact cV_low _ _ _ _)⟩
            · exact ⟨.inl q8, by simp, by intro r hr; simp only [List.mem_cons, List.mem_nil_iff, or_false] at hr; subst hr; exact (by first | exact cI_low _ _ | exact cV_low _ _ _ _)⟩
            · exact ⟨.inl q9, by simp, by intro r hr; simp only [List.mem_cons, List.mem_nil_iff, or_false] at hr; subst hr; exact (by first | exact cI_low _ _ | exact cV_low _ _ _ _)⟩
            · exact ⟨.inl q10, by simp, by intro r hr; simp only [List.mem_cons, List.mem_nil_iff, or_false] at hr; subst hr; exact (by first | exact cI_low _ _ | exact cV_low _ _ _ _)⟩
            · exact ⟨.inl q11, by simp, by intro r hr; simp only [List.mem_cons, List.mem_nil_iff, or_false] at hr; subst hr; exact (by first | exact cI_low _ _ | exact cV_low _ _ _ _)⟩
            · exact ⟨.inl q12, by simp, by intro r hr; simp only [List.mem_cons, List.mem_nil_iff, or_false] at hr; subst hr; exact (by first | exact cI_low _ _ | exact cV_low _ _ _ _)⟩
            · exact ⟨.inl q13, by simp, by intro r hr; simp only [List.mem_cons, List.mem_nil_iff, or_false] at hr; subst hr; exact (by first | exact cI_low _ _ | exact cV_low _ _ _ _)⟩
        simp [go_sem, l1, l3, l5, l8, l13, cI_take l1, cI_take l3, cI_take l5, cI_take l8, cI_take l13, z4, SaW]
        repeat' first | exact hW _ _ ⟨rfl, rfl, rfl, rfl, rfl, rfl, rfl, rfl, rfl, rfl, rfl, rfl, rfl, rfl⟩ | (refine hW _ _ ?_; simp [fv, lk]; done) | refine cl_eq f9 (two_cI _ _) ?_ | refine cl_eq f10 (two_cI _ _) ?_ | refine cl_eq f11 (one_cI _) ?_ | refine cl_eq f12 (lw_deep _ _) ?_ | refine cl_eq f13 (two_cI _ _) ?_ | apply And.intro | simp [go_sem, l1, l3, l5, l8, l13, cI_take l1, cI_take l3, cI_take l5, cI_take l8, cI_take l13, z4, SaW]
      case hq =>
        simp only [go_sem, Nat.reduceEqDiff, Nat.reduceAdd, Nat.reduceLT, ↓reduceIte]
        apply draw2 (0 :: 1 :: 2 :: 3 :: 4 :: 5 :: []) ((6, ([])) :: (7, (8 :: [])) :: (9, ([])) :: []) 2 (k := 10) (by kernel_rfl) (by kernel_rfl) rfl
        case hz => repeat (first | exact Its.nil | apply Its.plain rfl | apply Its.guard rfl rfl)
        case hj => repeat (first | exact Jts.nil | exact Its.nil | apply Its.plain rfl | apply Its.guard rfl rfl | apply Jts.plain rfl | apply Jts.guard rfl rfl)
        intro G hG
        simp [go_sem, l8, l13, cI_take l8, cI_take l13, v2, v3, vl]
        refine cl_eq f14 (two_cI _ _) ?_
        simp [go_sem]
        refine cl_eq f15 (lw_deep _ _) ?_
        have ev : cI X ++ (cI Y ++ cI Z) = cV X Y Z := rfl
        have xl := cV_len l8 l13 l15
        have xt := cV_take l8 l13 l15
        simp [go_sem, l8, l13, l15, wl, wd, mk8 l8 l13, mk12 l8 l13, ev, xl, SaW]
        refine hG _ _ ?_
        simp [go_sem, xl, xt, resV]
        exact post_v rfl
end Go.Proofs.Ytgeabjjgeeakdaa
