/-
  Part 9 of what the claim rests on.
-/
import Derived.Test.YtldccnbokbieiaaGreatQ6
import Derived.Test.YtldccnbokbieiaaGreatQ7
set_option linter.unusedVariables false
set_option linter.unusedSimpArgs false
set_option maxRecDepth 100000
set_option maxHeartbeats 16000000
namespace Go.Proofs.YtldccnbokbieiaaGreat
open Go.Am Go.Sha Go.Ec
theorem rplus (x y z x' y' z' : List Int) (hx : Wn 4 x) (hy : Wn 4 y) (hz : Wn 4 z) (hx' : Wn 4 x') (hy' : Wn 4 y') (hz' : Wn 4 z') : ∃ (X Y Z : List Int), Wn 4 X ∧ Wn 4 Y ∧ Wn 4 Z ∧ (isF x y z → isF x' y' z' → isF X Y Z ∧ FrV X Y Z = sum fd (FrV x y z) (FrV x' y' z')) ∧ Rets Tryz.prog 185 [.agg (cV x y z), .agg (cV x' y' z')] (fun r => r = .agg (cV X Y Z)) := by
  obtain ⟨px, h1, g1, f1⟩ := rmul x z' hx hz'
  obtain ⟨py, h2, g2, f2⟩ := rmul y z' hy hz'
  obtain ⟨u1, h3, g3, f3⟩ := rmul y' z hy' hz
  obtain ⟨u, h4, g4, f4⟩ := rsub u1 py h3 h2
  obtain ⟨v0, h5, g5, f5⟩ := rmul x' z hx' hz
  obtain ⟨v, h6, g6, f6⟩ := rsub v0 px h5 h1
  obtain ⟨zz, h7, g7, f7⟩ := rmul z z' hz hz'
  obtain ⟨v2, h8, g8, f8⟩ := rmul v v h6 h6
  obtain ⟨v3w, h9, g9, f9⟩ := rmul v2 v h8 h6
  obtain ⟨r, h10, g10, f10⟩ := rmul v2 px h8 h1
  obtain ⟨uu, h11, g11, f11⟩ := rmul u u h4 h4
  obtain ⟨uz, h12, g12, f12⟩ := rmul uu zz h11 h7
  obtain ⟨c1, h13, g13, f13⟩ := rsub uz v3w h12 h9
  obtain ⟨rr, h14, g14, f14⟩ := radd r r h10 h10
  obtain ⟨a, h15, g15, f15⟩ := rsub c1 rr h13 h14
  obtain ⟨ra, h16, g16, f16⟩ := rsub r a h10 h15
  obtain ⟨ura, h17, g17, f17⟩ := rmul u ra h4 h16
  obtain ⟨vpy, h18, g18, f18⟩ := rmul v3w py h9 h2
  obtain ⟨Y, h19, g19, f19⟩ := rsub ura vpy h17 h18
  obtain ⟨X, h20, g20, f20⟩ := rmul v a h6 h15
  obtain ⟨Z, h21, g21, f21⟩ := rmul v3w zz h9 h7
  obtain ⟨tx, ty, tz, h22, h23, h24, g22, f22⟩ := rtwice x y z hx hy hz
  unfold W2 at f1 f2 f3 f4 f5 f6 f7 f8 f9 f10 f11 f12 f13 f14 f15 f16 f17 f18 f19 f20 f21
  have l1 := h1.1
  have l2 := h2.1
  have l4 := h4.1
  have l6 := h6.1
  have l7 := h7.1
  have l8 := h8.1
  have l9 := h9.1
  have l10 := h10.1
  have l15 := h15.1
  have l19 := h19.1
  have l20 := h20.1
  have l21 := h21.1
  have l22 := h22.1
  have l23 := h23.1
  have l24 := h24.1
  have hxl := hx.1
  have hyl := hy.1
  have hzl := hz.1
  have hxl' := hx'.1
  have hyl' := hy'.1
  have hzl' := hz'.1
  have z4 : List.drop 4 (cI zI) = [] := cI_drop rfl
  have iz : intsOf .u64 [AV.d (.int .u64 0), AV.d (.int .u64 0), AV.d (.int .u64 0), AV.d (.int .u64 0)] = some zI := ints_cI zI
  have vl := cV_len hxl hyl hzl
  have vt := cV_take hxl hyl hzl
  have v1 : (cV x y z).take 4 = cI x := cV_x hxl
  have v2' := cV_y (z := z) hxl hyl
  have v3 := cV_z hxl hyl hzl
  have vlb := cV_len hxl' hyl' hzl'
  have vtb := cV_take hxl' hyl' hzl'
  have v1b : (cV x' y' z').take 4 = cI x' := cV_x hxl'
  have v2b := cV_y (z := z') hxl' hyl'
  have v3b := cV_z hxl' hyl' hzl'
  have wd : (cV zI zI zI).drop 12 = [] := cV_drop rfl rfl rfl
  have wl : (cV zI zI zI).length = 12 := rfl
  have ul := cV_len l22 l23 l24
  have ut := cV_take l22 l23 l24
  by_cases q1 : z = zI
  · refine ⟨x', y', z', hx', hy', hz', fun _ hj => ⟨hj, by rw [q1, FrV_z]; exact (sum_none fd hj.2).symm⟩, ?_⟩
    subst q1
    refine fna Tryz.func185 Tryz.ntmps185 (rs := [.cell 4 208]) (two_cF _ _ _ _ _ _) ?_
    simp [go_sem, vl, vt, vlb, vtb, v3, v3b, ints_cI, iz, hzl, hzl', wl, wd, resV]
    exact post_v rfl
  by_cases q2 : z' = zI
  · refine ⟨x, y, z, hx, hy, hz, fun hj _ => ⟨hj, by rw [q2, FrV_z]; exact (none_sum fd hj.2).symm⟩, ?_⟩
    subst q2
    refine fna Tryz.func185 Tryz.ntmps185 (rs := [.cell 4 208]) (two_cF _ _ _ _ _ _) ?_
    simp [go_sem, vl, vt, vlb, vtb, v3, v3b, ints_cI, iz, hzl, hzl', q1, wl, wd, resV]
    exact post_v rfl
  have hne : isF x y z → FV z ≠ 0 := fun hj h => q1 ((FV_zero hz hj.1.2.2).1 h)
  have hne' : isF x' y' z' → FV z' ≠ 0 := fun hj h => q2 ((FV_zero hz' hj.1.2.2).1 h)
  have main : isF x y z → isF x' y' z' → _ := fun hj hj' => fr_plus fd (px := FV px) (py := FV py) (u := FV u) (v := FV v) (hne hj) (hne' hj') hj.2 hj'.2 g1.2 g2.2 (by rw [g4.2, g3.2]) (by rw [g6.2, g5.2])
  have hv0 : FV v = 0 ↔ v = zI := FV_zero h6 g6.1
  have hu0 : FV u = 0 ↔ u = zI := FV_zero h4 g4.1
  by_cases q3 : v = zI
  · by_cases q4 : u = zI
    · refine ⟨tx, ty, tz, h22, h23, h24, fun hj hj' => ?_, ?_⟩
      · obtain ⟨k1, k2⟩ := g22 hj
        have e := (main hj hj').2.1 (hv0.2 q3) (hu0.2 q4)
        exact ⟨k1, by rw [k2]; exact congrArg (sum fd (FrV x y z)) e⟩
      refine fna Tryz.func185 Tryz.ntmps185 (rs := [.cell 4 208]) (two_cF _ _ _ _ _ _) ?_
      simp [go_sem, vl, vt, vlb, vtb, v3, v3b, ints_cI, iz, hzl, hzl', q1, q2]
      refine drw3 [0,1,2,3,5,6,7,8] [4,9,10,11,12,13] [0,1,2,3,5,6,7,8] (.alt (.step 4 [] true (.alt (.step 9 [] false (.alt (.step 10 [] false (.step 11 [] false (.step 12 [] false (.step 13 [] false .done)))) (.step 11 [] false (.step 10 [] false (.step 12 [] false (.step 13 [] false .done)))))) (.alt (.step 10 [] true (.alt (.step 9 [] false (.step 11 [] false (.step 12 [] false (.step 13 [] false .done)))) (.step 11 [] true (.step 9 [] false (.step 12 [] false (.step 13 [] false .done)))))) (.step 11 [] true (.alt (.step 9 [] false (.step 10 [] false (.step 12 [] false (.step 13 [] false .done)))) (.step 10 [] true (.step 9 [] false (.step 12 [] false (.step 13 [] false .done))))))))) (.alt (.step 10 [] true (.alt (.step 4 [] true (.alt (.step 9 [] false (.step 11 [] false (.step 12 [] false (.step 13 [] false .done)))) (.step 11 [] true (.step 9 [] false (.step 12 [] false (.step 13 [] false .done)))))) (.step 11 [] true (.step 4 [] true (.step 9 [] false (.step 12 [] false (.step 13 [] false .done))))))) (.step 11 [] true (.alt (.step 4 [] true (.alt (.step 9 [] false (.step 10 [] false (.step 12 [] false (.step 13 [] false .done)))) (.step 10 [] true (.step 9 [] false (.step 12 [] false (.step 13 [] false .done)))))) (.step 10 [] true (.step 4 [] true (.step 9 [] false (.step 12 [] false (.step 13 [] false .done))))))))) ⟨[(2, .ptr 0 0 0 1), (3, .ptr 32 0 0 1), (4, .ptr 64 0 0 1), (5, .ptr 672 0 0 1), (6, .ptr 704 0 0 1)], [(704, ⟨160, 4, [cI py]⟩), (672, ⟨160, 4, [cI px]⟩), (64, ⟨208, 12, [cV zI zI zI]⟩), (32, ⟨208, 12, [cV x' y' z']⟩), (0, ⟨208, 12, [cV x y z]⟩)], 4000⟩ (k := 14) ?h3 ?hq
      case h3 =>
        intro G hG
        have hW : ∀ (fr : Fr) (hp : Hp), (fv 2 fr = .ptr 0 0 0 1 ∧ fv 3 fr = .ptr 32 0 0 1 ∧ fv 4 fr = .ptr 64 0 0 1 ∧ fv 5 fr = .ptr 672 0 0 1 ∧ fv 6 fr = .ptr 704 0 0 1 ∧ lk 704 hp = some ⟨160, 4, [cI py]⟩ ∧ lk 672 hp = some ⟨160, 4, [cI px]⟩ ∧ lk 64 hp = some ⟨208, 12, [cV zI zI zI]⟩ ∧ lk 32 hp = some ⟨208, 12, [cV x' y' z']⟩ ∧ lk 0 hp = some ⟨208, 12, [cV x y z]⟩) → G fr hp := by
          rintro fr hp ⟨q0, q1, q2, q3, q4, q5, q6, q7, q8, q9⟩
          exact hG _ _ wkA
        simp [go_sem, v1, v2', v3, vl, v1b, v2b, v3b, vlb, l1, l2, cI_take l1, cI_take l2, z4, SaW]
        repeat' first | exact hW _ _ ⟨rfl, rfl, rfl, rfl, rfl, rfl, rfl, rfl, rfl, rfl⟩ | (refine hW _ _ ?_; simp [fv, lk]; done) | refine cl_eq f1 (two_cI _ _) ?_ | refine cl_eq f2 (two_cI _ _) ?_ | apply And.intro | simp [go_sem, v1, v2', v3, vl, v1b, v2b, v3b, vlb, l1, l2, cI_take l1, cI_take l2, z4, SaW]
      case hq =>
        simp [go_sem]
        refine drw3 [0,1,2,3,5] [4,6,7,8] [0,1,2,3,5] (.alt (.step 4 [] true (.alt (.step 6 [] false (.step 7 [] false (.step 8 [] false .done))) (.step 7 [] true (.step 6 [] false (.step 8 [] false .done))))) (.step 7 [] true (.step 4 [] true (.step 6 [] false (.step 8 [] false .done))))) ⟨[(2, .ptr 0 0 0 1), (3, .ptr 32 0 0 1), (4, .ptr 64 0 0 1), (5, .ptr 672 0 0 1), (6, .ptr 704 0 0 1), (7, .ptr 4224 0 0 1)], [(4224, ⟨160, 4, [cI u]⟩), (704, ⟨160, 4, [cI py]⟩), (672, ⟨160, 4, [cI px]⟩), (64, ⟨208, 12, [cV zI zI zI]⟩), (32, ⟨208, 12, [cV x' y' z']⟩), (0, ⟨208, 12, [cV x y z]⟩)], 9000⟩ (k := 9) ?h3 ?hq
        case h3 =>
          intro G hG
          have hW : ∀ (fr : Fr) (hp : Hp), (fv 2 fr = .ptr 0 0 0 1 ∧ fv 3 fr = .ptr 32 0 0 1 ∧ fv 4 fr = .ptr 64 0 0 1 ∧ fv 5 fr = .ptr 672 0 0 1 ∧ fv 6 fr = .ptr 704 0 0 1 ∧ fv 7 fr = .ptr 4224 0 0 1 ∧ lk 4224 hp = some ⟨160, 4, [cI u]⟩ ∧ lk 704 hp = some ⟨160, 4, [cI py]⟩ ∧ lk 672 hp = some ⟨160, 4, [cI px]⟩ ∧ lk 64 hp = some ⟨208, 12, [cV zI zI zI]⟩ ∧ lk 32 hp = some ⟨208, 12, [cV x' y' z']⟩ ∧ lk 0 hp = some ⟨208, 12, [cV x y z]⟩) → G fr hp := by
            rintro fr hp ⟨q0, q1, q2, q3, q4, q5, q6, q7, q8, q9, q10, q11⟩
            exact hG _ _ wkA
          simp [go_sem, v1, v2', v3, vl, v1b, v2b, v3b, vlb, l2, l4, cI_take l2, cI_take l4, z4, SaW]
          repeat' first | exact hW _ _ ⟨rfl, rfl, rfl, rfl, rfl, rfl, rfl, rfl, rfl, rfl, rfl, rfl⟩ | (refine hW _ _ ?_; simp [fv, lk]; done) | refine cl_eq f3 (two_cI _ _) ?_ | refine cl_eq f4 (two_cI _ _) ?_ | apply And.intro | simp [go_sem, v1, v2', v3, vl, v1b, v2b, v3b, vlb, l2, l4, cI_take l2, cI_take l4, z4, SaW]
        case hq =>
          simp [go_sem]
          refine drw3 [0,1,2,3,5] [4,6,7,8] [0,1,2,3,5] (.alt (.step 4 [] true (.alt (.step 6 [] false (.step 7 [] false (.step 8 [] false .done))) (.step 7 [] true (.step 6 [] false (.step 8 [] false .done))))) (.step 7 [] true (.step 4 [] true (.step 6 [] false (.step 8 [] false .done))))) ⟨[(2, .ptr 0 0 0 1), (3, .ptr 32 0 0 1), (4, .ptr 64 0 0 1), (5, .ptr 672 0 0 1), (6, .ptr 704 0 0 1), (7, .ptr 4224 0 0 1), (8, .ptr 9224 0 0 1)], [(9224, ⟨160, 4, [cI v]⟩), (4224, ⟨160, 4, [cI u]⟩), (704, ⟨160, 4, [cI py]⟩), (672, ⟨160, 4, [cI px]⟩), (64, ⟨208, 12, [cV zI zI zI]⟩), (32, ⟨208, 12, [cV x' y' z']⟩), (0, ⟨208, 12, [cV x y z]⟩)], 20000⟩ (k := 9) ?h3 ?hq
          case h3 =>
            intro G hG
            have hW : ∀ (fr : Fr) (hp : Hp), (fv 2 fr = .ptr 0 0 0 1 ∧ fv 3 fr = .ptr 32 0 0 1 ∧ fv 4 fr = .ptr 64 0 0 1 ∧ fv 5 fr = .ptr 672 0 0 1 ∧ fv 6 fr = .ptr 704 0 0 1 ∧ fv 7 fr = .ptr 4224 0 0 1 ∧ fv 8 fr = .ptr 9224 0 0 1 ∧ lk 9224 hp = some ⟨160, 4, [cI v]⟩ ∧ lk 4224 hp = some ⟨160, 4, [cI u]⟩ ∧ lk 704 hp = some ⟨160, 4, [cI py]⟩ ∧ lk 672 hp = some ⟨160, 4, [cI px]⟩ ∧ lk 64 hp = some ⟨208, 12, [cV zI zI zI]⟩ ∧ lk 32 hp = some ⟨208, 12, [cV x' y' z']⟩ ∧ lk 0 hp = some ⟨208, 12, [cV x y z]⟩) → G fr hp := by
              rintro fr hp ⟨q0, q1, q2, q3, q4, q5, q6, q7, q8, q9, q10, q11, q12, q13⟩
              exact hG _ _ wkA
            simp [go_sem, v1, v2', v3, vl, v1b, v2b, v3b, vlb, l1, l6, cI_take l1, cI_take l6, z4, SaW]
            repeat' first | exact hW _ _ ⟨rfl, rfl, rfl, rfl, rfl, rfl, rfl, rfl, rfl, rfl, rfl, rfl, rfl, rfl⟩ | (refine hW _ _ ?_; simp [fv, lk]; done) | refine cl_eq f5 (two_cI _ _) ?_ | refine cl_eq f6 (two_cI _ _) ?_ | apply And.intro | simp [go_sem, v1, v2', v3, vl, v1b, v2b, v3b, vlb, l1, l6, cI_take l1, cI_take l6, z4, SaW]
          case hq =>
            simp [go_sem, l6, l4, cI_take l6, cI_take l4, ints_cI, iz, q3, q4, cI_take (l := zI) (n := 4) rfl, zI_len, vl, vt]
            refine cl_eq f22 (one_cV _ _ _) ?_
            simp [go_sem, ul, ut, wl, wd, resV]
            exact post_v rfl
    · refine ⟨zI, zI, zI, zI_W, zI_W, zI_W, fun hj hj' => ⟨isF_z, ?_⟩, ?_⟩
      · rw [FrV_z]
        exact ((main hj hj').2.2 (hv0.2 q3) (fun h => q4 (hu0.1 h))).symm
      refine fna Tryz.func185 Tryz.ntmps185 (rs := [.cell 4 208]) (two_cF _ _ _ _ _ _) ?_
      simp [go_sem, vl, vt, vlb, vtb, v3, v3b, ints_cI, iz, hzl, hzl', q1, q2]
      refine drw3 [0,1,2,3,5,6,7,8] [4,9,10,11,12,13] [0,1,2,3,5,6,7,8] (.alt (.step 4 [] true (.alt (.step 9 [] false (.alt (.step 10 [] false (.step 11 [] false (.step 12 [] false (.step 13 [] false .done)))) (.step 11 [] false (.step 10 [] false (.step 12 [] false (.step 13 [] false .done)))))) (.alt (.step 10 [] true (.alt (.step 9 [] false (.step 11 [] false (.step 12 [] false (.step 13 [] false .done)))) (.step 11 [] true (.step 9 [] false (.step 12 [] false (.step 13 [] false .done)))))) (.step 11 [] true (.alt (.step 9 [] false (.step 10 [] false (.step 12 [] false (.step 13 [] false .done)))) (.step 10 [] true (.step 9 [] false (.step 12 [] false (.step 13 [] false .done))))))))) (.alt (.step 10 [] true (.alt (.step 4 [] true (.alt (.step 9 [] false (.step 11 [] false (.step 12 [] false (.step 13 [] false .done)))) (.step 11 [] true (.step 9 [] false (.step 12 [] false (.step 13 [] false .done)))))) (.step 11 [] true (.step 4 [] true (.step 9 [] false (.step 12 [] false (.step 13 [] false .done))))))) (.step 11 [] true (.alt (.step 4 [] true (.alt (.step 9 [] false (.step 10 [] false (.step 12 [] false (.step 13 [] false .done)))) (.step 10 [] true (.step 9 [] false (.step 12 [] false (.step 13 [] false .done)))))) (.step 10 [] true (.step 4 [] true (.step 9 [] false (.step 12 [] false (.step 13 [] false .done))))))))) ⟨[(2, .ptr 0 0 0 1), (3, .ptr 32 0 0 1), (4, .ptr 64 0 0 1), (5, .ptr 672 0 0 1), (6, .ptr 704 0 0 1)], [(704, ⟨160, 4, [cI py]⟩), (672, ⟨160, 4, [cI px]⟩), (64, ⟨208, 12, [cV zI zI zI]⟩), (32, ⟨208, 12, [cV x' y' z']⟩), (0, ⟨208, 12, [cV x y z]⟩)], 4000⟩ (k := 14) ?h3 ?hq
      case h3 =>
        intro G hG
        have hW : ∀ (fr : Fr) (hp : Hp), (fv 2 fr = .ptr 0 0 0 1 ∧ fv 3 fr = .ptr 32 0 0 1 ∧ fv 4 fr = .ptr 64 0 0 1 ∧ fv 5 fr = .ptr 672 0 0 1 ∧ fv 6 fr = .ptr 704 0 0 1 ∧ lk 704 hp = some ⟨160, 4, [cI py]⟩ ∧ lk 672 hp = some ⟨160, 4, [cI px]⟩ ∧ lk 64 hp = some ⟨208, 12, [cV zI zI zI]⟩ ∧ lk 32 hp = some ⟨208, 12, [cV x' y' z']⟩ ∧ lk 0 hp = some ⟨208, 12, [cV x y z]⟩) → G fr hp := by
          rintro fr hp ⟨q0, q1, q2, q3, q4, q5, q6, q7, q8, q9⟩
          exact hG _ _ wkA
        simp [go_sem, v1, v2', v3, vl, v1b, v2b, v3b, vlb, l1, l2, cI_take l1, cI_take l2, z4, SaW]
        repeat' first | exact hW _ _ ⟨rfl, rfl, rfl, rfl, rfl, rfl, rfl, rfl, rfl, rfl⟩ | (refine hW _ _ ?_; simp [fv, lk]; done) | refine cl_eq f1 (two_cI _ _) ?_ | refine cl_eq f2 (two_cI _ _) ?_ | apply And.intro | simp [go_sem, v1, v2', v3, vl, v1b, v2b, v3b, vlb, l1, l2, cI_take l1, cI_take l2, z4, SaW]
      case hq =>
        simp [go_sem]
        refine drw3 [0,1,2,3,5] [4,6,7,8] [0,1,2,3,5] (.alt (.step 4 [] true (.alt (.step 6 [] false (.step 7 [] false (.step 8 [] false .done))) (.step 7 [] true (.step 6 [] false (.step 8 [] false .done))))) (.step 7 [] true (.step 4 [] true (.step 6 [] false (.step 8 [] false .done))))) ⟨[(2, .ptr 0 0 0 1), (3, .ptr 32 0 0 1), (4, .ptr 64 0 0 1), (5, .ptr 672 0 0 1), (6, .ptr 704 0 0 1), (7, .ptr 4224 0 0 1)], [(4224, ⟨160, 4, [cI u]⟩), (704, ⟨160, 4, [cI py]⟩), (672, ⟨160, 4, [cI px]⟩), (64, ⟨208, 12, [cV zI zI zI]⟩), (32, ⟨208, 12, [cV x' y' z']⟩), (0, ⟨208, 12, [cV x y z]⟩)], 9000⟩ (k := 9) ?h3 ?hq
        case h3 =>
          intro G hG
          have hW : ∀ (fr : Fr) (hp : Hp), (fv 2 fr = .ptr 0 0 0 1 ∧ fv 3 fr = .ptr 32 0 0 1 ∧ fv 4 fr = .ptr 64 0 0 1 ∧ fv 5 fr = .ptr 672 0 0 1 ∧ fv 6 fr = .ptr 704 0 0 1 ∧ fv 7 fr = .ptr 4224 0 0 1 ∧ lk 4224 hp = some ⟨160, 4, [cI u]⟩ ∧ lk 704 hp = some ⟨160, 4, [cI py]⟩ ∧ lk 672 hp = some ⟨160, 4, [cI px]⟩ ∧ lk 64 hp = some ⟨208, 12, [cV zI zI zI]⟩ ∧ lk 32 hp = some ⟨208, 12, [cV x' y' z']⟩ ∧ lk 0 hp = some ⟨208, 12, [cV x y z]⟩) → G fr hp := by
            rintro fr hp ⟨q0, q1, q2, q3, q4, q5, q6, q7, q8, q9, q10, q11⟩
            exact hG _ _ wkA
          simp [go_sem, v1, v2', v3, vl, v1b, v2b, v3b, vlb, l2, l4, cI_take l2, cI_take l4, z4, SaW]
          repeat' first | exact hW _ _ ⟨rfl, rfl, rfl, rfl, rfl, rfl, rfl, rfl, rfl, rfl, rfl, rfl⟩ | (refine hW _ _ ?_; simp [fv, lk]; done) | refine cl_eq f3 (two_cI _ _) ?_ | refine cl_eq f4 (two_cI _ _) ?_ | apply And.intro | simp [go_sem, v1, v2', v3, vl, v1b, v2b, v3b, vlb, l2, l4, cI_take l2, cI_take l4, z4, SaW]
        case hq =>
          simp [go_sem]
          refine drw3 [0,1,2,3,5] [4,6,7,8] [0,1,2,3,5] (.alt (.step 4 [] true (.alt (.step 6 [] false (.step 7 [] false (.step 8 [] false .done))) (.step 7 [] true (.step 6 [] false (.step 8 [] false .done))))) (.step 7 [] true (.step 4 [] true (.step 6 [] false (.step 8 [] false .done))))) ⟨[(2, .ptr 0 0 0 1), (3, .ptr 32 0 0 1), (4, .ptr 64 0 0 1), (5, .ptr 672 0 0 1), (6, .ptr 704 0 0 1), (7, .ptr 4224 0 0 1), (8, .ptr 9224 0 0 1)], [(9224, ⟨160, 4, [cI v]⟩), (4224, ⟨160, 4, [cI u]⟩), (704, ⟨160, 4, [cI py]⟩), (672, ⟨160, 4, [cI px]⟩), (64, ⟨208, 12, [cV zI zI zI]⟩), (32, ⟨208, 12, [cV x' y' z']⟩), (0, ⟨208, 12, [cV x y z]⟩)], 20000⟩ (k := 9) ?h3 ?hq
          case h3 =>
            intro G hG
            have hW : ∀ (fr : Fr) (hp : Hp), (fv 2 fr = .ptr 0 0 0 1 ∧ fv 3 fr = .ptr 32 0 0 1 ∧ fv 4 fr = .ptr 64 0 0 1 ∧ fv 5 fr = .ptr 672 0 0 1 ∧ fv 6 fr = .ptr 704 0 0 1 ∧ fv 7 fr = .ptr 4224 0 0 1 ∧ fv 8 fr = .ptr 9224 0 0 1 ∧ lk 9224 hp = some ⟨160, 4, [cI v]⟩ ∧ lk 4224 hp = some ⟨160, 4, [cI u]⟩ ∧ lk 704 hp = some ⟨160, 4, [cI py]⟩ ∧ lk 672 hp = some ⟨160, 4, [cI px]⟩ ∧ lk 64 hp = some ⟨208, 12, [cV zI zI zI]⟩ ∧ lk 32 hp = some ⟨208, 12, [cV x' y' z']⟩ ∧ lk 0 hp = some ⟨208, 12, [cV x y z]⟩) → G fr hp := by
              rintro fr hp ⟨q0, q1, q2, q3, q4, q5, q6, q7, q8, q9, q10, q11, q12, q13⟩
              exact hG _ _ wkA
            simp [go_sem, v1, v2', v3, vl, v1b, v2b, v3b, vlb, l1, l6, cI_take l1, cI_take l6, z4, SaW]
            repeat' first | exact hW _ _ ⟨rfl, rfl, rfl, rfl, rfl, rfl, rfl, rfl, rfl, rfl, rfl, rfl, rfl, rfl⟩ | (refine hW _ _ ?_; simp [fv, lk]; done) | refine cl_eq f5 (two_cI _ _) ?_ | refine cl_eq f6 (two_cI _ _) ?_ | apply And.intro | simp [go_sem, v1, v2', v3, vl, v1b, v2b, v3b, vlb, l1, l6, cI_take l1, cI_take l6, z4, SaW]
          case hq =>
            simp [go_sem, l6, l4, cI_take l6, cI_take l4, ints_cI, iz, q3, q4, cI_take (l := zI) (n := 4) rfl, zI_len, wl, wd, resV]
            exact post_v (x := zI) (y := zI) (z := zI) rfl
  · refine ⟨X, Y, Z, h20, h19, h21, fun hj hj' => ?_, ?_⟩
    · obtain ⟨_, e⟩ := (main hj hj').1 (fun h => q3 (hv0.1 h))
      have eZ : FV Z = FV v * FV v * FV v * (FV z * FV z') := by rw [g21.2, g9.2, g8.2, g7.2]
      have eX : FV X = FV v * (FV u * FV u * (FV z * FV z') - FV v * FV v * FV v - (FV v * FV v * FV px + FV v * FV v * FV px)) := by rw [g20.2, g15.2, g13.2, g12.2, g11.2, g14.2, g10.2, g9.2, g8.2, g7.2]
      have eY : FV Y = FV u * (FV v * FV v * FV px - (FV u * FV u * (FV z * FV z') - FV v * FV v * FV v - (FV v * FV v * FV px + FV v * FV v * FV px))) - FV v * FV v * FV v * FV py := by rw [g19.2, g17.2, g16.2, g15.2, g13.2, g12.2, g11.2, g14.2, g10.2, g18.2, g9.2, g8.2, g7.2]
      have e2 : FrV X Y Z = sum fd (FrV x y z) (FrV x' y' z') := by
        show fr fd (FV X) (FV Y) (FV Z) = _
        rw [eX, eY, eZ]
        exact e
      exact ⟨⟨⟨g20.1, g19.1, g21.1⟩, by rw [e2]; exact sum_on fd hj.2 hj'.2⟩, e2⟩
    refine fna Tryz.func185 Tryz.ntmps185 (rs := [.cell 4 208]) (two_cF _ _ _ _ _ _) ?_
    simp [go_sem, vl, vt, vlb, vtb, v3, v3b, ints_cI, iz, hzl, hzl', q1, q2]
    refine drw3 [0,1,2,3,5,6,7,8] [4,9,10,11,12,13] [0,1,2,3,5,6,7,8] (.alt (.step 4 [] true (.alt (.step 9 [] false (.alt (.step 10 [] false (.step 11 [] false (.step 12 [] false (.step 13 [] false .done)))) (.step 11 [] false (.step 10 [] false (.step 12 [] false (.step 13 [] false .done)))))) (.alt (.step 10 [] true (.alt (.step 9 [] false (.step 11 [] false (.step 12 [] false (.step 13 [] false .done)))) (.step 11 [] true (.step 9 [] false (.step 12 [] false (.step 13 [] false .done)))))) (.step 11 [] true (.alt (.step 9 [] false (.step 10 [] false (.step 12 [] false (.step 13 [] false .done)))) (.step 10 [] true (.step 9 [] false (.step 12 [] false (.step 13 [] false .done))))))))) (.alt (.step 10 [] true (.alt (.step 4 [] true (.alt (.step 9 [] false (.step 11 [] false (.step 12 [] false (.step 13 [] false .done)))) (.step 11 [] true (.step 9 [] false (.step 12 [] false (.step 13 [] false .done)))))) (.step 11 [] true (.step 4 [] true (.step 9 [] false (.step 12 [] false (.step 13 [] false .done))))))) (.step 11 [] true (.alt (.step 4 [] true (.alt (.step 9 [] false (.step 10 [] false (.step 12 [] false (.step 13 [] false .done)))) (.step 10 [] true (.step 9 [] false (.step 12 [] false (.step 13 [] false .done)))))) (.step 10 [] true (.step 4 [] true (.step 9 [] false (.step 12 [] false (.step 13 [] false .done))))))))) ⟨[(2, .ptr 0 0 0 1), (3, .ptr 32 0 0 1), (4, .ptr 64 0 0 1), (5, .ptr 672 0 0 1), (6, .ptr 704 0 0 1)], [(704, ⟨160, 4, [cI py]⟩), (672, ⟨160, 4, [cI px]⟩), (64, ⟨208, 12, [cV zI zI zI]⟩), (32, ⟨208, 12, [cV x' y' z']⟩), (0, ⟨208, 12, [cV x y z]⟩)], 4000⟩ (k := 14) ?h3 ?hq
    case h3 =>
      intro G hG
      have hW : ∀ (fr : Fr) (hp : Hp), (fv 2 fr = .ptr 0 0 0 1 ∧ fv 3 fr = .ptr 32 0 0 1 ∧ fv 4 fr = .ptr 64 0 0 1 ∧ fv 5 fr = .ptr 672 0 0 1 ∧ fv 6 fr = .ptr 704 0 0 1 ∧ lk 704 hp = some ⟨160, 4, [cI py]⟩ ∧ lk 672 hp = some ⟨160, 4, [cI px]⟩ ∧ lk 64 hp = some ⟨208, 12, [cV zI zI zI]⟩ ∧ lk 32 hp = some ⟨208, 12, [cV x' y' z']⟩ ∧ lk 0 hp = some ⟨208, 12, [cV x y z]⟩) → G fr hp := by
        rintro fr hp ⟨q0, q1, q2, q3, q4, q5, q6, q7, q8, q9⟩
        exact hG _ _ wkA
      simp [go_sem, v1, v2', v3, vl, v1b, v2b, v3b, vlb, l1, l2, cI_take l1, cI_take l2, z4, SaW]
      repeat' first | exact hW _ _ ⟨rfl, rfl, rfl, rfl, rfl, rfl, rfl, rfl, rfl, rfl⟩ | (refine hW _ _ ?_; simp [fv, lk]; done) | refine cl_eq f1 (two_cI _ _) ?_ | refine cl_eq f2 (two_cI _ _) ?_ | apply And.intro | simp [go_sem, v1, v2', v3, vl, v1b, v2b, v3b, vlb, l1, l2, cI_take l1, cI_take l2, z4, SaW]
    case hq =>
      simp [go_sem]
      refine drw3 [0,1,2,3,5] [4,6,7,8] [0,1,2,3,5] (.alt (.step 4 [] true (.alt (.step 6 [] false (.step 7 [] false (.step 8 [] false .done))) (.step 7 [] true (.step 6 [] false (.step 8 [] false .done))))) (.step 7 [] true (.step 4 [] true (.step 6 [] false (.step 8 [] false .done))))) ⟨[(2, .ptr 0 0 0 1), (3, .ptr 32 0 0 1), (4, .ptr 64 0 0 1), (5, .ptr 672 0 0 1), (6, .ptr 704 0 0 1), (7, .ptr 4224 0 0 1)], [(4224, ⟨160, 4, [cI u]⟩), (704, ⟨160, 4, [cI py]⟩), (672, ⟨160, 4, [cI px]⟩), (64, ⟨208, 12, [cV zI zI zI]⟩), (32, ⟨208, 12, [cV x' y' z']⟩), (0, ⟨208, 12, [cV x y z]⟩)], 9000⟩ (k := 9) ?h3 ?hq
      case h3 =>
        intro G hG
        have hW : ∀ (fr : Fr) (hp : Hp), (fv 2 fr = .ptr 0 0 0 1 ∧ fv 3 fr = .ptr 32 0 0 1 ∧ fv 4 fr = .ptr 64 0 0 1 ∧ fv 5 fr = .ptr 672 0 0 1 ∧ fv 6 fr = .ptr 704 0 0 1 ∧ fv 7 fr = .ptr 4224 0 0 1 ∧ lk 4224 hp = some ⟨160, 4, [cI u]⟩ ∧ lk 704 hp = some ⟨160, 4, [cI py]⟩ ∧ lk 672 hp = some ⟨160, 4, [cI px]⟩ ∧ lk 64 hp = some ⟨208, 12, [cV zI zI zI]⟩ ∧ lk 32 hp = some ⟨208, 12, [cV x' y' z']⟩ ∧ lk 0 hp = some ⟨208, 12, [cV x y z]⟩) → G fr hp := by
          rintro fr hp ⟨q0, q1, q2, q3, q4, q5, q6, q7, q8, q9, q10, q11⟩
          exact hG _ _ wkA
        simp [go_sem, v1, v2', v3, vl, v1b, v2b, v3b, vlb, l2, l4, cI_take l2, cI_take l4, z4, SaW]
        repeat' first | exact hW _ _ ⟨rfl, rfl, rfl, rfl, rfl, rfl, rfl, rfl, rfl, rfl, rfl, rfl⟩ | (refine hW _ _ ?_; simp [fv, lk]; done) | refine cl_eq f3 (two_cI _ _) ?_ | refine cl_eq f4 (two_cI _ _) ?_ | apply And.intro | simp [go_sem, v1, v2', v3, vl, v1b, v2b, v3b, vlb, l2, l4, cI_take l2, cI_take l4, z4, SaW]
      case hq =>
        simp [go_sem]
        refine drw3 [0,1,2,3,5] [4,6,7,8] [0,1,2,3,5] (.alt (.step 4 [] true (.alt (.step 6 [] false (.step 7 [] false (.step 8 [] false .done))) (.step 7 [] true (.step 6 [] false (.step 8 [] false .done))))) (.step 7 [] true (.step 4 [] true (.step 6 [] false (.step 8 [] false .done))))) ⟨[(2, .ptr 0 0 0 1), (3, .ptr 32 0 0 1), (4, .ptr 64 0 0 1), (5, .ptr 672 0 0 1), (6, .ptr 704 0 0 1), (7, .ptr 4224 0 0 1), (8, .ptr 9224 0 0 1)], [(9224, ⟨160, 4, [cI v]⟩), (4224, ⟨160, 4, [cI u]⟩), (704, ⟨160, 4, [cI py]⟩), (672, ⟨160, 4, [cI px]⟩), (64, ⟨208, 12, [cV zI zI zI]⟩), (32, ⟨208, 12, [cV x' y' z']⟩), (0, ⟨208, 12, [cV x y z]⟩)], 20000⟩ (k := 9) ?h3 ?hq
        case h3 =>
          intro G hG
          have hW : ∀ (fr : Fr) (hp : Hp), (fv 2 fr = .ptr 0 0 0 1 ∧ fv 3 fr = .ptr 32 0 0 1 ∧ fv 4 fr = .ptr 64 0 0 1 ∧ fv 5 fr = .ptr 672 0 0 1 ∧ fv 6 fr = .ptr 704 0 0 1 ∧ fv 7 fr = .ptr 4224 0 0 1 ∧ fv 8 fr = .ptr 9224 0 0 1 ∧ lk 9224 hp = some ⟨160, 4, [cI v]⟩ ∧ lk 4224 hp = some ⟨160, 4, [cI u]⟩ ∧ lk 704 hp = some ⟨160, 4, [cI py]⟩ ∧ lk 672 hp = some ⟨160, 4, [cI px]⟩ ∧ lk 64 hp = some ⟨208, 12, [cV zI zI zI]⟩ ∧ lk 32 hp = some ⟨208, 12, [cV x' y' z']⟩ ∧ lk 0 hp = some ⟨208, 12, [cV x y z]⟩) → G fr hp := by
            rintro fr hp ⟨q0, q1, q2, q3, q4, q5, q6, q7, q8, q9, q10, q11, q12, q13⟩
            exact hG _ _ wkA
          simp [go_sem, v1, v2', v3, vl, v1b, v2b, v3b, vlb, l1, l6, cI_take l1, cI_take l6, z4, SaW]
          repeat' first | exact hW _ _ ⟨rfl, rfl, rfl, rfl, rfl, rfl, rfl, rfl, rfl, rfl, rfl, rfl, rfl, rfl⟩ | (refine hW _ _ ?_; simp [fv, lk]; done) | refine cl_eq f5 (two_cI _ _) ?_ | refine cl_eq f6 (two_cI _ _) ?_ | apply And.intro | simp [go_sem, v1, v2', v3, vl, v1b, v2b, v3b, vlb, l1, l6, cI_take l1, cI_take l6, z4, SaW]
        case hq =>
          simp [go_sem, l6, cI_take l6, ints_cI, iz, q3, vl, vlb, v3, v3b]
          refine cl_eq f7 (two_cI _ _) ?_
          simp [go_sem, l7, cI_take l7, z4, l6, cI_take l6]
          refine cl_eq f8 (two_cI _ _) ?_
          simp [go_sem, l8, cI_take l8, z4, l6, cI_take l6]
          refine cl_eq f9 (two_cI _ _) ?_
          simp [go_sem, l9, cI_take l9, z4, l8, cI_take l8, l1, cI_take l1]
          refine cl_eq f10 (two_cI _ _) ?_
          simp [go_sem, l10, cI_take l10, z4]
          refine drw3 [0,1,3,5,7,8] [2,4,6,9,10,11,12] [0,1,3,5,7,8] (.alt (.step 2 [] true (.alt (.step 4 [] true (.alt (.step 6 [] true (.alt (.step 9 [] false (.alt (.step 10 [] false (.step 11 [] false (.step 12 [] false .done))) (.step 11 [] false (.step 10 [] false (.step 12 [] false .done))))) (.step 11 [] true (.step 9 [] false (.step 10 [] false (.step 12 [] false .done)))))) (.step 11 [] true (.step 6 [] true (.step 9 [] false (.step 10 [] false (.step 12 [] false .done))))))) (.step 11 [] true (.step 4 [] true (.step 6 [] true (.step 9 [] false (.step 10 [] false (.step 12 [] false .done)))))))) (.step 11 [] true (.step 2 [] true (.step 4 [] true (.step 6 [] true (.step 9 [] false (.step 10 [] false (.step 12 [] false .done)))))))) ⟨[(4, .ptr 64 0 0 1), (6, .ptr 704 0 0 1), (7, .ptr 4224 0 0 1), (8, .ptr 9224 0 0 1), (9, .ptr 20256 0 0 1), (11, .ptr 20576 0 0 1), (12, .ptr 20736 0 0 1), (13, .ptr 21152 0 0 1)], [(21152, ⟨160, 4, [cI a]⟩), (20736, ⟨160, 4, [cI r]⟩), (20576, ⟨160, 4, [cI v3w]⟩), (20256, ⟨160, 4, [cI zz]⟩), (9224, ⟨160, 4, [cI v]⟩), (4224, ⟨160, 4, [cI u]⟩), (704, ⟨160, 4, [cI py]⟩), (64, ⟨208, 12, [cV zI zI zI]⟩)], 30000⟩ (k := 13) ?h3 ?hq
          case h3 =>
            intro G hG
            have hW : ∀ (fr : Fr) (hp : Hp), (fv 4 fr = .ptr 64 0 0 1 ∧ fv 6 fr = .ptr 704 0 0 1 ∧ fv 7 fr = .ptr 4224 0 0 1 ∧ fv 8 fr = .ptr 9224 0 0 1 ∧ fv 9 fr = .ptr 20256 0 0 1 ∧ fv 11 fr = .ptr 20576 0 0 1 ∧ fv 12 fr = .ptr 20736 0 0 1 ∧ fv 13 fr = .ptr 21152 0 0 1 ∧ lk 21152 hp = some ⟨160, 4, [cI a]⟩ ∧ lk 20736 hp = some ⟨160, 4, [cI r]⟩ ∧ lk 20576 hp = some ⟨160, 4, [cI v3w]⟩ ∧ lk 20256 hp = some ⟨160, 4, [cI zz]⟩ ∧ lk 9224 hp = some ⟨160, 4, [cI v]⟩ ∧ lk 4224 hp = some ⟨160, 4, [cI u]⟩ ∧ lk 704 hp = some ⟨160, 4, [cI py]⟩ ∧ lk 64 hp = some ⟨208, 12, [cV zI zI zI]⟩) → G fr hp := by
              rintro fr hp ⟨q0, q1, q2, q3, q4, q5, q6, q7, q8, q9, q10, q11, q12, q13, q14, q15⟩
              exact hG _ _ wkA
            simp [go_sem, l4, l7, l9, l10, l15, cI_take l4, cI_take l7, cI_take l9, cI_take l10, cI_take l15, z4, SaW]
            repeat' first | exact hW _ _ ⟨rfl, rfl, rfl, rfl, rfl, rfl, rfl, rfl, rfl, rfl, rfl, rfl, rfl, rfl, rfl, rfl⟩ | (refine hW _ _ ?_; simp [fv, lk]; done) | refine cl_eq f11 (two_cI _ _) ?_ | refine cl_eq f12 (two_cI _ _) ?_ | refine cl_eq f13 (two_cI _ _) ?_ | refine cl_eq f14 (two_cI _ _) ?_ | refine cl_eq f15 (two_cI _ _) ?_ | apply And.intro | simp [go_sem, l4, l7, l9, l10, l15, cI_take l4, cI_take l7, cI_take l9, cI_take l10, cI_take l15, z4, SaW]
          case hq =>
            simp [go_sem]
            refine drw3 [0,1,2,5,6] [3,4,7,8,9,10] [0,1,2,5,6] (.alt (.step 3 [] true (.alt (.step 4 [] true (.alt (.step 7 [] false (.alt (.step 8 [] false (.step 9 [] false (.step 10 [] false .done))) (.step 9 [] false (.step 8 [] false (.step 10 [] false .done))))) (.step 9 [] true (.step 7 [] false (.step 8 [] false (.step 10 [] false .done)))))) (.step 9 [] true (.step 4 [] true (.step 7 [] false (.step 8 [] false (.step 10 [] false .done))))))) (.step 9 [] true (.step 3 [] true (.step 4 [] true (.step 7 [] false (.step 8 [] false (.step 10 [] false .done))))))) ⟨[(4, .ptr 64 0 0 1), (8, .ptr 9224 0 0 1), (9, .ptr 20256 0 0 1), (11, .ptr 20576 0 0 1), (13, .ptr 21152 0 0 1), (14, .ptr 30288 0 0 1)], [(30288, ⟨160, 4, [cI Y]⟩), (21152, ⟨160, 4, [cI a]⟩), (20576, ⟨160, 4, [cI v3w]⟩), (20256, ⟨160, 4, [cI zz]⟩), (9224, ⟨160, 4, [cI v]⟩), (64, ⟨208, 12, [cV zI zI zI]⟩)], 40000⟩ (k := 11) ?h3 ?hq
            case h3 =>
              intro G hG
              have hW : ∀ (fr : Fr) (hp : Hp), (fv 4 fr = .ptr 64 0 0 1 ∧ fv 8 fr = .ptr 9224 0 0 1 ∧ fv 9 fr = .ptr 20256 0 0 1 ∧ fv 11 fr = .ptr 20576 0 0 1 ∧ fv 13 fr = .ptr 21152 0 0 1 ∧ fv 14 fr = .ptr 30288 0 0 1 ∧ lk 30288 hp = some ⟨160, 4, [cI Y]⟩ ∧ lk 21152 hp = some ⟨160, 4, [cI a]⟩ ∧ lk 20576 hp = some ⟨160, 4, [cI v3w]⟩ ∧ lk 20256 hp = some ⟨160, 4, [cI zz]⟩ ∧ lk 9224 hp = some ⟨160, 4, [cI v]⟩ ∧ lk 64 hp = some ⟨208, 12, [cV zI zI zI]⟩) → G fr hp := by
                rintro fr hp ⟨q0, q1, q2, q3, q4, q5, q6, q7, q8, q9, q10, q11⟩
                exact hG _ _ wkA
              simp [go_sem, l4, l10, l15, l9, l2, l19, cI_take l4, cI_take l10, cI_take l15, cI_take l9, cI_take l2, cI_take l19, z4, SaW]
              repeat' first | exact hW _ _ ⟨rfl, rfl, rfl, rfl, rfl, rfl, rfl, rfl, rfl, rfl, rfl, rfl⟩ | (refine hW _ _ ?_; simp [fv, lk]; done) | refine cl_eq f16 (two_cI _ _) ?_ | refine cl_eq f17 (two_cI _ _) ?_ | refine cl_eq f18 (two_cI _ _) ?_ | refine cl_eq f19 (two_cI _ _) ?_ | apply And.intro | simp [go_sem, l4, l10, l15, l9, l2, l19, cI_take l4, cI_take l10, cI_take l15, cI_take l9, cI_take l2, cI_take l19, z4, SaW]
            case hq =>
              simp [go_sem]
              refine drw2 [0,1,3,4,5] [(2, []),(6, [7]),(8, [])] 2 (k := 9) ?_
              intro G hG
              simp [go_sem, l6, l15, l19, l9, l7, cI_take l6, cI_take l15, cI_take l19, cI_take l9, cI_take l7]
              refine cl_eq f20 (two_cI _ _) ?_
              simp [go_sem, l9, l7, l19, cI_take l9, cI_take l7, cI_take l19]
              refine cl_eq f21 (two_cI _ _) ?_
              have ev : cI X ++ (cI Y ++ cI Z) = cV X Y Z := rfl
              have xl := cV_len l20 l19 l21
              have xt := cV_take l20 l19 l21
              simp [go_sem, l20, l19, l21, wl, wd, mk8 l20 l19, mk12 l20 l19, ev, xl, SaW]
              refine hG _ _ ?_
              simp [go_sem, xl, xt, resV]
              exact post_v rfl
abbrev T3r := List Int × List Int × List Int
def W3r (s : T3r) : Prop := Wn 4 s.1 ∧ Wn 4 s.2.1 ∧ Wn 4 s.2.2
def isF3 (s : T3r) : Prop := isF s.1 s.2.1 s.2.2
noncomputable def FrV3 (s : T3r) : Pt pP := FrV s.1 s.2.1 s.2.2
theorem rtwF : ∃ D : T3r → T3r, ∀ s, W3r s → W3r (D s) ∧ (isF3 s → isF3 (D s) ∧ FrV3 (D s) = sum fd (FrV3 s) (FrV3 s)) ∧ Rets Tryz.prog 183 [.agg (cV s.1 s.2.1 s.2.2)] (fun r => r = .agg (cV (D s).1 (D s).2.1 (D s).2.2)) :=
  pick (α := T3r) (β := T3r) (A := W3r) (B := fun s t => W3r t ∧ (isF3 s → isF3 t ∧ FrV3 t = sum fd (FrV3 s) (FrV3 s)) ∧ Rets Tryz.prog 183 [.agg (cV s.1 s.2.1 s.2.2)] (fun r => r = .agg (cV t.1 t.2.1 t.2.2))) (fun s hs => by
    obtain ⟨u, v, w, h1, h2, h3, h4, h5⟩ := rtwice s.1 s.2.1 s.2.2 hs.1 hs.2.1 hs.2.2
    exact ⟨(u, v, w), ⟨h1, h2, h3⟩, h4, h5⟩)
theorem rplF : ∃ D : T3r × T3r → T3r, ∀ s, (W3r s.1 ∧ W3r s.2) → W3r (D s) ∧ (isF3 s.1 → isF3 s.2 → isF3 (D s) ∧ FrV3 (D s) = sum fd (FrV3 s.1) (FrV3 s.2)) ∧ Rets Tryz.prog 185 [.agg (cV s.1.1 s.1.2.1 s.1.2.2), .agg (cV s.2.1 s.2.2.1 s.2.2.2)] (fun r => r = .agg (cV (D s).1 (D s).2.1 (D s).2.2)) :=
  pick (α := T3r × T3r) (β := T3r) (A := fun s => W3r s.1 ∧ W3r s.2) (B := fun s t => W3r t ∧ (isF3 s.1 → isF3 s.2 → isF3 t ∧ FrV3 t = sum fd (FrV3 s.1) (FrV3 s.2)) ∧ Rets Tryz.prog 185 [.agg (cV s.1.1 s.1.2.1 s.1.2.2), .agg (cV s.2.1 s.2.2.1 s.2.2.2)] (fun r => r = .agg (cV t.1 t.2.1 t.2.2))) (fun s hs => by
    obtain ⟨u, v, w, h1, h2, h3, h4, h5⟩ := rplus s.1.1 s.1.2.1 s.1.2.2 s.2.1 s.2.2.1 s.2.2.2 hs.1.1 hs.1.2.1 hs.1.2.2 hs.2.1 hs.2.2.1 hs.2.2.2
    exact ⟨(u, v, w), ⟨h1, h2, h3⟩, h4, h5⟩)
def stpX (D : T3r → T3r) (A : T3r × T3r → T3r) (k : List Int) (one : T3r) (n j : Nat) (s : T3r) : T3r := if btN k (n - 1 - j) = 1 then A (D s, one) else D s
theorem mulX_ok {D : T3r → T3r} {A : T3r × T3r → T3r} (hD : ∀ s, W3r s → W3r (D s) ∧ (isF3 s → isF3 (D s) ∧ FrV3 (D s) = sum fd (FrV3 s) (FrV3 s))) (hA : ∀ s : T3r × T3r, (W3r s.1 ∧ W3r s.2) → W3r (A s) ∧ (isF3 s.1 → isF3 s.2 → isF3 (A s) ∧ FrV3 (A s) = sum fd (FrV3 s.1) (FrV3 s.2)))
    {k : List Int} (hk : Wn 4 k) {one : T3r} (h1 : W3r one) (j1 : isF3 one) {n : Nat} (hn : (V k).toNat < 2 ^ n) : ∀ j, j ≤ n → W3r (itr (stpX D A k one n) (zI, zI, zI) j) ∧ isF3 (itr (stpX D A k one n) (zI, zI, zI) j) ∧ FrV3 (itr (stpX D A k one n) (zI, zI, zI) j) = mp fd ((V k).toNat / 2 ^ (n - j)) (FrV3 one)
  | 0, _ => by
    refine ⟨⟨zI_W, zI_W, zI_W⟩, isF_z, ?_⟩
    rw [Nat.sub_zero, Nat.div_eq_of_lt hn]
    exact FrV_z zI zI
  | j + 1, hj => by
    obtain ⟨i1, i2, i3⟩ := mulX_ok hD hA hk h1 j1 hn j (by omega)
    rw [itr]
    generalize itr (stpX D A k one n) (zI, zI, zI) j = s at *
    obtain ⟨d1, d2⟩ := hD s i1
    obtain ⟨d3, d4⟩ := d2 i2
    obtain ⟨a1, a2⟩ := hA (D s, one) ⟨d1, h1⟩
    obtain ⟨a3, a4⟩ := a2 d3 j1
    have e : n - j = (n - 1 - j) + 1 := by omega
    have e2 : n - (j + 1) = n - 1 - j := by omega
    have h3 : (V k).toNat / 2 ^ (n - j) = (V k).toNat / 2 ^ (n - 1 - j) / 2 := by rw [e, Nat.pow_succ, ← Nat.div_div_eq_div_mul]
    have hb : btN k (n - 1 - j) = (V k).toNat / 2 ^ (n - 1 - j) % 2 := rfl
    rw [h3] at i3
    unfold stpX
    rw [e2, hb]
    generalize (V k).toNat / 2 ^ (n - 1 - j) = N at *
    have ho : onC (FrV3 one) := j1.2
    have sq : FrV3 (D s) = mp fd (2 * (N / 2)) (FrV3 one) := by rw [d4, i3, mp_two fd ho]
    by_cases h5 : N % 2 = 1
    · rw [if_pos h5]
      refine ⟨a1, a3, ?_⟩
      rw [a4]
      show sum fd (FrV3 (D s)) (FrV3 one) = _
      have hN : N = 2 * (N / 2) + 1 := by omega
      rw [sq]
      have hm := mp_add fd ho (2 * (N / 2)) 1
      rw [mp_one fd ho] at hm
      rw [← hm, ← hN]
    · rw [if_neg h5]
      refine ⟨d1, d3, ?_⟩
      rw [sq]
      congr 1
      omega
theorem FrV_one (x y : List Int) : FrV x y oneI = some (FV x, FV y) := by
  show fr fd (FV x) (FV y) (FV oneI) = _
  rw [FV_one]
  exact fr_is fd F_one_ne (by generalize FV x = a; grobner) (by generalize FV y = a; grobner)
theorem isF_one {x y : List Int} (h : isPt x y false) : isF x y oneI ∧ FrV x y oneI = PV x y false := by
  have e : FrV x y oneI = PV x y false := FrV_one x y
  have ho := isPt_on h
  rcases h with ⟨h, _⟩ | ⟨_, h1, h2, _⟩
  · cases h
  · exact ⟨⟨⟨h1, h2, by rw [V_one]; decide⟩, by rw [e]; exact ho⟩, e⟩
theorem wp_deep (k x y : List Int) (c : Bool) : ∀ v, v ∈ [AV.agg (cI k), AV.agg (cP x y c)] → v.deep := by
  intro v hv; simp at hv; rcases hv with rfl | rfl
  · exact cI_deepA _
  · exact cP_deep _ _ _
theorem rmulP (k x y : List Int) (c : Bool) (hk : Wn 4 k) (hx : Wn 4 x) (hy : Wn 4 y) (hp : isPt x y c) : ∃ (u v : List Int) (b : Bool), Wn 4 u ∧ Wn 4 v ∧ isPt u v b ∧ PV u v b = mp fd (V k).toNat (PV x y c) ∧ Rets Tryz.prog 131 [.agg (cI k), .agg (cP x y c)] (fun r => r = .agg (cP u v b)) := by
  obtain ⟨D, hD⟩ := rtwF
  obtain ⟨A, hA⟩ := rplF
  obtain ⟨x1, y1, b1, hx1, hy1, t1, f1⟩ := rown x y c hx hy
  obtain ⟨rfl, rfl, rfl⟩ := t1.2.1 hp
  obtain ⟨n, hn, vn, f2⟩ := lenR_ex k hk
  have hw0 : IntKind.i64.wrap ((n : Int) - 1) = ixD n := ixD_down n (by omega)
  have hkl := hk.1
  have hxl := hx.1
  have hyl := hy.1
  have z4 : List.drop 4 (cI zI) = [] := cI_drop rfl
  have pd : (cP zI zI false).drop 9 = [] := cP_drop rfl rfl _
  have zl2 : (cP zI zI false).length = 9 := rfl
  have iz : intsOf .u64 [AV.d (.int .u64 0), AV.d (.int .u64 0), AV.d (.int .u64 0), AV.d (.int .u64 0)] = some zI := ints_cI zI
  have hol : oneI.length = 4 := rfl
  have pl := cP_len hxl hyl b1
  have pt := cP_take hxl hyl b1
  have pdr := cP_drop hxl hyl b1
  have pb := cP_b hxl hyl b1
  have pg := cP_g hxl hyl b1
  have e1' : (cP x1 y1 b1).take 4 = cI x1 := cP_x hxl _
  have e2' : ((cP x1 y1 b1).drop 4).take 4 = cI y1 := cP_y hxl hyl _
  obtain ⟨one, hone, jone, vone, e1e⟩ : ∃ one : T3r, W3r one ∧ isF3 one ∧ FrV3 one = PV x1 y1 b1 ∧ one = (if b1 then (zI, zI, zI) else (x1, y1, oneI)) := by
    cases b1
    · exact ⟨(x1, y1, oneI), ⟨hx, hy, oneI_W⟩, (isF_one hp).1, (isF_one hp).2, rfl⟩
    · exact ⟨(zI, zI, zI), ⟨zI_W, zI_W, zI_W⟩, isF_z, FrV_z zI zI, rfl⟩
  have hS := mulX_ok (fun s hs => ⟨(hD s hs).1, (hD s hs).2.1⟩) (fun s hs => ⟨(hA s hs).1, (hA s hs).2.1⟩) hk hone jone vn
  obtain ⟨w1, w2, w3⟩ := hS n (Nat.le_refl n)
  rw [Nat.sub_self, Nat.pow_zero, Nat.div_one, vone] at w3
  obtain ⟨zi, hzi, vzi, f3⟩ := rinv _ w1.2.2
  obtain ⟨X, hX, vX, f4⟩ := rmul _ zi w1.1 hzi
  obtain ⟨Y, hY, vY, f5⟩ := rmul _ zi w1.2.1 hzi
  unfold W1 at f3
  unfold W2 at f4 f5
  have hpx : (itr (stpX D A k one n) (zI, zI, zI) n).2.2 ≠ zI → isPt X Y false ∧ PV X Y false = mp fd (V k).toNat (PV x1 y1 b1) := by
    intro h0
    have hz0 : FV (itr (stpX D A k one n) (zI, zI, zI) n).2.2 ≠ 0 := fun h => h0 ((FV_zero w1.2.2 w2.1.2.2).1 h)
    have e : PV X Y false = FrV3 (itr (stpX D A k one n) (zI, zI, zI) n) := by
      show some (FV X, FV Y) = fr fd _ _ _
      unfold fr
      rw [if_neg hz0, vX.2, vY.2, vzi.2]
    have ho : onC (PV X Y false) := by rw [e]; exact w2.2
    exact ⟨.inr ⟨rfl, vX.1, vY.1, ho⟩, by rw [e, w3]⟩
  have hp0 : (itr (stpX D A k one n) (zI, zI, zI) n).2.2 = zI → none = mp fd (V k).toNat (PV x1 y1 b1) := by
    intro h0
    rw [← w3]
    show none = fr fd _ _ (FV (itr (stpX D A k one n) (zI, zI, zI) n).2.2)
    rw [h0, FV_z]
    exact (fr_z fd _ _).symm
  have key : ∀ r : List Int × List Int × Bool, ((itr (stpX D A k one n) (zI, zI, zI) n).2.2 = zI → r = (zI, zI, true)) → ((itr (stpX D A k one n) (zI, zI, zI) n).2.2 ≠ zI → r = (X, Y, false)) → Rets Tryz.prog 131 [.agg (cI k), .agg (cP x1 y1 b1)] (fun q => q = .agg (cP r.1 r.2.1 r.2.2)) := by
    intro r e0 e1
    refine fna Tryz.func131 Tryz.ntmps131 (rs := [.cell 4 162]) (wp_deep _ _ _ _) ?_
    simp [go_sem, hkl, cI_take hkl, pl, pt]
    refine cl_eq f1 (one_cP _ _ _) ?_
    cases b1
    · have hm := mkV hxl hyl
      simp [go_sem, pl, pt, pdr, pb, pg, e1', e2', hxl, hyl, cI_take hxl, cI_take hyl]
      have hvl := cV_len hxl hyl hol
      have hvt := cV_take hxl hyl hol
      have e1f : one = (x1, y1, oneI) := e1e
      subst e1f
      simp [go_sem, hkl, cI_take hkl]
      refine cl_eq f2 (one_cI _) ?_
      simp [go_sem, hw0]
      generalize hSS : itr (stpX D A k (x1, y1, oneI) n) (zI, zI, zI) = S at *
      refine loop_of (fun t : Nat => ⟨[(2, .ptr 0 0 0 1), (4, .ptr 64 0 0 1), (5, .ptr 384 0 0 1), (6, .ptr 544 0 0 1), (7, .d (.int .i64 (ixD t)))], [(544, ⟨208, 12, [cV (S (n - t)).1 (S (n - t)).2.1 (S (n - t)).2.2]⟩), (384, ⟨208, 12, [cV (x1, y1, oneI).1 (x1, y1, oneI).2.1 (x1, y1, oneI).2.2]⟩), (64, ⟨162, 9, [cP zI zI false]⟩), (0, ⟨160, 4, [cI k]⟩)], 3000⟩)
        (fun t => t ≤ n) (fun t => t) n (Nat.le_refl n) (by
          rw [Nat.sub_self, ← hSS]
          simp [Weak, slotOk, fv, lk, AV.low, AV.low1, itr]
          and_intros <;> first | rfl | exact cI_low _ _ | exact cV_low _ _ _ _ | exact cP_low _ _ _ _ | (match x1, y1, hxl, hyl with | [_, _, _, _], [_, _, _, _], _, _ => rfl)) ?_
      intro t ht
      cases t with
      | zero =>
        obtain ⟨w1, w2, w3⟩ := hS n (Nat.le_refl n)
        have sl := cV_len w1.1.1 w1.2.1.1 w1.2.2.1
        have st := cV_take w1.1.1 w1.2.1.1 w1.2.2.1
        have s1 : (cV (S n).1 (S n).2.1 (S n).2.2).take 4 = cI (S n).1 := cV_x w1.1.1
        have s2 := cV_y (z := (S n).2.2) w1.1.1 w1.2.1.1
        have s3 := cV_z w1.1.1 w1.2.1.1 w1.2.2.1
        have l3 := w1.2.2.1
        have lz := hzi.1
        have lX := hX.1
        have lY := hY.1
        by_cases hz0 : (S n).2.2 = zI
        · have e := e0 hz0
          have s3z := cV_z (z := zI) w1.1.1 w1.2.1.1 rfl
          have slz := cV_len (z := zI) w1.1.1 w1.2.1.1 rfl
          simp [go_sem, ixD_z, sl, s3, slz, s3z, ints_cI, iz, l3, hz0, cI_take (l := zI) (n := 4) rfl, zI_len]
          rw [e]
          simp [go_sem, zl2, pd, resV]
          exact post_p (x := zI) (y := zI) (b := true) rfl
        · have e := e1 hz0
          simp [go_sem, ixD_z, sl, s3, ints_cI, iz, l3, hz0, cI_take l3]
          refine cl_eq f3 (one_cI _) ?_
          simp [go_sem, lz, cI_take lz, z4]
          rw [e]
          refine drw2 [0,1,2,4,5,6] [(3, []),(7, [8]),(9, [])] 2 (k := 10) ?_
          intro G hG
          simp [go_sem, sl, s1, s2, lz, cI_take lz]
          refine cl_eq f4 (two_cI _ _) ?_
          simp [go_sem, sl, s1, s2, lz, cI_take lz]
          refine cl_eq f5 (two_cI _ _) ?_
          have mp := mkP lX lY
          simp [go_sem, lX, lY, mp, cP_len lX lY, zl2, pd, SaW]
          refine hG _ _ ?_
          simp [go_sem, cP_len lX lY, cP_take lX lY, resV]
          exact post_p rfl
      | succ t =>
        obtain ⟨w1, w2, w3⟩ := hS (n - (t + 1)) (by omega)
        have hsn : S (n - t) = stpX D A k (x1, y1, oneI) n (n - (t + 1)) (S (n - (t + 1))) := by
          rw [show n - t = (n - (t + 1)) + 1 by omega, ← hSS, itr]
        obtain ⟨d1, _, d2⟩ := hD (S (n - (t + 1))) w1
        obtain ⟨a1, _, a2⟩ := hA (D (S (n - (t + 1))), (x1, y1, oneI)) ⟨d1, hone⟩
        unfold stpX at hsn
        rw [show n - 1 - (n - (t + 1)) = t by omega] at hsn
        generalize S (n - (t + 1)) = s at *
        generalize D s = q at *
        have sl := cV_len w1.1.1 w1.2.1.1 w1.2.2.1
        have st := cV_take w1.1.1 w1.2.1.1 w1.2.2.1
        have sd := cV_drop w1.1.1 w1.2.1.1 w1.2.2.1
        have ql := cV_len d1.1.1 d1.2.1.1 d1.2.2.1
        have qt := cV_take d1.1.1 d1.2.1.1 d1.2.2.1
        have qd := cV_drop d1.1.1 d1.2.1.1 d1.2.2.1
        have al := cV_len a1.1.1 a1.2.1.1 a1.2.2.1
        have at' := cV_take a1.1.1 a1.2.1.1 a1.2.2.1
        have ol := cV_len hone.1.1 hone.2.1.1 hone.2.2.1
        have ot := cV_take hone.1.1 hone.2.1.1 hone.2.2.1
        have hw := ixD_down t (by omega)
        have p0 : ¬ ((t : Int) < 0) := by omega
        simp [go_sem, ixD_s, p0, sl, st]
        refine cl_eq d2 (one_cV _ _ _) ?_
        simp [go_sem, ql, qt, sl, sd, hkl, cI_take hkl]
        refine cl_eq (bitR_fn k t hk (by omega)) (wi_deep _ _) ?_
        by_cases hb : btN k t = 1
        · rw [if_pos hb] at hsn
          simp [go_sem, hb, ql, qt, ol, ot]
          refine cl_eq a2 (two_cF _ _ _ _ _ _) ?_
          rw [← hsn] at *
          simp [go_sem, ixD_s, al, at', ql, qd, hw]
          refine next_of t (by omega) (by omega) ?_
          simp [Weak, slotOk, fv, lk, AV.low, AV.low1]
          and_intros <;> first | rfl | exact cI_low _ _ | exact cV_low _ _ _ _ | exact cP_low _ _ _ _
        · have hb2 : ¬ ((btN k t : Int) = 1) := by omega
          rw [if_neg hb] at hsn
          simp [go_sem, hb, hb2, hw, ixD_s]
          refine next_of t (by omega) (by omega) ?_
          rw [hsn]
          simp [Weak, slotOk, fv, lk, AV.low, AV.low1]
          and_intros <;> first | rfl | exact cI_low _ _ | exact cV_low _ _ _ _ | exact cP_low _ _ _ _
    · simp [go_sem, pl, pt, pdr, pb, pg, e1', e2', hxl, hyl, cI_take hxl, cI_take hyl]
      have e1f : one = (zI, zI, zI) := e1e
      subst e1f
      simp [go_sem, hkl, cI_take hkl]
      refine cl_eq f2 (one_cI _) ?_
      simp [go_sem, hw0]
      generalize hSS : itr (stpX D A k (zI, zI, zI) n) (zI, zI, zI) = S at *
      refine loop_of (fun t : Nat => ⟨[(2, .ptr 0 0 0 1), (4, .ptr 64 0 0 1), (5, .ptr 384 0 0 1), (6, .ptr 608 0 0 1), (7, .d (.int .i64 (ixD t)))], [(608, ⟨208, 12, [cV (S (n - t)).1 (S (n - t)).2.1 (S (n - t)).2.2]⟩), (384, ⟨208, 12, [cV (zI, zI, zI).1 (zI, zI, zI).2.1 (zI, zI, zI).2.2]⟩), (64, ⟨162, 9, [cP zI zI false]⟩), (0, ⟨160, 4, [cI k]⟩)], 3000⟩)
        (fun t => t ≤ n) (fun t => t) n (Nat.le_refl n) (by
          rw [Nat.sub_self, ← hSS]
          simp [Weak, slotOk, fv, lk, AV.low, AV.low1, itr]
          and_intros <;> first | rfl | exact cI_low _ _ | exact cV_low _ _ _ _ | exact cP_low _ _ _ _ | (match x1, y1, hxl, hyl with | [_, _, _, _], [_, _, _, _], _, _ => rfl)) ?_
      intro t ht
      cases t with
      | zero =>
        obtain ⟨w1, w2, w3⟩ := hS n (Nat.le_refl n)
        have sl := cV_len w1.1.1 w1.2.1.1 w1.2.2.1
        have st := cV_take w1.1.1 w1.2.1.1 w1.2.2.1
        have s1 : (cV (S n).1 (S n).2.1 (S n).2.2).take 4 = cI (S n).1 := cV_x w1.1.1
        have s2 := cV_y (z := (S n).2.2) w1.1.1 w1.2.1.1
        have s3 := cV_z w1.1.1 w1.2.1.1 w1.2.2.1
        have l3 := w1.2.2.1
        have lz := hzi.1
        have lX := hX.1
        have lY := hY.1
        by_cases hz0 : (S n).2.2 = zI
        · have e := e0 hz0
          have s3z := cV_z (z := zI) w1.1.1 w1.2.1.1 rfl
          have slz := cV_len (z := zI) w1.1.1 w1.2.1.1 rfl
          simp [go_sem, ixD_z, sl, s3, slz, s3z, ints_cI, iz, l3, hz0, cI_take (l := zI) (n := 4) rfl, zI_len]
          rw [e]
          simp [go_sem, zl2, pd, resV]
          exact post_p (x := zI) (y := zI) (b := true) rfl
        · have e := e1 hz0
          simp [go_sem, ixD_z, sl, s3, ints_cI, iz, l3, hz0, cI_take l3]
          refine cl_eq f3 (one_cI _) ?_
          simp [go_sem, lz, cI_take lz, z4]
          rw [e]
          refine drw2 [0,1,2,4,5,6] [(3, []),(7, [8]),(9, [])] 2 (k := 10) ?_
          intro G hG
          simp [go_sem, sl, s1, s2, lz, cI_take lz]
          refine cl_eq f4 (two_cI _ _) ?_
          simp [go_sem, sl, s1, s2, lz, cI_take lz]
          refine cl_eq f5 (two_cI _ _) ?_
          have mp := mkP lX lY
          simp [go_sem, lX, lY, mp, cP_len lX lY, zl2, pd, SaW]
          refine hG _ _ ?_
          simp [go_sem, cP_len lX lY, cP_take lX lY, resV]
          exact post_p rfl
      | succ t =>
        obtain ⟨w1, w2, w3⟩ := hS (n - (t + 1)) (by omega)
        have hsn : S (n - t) = stpX D A k (zI, zI, zI) n (n - (t + 1)) (S (n - (t + 1))) := by
          rw [show n - t = (n - (t + 1)) + 1 by omega, ← hSS, itr]
        obtain ⟨d1, _, d2⟩ := hD (S (n - (t + 1))) w1
        obtain ⟨a1, _, a2⟩ := hA (D (S (n - (t + 1))), (zI, zI, zI)) ⟨d1, hone⟩
        unfold stpX at hsn
        rw [show n - 1 - (n - (t + 1)) = t by omega] at hsn
        generalize S (n - (t + 1)) = s at *
        generalize D s = q at *
        have sl := cV_len w1.1.1 w1.2.1.1 w1.2.2.1
        have st := cV_take w1.1.1 w1.2.1.1 w1.2.2.1
        have sd := cV_drop w1.1.1 w1.2.1.1 w1.2.2.1
        have ql := cV_len d1.1.1 d1.2.1.1 d1.2.2.1
        have qt := cV_take d1.1.1 d1.2.1.1 d1.2.2.1
        have qd := cV_drop d1.1.1 d1.2.1.1 d1.2.2.1
        have al := cV_len a1.1.1 a1.2.1.1 a1.2.2.1
        have at' := cV_take a1.1.1 a1.2.1.1 a1.2.2.1
        have ol := cV_len hone.1.1 hone.2.1.1 hone.2.2.1
        have ot := cV_take hone.1.1 hone.2.1.1 hone.2.2.1
        have hw := ixD_down t (by omega)
        have p0 : ¬ ((t : Int) < 0) := by omega
        simp [go_sem, ixD_s, p0, sl, st]
        refine cl_eq d2 (one_cV _ _ _) ?_
        simp [go_sem, ql, qt, sl, sd, hkl, cI_take hkl]
        refine cl_eq (bitR_fn k t hk (by omega)) (wi_deep _ _) ?_
        by_cases hb : btN k t = 1
        · rw [if_pos hb] at hsn
          simp [go_sem, hb, ql, qt, ol, ot]
          refine cl_eq a2 (two_cF _ _ _ _ _ _) ?_
          rw [← hsn] at *
          simp [go_sem, ixD_s, al, at', ql, qd, hw]
          refine next_of t (by omega) (by omega) ?_
          simp [Weak, slotOk, fv, lk, AV.low, AV.low1]
          and_intros <;> first | rfl | exact cI_low _ _ | exact cV_low _ _ _ _ | exact cP_low _ _ _ _
        · have hb2 : ¬ ((btN k t : Int) = 1) := by omega
          rw [if_neg hb] at hsn
          simp [go_sem, hb, hb2, hw, ixD_s]
          refine next_of t (by omega) (by omega) ?_
          rw [hsn]
          simp [Weak, slotOk, fv, lk, AV.low, AV.low1]
          and_intros <;> first | rfl | exact cI_low _ _ | exact cV_low _ _ _ _ | exact cP_low _ _ _ _
  by_cases h0 : (itr (stpX D A k one n) (zI, zI, zI) n).2.2 = zI
  · exact ⟨zI, zI, true, zI_W, zI_W, isPt_z, hp0 h0, key (zI, zI, true) (fun _ => rfl) (fun h => absurd h0 h)⟩
  · exact ⟨X, Y, false, hX, hY, (hpx h0).1, (hpx h0).2, key (X, Y, false) (fun h => absurd h h0) (fun _ => rfl)⟩
theorem rsread (b : List Nat) (hb : b.length = 32) (hby : bytes b) : ∃ (r : List Int) (ok : Bool), Wn 4 r ∧ ((beN b < 115792089237316195423570985008687907852837564279074904382605163141518161494337 → ok = true ∧ V r = (beN b : Int)) ∧ (¬ beN b < 115792089237316195423570985008687907852837564279074904382605163141518161494337 → ok = false ∧ r = zI)) ∧ Rets Tryz.prog 179 [.agg (cb b)] (fun x => x = .tup [.agg (cI r), .d (.bool ok)]) := by
  obtain ⟨a, ha, va, f1⟩ := readRI_ex b hb hby
  obtain ⟨c, vc, f2⟩ := cmpRI_ex a odI ha odI_W
  have vo : V odI = 115792089237316195423570985008687907852837564279074904382605163141518161494337 := by simp [V, odI]
  rw [vo, va] at vc
  have hal := ha.1
  have hz : List.drop 4 (cI zI) = [] := cI_drop rfl
  by_cases h0 : c < 0
  · have hlt : beN b < 115792089237316195423570985008687907852837564279074904382605163141518161494337 := by have := vc.1 h0; omega
    refine ⟨a, true, ha, ⟨fun _ => ⟨rfl, va⟩, fun h => absurd hlt h⟩, ?_⟩
    refine fna Tryz.func179 Tryz.ntmps179 (rs := [.cell 2 160, .tmp 3]) (one_cb1 b) ?_
    have h1 : ¬ 0 ≤ c := by omega
    simp [go_sem, cb_len, hb, cb_take hb]
    refine cl_eq f1 (one_cb1 _) ?_
    simp [go_sem, hal, cI_take hal, hz]
    refine drw2 [0] [(1, []),(2, [3])] 2 (k := 4) ?_
    intro G hG
    simp [go_sem, hal, cI_take hal]
    refine cl_eq orderR_fn (by simp) ?_
    simp [go_sem, hal, cI_take hal]
    refine cl_eq f2 (two_cI _ _) ?_
    simp [go_sem, SaW]
    refine hG _ _ ?_
    simp [go_sem, h1, h0, hal, cI_take hal, hz, resV]
    exact post_wb rfl
  · have hlt : ¬ beN b < 115792089237316195423570985008687907852837564279074904382605163141518161494337 := fun h => h0 (vc.2 (by omega))
    refine ⟨zI, false, zI_W, ⟨fun h => absurd h hlt, fun _ => ⟨rfl, rfl⟩⟩, ?_⟩
    refine fna Tryz.func179 Tryz.ntmps179 (rs := [.cell 2 160, .tmp 3]) (one_cb1 b) ?_
    have h1 : 0 ≤ c := by omega
    simp [go_sem, cb_len, hb, cb_take hb]
    refine cl_eq f1 (one_cb1 _) ?_
    simp [go_sem, hal, cI_take hal, hz]
    refine drw2 [0] [(1, []),(2, [3])] 2 (k := 4) ?_
    intro G hG
    simp [go_sem, hal, cI_take hal]
    refine cl_eq orderR_fn (by simp) ?_
    simp [go_sem, hal, cI_take hal]
    refine cl_eq f2 (two_cI _ _) ?_
    simp [go_sem, SaW]
    refine hG _ _ ?_
    simp [go_sem, h1, h0, hz, resV]
    exact post_wb (a := zI) rfl
theorem rlift (b : List Nat) (hb : b.length = 32) (hby : bytes b) : ∃ (x y : List Int) (c ok : Bool), Wn 4 x ∧ Wn 4 y ∧ (liftS (beN b) x y c ok) ∧ Rets Tryz.prog 128 [.agg (cb b)] (fun r => r = .tup [.agg (cP x y c), .d (.bool ok)]) := by
  obtain ⟨a, ha, va, f1⟩ := readRI_ex b hb hby
  obtain ⟨o, vo, f2⟩ := rbelow a ha
  obtain ⟨r, hr, vr, f3⟩ := rright a ha
  obtain ⟨y, ok, hy, vk, vy, vno, f4⟩ := rroot r hr
  have hrv : V r = liftC (beN b) := right_V hr va vr
  rw [va] at vo
  rw [hrv] at vk vy
  unfold W1 at f3
  have hal := ha.1
  have hyl := hy.1
  have hz : List.drop 4 (cI zI) = [] := cI_drop rfl
  have zd : List.drop 32 (cb b) = [] := cb_drop hb
  have pd : (cP zI zI false).drop 9 = [] := cP_drop rfl rfl _
  have zl2 : (cP zI zI false).length = 9 := rfl
  have mp := mkP hal hyl
  have pl1 := cP_len hal hyl false
  have pt1 := cP_take hal hyl false
  cases ok
  · refine ⟨zI, zI, true, false, zI_W, zI_W, .inl ⟨fun h => absurd (vk.2 h.2) (by decide), rfl, rfl, rfl, rfl⟩, ?_⟩
    refine fna Tryz.func128 Tryz.ntmps128 (rs := [.cell 2 162, .tmp 3]) (one_cb1 b) ?_
    simp [go_sem, cb_len, hb, cb_take hb, zd]
    refine cl_eq f1 (one_cb1 _) ?_
    simp [go_sem, hal, cI_take hal, hz]
    refine cl_eq f3 (one_cI _) ?_
    simp [go_sem]
    refine cl_eq f4 (one_cI _) ?_
    simp [go_sem, hyl, cI_take hyl, hz, zl2, pd, resV]
    exact post_pb (x := zI) (y := zI) (c := true) rfl
  · cases o
    · refine ⟨zI, zI, true, false, zI_W, zI_W, .inl ⟨fun h => absurd (vo.2 h.1) (by decide), rfl, rfl, rfl, rfl⟩, ?_⟩
      refine fna Tryz.func128 Tryz.ntmps128 (rs := [.cell 2 162, .tmp 3]) (one_cb1 b) ?_
      simp [go_sem, cb_len, hb, cb_take hb, zd]
      refine cl_eq f1 (one_cb1 _) ?_
      simp [go_sem, hal, cI_take hal, hz]
      refine cl_eq f3 (one_cI _) ?_
      simp [go_sem]
      refine cl_eq f4 (one_cI _) ?_
      simp [go_sem, hyl, cI_take hyl, hz, hal, cI_take hal]
      refine cl_eq f2 (one_cI _) ?_
      simp [go_sem, zl2, pd, resV]
      exact post_pb (x := zI) (y := zI) (c := true) rfl
    · refine ⟨a, y, false, true, ha, hy, .inr ⟨⟨vo.1 rfl, vk.1 rfl⟩, rfl, rfl, va, vy rfl⟩, ?_⟩
      refine fna Tryz.func128 Tryz.ntmps128 (rs := [.cell 2 162, .tmp 3]) (one_cb1 b) ?_
      simp [go_sem, cb_len, hb, cb_take hb, zd]
      refine cl_eq f1 (one_cb1 _) ?_
      simp [go_sem, hal, cI_take hal, hz]
      refine cl_eq f3 (one_cI _) ?_
      simp [go_sem]
      refine cl_eq f4 (one_cI _) ?_
      simp [go_sem, hyl, cI_take hyl, hz, hal, cI_take hal]
      refine cl_eq f2 (one_cI _) ?_
      simp [go_sem, hal, hyl, cI_take hal, cI_take hyl, hz, mp, pl1, pt1, pd, zl2, resV]
      exact post_pb rfl
def gN : Nat := 55066263022277343669578718895168534326250603453777594175500187360389116729240
theorem liftC_g : liftC gN = ((32748224938747404814623910738487752935528512903530129802856995983256684603122 : Nat) : Int) := by
  unfold liftC
  have e : ((gN : Int) * gN * gN + 7) % 115792089237316195423570985008687907853269984665640564039457584007908834671663 = (((gN * gN * gN + 7) % 115792089237316195423570985008687907853269984665640564039457584007908834671663 : Nat) : Int) := by
    rw [Int.natCast_emod, Int.natCast_add, Int.natCast_mul, Int.natCast_mul]; rfl
  rw [e]
  exact congrArg (fun n : Nat => (n : Int)) (Nat.eq_of_beq_eq_true (by kernel_rfl))
theorem liftR_of (e r n : Nat) (he : e < 2 ^ 256) (hr : pwm 115792089237316195423570985008687907853269984665640564039457584007908834671663 256 32748224938747404814623910738487752935528512903530129802856995983256684603122 e 1 = r) (hn : liftC n = ((32748224938747404814623910738487752935528512903530129802856995983256684603122 : Nat) : Int)) : liftC n ^ e % 115792089237316195423570985008687907853269984665640564039457584007908834671663 = (r : Int) := by
  have h := pwm_eq 115792089237316195423570985008687907853269984665640564039457584007908834671663 256 32748224938747404814623910738487752935528512903530129802856995983256684603122 e 1 he (Nat.mod_eq_of_lt (by omega))
  rw [Nat.one_mul, hr] at h
  rw [hn, ← Int.natCast_pow]
  have e : (115792089237316195423570985008687907853269984665640564039457584007908834671663 : Int) = ((115792089237316195423570985008687907853269984665640564039457584007908834671663 : Nat) : Int) := rfl
  rw [e, ← Int.natCast_emod]
  exact congrArg (fun n : Nat => (n : Int)) h.symm
theorem liftR_g : liftR gN = ((32670510020758816978083085130507043184471273380659243275938904335757337482424 : Nat) : Int) :=
  liftR_of _ _ gN (by omega) (Nat.eq_of_beq_eq_true (by kernel_rfl)) liftC_g
theorem liftOk_g : liftOk gN := by
  refine ⟨?_, ?_⟩
  · have : gN < 115792089237316195423570985008687907853269984665640564039457584007908834671663 := by unfold gN; omega
    omega
  · rw [liftR_g, liftC_g, ← Int.natCast_mul]
    have e : (115792089237316195423570985008687907853269984665640564039457584007908834671663 : Int) = ((115792089237316195423570985008687907853269984665640564039457584007908834671663 : Nat) : Int) := rfl
    rw [e, ← Int.natCast_emod, ← Int.natCast_emod]
theorem gX_V : V gX = gN := by
  unfold gX gN
  rw [V4]; omega
theorem gY_V : V gY = 32670510020758816978083085130507043184471273380659243275938904335757337482424 := by
  unfold gY
  rw [V4]; omega
theorem lift_g {x y : List Int} {c ok : Bool} (hx : Wn 4 x) (hy : Wn 4 y) (h : liftS gN x y c ok) : ok = true ∧ c = false ∧ x = gX ∧ y = gY := by
  rcases h with ⟨h, _⟩ | ⟨_, h1, h2, h3, h4⟩
  · exact absurd liftOk_g h
  · refine ⟨h1, h2, V_inj hx gX_W (by rw [h3, gX_V]), V_inj hy gY_W ?_⟩
    rw [h4, liftR_g, if_pos (by omega), gY_V]; rfl
theorem rbase : Rets Tryz.prog 132 [] (fun r => r = .agg (cP gX gY false)) := by
  obtain ⟨b, hb, hby, vb, f1⟩ := bytesR_ex gX gX_W
  obtain ⟨x, y, c, ok, hx, hy, hs, f2⟩ := rlift b hb hby
  have hg : beN b = gN := by rw [vb, gX_V]; exact Int.toNat_natCast _
  rw [hg] at hs
  obtain ⟨rfl, rfl, rfl, rfl⟩ := lift_g hx hy hs
  have gl : gX.length = 4 := rfl
  have pl := cP_len (x := gX) (y := gY) rfl rfl false
  have pt := cP_take (x := gX) (y := gY) rfl rfl false
  have pd : (cP zI zI false).drop 9 = [] := cP_drop rfl rfl _
  have zl2 : (cP zI zI false).length = 9 := rfl
  have hz : List.drop 4 (cI zI) = [] := cI_drop rfl
  have eg : [AV.d (.int .u64 6481385041966929816), AV.d (.int .u64 188021827762530521), AV.d (.int .u64 6170039885052185351), AV.d (.int .u64 8772561819708210092)] = cI gX := rfl
  refine fna Tryz.func132 Tryz.ntmps132 (rs := [.cell 0 162]) (by simp [AV.deep, AV.deep1]) ?_
  simp [go_sem, hz]
  refine cl_eq f1 (one_cI gX) ?_
  simp [go_sem, cb_len, hb, cb_take hb]
  refine cl_eq f2 (one_cb1 _) ?_
  simp [go_sem, pl, pt, pd, zl2, resV]
  exact post_p rfl
theorem rbytes (x y : List Int) (c : Bool) (hx : Wn 4 x) (hy : Wn 4 y) (hp : isPt x y c) : ∃ b : List Nat, b.length = 32 ∧ bytes b ∧ beN b = (V x).toNat ∧ Rets Tryz.prog 133 [.agg (cP x y c)] (fun r => r = .agg (cb b)) := by
  obtain ⟨x1, y1, c1, hx1, hy1, t1, f1⟩ := rown x y c hx hy
  obtain ⟨rfl, rfl, rfl⟩ := t1.2.1 hp
  obtain ⟨b, hb, hby, vb, f2⟩ := bytesR_ex x1 hx1
  refine ⟨b, hb, hby, vb, ?_⟩
  have hxl := hx.1
  have hyl := hy.1
  have pl := cP_len hxl hyl c1
  have pt := cP_take hxl hyl c1
  have pdr := cP_drop hxl hyl c1
  have e1 : (cP x1 y1 c1).take 4 = cI x1 := cP_x hxl _
  have zd : List.drop 32 (cb z32) = [] := cb_drop rfl
  refine fna Tryz.func133 Tryz.ntmps133 (rs := [.cell 2 23]) (one_cP _ _ _) ?_
  simp [go_sem, pl, pt]
  refine cl_eq f1 (one_cP _ _ _) ?_
  simp [go_sem, pl, pt, pdr, e1, hxl, cI_take hxl]
  refine cl_eq f2 (one_cI _) ?_
  simp [go_sem, cb_len, hb, cb_take hb, zd, resV]
  exact post_b rfl
theorem reven (x y : List Int) (c : Bool) (hx : Wn 4 x) (hy : Wn 4 y) (hp : isPt x y c) : ∃ o : Bool, (o = true ↔ c = false ∧ V y % 2 = 0) ∧ Rets Tryz.prog 134 [.agg (cP x y c)] (fun r => r = .d (.bool o)) := by
  obtain ⟨x1, y1, c1, hx1, hy1, t1, f1⟩ := rown x y c hx hy
  obtain ⟨rfl, rfl, rfl⟩ := t1.2.1 hp
  have hxl := hx.1
  have hyl := hy.1
  have pl := cP_len hxl hyl c1
  have pt := cP_take hxl hyl c1
  have pdr := cP_drop hxl hyl c1
  have pb := cP_b hxl hyl c1
  have pg := cP_g hxl hyl c1
  have hR := Wn_getD (k := 0) hy
  have hmg := mod2_gI hy
  have hmt : Int.tmod (gI y1 0) 2 = gI y1 0 % 2 := Int.tmod_eq_emod_of_nonneg hR.1
  have g4 : (cP x1 y1 c1)[4]? = some (.d (.int .u64 (gI y1 0))) := by
    unfold cP
    rw [List.getElem?_append_right (by rw [cI_len]; omega), cI_len, hxl, List.getElem?_append_left (by rw [cI_len]; omega), cI_get, get_D (by omega)]
    rfl
  have g4b : ∀ h, (cP x1 y1 c1)[4]'h = .d (.int .u64 (gI y1 0)) := fun h => (List.getElem?_eq_some_iff.1 g4).2
  cases c1
  · refine ⟨decide (gI y1 0 % 2 = 0), by rw [decide_eq_true_iff, hmg]; exact ⟨fun h => ⟨rfl, h⟩, fun h => h.2⟩, ?_⟩
    refine fna Tryz.func134 Tryz.ntmps134 (rs := [.tmp 2]) (one_cP _ _ _) ?_
    simp [go_sem, pl, pt]
    refine cl_eq f1 (one_cP _ _ _) ?_
    simp [go_sem, pl, pt, pdr, pb, pg, g4, g4b, hmt, resV]
    exact post_same (by simp [AV.deep, AV.deep1]) rfl
  · refine ⟨false, ⟨fun h => Bool.noConfusion h, fun h => Bool.noConfusion h.1⟩, ?_⟩
    refine fna Tryz.func134 Tryz.ntmps134 (rs := [.tmp 2]) (one_cP _ _ _) ?_
    simp [go_sem, pl, pt]
    refine cl_eq f1 (one_cP _ _ _) ?_
    simp [go_sem, pl, pt, pdr, pb, pg, resV]
    exact post_same (by simp [AV.deep, AV.deep1]) rfl
theorem rturning (inner root : List Nat) (hi : inner.length = 32) (hib : bytes inner) (hr : root.length ≤ 1000) (hrb : bytes root) : ∃ (t : List Int) (ok : Bool), Wn 4 t ∧ ((beN (tagB turnTag (inner ++ root)) < 115792089237316195423570985008687907852837564279074904382605163141518161494337 → ok = true ∧ V t = (beN (tagB turnTag (inner ++ root)) : Int)) ∧ (¬ beN (tagB turnTag (inner ++ root)) < 115792089237316195423570985008687907852837564279074904382605163141518161494337 → ok = false ∧ t = zI)) ∧ Rets Tryz.prog 129 [.agg (cb inner), .d (nb root)] (fun r => r = .tup [.agg (cI t), .d (.bool ok)]) := by
  obtain ⟨t, ok, ht, vt, f1⟩ := rsread (tagB turnTag (inner ++ root)) (tagB_b _ _).1 (tagB_b _ _).2
  refine ⟨t, ok, ht, vt, ?_⟩
  refine fna Tryz.func129 Tryz.ntmps129 (rs := [.cell 4 160, .tmp 5]) (b_nb _ _) ?_
  have htl := ht.1
  have hz : List.drop 4 (cI zI) = [] := cI_drop rfl
  have hx1 := cb_rows hi
  simp [go_sem] at hx1
  have hl : (inner ++ root).length = 32 + root.length := by rw [List.length_append, hi]
  simp [go_sem, cb_len, hi, cb_take hi, hx1, rb_len, nb]
  refine ⟨by omega, ?_⟩
  refine cl_froz [96] (taggedR_fn turnTag (.str [84, 97, 112, 84, 119, 101, 97, 107]) rfl (inner ++ root) (by simp [turnTag]) (by simp [turnTag]) (by omega) (fun z hz => by
      rcases List.mem_append.1 hz with h | h
      · exact hib z h
      · exact hrb z h)) rfl (snap_cons (.deep (by simp [AV.deep, AV.deep1])) (snap_cons (.one (snap1_d (snap_full hl (by simp [lk, rb]) (by simp)))) snap_nil)) ?_
  simp [go_sem, dropH]
  refine cl_eq f1 (one_cb1 _) ?_
  simp [go_sem, htl, cI_take htl, hz, resV]
  exact post_wb rfl
theorem rturn (inner root : List Nat) (hi : inner.length = 32) (hib : bytes inner) (hr : root.length ≤ 1000) (hrb : bytes root) : ∃ (k : List Nat) (o : Bool) (e : Int), k.length = 32 ∧ bytes k ∧ E1 e ∧ turnR (beN inner) (beN (tagB turnTag (inner ++ root))) k o e ∧ Rets Tryz.prog 91 [.agg (cb inner), .d (nb root)] (fun r => r = .tup [.agg (cb k), .d (.bool o), .d (.int .i64 e)]) := by
  obtain ⟨x, y, c, ok, hx, hy, vl, f1⟩ := rlift inner hi hib
  obtain ⟨t, ok2, ht, vt, f2⟩ := rturning inner root hi hib hr hrb
  generalize hT : beN (tagB turnTag (inner ++ root)) = T at *
  have zb : bytes z32 := fun x hx => by simp [z32] at hx; omega
  have pl := cP_len hx.1 hy.1 c
  have pt := cP_take hx.1 hy.1 c
  have pd : (cP zI zI false).drop 9 = [] := cP_drop rfl rfl _
  have pl0 : (cP zI zI false).length = 9 := rfl
  have bl := cP_len (x := gX) (y := gY) rfl rfl false
  have bt := cP_take (x := gX) (y := gY) rfl rfl false
  have htl := ht.1
  have hz : List.drop 4 (cI zI) = [] := cI_drop rfl
  have zd : List.drop 32 (cb z32) = [] := cb_drop rfl
  have zt : List.take 32 (cb z32) = cb z32 := cb_take rfl
  cases ok
  · refine ⟨z32, false, 1, rfl, zb, .inr rfl, .inl ⟨.inl (fun h => lift_no vl h.1), rfl, rfl, rfl⟩, ?_⟩
    refine fna Tryz.func91 Tryz.ntmps91 (rs := [.cell 4 23, .tmp 5, .tmp 6]) (b_nb _ _) ?_
    simp [go_sem, cb_len, hi, cb_take hi]
    refine cl_eq f1 (one_cb1 _) ?_
    simp [go_sem, cb_len, hi, cb_take hi, pl, pt, pd, pl0]
    refine cl_eq f2 (b_nb _ _) ?_
    simp [go_sem, htl, cI_take htl, hz, pl, pt, pd, pl0, zd, zt, cb_len, resV]
    exact post_be rfl
  · cases ok2
    · refine ⟨z32, false, 1, rfl, zb, .inr rfl, .inl ⟨.inl (fun h => absurd (vt.1 h.2).1 (by decide)), rfl, rfl, rfl⟩, ?_⟩
      refine fna Tryz.func91 Tryz.ntmps91 (rs := [.cell 4 23, .tmp 5, .tmp 6]) (b_nb _ _) ?_
      simp [go_sem, cb_len, hi, cb_take hi]
      refine cl_eq f1 (one_cb1 _) ?_
      simp [go_sem, cb_len, hi, cb_take hi, pl, pt, pd, pl0]
      refine cl_eq f2 (b_nb _ _) ?_
      simp [go_sem, htl, cI_take htl, hz, pl, pt, pd, pl0, zd, zt, cb_len, resV]
      exact post_be rfl
    · obtain ⟨k1, k2, k3, k4⟩ := lift_pt vl
      have hlt : T < 115792089237316195423570985008687907852837564279074904382605163141518161494337 := by
        by_cases h : T < 115792089237316195423570985008687907852837564279074904382605163141518161494337
        · exact h
        · exact absurd (vt.2 h).1 (by decide)
      obtain ⟨mx, my, mc, hmx, hmy, hmp, vm, f3⟩ := rmulP t gX gY false ht gX_W gY_W base_pt
      obtain ⟨qx, qy, qc, hqx, hqy, hqp, vq, f4⟩ := raddP x y mx my c mc hx hy hmx hmy k3 hmp
      have ml := cP_len hmx.1 hmy.1 mc
      have mt := cP_take hmx.1 hmy.1 mc
      have ql := cP_len hqx.1 hqy.1 qc
      have qt := cP_take hqx.1 hqy.1 qc
      have qb := cP_b hqx.1 hqy.1 qc
      have qg := cP_g hqx.1 hqy.1 qc
      have vT : (V t).toNat = T := by rw [(vt.1 hlt).2]; exact Int.toNat_natCast _
      have hon : onC (liftPt (beN inner)) := by rw [← k4]; exact isPt_on k3
      have hQ : PV qx qy qc = turnQ (beN inner) T := by
        unfold turnQ
        rw [vq, vm, vT, k4, mp_one fd hon]
      cases qc
      · have hp := hqp
        rcases hp with ⟨hb, _⟩ | ⟨_, hb1, hb2, _⟩
        · cases hb
        obtain ⟨kb, kl, kbb, vk, f5⟩ := rbytes qx qy false hqx hqy hqp
        obtain ⟨od, vo, f6⟩ := reven qx qy false hqx hqy hqp
        have vR : turnR (beN inner) T kb (!od) 0 := by
          refine .inr ⟨⟨k1, hlt⟩, rfl, FV qx, FV qy, hQ.symm, by rw [vk]; exact val_V hqx hb1, ?_⟩
          have e := val_V hqy hb2
          have hy0 := (V_lt hqy).1
          cases od
          · have : ¬ V qy % 2 = 0 := fun h => Bool.noConfusion (vo.2 ⟨rfl, h⟩)
            exact ⟨fun _ => by omega, fun _ => rfl⟩
          · have := (vo.1 rfl).2
            exact ⟨fun h => Bool.noConfusion h, fun h => by omega⟩
        refine ⟨kb, !od, 0, kl, kbb, .inl rfl, vR, ?_⟩
        refine fna Tryz.func91 Tryz.ntmps91 (rs := [.cell 4 23, .tmp 5, .tmp 6]) (b_nb _ _) ?_
        simp [go_sem, cb_len, hi, cb_take hi]
        refine cl_eq f1 (one_cb1 _) ?_
        simp [go_sem, cb_len, hi, cb_take hi, pl, pt, pd, pl0]
        refine cl_eq f2 (b_nb _ _) ?_
        simp [go_sem, htl, cI_take htl, hz, pl, pt, pd, pl0]
        refine drw3 [0,1] [2,3,4,5,6] [0,1] (.alt (.step 2 [] true (.alt (.step 3 [] true (.alt (.step 4 [] false (.step 5 [] false (.step 6 [] false .done))) (.step 5 [] true (.step 4 [] false (.step 6 [] false .done))))) (.step 5 [] true (.step 3 [] true (.step 4 [] false (.step 6 [] false .done)))))) (.step 5 [] true (.step 2 [] true (.step 3 [] true (.step 4 [] false (.step 6 [] false .done)))))) ⟨[(4, .ptr 32 0 0 1), (11, .ptr 1024 0 0 1)], [(1024, ⟨162, 9, [cP qx qy false]⟩), (32, ⟨23, 32, [cb z32]⟩)], 5000⟩ (k := 7) ?h3 ?hq
        case h3 =>
          intro G hG
          have hW : ∀ (fr : Fr) (hp : Hp), (fv 4 fr = .ptr 32 0 0 1 ∧ fv 11 fr = .ptr 1024 0 0 1 ∧ lk 1024 hp = some ⟨162, 9, [cP qx qy false]⟩ ∧ lk 32 hp = some ⟨23, 32, [cb z32]⟩) → G fr hp := by
            rintro fr hp ⟨q0, q1, q2, q3⟩
            exact hG _ _ wkA
          simp [go_sem, htl, cI_take htl, pl, pt, ql, qt, pd, pl0, hz, bl, bt, SaW]
          repeat' first | exact hW _ _ ⟨rfl, rfl, rfl, rfl⟩ | (refine hW _ _ ?_; simp [fv, lk]; done) | refine cl_eq rbase (by simp) ?_ | refine cl_eq f3 (wp_deep _ _ _ _) ?_ | refine cl_eq f4 (two_cP _ _ _ _ _ _) ?_ | apply And.intro | simp [go_sem, htl, cI_take htl, pl, pt, ql, qt, pd, pl0, hz, bl, bt, SaW]
        case hq =>
          simp [go_sem, qb, qg, ql]
          refine drw3 [0,2] [1,3,4,5,6,7] [0,2] (.step 1 [] true (.step 3 [] false (.alt (.step 4 [] false (.step 5 [] false (.step 6 [] false (.step 7 [] false .done)))) (.step 5 [] false (.step 4 [] false (.step 6 [] false (.step 7 [] false .done))))))) ⟨[(4, .ptr 32 0 0 1), (5, .d (.bool (!od))), (6, .d (.int .i64 0))], [(32, ⟨23, 32, [cb kb]⟩)], 9000⟩ (k := 8) ?h3 ?hq
          case h3 =>
            intro G hG
            have hW : ∀ (fr : Fr) (hp : Hp), (fv 4 fr = .ptr 32 0 0 1 ∧ fv 5 fr = .d (.bool (!od)) ∧ fv 6 fr = .d (.int .i64 0) ∧ lk 32 hp = some ⟨23, 32, [cb kb]⟩) → G fr hp := by
              rintro fr hp ⟨q0, q1, q2, q3⟩
              exact hG _ _ wkA
            simp [go_sem, ql, qt, kl, cb_len, cb_take kl, zd, SaW]
            repeat' first | exact hW _ _ ⟨rfl, rfl, rfl, rfl⟩ | (refine hW _ _ ?_; simp [fv, lk]; done) | refine cl_eq f5 (one_cP _ _ _) ?_ | refine cl_eq f6 (one_cP _ _ _) ?_ | apply And.intro | simp [go_sem, ql, qt, kl, cb_len, cb_take kl, zd, SaW]
          case hq =>
            simp [go_sem, cb_len, kl, cb_take kl, resV]
            exact post_be rfl
      · refine ⟨z32, false, 1, rfl, zb, .inr rfl, .inl ⟨.inr hQ.symm, rfl, rfl, rfl⟩, ?_⟩
        refine fna Tryz.func91 Tryz.ntmps91 (rs := [.cell 4 23, .tmp 5, .tmp 6]) (b_nb _ _) ?_
        simp [go_sem, cb_len, hi, cb_take hi]
        refine cl_eq f1 (one_cb1 _) ?_
        simp [go_sem, cb_len, hi, cb_take hi, pl, pt, pd, pl0]
        refine cl_eq f2 (b_nb _ _) ?_
        simp [go_sem, htl, cI_take htl, hz, pl, pt, pd, pl0]
        refine drw3 [0,1] [2,3,4,5,6] [0,1] (.alt (.step 2 [] true (.alt (.step 3 [] true (.alt (.step 4 [] false (.step 5 [] false (.step 6 [] false .done))) (.step 5 [] true (.step 4 [] false (.step 6 [] false .done))))) (.step 5 [] true (.step 3 [] true (.step 4 [] false (.step 6 [] false .done)))))) (.step 5 [] true (.step 2 [] true (.step 3 [] true (.step 4 [] false (.step 6 [] false .done)))))) ⟨[(4, .ptr 32 0 0 1), (11, .ptr 1024 0 0 1)], [(1024, ⟨162, 9, [cP qx qy true]⟩), (32, ⟨23, 32, [cb z32]⟩)], 5000⟩ (k := 7) ?h3 ?hq
        case h3 =>
          intro G hG
          have hW : ∀ (fr : Fr) (hp : Hp), (fv 4 fr = .ptr 32 0 0 1 ∧ fv 11 fr = .ptr 1024 0 0 1 ∧ lk 1024 hp = some ⟨162, 9, [cP qx qy true]⟩ ∧ lk 32 hp = some ⟨23, 32, [cb z32]⟩) → G fr hp := by
            rintro fr hp ⟨q0, q1, q2, q3⟩
            exact hG _ _ wkA
          simp [go_sem, htl, cI_take htl, pl, pt, ql, qt, pd, pl0, hz, bl, bt, SaW]
          repeat' first | exact hW _ _ ⟨rfl, rfl, rfl, rfl⟩ | (refine hW _ _ ?_; simp [fv, lk]; done) | refine cl_eq rbase (by simp) ?_ | refine cl_eq f3 (wp_deep _ _ _ _) ?_ | refine cl_eq f4 (two_cP _ _ _ _ _ _) ?_ | apply And.intro | simp [go_sem, htl, cI_take htl, pl, pt, ql, qt, pd, pl0, hz, bl, bt, SaW]
        case hq =>
          simp [go_sem, qb, qg, ql, zd, zt, cb_len, resV]
          exact post_be rfl
theorem rootB_bytes : ∀ (ps : List (List Nat)) {h : List Nat}, bytes h → bytes (rootB ps h)
  | [], _, hh => hh
  | p :: r, h, hh => rootB_bytes r (h := branchB h p) (by unfold branchB; split <;> exact sumB_bytes _)
theorem rturned (inner : List Nat) (ps : List (List Nat)) (x : List Nat) (hi : inner.length = 32) (hib : bytes inner) (hp32 : ∀ p, p ∈ ps → p.length = 32 ∧ bytes p) (hxb : bytes x) (hps : ps.length ≤ 1000) (hx : x.length ≤ 100000) : ∃ (k : List Nat) (o : Bool) (e : Int), k.length = 32 ∧ bytes k ∧ E1 e ∧ Rets Tryz.prog 55 [leafV inner ps x] (fun r => r = .tup [.agg (cb k), .d (.bool o), .d (.int .i64 e)]) ∧ (e = 0 → ps.length ≤ 8 ∧ x.length ≤ 1000) ∧ leafTurn inner ps x k o e := by
  have hR := rootB_lenA ps (leafB x) (leafB_len x)
  have hRb : bytes (rootB ps (leafB x)) := rootB_bytes ps (sumB_bytes _)
  have f1 := rootR_fn inner ps x hi hp32 hps hx hxb
  unfold leafTurn
  generalize rootB ps (leafB x) = R at *
  obtain ⟨k, o, e, hk, hkb, he, hT, f2⟩ := rturn inner R hi hib (by omega) hRb
  have zb : bytes z32 := fun x hx => by simp [z32] at hx; omega
  have zd : List.drop 32 (cb z32) = [] := cb_drop rfl
  have zt : List.take 32 (cb z32) = cb z32 := cb_take rfl
  by_cases h1 : 8 < ps.length
  · refine ⟨z32, false, 1, rfl, zb, .inr rfl, ?_, fun h => by omega, .inl ⟨by omega, rfl, rfl, rfl⟩⟩
    refine fna Tryz.func55 Tryz.ntmps55 (rs := [.cell 2 23, .tmp 3, .tmp 4]) (leafV_deep _ _ _) ?_
    have i1 : (8 : Int) < (ps.length : Int) := by omega
    simp [go_sem, leafV, leafC, leaf33 hi, leaf32 hi, hs32, nb, i1, zd, zt, cb_len, resV]
    exact post_be rfl
  by_cases h2 : 1000 < x.length
  · refine ⟨z32, false, 1, rfl, zb, .inr rfl, ?_, fun h => by omega, .inl ⟨by omega, rfl, rfl, rfl⟩⟩
    refine fna Tryz.func55 Tryz.ntmps55 (rs := [.cell 2 23, .tmp 3, .tmp 4]) (leafV_deep _ _ _) ?_
    have i1 : ¬ (8 : Int) < (ps.length : Int) := by omega
    have i2 : (1000 : Int) < (x.length : Int) := by omega
    simp [go_sem, leafV, leafC, leaf33 hi, leaf32 hi, hs32, nb, i1, i2, zd, zt, cb_len, resV]
    exact post_be rfl
  refine ⟨k, o, e, hk, hkb, he, ?_, fun _ => by omega, .inr ⟨by omega, hT⟩⟩
  refine fna Tryz.func55 Tryz.ntmps55 (rs := [.cell 2 23, .tmp 3, .tmp 4]) (leafV_deep _ _ _) ?_
  have i1 : ¬ (8 : Int) < (ps.length : Int) := by omega
  have i2 : ¬ (1000 : Int) < (x.length : Int) := by omega
  simp [go_sem, leafV, leafC, leaf33 hi, leaf32 hi, hs32, nb, i1, i2, hi, leaf_take hi]
  refine cl_eq (by simpa only [leafC, hs32, nb] using f1) (by simpa only [leafV, leafC, hs32, nb] using leafV_deep inner ps x) ?_
  simp [go_sem, cb_len, hR, cb_take hR, zd]
  refine drw3 [0,1,2] [3,7,8,9] [0,1,2,4,5,6] (.step 3 [4,5,6] true (.step 7 [] false (.step 8 [] false (.step 9 [] false .done)))) ⟨[(2, .ptr 32 0 0 1), (3, .d (.bool o)), (4, .d (.int .i64 e))], [(32, ⟨23, 32, [cb k]⟩)], 9000⟩ (k := 10) ?h3 ?hq
  case h3 =>
    intro G hG
    have hW : ∀ (fr : Fr) (hp : Hp), (fv 2 fr = .ptr 32 0 0 1 ∧ fv 3 fr = .d (.bool o) ∧ fv 4 fr = .d (.int .i64 e) ∧ lk 32 hp = some ⟨23, 32, [cb k]⟩) → G fr hp := by
      rintro fr hp ⟨q0, q1, q2, q3⟩
      exact hG _ _ wkA
    simp [go_sem, leafC, leaf33 hi, leaf32 hi, cb_len, hi, hR, hk, cb_take hi, cb_take hR, cb_take hk, zd, cb_takeA hi, SaW]
    repeat' first | exact hW _ _ ⟨rfl, rfl, rfl, rfl⟩ | (refine hW _ _ ?_; simp [fv, lk]; done) | refine cl_snap f2 rfl (snap_cons (.deep (cb_deepA _)) (snap_cons (.one (snap1_d (snap_arr rfl trivial hR))) snap_nil)) (flat_be _ _ _) ?_ | apply And.intro | simp [go_sem, leafC, leaf33 hi, leaf32 hi, cb_len, hi, hR, hk, cb_take hi, cb_take hR, cb_take hk, zd, cb_takeA hi, SaW]
  case hq =>
    simp [go_sem, cb_len, hk, cb_take hk, resV]
    exact post_be rfl
theorem routput_no {inner x k : List Nat} {ps : List (List Nat)} {o : Bool} (hi : inner.length = 32) (hk : k.length = 32) (f : Rets Tryz.prog 55 [leafV inner ps x] (fun r => r = .tup [.agg (cb k), .d (.bool o), .d (.int .i64 1)])) :
    Rets Tryz.prog 19 [leafV inner ps x] (fun r => r = .tup [.d (nb []), .d (.int .i64 1)]) := by
  refine fna Tryz.func19 Tryz.ntmps19 (rs := [.tmp 2, .tmp 3]) (leafV_deep _ _ _) ?_
  have zd : List.drop 32 (cb z32) = [] := cb_drop rfl
  simp [go_sem, leafV, leafC, leaf33 hi, leaf32 hi, hs32, nb, hi, leaf_take hi]
  refine cl_eq f (leafV_deep _ _ _) ?_
  simp [go_sem, cb_len, hk, cb_take hk, zd, resV]
  exact post_bld0 rfl
theorem routput_ok {inner x k : List Nat} {ps : List (List Nat)} {o : Bool} (hi : inner.length = 32) (hk : k.length = 32) (f : Rets Tryz.prog 55 [leafV inner ps x] (fun r => r = .tup [.agg (cb k), .d (.bool o), .d (.int .i64 0)])) :
    Rets Tryz.prog 19 [leafV inner ps x] (fun r => r = .tup [.d (nb (81 :: 32 :: k)), .d (.int .i64 0)]) := by
  refine fna Tryz.func19 Tryz.ntmps19 (rs := [.tmp 2, .tmp 3]) (leafV_deep _ _ _) ?_
  have zd : List.drop 32 (cb z32) = [] := cb_drop rfl
  simp [go_sem, leafV, leafC, leaf33 hi, leaf32 hi, hs32, nb, hi, leaf_take hi]
  refine cl_eq f (leafV_deep _ _ _) ?_
  have hx1 := cb_rows hk
  simp [go_sem] at hx1
  simp [go_sem, cb_len, hk, cb_take hk, zd, hx1, rb_len, resV]
  have e : rb (81 :: 32 :: k) = [AV.d (.int .u8 81)] :: [AV.d (.int .u8 32)] :: rb k := by simp [rb]
  have h34 : (81 :: 32 :: k).length = 34 := by simp [hk]
  exact post_bldn (L := 81 :: 32 :: k) h34 (by rw [e]; rfl) (by simp [nb])
theorem rcontrol_no {inner x k : List Nat} {ps : List (List Nat)} {o : Bool} (hi : inner.length = 32) (hk : k.length = 32) (f : Rets Tryz.prog 55 [leafV inner ps x] (fun r => r = .tup [.agg (cb k), .d (.bool o), .d (.int .i64 1)])) :
    Rets Tryz.prog 21 [leafV inner ps x] (fun r => r = .tup [.d (nb []), .d (.int .i64 1)]) := by
  refine fna Tryz.func21 Tryz.ntmps21 (rs := [.tmp 2, .tmp 3]) (leafV_deep _ _ _) ?_
  have zd : List.drop 32 (cb z32) = [] := cb_drop rfl
  simp [go_sem, leafV, leafC, leaf33 hi, leaf32 hi, hs32, nb, hi, leaf_take hi]
  refine cl_eq f (leafV_deep _ _ _) ?_
  simp [go_sem, cb_len, hk, cb_take hk, zd, resV]
  exact post_bld0 rfl
theorem beN_inj : ∀ {a b : List Nat}, a.length = b.length → bytes a → bytes b → beN a = beN b → a = b
  | [], [], _, _, _, _ => rfl
  | [], y :: s, h, _, _, _ => by simp at h
  | x :: r, [], h, _, _, _ => by simp at h
  | x :: r, y :: s, h, ha, hb, he => by
    have hl : r.length = s.length := by simpa using h
    rw [beN_cons, beN_cons, hl] at he
    have l1 : beN r < 256 ^ s.length := by
      have := fold_lt r (fun z hz => ha z (List.mem_cons_of_mem _ hz)) 0
      rw [Nat.zero_add, Nat.one_mul, hl] at this
      exact this
    have l2 : beN s < 256 ^ s.length := by
      have := fold_lt s (fun z hz => hb z (List.mem_cons_of_mem _ hz)) 0
      rw [Nat.zero_add, Nat.one_mul] at this
      exact this
    generalize 256 ^ s.length = P at *
    have hxy : x = y := by
      have h1 := congrArg (· / P) he
      have h2 : ∀ u v : Nat, v < P → (u * P + v) / P = u := fun u v hv => by
        rw [Nat.mul_comm, Nat.mul_add_div (by omega), Nat.div_eq_of_lt hv, Nat.add_zero]
      simp only [h2 _ _ l1, h2 _ _ l2] at h1
      exact h1
    subst hxy
    rw [beN_inj hl (fun z hz => ha z (List.mem_cons_of_mem _ hz)) (fun z hz => hb z (List.mem_cons_of_mem _ hz)) (by omega)]
theorem turnR_uniq {n t : Nat} {k k' : List Nat} {o o' : Bool} {e e' : Int} (h1 : k.length = 32) (h2 : bytes k) (h1' : k'.length = 32) (h2' : bytes k') (h : turnR n t k o e) (h' : turnR n t k' o' e') : k = k' ∧ o = o' ∧ e = e' := by
  rcases h with ⟨a, rfl, rfl, rfl⟩ | ⟨a, rfl, x, y, hq, hk, ho⟩
  · rcases h' with ⟨_, rfl, rfl, rfl⟩ | ⟨b, _, x', y', hq', _, _⟩
    · exact ⟨rfl, rfl, rfl⟩
    · rcases a with a | a
      · exact absurd b a
      · rw [a] at hq'; cases hq'
  · rcases h' with ⟨b, _, _, _⟩ | ⟨_, rfl, x', y', hq', hk', ho'⟩
    · rcases b with b | b
      · exact absurd a b
      · rw [b] at hq; cases hq
    · have e := Option.some.inj (hq.symm.trans hq')
      injection e with ex ey
      subst ex ey
      refine ⟨beN_inj (by rw [h1, h1']) h2 h2' (by rw [hk, hk']), ?_, rfl⟩
      cases o <;> cases o'
      · rfl
      · exact absurd (ho.2 (ho'.1 rfl)) (by decide)
      · exact absurd (ho'.2 (ho.1 rfl)) (by decide)
      · rfl
theorem leafTurn_uniq {inner : List Nat} {ps : List (List Nat)} {x k k' : List Nat} {o o' : Bool} {e e' : Int} (h1 : k.length = 32) (h2 : bytes k) (h1' : k'.length = 32) (h2' : bytes k') (h : leafTurn inner ps x k o e) (h' : leafTurn inner ps x k' o' e') : k = k' ∧ o = o' ∧ e = e' := by
  rcases h with ⟨a, rfl, rfl, rfl⟩ | ⟨a, h⟩
  · rcases h' with ⟨_, rfl, rfl, rfl⟩ | ⟨b, _⟩
    · exact ⟨rfl, rfl, rfl⟩
    · exact absurd b a
  · rcases h' with ⟨b, _⟩ | ⟨_, h'⟩
    · exact absurd a b
    · exact turnR_uniq h1 h2 h1' h2' h h'
def keyP (s : List Nat) : Prop := ∃ k, k.length = 32 ∧ s = 81 :: 32 :: k
theorem keyP_no {s : List Nat} (h : ¬ keyP s) : s.length ≠ 34 ∨ ∃ a b r, s = a :: b :: r ∧ r.length = 32 ∧ (a ≠ 81 ∨ (a = 81 ∧ b ≠ 32)) := by
  by_cases hl : s.length = 34
  · refine .inr ?_
    match s, hl with
    | a :: b :: r, hl =>
      have hr : r.length = 32 := by simp at hl; omega
      refine ⟨a, b, r, rfl, hr, ?_⟩
      by_cases ha : a = 81
      · by_cases hb : b = 32
        · exact absurd ⟨r, hr, by rw [ha, hb]⟩ h
        · exact .inr ⟨ha, hb⟩
      · exact .inl ha
  · exact .inl hl
theorem keyNo_fn (s : List Nat) (hs : s.length ≤ 1000) (h : ¬ keyP s) : Rets Tryz.prog 22 [.d (nb s)] (fun r => r = .tup [.agg (cb z32), .d (.bool false)]) := by
  refine fna Tryz.func22 Tryz.ntmps22 (rs := [.cell 2 23, .tmp 3]) (by simp [AV.deep, AV.deep1]) ?_
  have zd : List.drop 32 (cb z32) = [] := cb_drop rfl
  have zt : List.take 32 (cb z32) = cb z32 := cb_take rfl
  have pk : ∀ {st : St}, PostK (fun r => r = AV.tup [.agg (cb z32), .d (.bool false)]) (AV.tup [.agg (cb z32), .d (.bool false)]) st := fun {st} => post_same (by
    intro c hc
    simp at hc
    rcases hc with rfl | rfl
    · exact .inr ⟨_, rfl, cb_deep _⟩
    · exact .inl trivial) rfl
  rcases keyP_no h with hl | ⟨a, b, r, rfl, hr, ha | ⟨ha, hb⟩⟩
  · have hli : ¬ ((s.length : Int) = 34) := by omega
    simp [go_sem, nb, hl, hli, zd, zt, cb_len, resV]
    exact pk
  · have hli : ((a :: b :: r).length : Int) = 34 := by simp; omega
    have hai : ¬ ((a : Int) = 81) := by omega
    simp [go_sem, nb, hr, hai, ha, zd, zt, cb_len, resV]
    exact pk
  · have hli : ((a :: b :: r).length : Int) = 34 := by simp; omega
    have hbi : ¬ ((b : Int) = 32) := by omega
    subst ha
    simp [go_sem, nb, hr, hbi, hb, zd, zt, cb_len, resV]
    exact pk
theorem rkeyNo (s : List Nat) (hs : s.length ≤ 1000) (h : ¬ keyP s) : Rets Tryz.prog 23 [.d (nb s)] (fun r => r = .tup [.agg (cb z32), .d (.bool false)]) := by
  refine fna Tryz.func23 Tryz.ntmps23 (rs := [.cell 2 23, .tmp 3]) (by simp [AV.deep, AV.deep1]) ?_
  have zd : List.drop 32 (cb z32) = [] := cb_drop rfl
  have zt : List.take 32 (cb z32) = cb z32 := cb_take rfl
  have pk : ∀ {st : St}, PostK (fun r => r = AV.tup [.agg (cb z32), .d (.bool false)]) (AV.tup [.agg (cb z32), .d (.bool false)]) st := fun {st} => post_same (by
    intro c hc
    simp at hc
    rcases hc with rfl | rfl
    · exact .inr ⟨_, rfl, cb_deep _⟩
    · exact .inl trivial) rfl
  rcases keyP_no h with hl | ⟨a, b, r, rfl, hr, ha | ⟨ha, hb⟩⟩
  · have hli : ¬ ((s.length : Int) = 34) := by omega
    simp [go_sem, nb, hl, hli, zd, zt, cb_len, resV]
    exact pk
  · have hli : ((a :: b :: r).length : Int) = 34 := by simp; omega
    have hai : ¬ ((a : Int) = 81) := by omega
    simp [go_sem, nb, hr, hai, ha, zd, zt, cb_len, resV]
    exact pk
  · have hli : ((a :: b :: r).length : Int) = 34 := by simp; omega
    have hbi : ¬ ((b : Int) = 32) := by omega
    subst ha
    simp [go_sem, nb, hr, hbi, hb, zd, zt, cb_len, resV]
    exact pk
theorem take_snocR {α : Type} {l : List α} {k : Nat} {x : α} (h : l[k]? = some x) : l.take k ++ [x] = l.take (k + 1) := by
  rw [List.take_add_one, h]; rfl
theorem hashR2_fn (b : List Nat) (hb : b.length = 32) : Rets Tryz.prog 53 [.d (nb b)] (fun r => r = .agg (cb b)) := by
  refine fna Tryz.func53 Tryz.ntmps53 (rs := [.cell 2 23]) (by simp [AV.deep, AV.deep1]) ?_
  have hz : (cb z32).drop 32 = [] := rfl
  have hzl : (cb z32).length = 32 := rfl
  have hzt : (cb z32).take 32 = cb z32 := rfl
  simp [go_sem, nb, hz, hzl, hzt]
  refine loop_of (fun i : Nat => ⟨[(0, .d (nb b)), (2, .ptr 0 0 0 1), (3, .ptr 64 0 0 1), (4, .d (.int .i64 (i : Int)))], [(0, ⟨23, 32, [cb z32]⟩), (64, ⟨23, 32, [cb (b.take i ++ z32.drop i)]⟩)], 500⟩)
    (fun i => i ≤ 32) (fun i => 32 - i) 0 (by omega) (by
      simp [Weak, slotOk, fv, lk, AV.low, AV.low1, nb]
      repeat' apply And.intro
      all_goals first | rfl | exact cb_low _ _) ?_
  intro i hi
  by_cases h32 : i = 32
  · subst h32
    have e : b.take 32 ++ z32.drop 32 = b := by rw [List.take_of_length_le (by omega)]; simp [z32]
    have hcl : (cb b).length = 32 := by rw [cb_len]; exact hb
    have htk : (cb b).take 32 = cb b := List.take_of_length_le (by omega)
    rw [e]
    simp [go_sem, nb, hb, resV, hcl, htk, hz]
    exact post_same (cb_deepA _) rfl
  · obtain ⟨c, hc, _⟩ := drop_of (l := b) (k := i) (by omega)
    have w3 := next_i64 (k := i) (by omega)
    have hl : (b.take i ++ z32.drop i).length = 32 := by simp [z32]; omega
    have hs : (b.take i ++ z32.drop i).set i c = b.take (i + 1) ++ z32.drop (i + 1) := by
      have hz0 : z32.drop i = 0 :: z32.drop (i + 1) := by
        unfold z32
        rw [List.drop_replicate, List.drop_replicate, show 32 - i = (32 - (i + 1)) + 1 by omega, List.replicate_succ]
      rw [hz0, List.set_append_right _ _ (by simp; omega), List.length_take, show i - min i b.length = 0 by omega, List.set_cons_zero, ← take_snocR hc, List.append_assoc]
      rfl
    have i1 : (i : Int) < 32 := by omega
    have i2 : i < 32 := by omega
    have i3 : (i : Int) < (b.length : Int) := by omega
    have i4 : i < b.length := by omega
    generalize b.take i ++ z32.drop i = L at *
    have hbi : ∀ p : i < b.length, b[i] = c := fun p => (List.getElem?_eq_some_iff.1 hc).2
    simp [go_sem, nb, hbi, i1, i2, i3, i4, cb_len, cb_set, hl, hs, w3]
    refine next_of (i + 1) (by omega) (by omega) ?_
    simp [Weak, slotOk, fv, lk, AV.low, AV.low1, nb]
    repeat' apply And.intro
    all_goals first | rfl | exact cb_low _ _
theorem rkeyOf (k : List Nat) (hk : k.length = 32) : Rets Tryz.prog 23 [.d (nb (81 :: 32 :: k))] (fun r => r = .tup [.agg (cb k), .d (.bool true)]) := by
  refine fna Tryz.func23 Tryz.ntmps23 (rs := [.cell 2 23, .tmp 3]) (by simp [AV.deep, AV.deep1]) ?_
  have f1 := hashR2_fn k hk
  have e1 : List.take 32 (List.map (fun (b : Nat) => [DV.int .u8 (b : Int)]) k) = List.map (fun (b : Nat) => [DV.int .u8 (b : Int)]) k := List.take_of_length_le (by simp [hk])
  simp [go_sem, nb, hk, z32_drop, e1]
  refine cl_eq (by simpa only [nb] using f1) (by simp [AV.deep, AV.deep1]) ?_
  simp [go_sem, cb_len, hk, cb_take hk, z32_drop, resV]
  exact post_same (by simp [AV.deep, AV.deep1]; exact cb_deep _) rfl
theorem leafC_lowR (n : Nat) (inner : List Nat) (a b : AV) (ha : a.low1 n) (hb : b.low1 n) : ∀ v, v ∈ leafC inner a b → v.low1 n := by
  intro v hv
  unfold leafC at hv
  rcases List.mem_append.1 hv with h | h
  · exact cb_low _ _ v h
  · simp at h
    rcases h with rfl | rfl
    · exact ha
    · exact hb
theorem flat32R : ∀ l : List (List Nat), (∀ p, p ∈ l → p.length = 32) → l.flatten.length = 32 * l.length
  | [], _ => rfl
  | a :: r, h => by rw [List.flatten_cons, List.length_append, flat32R r (fun p hp => h p (List.mem_cons_of_mem _ hp)), h a (List.mem_cons_self), List.length_cons]; omega
theorem leaf_lenR {inner : List Nat} (hi : inner.length = 32) (a b : AV) : (leafC inner a b).length = 34 := by simp [leafC, cb_len, hi]
theorem leaf_takeR {inner : List Nat} (hi : inner.length = 32) (a b : AV) : List.take 34 (leafC inner a b) = leafC inner a b := List.take_of_length_le (by rw [leaf_lenR hi]; exact Nat.le_refl _)
theorem leaf_atR {inner : List Nat} (hi : inner.length = 32) (a b : AV) : (leafC inner a b)[32]? = some a := leaf32 hi a b
theorem leaf_hdR {inner : List Nat} (hi : inner.length = 32) (a b : AV) : (List.drop 32 (leafC inner a b)).head? = some a := by
  rw [List.head?_drop]; exact leaf32 hi a b
theorem rcontrol_ok {inner x k : List Nat} {ps : List (List Nat)} {o : Bool} (hi : inner.length = 32) (hp32 : ∀ p, p ∈ ps → p.length = 32) (hps : ps.length ≤ 1000) (hk : k.length = 32) (f : Rets Tryz.prog 55 [leafV inner ps x] (fun r => r = .tup [.agg (cb k), .d (.bool o), .d (.int .i64 0)])) :
    Rets Tryz.prog 21 [leafV inner ps x] (fun r => r = .tup [.d (nb (ctl o inner ps)), .d (.int .i64 0)]) := by
  refine fna Tryz.func21 Tryz.ntmps21 (rs := [.tmp 2, .tmp 3]) (leafV_deep _ _ _) ?_
  have zd : List.drop 32 (cb z32) = [] := cb_drop rfl
  have hw : IntKind.u8.wrap 193 = 193 := by decide
  simp [go_sem, leafV, leaf_lenR hi, leaf_takeR hi]
  refine cl_eq f (leafV_deep _ _ _) ?_
  have hx1 := leaf_rows hi [AV.d (hs32 ps), AV.d (nb x)]
  have hcl : (leafC inner (AV.d (hs32 ps)) (AV.d (nb x))) = cb inner ++ [AV.d (hs32 ps), AV.d (nb x)] := rfl
  rw [← hcl] at hx1
  simp [go_sem] at hx1
  cases o
  · simp [go_sem, cb_len, hk, cb_take hk, zd, hx1, rb_len, hi, hw, leaf_lenR hi]
    have w33 : (ctl false inner (ps.take 0)).length = 33 := by simp [ctl, hi]
    have r0 : rb (ctl false inner (ps.take 0)) = [AV.d (.int .u8 192)] :: rb inner := by simp [ctl, rb]
    refine loop_of (fun k : Nat => ⟨[(1, .ptr 0 0 0 1), (7, .own 480 0 (ctl false inner (ps.take k)).length (ctl false inner (ps.take k)).length), (8, .d (.int .i64 (k : Int)))], [(480, ⟨5, 1, rb (ctl false inner (ps.take k))⟩), (0, ⟨27, 34, [leafC inner (.d (hs32 ps)) (.d (nb x))]⟩)], 9000⟩)
      (fun k => k ≤ ps.length) (fun k => ps.length - k) 0 (by omega) (by
        rw [w33, r0]
        simp [Weak, slotOk, fv, lk, AV.low, AV.low1]
        first | (and_intros <;> first | rfl | exact rb_low _ _ | exact leafC_lowR _ _ (.d (hs32 ps)) (.d (nb x)) trivial trivial) | skip) ?_
    intro k hk
    have w := next_i64 (k := k) (by omega)
    by_cases hlt : k < ps.length
    · have hki : (k : Int) < (ps.length : Int) := by omega
      have hp := List.getElem?_eq_getElem hlt
      have htk : ps.take (k + 1) = ps.take k ++ [ps[k]] := List.take_succ_eq_append_getElem hlt
      generalize ps[k] = q at hp htk
      have hpl : q.length = 32 := hp32 q (List.mem_of_getElem? hp)
      have hx2 := cb_rows hpl
      have cdq : List.take 32 (List.map ((fun r => List.map AV.d r) ∘ fun c => [c]) (cd q)) = rb q := by
        rw [List.take_of_length_le (by simp [cd_len, hpl])]
        simp [cd, rb]
      simp [go_sem] at hx2
      have hc : ctl false inner (ps.take (k + 1)) = ctl false inner (ps.take k) ++ q := by rw [htk]; simp [ctl]
      have hcl : (ctl false inner (ps.take k)).length ≤ 33 + 32 * k := by
        have := flat32R (ps.take k) (fun p hp => hp32 p (List.mem_of_mem_take hp))
        rw [List.length_take] at this
        unfold ctl; rw [List.length_cons, List.length_append, hi]; omega
      generalize ctl false inner (ps.take k) = L at *
      simp [go_sem, leaf_atR hi, leaf_hdR hi, leaf_lenR hi, hs32, hki, hp, cd_len, hpl, cd_map, cb_take hpl, cb_len, hx2, rb_len]
      first | refine ⟨by omega, ?_⟩ | skip
      refine next_of (k + 1) (by omega) (by omega) ?_
      rw [hc]
      have ra : rb (L ++ q) = rb L ++ rb q := by simp [rb]
      simp [Weak, slotOk, fv, lk, AV.low, AV.low1, w, hpl, ra]
      and_intros <;> first | rfl | exact leafC_lowR _ _ (.d (hs32 ps)) (.d (nb x)) trivial trivial | (intro r hr; exact hr.elim (rb_low _ _ r) (rb_low _ _ r)) | (rw [List.take_of_length_le (by simp [cd_len, hpl])]; simp [cd, rb]; done) | exact cdq
    · have hki : ¬ (k : Int) < (ps.length : Int) := by omega
      have hkn : k = ps.length := by omega
      subst hkn
      simp only [List.take_length]
      simp [go_sem, leaf_atR hi, leaf_hdR hi, leaf_lenR hi, hs32, hki, resV]
      exact post_bldn (L := ctl false inner ps) rfl rfl (by simp [nb])
  · simp [go_sem, cb_len, hk, cb_take hk, zd, hx1, rb_len, hi, hw, leaf_lenR hi]
    have w33 : (ctl true inner (ps.take 0)).length = 33 := by simp [ctl, hi]
    have r0 : rb (ctl true inner (ps.take 0)) = [AV.d (.int .u8 193)] :: rb inner := by simp [ctl, rb]
    refine loop_of (fun k : Nat => ⟨[(1, .ptr 0 0 0 1), (7, .own 480 0 (ctl true inner (ps.take k)).length (ctl true inner (ps.take k)).length), (8, .d (.int .i64 (k : Int)))], [(480, ⟨5, 1, rb (ctl true inner (ps.take k))⟩), (0, ⟨27, 34, [leafC inner (.d (hs32 ps)) (.d (nb x))]⟩)], 9000⟩)
      (fun k => k ≤ ps.length) (fun k => ps.length - k) 0 (by omega) (by
        rw [w33, r0]
        simp [Weak, slotOk, fv, lk, AV.low, AV.low1]
        first | (and_intros <;> first | rfl | exact rb_low _ _ | exact leafC_lowR _ _ (.d (hs32 ps)) (.d (nb x)) trivial trivial) | skip) ?_
    intro k hk
    have w := next_i64 (k := k) (by omega)
    by_cases hlt : k < ps.length
    · have hki : (k : Int) < (ps.length : Int) := by omega
      have hp := List.getElem?_eq_getElem hlt
      have htk : ps.take (k + 1) = ps.take k ++ [ps[k]] := List.take_succ_eq_append_getElem hlt
      generalize ps[k] = q at hp htk
      have hpl : q.length = 32 := hp32 q (List.mem_of_getElem? hp)
      have hx2 := cb_rows hpl
      have cdq : List.take 32 (List.map ((fun r => List.map AV.d r) ∘ fun c => [c]) (cd q)) = rb q := by
        rw [List.take_of_length_le (by simp [cd_len, hpl])]
        simp [cd, rb]
      simp [go_sem] at hx2
      have hc : ctl true inner (ps.take (k + 1)) = ctl true inner (ps.take k) ++ q := by rw [htk]; simp [ctl]
      have hcl : (ctl true inner (ps.take k)).length ≤ 33 + 32 * k := by
        have := flat32R (ps.take k) (fun p hp => hp32 p (List.mem_of_mem_take hp))
        rw [List.length_take] at this
        unfold ctl; rw [List.length_cons, List.length_append, hi]; omega
      generalize ctl true inner (ps.take k) = L at *
      simp [go_sem, leaf_atR hi, leaf_hdR hi, leaf_lenR hi, hs32, hki, hp, cd_len, hpl, cd_map, cb_take hpl, cb_len, hx2, rb_len]
      first | refine ⟨by omega, ?_⟩ | skip
      refine next_of (k + 1) (by omega) (by omega) ?_
      rw [hc]
      have ra : rb (L ++ q) = rb L ++ rb q := by simp [rb]
      simp [Weak, slotOk, fv, lk, AV.low, AV.low1, w, hpl, ra]
      and_intros <;> first | rfl | exact leafC_lowR _ _ (.d (hs32 ps)) (.d (nb x)) trivial trivial | (intro r hr; exact hr.elim (rb_low _ _ r) (rb_low _ _ r)) | (rw [List.take_of_length_le (by simp [cd_len, hpl])]; simp [cd, rb]; done) | exact cdq
    · have hki : ¬ (k : Int) < (ps.length : Int) := by omega
      have hkn : k = ps.length := by omega
      subst hkn
      simp only [List.take_length]
      simp [go_sem, leaf_atR hi, leaf_hdR hi, leaf_lenR hi, hs32, hki, resV]
      exact post_bldn (L := ctl true inner ps) rfl rfl (by simp [nb])
theorem arg_oneR {n : Nat} {t : TypeId} {a : AV} {k : TypeDesc} (hu : Tryz.prog.underlying t = some k) (hk : ∀ fs, k ≠ .struct fs) (hk2 : ∀ m e, k ≠ .array m e) (h : ArgTy Tryz.prog n t a) : ∃ d, a = .d d ∧ TyD Tryz.prog n t [d] := by
  unfold ArgTy at h
  rw [hu] at h
  cases k <;> first | exact h | exact absurd rfl (hk _) | exact absurd rfl (hk2 _ _)
theorem flat_bytes : ∀ l : List (List Nat), (∀ p, p ∈ l → bytes p) → bytes l.flatten
  | [], _ => fun x hx => by simp at hx
  | a :: r, h => by
    intro x hx
    rw [List.flatten_cons] at hx
    rcases List.mem_append.1 hx with q | q
    · exact h a (List.mem_cons_self) x q
    · exact flat_bytes r (fun p hp => h p (List.mem_cons_of_mem _ hp)) x q
theorem ctl_bytes {o : Bool} {inner : List Nat} {ps : List (List Nat)} (hi : bytes inner) (hp : ∀ p, p ∈ ps → bytes p) : bytes (ctl o inner ps) := by
  intro x hx
  unfold ctl at hx
  rcases List.mem_cons.1 hx with rfl | hx
  · split <;> omega
  · rcases List.mem_append.1 hx with q | q
    · exact hi x q
    · exact flat_bytes ps hp x q
theorem both_out (inner : List Nat) (ps : List (List Nat)) (x : List Nat) (hi : inner.length = 32) (hib : bytes inner) (hp : ∀ p, p ∈ ps → p.length = 32 ∧ bytes p) (hps : ps.length ≤ 1000) (hx : x.length ≤ 100000) (hxb : bytes x) :
    ∃ (a c : List Nat) (e : Int), bytes a ∧ bytes c ∧
      Rets Tryz.prog 18 [leafV inner ps x] (fun r => r = .tup [.d (nb a), .d (.int .i64 e)]) ∧ Rets Tryz.prog 19 [leafV inner ps x] (fun r => r = .tup [.d (nb a), .d (.int .i64 e)]) ∧
      Rets Tryz.prog 20 [leafV inner ps x] (fun r => r = .tup [.d (nb c), .d (.int .i64 e)]) ∧ Rets Tryz.prog 21 [leafV inner ps x] (fun r => r = .tup [.d (nb c), .d (.int .i64 e)]) := by
  obtain ⟨k, o, e, hk, hkb, he, f1, _, t1⟩ := turned_ex inner ps x hi hib (fun p h => (hp p h).1) hps hx
  obtain ⟨k', o', e', hk', hkb', _, f2, _, t2⟩ := rturned inner ps x hi hib hp hxb hps hx
  obtain ⟨rfl, rfl, rfl⟩ := leafTurn_uniq hk hkb hk' hkb' t1 t2
  rcases he with rfl | rfl
  · refine ⟨81 :: 32 :: k, ctl o inner ps, 0, ?_, ctl_bytes hib (fun p h => (hp p h).2), output_ok hi hk f1, routput_ok hi hk f2, control_ok hi (fun p h => (hp p h).1) hps hk f1, rcontrol_ok hi (fun p h => (hp p h).1) hps hk f2⟩
    intro z hz
    rcases List.mem_cons.1 hz with rfl | hz
    · omega
    · rcases List.mem_cons.1 hz with rfl | hz
      · omega
      · exact hkb z hz
  · exact ⟨[], [], 1, fun z hz => by simp at hz, fun z hz => by simp at hz, output_no hi hk f1, routput_no hi hk f2, control_no hi hk f1, rcontrol_no hi hk f2⟩
theorem both_key (s : List Nat) (hs : s.length ≤ 1000) : ∃ (k : List Nat) (ok : Bool), k.length = 32 ∧ Rets Tryz.prog 22 [.d (nb s)] (fun r => r = .tup [.agg (cb k), .d (.bool ok)]) ∧ Rets Tryz.prog 23 [.d (nb s)] (fun r => r = .tup [.agg (cb k), .d (.bool ok)]) := by
  by_cases h : keyP s
  · obtain ⟨k, hk, rfl⟩ := h
    exact ⟨k, true, hk, keyOf_fn k hk, rkeyOf k hk⟩
  · exact ⟨z32, false, rfl, keyNo_fn s hs h, rkeyNo s hs h⟩
theorem leaf_d (inner : List Nat) (ps : List (List Nat)) (x s : List Nat) : ∀ v, v ∈ [leafV inner ps x, AV.d (nb s)] → v.deep := by
  intro v hv; simp at hv
  rcases hv with rfl | rfl
  · exact leafC_deep _ _ _
  · trivial
theorem output_law (inner : List Nat) (ps : List (List Nat)) (x s : List Nat) (hi : inner.length = 32) (hib : bytes inner) (hp : ∀ p, p ∈ ps → p.length = 32 ∧ bytes p) (hxb : bytes x) :
    Rets Tryz.prog 4 [leafV inner ps x, .d (nb s)] (fun r => r = .d (.bool true)) := by
  refine fna Tryz.func4 Tryz.ntmps4 (rs := [.tmp 4]) (leaf_d _ _ _ _) ?_
  have f0 := small16_fn inner ps x hi
  have zd : List.drop 32 (cb z32) = [] := cb_drop rfl
  simp [go_sem, leafV, leaf_len hi, leaf_take2 hi]
  refine cl_eq f0 (leafV_deep _ _ _) ?_
  by_cases h1 : ps.length ≤ 12 ∧ x.length ≤ 300
  · by_cases h2 : s.length ≤ 300
    · obtain ⟨a, c, e, ha, hc, g1, g2, g3, g4⟩ := both_out inner ps x hi hib hp (by omega) (by omega) hxb
      obtain ⟨k, ok, hk, g5, g6⟩ := both_key s (by omega)
      have i2 : ¬ (300 : Int) < (s.length : Int) := by omega
      obtain ⟨hp1, hx1⟩ := h1
      have g5' := g5
      have g6' := g6
      simp only [nb] at g5' g6'
      simp [go_sem, hp1, hx1, i2, nb, leaf_len hi, leaf_take2 hi]
      refine cl_eq g1 (leafV_deep _ _ _) ?_
      simp [go_sem, leaf_len hi, leaf_take2 hi]
      refine cl_eq g2 (leafV_deep _ _ _) ?_
      simp [go_sem, leaf_len hi, leaf_take2 hi]
      refine cl_eq g3 (leafV_deep _ _ _) ?_
      simp [go_sem, leaf_len hi, leaf_take2 hi]
      refine cl_eq g4 (leafV_deep _ _ _) ?_
      simp [go_sem]
      refine cl_eq g5' (by simp [AV.deep, AV.deep1]) ?_
      simp [go_sem, cb_len, hk, cb_take hk]
      refine cl_eq g6' (by simp [AV.deep, AV.deep1]) ?_
      simp [go_sem, cb_len, hk, cb_take hk]
      refine cl_eq alive16_fn (by simp) ?_
      simp [go_sem, nb]
      refine cvS_nb a 5 ha (by simp [go_sem]) (by simp [go_sem]) Tryz.underlying5 ?_
      simp [go_sem, nb]
      refine cvS_nb a 5 ha (by simp [go_sem]) (by simp [go_sem]) Tryz.underlying5 ?_
      simp [go_sem, nb]
      refine cvS_nb c 5 hc (by simp [go_sem]) (by simp [go_sem]) Tryz.underlying5 ?_
      simp [go_sem, nb]
      refine cvS_nb c 5 hc (by simp [go_sem]) (by simp [go_sem]) Tryz.underlying5 ?_
      simp [go_sem, cb_len, hk, cb_take hk, ints_cb, resV]
      exact post_same (by simp [AV.deep, AV.deep1]) rfl
    · have i2 : (300 : Int) < (s.length : Int) := by omega
      obtain ⟨hp1, hx1⟩ := h1
      simp [go_sem, hp1, hx1, i2, nb]
      refine cl_eq alive16_fn (by simp) ?_
      simp [go_sem, resV]
      exact post_same (by simp [AV.deep, AV.deep1]) rfl
  · simp [go_sem, h1]
    refine cl_eq alive16_fn (by simp) ?_
    simp [go_sem, resV]
    exact post_same (by simp [AV.deep, AV.deep1]) rfl
theorem output_args (l : List AV) (h : ArgTys Tryz.prog 6 [27, 22] l) : Rets Tryz.prog 4 l (fun r => r = .d (.bool true)) := by
  obtain ⟨a0, r0, rfl, h0, a1, r1, rfl, h1, rfl⟩ := h
  obtain ⟨inner, ps, x, rfl, q1, q2, q3, q4, q5⟩ := arg_leaf h0
  obtain ⟨d1, rfl, t1⟩ := arg_oneR Tryz.underlying22 (by simp) (by simp) h1
  obtain ⟨s, rfl, _, q6⟩ := ty_bytes t1
  exact output_law inner ps x s q1 q2 q3 q5
end Go.Proofs.YtldccnbokbieiaaGreat
