/-
  The curve's points, only as far as that what is reckoned is a function of what it is reckoned of: numbers, kinds of points.
-/
import Derived.Test.YtgeabjjgeeakdaaWdi
namespace Go.Proofs.Ytgeabjjgeeakdaa
open Go.Am Go.Sha
set_option linter.unusedSimpArgs false
set_option linter.unusedVariables false

theorem one_i (x : Int) : ∀ v, v ∈ [AV.d (.int .u64 x)] → v.deep := by
  intro v hv; simp at hv; subst hv; trivial
theorem cI_cW {a : List Int} (ha : Wn 4 a) : ∃ l : List Nat, l.length = 4 ∧ cI a = cW l := by
  refine ⟨a.map Int.toNat, by simp [ha.1], ?_⟩
  unfold cI cW
  rw [List.map_map]
  refine List.map_congr_left fun x hx => ?_
  have := (ha.2 x hx).1
  simp only [Function.comp_apply]
  rw [Int.toNat_of_nonneg this]
theorem cmpI_ex (a b : List Int) (ha : Wn 4 a) (hb : Wn 4 b) : ∃ c : Int, Rets Try.prog 64 [.agg (cI a), .agg (cI b)] (fun r => r = .d (.int .i64 c)) := by
  obtain ⟨l, hl, e1⟩ := cI_cW ha
  obtain ⟨m, hm, e2⟩ := cI_cW hb
  rw [e1, e2]
  exact ⟨_, cmp_fn l m hl hm⟩
theorem sq_ex (a : List Int) (ha : Wn 4 a) : ∃ r, Wn 4 r ∧ W1 73 a r := by
  obtain ⟨r, hr, f1⟩ := fmul_ex a a ha ha
  unfold W2 at f1
  have hal := ha.1
  have hrl := hr.1
  have hz : List.drop 4 (cI zI) = [] := cI_drop rfl
  refine ⟨r, hr, ?_⟩
  unfold W1
  refine fn_of_awp Try.func73 (by kernel_rfl) rfl Try.ntmps73 (rs := [.cell 2 69]) rfl (Nat.le_of_ble_eq_true rfl) (one_cI a) ?_
  simp [go_sem, hal, cI_take hal]
  refine cl_eq f1 (two_cI _ _) ?_
  simp [go_sem, hrl, cI_take hrl, hz, resV]
  exact post_w rfl
set_option maxHeartbeats 2000000 in
theorem right_ex (a : List Int) (ha : Wn 4 a) : ∃ r, Wn 4 r ∧ W1 50 a r := by
  obtain ⟨s, hs, f1⟩ := sq_ex a ha
  obtain ⟨m, hm, f2⟩ := fmul_ex s a hs ha
  obtain ⟨r, hr, f3⟩ := fadd_ex m [7, 0, 0, 0] hm (fromI_W ⟨by omega, by omega⟩)
  unfold W1 at f1
  unfold W2 at f2 f3
  have hal := ha.1
  have hrl := hr.1
  have hz : List.drop 4 (cI zI) = [] := cI_drop rfl
  refine ⟨r, hr, ?_⟩
  unfold W1
  refine fn_of_awp Try.func50 (by kernel_rfl) rfl Try.ntmps50 (rs := [.cell 2 69]) rfl (Nat.le_of_ble_eq_true rfl) (one_cI a) ?_
  simp [go_sem, hal, cI_take hal]
  apply draw3 (0 :: 2 :: []) (1 :: 3 :: 4 :: 5 :: 6 :: []) (0 :: 2 :: []) (.step 1 ([]) true (.step 3 ([]) false (.step 4 ([]) false (.step 5 ([]) false (.step 6 ([]) false .done))))) ⟨[(2, .ptr 32 0 0 1)], [(32, ⟨69, 4, [cI r]⟩)], 9000⟩ (k := 7) (by kernel_rfl) (by kernel_rfl) rfl
  case hz => repeat (first | exact Its.nil | apply Its.plain rfl | apply Its.guard rfl rfl)
  case hj => repeat (first | exact Tts.done | exact Its.nil | apply Tts.alt | apply Its.plain rfl | apply Its.guard rfl rfl | apply Tts.plain rfl | apply Tts.guard rfl rfl)
  case h3 =>
    intro G hG
    have hW : ∀ (fr : Fr) (hp : Hp), (fv 2 fr = .ptr 32 0 0 1 ∧ lk 32 hp = some ⟨69, 4, [cI r]⟩) → G fr hp := by
      rintro fr hp ⟨q0, q1⟩
      refine hG _ _ (weak_wk ?_)
      simp only [Weak, slotOk]
      refine ⟨fun p hp => ?_, fun p hp => ?_, by simp⟩
      · simp only [List.mem_cons, List.mem_nil_iff, or_false] at hp
        subst hp
        exact ⟨.inl q0.symm, by simp [AV.low, AV.low1]⟩
      · simp only [List.mem_cons, List.mem_nil_iff, or_false] at hp
        subst hp
        exact ⟨.inl q1, by simp, by intro r hr; simp only [List.mem_cons, List.mem_nil_iff, or_false] at hr; subst hr; exact cI_low _ _⟩
    simp [go_sem, hal, cI_take hal, hrl, cI_take hrl, hz, SaW]
    repeat' first | exact hW _ _ ⟨rfl, rfl⟩ | (refine hW _ _ ?_; simp [fv, lk]; done) | refine cl_eq f1 (one_cI _) ?_ | refine cl_eq f2 (two_cI _ _) ?_ | refine cl_eq f3 (two_cI _ _) ?_ | refine cl_eq (fromI_fn 7) (one_i _) ?_ | apply And.intro | simp [go_sem, hal, cI_take hal, hrl, cI_take hrl, hz, SaW]
  case hq =>
    simp [go_sem, hrl, cI_take hrl, resV]
    exact post_w rfl
set_option maxHeartbeats 2000000 in
theorem below_ex (a : List Int) (ha : Wn 4 a) : ∃ b : Bool, Rets Try.prog 47 [.agg (cI a)] (fun r => r = .d (.bool b)) := by
  obtain ⟨c, f1⟩ := cmpI_ex a prI ha prI_W
  have hal := ha.1
  refine ⟨decide (c < 0), ?_⟩
  refine fn_of_awp Try.func47 (by kernel_rfl) rfl Try.ntmps47 (rs := [.tmp 2]) rfl (Nat.le_of_ble_eq_true rfl) (one_cI a) ?_
  simp [go_sem, hal, cI_take hal]
  apply draw2 (0 :: []) ((1, ([])) :: (2, (3 :: 4 :: [])) :: []) 2 (k := 5) (by kernel_rfl) (by kernel_rfl) rfl
  case hz => repeat (first | exact Its.nil | apply Its.plain rfl | apply Its.guard rfl rfl)
  case hj => repeat (first | exact Jts.nil | exact Its.nil | apply Its.plain rfl | apply Its.guard rfl rfl | apply Jts.plain rfl | apply Jts.guard rfl rfl)
  intro G hG
  simp [go_sem, hal, cI_take hal]
  refine cl_eq primeI_fn (by simp) ?_
  simp [go_sem]
  refine cl_eq f1 (two_cI _ _) ?_
  simp [go_sem, SaW]
  refine hG _ _ ?_
  simp [go_sem, resV]
  exact post_same (by simp [AV.deep, AV.deep1]) rfl
end Go.Proofs.Ytgeabjjgeeakdaa

/-
  The curve's points: whether one is a point.
-/
namespace Go.Proofs.Ytgeabjjgeeakdaa
open Go.Am Go.Sha
set_option linter.unusedSimpArgs false
set_option linter.unusedVariables false

/-- A point's cells. -/
def cP (x y : List Int) (b : Bool) : List AV := cI x ++ (cI y ++ [.d (.bool b)])
theorem cP_len {x y : List Int} (hx : x.length = 4) (hy : y.length = 4) (b : Bool) : (cP x y b).length = 9 := by simp [cP, cI_len, hx, hy]
theorem cP_take {x y : List Int} (hx : x.length = 4) (hy : y.length = 4) (b : Bool) : (cP x y b).take 9 = cP x y b := List.take_of_length_le (by rw [cP_len hx hy]; omega)
theorem cP_drop {x y : List Int} (hx : x.length = 4) (hy : y.length = 4) (b : Bool) : (cP x y b).drop 9 = [] := List.drop_eq_nil_of_le (by rw [cP_len hx hy]; omega)
theorem cP_x {x y : List Int} (hx : x.length = 4) (b : Bool) : (cP x y b).take 4 = cI x := by
  unfold cP; rw [List.take_append_of_le_length (by rw [cI_len]; omega), cI_take hx]
theorem cP_y {x y : List Int} (hx : x.length = 4) (hy : y.length = 4) (b : Bool) : ((cP x y b).drop 4).take 4 = cI y := by
  unfold cP; rw [List.drop_append_of_le_length (by rw [cI_len]; omega), cI_drop hx, List.nil_append, List.take_append_of_le_length (by rw [cI_len]; omega), cI_take hy]
theorem cP_b {x y : List Int} (hx : x.length = 4) (hy : y.length = 4) (b : Bool) : (cP x y b)[8]? = some (.d (.bool b)) := by
  unfold cP; rw [List.getElem?_append_right (by rw [cI_len]; omega), List.getElem?_append_right (by simp only [cI_len]; omega)]
  simp [cI_len, hx, hy]
theorem cP_g {x y : List Int} (hx : x.length = 4) (hy : y.length = 4) (b : Bool) (h : 8 < (cP x y b).length) : (cP x y b)[8] = .d (.bool b) := (List.getElem?_eq_some_iff.1 (cP_b hx hy b)).2
theorem cP_deep (x y : List Int) (b : Bool) : (AV.agg (cP x y b)).deep := by
  intro v hv
  unfold cP at hv
  rcases List.mem_append.1 hv with hv | hv
  · exact cI_deep _ v hv
  · rcases List.mem_append.1 hv with hv | hv
    · exact cI_deep _ v hv
    · simp at hv; subst hv; trivial
theorem one_cP (x y : List Int) (b : Bool) : ∀ v, v ∈ [AV.agg (cP x y b)] → v.deep := by
  intro v hv; simp at hv; subst hv; exact cP_deep _ _ _
theorem cP_low (n : Nat) (x y : List Int) (b : Bool) : ∀ v, v ∈ cP x y b → v.low1 n := by
  intro v hv
  unfold cP at hv
  rcases List.mem_append.1 hv with hv | hv
  · exact cI_low _ _ v hv
  · rcases List.mem_append.1 hv with hv | hv
    · exact cI_low _ _ v hv
    · simp at hv; subst hv; trivial
theorem post_p {Q : AV → Prop} {st : St} {x y : List Int} {b : Bool} (hq : Q (.agg (cP x y b))) : PostK Q (.agg (cP x y b)) st := post_same (cP_deep _ _ _) hq
theorem zzP : tzO Try.prog 71 = some (cP zI zI false) := by kernel_rfl
attribute [go_sem] zzP
theorem zero_fn : Rets Try.prog 48 [] (fun r => r = .agg (cP zI zI true)) := by
  refine fn_of_awp Try.func48 (by kernel_rfl) rfl Try.ntmps48 (rs := [.cell 0 71]) rfl (Nat.le_of_ble_eq_true rfl) (by simp [AV.deep, AV.deep1]) ?_
  simp [go_sem, cP, cI, zI, resV]
  exact post_p (x := zI) (y := zI) (b := true) rfl
def lP (x y : List Int) (b : Bool) : List L1 := x.map (L1.i .u64) ++ (y.map (L1.i .u64) ++ [L1.b b])
theorem litsI : ∀ (x : List Int) (r : List AV), litsOf (cI x ++ r) = (litsOf r).map (x.map (L1.i .u64) ++ ·)
  | [], r => by simp [cI]
  | a :: l, r => by
    have ih := litsI l r
    show litsOf (.d (.int .u64 a) :: (cI l ++ r)) = _
    have e : litsOf (.d (.int .u64 a) :: (cI l ++ r)) = (litsOf (cI l ++ r)).map (L1.i .u64 a :: ·) := rfl
    rw [e, ih, Option.map_map]
    rfl
theorem cP_lits (x y : List Int) (b : Bool) : litsOf (cP x y b) = some (lP x y b) := by
  unfold cP
  rw [litsI, litsI]
  rfl
theorem ksP : kindsOf Try.prog 8 71 = some (List.replicate 8 (some .u64) ++ [none]) := by kernel_rfl
theorem ksP_of {x y : List Int} (hx : x.length = 4) (hy : y.length = 4) (b : Bool) : kindsOf Try.prog 8 71 = some ((lP x y b).map L1.k) := by
  rw [ksP]
  match x, y, hx, hy with
  | [a, b, c, d], [e, f, g, h], _, _ => rfl

theorem egP : Try.prog.eqGuardType Try.prog.depth 71 = false := by kernel_rfl
set_option maxRecDepth 20000 in
set_option maxHeartbeats 4000000 in
theorem on_ex (x y : List Int) (b : Bool) (hx : Wn 4 x) (hy : Wn 4 y) : ∃ c : Bool, Rets Try.prog 75 [.agg (cP x y b)] (fun r => r = .d (.bool c)) := by
  have hxl := hx.1
  have hyl := hy.1
  cases b
  · obtain ⟨b1, f1⟩ := below_ex x hx
    obtain ⟨b2, f2⟩ := below_ex y hy
    obtain ⟨s, hs, f3⟩ := sq_ex y hy
    obtain ⟨r, hr, f4⟩ := right_ex x hx
    unfold W1 at f3 f4
    have hsl := hs.1
    have hrl := hr.1
    have e1 : ∀ c : Bool, (cP x y c).take 4 = cI x := cP_x hxl
    have e2 : ∀ c : Bool, ((cP x y c).drop 4).take 4 = cI y := cP_y hxl hyl
    refine ⟨b1 && (b2 && decide (s = r)), ?_⟩
    refine fn_of_awp Try.func75 (by kernel_rfl) rfl Try.ntmps75 (rs := [.tmp 2]) rfl (Nat.le_of_ble_eq_true rfl) (one_cP _ _ _) ?_
    simp [go_sem, cP_len hxl hyl, cP_take hxl hyl, cP_b hxl hyl, cP_g hxl hyl]
    cases b1
    · skip
      apply draw2 (0 :: 1 :: []) ((2, (3 :: 4 :: 5 :: [])) :: (6, (7 :: 8 :: 9 :: 10 :: 12 :: 13 :: [])) :: (11, ([])) :: (14, (15 :: 16 :: 17 :: [])) :: []) 4 (k := 18) (by kernel_rfl) (by kernel_rfl) rfl
      case hz => repeat (first | exact Its.nil | apply Its.plain rfl | apply Its.guard rfl rfl)
      case hj => repeat (first | exact Jts.nil | exact Its.nil | apply Its.plain rfl | apply Its.guard rfl rfl | apply Jts.plain rfl | apply Jts.guard rfl rfl)
      intro G hG
      simp [go_sem, cP_len hxl hyl, e1, e2]
      refine cl_eq f1 (one_cI _) ?_
      simp [go_sem, SaW]
      refine hG _ _ ?_
      simp [go_sem, resV]
      exact post_same (by simp [AV.deep, AV.deep1]) rfl
    · cases b2
      · skip
        apply draw2 (0 :: 1 :: []) ((2, (3 :: 4 :: 5 :: [])) :: (6, (7 :: 8 :: 9 :: 10 :: 12 :: 13 :: [])) :: (11, ([])) :: (14, (15 :: 16 :: 17 :: [])) :: []) 4 (k := 18) (by kernel_rfl) (by kernel_rfl) rfl
        case hz => repeat (first | exact Its.nil | apply Its.plain rfl | apply Its.guard rfl rfl)
        case hj => repeat (first | exact Jts.nil | exact Its.nil | apply Its.plain rfl | apply Its.guard rfl rfl | apply Jts.plain rfl | apply Jts.guard rfl rfl)
        intro G hG
        simp [go_sem, cP_len hxl hyl, e1, e2]
        refine cl_eq f1 (one_cI _) ?_
        simp [go_sem, cP_len hxl hyl, e1, e2, SaW]
        refine cl_eq f2 (one_cI _) ?_
        simp [go_sem, SaW]
        refine hG _ _ ?_
        simp [go_sem, resV]
        exact post_same (by simp [AV.deep, AV.deep1]) rfl
      · skip
        apply draw2 (0 :: 1 :: []) ((2, (3 :: 4 :: 5 :: [])) :: (6, (7 :: 8 :: 9 :: 10 :: 12 :: 13 :: [])) :: (11, ([])) :: (14, (15 :: 16 :: 17 :: [])) :: []) 4 (k := 18) (by kernel_rfl) (by kernel_rfl) rfl
        case hz => repeat (first | exact Its.nil | apply Its.plain rfl | apply Its.guard rfl rfl)
        case hj => repeat (first | exact Jts.nil | exact Its.nil | apply Its.plain rfl | apply Its.guard rfl rfl | apply Jts.plain rfl | apply Jts.guard rfl rfl)
        intro G hG
        simp [go_sem, cP_len hxl hyl, e1, e2]
        refine cl_eq f1 (one_cI _) ?_
        simp [go_sem, cP_len hxl hyl, e1, e2, SaW]
        refine cl_eq f2 (one_cI _) ?_
        simp [go_sem, cP_len hxl hyl, e1, e2, SaW]
        refine cl_eq f3 (one_cI _) ?_
        simp [go_sem, cP_len hxl hyl, e1, e2, SaW]
        refine cl_eq f4 (one_cI _) ?_
        simp [go_sem, ints_cI, hsl, hrl, SaW]
        refine hG _ _ ?_
        simp [go_sem, resV]
        exact post_same (by simp [AV.deep, AV.deep1]) rfl
  · refine ⟨decide (lP x y true = lP zI zI true), ?_⟩
    refine fn_of_awp Try.func75 (by kernel_rfl) rfl Try.ntmps75 (rs := [.tmp 2]) rfl (Nat.le_of_ble_eq_true rfl) (one_cP _ _ _) ?_
    simp [go_sem, cP_len hxl hyl, cP_take hxl hyl, cP_b hxl hyl, cP_g hxl hyl]
    apply draw2 (0 :: []) ((1, (2 :: 3 :: [])) :: []) 1 (k := 4) (by kernel_rfl) (by kernel_rfl) rfl
    case hz => repeat (first | exact Its.nil | apply Its.plain rfl | apply Its.guard rfl rfl)
    case hj => repeat (first | exact Jts.nil | exact Its.nil | apply Its.plain rfl | apply Its.guard rfl rfl | apply Jts.plain rfl | apply Jts.guard rfl rfl)
    intro G hG
    simp [go_sem, cP_len hxl hyl, cP_take hxl hyl]
    refine cl_eq zero_fn (by simp) ?_
    have k1 := ksP_of hxl hyl true
    have k2 := ksP_of (x := zI) (y := zI) rfl rfl true
    have l1 := cP_lits x y true
    have l2 := cP_lits zI zI true
    generalize lP x y true = u at *
    generalize lP zI zI true = v at *
    simp [go_sem, l1, l2, egP, SaW]
    first | refine ⟨k1, k2, hG _ _ ?_⟩ | refine ⟨k1, hG _ _ ?_⟩
    simp [go_sem, resV]
    exact post_same (by simp [AV.deep, AV.deep1]) rfl
set_option maxHeartbeats 4000000 in
theorem taken_ex (x y : List Int) (b : Bool) (hx : Wn 4 x) (hy : Wn 4 y) : ∃ (u v : List Int) (c : Bool), Wn 4 u ∧ Wn 4 v ∧ Rets Try.prog 54 [.agg (cP x y b)] (fun r => r = .agg (cP u v c)) := by
  obtain ⟨o, f1⟩ := on_ex x y b hx hy
  have hxl := hx.1
  have hyl := hy.1
  have zd : (cP zI zI false).drop 9 = [] := cP_drop rfl rfl _
  have zl : (cP zI zI true).length = 9 := rfl
  have zt : (cP zI zI true).take 9 = cP zI zI true := cP_take rfl rfl _
  have zl2 : (cP zI zI false).length = 9 := rfl
  cases o
  · refine ⟨zI, zI, true, zI_W, zI_W, ?_⟩
    refine fn_of_awp Try.func54 (by kernel_rfl) rfl Try.ntmps54 (rs := [.cell 2 71]) rfl (Nat.le_of_ble_eq_true rfl) (one_cP _ _ _) ?_
    simp [go_sem, cP_len hxl hyl, cP_take hxl hyl]
    refine cl_eq f1 (one_cP _ _ _) ?_
    simp [go_sem]
    refine cl_eq zero_fn (by simp) ?_
    simp [go_sem, zl, zt, zd, zl2, resV]
    exact post_p rfl
  · refine ⟨x, y, b, hx, hy, ?_⟩
    refine fn_of_awp Try.func54 (by kernel_rfl) rfl Try.ntmps54 (rs := [.cell 2 71]) rfl (Nat.le_of_ble_eq_true rfl) (one_cP _ _ _) ?_
    simp [go_sem, cP_len hxl hyl, cP_take hxl hyl]
    refine cl_eq f1 (one_cP _ _ _) ?_
    simp [go_sem, cP_len hxl hyl, cP_take hxl hyl, zd, zl2, resV]
    exact post_p rfl
end Go.Proofs.Ytgeabjjgeeakdaa

/-
  The curve's points, weighted.
-/
namespace Go.Proofs.Ytgeabjjgeeakdaa
open Go.Am Go.Sha
set_option linter.unusedSimpArgs false
set_option linter.unusedVariables false

/-- A weighted point's cells. -/
def cV (x y z : List Int) : List AV := cI x ++ (cI y ++ cI z)
theorem cV_len {x y z : List Int} (hx : x.length = 4) (hy : y.length = 4) (hz : z.length = 4) : (cV x y z).length = 12 := by simp [cV, cI_len, hx, hy, hz]
theorem cV_take {x y z : List Int} (hx : x.length = 4) (hy : y.length = 4) (hz : z.length = 4) : (cV x y z).take 12 = cV x y z := List.take_of_length_le (by rw [cV_len hx hy hz]; omega)
theorem cV_drop {x y z : List Int} (hx : x.length = 4) (hy : y.length = 4) (hz : z.length = 4) : (cV x y z).drop 12 = [] := List.drop_eq_nil_of_le (by rw [cV_len hx hy hz]; omega)
theorem cV_x {x y z : List Int} (hx : x.length = 4) : (cV x y z).take 4 = cI x := by
  unfold cV; rw [List.take_append_of_le_length (by rw [cI_len]; omega), cI_take hx]
theorem cV_y {x y z : List Int} (hx : x.length = 4) (hy : y.length = 4) : ((cV x y z).drop 4).take 4 = cI y := by
  unfold cV; rw [List.drop_append_of_le_length (by rw [cI_len]; omega), cI_drop hx, List.nil_append, List.take_append_of_le_length (by rw [cI_len]; omega), cI_take hy]
theorem cV_z {x y z : List Int} (hx : x.length = 4) (hy : y.length = 4) (hz : z.length = 4) : ((cV x y z).drop 8).take 4 = cI z := by
  have e : cV x y z = (cI x ++ cI y) ++ cI z := by simp [cV]
  rw [e, List.drop_append_of_le_length (by simp [cI_len, hx, hy]), List.drop_eq_nil_of_le (by simp [cI_len, hx, hy]), List.nil_append, cI_take hz]
theorem cV_deep (x y z : List Int) : (AV.agg (cV x y z)).deep := by
  intro v hv
  unfold cV at hv
  rcases List.mem_append.1 hv with hv | hv
  · exact cI_deep _ v hv
  · rcases List.mem_append.1 hv with hv | hv
    · exact cI_deep _ v hv
    · exact cI_deep _ v hv
theorem one_cV (x y z : List Int) : ∀ v, v ∈ [AV.agg (cV x y z)] → v.deep := by
  intro v hv; simp at hv; subst hv; exact cV_deep _ _ _
theorem cV_low (n : Nat) (x y z : List Int) : ∀ v, v ∈ cV x y z → v.low1 n := by
  intro v hv
  unfold cV at hv
  rcases List.mem_append.1 hv with hv | hv
  · exact cI_low _ _ v hv
  · rcases List.mem_append.1 hv with hv | hv
    · exact cI_low _ _ v hv
    · exact cI_low _ _ v hv
theorem post_v {Q : AV → Prop} {st : St} {x y z : List Int} (hq : Q (.agg (cV x y z))) : PostK Q (.agg (cV x y z)) st := post_same (cV_deep _ _ _) hq
theorem zzV : tzO Try.prog 99 = some (cV zI zI zI) := by kernel_rfl
attribute [go_sem] zzV
def oneI : List Int := [1, 0, 0, 0]
theorem oneI_W : Wn 4 oneI := fromI_W ⟨by omega, by omega⟩
set_option maxHeartbeats 4000000 in
theorem isZero_ex (x y z : List Int) (hx : Wn 4 x) (hy : Wn 4 y) (hz : Wn 4 z) : Rets Try.prog 76 [.agg (cV x y z)] (fun r => r = .d (.bool (decide (z = zI)))) := by
  have hxl := hx.1
  have hyl := hy.1
  have hzl := hz.1
  refine fn_of_awp Try.func76 (by kernel_rfl) rfl Try.ntmps76 (rs := [.tmp 2]) rfl (Nat.le_of_ble_eq_true rfl) (one_cV _ _ _) ?_
  have iz : intsOf .u64 [AV.d (.int .u64 0), AV.d (.int .u64 0), AV.d (.int .u64 0), AV.d (.int .u64 0)] = some zI := ints_cI zI
  simp [go_sem, cV_len hxl hyl hzl, cV_take hxl hyl hzl, cV_z hxl hyl hzl, ints_cI, iz, hzl, resV]
  exact post_same (by simp [AV.deep, AV.deep1]) rfl
theorem mkV {x y : List Int} (hx : x.length = 4) (hy : y.length = 4) : List.take 8 (cI x ++ (cI y ++ List.drop 8 (cI x ++ [AV.d (.int .u64 0), AV.d (.int .u64 0), AV.d (.int .u64 0), AV.d (.int .u64 0), AV.d (.int .u64 0), AV.d (.int .u64 0), AV.d (.int .u64 0), AV.d (.int .u64 0)]))) ++ (cI [1, 0, 0, 0] ++ List.drop 12 (cI x ++ (cI y ++ List.drop 8 (cI x ++ [AV.d (.int .u64 0), AV.d (.int .u64 0), AV.d (.int .u64 0), AV.d (.int .u64 0), AV.d (.int .u64 0), AV.d (.int .u64 0), AV.d (.int .u64 0), AV.d (.int .u64 0)])))) = cV x y oneI := by
  match x, y, hx, hy with
  | [a, b, c, d], [e, f, g, h], _, _ => rfl
set_option maxHeartbeats 4000000 in
theorem weigh_ex (x y : List Int) (b : Bool) (hx : Wn 4 x) (hy : Wn 4 y) : ∃ (u v w : List Int), Wn 4 u ∧ Wn 4 v ∧ Wn 4 w ∧ Rets Try.prog 53 [.agg (cP x y b)] (fun r => r = .agg (cV u v w)) := by
  have hxl := hx.1
  have hyl := hy.1
  cases b
  · refine ⟨x, y, oneI, hx, hy, oneI_W, ?_⟩
    refine fn_of_awp Try.func53 (by kernel_rfl) rfl Try.ntmps53 (rs := [.cell 2 99]) rfl (Nat.le_of_ble_eq_true rfl) (one_cP _ _ _) ?_
    have e1 : ∀ c : Bool, (cP x y c).take 4 = cI x := cP_x hxl
    have e2 : ∀ c : Bool, ((cP x y c).drop 4).take 4 = cI y := cP_y hxl hyl
    simp [go_sem, cP_len hxl hyl, cP_take hxl hyl, cP_b hxl hyl, cP_g hxl hyl]
    apply draw2 (0 :: 1 :: 2 :: 3 :: []) ((4, (5 :: [])) :: (6, ([])) :: []) 1 (k := 7) (by kernel_rfl) (by kernel_rfl) rfl
    case hz => repeat (first | exact Its.nil | apply Its.plain rfl | apply Its.guard rfl rfl)
    case hj => repeat (first | exact Jts.nil | exact Its.nil | apply Its.plain rfl | apply Its.guard rfl rfl | apply Jts.plain rfl | apply Jts.guard rfl rfl)
    intro G hG
    simp [go_sem, cP_len hxl hyl, e1, e2]
    refine cl_eq (fromI_fn 1) (one_i _) ?_
    simp [go_sem, hxl, hyl]
    rw [mkV hxl hyl]
    refine hG _ _ ?_
    have ol : oneI.length = 4 := rfl
    simp [go_sem, cV_len hxl hyl ol, cV_take hxl hyl ol, resV]
    exact post_v rfl
  · refine ⟨oneI, oneI, zI, oneI_W, oneI_W, zI_W, ?_⟩
    refine fn_of_awp Try.func53 (by kernel_rfl) rfl Try.ntmps53 (rs := [.cell 2 99]) rfl (Nat.le_of_ble_eq_true rfl) (one_cP _ _ _) ?_
    simp [go_sem, cP_len hxl hyl, cP_take hxl hyl, cP_b hxl hyl, cP_g hxl hyl]
    refine cl_eq (fromI_fn 1) (one_i _) ?_
    simp [go_sem]
    refine cl_eq (fromI_fn 1) (one_i _) ?_
    simp [go_sem, resV]
    exact post_v (x := oneI) (y := oneI) (z := zI) rfl
end Go.Proofs.Ytgeabjjgeeakdaa
