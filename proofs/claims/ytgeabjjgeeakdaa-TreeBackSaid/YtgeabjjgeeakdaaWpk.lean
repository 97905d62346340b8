/-
  The point that a weighted one is.
-/
import Derived.Test.YtgeabjjgeeakdaaWpe
namespace Go.Proofs.Ytgeabjjgeeakdaa
open Go.Am Go.Sha
set_option linter.unusedSimpArgs false
set_option linter.unusedVariables false

theorem mkP {x y : List Int} (hx : x.length = 4) (hy : y.length = 4) : cI x ++ (cI y ++ List.drop 8 (cI x ++ [AV.d (.int .u64 0), AV.d (.int .u64 0), AV.d (.int .u64 0), AV.d (.int .u64 0), AV.d (.bool false)])) = cP x y false := by
  match x, y, hx, hy with
  | [a, b, c, d], [e, f, g, h], _, _ => rfl
set_option maxRecDepth 20000 in
set_option maxHeartbeats 8000000 in
theorem plain_ex (x y z : List Int) (hx : Wn 4 x) (hy : Wn 4 y) (hz : Wn 4 z) : ∃ (u v : List Int) (c : Bool), Wn 4 u ∧ Wn 4 v ∧ Rets Try.prog 59 [.agg (cV x y z)] (fun r => r = .agg (cP u v c)) := by
  obtain ⟨i, h1, f1⟩ := finv_ex z hz
  obtain ⟨i2, h2, f2⟩ := sq_ex i h1
  obtain ⟨X, h3, f3⟩ := fmul_ex x i2 hx h2
  obtain ⟨i3, h4, f4⟩ := fmul_ex i2 i h2 h1
  obtain ⟨Y, h5, f5⟩ := fmul_ex y i3 hy h4
  unfold W1 at f1 f2
  unfold W2 at f3 f4 f5
  have l1 := h1.1
  have l2 := h2.1
  have l3 := h3.1
  have l5 := h5.1
  have hxl := hx.1
  have hyl := hy.1
  have hzl := hz.1
  have z4 : List.drop 4 (cI zI) = [] := cI_drop rfl
  have vl := cV_len hxl hyl hzl
  have vt := cV_take hxl hyl hzl
  have v1 : (cV x y z).take 4 = cI x := cV_x hxl
  have v2 := cV_y (z := z) hxl hyl
  have v3 := cV_z hxl hyl hzl
  have f0 := isZero_ex x y z hx hy hz
  have zd : (cP zI zI false).drop 9 = [] := cP_drop rfl rfl _
  have zl : (cP zI zI true).length = 9 := rfl
  have zt : (cP zI zI true).take 9 = cP zI zI true := cP_take rfl rfl _
  have zl2 : (cP zI zI false).length = 9 := rfl
  by_cases q1 : z = zI
  · refine ⟨zI, zI, true, zI_W, zI_W, ?_⟩
    refine fn_of_awp Try.func59 (by kernel_rfl) rfl Try.ntmps59 (rs := [.cell 2 71]) rfl (Nat.le_of_ble_eq_true rfl) (one_cV _ _ _) ?_
    simp [go_sem, vl, vt]
    refine cl_eq f0 (one_cV _ _ _) ?_
    simp [go_sem, q1]
    refine cl_eq zero_fn (by simp) ?_
    simp [go_sem, zl, zt, zd, zl2, resV]
    exact post_p rfl
  · refine ⟨X, Y, false, h3, h5, ?_⟩
    refine fn_of_awp Try.func59 (by kernel_rfl) rfl Try.ntmps59 (rs := [.cell 2 71]) rfl (Nat.le_of_ble_eq_true rfl) (one_cV _ _ _) ?_
    simp [go_sem, vl, vt]
    refine cl_eq f0 (one_cV _ _ _) ?_
    simp [go_sem, q1, v3, vl]
    refine cl_eq f1 (one_cI _) ?_
    simp [go_sem, l1, cI_take l1, z4]
    refine cl_eq f2 (one_cI _) ?_
    simp [go_sem, l2, cI_take l2, z4]
    apply draw2 (0 :: 1 :: 2 :: 4 :: 5 :: 6 :: 7 :: []) ((3, ([])) :: (8, ([])) :: (9, (10 :: [])) :: (11, ([])) :: []) 3 (k := 12) (by kernel_rfl) (by kernel_rfl) rfl
    case hz => repeat (first | exact Its.nil | apply Its.plain rfl | apply Its.guard rfl rfl)
    case hj => repeat (first | exact Jts.nil | exact Its.nil | apply Its.plain rfl | apply Its.guard rfl rfl | apply Jts.plain rfl | apply Jts.guard rfl rfl)
    intro G hG
    simp [go_sem, l1, l2, cI_take l1, cI_take l2, v1, v2, vl]
    refine cl_eq f3 (two_cI _ _) ?_
    simp [go_sem, l1, l2, cI_take l1, cI_take l2, v1, v2, vl]
    refine cl_eq f4 (two_cI _ _) ?_
    simp [go_sem]
    refine cl_eq f5 (two_cI _ _) ?_
    have pl1 := cP_len l3 l5 false
    have pt1 := cP_take l3 l5 false
    have mp := mkP l3 l5
    simp [go_sem, l3, l5, zl2, zd, mp, pl1, SaW]
    refine hG _ _ ?_
    simp [go_sem, pl1, pt1, resV]
    exact post_p rfl
end Go.Proofs.Ytgeabjjgeeakdaa

/-
  A number's bits; whether a point is even.
-/
namespace Go.Proofs.Ytgeabjjgeeakdaa
open Go.Am Go.Sha
set_option linter.unusedSimpArgs false
set_option linter.unusedVariables false

set_option maxHeartbeats 4000000 in
theorem bit_ex (n : List Int) (k : Nat) (hn : Wn 4 n) (hk : k < 256) : ∃ b : Bool, Rets Try.prog 58 [.agg (cI n), .d (.int .i64 (k : Int))] (fun r => r = .d (.bool b)) := by
  have hnl := hn.1
  have hdq : dq k = k / 64 := rfl
  have hrq : rq k = k % 64 := rfl
  have hnk := get_D (l := n) (k := dq k) (by omega)
  have w4 : IntKind.i64.wrap ((k : Int) / 64) = (dq k : Int) := by rw [IntWalk.i64_in _ (by omega)]; omega
  have w4b : IntKind.i64.wrap ((k : Int).tdiv 64) = (dq k : Int) := w4
  have e2 : (k : Int) % 64 = (rq k : Int) := by omega
  have e2b : (k : Int).tmod 64 = (rq k : Int) := e2
  have i1 : (dq k : Int) < 4 := by omega
  have hm64 : rq k < 64 := by omega
  have hmn : min (rq k) 64 = rq k := by omega
  refine ⟨!decide (Go.bits .and .u64 (Int.fdiv (gI n (dq k)) (2 ^ rq k)) 1 = 0), ?_⟩
  refine fn_of_awp Try.func58 (by kernel_rfl) rfl Try.ntmps58 (rs := [.tmp 4]) rfl (Nat.le_of_ble_eq_true rfl) (wi_deep _ _) ?_
  simp [go_sem, hnl, cI_take hnl, hnk, e2, e2b, w4, w4b, i1, hm64, hmn, IntKind.bits, resV]
  exact post_same (by simp [AV.deep, AV.deep1]) rfl
set_option maxRecDepth 20000 in
set_option maxHeartbeats 4000000 in
theorem even_ex (x y : List Int) (b : Bool) (hx : Wn 4 x) (hy : Wn 4 y) : ∃ o : Bool, Rets Try.prog 38 [.agg (cP x y b)] (fun r => r = .d (.bool o)) := by
  obtain ⟨u, v, c, hu, hv, f1⟩ := taken_ex x y b hx hy
  have hxl := hx.1
  have hyl := hy.1
  have hul := hu.1
  have hvl := hv.1
  have xd : (cP x y b).drop 9 = [] := cP_drop hxl hyl _
  have g4 : (cP u v false)[4]? = some (.d (.int .u64 (gI v 0))) := by
    unfold cP
    rw [List.getElem?_append_right (by rw [cI_len]; omega), cI_len, hul, List.getElem?_append_left (by rw [cI_len]; omega), cI_get, get_D (by omega)]
    rfl
  have g4b : ∀ h, (cP u v false)[4]'h = .d (.int .u64 (gI v 0)) := fun h => (List.getElem?_eq_some_iff.1 g4).2
  cases c
  · refine ⟨decide (Go.bits .and .u64 (gI v 0) 1 = 0), ?_⟩
    refine fn_of_awp Try.func38 (by kernel_rfl) rfl Try.ntmps38 (rs := [.tmp 2]) rfl (Nat.le_of_ble_eq_true rfl) (one_cP _ _ _) ?_
    simp [go_sem, cP_len hxl hyl, cP_take hxl hyl]
    refine cl_eq f1 (one_cP _ _ _) ?_
    simp [go_sem, cP_len hxl hyl, cP_len hul hvl, xd, cP_b hul hvl, cP_g hul hvl, g4, g4b, resV]
    exact post_same (by simp [AV.deep, AV.deep1]) rfl
  · refine ⟨false, ?_⟩
    refine fn_of_awp Try.func38 (by kernel_rfl) rfl Try.ntmps38 (rs := [.tmp 2]) rfl (Nat.le_of_ble_eq_true rfl) (one_cP _ _ _) ?_
    simp [go_sem, cP_len hxl hyl, cP_take hxl hyl]
    refine cl_eq f1 (one_cP _ _ _) ?_
    simp [go_sem, cP_len hxl hyl, cP_len hul hvl, xd, cP_b hul hvl, cP_g hul hvl, resV]
    exact post_same (by simp [AV.deep, AV.deep1]) rfl
end Go.Proofs.Ytgeabjjgeeakdaa

/-
  The curve's base and order.
-/
namespace Go.Proofs.Ytgeabjjgeeakdaa
open Go.Am Go.Sha
set_option linter.unusedSimpArgs false
set_option linter.unusedVariables false

def gX : List Int := [6481385041966929816, 188021827762530521, 6170039885052185351, 8772561819708210092]
theorem gX_W : Wn 4 gX := ⟨rfl, by intro y hy; simp [gX] at hy; rcases hy with rfl | rfl | rfl | rfl <;> exact ⟨by omega, by omega⟩⟩
def gY : List Int := [11261198710074299576, 18237243440184513561, 6747795201694173352, 5204712524664259685]
theorem gY_W : Wn 4 gY := ⟨rfl, by intro y hy; simp [gY] at hy; rcases hy with rfl | rfl | rfl | rfl <;> exact ⟨by omega, by omega⟩⟩
def odI : List Int := [13822214165235122497, 13451932020343611451, 18446744073709551614, 18446744073709551615]
theorem odI_W : Wn 4 odI := ⟨rfl, by intro y hy; simp [odI] at hy; rcases hy with rfl | rfl | rfl | rfl <;> exact ⟨by omega, by omega⟩⟩
theorem order_fn : Rets Try.prog 74 [] (fun r => r = .agg (cI odI)) := by
  refine fn_of_awp Try.func74 (by kernel_rfl) rfl Try.ntmps74 (rs := [.cell 0 69]) rfl (Nat.le_of_ble_eq_true rfl) (by simp [AV.deep, AV.deep1]) ?_
  simp [go_sem, cI, zI, resV]
  exact post_w (a := odI) rfl
theorem base_fn : Rets Try.prog 36 [] (fun r => r = .agg (cP gX gY false)) := by
  refine fn_of_awp Try.func36 (by kernel_rfl) rfl Try.ntmps36 (rs := [.cell 0 71]) rfl (Nat.le_of_ble_eq_true rfl) (by simp [AV.deep, AV.deep1]) ?_
  simp [go_sem, cP, cI, zI, resV]
  exact post_p (x := gX) (y := gY) (b := false) rfl
end Go.Proofs.Ytgeabjjgeeakdaa

/-
  Numbers of bytes.
-/
namespace Go.Proofs.Ytgeabjjgeeakdaa
open Go.Am Go.Sha
set_option linter.unusedSimpArgs false
set_option linter.unusedVariables false

theorem fold_lt : ∀ (l : List Nat), (∀ x, x ∈ l → x < 256) → ∀ a, l.foldl (fun a x => a * 256 + x) a < (a + 1) * 256 ^ l.length
  | [], _, a => by simp
  | x :: r, h, a => by
    have h1 := fold_lt r (fun y hy => h y (by simp [hy])) (a * 256 + x)
    have h2 := h x (by simp)
    rw [List.foldl_cons, List.length_cons, Nat.pow_succ]
    have h3 : (a * 256 + x + 1) * 256 ^ r.length ≤ ((a + 1) * 256) * 256 ^ r.length := Nat.mul_le_mul_right _ (by omega)
    have h4 : (a + 1) * 256 * 256 ^ r.length = (a + 1) * (256 ^ r.length * 256) := by rw [Nat.mul_assoc, Nat.mul_comm 256]
    omega
theorem beN_lt {l : List Nat} (h : ∀ x, x ∈ l → x < 256) (hl : l.length ≤ 8) : beN l < 18446744073709551616 := by
  have h1 := fold_lt l h 0
  have h2 : 256 ^ l.length ≤ 256 ^ 8 := Nat.pow_le_pow_right (by omega) hl
  have h3 : (256 : Nat) ^ 8 = 18446744073709551616 := by decide
  unfold beN
  omega
theorem readI_ex (b : List Nat) (hb : b.length = 32) (hby : bytes b) : ∃ a : List Int, Wn 4 a ∧ Rets Try.prog 46 [.agg (cb b)] (fun r => r = .agg (cI a)) := by
  refine ⟨(mulW b 32).map fun (x : Nat) => (x : Int), ⟨by simp [mulW], fun x hx => ?_⟩, ?_⟩
  · rw [List.mem_map] at hx
    obtain ⟨y, hy, rfl⟩ := hx
    unfold mulW at hy
    rw [List.mem_map] at hy
    obtain ⟨j, _, rfl⟩ := hy
    have := beN_lt (l := Go.Sha.part b 32 j) (fun x hx => hby x (List.mem_of_mem_take (List.mem_of_mem_drop (List.mem_of_mem_take hx)))) (by unfold Go.Sha.part; rw [List.length_take]; omega)
    exact ⟨Int.natCast_nonneg _, by omega⟩
  · have e : cI ((mulW b 32).map fun (x : Nat) => (x : Int)) = cW (mulW b 32) := by unfold cI cW; rw [List.map_map]; rfl
    rw [e]
    exact read_fn b hb hby
end Go.Proofs.Ytgeabjjgeeakdaa

/-
  Numbers below the order, of bytes.
-/
namespace Go.Proofs.Ytgeabjjgeeakdaa
open Go.Am Go.Sha
set_option linter.unusedSimpArgs false
set_option linter.unusedVariables false

theorem one_cb1 (b : List Nat) : ∀ v, v ∈ [AV.agg (cb b)] → v.deep := by
  intro v hv; simp at hv; subst hv; exact cb_deepA _
set_option maxHeartbeats 4000000 in
theorem sread_ex (b : List Nat) (hb : b.length = 32) (hby : bytes b) : ∃ (r : List Int) (ok : Bool), Wn 4 r ∧ Rets Try.prog 51 [.agg (cb b)] (fun x => x = .tup [.agg (cI r), .d (.bool ok)]) := by
  obtain ⟨a, ha, f1⟩ := readI_ex b hb hby
  obtain ⟨c, f2⟩ := cmpI_ex a odI ha odI_W
  have hal := ha.1
  have hz : List.drop 4 (cI zI) = [] := cI_drop rfl
  have zd : List.drop 32 (cb b) = [] := cb_drop hb
  by_cases h0 : 0 ≤ c
  · refine ⟨zI, false, zI_W, ?_⟩
    refine fn_of_awp Try.func51 (by kernel_rfl) rfl Try.ntmps51 (rs := [.cell 2 69, .tmp 3]) rfl (Nat.le_of_ble_eq_true rfl) (one_cb1 b) ?_
    simp [go_sem, cb_len, hb, cb_take hb, zd]
    refine cl_eq f1 (one_cb1 _) ?_
    simp [go_sem, hal, cI_take hal, hz]
    apply draw2 (0 :: []) ((1, ([])) :: (2, (3 :: [])) :: []) 2 (k := 4) (by kernel_rfl) (by kernel_rfl) rfl
    case hz => repeat (first | exact Its.nil | apply Its.plain rfl | apply Its.guard rfl rfl)
    case hj => repeat (first | exact Jts.nil | exact Its.nil | apply Its.plain rfl | apply Its.guard rfl rfl | apply Jts.plain rfl | apply Jts.guard rfl rfl)
    intro G hG
    simp [go_sem, hal, cI_take hal]
    refine cl_eq order_fn (by simp) ?_
    simp [go_sem]
    refine cl_eq f2 (two_cI _ _) ?_
    simp [go_sem, SaW]
    refine hG _ _ ?_
    simp [go_sem, h0, hz, resV]
    exact post_wb (a := zI) rfl
  · refine ⟨a, true, ha, ?_⟩
    refine fn_of_awp Try.func51 (by kernel_rfl) rfl Try.ntmps51 (rs := [.cell 2 69, .tmp 3]) rfl (Nat.le_of_ble_eq_true rfl) (one_cb1 b) ?_
    simp [go_sem, cb_len, hb, cb_take hb, zd]
    refine cl_eq f1 (one_cb1 _) ?_
    simp [go_sem, hal, cI_take hal, hz]
    apply draw2 (0 :: []) ((1, ([])) :: (2, (3 :: [])) :: []) 2 (k := 4) (by kernel_rfl) (by kernel_rfl) rfl
    case hz => repeat (first | exact Its.nil | apply Its.plain rfl | apply Its.guard rfl rfl)
    case hj => repeat (first | exact Jts.nil | exact Its.nil | apply Its.plain rfl | apply Its.guard rfl rfl | apply Jts.plain rfl | apply Jts.guard rfl rfl)
    intro G hG
    simp [go_sem, hal, cI_take hal]
    refine cl_eq order_fn (by simp) ?_
    simp [go_sem]
    refine cl_eq f2 (two_cI _ _) ?_
    simp [go_sem, SaW]
    refine hG _ _ ?_
    simp [go_sem, h0, hal, cI_take hal, hz, resV]
    exact post_wb rfl
end Go.Proofs.Ytgeabjjgeeakdaa

/-
  The even point of a number of bytes.
-/
namespace Go.Proofs.Ytgeabjjgeeakdaa
open Go.Am Go.Sha
set_option linter.unusedSimpArgs false
set_option linter.unusedVariables false

theorem post_pb {Q : AV → Prop} {st : St} {x y : List Int} {c b : Bool} (hq : Q (.tup [.agg (cP x y c), .d (.bool b)])) : PostK Q (.tup [.agg (cP x y c), .d (.bool b)]) st :=
  post_same (by
    intro c hc
    simp at hc
    rcases hc with rfl | rfl
    · exact .inr ⟨_, rfl, cP_deep _ _ _⟩
    · exact .inl trivial) hq
set_option maxHeartbeats 8000000 in
theorem liftP_ex (b : List Nat) (hb : b.length = 32) (hby : bytes b) : ∃ (x y : List Int) (c ok : Bool), Wn 4 x ∧ Wn 4 y ∧ Rets Try.prog 32 [.agg (cb b)] (fun r => r = .tup [.agg (cP x y c), .d (.bool ok)]) := by
  obtain ⟨a, ha, f1⟩ := readI_ex b hb hby
  obtain ⟨o, f2⟩ := below_ex a ha
  obtain ⟨r, hr, f3⟩ := right_ex a ha
  obtain ⟨y, ok, hy, f4⟩ := froot_ex r hr
  unfold W1 at f3
  have hal := ha.1
  have hyl := hy.1
  have hz : List.drop 4 (cI zI) = [] := cI_drop rfl
  have zd : List.drop 32 (cb b) = [] := cb_drop hb
  have pd : (cP zI zI false).drop 9 = [] := cP_drop rfl rfl _
  have zl : (cP zI zI true).length = 9 := rfl
  have zt : (cP zI zI true).take 9 = cP zI zI true := cP_take rfl rfl _
  have zl2 : (cP zI zI false).length = 9 := rfl
  cases o
  · refine ⟨zI, zI, true, false, zI_W, zI_W, ?_⟩
    refine fn_of_awp Try.func32 (by kernel_rfl) rfl Try.ntmps32 (rs := [.cell 2 71, .tmp 3]) rfl (Nat.le_of_ble_eq_true rfl) (one_cb1 b) ?_
    simp [go_sem, cb_len, hb, cb_take hb, zd]
    refine cl_eq f1 (one_cb1 _) ?_
    simp [go_sem, hal, cI_take hal, hz]
    refine cl_eq f2 (one_cI _) ?_
    simp [go_sem]
    refine cl_eq zero_fn (by simp) ?_
    simp [go_sem, zl, zt, pd, zl2, resV]
    exact post_pb rfl
  · cases ok
    · refine ⟨zI, zI, true, false, zI_W, zI_W, ?_⟩
      refine fn_of_awp Try.func32 (by kernel_rfl) rfl Try.ntmps32 (rs := [.cell 2 71, .tmp 3]) rfl (Nat.le_of_ble_eq_true rfl) (one_cb1 b) ?_
      simp [go_sem, cb_len, hb, cb_take hb, zd]
      refine cl_eq f1 (one_cb1 _) ?_
      simp [go_sem, hal, cI_take hal, hz]
      refine cl_eq f2 (one_cI _) ?_
      simp [go_sem, hal, cI_take hal]
      refine cl_eq f3 (one_cI _) ?_
      simp [go_sem]
      refine cl_eq f4 (one_cI _) ?_
      simp [go_sem, hyl, cI_take hyl, hz]
      refine cl_eq zero_fn (by simp) ?_
      simp [go_sem, zl, zt, pd, zl2, resV]
      exact post_pb rfl
    · refine ⟨a, y, false, true, ha, hy, ?_⟩
      refine fn_of_awp Try.func32 (by kernel_rfl) rfl Try.ntmps32 (rs := [.cell 2 71, .tmp 3]) rfl (Nat.le_of_ble_eq_true rfl) (one_cb1 b) ?_
      simp [go_sem, cb_len, hb, cb_take hb, zd]
      refine cl_eq f1 (one_cb1 _) ?_
      simp [go_sem, hal, cI_take hal, hz]
      refine cl_eq f2 (one_cI _) ?_
      simp [go_sem, hal, cI_take hal]
      refine cl_eq f3 (one_cI _) ?_
      simp [go_sem]
      refine cl_eq f4 (one_cI _) ?_
      have mp := mkP hal hyl
      have pl1 := cP_len hal hyl false
      have pt1 := cP_take hal hyl false
      simp [go_sem, hal, hyl, cI_take hal, cI_take hyl, hz, mp, pl1, pt1, pd, zl2, resV]
      exact post_pb rfl
end Go.Proofs.Ytgeabjjgeeakdaa
