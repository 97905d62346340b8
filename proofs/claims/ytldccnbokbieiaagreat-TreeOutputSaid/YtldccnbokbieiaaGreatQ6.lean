/-
  Part 7 of what the claim rests on.
-/
import Derived.Test.YtldccnbokbieiaaGreatQ4
import Derived.Test.YtldccnbokbieiaaGreatQ5
set_option linter.unusedVariables false
set_option linter.unusedSimpArgs false
set_option maxRecDepth 100000
set_option maxHeartbeats 16000000
namespace Go.Proofs.YtldccnbokbieiaaGreat
open Go.Am Go.Sha Go.Ec
abbrev pZ : Int := 115792089237316195423570985008687907853269984665640564039457584007908834671663
theorem pP_int : (pP : Int) = pZ := by rw [pP_lit]; rfl
def FV (l : List Int) : F := icF pP (V l)
theorem FV_val (l : List Int) : (((FV l).val : Nat) : Int) = V l % pZ := by unfold FV; rw [icF_v, pP_int]
theorem F_ext {a b : F} (h : ((a.val : Nat) : Int) = ((b.val : Nat) : Int)) : a = b := fin_int h
theorem FV_eq {a b : List Int} (h : V a % pZ = V b % pZ) : FV a = FV b := F_ext (by rw [FV_val, FV_val, h])
theorem FV_inj {a b : List Int} (ha : Wn 4 a) (hb : Wn 4 b) (h1 : V a < pZ) (h2 : V b < pZ) (h : FV a = FV b) : a = b := by
  have e := congrArg (fun x : F => ((x.val : Nat) : Int)) h
  simp only [FV_val] at e
  have := (V_lt ha).1
  have := (V_lt hb).1
  rw [Int.emod_eq_of_lt (by omega) h1, Int.emod_eq_of_lt (by omega) h2] at e
  exact V_inj ha hb e
theorem FV_mul {r a b : List Int} (h : V r = (V a * V b) % pZ) : V r < pZ ∧ FV r = FV a * FV b := by
  refine ⟨by rw [h]; exact Int.emod_lt_of_pos _ (by decide), F_ext ?_⟩
  rw [FV_val, valM, Int.natCast_emod, Int.natCast_mul, FV_val, FV_val, pP_int, h, Int.emod_emod, ← Int.mul_emod]
theorem FV_add {r a b : List Int} (h : V r = (V a + V b) % pZ) : V r < pZ ∧ FV r = FV a + FV b := by
  refine ⟨by rw [h]; exact Int.emod_lt_of_pos _ (by decide), F_ext ?_⟩
  rw [FV_val, valA, Int.natCast_emod, Int.natCast_add, FV_val, FV_val, pP_int, h, Int.emod_emod, ← Int.add_emod]
theorem sub_add_F {a b c : F} (h : c + b = a) : c = a - b := by grobner
theorem FV_sub {r a b : List Int} (h : V r = (V a - V b) % pZ) : V r < pZ ∧ FV r = FV a - FV b := by
  refine ⟨by rw [h]; exact Int.emod_lt_of_pos _ (by decide), sub_add_F (F_ext ?_)⟩
  rw [valA, Int.natCast_emod, Int.natCast_add, FV_val, FV_val, FV_val, pP_int, h, Int.emod_emod, ← Int.add_emod]
  congr 1
  omega
theorem FV_z : FV zI = 0 := by
  refine F_ext ?_
  rw [FV_val]
  have : V zI = 0 := by simp [V, zI]
  rw [this]; rfl
theorem FV_zero {a : List Int} (ha : Wn 4 a) (h : V a < pZ) : FV a = 0 ↔ a = zI := by
  have hz : V zI = 0 := by simp [V, zI]
  have hz2 : V zI < pZ := by rw [hz]; decide
  exact ⟨fun h0 => FV_inj ha zI_W h hz2 (by rw [h0, FV_z]), fun h0 => by rw [h0, FV_z]⟩
theorem FV_n (k : Nat) (hk : (k : Int) < 18446744073709551616) : FV [(k : Int), 0, 0, 0] = Fin.ofNat pP k := by
  have : V [(k : Int), 0, 0, 0] = (k : Int) := by simp [V]
  unfold FV
  rw [this]
  exact icF_nat k
theorem FV_inv {r a : List Int} {k : Nat} (hk : k = pP - 2) (h : V r = V a ^ k % pZ) : V r < pZ ∧ FV r = fd.inv (FV a) := by
  refine ⟨by rw [h]; exact Int.emod_lt_of_pos _ (by decide), F_ext ?_⟩
  have e : fd.inv (FV a) = ⟨(FV a).val ^ (pP - 2) % pP, Nat.mod_lt _ (by have := pP_8; omega)⟩ := rfl
  rw [e, ← hk]
  show _ = ((((FV a).val ^ k % pP : Nat)) : Int)
  rw [FV_val, h, Int.emod_emod, Int.natCast_emod, Int.natCast_pow, FV_val, pP_int]
  have pm : ∀ (x m : Int) (k : Nat), x ^ k % m = (x % m) ^ k % m := by
    intro x m k
    induction k with
    | zero => rw [Int.pow_zero, Int.pow_zero]
    | succ k ih => rw [Int.pow_succ, Int.pow_succ, Int.mul_emod, ih, Int.mul_emod ((x % m) ^ k), Int.emod_emod]
  exact pm _ _ _
theorem fmulv (a b : List Int) (ha : Wn 4 a) (hb : Wn 4 b) : ∃ r, Wn 4 r ∧ (V r < pZ ∧ FV r = FV a * FV b) ∧ W2 205 a b r := by
  obtain ⟨r, h1, h2, h3⟩ := fmul_ex a b ha hb
  exact ⟨r, h1, FV_mul h2, h3⟩
theorem faddv (a b : List Int) (ha : Wn 4 a) (hb : Wn 4 b) : ∃ r, Wn 4 r ∧ (V r < pZ ∧ FV r = FV a + FV b) ∧ W2 208 a b r := by
  obtain ⟨r, h1, h2, h3⟩ := fadd_ex a b ha hb
  exact ⟨r, h1, FV_add h2, h3⟩
theorem fsubv (a b : List Int) (ha : Wn 4 a) (hb : Wn 4 b) : ∃ r, Wn 4 r ∧ (V r < pZ ∧ FV r = FV a - FV b) ∧ W2 213 a b r := by
  obtain ⟨r, h1, h2, h3⟩ := fsub_ex a b ha hb
  exact ⟨r, h1, FV_sub h2, h3⟩
theorem finvv (a : List Int) (ha : Wn 4 a) : ∃ r, Wn 4 r ∧ (V r < pZ ∧ FV r = fd.inv (FV a)) ∧ W1 216 a r := by
  obtain ⟨r, h1, h2, h3⟩ := finv_ex a ha
  exact ⟨r, h1, FV_inv (by rw [pP_lit]) h2, h3⟩
def PV (x y : List Int) (b : Bool) : Pt pP := if b then none else some (FV x, FV y)
def isPt (x y : List Int) (b : Bool) : Prop := (b = true ∧ x = zI ∧ y = zI) ∨ (b = false ∧ V x < pZ ∧ V y < pZ ∧ FV y * FV y = FV x * FV x * FV x + 7)
theorem isPt_on {x y : List Int} {b : Bool} (h : isPt x y b) : onC (PV x y b) := by
  rcases h with ⟨rfl, _, _⟩ | ⟨rfl, _, _, h⟩
  · trivial
  · exact h
theorem isPt_z : isPt zI zI true := .inl ⟨rfl, rfl, rfl⟩
theorem PV_z : PV zI zI true = none := rfl
noncomputable def JV (x y z : List Int) : Pt pP := jac fd (FV x) (FV y) (FV z)
def isJ (x y z : List Int) : Prop := (V x < pZ ∧ V y < pZ ∧ V z < pZ) ∧ onC (JV x y z)
theorem one_i (x : Int) : ∀ v, v ∈ [AV.d (.int .u64 x)] → v.deep := by
  intro v hv; simp at hv; subst hv; trivial
theorem cI_cN {a : List Int} (ha : Wn 4 a) : (a.map Int.toNat).length = 4 ∧ cI a = cW (a.map Int.toNat) := by
  refine ⟨by simp [ha.1], ?_⟩
  unfold cI cW
  rw [List.map_map]
  refine List.map_congr_left fun x hx => ?_
  have := (ha.2 x hx).1
  simp only [Function.comp_apply]
  rw [Int.toNat_of_nonneg this]
theorem cmpV {a b : List Int} (ha : Wn 4 a) (hb : Wn 4 b) : cmpF (a.map Int.toNat) (b.map Int.toNat) 4 < 0 ↔ V a < V b := by
  obtain ⟨a0, a1, a2, a3, rfl, h0, h1, h2, h3⟩ := W4_ex ha
  obtain ⟨b0, b1, b2, b3, rfl, k0, k1, k2, k3⟩ := W4_ex hb
  unfold R64 at *
  rw [V4, V4]
  have g0 : ∀ w x y z : Nat, [w, x, y, z].getD 0 0 = w := fun _ _ _ _ => rfl
  have g1 : ∀ w x y z : Nat, [w, x, y, z].getD 1 0 = x := fun _ _ _ _ => rfl
  have g2 : ∀ w x y z : Nat, [w, x, y, z].getD 2 0 = y := fun _ _ _ _ => rfl
  have g3 : ∀ w x y z : Nat, [w, x, y, z].getD 3 0 = z := fun _ _ _ _ => rfl
  simp only [List.map_cons, List.map_nil, cmpF, g0, g1, g2, g3]
  repeat' split
  all_goals omega
theorem cmpI_ex (a b : List Int) (ha : Wn 4 a) (hb : Wn 4 b) : ∃ c : Int, (c < 0 ↔ V a < V b) ∧ Rets Tryz.prog 200 [.agg (cI a), .agg (cI b)] (fun r => r = .d (.int .i64 c)) := by
  obtain ⟨hl, e1⟩ := cI_cN ha
  obtain ⟨hm, e2⟩ := cI_cN hb
  rw [e1, e2]
  exact ⟨_, cmpV ha hb, cmp_fn _ _ hl hm⟩
theorem sq_ex (a : List Int) (ha : Wn 4 a) : ∃ r, Wn 4 r ∧ (V r < pZ ∧ FV r = FV a * FV a) ∧ W1 209 a r := by
  obtain ⟨r, hr, vr, f1⟩ := fmulv a a ha ha
  unfold W2 at f1
  have hal := ha.1
  have hrl := hr.1
  have hz : List.drop 4 (cI zI) = [] := cI_drop rfl
  refine ⟨r, hr, vr, ?_⟩
  unfold W1
  refine fna Tryz.func209 Tryz.ntmps209 (rs := [.cell 2 160]) (one_cI a) ?_
  simp [go_sem, hal, cI_take hal]
  refine cl_eq f1 (two_cI _ _) ?_
  simp [go_sem, hrl, cI_take hrl, hz, resV]
  exact post_w rfl
theorem right_ex (a : List Int) (ha : Wn 4 a) : ∃ r, Wn 4 r ∧ (V r < pZ ∧ FV r = FV a * FV a * FV a + 7) ∧ W1 164 a r := by
  obtain ⟨s, hs, vs, f1⟩ := sq_ex a ha
  obtain ⟨m, hm, vm, f2⟩ := fmulv s a hs ha
  obtain ⟨r, hr, vr, f3⟩ := faddv m [7, 0, 0, 0] hm (fromI_W ⟨by omega, by omega⟩)
  have v7 : FV [7, 0, 0, 0] = 7 := FV_n 7 (by omega)
  rw [v7, vm.2, vs.2] at vr
  unfold W1 at f1
  unfold W2 at f2 f3
  have hal := ha.1
  have hrl := hr.1
  have hz : List.drop 4 (cI zI) = [] := cI_drop rfl
  refine ⟨r, hr, vr, ?_⟩
  unfold W1
  refine fna Tryz.func164 Tryz.ntmps164 (rs := [.cell 2 160]) (one_cI a) ?_
  simp [go_sem, hal, cI_take hal]
  refine drw3 [0,2] [1,3,4,5,6] [0,2] (.step 1 [] true (.step 3 [] false (.step 4 [] false (.step 5 [] false (.step 6 [] false .done))))) ⟨[(2, .ptr 32 0 0 1)], [(32, ⟨160, 4, [cI r]⟩)], 9000⟩ (k := 7) ?h3 ?hq
  case h3 =>
    intro G hG
    have hW : ∀ (fr : Fr) (hp : Hp), (fv 2 fr = .ptr 32 0 0 1 ∧ lk 32 hp = some ⟨160, 4, [cI r]⟩) → G fr hp := by
      rintro fr hp ⟨q0, q1⟩
      refine hG _ _ (weak_wk ?_)
      simp only [Weak, slotOk]
      refine ⟨fun p hp => ?_, fun p hp => ?_, by simp⟩
      · simp only [List.mem_cons, List.mem_nil_iff, or_false] at hp
        subst hp
        exact ⟨.inl q0.symm, by simp [AV.low, AV.low1]⟩
      · simp only [List.mem_cons, List.mem_nil_iff, or_false] at hp
        subst hp
        exact ⟨.inl q1, by simp, by intro r hr; simp only [List.mem_cons, List.mem_nil_iff, or_false] at hr; subst hr; exact cI_low _ _⟩
    simp [go_sem, hal, cI_take hal, hrl, cI_take hrl, hz, SaW]
    repeat' first | exact hW _ _ ⟨rfl, rfl⟩ | (refine hW _ _ ?_; simp [fv, lk]; done) | refine cl_eq f1 (one_cI _) ?_ | refine cl_eq f2 (two_cI _ _) ?_ | refine cl_eq f3 (two_cI _ _) ?_ | refine cl_eq (fromI_fn 7) (one_i _) ?_ | apply And.intro | simp [go_sem, hal, cI_take hal, hrl, cI_take hrl, hz, SaW]
  case hq =>
    simp [go_sem, hrl, cI_take hrl, resV]
    exact post_w rfl
theorem below_ex (a : List Int) (ha : Wn 4 a) : ∃ b : Bool, (b = true ↔ V a < pZ) ∧ Rets Tryz.prog 161 [.agg (cI a)] (fun r => r = .d (.bool b)) := by
  obtain ⟨c, vc, f1⟩ := cmpI_ex a prI ha prI_W
  have vp : V prI = pZ := by simp [V, prI]
  rw [vp] at vc
  have hal := ha.1
  refine ⟨decide (c < 0), by rw [decide_eq_true_iff]; exact vc, ?_⟩
  refine fna Tryz.func161 Tryz.ntmps161 (rs := [.tmp 2]) (one_cI a) ?_
  simp [go_sem, hal, cI_take hal]
  refine drw2 [0] [(1, []),(2, [3,4])] 2 (k := 5) ?_
  intro G hG
  simp [go_sem, hal, cI_take hal]
  refine cl_eq primeI_fn (by simp) ?_
  simp [go_sem]
  refine cl_eq f1 (two_cI _ _) ?_
  simp [go_sem, SaW]
  refine hG _ _ ?_
  simp [go_sem, resV]
  exact post_same (by simp [AV.deep, AV.deep1]) rfl
def cP (x y : List Int) (b : Bool) : List AV := cI x ++ (cI y ++ [.d (.bool b)])
theorem cP_len {x y : List Int} (hx : x.length = 4) (hy : y.length = 4) (b : Bool) : (cP x y b).length = 9 := by simp [cP, cI_len, hx, hy]
theorem cP_take {x y : List Int} (hx : x.length = 4) (hy : y.length = 4) (b : Bool) : (cP x y b).take 9 = cP x y b := List.take_of_length_le (by rw [cP_len hx hy]; omega)
theorem cP_drop {x y : List Int} (hx : x.length = 4) (hy : y.length = 4) (b : Bool) : (cP x y b).drop 9 = [] := List.drop_eq_nil_of_le (by rw [cP_len hx hy]; omega)
theorem cP_x {x y : List Int} (hx : x.length = 4) (b : Bool) : (cP x y b).take 4 = cI x := by
  unfold cP; rw [List.take_append_of_le_length (by rw [cI_len]; omega), cI_take hx]
theorem cP_y {x y : List Int} (hx : x.length = 4) (hy : y.length = 4) (b : Bool) : ((cP x y b).drop 4).take 4 = cI y := by
  unfold cP; rw [List.drop_append_of_le_length (by rw [cI_len]; omega), cI_drop hx, List.nil_append, List.take_append_of_le_length (by rw [cI_len]; omega), cI_take hy]
theorem cP_b {x y : List Int} (hx : x.length = 4) (hy : y.length = 4) (b : Bool) : (cP x y b)[8]? = some (.d (.bool b)) := by
  unfold cP; rw [List.getElem?_append_right (by rw [cI_len]; omega), List.getElem?_append_right (by simp only [cI_len]; omega)]
  simp [cI_len, hx, hy]
theorem cP_g {x y : List Int} (hx : x.length = 4) (hy : y.length = 4) (b : Bool) (h : 8 < (cP x y b).length) : (cP x y b)[8] = .d (.bool b) := (List.getElem?_eq_some_iff.1 (cP_b hx hy b)).2
theorem cP_deep (x y : List Int) (b : Bool) : (AV.agg (cP x y b)).deep := by
  intro v hv
  unfold cP at hv
  rcases List.mem_append.1 hv with hv | hv
  · exact cI_deep _ v hv
  · rcases List.mem_append.1 hv with hv | hv
    · exact cI_deep _ v hv
    · simp at hv; subst hv; trivial
theorem one_cP (x y : List Int) (b : Bool) : ∀ v, v ∈ [AV.agg (cP x y b)] → v.deep := by
  intro v hv; simp at hv; subst hv; exact cP_deep _ _ _
theorem cP_low (n : Nat) (x y : List Int) (b : Bool) : ∀ v, v ∈ cP x y b → v.low1 n := by
  intro v hv
  unfold cP at hv
  rcases List.mem_append.1 hv with hv | hv
  · exact cI_low _ _ v hv
  · rcases List.mem_append.1 hv with hv | hv
    · exact cI_low _ _ v hv
    · simp at hv; subst hv; trivial
theorem post_p {Q : AV → Prop} {st : St} {x y : List Int} {b : Bool} (hq : Q (.agg (cP x y b))) : PostK Q (.agg (cP x y b)) st := post_same (cP_deep _ _ _) hq
theorem zzP : tzO Tryz.prog 162 = some (cP zI zI false) := by kernel_rfl
attribute [go_sem] zzP
theorem zero_fn : Rets Tryz.prog 162 [] (fun r => r = .agg (cP zI zI true)) := by
  refine fna Tryz.func162 Tryz.ntmps162 (rs := [.cell 0 162]) (by simp [AV.deep, AV.deep1]) ?_
  simp [go_sem, cP, cI, zI, resV]
  exact post_p (x := zI) (y := zI) (b := true) rfl
def lP (x y : List Int) (b : Bool) : List L1 := x.map (L1.i .u64) ++ (y.map (L1.i .u64) ++ [L1.b b])
theorem litsI : ∀ (x : List Int) (r : List AV), litsOf (cI x ++ r) = (litsOf r).map (x.map (L1.i .u64) ++ ·)
  | [], r => by simp [cI]
  | a :: l, r => by
    have ih := litsI l r
    show litsOf (.d (.int .u64 a) :: (cI l ++ r)) = _
    have e : litsOf (.d (.int .u64 a) :: (cI l ++ r)) = (litsOf (cI l ++ r)).map (L1.i .u64 a :: ·) := rfl
    rw [e, ih, Option.map_map]
    rfl
theorem cP_lits (x y : List Int) (b : Bool) : litsOf (cP x y b) = some (lP x y b) := by
  unfold cP
  rw [litsI, litsI]
  rfl
theorem ksP : kindsOf Tryz.prog 8 162 = some (List.replicate 8 (some .u64) ++ [none]) := by kernel_rfl
theorem ksP_of {x y : List Int} (hx : x.length = 4) (hy : y.length = 4) (b : Bool) : kindsOf Tryz.prog 8 162 = some ((lP x y b).map L1.k) := by
  rw [ksP]
  match x, y, hx, hy with
  | [a, b, c, d], [e, f, g, h], _, _ => rfl
theorem egP : Tryz.prog.eqGuardType Tryz.prog.depth 162 = false := by kernel_rfl
theorem on_ex (x y : List Int) (b : Bool) (hx : Wn 4 x) (hy : Wn 4 y) : ∃ c : Bool, (c = true ↔ isPt x y b) ∧ Rets Tryz.prog 211 [.agg (cP x y b)] (fun r => r = .d (.bool c)) := by
  have hxl := hx.1
  have hyl := hy.1
  cases b
  · obtain ⟨b1, vb1, f1⟩ := below_ex x hx
    obtain ⟨b2, vb2, f2⟩ := below_ex y hy
    obtain ⟨s, hs, vs, f3⟩ := sq_ex y hy
    obtain ⟨r, hr, vr, f4⟩ := right_ex x hx
    unfold W1 at f3 f4
    have hsl := hs.1
    have hrl := hr.1
    have e1 : ∀ c : Bool, (cP x y c).take 4 = cI x := cP_x hxl
    have e2 : ∀ c : Bool, ((cP x y c).drop 4).take 4 = cI y := cP_y hxl hyl
    have hv : (b1 && (b2 && decide (s = r))) = true ↔ isPt x y false := by
      rw [Bool.and_eq_true, Bool.and_eq_true, decide_eq_true_iff, vb1, vb2]
      refine ⟨fun ⟨h1, h2, h3⟩ => .inr ⟨rfl, h1, h2, by rw [← vs.2, h3, vr.2]⟩, fun h => ?_⟩
      rcases h with ⟨h, _⟩ | ⟨_, h1, h2, h3⟩
      · cases h
      · exact ⟨h1, h2, FV_inj hs hr vs.1 vr.1 (by rw [vs.2, vr.2, h3])⟩
    refine ⟨b1 && (b2 && decide (s = r)), hv, ?_⟩
    refine fna Tryz.func211 Tryz.ntmps211 (rs := [.tmp 2]) (one_cP _ _ _) ?_
    simp [go_sem, cP_len hxl hyl, cP_take hxl hyl, cP_b hxl hyl, cP_g hxl hyl]
    cases b1
    · skip
      refine drw2 [0,1] [(2, [3,4,5]),(6, [7,8,9,10,12,13]),(11, []),(14, [15,16,17])] 4 (k := 18) ?_
      intro G hG
      simp [go_sem, cP_len hxl hyl, e1, e2]
      refine cl_eq f1 (one_cI _) ?_
      simp [go_sem, SaW]
      refine hG _ _ ?_
      simp [go_sem, resV]
      exact post_same (by simp [AV.deep, AV.deep1]) rfl
    · cases b2
      · skip
        refine drw2 [0,1] [(2, [3,4,5]),(6, [7,8,9,10,12,13]),(11, []),(14, [15,16,17])] 4 (k := 18) ?_
        intro G hG
        simp [go_sem, cP_len hxl hyl, e1, e2]
        refine cl_eq f1 (one_cI _) ?_
        simp [go_sem, cP_len hxl hyl, e1, e2, SaW]
        refine cl_eq f2 (one_cI _) ?_
        simp [go_sem, SaW]
        refine hG _ _ ?_
        simp [go_sem, resV]
        exact post_same (by simp [AV.deep, AV.deep1]) rfl
      · skip
        refine drw2 [0,1] [(2, [3,4,5]),(6, [7,8,9,10,12,13]),(11, []),(14, [15,16,17])] 4 (k := 18) ?_
        intro G hG
        simp [go_sem, cP_len hxl hyl, e1, e2]
        refine cl_eq f1 (one_cI _) ?_
        simp [go_sem, cP_len hxl hyl, e1, e2, SaW]
        refine cl_eq f2 (one_cI _) ?_
        simp [go_sem, cP_len hxl hyl, e1, e2, SaW]
        refine cl_eq f3 (one_cI _) ?_
        simp [go_sem, cP_len hxl hyl, e1, e2, SaW]
        refine cl_eq f4 (one_cI _) ?_
        simp [go_sem, ints_cI, hsl, hrl, SaW]
        refine hG _ _ ?_
        simp [go_sem, resV]
        exact post_same (by simp [AV.deep, AV.deep1]) rfl
  · have hv : decide (lP x y true = lP zI zI true) = true ↔ isPt x y true := by
      rw [decide_eq_true_iff]
      refine ⟨fun h => .inl ⟨rfl, ?_⟩, fun h => ?_⟩
      · match x, y, hxl, hyl with
        | [a, b, c, d], [e, f, g, i], _, _ =>
          simp [lP, zI] at h
          obtain ⟨rfl, rfl, rfl, rfl, rfl, rfl, rfl, rfl⟩ := h
          exact ⟨rfl, rfl⟩
      · rcases h with ⟨_, rfl, rfl⟩ | ⟨h, _⟩
        · rfl
        · cases h
    refine ⟨decide (lP x y true = lP zI zI true), hv, ?_⟩
    refine fna Tryz.func211 Tryz.ntmps211 (rs := [.tmp 2]) (one_cP _ _ _) ?_
    simp [go_sem, cP_len hxl hyl, cP_take hxl hyl, cP_b hxl hyl, cP_g hxl hyl]
    refine drw2 [0] [(1, [2,3])] 1 (k := 4) ?_
    intro G hG
    simp [go_sem, cP_len hxl hyl, cP_take hxl hyl]
    refine cl_eq zero_fn (by simp) ?_
    have k1 := ksP_of hxl hyl true
    have k2 := ksP_of (x := zI) (y := zI) rfl rfl true
    have l1 := cP_lits x y true
    have l2 := cP_lits zI zI true
    generalize lP x y true = u at *
    generalize lP zI zI true = v at *
    simp [go_sem, l1, l2, egP, SaW]
    first | refine ⟨k1, k2, hG _ _ ?_⟩ | refine ⟨k1, hG _ _ ?_⟩
    simp [go_sem, resV]
    exact post_same (by simp [AV.deep, AV.deep1]) rfl
theorem taken_ex (x y : List Int) (b : Bool) (hx : Wn 4 x) (hy : Wn 4 y) : ∃ (u v : List Int) (c : Bool), Wn 4 u ∧ Wn 4 v ∧ (isPt u v c ∧ (isPt x y b → u = x ∧ v = y ∧ c = b) ∧ (¬ isPt x y b → u = zI ∧ v = zI ∧ c = true)) ∧ Rets Tryz.prog 168 [.agg (cP x y b)] (fun r => r = .agg (cP u v c)) := by
  obtain ⟨o, vo, f1⟩ := on_ex x y b hx hy
  have hxl := hx.1
  have hyl := hy.1
  have zd : (cP zI zI false).drop 9 = [] := cP_drop rfl rfl _
  have zl : (cP zI zI true).length = 9 := rfl
  have zt : (cP zI zI true).take 9 = cP zI zI true := cP_take rfl rfl _
  have zl2 : (cP zI zI false).length = 9 := rfl
  cases o
  · refine ⟨zI, zI, true, zI_W, zI_W, ⟨isPt_z, fun h => absurd (vo.2 h) (by decide), fun _ => ⟨rfl, rfl, rfl⟩⟩, ?_⟩
    refine fna Tryz.func168 Tryz.ntmps168 (rs := [.cell 2 162]) (one_cP _ _ _) ?_
    simp [go_sem, cP_len hxl hyl, cP_take hxl hyl]
    refine cl_eq f1 (one_cP _ _ _) ?_
    simp [go_sem]
    refine cl_eq zero_fn (by simp) ?_
    simp [go_sem, zl, zt, zd, zl2, resV]
    exact post_p rfl
  · refine ⟨x, y, b, hx, hy, ⟨vo.1 rfl, fun _ => ⟨rfl, rfl, rfl⟩, fun h => absurd (vo.1 rfl) h⟩, ?_⟩
    refine fna Tryz.func168 Tryz.ntmps168 (rs := [.cell 2 162]) (one_cP _ _ _) ?_
    simp [go_sem, cP_len hxl hyl, cP_take hxl hyl]
    refine cl_eq f1 (one_cP _ _ _) ?_
    simp [go_sem, cP_len hxl hyl, cP_take hxl hyl, zd, zl2, resV]
    exact post_p rfl
def cV (x y z : List Int) : List AV := cI x ++ (cI y ++ cI z)
theorem cV_len {x y z : List Int} (hx : x.length = 4) (hy : y.length = 4) (hz : z.length = 4) : (cV x y z).length = 12 := by simp [cV, cI_len, hx, hy, hz]
theorem cV_take {x y z : List Int} (hx : x.length = 4) (hy : y.length = 4) (hz : z.length = 4) : (cV x y z).take 12 = cV x y z := List.take_of_length_le (by rw [cV_len hx hy hz]; omega)
theorem cV_drop {x y z : List Int} (hx : x.length = 4) (hy : y.length = 4) (hz : z.length = 4) : (cV x y z).drop 12 = [] := List.drop_eq_nil_of_le (by rw [cV_len hx hy hz]; omega)
theorem cV_x {x y z : List Int} (hx : x.length = 4) : (cV x y z).take 4 = cI x := by
  unfold cV; rw [List.take_append_of_le_length (by rw [cI_len]; omega), cI_take hx]
theorem cV_y {x y z : List Int} (hx : x.length = 4) (hy : y.length = 4) : ((cV x y z).drop 4).take 4 = cI y := by
  unfold cV; rw [List.drop_append_of_le_length (by rw [cI_len]; omega), cI_drop hx, List.nil_append, List.take_append_of_le_length (by rw [cI_len]; omega), cI_take hy]
theorem cV_z {x y z : List Int} (hx : x.length = 4) (hy : y.length = 4) (hz : z.length = 4) : ((cV x y z).drop 8).take 4 = cI z := by
  have e : cV x y z = (cI x ++ cI y) ++ cI z := by simp [cV]
  rw [e, List.drop_append_of_le_length (by simp [cI_len, hx, hy]), List.drop_eq_nil_of_le (by simp [cI_len, hx, hy]), List.nil_append, cI_take hz]
theorem cV_deep (x y z : List Int) : (AV.agg (cV x y z)).deep := by
  intro v hv
  unfold cV at hv
  rcases List.mem_append.1 hv with hv | hv
  · exact cI_deep _ v hv
  · rcases List.mem_append.1 hv with hv | hv
    · exact cI_deep _ v hv
    · exact cI_deep _ v hv
theorem one_cV (x y z : List Int) : ∀ v, v ∈ [AV.agg (cV x y z)] → v.deep := by
  intro v hv; simp at hv; subst hv; exact cV_deep _ _ _
theorem cV_low (n : Nat) (x y z : List Int) : ∀ v, v ∈ cV x y z → v.low1 n := by
  intro v hv
  unfold cV at hv
  rcases List.mem_append.1 hv with hv | hv
  · exact cI_low _ _ v hv
  · rcases List.mem_append.1 hv with hv | hv
    · exact cI_low _ _ v hv
    · exact cI_low _ _ v hv
theorem post_v {Q : AV → Prop} {st : St} {x y z : List Int} (hq : Q (.agg (cV x y z))) : PostK Q (.agg (cV x y z)) st := post_same (cV_deep _ _ _) hq
theorem zzV : tzO Tryz.prog 199 = some (cV zI zI zI) := by kernel_rfl
attribute [go_sem] zzV
def oneI : List Int := [1, 0, 0, 0]
theorem oneI_W : Wn 4 oneI := fromI_W ⟨by omega, by omega⟩
theorem isZero_ex (x y z : List Int) (hx : Wn 4 x) (hy : Wn 4 y) (hz : Wn 4 z) : Rets Tryz.prog 212 [.agg (cV x y z)] (fun r => r = .d (.bool (decide (z = zI)))) := by
  have hxl := hx.1
  have hyl := hy.1
  have hzl := hz.1
  refine fna Tryz.func212 Tryz.ntmps212 (rs := [.tmp 2]) (one_cV _ _ _) ?_
  have iz : intsOf .u64 [AV.d (.int .u64 0), AV.d (.int .u64 0), AV.d (.int .u64 0), AV.d (.int .u64 0)] = some zI := ints_cI zI
  simp [go_sem, cV_len hxl hyl hzl, cV_take hxl hyl hzl, cV_z hxl hyl hzl, ints_cI, iz, hzl, resV]
  exact post_same (by simp [AV.deep, AV.deep1]) rfl
theorem V_one : V oneI = 1 := by simp [V, oneI]
theorem FV_one : FV oneI = 1 := FV_n 1 (by omega)
theorem JV_z : JV oneI oneI zI = none := by
  show jac fd (FV oneI) (FV oneI) (FV zI) = none
  rw [FV_z]; exact jac_z fd _ _
theorem isJ_z : isJ oneI oneI zI := by
  have hz : V zI = 0 := by simp [V, zI]
  refine ⟨⟨by rw [V_one]; decide, by rw [V_one]; decide, by rw [hz]; decide⟩, by rw [JV_z]; trivial⟩
theorem F_one_ne : (1 : F) ≠ 0 := fd.one
theorem mul1 (a : F) : a = a * (1 * 1) := by grobner
theorem mul1' (a : F) : a = a * (1 * 1 * 1) := by grobner
theorem JV_one (x y : List Int) : JV x y oneI = some (FV x, FV y) := by
  show jac fd (FV x) (FV y) (FV oneI) = _
  rw [FV_one]
  exact jac_is fd F_one_ne (mul1 _) (mul1' _)
theorem weigh_V {x y : List Int} (h : isPt x y false) : isJ x y oneI ∧ JV x y oneI = PV x y false := by
  have e : JV x y oneI = PV x y false := JV_one x y
  have ho := isPt_on h
  rcases h with ⟨h, _⟩ | ⟨_, h1, h2, _⟩
  · cases h
  · exact ⟨⟨⟨h1, h2, by rw [V_one]; decide⟩, by rw [e]; exact ho⟩, e⟩
theorem mkV {x y : List Int} (hx : x.length = 4) (hy : y.length = 4) : List.take 8 (cI x ++ (cI y ++ List.drop 8 (cI x ++ [AV.d (.int .u64 0), AV.d (.int .u64 0), AV.d (.int .u64 0), AV.d (.int .u64 0), AV.d (.int .u64 0), AV.d (.int .u64 0), AV.d (.int .u64 0), AV.d (.int .u64 0)]))) ++ (cI [1, 0, 0, 0] ++ List.drop 12 (cI x ++ (cI y ++ List.drop 8 (cI x ++ [AV.d (.int .u64 0), AV.d (.int .u64 0), AV.d (.int .u64 0), AV.d (.int .u64 0), AV.d (.int .u64 0), AV.d (.int .u64 0), AV.d (.int .u64 0), AV.d (.int .u64 0)])))) = cV x y oneI := by
  match x, y, hx, hy with
  | [a, b, c, d], [e, f, g, h], _, _ => rfl
theorem weigh_ex (x y : List Int) (b : Bool) (hx : Wn 4 x) (hy : Wn 4 y) : ∃ (u v w : List Int), Wn 4 u ∧ Wn 4 v ∧ Wn 4 w ∧ (isPt x y b → isJ u v w ∧ JV u v w = PV x y b) ∧ Rets Tryz.prog 167 [.agg (cP x y b)] (fun r => r = .agg (cV u v w)) := by
  have hxl := hx.1
  have hyl := hy.1
  cases b
  · refine ⟨x, y, oneI, hx, hy, oneI_W, weigh_V, ?_⟩
    refine fna Tryz.func167 Tryz.ntmps167 (rs := [.cell 2 199]) (one_cP _ _ _) ?_
    have e1 : ∀ c : Bool, (cP x y c).take 4 = cI x := cP_x hxl
    have e2 : ∀ c : Bool, ((cP x y c).drop 4).take 4 = cI y := cP_y hxl hyl
    simp [go_sem, cP_len hxl hyl, cP_take hxl hyl, cP_b hxl hyl, cP_g hxl hyl]
    refine drw2 [0,1,2,3] [(4, [5]),(6, [])] 1 (k := 7) ?_
    intro G hG
    simp [go_sem, cP_len hxl hyl, e1, e2]
    refine cl_eq (fromI_fn 1) (one_i _) ?_
    simp [go_sem, hxl, hyl]
    rw [mkV hxl hyl]
    refine hG _ _ ?_
    have ol : oneI.length = 4 := rfl
    simp [go_sem, cV_len hxl hyl ol, cV_take hxl hyl ol, resV]
    exact post_v rfl
  · refine ⟨oneI, oneI, zI, oneI_W, oneI_W, zI_W, fun _ => ⟨isJ_z, JV_z⟩, ?_⟩
    refine fna Tryz.func167 Tryz.ntmps167 (rs := [.cell 2 199]) (one_cP _ _ _) ?_
    simp [go_sem, cP_len hxl hyl, cP_take hxl hyl, cP_b hxl hyl, cP_g hxl hyl]
    refine cl_eq (fromI_fn 1) (one_i _) ?_
    simp [go_sem]
    refine cl_eq (fromI_fn 1) (one_i _) ?_
    simp [go_sem, resV]
    exact post_v (x := oneI) (y := oneI) (z := zI) rfl
theorem lw_deep (c : Int) (a : List Int) : ∀ v, v ∈ [AV.d (.int .u64 c), AV.agg (cI a)] → v.deep := by
  intro v hv; simp at hv; rcases hv with rfl | rfl; trivial; exact cI_deepA _
theorem times_ex (n : Int) (a : List Int) (hn : R64 n) (ha : Wn 4 a) : ∃ r, Wn 4 r ∧ (V r < pZ ∧ FV r = FV [n, 0, 0, 0] * FV a) ∧ Rets Tryz.prog 214 [.d (.int .u64 n), .agg (cI a)] (fun x => x = .agg (cI r)) := by
  obtain ⟨r, hr, vr, f1⟩ := fmulv [n, 0, 0, 0] a (fromI_W hn) ha
  unfold W2 at f1
  have hal := ha.1
  have hrl := hr.1
  have hz : List.drop 4 (cI zI) = [] := cI_drop rfl
  refine ⟨r, hr, vr, ?_⟩
  refine fna Tryz.func214 Tryz.ntmps214 (rs := [.cell 4 160]) (lw_deep _ _) ?_
  simp [go_sem, hal, cI_take hal]
  refine drw3 [0,2] [1,3,4] [0,2] (.step 1 [] true (.step 3 [] false (.step 4 [] false .done))) ⟨[(4, .ptr 32 0 0 1)], [(32, ⟨160, 4, [cI r]⟩)], 9000⟩ (k := 5) ?h3 ?hq
  case h3 =>
    intro G hG
    have hW : ∀ (fr : Fr) (hp : Hp), (fv 4 fr = .ptr 32 0 0 1 ∧ lk 32 hp = some ⟨160, 4, [cI r]⟩) → G fr hp := by
      rintro fr hp ⟨q0, q1⟩
      exact hG _ _ wkA
    simp [go_sem, hal, cI_take hal, hrl, cI_take hrl, hz, SaW]
    repeat' first | exact hW _ _ ⟨rfl, rfl⟩ | (refine hW _ _ ?_; simp [fv, lk]; done) | refine cl_eq (fromI_fn n) (one_i _) ?_ | refine cl_eq f1 (two_cI _ _) ?_ | apply And.intro | simp [go_sem, hal, cI_take hal, hrl, cI_take hrl, hz, SaW]
  case hq =>
    simp [go_sem, hrl, cI_take hrl, resV]
    exact post_w rfl
theorem mk8 {x y : List Int} (hx : x.length = 4) (hy : y.length = 4) : List.take 8 (cI x ++ (cI y ++ List.drop 8 (cI x ++ [AV.d (.int .u64 0), AV.d (.int .u64 0), AV.d (.int .u64 0), AV.d (.int .u64 0), AV.d (.int .u64 0), AV.d (.int .u64 0), AV.d (.int .u64 0), AV.d (.int .u64 0)]))) = cI x ++ cI y := by
  match x, y, hx, hy with
  | [a, b, c, d], [e, f, g, h], _, _ => rfl
theorem mk12 {x y : List Int} (hx : x.length = 4) (hy : y.length = 4) : List.drop 12 (cI x ++ (cI y ++ List.drop 8 (cI x ++ [AV.d (.int .u64 0), AV.d (.int .u64 0), AV.d (.int .u64 0), AV.d (.int .u64 0), AV.d (.int .u64 0), AV.d (.int .u64 0), AV.d (.int .u64 0), AV.d (.int .u64 0)]))) = [] := by
  match x, y, hx, hy with
  | [a, b, c, d], [e, f, g, h], _, _ => rfl
theorem doubled_ex (x y z : List Int) (hx : Wn 4 x) (hy : Wn 4 y) (hz : Wn 4 z) : ∃ (u v w : List Int), Wn 4 u ∧ Wn 4 v ∧ Wn 4 w ∧ (isJ x y z → isJ u v w ∧ JV u v w = sum fd (JV x y z) (JV x y z)) ∧ Rets Tryz.prog 171 [.agg (cV x y z)] (fun r => r = .agg (cV u v w)) := by
  obtain ⟨y2, h1, g1, f1⟩ := sq_ex y hy
  obtain ⟨m1, h2, g2, f2⟩ := fmulv x y2 hx h1
  obtain ⟨s, h3, g3, f3⟩ := times_ex 4 m1 ⟨by omega, by omega⟩ h2
  obtain ⟨x2, h4, g4, f4⟩ := sq_ex x hx
  obtain ⟨m, h5, g5, f5⟩ := times_ex 3 x2 ⟨by omega, by omega⟩ h4
  obtain ⟨m2, h6, g6, f6⟩ := sq_ex m h5
  obtain ⟨s2, h7, g7, f7⟩ := times_ex 2 s ⟨by omega, by omega⟩ h3
  obtain ⟨X, h8, g8, f8⟩ := fsubv m2 s2 h6 h7
  obtain ⟨d, h9, g9, f9⟩ := fsubv s X h3 h8
  obtain ⟨e, h10, g10, f10⟩ := fmulv m d h5 h9
  obtain ⟨y4, h11, g11, f11⟩ := sq_ex y2 h1
  obtain ⟨y8, h12, g12, f12⟩ := times_ex 8 y4 ⟨by omega, by omega⟩ h11
  obtain ⟨Y, h13, g13, f13⟩ := fsubv e y8 h10 h12
  obtain ⟨yz, h14, g14, f14⟩ := fmulv y z hy hz
  obtain ⟨Z, h15, g15, f15⟩ := times_ex 2 yz ⟨by omega, by omega⟩ h14
  obtain ⟨wu, wv, ww, h16, h17, h18, g16, f16⟩ := weigh_ex zI zI true zI_W zI_W
  unfold W1 at f1 f4 f6 f11
  unfold W2 at f2 f8 f9 f10 f13 f14
  have l1 := h1.1
  have l2 := h2.1
  have l3 := h3.1
  have l4 := h4.1
  have l5 := h5.1
  have l6 := h6.1
  have l7 := h7.1
  have l8 := h8.1
  have l9 := h9.1
  have l10 := h10.1
  have l11 := h11.1
  have l12 := h12.1
  have l13 := h13.1
  have l14 := h14.1
  have l15 := h15.1
  have l16 := h16.1
  have l17 := h17.1
  have l18 := h18.1
  have hxl := hx.1
  have hyl := hy.1
  have hzl := hz.1
  have z4 : List.drop 4 (cI zI) = [] := cI_drop rfl
  have vl := cV_len hxl hyl hzl
  have vt := cV_take hxl hyl hzl
  have v1 : (cV x y z).take 4 = cI x := cV_x hxl
  have v2 := cV_y (z := z) hxl hyl
  have v3 := cV_z hxl hyl hzl
  have iz : intsOf .u64 [AV.d (.int .u64 0), AV.d (.int .u64 0), AV.d (.int .u64 0), AV.d (.int .u64 0)] = some zI := ints_cI zI
  have f0 := isZero_ex x y z hx hy hz
  have wd : (cV zI zI zI).drop 12 = [] := cV_drop rfl rfl rfl
  have wl : (cV zI zI zI).length = 12 := rfl
  have ul := cV_len l16 l17 l18
  have ut := cV_take l16 l17 l18
  by_cases q0 : z = zI ∨ y = zI
  · have vv : isJ x y z → isJ wu wv ww ∧ JV wu wv ww = sum fd (JV x y z) (JV x y z) := by
      intro hj
      obtain ⟨k1, k2⟩ := g16 isPt_z
      rcases q0 with q | q
      · have e : JV x y z = none := by rw [q]; show jac fd _ _ (FV zI) = none; rw [FV_z]; exact jac_z fd _ _
        exact ⟨k1, by rw [k2, e, PV_z]; exact (sum_none fd (Q := none) True.intro).symm⟩
      · by_cases q1 : z = zI
        · have e : JV x y z = none := by rw [q1]; show jac fd _ _ (FV zI) = none; rw [FV_z]; exact jac_z fd _ _
          exact ⟨k1, by rw [k2, e, PV_z]; exact (sum_none fd (Q := none) True.intro).symm⟩
        · have hz0 : FV z ≠ 0 := fun h => q1 ((FV_zero hz hj.1.2.2).1 h)
          exact absurd (by rw [q, FV_z]) (jac_double fd hz0 hj.2).2.1
    refine ⟨wu, wv, ww, h16, h17, h18, vv, ?_⟩
    refine fna Tryz.func171 Tryz.ntmps171 (rs := [.cell 2 199]) (one_cV _ _ _) ?_
    simp [go_sem, vl, vt]
    refine cl_eq f0 (one_cV _ _ _) ?_
    by_cases q1 : z = zI
    · simp [go_sem, q1]
      refine cl_eq zero_fn (by simp) ?_
      simp [go_sem]
      refine cl_eq f16 (one_cP _ _ _) ?_
      simp [go_sem, ul, ut, wd, wl, resV]
      exact post_v rfl
    · have q2 : y = zI := q0.resolve_left q1
      simp [go_sem, q1, v2, vl, ints_cI, iz, hyl]
      refine ⟨fun _ => ?_, fun h => absurd q2 h⟩
      refine cl_eq zero_fn (by simp) ?_
      simp [go_sem]
      refine cl_eq f16 (one_cP _ _ _) ?_
      simp [go_sem, ul, ut, wd, wl, resV]
      exact post_v rfl
  · have q1 : z ≠ zI := fun h => q0 (.inl h)
    have q2 : y ≠ zI := fun h => q0 (.inr h)
    have vv : isJ x y z → isJ X Y Z ∧ JV X Y Z = sum fd (JV x y z) (JV x y z) := by
      intro hj
      have hz0 : FV z ≠ 0 := fun h => q1 ((FV_zero hz hj.1.2.2).1 h)
      obtain ⟨_, _, e⟩ := jac_double fd hz0 hj.2
      have n2 : FV [2, 0, 0, 0] = 2 := FV_n 2 (by omega)
      have n3 : FV [3, 0, 0, 0] = 3 := FV_n 3 (by omega)
      have n4 : FV [4, 0, 0, 0] = 4 := FV_n 4 (by omega)
      have n8 : FV [8, 0, 0, 0] = 8 := FV_n 8 (by omega)
      have eX : FV X = 3 * (FV x * FV x) * (3 * (FV x * FV x)) - 2 * (4 * (FV x * (FV y * FV y))) := by
        rw [g8.2, g6.2, g5.2, g4.2, g7.2, g3.2, g2.2, g1.2, n2, n3, n4]
      have eY : FV Y = 3 * (FV x * FV x) * (4 * (FV x * (FV y * FV y)) - (3 * (FV x * FV x) * (3 * (FV x * FV x)) - 2 * (4 * (FV x * (FV y * FV y))))) - 8 * (FV y * FV y * (FV y * FV y)) := by
        rw [g13.2, g10.2, g9.2, eX, g5.2, g4.2, g3.2, g2.2, g12.2, g11.2, g1.2, n3, n4, n8]
      have eZ : FV Z = 2 * (FV y * FV z) := by rw [g15.2, g14.2, n2]
      have e2 : JV X Y Z = sum fd (JV x y z) (JV x y z) := by
        show jac fd (FV X) (FV Y) (FV Z) = _
        rw [eX, eY, eZ]
        exact e
      exact ⟨⟨⟨g8.1, g13.1, g15.1⟩, by rw [e2]; exact sum_on fd hj.2 hj.2⟩, e2⟩
    refine ⟨X, Y, Z, h8, h13, h15, vv, ?_⟩
    refine fna Tryz.func171 Tryz.ntmps171 (rs := [.cell 2 199]) (one_cV _ _ _) ?_
    simp [go_sem, vl, vt]
    refine cl_eq f0 (one_cV _ _ _) ?_
    simp [go_sem, q1, q2, v2, vl, ints_cI, iz, hyl]
    refine cl_eq f1 (one_cI _) ?_
    simp [go_sem, l1, cI_take l1, z4, v1, vl]
    refine cl_eq f2 (two_cI _ _) ?_
    simp [go_sem]
    refine cl_eq f3 (lw_deep _ _) ?_
    simp [go_sem, l3, cI_take l3, z4, v1, vl]
    refine cl_eq f4 (one_cI _) ?_
    simp [go_sem]
    refine cl_eq f5 (lw_deep _ _) ?_
    simp [go_sem, l5, cI_take l5, z4]
    refine drw3 [0,2] [1,3,4,5,6] [0,2] (.alt (.step 1 [] true (.alt (.step 3 [] false (.alt (.step 4 [] false (.step 5 [] false (.step 6 [] false .done))) (.step 5 [] false (.step 4 [] false (.step 6 [] false .done))))) (.step 5 [] true (.step 3 [] false (.step 4 [] false (.step 6 [] false .done)))))) (.step 5 [] true (.step 1 [] true (.step 3 [] false (.step 4 [] false (.step 6 [] false .done)))))) ⟨[(1, .ptr 0 0 0 1), (2, .ptr 32 0 0 1), (3, .ptr 416 0 0 1), (4, .ptr 640 0 0 1), (5, .ptr 832 0 0 1), (6, .ptr 1056 0 0 1)], [(1056, ⟨160, 4, [cI X]⟩), (832, ⟨160, 4, [cI m]⟩), (640, ⟨160, 4, [cI s]⟩), (416, ⟨160, 4, [cI y2]⟩), (32, ⟨199, 12, [cV zI zI zI]⟩), (0, ⟨199, 12, [cV x y z]⟩)], 9000⟩ (k := 7) ?h3 ?hq
    case h3 =>
      intro G hG
      have hW : ∀ (fr : Fr) (hp : Hp), (fv 1 fr = .ptr 0 0 0 1 ∧ fv 2 fr = .ptr 32 0 0 1 ∧ fv 3 fr = .ptr 416 0 0 1 ∧ fv 4 fr = .ptr 640 0 0 1 ∧ fv 5 fr = .ptr 832 0 0 1 ∧ fv 6 fr = .ptr 1056 0 0 1 ∧ lk 1056 hp = some ⟨160, 4, [cI X]⟩ ∧ lk 832 hp = some ⟨160, 4, [cI m]⟩ ∧ lk 640 hp = some ⟨160, 4, [cI s]⟩ ∧ lk 416 hp = some ⟨160, 4, [cI y2]⟩ ∧ lk 32 hp = some ⟨199, 12, [cV zI zI zI]⟩ ∧ lk 0 hp = some ⟨199, 12, [cV x y z]⟩) → G fr hp := by
        rintro fr hp ⟨q0, q1, q2, q3, q4, q5, q6, q7, q8, q9, q10, q11⟩
        exact hG _ _ wkA
      simp [go_sem, l1, l3, l5, l8, l13, cI_take l1, cI_take l3, cI_take l5, cI_take l8, cI_take l13, z4, SaW]
      repeat' first | exact hW _ _ ⟨rfl, rfl, rfl, rfl, rfl, rfl, rfl, rfl, rfl, rfl, rfl, rfl⟩ | (refine hW _ _ ?_; simp [fv, lk]; done) | refine cl_eq f6 (one_cI _) ?_ | refine cl_eq f7 (lw_deep _ _) ?_ | refine cl_eq f8 (two_cI _ _) ?_ | apply And.intro | simp [go_sem, l1, l3, l5, l8, l13, cI_take l1, cI_take l3, cI_take l5, cI_take l8, cI_take l13, z4, SaW]
    case hq =>
      simp [go_sem]
      refine drw3 [0,1,2,5] [3,4,6,7,8,9,10] [0,1,2,5] (.alt (.step 3 [] true (.alt (.step 4 [] true (.alt (.step 6 [] false (.alt (.step 7 [] false (.alt (.step 8 [] false (.step 9 [] false (.step 10 [] false .done))) (.step 9 [] false (.step 8 [] false (.step 10 [] false .done))))) (.step 9 [] false (.step 7 [] false (.step 8 [] false (.step 10 [] false .done)))))) (.step 9 [] true (.step 6 [] false (.step 7 [] false (.step 8 [] false (.step 10 [] false .done))))))) (.step 9 [] true (.step 4 [] true (.step 6 [] false (.step 7 [] false (.step 8 [] false (.step 10 [] false .done)))))))) (.step 9 [] true (.step 3 [] true (.step 4 [] true (.step 6 [] false (.step 7 [] false (.step 8 [] false (.step 10 [] false .done)))))))) ⟨[(1, .ptr 0 0 0 1), (2, .ptr 32 0 0 1), (3, .ptr 416 0 0 1), (4, .ptr 640 0 0 1), (5, .ptr 832 0 0 1), (6, .ptr 1056 0 0 1), (7, .ptr 9288 0 0 1)], [(9288, ⟨160, 4, [cI Y]⟩), (1056, ⟨160, 4, [cI X]⟩), (832, ⟨160, 4, [cI m]⟩), (640, ⟨160, 4, [cI s]⟩), (416, ⟨160, 4, [cI y2]⟩), (32, ⟨199, 12, [cV zI zI zI]⟩), (0, ⟨199, 12, [cV x y z]⟩)], 20000⟩ (k := 11) ?h3 ?hq
      case h3 =>
        intro G hG
        have hW : ∀ (fr : Fr) (hp : Hp), (fv 1 fr = .ptr 0 0 0 1 ∧ fv 2 fr = .ptr 32 0 0 1 ∧ fv 3 fr = .ptr 416 0 0 1 ∧ fv 4 fr = .ptr 640 0 0 1 ∧ fv 5 fr = .ptr 832 0 0 1 ∧ fv 6 fr = .ptr 1056 0 0 1 ∧ fv 7 fr = .ptr 9288 0 0 1 ∧ lk 9288 hp = some ⟨160, 4, [cI Y]⟩ ∧ lk 1056 hp = some ⟨160, 4, [cI X]⟩ ∧ lk 832 hp = some ⟨160, 4, [cI m]⟩ ∧ lk 640 hp = some ⟨160, 4, [cI s]⟩ ∧ lk 416 hp = some ⟨160, 4, [cI y2]⟩ ∧ lk 32 hp = some ⟨199, 12, [cV zI zI zI]⟩ ∧ lk 0 hp = some ⟨199, 12, [cV x y z]⟩) → G fr hp := by
          rintro fr hp ⟨q0, q1, q2, q3, q4, q5, q6, q7, q8, q9, q10, q11, q12, q13⟩
          exact hG _ _ wkA
        simp [go_sem, l1, l3, l5, l8, l13, cI_take l1, cI_take l3, cI_take l5, cI_take l8, cI_take l13, z4, SaW]
        repeat' first | exact hW _ _ ⟨rfl, rfl, rfl, rfl, rfl, rfl, rfl, rfl, rfl, rfl, rfl, rfl, rfl, rfl⟩ | (refine hW _ _ ?_; simp [fv, lk]; done) | refine cl_eq f9 (two_cI _ _) ?_ | refine cl_eq f10 (two_cI _ _) ?_ | refine cl_eq f11 (one_cI _) ?_ | refine cl_eq f12 (lw_deep _ _) ?_ | refine cl_eq f13 (two_cI _ _) ?_ | apply And.intro | simp [go_sem, l1, l3, l5, l8, l13, cI_take l1, cI_take l3, cI_take l5, cI_take l8, cI_take l13, z4, SaW]
      case hq =>
        simp only [go_sem, Nat.reduceEqDiff, Nat.reduceAdd, Nat.reduceLT, ↓reduceIte]
        refine drw2 [0,1,2,3,4,5] [(6, []),(7, [8]),(9, [])] 2 (k := 10) ?_
        intro G hG
        simp [go_sem, l8, l13, cI_take l8, cI_take l13, v2, v3, vl]
        refine cl_eq f14 (two_cI _ _) ?_
        simp [go_sem]
        refine cl_eq f15 (lw_deep _ _) ?_
        have ev : cI X ++ (cI Y ++ cI Z) = cV X Y Z := rfl
        have xl := cV_len l8 l13 l15
        have xt := cV_take l8 l13 l15
        simp [go_sem, l8, l13, l15, wl, wd, mk8 l8 l13, mk12 l8 l13, ev, xl, SaW]
        refine hG _ _ ?_
        simp [go_sem, xl, xt, resV]
        exact post_v rfl
theorem mkP {x y : List Int} (hx : x.length = 4) (hy : y.length = 4) : cI x ++ (cI y ++ List.drop 8 (cI x ++ [AV.d (.int .u64 0), AV.d (.int .u64 0), AV.d (.int .u64 0), AV.d (.int .u64 0), AV.d (.bool false)])) = cP x y false := by
  match x, y, hx, hy with
  | [a, b, c, d], [e, f, g, h], _, _ => rfl
theorem plain_ex (x y z : List Int) (hx : Wn 4 x) (hy : Wn 4 y) (hz : Wn 4 z) : ∃ (u v : List Int) (c : Bool), Wn 4 u ∧ Wn 4 v ∧ (isJ x y z → isPt u v c ∧ PV u v c = JV x y z) ∧ Rets Tryz.prog 173 [.agg (cV x y z)] (fun r => r = .agg (cP u v c)) := by
  obtain ⟨i, h1, g1, f1⟩ := finvv z hz
  obtain ⟨i2, h2, g2, f2⟩ := sq_ex i h1
  obtain ⟨X, h3, g3, f3⟩ := fmulv x i2 hx h2
  obtain ⟨i3, h4, g4, f4⟩ := fmulv i2 i h2 h1
  obtain ⟨Y, h5, g5, f5⟩ := fmulv y i3 hy h4
  unfold W1 at f1 f2
  unfold W2 at f3 f4 f5
  have l1 := h1.1
  have l2 := h2.1
  have l3 := h3.1
  have l5 := h5.1
  have hxl := hx.1
  have hyl := hy.1
  have hzl := hz.1
  have z4 : List.drop 4 (cI zI) = [] := cI_drop rfl
  have vl := cV_len hxl hyl hzl
  have vt := cV_take hxl hyl hzl
  have v1 : (cV x y z).take 4 = cI x := cV_x hxl
  have v2 := cV_y (z := z) hxl hyl
  have v3 := cV_z hxl hyl hzl
  have f0 := isZero_ex x y z hx hy hz
  have zd : (cP zI zI false).drop 9 = [] := cP_drop rfl rfl _
  have zl : (cP zI zI true).length = 9 := rfl
  have zt : (cP zI zI true).take 9 = cP zI zI true := cP_take rfl rfl _
  have zl2 : (cP zI zI false).length = 9 := rfl
  by_cases q1 : z = zI
  · have vv : isJ x y z → isPt zI zI true ∧ PV zI zI true = JV x y z := by
      intro _
      refine ⟨isPt_z, ?_⟩
      rw [q1, PV_z]
      show none = jac fd _ _ (FV zI)
      rw [FV_z]; exact (jac_z fd _ _).symm
    refine ⟨zI, zI, true, zI_W, zI_W, vv, ?_⟩
    refine fna Tryz.func173 Tryz.ntmps173 (rs := [.cell 2 162]) (one_cV _ _ _) ?_
    simp [go_sem, vl, vt]
    refine cl_eq f0 (one_cV _ _ _) ?_
    simp [go_sem, q1]
    refine cl_eq zero_fn (by simp) ?_
    simp [go_sem, zl, zt, zd, zl2, resV]
    exact post_p rfl
  · have vv : isJ x y z → isPt X Y false ∧ PV X Y false = JV x y z := by
      intro hj
      have hz0 : FV z ≠ 0 := fun h => q1 ((FV_zero hz hj.1.2.2).1 h)
      have e : PV X Y false = JV x y z := by
        show some (FV X, FV Y) = jac fd (FV x) (FV y) (FV z)
        rw [jac, if_neg hz0, g3.2, g5.2, g4.2, g2.2, g1.2]
      have ho : onC (PV X Y false) := by rw [e]; exact hj.2
      exact ⟨.inr ⟨rfl, g3.1, g5.1, ho⟩, e⟩
    refine ⟨X, Y, false, h3, h5, vv, ?_⟩
    refine fna Tryz.func173 Tryz.ntmps173 (rs := [.cell 2 162]) (one_cV _ _ _) ?_
    simp [go_sem, vl, vt]
    refine cl_eq f0 (one_cV _ _ _) ?_
    simp [go_sem, q1, v3, vl]
    refine cl_eq f1 (one_cI _) ?_
    simp [go_sem, l1, cI_take l1, z4]
    refine cl_eq f2 (one_cI _) ?_
    simp [go_sem, l2, cI_take l2, z4]
    refine drw2 [0,1,2,4,5,6,7] [(3, []),(8, []),(9, [10]),(11, [])] 3 (k := 12) ?_
    intro G hG
    simp [go_sem, l1, l2, cI_take l1, cI_take l2, v1, v2, vl]
    refine cl_eq f3 (two_cI _ _) ?_
    simp [go_sem, l1, l2, cI_take l1, cI_take l2, v1, v2, vl]
    refine cl_eq f4 (two_cI _ _) ?_
    simp [go_sem]
    refine cl_eq f5 (two_cI _ _) ?_
    have pl1 := cP_len l3 l5 false
    have pt1 := cP_take l3 l5 false
    have mp := mkP l3 l5
    simp [go_sem, l3, l5, zl2, zd, mp, pl1, SaW]
    refine hG _ _ ?_
    simp [go_sem, pl1, pt1, resV]
    exact post_p rfl
theorem bit_ex (n : List Int) (k : Nat) (hn : Wn 4 n) (hk : k < 256) : ∃ b : Bool, (b = true ↔ (V n).toNat / 2 ^ k % 2 = 1) ∧ Rets Tryz.prog 172 [.agg (cI n), .d (.int .i64 (k : Int))] (fun r => r = .d (.bool b)) := by
  have hnl := hn.1
  have hdq : dq k = k / 64 := rfl
  have hrq : rq k = k % 64 := rfl
  have hnk := get_D (l := n) (k := dq k) (by omega)
  have w4 : IntKind.i64.wrap ((k : Int) / 64) = (dq k : Int) := by rw [IntWalk.i64_in _ (by omega)]; omega
  have w4b : IntKind.i64.wrap ((k : Int).tdiv 64) = (dq k : Int) := w4
  have e2 : (k : Int) % 64 = (rq k : Int) := by omega
  have e2b : (k : Int).tmod 64 = (rq k : Int) := e2
  have i1 : (dq k : Int) < 4 := by omega
  have hm64 : rq k < 64 := by omega
  have hmn : min (rq k) 64 = rq k := by omega
  have bv := bit_V hn hk
  have hv : (!decide (Go.bits .and .u64 (Int.fdiv (gI n (dq k)) (2 ^ rq k)) 1 = 0)) = true ↔ (V n).toNat / 2 ^ k % 2 = 1 := by
    rw [Bool.not_eq_true', decide_eq_false_iff_not]
    refine ⟨fun h => bv.2 h, fun h h0 => ?_⟩
    have := bv.1 h0
    omega
  refine ⟨!decide (Go.bits .and .u64 (Int.fdiv (gI n (dq k)) (2 ^ rq k)) 1 = 0), hv, ?_⟩
  refine fna Tryz.func172 Tryz.ntmps172 (rs := [.tmp 4]) (wi_deep _ _) ?_
  simp [go_sem, hnl, cI_take hnl, hnk, e2, e2b, w4, w4b, i1, hm64, hmn, IntKind.bits, resV]
  exact post_same (by simp [AV.deep, AV.deep1]) rfl
theorem even_ex (x y : List Int) (b : Bool) (hx : Wn 4 x) (hy : Wn 4 y) : ∃ o : Bool, (isPt x y b → (o = true ↔ b = false ∧ V y % 2 = 0)) ∧ Rets Tryz.prog 127 [.agg (cP x y b)] (fun r => r = .d (.bool o)) := by
  obtain ⟨u, v, c, hu, hv, tv, f1⟩ := taken_ex x y b hx hy
  have hxl := hx.1
  have hyl := hy.1
  have hul := hu.1
  have hvl := hv.1
  have xd : (cP x y b).drop 9 = [] := cP_drop hxl hyl _
  have g4 : (cP u v false)[4]? = some (.d (.int .u64 (gI v 0))) := by
    unfold cP
    rw [List.getElem?_append_right (by rw [cI_len]; omega), cI_len, hul, List.getElem?_append_left (by rw [cI_len]; omega), cI_get, get_D (by omega)]
    rfl
  have g4b : ∀ h, (cP u v false)[4]'h = .d (.int .u64 (gI v 0)) := fun h => (List.getElem?_eq_some_iff.1 g4).2
  cases c
  · have hpar : Go.bits .and .u64 (gI v 0) 1 = 0 ↔ V v % 2 = 0 := by
      have h0 := Wn_getD (k := 0) hv
      rw [and1_64 _ h0.1 h0.2]
      obtain ⟨r0, r1, r2, r3, e, _⟩ := W4_ex hv
      rw [e, V4]
      show r0 % 2 = 0 ↔ _
      omega
    have ev : isPt x y b → (decide (Go.bits .and .u64 (gI v 0) 1 = 0) = true ↔ b = false ∧ V y % 2 = 0) := by
      intro hp
      obtain ⟨_, e2, e3⟩ := tv.2.1 hp
      rw [decide_eq_true_iff, hpar, e2]
      exact ⟨fun h => ⟨e3.symm, h⟩, fun h => h.2⟩
    refine ⟨decide (Go.bits .and .u64 (gI v 0) 1 = 0), ev, ?_⟩
    refine fna Tryz.func127 Tryz.ntmps127 (rs := [.tmp 2]) (one_cP _ _ _) ?_
    simp [go_sem, cP_len hxl hyl, cP_take hxl hyl]
    refine cl_eq f1 (one_cP _ _ _) ?_
    simp [go_sem, cP_len hxl hyl, cP_len hul hvl, xd, cP_b hul hvl, cP_g hul hvl, g4, g4b, resV]
    exact post_same (by simp [AV.deep, AV.deep1]) rfl
  · have ev : isPt x y b → (false = true ↔ b = false ∧ V y % 2 = 0) := by
      intro hp
      obtain ⟨_, _, e3⟩ := tv.2.1 hp
      rw [← e3]
      exact ⟨fun h => Bool.noConfusion h, fun h => Bool.noConfusion h.1⟩
    refine ⟨false, ev, ?_⟩
    refine fna Tryz.func127 Tryz.ntmps127 (rs := [.tmp 2]) (one_cP _ _ _) ?_
    simp [go_sem, cP_len hxl hyl, cP_take hxl hyl]
    refine cl_eq f1 (one_cP _ _ _) ?_
    simp [go_sem, cP_len hxl hyl, cP_len hul hvl, xd, cP_b hul hvl, cP_g hul hvl, resV]
    exact post_same (by simp [AV.deep, AV.deep1]) rfl
def gX : List Int := [6481385041966929816, 188021827762530521, 6170039885052185351, 8772561819708210092]
theorem gX_W : Wn 4 gX := ⟨rfl, by intro y hy; simp [gX] at hy; rcases hy with rfl | rfl | rfl | rfl <;> exact ⟨by omega, by omega⟩⟩
def gY : List Int := [11261198710074299576, 18237243440184513561, 6747795201694173352, 5204712524664259685]
theorem gY_W : Wn 4 gY := ⟨rfl, by intro y hy; simp [gY] at hy; rcases hy with rfl | rfl | rfl | rfl <;> exact ⟨by omega, by omega⟩⟩
def odI : List Int := [13822214165235122497, 13451932020343611451, 18446744073709551614, 18446744073709551615]
theorem odI_W : Wn 4 odI := ⟨rfl, by intro y hy; simp [odI] at hy; rcases hy with rfl | rfl | rfl | rfl <;> exact ⟨by omega, by omega⟩⟩
theorem order_fn : Rets Tryz.prog 210 [] (fun r => r = .agg (cI odI)) := by
  refine fna Tryz.func210 Tryz.ntmps210 (rs := [.cell 0 160]) (by simp [AV.deep, AV.deep1]) ?_
  simp [go_sem, cI, zI, resV]
  exact post_w (a := odI) rfl
theorem base_pt : isPt gX gY false := by
  have vx : V gX = 55066263022277343669578718895168534326250603453777594175500187360389116729240 := by simp [V, gX]
  have vy : V gY = 32670510020758816978083085130507043184471273380659243275938904335757337482424 := by simp [V, gY]
  refine .inr ⟨rfl, by rw [vx]; decide, by rw [vy]; decide, F_ext ?_⟩
  have e7 : (((7 : F).val : Nat) : Int) = 7 % pZ := by
    show ((7 % pP : Nat) : Int) = _
    rw [Int.natCast_emod, pP_int]; rfl
  rw [valM, valA, valM, valM, Int.natCast_emod, Int.natCast_mul, Int.natCast_emod, Int.natCast_add, Int.natCast_emod, Int.natCast_mul, Int.natCast_emod, Int.natCast_mul, FV_val, FV_val, e7, pP_int, vx, vy]
  decide
theorem base_fn : Rets Tryz.prog 125 [] (fun r => r = .agg (cP gX gY false)) := by
  refine fna Tryz.func125 Tryz.ntmps125 (rs := [.cell 0 162]) (by simp [AV.deep, AV.deep1]) ?_
  simp [go_sem, cP, cI, zI, resV]
  exact post_p (x := gX) (y := gY) (b := false) rfl
theorem fold_lt : ∀ (l : List Nat), (∀ x, x ∈ l → x < 256) → ∀ a, l.foldl (fun a x => a * 256 + x) a < (a + 1) * 256 ^ l.length
  | [], _, a => by simp
  | x :: r, h, a => by
    have h1 := fold_lt r (fun y hy => h y (by simp [hy])) (a * 256 + x)
    have h2 := h x (by simp)
    rw [List.foldl_cons, List.length_cons, Nat.pow_succ]
    have h3 : (a * 256 + x + 1) * 256 ^ r.length ≤ ((a + 1) * 256) * 256 ^ r.length := Nat.mul_le_mul_right _ (by omega)
    have h4 : (a + 1) * 256 * 256 ^ r.length = (a + 1) * (256 ^ r.length * 256) := by rw [Nat.mul_assoc, Nat.mul_comm 256]
    omega
theorem beN_lt {l : List Nat} (h : ∀ x, x ∈ l → x < 256) (hl : l.length ≤ 8) : beN l < 18446744073709551616 := by
  have h1 := fold_lt l h 0
  have h2 : 256 ^ l.length ≤ 256 ^ 8 := Nat.pow_le_pow_right (by omega) hl
  have h3 : (256 : Nat) ^ 8 = 18446744073709551616 := by decide
  unfold beN
  omega
theorem beN_app (a b : List Nat) : beN (a ++ b) = beN a * 256 ^ b.length + beN b := by
  have key : ∀ (l : List Nat) (c : Nat), l.foldl (fun a x => a * 256 + x) c = c * 256 ^ l.length + l.foldl (fun a x => a * 256 + x) 0 := by
    intro l
    induction l with
    | nil => intro c; simp
    | cons x r ih =>
      intro c
      rw [List.foldl_cons, List.foldl_cons, ih, ih (0 * 256 + x), List.length_cons, Nat.pow_succ]
      have : (c * 256 + x) * 256 ^ r.length = c * (256 ^ r.length * 256) + (0 * 256 + x) * 256 ^ r.length := by
        rw [Nat.add_mul, Nat.mul_assoc, Nat.mul_comm 256, Nat.zero_mul, Nat.zero_add]
      omega
  unfold beN
  rw [List.foldl_append, key]
theorem read_V {b : List Nat} (hb : b.length = 32) : V ((mulW b 32).map fun (x : Nat) => (x : Int)) = (beN b : Int) := by
  have e : b = Go.Sha.part b 32 3 ++ (Go.Sha.part b 32 2 ++ (Go.Sha.part b 32 1 ++ Go.Sha.part b 32 0)) := by
    unfold Go.Sha.part
    have h32 : b.take 32 = b := List.take_of_length_le (by omega)
    rw [h32]
    have h0 : (b.drop (8 * (3 - 0))).take 8 = b.drop 24 := List.take_of_length_le (by rw [List.length_drop]; omega)
    have s2 : (b.drop (8 * (3 - 1))).take 8 ++ b.drop 24 = b.drop 16 := by
      have : b.drop 24 = (b.drop 16).drop 8 := by rw [List.drop_drop]
      rw [this]; exact List.take_append_drop 8 _
    have s3 : (b.drop (8 * (3 - 2))).take 8 ++ b.drop 16 = b.drop 8 := by
      have : b.drop 16 = (b.drop 8).drop 8 := by rw [List.drop_drop]
      rw [this]; exact List.take_append_drop 8 _
    rw [h0, s2, s3]
    exact (List.take_append_drop 8 b).symm
  have l0 : ∀ j, j < 4 → (Go.Sha.part b 32 j).length = 8 := by
    intro j hj
    unfold Go.Sha.part
    rw [List.length_take, List.length_drop, List.length_take]
    omega
  have m : mulW b 32 = [beN (Go.Sha.part b 32 0), beN (Go.Sha.part b 32 1), beN (Go.Sha.part b 32 2), beN (Go.Sha.part b 32 3)] := rfl
  have k : beN b = ((beN (Go.Sha.part b 32 3) * 256 ^ 8 + beN (Go.Sha.part b 32 2)) * 256 ^ 8 + beN (Go.Sha.part b 32 1)) * 256 ^ 8 + beN (Go.Sha.part b 32 0) := by
    conv => lhs; rw [e]
    rw [← List.append_assoc, ← List.append_assoc, beN_app, l0 0 (by omega), beN_app, l0 1 (by omega), beN_app, l0 2 (by omega)]
  rw [m, k]
  simp only [List.map_cons, List.map_nil, V4]
  generalize beN (Go.Sha.part b 32 0) = p0
  generalize beN (Go.Sha.part b 32 1) = p1
  generalize beN (Go.Sha.part b 32 2) = p2
  generalize beN (Go.Sha.part b 32 3) = p3
  omega
theorem readI_ex (b : List Nat) (hb : b.length = 32) (hby : bytes b) : ∃ a : List Int, Wn 4 a ∧ V a = (beN b : Int) ∧ Rets Tryz.prog 160 [.agg (cb b)] (fun r => r = .agg (cI a)) := by
  refine ⟨(mulW b 32).map fun (x : Nat) => (x : Int), ⟨by simp [mulW], fun x hx => ?_⟩, read_V hb, ?_⟩
  · rw [List.mem_map] at hx
    obtain ⟨y, hy, rfl⟩ := hx
    unfold mulW at hy
    rw [List.mem_map] at hy
    obtain ⟨j, _, rfl⟩ := hy
    have := beN_lt (l := Go.Sha.part b 32 j) (fun x hx => hby x (List.mem_of_mem_take (List.mem_of_mem_drop (List.mem_of_mem_take hx)))) (by unfold Go.Sha.part; rw [List.length_take]; omega)
    exact ⟨Int.natCast_nonneg _, by omega⟩
  · have e : cI ((mulW b 32).map fun (x : Nat) => (x : Int)) = cW (mulW b 32) := by unfold cI cW; rw [List.map_map]; rfl
    rw [e]
    exact read_fn b hb hby
theorem one_cb1 (b : List Nat) : ∀ v, v ∈ [AV.agg (cb b)] → v.deep := by
  intro v hv; simp at hv; subst hv; exact cb_deepA _
theorem sread_ex (b : List Nat) (hb : b.length = 32) (hby : bytes b) : ∃ (r : List Int) (ok : Bool), Wn 4 r ∧ ((beN b < 115792089237316195423570985008687907852837564279074904382605163141518161494337 → ok = true ∧ V r = (beN b : Int)) ∧ (¬ beN b < 115792089237316195423570985008687907852837564279074904382605163141518161494337 → ok = false ∧ r = zI)) ∧ Rets Tryz.prog 165 [.agg (cb b)] (fun x => x = .tup [.agg (cI r), .d (.bool ok)]) := by
  obtain ⟨a, ha, va, f1⟩ := readI_ex b hb hby
  obtain ⟨c, vc, f2⟩ := cmpI_ex a odI ha odI_W
  have vo : V odI = 115792089237316195423570985008687907852837564279074904382605163141518161494337 := by simp [V, odI]
  rw [vo, va] at vc
  have hal := ha.1
  have hz : List.drop 4 (cI zI) = [] := cI_drop rfl
  have zd : List.drop 32 (cb b) = [] := cb_drop hb
  by_cases h0 : 0 ≤ c
  · refine ⟨zI, false, zI_W, ⟨fun h => absurd (vc.2 (by omega)) (by omega), fun _ => ⟨rfl, rfl⟩⟩, ?_⟩
    refine fna Tryz.func165 Tryz.ntmps165 (rs := [.cell 2 160, .tmp 3]) (one_cb1 b) ?_
    simp [go_sem, cb_len, hb, cb_take hb, zd]
    refine cl_eq f1 (one_cb1 _) ?_
    simp [go_sem, hal, cI_take hal, hz]
    refine drw2 [0] [(1, []),(2, [3])] 2 (k := 4) ?_
    intro G hG
    simp [go_sem, hal, cI_take hal]
    refine cl_eq order_fn (by simp) ?_
    simp [go_sem]
    refine cl_eq f2 (two_cI _ _) ?_
    simp [go_sem, SaW]
    refine hG _ _ ?_
    simp [go_sem, h0, hz, resV]
    exact post_wb (a := zI) rfl
  · refine ⟨a, true, ha, ⟨fun _ => ⟨rfl, va⟩, fun h => absurd (vc.1 (by omega)) (by omega)⟩, ?_⟩
    refine fna Tryz.func165 Tryz.ntmps165 (rs := [.cell 2 160, .tmp 3]) (one_cb1 b) ?_
    simp [go_sem, cb_len, hb, cb_take hb, zd]
    refine cl_eq f1 (one_cb1 _) ?_
    simp [go_sem, hal, cI_take hal, hz]
    refine drw2 [0] [(1, []),(2, [3])] 2 (k := 4) ?_
    intro G hG
    simp [go_sem, hal, cI_take hal]
    refine cl_eq order_fn (by simp) ?_
    simp [go_sem]
    refine cl_eq f2 (two_cI _ _) ?_
    simp [go_sem, SaW]
    refine hG _ _ ?_
    simp [go_sem, h0, hal, cI_take hal, hz, resV]
    exact post_wb rfl
theorem post_pb {Q : AV → Prop} {st : St} {x y : List Int} {c b : Bool} (hq : Q (.tup [.agg (cP x y c), .d (.bool b)])) : PostK Q (.tup [.agg (cP x y c), .d (.bool b)]) st :=
  post_same (by
    intro c hc
    simp at hc
    rcases hc with rfl | rfl
    · exact .inr ⟨_, rfl, cP_deep _ _ _⟩
    · exact .inl trivial) hq
def liftC (n : Nat) : Int := ((n : Int) * n * n + 7) % 115792089237316195423570985008687907853269984665640564039457584007908834671663
def liftR (n : Nat) : Int := liftC n ^ 28948022309329048855892746252171976963317496166410141009864396001977208667916 % 115792089237316195423570985008687907853269984665640564039457584007908834671663
def liftOk (n : Nat) : Prop := (n : Int) < 115792089237316195423570985008687907853269984665640564039457584007908834671663 ∧ liftR n * liftR n % 115792089237316195423570985008687907853269984665640564039457584007908834671663 = liftC n % 115792089237316195423570985008687907853269984665640564039457584007908834671663
def liftS (n : Nat) (x y : List Int) (c ok : Bool) : Prop :=
  (¬ liftOk n ∧ ok = false ∧ c = true ∧ x = zI ∧ y = zI) ∨ (liftOk n ∧ ok = true ∧ c = false ∧ V x = n ∧ V y = if liftR n % 2 = 0 then liftR n else (0 - liftR n) % 115792089237316195423570985008687907853269984665640564039457584007908834671663)
theorem right_V {r a : List Int} {n : Nat} (hr : Wn 4 r) (va : V a = n) (vr : V r < pZ ∧ FV r = FV a * FV a * FV a + 7) : V r = liftC n := by
  have e := congrArg (fun x : F => ((x.val : Nat) : Int)) vr.2
  simp only [FV_val] at e
  have e7 : (((7 : F).val : Nat) : Int) = 7 % pZ := by
    show ((7 % pP : Nat) : Int) = _
    rw [Int.natCast_emod, pP_int]; rfl
  have h0 := (V_lt hr).1
  rw [Int.emod_eq_of_lt h0 vr.1] at e
  rw [e, valA, valM, valM, Int.natCast_emod, Int.natCast_add, Int.natCast_emod, Int.natCast_mul, Int.natCast_emod, Int.natCast_mul, FV_val, e7, pP_int, va]
  unfold liftC
  show _ = ((n : Int) * n * n + 7) % pZ
  rw [← Int.mul_emod (n : Int) n, ← Int.mul_emod ((n : Int) * n) n, ← Int.add_emod]
theorem liftP_ex (b : List Nat) (hb : b.length = 32) (hby : bytes b) : ∃ (x y : List Int) (c ok : Bool), Wn 4 x ∧ Wn 4 y ∧ (liftS (beN b) x y c ok) ∧ Rets Tryz.prog 121 [.agg (cb b)] (fun r => r = .tup [.agg (cP x y c), .d (.bool ok)]) := by
  obtain ⟨a, ha, va, f1⟩ := readI_ex b hb hby
  obtain ⟨o, vo, f2⟩ := below_ex a ha
  obtain ⟨r, hr, vr, f3⟩ := right_ex a ha
  obtain ⟨y, ok, hy, vk, vy, vno, f4⟩ := froot_ex r hr
  have hrv : V r = liftC (beN b) := right_V hr va vr
  rw [va] at vo
  rw [hrv] at vk vy
  unfold W1 at f3
  have hal := ha.1
  have hyl := hy.1
  have hz : List.drop 4 (cI zI) = [] := cI_drop rfl
  have zd : List.drop 32 (cb b) = [] := cb_drop hb
  have pd : (cP zI zI false).drop 9 = [] := cP_drop rfl rfl _
  have zl : (cP zI zI true).length = 9 := rfl
  have zt : (cP zI zI true).take 9 = cP zI zI true := cP_take rfl rfl _
  have zl2 : (cP zI zI false).length = 9 := rfl
  cases o
  · refine ⟨zI, zI, true, false, zI_W, zI_W, .inl ⟨fun h => absurd (vo.2 h.1) (by decide), rfl, rfl, rfl, rfl⟩, ?_⟩
    refine fna Tryz.func121 Tryz.ntmps121 (rs := [.cell 2 162, .tmp 3]) (one_cb1 b) ?_
    simp [go_sem, cb_len, hb, cb_take hb, zd]
    refine cl_eq f1 (one_cb1 _) ?_
    simp [go_sem, hal, cI_take hal, hz]
    refine cl_eq f2 (one_cI _) ?_
    simp [go_sem]
    refine cl_eq zero_fn (by simp) ?_
    simp [go_sem, zl, zt, pd, zl2, resV]
    exact post_pb rfl
  · cases ok
    · refine ⟨zI, zI, true, false, zI_W, zI_W, .inl ⟨fun h => absurd (vk.2 h.2) (by decide), rfl, rfl, rfl, rfl⟩, ?_⟩
      refine fna Tryz.func121 Tryz.ntmps121 (rs := [.cell 2 162, .tmp 3]) (one_cb1 b) ?_
      simp [go_sem, cb_len, hb, cb_take hb, zd]
      refine cl_eq f1 (one_cb1 _) ?_
      simp [go_sem, hal, cI_take hal, hz]
      refine cl_eq f2 (one_cI _) ?_
      simp [go_sem, hal, cI_take hal]
      refine cl_eq f3 (one_cI _) ?_
      simp [go_sem]
      refine cl_eq f4 (one_cI _) ?_
      simp [go_sem, hyl, cI_take hyl, hz]
      refine cl_eq zero_fn (by simp) ?_
      simp [go_sem, zl, zt, pd, zl2, resV]
      exact post_pb rfl
    · refine ⟨a, y, false, true, ha, hy, .inr ⟨⟨vo.1 rfl, vk.1 rfl⟩, rfl, rfl, va, vy rfl⟩, ?_⟩
      refine fna Tryz.func121 Tryz.ntmps121 (rs := [.cell 2 162, .tmp 3]) (one_cb1 b) ?_
      simp [go_sem, cb_len, hb, cb_take hb, zd]
      refine cl_eq f1 (one_cb1 _) ?_
      simp [go_sem, hal, cI_take hal, hz]
      refine cl_eq f2 (one_cI _) ?_
      simp [go_sem, hal, cI_take hal]
      refine cl_eq f3 (one_cI _) ?_
      simp [go_sem]
      refine cl_eq f4 (one_cI _) ?_
      have mp := mkP hal hyl
      have pl1 := cP_len hal hyl false
      have pt1 := cP_take hal hyl false
      simp [go_sem, hal, hyl, cI_take hal, cI_take hyl, hz, mp, pl1, pt1, pd, zl2, resV]
      exact post_pb rfl
def d8 (i : Nat) : Nat := i / 8
def r8 (i : Nat) : Nat := 8 * (i % 8)
def byt (a : List Int) (k : Nat) : Nat := (IntKind.u8.wrap (Int.fdiv (gI a (d8 k)) (2 ^ r8 k))).toNat
def bst (a : List Int) (k : Nat) (l : List Nat) : List Nat := l.set (31 - k) (byt a k)
theorem byt_i (a : List Int) (k : Nat) : IntKind.u8.wrap (Int.fdiv (gI a (d8 k)) (2 ^ r8 k)) = ((byt a k : Nat) : Int) := by
  unfold byt
  have : IntKind.u8.wrap (Int.fdiv (gI a (d8 k)) (2 ^ r8 k)) = (Int.fdiv (gI a (d8 k)) (2 ^ r8 k)) % 256 := by simp [IntKind.wrap, IntKind.bits, IntKind.signed]
  rw [this]
  omega
theorem byt_lt (a : List Int) (k : Nat) : byt a k < 256 := by
  have h := byt_i a k
  have : IntKind.u8.wrap (Int.fdiv (gI a (d8 k)) (2 ^ r8 k)) = (Int.fdiv (gI a (d8 k)) (2 ^ r8 k)) % 256 := by simp [IntKind.wrap, IntKind.bits, IntKind.signed]
  rw [this] at h
  omega
theorem bst_ok (a : List Int) : ∀ k, (itr (bst a) z32 k).length = 32 ∧ bytes (itr (bst a) z32 k) :=
  itr_inv (P := fun _ l => l.length = 32 ∧ bytes l) ⟨rfl, fun x hx => by simp [z32] at hx; omega⟩ fun k l hl => by
    refine ⟨by unfold bst; rw [List.length_set]; exact hl.1, fun x hx => ?_⟩
    rcases List.mem_or_eq_of_mem_set hx with hx | rfl
    · exact hl.2 x hx
    · exact byt_lt _ _
theorem byt_V {a : List Int} (ha : Wn 4 a) {k : Nat} (hk : k < 32) : byt a k = (V a).toNat / 256 ^ k % 256 := by
  have hw := word_V ha (j := k / 8) (by omega)
  have hi := byt_i a k
  have hu : IntKind.u8.wrap (Int.fdiv (gI a (d8 k)) (2 ^ r8 k)) = (Int.fdiv (gI a (d8 k)) (2 ^ r8 k)) % 256 := by simp [IntKind.wrap, IntKind.bits, IntKind.signed]
  have hd : d8 k = k / 8 := rfl
  have hr : r8 k = 8 * (k % 8) := rfl
  rw [hu, hd, hr, ← hw, Int.fdiv_eq_ediv_of_nonneg _ (Int.le_of_lt (Int.pow_pos (by omega)))] at hi
  generalize (V a).toNat = N at *
  have h1 : byt a k = N / 2 ^ (64 * (k / 8)) % 2 ^ 64 / 2 ^ (8 * (k % 8)) % 256 := by
    have e : ∀ (z s : Nat), (((z / 2 ^ s % 256 : Nat)) : Int) = (z : Int) / 2 ^ s % 256 := fun z s => by rw [Int.natCast_emod, Int.natCast_ediv, Int.natCast_pow]; rfl
    exact (Int.ofNat_inj.1 ((e _ _).trans hi)).symm
  rw [h1]
  have e64 : (2 : Nat) ^ 64 = 2 ^ (8 * (k % 8)) * 2 ^ (64 - 8 * (k % 8)) := by rw [← Nat.pow_add]; congr 1; omega
  have e8 : (256 : Nat) ∣ 2 ^ (64 - 8 * (k % 8)) := ⟨2 ^ (56 - 8 * (k % 8)), by rw [show (256 : Nat) = 2 ^ 8 from rfl, ← Nat.pow_add]; congr 1; omega⟩
  have e256 : (256 : Nat) ^ k = 2 ^ (64 * (k / 8)) * 2 ^ (8 * (k % 8)) := by
    rw [show (256 : Nat) = 2 ^ 8 from rfl, ← Nat.pow_mul, ← Nat.pow_add]; congr 1; omega
  rw [e64, Nat.mod_mul_right_div_self, Nat.mod_mod_of_dvd _ e8, Nat.div_div_eq_div_mul, ← e256]
def lowB (a : List Int) : Nat → List Nat
  | 0 => []
  | k + 1 => byt a k :: lowB a k
theorem lowB_len (a : List Int) : ∀ k, (lowB a k).length = k
  | 0 => rfl
  | k + 1 => by rw [lowB, List.length_cons, lowB_len a k]
theorem beN_cons (x : Nat) (l : List Nat) : beN (x :: l) = x * 256 ^ l.length + beN l := by
  have := beN_app [x] l
  have e : beN [x] = x := by simp [beN]
  rw [e] at this
  exact this
theorem lowB_V {a : List Int} (ha : Wn 4 a) : ∀ k, k ≤ 32 → beN (lowB a k) = (V a).toNat % 256 ^ k
  | 0, _ => by rw [lowB, Nat.pow_zero, Nat.mod_one]; rfl
  | k + 1, h => by
    rw [lowB, beN_cons, lowB_len, lowB_V ha k (by omega), byt_V ha (by omega), Nat.mod_pow_succ, Nat.mul_comm, Nat.add_comm]
theorem bst_low (a : List Int) : ∀ k, k ≤ 32 → itr (bst a) z32 k = List.replicate (32 - k) 0 ++ lowB a k
  | 0, _ => rfl
  | k + 1, h => by
    rw [itr, bst_low a k (by omega)]
    unfold bst
    have e : 32 - k = (31 - k) + 1 := by omega
    have e2 : 32 - (k + 1) = 31 - k := by omega
    rw [e, e2, List.replicate_succ', List.append_assoc, List.set_append_right _ _ (by simp), List.length_replicate, Nat.sub_self]
    rfl
theorem bst_V {a : List Int} (ha : Wn 4 a) : beN (itr (bst a) z32 32) = (V a).toNat := by
  rw [bst_low a 32 (by omega), Nat.sub_self, List.replicate_zero, List.nil_append, lowB_V ha 32 (by omega)]
  have h := V_lt ha
  exact Nat.mod_eq_of_lt (by
    have : (256 : Nat) ^ 32 = 115792089237316195423570985008687907853269984665640564039457584007913129639936 := by decide
    omega)
theorem wbytes_ex (a : List Int) (ha : Wn 4 a) : ∃ b : List Nat, b.length = 32 ∧ bytes b ∧ beN b = (V a).toNat ∧ Rets Tryz.prog 174 [.agg (cI a)] (fun r => r = .agg (cb b)) := by
  refine ⟨itr (bst a) z32 32, (bst_ok a 32).1, (bst_ok a 32).2, bst_V ha, ?_⟩
  refine fna Tryz.func174 Tryz.ntmps174 (rs := [.cell 2 23]) (one_cI a) ?_
  have hal := ha.1
  simp [go_sem, hal, cI_take hal]
  generalize hSS : itr (bst a) z32 = S at *
  have hS := bst_ok a
  rw [hSS] at hS
  refine loop_of (fun k : Nat => ⟨[(1, .ptr 0 0 0 1), (2, .ptr 32 0 0 1), (3, .ptr 64 0 0 1), (5, .d (.int .i64 (k : Int)))], [(64, ⟨23, 32, [cb (S k)]⟩), (32, ⟨23, 32, [cb z32]⟩), (0, ⟨160, 4, [cI a]⟩)], 20000⟩)
    (fun k => k ≤ 32) (fun k => 32 - k) 0 (by omega) (by
      rw [← hSS]
      simp [Weak, slotOk, fv, lk, AV.low, AV.low1, itr]
      and_intros <;> first | rfl | exact cI_low _ _ | exact cb_low _ _) ?_
  intro k hk
  obtain ⟨hs1, hs2⟩ := hS k
  have w3 := next_i64 (k := k) (by omega)
  simp only [go_sem, Nat.reduceEqDiff, Nat.reduceAdd, Nat.reduceLT, ↓reduceIte]
  by_cases h4 : k < 32
  · refine ⟨fun h => ?_, fun h => absurd (by exact_mod_cast h4) h⟩
    have hsn : S (k + 1) = bst a k (S k) := by rw [← hSS]; rfl
    have hdq : d8 k = k / 8 := rfl
    have hrq : r8 k = 8 * (k % 8) := rfl
    have hnk := get_D (l := a) (k := d8 k) (by omega)
    have w4 : IntKind.i64.wrap ((k : Int) / 8) = (d8 k : Int) := by rw [IntWalk.i64_in _ (by omega)]; omega
    have w4b : IntKind.i64.wrap ((k : Int).tdiv 8) = (d8 k : Int) := w4
    have e2 : IntKind.i64.wrap (8 * ((k : Int) % 8)) = (r8 k : Int) := by rw [IntWalk.i64_in _ (by omega)]; omega
    have e2b : IntKind.i64.wrap (8 * ((k : Int).tmod 8)) = (r8 k : Int) := e2
    have e3 : IntKind.i64.wrap (31 - (k : Int)) = ((31 - k : Nat) : Int) := by rw [IntWalk.i64_in _ (by omega)]; omega
    have i1 : (d8 k : Int) < 4 := by omega
    have hm64 : r8 k < 64 := by omega
    have hmn : min (r8 k) 64 = r8 k := by omega
    have i3 : ((31 - k : Nat) : Int) < 32 := by omega
    have i4 : 31 - k < 32 := by omega
    simp [go_sem, hnk, hal, e2, e2b, w4, w4b, e3, i1, i3, i4, hm64, hmn, IntKind.bits, byt_i, cb_set, cb_len, hs1, w3]
    refine next_of (k + 1) (by omega) (by omega) ?_
    rw [hsn]
    simp [Weak, slotOk, fv, lk, AV.low, AV.low1, bst]
    and_intros <;> first | rfl | exact cI_low _ _ | exact cb_low _ _
  · refine ⟨fun h => absurd (by exact_mod_cast h) h4, fun h => ?_⟩
    have hkl : k = 32 := by omega
    subst hkl
    simp [go_sem, cb_len, hs1, cb_take hs1, cb_drop (l := z32) rfl, resV]
    exact post_same (cb_deepA _) rfl
theorem post_b {Q : AV → Prop} {st : St} {b : List Nat} (hq : Q (.agg (cb b))) : PostK Q (.agg (cb b)) st := post_same (cb_deepA _) hq
theorem pbytes_ex (x y : List Int) (c : Bool) (hx : Wn 4 x) (hy : Wn 4 y) : ∃ b : List Nat, b.length = 32 ∧ bytes b ∧ (isPt x y c → beN b = (V x).toNat) ∧ Rets Tryz.prog 126 [.agg (cP x y c)] (fun r => r = .agg (cb b)) := by
  obtain ⟨u, v, d, hu, hv, tv, f1⟩ := taken_ex x y c hx hy
  obtain ⟨b, hb, hbb, vb, f2⟩ := wbytes_ex u hu
  refine ⟨b, hb, hbb, fun h => by rw [vb, (tv.2.1 h).1], ?_⟩
  refine fna Tryz.func126 Tryz.ntmps126 (rs := [.cell 2 23]) (one_cP _ _ _) ?_
  have hxl := hx.1
  have hyl := hy.1
  have ul := cP_len hu.1 hv.1 d
  have ux := cP_x (y := v) hu.1 d
  have zd : List.drop 32 (cb z32) = [] := cb_drop rfl
  simp [go_sem, cP_len hxl hyl, cP_take hxl hyl]
  refine cl_eq f1 (one_cP _ _ _) ?_
  simp [go_sem, ul, ux]
  refine cl_eq f2 (one_cI _) ?_
  simp [go_sem, cb_len, hb, cb_take hb, zd, resV]
  exact post_b rfl
def jnV (a b : List Nat) : Nat → AV
  | 0 => .nil
  | 1 => .own 1192 0 a.length a.length
  | _ => .own 1192 0 (a ++ b).length (a ++ b).length
def jnH (a b : List Nat) : Nat → Hp
  | 0 => []
  | 1 => [(1192, ⟨5, 1, rb a⟩)]
  | _ => [(1192, ⟨5, 1, rb (a ++ b)⟩)]
def jnN : Nat → Nat
  | 0 => 1000
  | _ => 2000
theorem joined_fn (a b : List Nat) (ha : a.length = 32) (hb : b.length ≤ 1000000) : Rets Tryz.prog 166 [.d (.ro 1 [[nb a], [nb b]])] (fun r => r = .d (nb (a ++ b))) := by
  refine fna Tryz.func166 Tryz.ntmps166 (rs := [.tmp 2]) (by simp [AV.deep, AV.deep1]) ?_
  simp [go_sem]
  refine loop_of (fun k : Nat => ⟨[(3, jnV a b k), (6, .d (.ro 1 [[nb a], [nb b]])), (7, .d (.int .i64 2)), (8, .d (.int .i64 (k : Int)))], jnH a b k, jnN k⟩)
    (fun k => k ≤ 2) (fun k => 2 - k) 0 (by omega) (by simp [Weak, slotOk, fv, lk, AV.low, AV.low1, jnV, jnH, jnN]) ?_
  intro k hk
  simp only [go_sem, Nat.reduceEqDiff, Nat.reduceAdd, Nat.reduceLT, ↓reduceIte]
  match k, hk with
  | 0, _ =>
    refine ⟨fun _ => ?_, fun h => absurd (by decide) h⟩
    simp [go_sem, jnV, jnH, jnN, nb, rb_of]
    refine ⟨by rw [rb_len]; omega, ?_⟩
    have w1 : IntKind.i64.wrap 1 = 1 := by decide
    refine next_of 1 (by omega) (by omega) ?_
    simp [Weak, slotOk, fv, lk, AV.low, AV.low1, rb_len, w1]
    exact rb_low _ _
  | 1, _ =>
    refine ⟨fun _ => ?_, fun h => absurd (by decide) h⟩
    simp [go_sem, jnV, jnH, jnN, nb, rb_of, rb_len]
    refine ⟨by omega, ?_⟩
    have w1 : IntKind.i64.wrap 2 = 2 := by decide
    have ra : rb (a ++ b) = rb a ++ rb b := by simp [rb]
    refine next_of 2 (by omega) (by omega) ?_
    simp [Weak, slotOk, fv, lk, AV.low, AV.low1, rb_len, w1, ra]
    intro r hr
    exact hr.elim (rb_low _ _ r) (rb_low _ _ r)
  | 2, _ =>
    refine ⟨fun h => absurd h (by decide), fun _ => ?_⟩
    simp [go_sem, jnV, jnH, resV]
    have hl2 : a.length + b.length = (a ++ b).length := by rw [List.length_append]
    rw [hl2]
    exact post_bytes rfl (by simp [nb])
theorem JV_0 (x y : List Int) : JV x y zI = none := by
  show jac fd _ _ (FV zI) = none
  rw [FV_z]; exact jac_z fd _ _
theorem two_cV (x y z x' y' z' : List Int) : ∀ v, v ∈ [AV.agg (cV x y z), AV.agg (cV x' y' z')] → v.deep := by
  intro v hv; simp at hv; rcases hv with rfl | rfl
  · exact cV_deep _ _ _
  · exact cV_deep _ _ _
theorem plus_ex (x y z x' y' z' : List Int) (hx : Wn 4 x) (hy : Wn 4 y) (hz : Wn 4 z) (hx' : Wn 4 x') (hy' : Wn 4 y') (hz' : Wn 4 z') : ∃ (u v w : List Int), Wn 4 u ∧ Wn 4 v ∧ Wn 4 w ∧ (isJ x y z → isJ x' y' z' → isJ u v w ∧ JV u v w = sum fd (JV x y z) (JV x' y' z')) ∧ Rets Tryz.prog 169 [.agg (cV x y z), .agg (cV x' y' z')] (fun r => r = .agg (cV u v w)) := by
  obtain ⟨pz2, h1, g1, f1⟩ := sq_ex z hz
  obtain ⟨qz2, h2, g2, f2⟩ := sq_ex z' hz'
  obtain ⟨u1, h4, g4, f4⟩ := fmulv x qz2 hx h2
  obtain ⟨u2, h5, g5, f5⟩ := fmulv x' pz2 hx' h1
  obtain ⟨qz3, h6, g6, f6⟩ := fmulv qz2 z' h2 hz'
  obtain ⟨s1, h7, g7, f7⟩ := fmulv y qz3 hy h6
  obtain ⟨pz3, h8, g8, f8⟩ := fmulv pz2 z h1 hz
  obtain ⟨s2, h9, g9, f9⟩ := fmulv y' pz3 hy' h8
  obtain ⟨h, h11, g11, f11⟩ := fsubv u2 u1 h5 h4
  obtain ⟨r, h12, g12, f12⟩ := fsubv s2 s1 h9 h7
  obtain ⟨hh, h13, g13, f13⟩ := sq_ex h h11
  obtain ⟨h3, h14, g14, f14⟩ := fmulv hh h h13 h11
  obtain ⟨v, h15, g15, f15⟩ := fmulv u1 hh h4 h13
  obtain ⟨rr, h16, g16, f16⟩ := sq_ex r h12
  obtain ⟨d1, h17, g17, f17⟩ := fsubv rr h3 h16 h14
  obtain ⟨w2, h20, g20, f20⟩ := times_ex 2 v ⟨by omega, by omega⟩ h15
  obtain ⟨X, h18, g18, f18⟩ := fsubv d1 w2 h17 h20
  obtain ⟨e1, h21, g21, f21⟩ := fsubv v X h15 h18
  obtain ⟨e2, h22, g22, f22⟩ := fmulv r e1 h12 h21
  obtain ⟨e3, h24, g24, f24⟩ := fmulv s1 h3 h7 h14
  obtain ⟨Y, h19, g19, f19⟩ := fsubv e2 e3 h22 h24
  obtain ⟨zz, h25, g25, f25⟩ := fmulv z z' hz hz'
  obtain ⟨Z, h23, g23, f23⟩ := fmulv h zz h11 h25
  obtain ⟨wu, wv, ww, h26, h27, h28, g26, f26⟩ := weigh_ex zI zI true zI_W zI_W
  obtain ⟨du, dv, dw, h29, h30, h31, g29, f29⟩ := doubled_ex x y z hx hy hz
  unfold W1 at f1 f2 f13 f16
  unfold W2 at f4 f5 f6 f7 f8 f9 f11 f12 f14 f15 f17 f18 f19 f21 f22 f23 f24 f25
  have l1 := h1.1
  have l2 := h2.1
  have l4 := h4.1
  have l5 := h5.1
  have l6 := h6.1
  have l7 := h7.1
  have l8 := h8.1
  have l9 := h9.1
  have l11 := h11.1
  have l12 := h12.1
  have l13 := h13.1
  have l14 := h14.1
  have l15 := h15.1
  have l16 := h16.1
  have l17 := h17.1
  have l18 := h18.1
  have l19 := h19.1
  have l20 := h20.1
  have l21 := h21.1
  have l22 := h22.1
  have l23 := h23.1
  have l24 := h24.1
  have l25 := h25.1
  have l26 := h26.1
  have l27 := h27.1
  have l28 := h28.1
  have l29 := h29.1
  have l30 := h30.1
  have l31 := h31.1
  have hxl := hx.1
  have hyl := hy.1
  have hzl := hz.1
  have hxlb := hx'.1
  have hylb := hy'.1
  have hzlb := hz'.1
  have z4 : List.drop 4 (cI zI) = [] := cI_drop rfl
  have vl := cV_len hxl hyl hzl
  have vt := cV_take hxl hyl hzl
  have v1 : (cV x y z).take 4 = cI x := cV_x hxl
  have v2 := cV_y (z := z) hxl hyl
  have v3 := cV_z hxl hyl hzl
  have vlb := cV_len hxlb hylb hzlb
  have vtb := cV_take hxlb hylb hzlb
  have v1b : (cV x' y' z').take 4 = cI x' := cV_x hxlb
  have v2b := cV_y (z := z') hxlb hylb
  have v3b := cV_z hxlb hylb hzlb
  have iz : intsOf .u64 [AV.d (.int .u64 0), AV.d (.int .u64 0), AV.d (.int .u64 0), AV.d (.int .u64 0)] = some zI := ints_cI zI
  have f0 := isZero_ex x y z hx hy hz
  have f0b := isZero_ex x' y' z' hx' hy' hz'
  have wd : (cV zI zI zI).drop 12 = [] := cV_drop rfl rfl rfl
  have wl : (cV zI zI zI).length = 12 := rfl
  have ul := cV_len l26 l27 l28
  have ut := cV_take l26 l27 l28
  have ul2 := cV_len l29 l30 l31
  have ut2 := cV_take l29 l30 l31
  by_cases q1 : z = zI
  · have vv : isJ x y z → isJ x' y' z' → isJ x' y' z' ∧ JV x' y' z' = sum fd (JV x y z) (JV x' y' z') := by
      intro _ hj'
      refine ⟨hj', ?_⟩
      rw [q1, JV_0, sum_none fd hj'.2]
    refine ⟨x', y', z', hx', hy', hz', vv, ?_⟩
    refine fna Tryz.func169 Tryz.ntmps169 (rs := [.cell 4 199]) (two_cV _ _ _ _ _ _) ?_
    simp [go_sem, vl, vt, vlb, vtb]
    refine cl_eq f0 (one_cV _ _ _) ?_
    simp [go_sem, q1, vlb, vtb, wd, wl, resV]
    exact post_v rfl
  by_cases q2 : z' = zI
  · have vv : isJ x y z → isJ x' y' z' → isJ x y z ∧ JV x y z = sum fd (JV x y z) (JV x' y' z') := by
      intro hj _
      refine ⟨hj, ?_⟩
      rw [q2, JV_0, none_sum fd hj.2]
    refine ⟨x, y, z, hx, hy, hz, vv, ?_⟩
    refine fna Tryz.func169 Tryz.ntmps169 (rs := [.cell 4 199]) (two_cV _ _ _ _ _ _) ?_
    simp [go_sem, vl, vt, vlb, vtb]
    refine cl_eq f0 (one_cV _ _ _) ?_
    simp [go_sem, q1, vl, vt, vlb, vtb]
    refine cl_eq f0b (one_cV _ _ _) ?_
    simp [go_sem, q2, vl, vt, wd, wl, resV]
    exact post_v rfl
  have key : isJ x y z → isJ x' y' z' → (FV h ≠ 0 → JV X Y Z = sum fd (JV x y z) (JV x' y' z')) ∧ (FV h = 0 → FV r = 0 → JV x y z = JV x' y' z') ∧ (FV h = 0 → FV r ≠ 0 → sum fd (JV x y z) (JV x' y' z') = none) := by
    intro hj hj'
    have hz0 : FV z ≠ 0 := fun h => q1 ((FV_zero hz hj.1.2.2).1 h)
    have hz0' : FV z' ≠ 0 := fun h => q2 ((FV_zero hz' hj'.1.2.2).1 h)
    have k1 : FV u1 = FV x * (FV z' * FV z') := by rw [g4.2, g2.2]
    have k2 : FV u2 = FV x' * (FV z * FV z) := by rw [g5.2, g1.2]
    have k3 : FV s1 = FV y * (FV z' * FV z' * FV z') := by rw [g7.2, g6.2, g2.2]
    have k4 : FV s2 = FV y' * (FV z * FV z * FV z) := by rw [g9.2, g8.2, g1.2]
    obtain ⟨j1, j2, j3⟩ := jac_plus fd hz0 hz0' hj.2 hj'.2 k1 k2 k3 k4 g11.2 g12.2
    refine ⟨fun hh0 => ?_, j2, j3⟩
    have n2 : FV [2, 0, 0, 0] = 2 := FV_n 2 (by omega)
    have eX : FV X = FV r * FV r - FV h * FV h * FV h - 2 * (FV u1 * (FV h * FV h)) := by
      rw [g18.2, g17.2, g16.2, g14.2, g13.2, g20.2, g15.2, g13.2, n2]
    have eY : FV Y = FV r * (FV u1 * (FV h * FV h) - (FV r * FV r - FV h * FV h * FV h - 2 * (FV u1 * (FV h * FV h)))) - FV s1 * (FV h * FV h * FV h) := by
      rw [g19.2, g22.2, g21.2, eX, g24.2, g15.2, g14.2, g13.2]
    have eZ : FV Z = FV h * (FV z * FV z') := by rw [g23.2, g25.2]
    show jac fd (FV X) (FV Y) (FV Z) = _
    rw [eX, eY, eZ]
    exact j1 hh0
  obtain ⟨Ua, Va, Wa, hU, hV, hW, vv, e1, e2, e3⟩ : ∃ (Ua Va Wa : List Int), Wn 4 Ua ∧ Wn 4 Va ∧ Wn 4 Wa ∧ (isJ x y z → isJ x' y' z' → isJ Ua Va Wa ∧ JV Ua Va Wa = sum fd (JV x y z) (JV x' y' z')) ∧ (h = zI → r = zI → (du = Ua ∧ dv = Va ∧ dw = Wa)) ∧ (h = zI → r ≠ zI → (wu = Ua ∧ wv = Va ∧ ww = Wa)) ∧ (h ≠ zI → (X = Ua ∧ Y = Va ∧ Z = Wa)) := by
    have fz : ∀ {l : List Int}, l = zI → FV l = 0 := fun h => by rw [h, FV_z]
    by_cases q3 : h = zI
    · by_cases q4 : r = zI
      · refine ⟨du, dv, dw, h29, h30, h31, fun hj hj' => ?_, fun _ _ => ⟨rfl, rfl, rfl⟩, fun _ h => absurd q4 h, fun h => absurd q3 h⟩
        obtain ⟨m1, m2⟩ := g29 hj
        refine ⟨m1, ?_⟩
        rw [m2, ← (key hj hj').2.1 (fz q3) (fz q4)]
      · refine ⟨wu, wv, ww, h26, h27, h28, fun hj hj' => ?_, fun _ h => absurd h q4, fun _ _ => ⟨rfl, rfl, rfl⟩, fun h => absurd q3 h⟩
        obtain ⟨m1, m2⟩ := g26 isPt_z
        refine ⟨m1, ?_⟩
        rw [m2, PV_z, (key hj hj').2.2 (fz q3) (fun h => q4 ((FV_zero h12 g12.1).1 h))]
    · refine ⟨X, Y, Z, h18, h19, h23, fun hj hj' => ?_, fun h => absurd h q3, fun h => absurd h q3, fun _ => ⟨rfl, rfl, rfl⟩⟩
      have e := (key hj hj').1 (fun h => q3 ((FV_zero h11 g11.1).1 h))
      exact ⟨⟨⟨g18.1, g19.1, g23.1⟩, by rw [e]; exact sum_on fd hj.2 hj'.2⟩, e⟩
  refine ⟨Ua, Va, Wa, hU, hV, hW, vv, ?_⟩
  refine fna Tryz.func169 Tryz.ntmps169 (rs := [.cell 4 199]) (two_cV _ _ _ _ _ _) ?_
  simp [go_sem, vl, vt, vlb, vtb]
  refine cl_eq f0 (one_cV _ _ _) ?_
  simp [go_sem, q1, vl, vt, vlb, vtb]
  refine cl_eq f0b (one_cV _ _ _) ?_
  simp [go_sem, q2, vl, vt, vlb, vtb, v1, v2, v3, v1b, v2b, v3b]
  refine drw3 [0,1,3,4] [2,5,6,7,8,9] [0,1,3,4] (.alt (.step 2 [] true (.alt (.step 5 [] false (.alt (.step 6 [] false (.step 7 [] false (.step 8 [] false (.step 9 [] false .done)))) (.step 7 [] false (.step 6 [] false (.step 8 [] false (.step 9 [] false .done)))))) (.alt (.step 6 [] true (.alt (.step 5 [] false (.step 7 [] false (.step 8 [] false (.step 9 [] false .done)))) (.step 7 [] true (.step 5 [] false (.step 8 [] false (.step 9 [] false .done)))))) (.step 7 [] true (.alt (.step 5 [] false (.step 6 [] false (.step 8 [] false (.step 9 [] false .done)))) (.step 6 [] true (.step 5 [] false (.step 8 [] false (.step 9 [] false .done))))))))) (.alt (.step 6 [] true (.alt (.step 2 [] true (.alt (.step 5 [] false (.step 7 [] false (.step 8 [] false (.step 9 [] false .done)))) (.step 7 [] true (.step 5 [] false (.step 8 [] false (.step 9 [] false .done)))))) (.step 7 [] true (.step 2 [] true (.step 5 [] false (.step 8 [] false (.step 9 [] false .done))))))) (.step 7 [] true (.alt (.step 2 [] true (.alt (.step 5 [] false (.step 6 [] false (.step 8 [] false (.step 9 [] false .done)))) (.step 6 [] true (.step 5 [] false (.step 8 [] false (.step 9 [] false .done)))))) (.step 6 [] true (.step 2 [] true (.step 5 [] false (.step 8 [] false (.step 9 [] false .done))))))))) ⟨[(2, .ptr 0 0 0 1), (3, .ptr 32 0 0 1), (4, .ptr 64 0 0 1), (5, .ptr 480 0 0 1), (6, .ptr 512 0 0 1)], [(512, ⟨160, 4, [cI qz2]⟩), (480, ⟨160, 4, [cI pz2]⟩), (64, ⟨199, 12, [cV zI zI zI]⟩), (32, ⟨199, 12, [cV x' y' z']⟩), (0, ⟨199, 12, [cV x y z]⟩)], 9000⟩ (k := 10) ?h3 ?hq
  case h3 =>
    intro G hG
    have hW : ∀ (fr : Fr) (hp : Hp), (fv 2 fr = .ptr 0 0 0 1 ∧ fv 3 fr = .ptr 32 0 0 1 ∧ fv 4 fr = .ptr 64 0 0 1 ∧ fv 5 fr = .ptr 480 0 0 1 ∧ fv 6 fr = .ptr 512 0 0 1 ∧ lk 512 hp = some ⟨160, 4, [cI qz2]⟩ ∧ lk 480 hp = some ⟨160, 4, [cI pz2]⟩ ∧ lk 64 hp = some ⟨199, 12, [cV zI zI zI]⟩ ∧ lk 32 hp = some ⟨199, 12, [cV x' y' z']⟩ ∧ lk 0 hp = some ⟨199, 12, [cV x y z]⟩) → G fr hp := by
      rintro fr hp ⟨q0, q1, q2, q3, q4, q5, q6, q7, q8, q9⟩
      exact hG _ _ wkA
    simp [go_sem, l1, l2, cI_take l1, cI_take l2, z4, v3, v3b, vl, vlb, SaW]
    repeat' first | exact hW _ _ ⟨rfl, rfl, rfl, rfl, rfl, rfl, rfl, rfl, rfl, rfl⟩ | (refine hW _ _ ?_; simp [fv, lk]; done) | refine cl_eq f1 (one_cI _) ?_ | refine cl_eq f2 (one_cI _) ?_ | apply And.intro | simp [go_sem, l1, l2, cI_take l1, cI_take l2, z4, v3, v3b, vl, vlb, SaW]
  case hq =>
    simp [go_sem]
    refine drw3 [0,1,2,4,5,6] [3,7,8,9,10,11] [0,1,2,4,5,6] (.alt (.step 3 [] true (.alt (.step 7 [] false (.alt (.step 8 [] false (.step 9 [] false (.step 10 [] false (.step 11 [] false .done)))) (.step 9 [] false (.step 8 [] false (.step 10 [] false (.step 11 [] false .done)))))) (.alt (.step 8 [] true (.alt (.step 7 [] false (.step 9 [] false (.step 10 [] false (.step 11 [] false .done)))) (.step 9 [] true (.step 7 [] false (.step 10 [] false (.step 11 [] false .done)))))) (.step 9 [] true (.alt (.step 7 [] false (.step 8 [] false (.step 10 [] false (.step 11 [] false .done)))) (.step 8 [] true (.step 7 [] false (.step 10 [] false (.step 11 [] false .done))))))))) (.alt (.step 8 [] true (.alt (.step 3 [] true (.alt (.step 7 [] false (.step 9 [] false (.step 10 [] false (.step 11 [] false .done)))) (.step 9 [] true (.step 7 [] false (.step 10 [] false (.step 11 [] false .done)))))) (.step 9 [] true (.step 3 [] true (.step 7 [] false (.step 10 [] false (.step 11 [] false .done))))))) (.step 9 [] true (.alt (.step 3 [] true (.alt (.step 7 [] false (.step 8 [] false (.step 10 [] false (.step 11 [] false .done)))) (.step 8 [] true (.step 7 [] false (.step 10 [] false (.step 11 [] false .done)))))) (.step 8 [] true (.step 3 [] true (.step 7 [] false (.step 10 [] false (.step 11 [] false .done))))))))) ⟨[(2, .ptr 0 0 0 1), (3, .ptr 32 0 0 1), (4, .ptr 64 0 0 1), (5, .ptr 480 0 0 1), (6, .ptr 512 0 0 1), (7, .ptr 9256 0 0 1), (8, .ptr 9288 0 0 1)], [(9288, ⟨160, 4, [cI u2]⟩), (9256, ⟨160, 4, [cI u1]⟩), (512, ⟨160, 4, [cI qz2]⟩), (480, ⟨160, 4, [cI pz2]⟩), (64, ⟨199, 12, [cV zI zI zI]⟩), (32, ⟨199, 12, [cV x' y' z']⟩), (0, ⟨199, 12, [cV x y z]⟩)], 20000⟩ (k := 12) ?h3 ?hq
    case h3 =>
      intro G hG
      have hW : ∀ (fr : Fr) (hp : Hp), (fv 2 fr = .ptr 0 0 0 1 ∧ fv 3 fr = .ptr 32 0 0 1 ∧ fv 4 fr = .ptr 64 0 0 1 ∧ fv 5 fr = .ptr 480 0 0 1 ∧ fv 6 fr = .ptr 512 0 0 1 ∧ fv 7 fr = .ptr 9256 0 0 1 ∧ fv 8 fr = .ptr 9288 0 0 1 ∧ lk 9288 hp = some ⟨160, 4, [cI u2]⟩ ∧ lk 9256 hp = some ⟨160, 4, [cI u1]⟩ ∧ lk 512 hp = some ⟨160, 4, [cI qz2]⟩ ∧ lk 480 hp = some ⟨160, 4, [cI pz2]⟩ ∧ lk 64 hp = some ⟨199, 12, [cV zI zI zI]⟩ ∧ lk 32 hp = some ⟨199, 12, [cV x' y' z']⟩ ∧ lk 0 hp = some ⟨199, 12, [cV x y z]⟩) → G fr hp := by
        rintro fr hp ⟨q0, q1, q2, q3, q4, q5, q6, q7, q8, q9, q10, q11, q12, q13⟩
        exact hG _ _ wkA
      simp [go_sem, l1, l2, l4, l5, cI_take l1, cI_take l2, cI_take l4, cI_take l5, z4, v1, v1b, vl, vlb, SaW]
      repeat' first | exact hW _ _ ⟨rfl, rfl, rfl, rfl, rfl, rfl, rfl, rfl, rfl, rfl, rfl, rfl, rfl, rfl⟩ | (refine hW _ _ ?_; simp [fv, lk]; done) | refine cl_eq f4 (two_cI _ _) ?_ | refine cl_eq f5 (two_cI _ _) ?_ | apply And.intro | simp [go_sem, l1, l2, l4, l5, cI_take l1, cI_take l2, cI_take l4, cI_take l5, z4, v1, v1b, vl, vlb, SaW]
    case hq =>
      simp [go_sem]
      refine drw3 [0,1,2,3,4,7,8,9,10,11] [5,6,12,13,14,15,16,17] [0,1,2,3,4,7,8,9,10,11] (.alt (.step 5 [] true (.alt (.step 6 [] true (.alt (.step 12 [] true (.alt (.step 13 [] false (.alt (.step 14 [] false (.step 15 [] false (.step 16 [] false (.step 17 [] false .done)))) (.step 15 [] false (.step 14 [] false (.step 16 [] false (.step 17 [] false .done)))))) (.alt (.step 14 [] true (.alt (.step 13 [] false (.step 15 [] false (.step 16 [] false (.step 17 [] false .done)))) (.step 15 [] true (.step 13 [] false (.step 16 [] false (.step 17 [] false .done)))))) (.step 15 [] true (.alt (.step 13 [] false (.step 14 [] false (.step 16 [] false (.step 17 [] false .done)))) (.step 14 [] true (.step 13 [] false (.step 16 [] false (.step 17 [] false .done))))))))) (.alt (.step 14 [] true (.alt (.step 12 [] true (.alt (.step 13 [] false (.step 15 [] false (.step 16 [] false (.step 17 [] false .done)))) (.step 15 [] true (.step 13 [] false (.step 16 [] false (.step 17 [] false .done)))))) (.step 15 [] true (.step 12 [] true (.step 13 [] false (.step 16 [] false (.step 17 [] false .done))))))) (.step 15 [] true (.alt (.step 12 [] true (.alt (.step 13 [] false (.step 14 [] false (.step 16 [] false (.step 17 [] false .done)))) (.step 14 [] true (.step 13 [] false (.step 16 [] false (.step 17 [] false .done)))))) (.step 14 [] true (.step 12 [] true (.step 13 [] false (.step 16 [] false (.step 17 [] false .done)))))))))) (.alt (.step 14 [] true (.alt (.step 6 [] true (.alt (.step 12 [] true (.alt (.step 13 [] false (.step 15 [] false (.step 16 [] false (.step 17 [] false .done)))) (.step 15 [] true (.step 13 [] false (.step 16 [] false (.step 17 [] false .done)))))) (.step 15 [] true (.step 12 [] true (.step 13 [] false (.step 16 [] false (.step 17 [] false .done))))))) (.step 15 [] true (.step 6 [] true (.step 12 [] true (.step 13 [] false (.step 16 [] false (.step 17 [] false .done)))))))) (.step 15 [] true (.alt (.step 6 [] true (.alt (.step 12 [] true (.alt (.step 13 [] false (.step 14 [] false (.step 16 [] false (.step 17 [] false .done)))) (.step 14 [] true (.step 13 [] false (.step 16 [] false (.step 17 [] false .done)))))) (.step 14 [] true (.step 12 [] true (.step 13 [] false (.step 16 [] false (.step 17 [] false .done))))))) (.step 14 [] true (.step 6 [] true (.step 12 [] true (.step 13 [] false (.step 16 [] false (.step 17 [] false .done))))))))))) (.alt (.step 14 [] true (.alt (.step 5 [] true (.alt (.step 6 [] true (.alt (.step 12 [] true (.alt (.step 13 [] false (.step 15 [] false (.step 16 [] false (.step 17 [] false .done)))) (.step 15 [] true (.step 13 [] false (.step 16 [] false (.step 17 [] false .done)))))) (.step 15 [] true (.step 12 [] true (.step 13 [] false (.step 16 [] false (.step 17 [] false .done))))))) (.step 15 [] true (.step 6 [] true (.step 12 [] true (.step 13 [] false (.step 16 [] false (.step 17 [] false .done)))))))) (.step 15 [] true (.step 5 [] true (.step 6 [] true (.step 12 [] true (.step 13 [] false (.step 16 [] false (.step 17 [] false .done))))))))) (.step 15 [] true (.alt (.step 5 [] true (.alt (.step 6 [] true (.alt (.step 12 [] true (.alt (.step 13 [] false (.step 14 [] false (.step 16 [] false (.step 17 [] false .done)))) (.step 14 [] true (.step 13 [] false (.step 16 [] false (.step 17 [] false .done)))))) (.step 14 [] true (.step 12 [] true (.step 13 [] false (.step 16 [] false (.step 17 [] false .done))))))) (.step 14 [] true (.step 6 [] true (.step 12 [] true (.step 13 [] false (.step 16 [] false (.step 17 [] false .done)))))))) (.step 14 [] true (.step 5 [] true (.step 6 [] true (.step 12 [] true (.step 13 [] false (.step 16 [] false (.step 17 [] false .done))))))))))) ⟨[(2, .ptr 0 0 0 1), (3, .ptr 32 0 0 1), (4, .ptr 64 0 0 1), (7, .ptr 9256 0 0 1), (8, .ptr 9288 0 0 1), (9, .ptr 20448 0 0 1), (10, .ptr 20480 0 0 1)], [(20480, ⟨160, 4, [cI s2]⟩), (20448, ⟨160, 4, [cI s1]⟩), (9288, ⟨160, 4, [cI u2]⟩), (9256, ⟨160, 4, [cI u1]⟩), (64, ⟨199, 12, [cV zI zI zI]⟩), (32, ⟨199, 12, [cV x' y' z']⟩), (0, ⟨199, 12, [cV x y z]⟩)], 30000⟩ (k := 18) ?h3 ?hq
      case h3 =>
        intro G hG
        have hW : ∀ (fr : Fr) (hp : Hp), (fv 2 fr = .ptr 0 0 0 1 ∧ fv 3 fr = .ptr 32 0 0 1 ∧ fv 4 fr = .ptr 64 0 0 1 ∧ fv 7 fr = .ptr 9256 0 0 1 ∧ fv 8 fr = .ptr 9288 0 0 1 ∧ fv 9 fr = .ptr 20448 0 0 1 ∧ fv 10 fr = .ptr 20480 0 0 1 ∧ lk 20480 hp = some ⟨160, 4, [cI s2]⟩ ∧ lk 20448 hp = some ⟨160, 4, [cI s1]⟩ ∧ lk 9288 hp = some ⟨160, 4, [cI u2]⟩ ∧ lk 9256 hp = some ⟨160, 4, [cI u1]⟩ ∧ lk 64 hp = some ⟨199, 12, [cV zI zI zI]⟩ ∧ lk 32 hp = some ⟨199, 12, [cV x' y' z']⟩ ∧ lk 0 hp = some ⟨199, 12, [cV x y z]⟩) → G fr hp := by
          rintro fr hp ⟨q0, q1, q2, q3, q4, q5, q6, q7, q8, q9, q10, q11, q12, q13⟩
          exact hG _ _ wkA
        simp [go_sem, l1, l2, l7, l9, cI_take l1, cI_take l2, cI_take l7, cI_take l9, z4, v2, v2b, v3, v3b, vl, vlb, SaW]
        repeat' first | exact hW _ _ ⟨rfl, rfl, rfl, rfl, rfl, rfl, rfl, rfl, rfl, rfl, rfl, rfl, rfl, rfl⟩ | (refine hW _ _ ?_; simp [fv, lk]; done) | refine cl_eq f6 (two_cI _ _) ?_ | refine cl_eq f7 (two_cI _ _) ?_ | refine cl_eq f8 (two_cI _ _) ?_ | refine cl_eq f9 (two_cI _ _) ?_ | apply And.intro | simp [go_sem, l1, l2, l7, l9, cI_take l1, cI_take l2, cI_take l7, cI_take l9, z4, v2, v2b, v3, v3b, vl, vlb, SaW]
      case hq =>
        simp [go_sem]
        refine drw3 [0,1,3,4] [2,5,6,7,8,9] [0,1,3,4] (.alt (.step 2 [] true (.alt (.step 5 [] false (.alt (.step 6 [] false (.step 7 [] false (.step 8 [] false (.step 9 [] false .done)))) (.step 7 [] false (.step 6 [] false (.step 8 [] false (.step 9 [] false .done)))))) (.alt (.step 6 [] true (.alt (.step 5 [] false (.step 7 [] false (.step 8 [] false (.step 9 [] false .done)))) (.step 7 [] true (.step 5 [] false (.step 8 [] false (.step 9 [] false .done)))))) (.step 7 [] true (.alt (.step 5 [] false (.step 6 [] false (.step 8 [] false (.step 9 [] false .done)))) (.step 6 [] true (.step 5 [] false (.step 8 [] false (.step 9 [] false .done))))))))) (.alt (.step 6 [] true (.alt (.step 2 [] true (.alt (.step 5 [] false (.step 7 [] false (.step 8 [] false (.step 9 [] false .done)))) (.step 7 [] true (.step 5 [] false (.step 8 [] false (.step 9 [] false .done)))))) (.step 7 [] true (.step 2 [] true (.step 5 [] false (.step 8 [] false (.step 9 [] false .done))))))) (.step 7 [] true (.alt (.step 2 [] true (.alt (.step 5 [] false (.step 6 [] false (.step 8 [] false (.step 9 [] false .done)))) (.step 6 [] true (.step 5 [] false (.step 8 [] false (.step 9 [] false .done)))))) (.step 6 [] true (.step 2 [] true (.step 5 [] false (.step 8 [] false (.step 9 [] false .done))))))))) ⟨[(2, .ptr 0 0 0 1), (3, .ptr 32 0 0 1), (4, .ptr 64 0 0 1), (7, .ptr 9256 0 0 1), (9, .ptr 20448 0 0 1), (11, .ptr 30192 0 0 1), (12, .ptr 30224 0 0 1)], [(30224, ⟨160, 4, [cI r]⟩), (30192, ⟨160, 4, [cI h]⟩), (20448, ⟨160, 4, [cI s1]⟩), (9256, ⟨160, 4, [cI u1]⟩), (64, ⟨199, 12, [cV zI zI zI]⟩), (32, ⟨199, 12, [cV x' y' z']⟩), (0, ⟨199, 12, [cV x y z]⟩)], 40000⟩ (k := 10) ?h3 ?hq
        case h3 =>
          intro G hG
          have hW : ∀ (fr : Fr) (hp : Hp), (fv 2 fr = .ptr 0 0 0 1 ∧ fv 3 fr = .ptr 32 0 0 1 ∧ fv 4 fr = .ptr 64 0 0 1 ∧ fv 7 fr = .ptr 9256 0 0 1 ∧ fv 9 fr = .ptr 20448 0 0 1 ∧ fv 11 fr = .ptr 30192 0 0 1 ∧ fv 12 fr = .ptr 30224 0 0 1 ∧ lk 30224 hp = some ⟨160, 4, [cI r]⟩ ∧ lk 30192 hp = some ⟨160, 4, [cI h]⟩ ∧ lk 20448 hp = some ⟨160, 4, [cI s1]⟩ ∧ lk 9256 hp = some ⟨160, 4, [cI u1]⟩ ∧ lk 64 hp = some ⟨199, 12, [cV zI zI zI]⟩ ∧ lk 32 hp = some ⟨199, 12, [cV x' y' z']⟩ ∧ lk 0 hp = some ⟨199, 12, [cV x y z]⟩) → G fr hp := by
            rintro fr hp ⟨q0, q1, q2, q3, q4, q5, q6, q7, q8, q9, q10, q11, q12, q13⟩
            exact hG _ _ wkA
          simp [go_sem, l4, l5, l7, l9, l11, l12, cI_take l4, cI_take l5, cI_take l7, cI_take l9, cI_take l11, cI_take l12, z4, SaW]
          repeat' first | exact hW _ _ ⟨rfl, rfl, rfl, rfl, rfl, rfl, rfl, rfl, rfl, rfl, rfl, rfl, rfl, rfl⟩ | (refine hW _ _ ?_; simp [fv, lk]; done) | refine cl_eq f11 (two_cI _ _) ?_ | refine cl_eq f12 (two_cI _ _) ?_ | apply And.intro | simp [go_sem, l4, l5, l7, l9, l11, l12, cI_take l4, cI_take l5, cI_take l7, cI_take l9, cI_take l11, cI_take l12, z4, SaW]
        case hq =>
          by_cases q3 : h = zI
          · by_cases q4 : r = zI
            · obtain ⟨rfl, rfl, rfl⟩ := e1 q3 q4
              simp [go_sem, l11, l12, ints_cI, iz, cI_take l11, cI_take l12]
              refine ⟨fun _ => ⟨fun _ => ?_, fun h => absurd q4 h⟩, fun h => absurd q3 h⟩
              simp [go_sem, vl, vt]
              refine cl_eq f29 (one_cV _ _ _) ?_
              simp [go_sem, ul2, ut2, wd, wl, resV]
              exact post_v rfl
            · obtain ⟨rfl, rfl, rfl⟩ := e2 q3 q4
              simp [go_sem, l11, l12, ints_cI, iz, cI_take l11, cI_take l12]
              refine ⟨fun _ => ⟨fun h => absurd h q4, fun _ => ?_⟩, fun h => absurd q3 h⟩
              refine cl_eq zero_fn (by simp) ?_
              simp [go_sem]
              refine cl_eq f26 (one_cP _ _ _) ?_
              simp [go_sem, ul, ut, wd, wl, resV]
              exact post_v rfl
          obtain ⟨rfl, rfl, rfl⟩ := e3 q3
          simp [go_sem, l11, l12, ints_cI, iz, cI_take l11, cI_take l12]
          refine ⟨fun h => absurd h q3, fun _ => ?_⟩
          refine cl_eq f13 (one_cI _) ?_
          simp [go_sem, l11, l13, cI_take l11, cI_take l13, z4]
          refine cl_eq f14 (two_cI _ _) ?_
          simp [go_sem, l4, l13, l14, cI_take l4, cI_take l13, cI_take l14, z4]
          refine cl_eq f15 (two_cI _ _) ?_
          simp [go_sem, l15, cI_take l15, z4]
          refine drw3 [0,2,4] [1,3,5,6,7,8] [0,2,4] (.alt (.step 1 [] true (.alt (.step 3 [] true (.alt (.step 5 [] false (.alt (.step 6 [] false (.step 7 [] false (.step 8 [] false .done))) (.step 7 [] false (.step 6 [] false (.step 8 [] false .done))))) (.step 7 [] true (.step 5 [] false (.step 6 [] false (.step 8 [] false .done)))))) (.step 7 [] true (.step 3 [] true (.step 5 [] false (.step 6 [] false (.step 8 [] false .done))))))) (.step 7 [] true (.step 1 [] true (.step 3 [] true (.step 5 [] false (.step 6 [] false (.step 8 [] false .done))))))) ⟨[(2, .ptr 0 0 0 1), (3, .ptr 32 0 0 1), (4, .ptr 64 0 0 1), (9, .ptr 20448 0 0 1), (11, .ptr 30192 0 0 1), (12, .ptr 30224 0 0 1), (14, .ptr 40320 0 0 1), (15, .ptr 40480 0 0 1), (16, .ptr 40768 0 0 1)], [(40768, ⟨160, 4, [cI X]⟩), (40480, ⟨160, 4, [cI v]⟩), (40320, ⟨160, 4, [cI h3]⟩), (30224, ⟨160, 4, [cI r]⟩), (30192, ⟨160, 4, [cI h]⟩), (20448, ⟨160, 4, [cI s1]⟩), (64, ⟨199, 12, [cV zI zI zI]⟩), (32, ⟨199, 12, [cV x' y' z']⟩), (0, ⟨199, 12, [cV x y z]⟩)], 50000⟩ (k := 9) ?h3 ?hq
          case h3 =>
            intro G hG
            have hW : ∀ (fr : Fr) (hp : Hp), (fv 2 fr = .ptr 0 0 0 1 ∧ fv 3 fr = .ptr 32 0 0 1 ∧ fv 4 fr = .ptr 64 0 0 1 ∧ fv 9 fr = .ptr 20448 0 0 1 ∧ fv 11 fr = .ptr 30192 0 0 1 ∧ fv 12 fr = .ptr 30224 0 0 1 ∧ fv 14 fr = .ptr 40320 0 0 1 ∧ fv 15 fr = .ptr 40480 0 0 1 ∧ fv 16 fr = .ptr 40768 0 0 1 ∧ lk 40768 hp = some ⟨160, 4, [cI X]⟩ ∧ lk 40480 hp = some ⟨160, 4, [cI v]⟩ ∧ lk 40320 hp = some ⟨160, 4, [cI h3]⟩ ∧ lk 30224 hp = some ⟨160, 4, [cI r]⟩ ∧ lk 30192 hp = some ⟨160, 4, [cI h]⟩ ∧ lk 20448 hp = some ⟨160, 4, [cI s1]⟩ ∧ lk 64 hp = some ⟨199, 12, [cV zI zI zI]⟩ ∧ lk 32 hp = some ⟨199, 12, [cV x' y' z']⟩ ∧ lk 0 hp = some ⟨199, 12, [cV x y z]⟩) → G fr hp := by
              rintro fr hp ⟨q0, q1, q2, q3, q4, q5, q6, q7, q8, q9, q10, q11, q12, q13, q14, q15, q16, q17⟩
              exact hG _ _ wkA
            simp [go_sem, l12, l14, l15, l18, cI_take l12, cI_take l14, cI_take l15, cI_take l18, z4, SaW]
            repeat' first | exact hW _ _ ⟨rfl, rfl, rfl, rfl, rfl, rfl, rfl, rfl, rfl, rfl, rfl, rfl, rfl, rfl, rfl, rfl, rfl, rfl⟩ | (refine hW _ _ ?_; simp [fv, lk]; done) | refine cl_eq f16 (one_cI _) ?_ | refine cl_eq f17 (two_cI _ _) ?_ | refine cl_eq f20 (lw_deep _ _) ?_ | refine cl_eq f18 (two_cI _ _) ?_ | apply And.intro | simp [go_sem, l12, l14, l15, l18, cI_take l12, cI_take l14, cI_take l15, cI_take l18, z4, SaW]
          case hq =>
            simp [go_sem]
            refine drw3 [0,1,2,5,6] [3,4,7,8,9,10] [0,1,2,5,6] (.alt (.step 3 [] true (.alt (.step 4 [] true (.alt (.step 7 [] false (.alt (.step 8 [] false (.step 9 [] false (.step 10 [] false .done))) (.step 9 [] false (.step 8 [] false (.step 10 [] false .done))))) (.step 9 [] true (.step 7 [] false (.step 8 [] false (.step 10 [] false .done)))))) (.step 9 [] true (.step 4 [] true (.step 7 [] false (.step 8 [] false (.step 10 [] false .done))))))) (.step 9 [] true (.step 3 [] true (.step 4 [] true (.step 7 [] false (.step 8 [] false (.step 10 [] false .done))))))) ⟨[(2, .ptr 0 0 0 1), (3, .ptr 32 0 0 1), (4, .ptr 64 0 0 1), (11, .ptr 30192 0 0 1), (16, .ptr 40768 0 0 1), (17, .ptr 50288 0 0 1)], [(50288, ⟨160, 4, [cI Y]⟩), (40768, ⟨160, 4, [cI X]⟩), (30192, ⟨160, 4, [cI h]⟩), (64, ⟨199, 12, [cV zI zI zI]⟩), (32, ⟨199, 12, [cV x' y' z']⟩), (0, ⟨199, 12, [cV x y z]⟩)], 60000⟩ (k := 11) ?h3 ?hq
            case h3 =>
              intro G hG
              have hW : ∀ (fr : Fr) (hp : Hp), (fv 2 fr = .ptr 0 0 0 1 ∧ fv 3 fr = .ptr 32 0 0 1 ∧ fv 4 fr = .ptr 64 0 0 1 ∧ fv 11 fr = .ptr 30192 0 0 1 ∧ fv 16 fr = .ptr 40768 0 0 1 ∧ fv 17 fr = .ptr 50288 0 0 1 ∧ lk 50288 hp = some ⟨160, 4, [cI Y]⟩ ∧ lk 40768 hp = some ⟨160, 4, [cI X]⟩ ∧ lk 30192 hp = some ⟨160, 4, [cI h]⟩ ∧ lk 64 hp = some ⟨199, 12, [cV zI zI zI]⟩ ∧ lk 32 hp = some ⟨199, 12, [cV x' y' z']⟩ ∧ lk 0 hp = some ⟨199, 12, [cV x y z]⟩) → G fr hp := by
                rintro fr hp ⟨q0, q1, q2, q3, q4, q5, q6, q7, q8, q9, q10, q11⟩
                exact hG _ _ wkA
              simp [go_sem, l7, l12, l14, l15, l18, l19, cI_take l7, cI_take l12, cI_take l14, cI_take l15, cI_take l18, cI_take l19, z4, SaW]
              repeat' first | exact hW _ _ ⟨rfl, rfl, rfl, rfl, rfl, rfl, rfl, rfl, rfl, rfl, rfl, rfl⟩ | (refine hW _ _ ?_; simp [fv, lk]; done) | refine cl_eq f21 (two_cI _ _) ?_ | refine cl_eq f22 (two_cI _ _) ?_ | refine cl_eq f24 (two_cI _ _) ?_ | refine cl_eq f19 (two_cI _ _) ?_ | apply And.intro | simp [go_sem, l7, l12, l14, l15, l18, l19, cI_take l7, cI_take l12, cI_take l14, cI_take l15, cI_take l18, cI_take l19, z4, SaW]
            case hq =>
              simp only [go_sem, Nat.reduceEqDiff, Nat.reduceAdd, Nat.reduceLT, ↓reduceIte]
              refine drw2 [0,1,2,3,4,5,6] [(7, []),(8, [9]),(10, [])] 2 (k := 11) ?_
              intro G hG
              simp [go_sem, l18, l19, l11, cI_take l18, cI_take l19, cI_take l11, v3, v3b, vl, vlb]
              refine cl_eq f25 (two_cI _ _) ?_
              simp [go_sem]
              refine cl_eq f23 (two_cI _ _) ?_
              have ev : cI X ++ (cI Y ++ cI Z) = cV X Y Z := rfl
              have xl := cV_len l18 l19 l23
              have xt := cV_take l18 l19 l23
              simp [go_sem, l18, l19, l23, wl, wd, mk8 l18 l19, mk12 l18 l19, ev, xl, SaW]
              refine hG _ _ ?_
              simp [go_sem, xl, xt, resV]
              exact post_v rfl
abbrev T3 := List Int × List Int × List Int
def W3 (s : T3) : Prop := Wn 4 s.1 ∧ Wn 4 s.2.1 ∧ Wn 4 s.2.2
def isJ3 (s : T3) : Prop := isJ s.1 s.2.1 s.2.2
noncomputable def JV3 (s : T3) : Pt pP := JV s.1 s.2.1 s.2.2
theorem dblF : ∃ D : T3 → T3, ∀ s, W3 s → W3 (D s) ∧ (isJ3 s → isJ3 (D s) ∧ JV3 (D s) = sum fd (JV3 s) (JV3 s)) ∧ Rets Tryz.prog 171 [.agg (cV s.1 s.2.1 s.2.2)] (fun r => r = .agg (cV (D s).1 (D s).2.1 (D s).2.2)) :=
  pick (α := T3) (β := T3) (A := W3) (B := fun s t => W3 t ∧ (isJ3 s → isJ3 t ∧ JV3 t = sum fd (JV3 s) (JV3 s)) ∧ Rets Tryz.prog 171 [.agg (cV s.1 s.2.1 s.2.2)] (fun r => r = .agg (cV t.1 t.2.1 t.2.2))) (fun s hs => by
    obtain ⟨u, v, w, h1, h2, h3, hv, h4⟩ := doubled_ex s.1 s.2.1 s.2.2 hs.1 hs.2.1 hs.2.2
    exact ⟨(u, v, w), ⟨h1, h2, h3⟩, hv, h4⟩)
theorem plusF : ∃ D : T3 × T3 → T3, ∀ s, (W3 s.1 ∧ W3 s.2) → W3 (D s) ∧ (isJ3 s.1 → isJ3 s.2 → isJ3 (D s) ∧ JV3 (D s) = sum fd (JV3 s.1) (JV3 s.2)) ∧ Rets Tryz.prog 169 [.agg (cV s.1.1 s.1.2.1 s.1.2.2), .agg (cV s.2.1 s.2.2.1 s.2.2.2)] (fun r => r = .agg (cV (D s).1 (D s).2.1 (D s).2.2)) :=
  pick (α := T3 × T3) (β := T3) (A := fun s => W3 s.1 ∧ W3 s.2) (B := fun s t => W3 t ∧ (isJ3 s.1 → isJ3 s.2 → isJ3 t ∧ JV3 t = sum fd (JV3 s.1) (JV3 s.2)) ∧ Rets Tryz.prog 169 [.agg (cV s.1.1 s.1.2.1 s.1.2.2), .agg (cV s.2.1 s.2.2.1 s.2.2.2)] (fun r => r = .agg (cV t.1 t.2.1 t.2.2))) (fun s hs => by
    obtain ⟨u, v, w, h1, h2, h3, hv, h4⟩ := plus_ex s.1.1 s.1.2.1 s.1.2.2 s.2.1 s.2.2.1 s.2.2.2 hs.1.1 hs.1.2.1 hs.1.2.2 hs.2.1 hs.2.2.1 hs.2.2.2
    exact ⟨(u, v, w), ⟨h1, h2, h3⟩, hv, h4⟩)
theorem bitF : ∃ D : List Int × Nat → Bool, ∀ s, (Wn 4 s.1 ∧ s.2 < 256) → (D s = true ↔ (V s.1).toNat / 2 ^ s.2 % 2 = 1) ∧ Rets Tryz.prog 172 [.agg (cI s.1), .d (.int .i64 (s.2 : Int))] (fun r => r = .d (.bool (D s))) :=
  pick (α := List Int × Nat) (β := Bool) (A := fun s => Wn 4 s.1 ∧ s.2 < 256) (B := fun s t => (t = true ↔ (V s.1).toNat / 2 ^ s.2 % 2 = 1) ∧ Rets Tryz.prog 172 [.agg (cI s.1), .d (.int .i64 (s.2 : Int))] (fun r => r = .d (.bool t))) (fun s hs => bit_ex s.1 s.2 hs.1 hs.2)
def stpO (D : T3 → T3) (A : T3 × T3 → T3) (B : List Int × Nat → Bool) (a b : List Int) (M : Nat) (one two both : T3) (k : Nat) (s : T3) : T3 :=
  if B (a, M - 1 - k) then (if B (b, M - 1 - k) then A (D s, both) else A (D s, one)) else (if B (b, M - 1 - k) then A (D s, two) else D s)
theorem both_step {P Q : Pt pP} (hP : onC P) (hQ : onC Q) (a b : Nat) :
    sum fd (sum fd (mp fd a P) (mp fd b Q)) (sum fd (mp fd a P) (mp fd b Q)) = sum fd (mp fd (2 * a) P) (mp fd (2 * b) Q) ∧
    sum fd (sum fd (mp fd (2 * a) P) (mp fd (2 * b) Q)) P = sum fd (mp fd (2 * a + 1) P) (mp fd (2 * b) Q) ∧
    sum fd (sum fd (mp fd (2 * a) P) (mp fd (2 * b) Q)) Q = sum fd (mp fd (2 * a) P) (mp fd (2 * b + 1) Q) ∧
    sum fd (sum fd (mp fd (2 * a) P) (mp fd (2 * b) Q)) (sum fd P Q) = sum fd (mp fd (2 * a + 1) P) (mp fd (2 * b + 1) Q) := by
  have a1 := mp_on fd hP a
  have b1 := mp_on fd hQ b
  have a2 := mp_on fd hP (2 * a)
  have b2 := mp_on fd hQ (2 * b)
  refine ⟨?_, ?_, ?_, ?_⟩
  · rw [sum4 fd a1 b1 a1 b1, mp_two fd hP, mp_two fd hQ]
  · rw [mp, sum_assoc fd a2 b2 hP, sum_comm fd (mp fd (2 * b) Q) P, ← sum_assoc fd a2 hP b2]
  · rw [mp, sum_assoc fd a2 b2 hQ]
  · rw [mp, mp, sum4 fd a2 b2 hP hQ]
theorem half_step (N M k : Nat) (h : k < M) : N / 2 ^ (M - (k + 1)) = 2 * (N / 2 ^ (M - k)) + N / 2 ^ (M - 1 - k) % 2 := by
  have e : M - k = (M - 1 - k) + 1 := by omega
  have e2 : M - (k + 1) = M - 1 - k := by omega
  rw [e, e2, Nat.pow_succ, ← Nat.div_div_eq_div_mul]
  omega
theorem four_d (a b : List Int) (x y x' y' : List Int) (c c' : Bool) : ∀ v, v ∈ [AV.agg (cI a), AV.agg (cP x y c), AV.agg (cI b), AV.agg (cP x' y' c')] → v.deep := by
  intro v hv; simp at hv
  rcases hv with rfl | rfl | rfl | rfl
  · exact cI_deepA _
  · exact cP_deep _ _ _
  · exact cI_deepA _
  · exact cP_deep _ _ _
theorem wi2_deep (n : List Int) (m : Int) : ∀ v, v ∈ [AV.agg (cI n), AV.d (.int .i64 m)] → v.deep := by
  intro v hv; simp at hv; rcases hv with rfl | rfl; exact cI_deepA _; trivial
theorem both_ex (a b x y x' y' : List Int) (c c' : Bool) (ha : Wn 4 a) (hb : Wn 4 b) (hx : Wn 4 x) (hy : Wn 4 y) (hx' : Wn 4 x') (hy' : Wn 4 y') : ∃ (u v : List Int) (o : Bool), Wn 4 u ∧ Wn 4 v ∧ (isPt x y c → isPt x' y' c' → isPt u v o ∧ PV u v o = sum fd (mp fd (V a).toNat (PV x y c)) (mp fd (V b).toNat (PV x' y' c'))) ∧ Rets Tryz.prog 123 [.agg (cI a), .agg (cP x y c), .agg (cI b), .agg (cP x' y' c')] (fun r => r = .agg (cP u v o)) := by
  obtain ⟨D, hD⟩ := dblF
  obtain ⟨A, hA⟩ := plusF
  obtain ⟨B, hB⟩ := bitF
  obtain ⟨p1, p2, p3, hp1, hp2, tv1, t1⟩ := taken_ex x y c hx hy
  obtain ⟨u1, v1, w1, hu1, hv1, hw1, wv1, g1⟩ := weigh_ex p1 p2 p3 hp1 hp2
  obtain ⟨r1, r2, r3, hr1, hr2, tv2, t2⟩ := taken_ex x' y' c' hx' hy'
  obtain ⟨u2, v2, w2, hu2, hv2, hw2, wv2, g2⟩ := weigh_ex r1 r2 r3 hr1 hr2
  obtain ⟨u3, v3, w3, hu3, hv3, hw3, wv3, f3⟩ := plus_ex u1 v1 w1 u2 v2 w2 hu1 hv1 hw1 hu2 hv2 hw2
  obtain ⟨u4, v4, w4, hu4, hv4, hw4, wv4, f4⟩ := weigh_ex zI zI true zI_W zI_W
  obtain ⟨La, hLa, vLa, f5⟩ := wlen_ex a ha
  obtain ⟨Lb, hLb, vLb, f6⟩ := wlen_ex b hb
  obtain ⟨M, hM⟩ : ∃ M, M = max La Lb := ⟨_, rfl⟩
  have hM2 : M ≤ 256 := by omega
  have hone : W3 (u1, v1, w1) := ⟨hu1, hv1, hw1⟩
  have htwo : W3 (u2, v2, w2) := ⟨hu2, hv2, hw2⟩
  have hboth : W3 (u3, v3, w3) := ⟨hu3, hv3, hw3⟩
  have hS : ∀ k, W3 (itr (stpO D A B a b M (u1, v1, w1) (u2, v2, w2) (u3, v3, w3)) (u4, v4, w4) k) := itr_inv (P := fun _ s => W3 s) ⟨hu4, hv4, hw4⟩ fun k s hs => by
    have hd := (hD s hs).1
    unfold stpO
    split
    · split
      · exact (hA _ ⟨hd, hboth⟩).1
      · exact (hA _ ⟨hd, hone⟩).1
    · split
      · exact (hA _ ⟨hd, htwo⟩).1
      · exact hd
  obtain ⟨u, v, o, hu, hv, vp, f7⟩ := plain_ex _ _ _ (hS M).1 (hS M).2.1 (hS M).2.2
  have vv : isPt x y c → isPt x' y' c' → isPt u v o ∧ PV u v o = sum fd (mp fd (V a).toNat (PV x y c)) (mp fd (V b).toNat (PV x' y' c')) := by
    intro i1 i2
    obtain ⟨q1, q2, q3⟩ := tv1.2.1 i1
    obtain ⟨q4, q5, q6⟩ := tv2.2.1 i2
    subst q1 q2 q3 q4 q5 q6
    have o1 := isPt_on i1
    have o2 := isPt_on i2
    obtain ⟨j1, e1⟩ := wv1 i1
    obtain ⟨j2, e2⟩ := wv2 i2
    obtain ⟨j3, e3⟩ := wv3 j1 j2
    obtain ⟨j4, e4⟩ := wv4 isPt_z
    have hbig : ∀ (w : List Int) (L : Nat), Wn 4 w → V w < 2 ^ L → L ≤ M → (V w).toNat / 2 ^ M = 0 := by
      intro w L hw hL hLM
      have h0 := (V_lt hw).1
      have h1 : (((V w).toNat : Nat) : Int) < ((2 ^ L : Nat) : Int) := by rw [Int.toNat_of_nonneg h0]; exact_mod_cast hL
      have h2 : (V w).toNat < 2 ^ L := by exact_mod_cast h1
      exact Nat.div_eq_of_lt (Nat.lt_of_lt_of_le h2 (Nat.pow_le_pow_right (by omega) hLM))
    have main : ∀ k, k ≤ M → isJ3 (itr (stpO D A B a b M (u1, v1, w1) (u2, v2, w2) (u3, v3, w3)) (u4, v4, w4) k) ∧ JV3 (itr (stpO D A B a b M (u1, v1, w1) (u2, v2, w2) (u3, v3, w3)) (u4, v4, w4) k) = sum fd (mp fd ((V a).toNat / 2 ^ (M - k)) (PV p1 p2 p3)) (mp fd ((V b).toNat / 2 ^ (M - k)) (PV r1 r2 r3)) := by
      intro k
      induction k with
      | zero =>
        intro _
        refine ⟨j4, ?_⟩
        rw [Nat.sub_zero, hbig a La ha vLa (by omega), hbig b Lb hb vLb (by omega)]
        show JV u4 v4 w4 = _
        rw [e4, PV_z]
        exact (sum_none fd (Q := none) True.intro).symm
      | succ k ih =>
        intro hk
        obtain ⟨i3, i4⟩ := ih (by omega)
        have hs := hS k
        rw [itr]
        generalize itr (stpO D A B a b M (u1, v1, w1) (u2, v2, w2) (u3, v3, w3)) (u4, v4, w4) k = s at *
        obtain ⟨d1, d2, _⟩ := hD s hs
        obtain ⟨d3, d4⟩ := d2 i3
        have ba := (hB (a, M - 1 - k) ⟨ha, by omega⟩).1
        have bb := (hB (b, M - 1 - k) ⟨hb, by omega⟩).1
        obtain ⟨s1, s2, s3, s4⟩ := both_step o1 o2 ((V a).toNat / 2 ^ (M - k)) ((V b).toNat / 2 ^ (M - k))
        rw [i4, s1] at d4
        rw [half_step _ M k (by omega), half_step (V b).toNat M k (by omega)]
        dsimp only at ba bb
        have m2 : ∀ n : Nat, n % 2 = 0 ∨ n % 2 = 1 := Nat.mod_two_eq_zero_or_one
        unfold stpO
        cases hb1 : B (a, M - 1 - k)
        · have za : (V a).toNat / 2 ^ (M - 1 - k) % 2 = 0 := (m2 _).resolve_right (fun h => by rw [ba.2 h] at hb1; cases hb1)
          rw [za, Nat.add_zero]
          cases hb2 : B (b, M - 1 - k)
          · have zb : (V b).toNat / 2 ^ (M - 1 - k) % 2 = 0 := (m2 _).resolve_right (fun h => by rw [bb.2 h] at hb2; cases hb2)
            rw [zb, Nat.add_zero]
            exact ⟨d3, d4⟩
          · rw [bb.1 hb2]
            obtain ⟨k1, k2, _⟩ := hA (D s, (u2, v2, w2)) ⟨d1, htwo⟩
            obtain ⟨k3, k4⟩ := k2 d3 j2
            refine ⟨k3, ?_⟩
            show JV3 (A (D s, (u2, v2, w2))) = _
            rw [k4, d4, ← s3]
            show sum fd _ (JV u2 v2 w2) = _
            rw [e2]
        · rw [ba.1 hb1]
          cases hb2 : B (b, M - 1 - k)
          · have zb : (V b).toNat / 2 ^ (M - 1 - k) % 2 = 0 := (m2 _).resolve_right (fun h => by rw [bb.2 h] at hb2; cases hb2)
            rw [zb, Nat.add_zero (2 * ((V b).toNat / 2 ^ (M - k)))]
            obtain ⟨k1, k2, _⟩ := hA (D s, (u1, v1, w1)) ⟨d1, hone⟩
            obtain ⟨k3, k4⟩ := k2 d3 j1
            refine ⟨k3, ?_⟩
            show JV3 (A (D s, (u1, v1, w1))) = _
            rw [k4, d4, ← s2]
            show sum fd _ (JV u1 v1 w1) = _
            rw [e1]
          · rw [bb.1 hb2]
            obtain ⟨k1, k2, _⟩ := hA (D s, (u3, v3, w3)) ⟨d1, hboth⟩
            obtain ⟨k3, k4⟩ := k2 d3 j3
            refine ⟨k3, ?_⟩
            show JV3 (A (D s, (u3, v3, w3))) = _
            rw [k4, d4, ← s4]
            show sum fd _ (JV u3 v3 w3) = _
            rw [e3, e1, e2]
    obtain ⟨z1, z2⟩ := main M (Nat.le_refl _)
    obtain ⟨z3, z4⟩ := vp z1
    refine ⟨z3, ?_⟩
    rw [z4]
    show JV3 _ = _
    rw [z2, Nat.sub_self, Nat.pow_zero, Nat.div_one, Nat.div_one]
  refine ⟨u, v, o, hu, hv, vv, ?_⟩
  refine fna Tryz.func123 Tryz.ntmps123 (rs := [.cell 8 162]) (four_d _ _ _ _ _ _ _ _) ?_
  have hal := ha.1
  have hbl := hb.1
  have hxl := hx.1
  have hyl := hy.1
  have hxl' := hx'.1
  have hyl' := hy'.1
  have z4 : List.drop 4 (cI zI) = [] := cI_drop rfl
  have pl1 := cP_len hxl hyl c
  have pt1 := cP_take hxl hyl c
  have pl2 := cP_len hxl' hyl' c'
  have pt2 := cP_take hxl' hyl' c'
  have wl1 := cV_len hu1.1 hv1.1 hw1.1
  have wt1 := cV_take hu1.1 hv1.1 hw1.1
  have wl2 := cV_len hu2.1 hv2.1 hw2.1
  have wt2 := cV_take hu2.1 hv2.1 hw2.1
  have wl3 := cV_len hu3.1 hv3.1 hw3.1
  have wt3 := cV_take hu3.1 hv3.1 hw3.1
  have wl4 := cV_len hu4.1 hv4.1 hw4.1
  have wt4 := cV_take hu4.1 hv4.1 hw4.1
  have wd : (cV zI zI zI).drop 12 = [] := cV_drop rfl rfl rfl
  have wl : (cV zI zI zI).length = 12 := rfl
  have pd : (cP zI zI false).drop 9 = [] := cP_drop rfl rfl _
  have pl : (cP zI zI false).length = 9 := rfl
  simp [go_sem, hal, hbl, cI_take hal, cI_take hbl, pl1, pt1, pl2, pt2]
  refine drw3 [0,3] [1,2,4,5,6,7,8,9] [0,3] (.alt (.step 1 [] true (.alt (.step 2 [] true (.alt (.step 4 [] false (.alt (.step 5 [] false (.alt (.step 6 [] false (.step 7 [] false (.step 8 [] false (.step 9 [] false .done)))) (.step 7 [] false (.step 6 [] false (.step 8 [] false (.step 9 [] false .done)))))) (.alt (.step 6 [] false (.alt (.step 5 [] false (.step 7 [] false (.step 8 [] false (.step 9 [] false .done)))) (.step 7 [] false (.step 5 [] false (.step 8 [] false (.step 9 [] false .done)))))) (.step 7 [] false (.alt (.step 5 [] false (.step 6 [] false (.step 8 [] false (.step 9 [] false .done)))) (.step 6 [] false (.step 5 [] false (.step 8 [] false (.step 9 [] false .done))))))))) (.alt (.step 6 [] true (.alt (.step 4 [] false (.alt (.step 5 [] false (.step 7 [] false (.step 8 [] false (.step 9 [] false .done)))) (.step 7 [] false (.step 5 [] false (.step 8 [] false (.step 9 [] false .done)))))) (.step 7 [] true (.step 4 [] false (.step 5 [] false (.step 8 [] false (.step 9 [] false .done))))))) (.step 7 [] true (.alt (.step 4 [] false (.alt (.step 5 [] false (.step 6 [] false (.step 8 [] false (.step 9 [] false .done)))) (.step 6 [] false (.step 5 [] false (.step 8 [] false (.step 9 [] false .done)))))) (.step 6 [] true (.step 4 [] false (.step 5 [] false (.step 8 [] false (.step 9 [] false .done)))))))))) (.alt (.step 6 [] true (.alt (.step 2 [] true (.alt (.step 4 [] false (.alt (.step 5 [] false (.step 7 [] false (.step 8 [] false (.step 9 [] false .done)))) (.step 7 [] false (.step 5 [] false (.step 8 [] false (.step 9 [] false .done)))))) (.step 7 [] true (.step 4 [] false (.step 5 [] false (.step 8 [] false (.step 9 [] false .done))))))) (.step 7 [] true (.step 2 [] true (.step 4 [] false (.step 5 [] false (.step 8 [] false (.step 9 [] false .done)))))))) (.step 7 [] true (.alt (.step 2 [] true (.alt (.step 4 [] false (.alt (.step 5 [] false (.step 6 [] false (.step 8 [] false (.step 9 [] false .done)))) (.step 6 [] false (.step 5 [] false (.step 8 [] false (.step 9 [] false .done)))))) (.step 6 [] true (.step 4 [] false (.step 5 [] false (.step 8 [] false (.step 9 [] false .done))))))) (.step 6 [] true (.step 2 [] true (.step 4 [] false (.step 5 [] false (.step 8 [] false (.step 9 [] false .done))))))))))) (.alt (.step 6 [] true (.alt (.step 1 [] true (.alt (.step 2 [] true (.alt (.step 4 [] false (.alt (.step 5 [] false (.step 7 [] false (.step 8 [] false (.step 9 [] false .done)))) (.step 7 [] false (.step 5 [] false (.step 8 [] false (.step 9 [] false .done)))))) (.step 7 [] true (.step 4 [] false (.step 5 [] false (.step 8 [] false (.step 9 [] false .done))))))) (.step 7 [] true (.step 2 [] true (.step 4 [] false (.step 5 [] false (.step 8 [] false (.step 9 [] false .done)))))))) (.step 7 [] true (.step 1 [] true (.step 2 [] true (.step 4 [] false (.step 5 [] false (.step 8 [] false (.step 9 [] false .done))))))))) (.step 7 [] true (.alt (.step 1 [] true (.alt (.step 2 [] true (.alt (.step 4 [] false (.alt (.step 5 [] false (.step 6 [] false (.step 8 [] false (.step 9 [] false .done)))) (.step 6 [] false (.step 5 [] false (.step 8 [] false (.step 9 [] false .done)))))) (.step 6 [] true (.step 4 [] false (.step 5 [] false (.step 8 [] false (.step 9 [] false .done))))))) (.step 6 [] true (.step 2 [] true (.step 4 [] false (.step 5 [] false (.step 8 [] false (.step 9 [] false .done)))))))) (.step 6 [] true (.step 1 [] true (.step 2 [] true (.step 4 [] false (.step 5 [] false (.step 8 [] false (.step 9 [] false .done))))))))))) ⟨[(4, .ptr 0 0 0 1), (6, .ptr 64 0 0 1), (8, .ptr 128 0 0 1), (9, .ptr 352 0 0 1), (10, .ptr 384 0 0 1)], [(384, ⟨199, 12, [cV u2 v2 w2]⟩), (352, ⟨199, 12, [cV u1 v1 w1]⟩), (128, ⟨162, 9, [cP zI zI false]⟩), (64, ⟨160, 4, [cI b]⟩), (0, ⟨160, 4, [cI a]⟩)], 9000⟩ (k := 10) ?h3 ?hq
  case h3 =>
    intro G hG
    have hW : ∀ (fr : Fr) (hp : Hp), (fv 4 fr = .ptr 0 0 0 1 ∧ fv 6 fr = .ptr 64 0 0 1 ∧ fv 8 fr = .ptr 128 0 0 1 ∧ fv 9 fr = .ptr 352 0 0 1 ∧ fv 10 fr = .ptr 384 0 0 1 ∧ lk 384 hp = some ⟨199, 12, [cV u2 v2 w2]⟩ ∧ lk 352 hp = some ⟨199, 12, [cV u1 v1 w1]⟩ ∧ lk 128 hp = some ⟨162, 9, [cP zI zI false]⟩ ∧ lk 64 hp = some ⟨160, 4, [cI b]⟩ ∧ lk 0 hp = some ⟨160, 4, [cI a]⟩) → G fr hp := by
      rintro fr hp ⟨q0, q1, q2, q3, q4, q5, q6, q7, q8, q9⟩
      exact hG _ _ wkA
    simp [go_sem, hal, hbl, cI_take hal, cI_take hbl, pl1, pt1, pl2, pt2, wl1, wt1, wl2, wt2, wd, z4, SaW]
    repeat' first | exact hW _ _ ⟨rfl, rfl, rfl, rfl, rfl, rfl, rfl, rfl, rfl, rfl⟩ | (refine hW _ _ ?_; simp [fv, lk]; done) | refine cl_eq t1 (one_cP _ _ _) ?_ | refine cl_eq t2 (one_cP _ _ _) ?_ | refine cl_eq g1 (one_cP _ _ _) ?_ | refine cl_eq g2 (one_cP _ _ _) ?_ | apply And.intro | simp [go_sem, hal, hbl, cI_take hal, cI_take hbl, pl1, pt1, pl2, pt2, wl1, wt1, wl2, wt2, wd, z4, SaW]
  case hq =>
    simp [go_sem, wl1, wt1, wl2, wt2]
    refine cl_eq f3 (two_cV _ _ _ _ _ _) ?_
    simp [go_sem, wl3, wt3, wd]
    refine cl_eq zero_fn (by simp) ?_
    simp [go_sem]
    refine cl_eq f4 (one_cP _ _ _) ?_
    simp [go_sem, wl4, wt4, wd]
    refine drw2 [0,2] [(1, []),(3, []),(4, [5,6])] 3 (k := 7) ?_
    intro G hG
    simp [go_sem, hal, hbl, cI_take hal, cI_take hbl]
    refine cl_eq f5 (one_cI _) ?_
    simp [go_sem, hal, hbl, cI_take hal, cI_take hbl]
    refine cl_eq f6 (one_cI _) ?_
    have w0 : IntKind.i64.wrap ((M : Int) - 1) = (M : Int) - 1 := by rw [IntWalk.i64_in _ (by omega)]
    have hMi : max (La : Int) (Lb : Int) = (M : Int) := by omega
    have hMx : (if La < Lb then (Lb : Int) else (La : Int)) = (M : Int) := by split <;> omega
    simp [go_sem, hMi, w0]
    refine hG _ _ ?_
    generalize hSS : itr (stpO D A B a b M (u1, v1, w1) (u2, v2, w2) (u3, v3, w3)) (u4, v4, w4) = S at *
    have hS0 : S 0 = (u4, v4, w4) := by rw [← hSS]; rfl
    refine loop_of (fun k : Nat => ⟨[(4, .ptr 0 0 0 1), (6, .ptr 64 0 0 1), (8, .ptr 128 0 0 1), (9, .ptr 352 0 0 1), (10, .ptr 384 0 0 1), (11, .ptr 9096 0 0 1), (12, .ptr 9224 0 0 1), (13, .d (.int .i64 ((M : Int) - 1 - (k : Int))))], [(9224, ⟨199, 12, [cV (S k).1 (S k).2.1 (S k).2.2]⟩), (9096, ⟨199, 12, [cV u3 v3 w3]⟩), (384, ⟨199, 12, [cV u2 v2 w2]⟩), (352, ⟨199, 12, [cV u1 v1 w1]⟩), (128, ⟨162, 9, [cP zI zI false]⟩), (64, ⟨160, 4, [cI b]⟩), (0, ⟨160, 4, [cI a]⟩)], 20000⟩)
      (fun k => k ≤ M) (fun k => M - k) 0 (by omega) (by
        rw [hS0]
        simp [Weak, slotOk, fv, lk, AV.low, AV.low1]
        and_intros <;> first | exact cV_low _ _ _ _ | exact cI_low _ _ | exact cP_low _ _ _ _ | (rw [hMx, w0])) ?_
    intro k hk
    obtain ⟨hs1, hs2, hs3⟩ := hS k
    have sl := cV_len hs1.1 hs2.1 hs3.1
    have st := cV_take hs1.1 hs2.1 hs3.1
    have sd := cV_drop hs1.1 hs2.1 hs3.1
    simp only [go_sem, Nat.reduceEqDiff, Nat.reduceAdd, Nat.reduceLT, ↓reduceIte]
    by_cases h4 : k < M
    · refine ⟨fun h => ?_, fun h => absurd (by omega) h⟩
      have hsn : S (k + 1) = stpO D A B a b M (u1, v1, w1) (u2, v2, w2) (u3, v3, w3) k (S k) := by rw [← hSS]; rfl
      have wq : IntKind.i64.wrap ((M : Int) - 1 - (k : Int) - 1) = (M : Int) - 1 - ((k + 1 : Nat) : Int) := by rw [IntWalk.i64_in _ (by omega)]; omega
      obtain ⟨d1, _, d2⟩ := hD (S k) ⟨hs1, hs2, hs3⟩
      have dl := cV_len d1.1.1 d1.2.1.1 d1.2.2.1
      have dt := cV_take d1.1.1 d1.2.1.1 d1.2.2.1
      have dd := cV_drop d1.1.1 d1.2.1.1 d1.2.2.1
      have e1 := (hB (a, M - 1 - k) ⟨ha, by omega⟩).2
      have e2 := (hB (b, M - 1 - k) ⟨hb, by omega⟩).2
      have ei : (((M - 1 - k : Nat)) : Int) = (M : Int) - 1 - (k : Int) := by omega
      simp only [ei] at e1 e2
      unfold stpO at hsn
      simp [go_sem, sl, st]
      refine cl_eq d2 (one_cV _ _ _) ?_
      simp [go_sem, dl, dt, sl, sd]
      refine drw2 [0,1,3,4] [(2, []),(5, [6,7])] 2 (k := 8) ?_
      intro G hG
      simp [go_sem, hal, hbl, cI_take hal, cI_take hbl]
      refine cl_eq e1 (wi2_deep _ _) ?_
      simp [go_sem, hal, hbl, cI_take hal, cI_take hbl]
      refine cl_eq e2 (wi2_deep _ _) ?_
      simp [go_sem]
      refine hG _ _ ?_
      cases hb1 : B (a, M - 1 - k)
      · cases hb2 : B (b, M - 1 - k)
        · simp only [hb1, hb2, if_true, if_false, Bool.false_eq_true] at hsn
          simp [go_sem, hb1, hb2, dl, dt, wl1, wt1, wl2, wt2, wl3, wt3]
          simp [go_sem, wq]
          refine next_of (k + 1) (by omega) (by omega) ?_
          rw [hsn]
          simp [Weak, slotOk, fv, lk, AV.low, AV.low1]
          and_intros <;> first | exact cV_low _ _ _ _ | exact cI_low _ _ | exact cP_low _ _ _ _ | omega
        · simp only [hb1, hb2, if_true, if_false, Bool.false_eq_true] at hsn
          simp [go_sem, hb1, hb2, dl, dt, wl1, wt1, wl2, wt2, wl3, wt3]
          obtain ⟨m1, _, m2⟩ := hA (D (S k), (u2, v2, w2)) ⟨d1, htwo⟩
          refine cl_eq m2 (two_cV _ _ _ _ _ _) ?_
          have ml := cV_len m1.1.1 m1.2.1.1 m1.2.2.1
          have mt := cV_take m1.1.1 m1.2.1.1 m1.2.2.1
          have md := cV_drop m1.1.1 m1.2.1.1 m1.2.2.1
          generalize A (D (S k), (u2, v2, w2)) = z at *
          simp [go_sem, ml, mt, dd, dl, wq]
          refine next_of (k + 1) (by omega) (by omega) ?_
          rw [hsn]
          simp [Weak, slotOk, fv, lk, AV.low, AV.low1]
          and_intros <;> first | exact cV_low _ _ _ _ | exact cI_low _ _ | exact cP_low _ _ _ _ | omega
      · cases hb2 : B (b, M - 1 - k)
        · simp only [hb1, hb2, if_true, if_false, Bool.false_eq_true] at hsn
          simp [go_sem, hb1, hb2, dl, dt, wl1, wt1, wl2, wt2, wl3, wt3]
          obtain ⟨m1, _, m2⟩ := hA (D (S k), (u1, v1, w1)) ⟨d1, hone⟩
          refine cl_eq m2 (two_cV _ _ _ _ _ _) ?_
          have ml := cV_len m1.1.1 m1.2.1.1 m1.2.2.1
          have mt := cV_take m1.1.1 m1.2.1.1 m1.2.2.1
          have md := cV_drop m1.1.1 m1.2.1.1 m1.2.2.1
          generalize A (D (S k), (u1, v1, w1)) = z at *
          simp [go_sem, ml, mt, dd, dl, wq]
          refine next_of (k + 1) (by omega) (by omega) ?_
          rw [hsn]
          simp [Weak, slotOk, fv, lk, AV.low, AV.low1]
          and_intros <;> first | exact cV_low _ _ _ _ | exact cI_low _ _ | exact cP_low _ _ _ _ | omega
        · simp only [hb1, hb2, if_true, if_false, Bool.false_eq_true] at hsn
          simp [go_sem, hb1, hb2, dl, dt, wl1, wt1, wl2, wt2, wl3, wt3]
          obtain ⟨m1, _, m2⟩ := hA (D (S k), (u3, v3, w3)) ⟨d1, hboth⟩
          refine cl_eq m2 (two_cV _ _ _ _ _ _) ?_
          have ml := cV_len m1.1.1 m1.2.1.1 m1.2.2.1
          have mt := cV_take m1.1.1 m1.2.1.1 m1.2.2.1
          have md := cV_drop m1.1.1 m1.2.1.1 m1.2.2.1
          generalize A (D (S k), (u3, v3, w3)) = z at *
          simp [go_sem, ml, mt, dd, dl, wq]
          refine next_of (k + 1) (by omega) (by omega) ?_
          rw [hsn]
          simp [Weak, slotOk, fv, lk, AV.low, AV.low1]
          and_intros <;> first | exact cV_low _ _ _ _ | exact cI_low _ _ | exact cP_low _ _ _ _ | omega
    · refine ⟨fun h => absurd (by omega) h4, fun h => ?_⟩
      have hkl : k = M := by omega
      subst hkl
      simp [go_sem, sl, st]
      refine cl_eq f7 (one_cV _ _ _) ?_
      have ol := cP_len hu.1 hv.1 o
      have ot := cP_take hu.1 hv.1 o
      simp [go_sem, ol, ot, pl, pd, resV]
      exact post_p rfl
def turnTag : List Nat := [84, 97, 112, 84, 119, 101, 97, 107]
theorem tagB_b (t b : List Nat) : (tagB t b).length = 32 ∧ bytes (tagB t b) := ⟨sumB_len _, sumB_bytes _⟩
theorem b_nb (b : List Nat) (d : DV) : ∀ v, v ∈ [AV.agg (cb b), AV.d d] → v.deep := by
  intro v hv; simp at hv; rcases hv with rfl | rfl; exact cb_deepA _; trivial
theorem turning_ex (inner root : List Nat) (hi : inner.length = 32) (hr : root.length ≤ 1000) : ∃ (t : List Int) (ok : Bool), Wn 4 t ∧ ((beN (tagB turnTag (inner ++ root)) < 115792089237316195423570985008687907852837564279074904382605163141518161494337 → ok = true ∧ V t = (beN (tagB turnTag (inner ++ root)) : Int)) ∧ (¬ beN (tagB turnTag (inner ++ root)) < 115792089237316195423570985008687907852837564279074904382605163141518161494337 → ok = false ∧ t = zI)) ∧ Rets Tryz.prog 122 [.agg (cb inner), .d (nb root)] (fun r => r = .tup [.agg (cI t), .d (.bool ok)]) := by
  obtain ⟨t, ok, ht, vt, f1⟩ := sread_ex (tagB turnTag (inner ++ root)) (tagB_b _ _).1 (tagB_b _ _).2
  refine ⟨t, ok, ht, vt, ?_⟩
  refine fna Tryz.func122 Tryz.ntmps122 (rs := [.cell 4 160, .tmp 5]) (b_nb _ _) ?_
  have htl := ht.1
  have hz : List.drop 4 (cI zI) = [] := cI_drop rfl
  simp [go_sem, cb_len, hi, cb_take hi]
  refine cl_froz [0, 160] (joined_fn inner root hi (by omega)) rfl (snap_cons (.one (snap1_d (own_of (rows := [[.sub 0 0 0 1 32 32 1], [.d (nb root)]]) rfl (by simp) rfl (RowsR.cons (.cons (snap_arr rfl (by simp) hi) .nil) (RowsR.cons (.cons (.d _) .nil) .nil)) rfl (by intro r hr; simp at hr; rcases hr with rfl | rfl <;> rfl)))) snap_nil) ?_
  simp [go_sem, dropH]
  refine cl_eq (tagged_fn turnTag (.str [84, 97, 112, 84, 119, 101, 97, 107]) rfl (inner ++ root) (by simp [turnTag]) (by rw [List.length_append]; omega)) (by simp [AV.deep, AV.deep1]) ?_
  simp [go_sem]
  refine cl_eq f1 (one_cb1 _) ?_
  simp [go_sem, htl, cI_take htl, hz, resV]
  exact post_wb rfl
noncomputable def liftPt (n : Nat) : Pt pP := some (icF pP (n : Int), icF pP (if liftR n % 2 = 0 then liftR n else (0 - liftR n) % 115792089237316195423570985008687907853269984665640564039457584007908834671663))
noncomputable def turnQ (n t : Nat) : Pt pP := sum fd (mp fd 1 (liftPt n)) (mp fd t (PV gX gY false))
theorem sq_mod (R p : Int) : (0 - R) % p * ((0 - R) % p) % p = R * R % p := by
  rw [← Int.mul_emod]
  congr 1
  rw [Int.zero_sub, Int.neg_mul_neg]
theorem cube_V {x : List Int} {n : Nat} (hx : V x = n) : ((((FV x * FV x * FV x + 7 : F)).val : Nat) : Int) = liftC n := by
  have e7 : (((7 : F).val : Nat) : Int) = 7 % pZ := by
    show ((7 % pP : Nat) : Int) = _
    rw [Int.natCast_emod, pP_int]; rfl
  rw [valA, valM, valM, Int.natCast_emod, Int.natCast_add, Int.natCast_emod, Int.natCast_mul, Int.natCast_emod, Int.natCast_mul, FV_val, e7, pP_int, hx]
  unfold liftC
  show _ = ((n : Int) * n * n + 7) % pZ
  rw [← Int.mul_emod (n : Int) n, ← Int.mul_emod ((n : Int) * n) n, ← Int.add_emod]
theorem lift_pt {n : Nat} {x y : List Int} {c : Bool} (h : liftS n x y c true) : liftOk n ∧ c = false ∧ isPt x y c ∧ PV x y c = liftPt n := by
  rcases h with ⟨_, h, _⟩ | ⟨h1, _, rfl, hx, hy⟩
  · cases h
  have hpos : (0 : Int) < pZ := by decide
  have hyl : V y < pZ := by
    rw [hy]
    split
    · exact Int.emod_lt_of_pos _ hpos
    · exact Int.emod_lt_of_pos _ hpos
  have hon : FV y * FV y = FV x * FV x * FV x + 7 := by
    refine F_ext ?_
    rw [cube_V hx, valM, Int.natCast_emod, Int.natCast_mul, FV_val, pP_int, ← Int.mul_emod]
    have hc : liftC n % pZ = liftC n := by unfold liftC; exact Int.emod_emod _ _
    have hR : liftR n * liftR n % pZ = liftC n := h1.2.trans hc
    rw [hy]
    split
    · exact hR
    · rw [← hR]; exact sq_mod _ _
  refine ⟨h1, rfl, .inr ⟨rfl, by rw [hx]; exact h1.1, hyl, hon⟩, ?_⟩
  show some (icF pP (V x), icF pP (V y)) = _
  rw [hx, hy]
  rfl
theorem lift_no {n : Nat} {x y : List Int} {c : Bool} (h : liftS n x y c false) : ¬ liftOk n := by
  rcases h with ⟨h, _⟩ | ⟨_, h, _⟩
  · exact h
  · cases h
def turnR (n t : Nat) (k : List Nat) (o : Bool) (e : Int) : Prop :=
  ((¬ (liftOk n ∧ t < 115792089237316195423570985008687907852837564279074904382605163141518161494337) ∨ turnQ n t = none) ∧ e = 1 ∧ k = z32 ∧ o = false) ∨
  ((liftOk n ∧ t < 115792089237316195423570985008687907852837564279074904382605163141518161494337) ∧ e = 0 ∧ ∃ x y, turnQ n t = some (x, y) ∧ beN k = x.val ∧ (o = true ↔ y.val % 2 = 1))
theorem val_V {x : List Int} (hx : Wn 4 x) (h : V x < pZ) : (V x).toNat = (FV x).val := by
  have e := FV_val x
  have h0 := (V_lt hx).1
  rw [Int.emod_eq_of_lt h0 h] at e
  omega
def E1 (e : Int) : Prop := e = 0 ∨ e = 1
theorem post_be {Q : AV → Prop} {st : St} {b : List Nat} {o : Bool} {e : Int} (hq : Q (.tup [.agg (cb b), .d (.bool o), .d (.int .i64 e)])) : PostK Q (.tup [.agg (cb b), .d (.bool o), .d (.int .i64 e)]) st :=
  post_same (by
    intro c hc
    simp at hc
    rcases hc with rfl | rfl | rfl
    · exact .inr ⟨_, rfl, cb_deep _⟩
    · exact .inl trivial
    · exact .inl trivial) hq
theorem turn_ex (inner root : List Nat) (hi : inner.length = 32) (hib : bytes inner) (hr : root.length ≤ 1000) : ∃ (k : List Nat) (o : Bool) (e : Int), k.length = 32 ∧ bytes k ∧ E1 e ∧ turnR (beN inner) (beN (tagB turnTag (inner ++ root))) k o e ∧ Rets Tryz.prog 89 [.agg (cb inner), .d (nb root)] (fun r => r = .tup [.agg (cb k), .d (.bool o), .d (.int .i64 e)]) := by
  obtain ⟨x, y, c, ok, hx, hy, vl, f1⟩ := liftP_ex inner hi hib
  obtain ⟨t, ok2, ht, vt, f2⟩ := turning_ex inner root hi hr
  obtain ⟨qx, qy, qc, hqx, hqy, vq, f4⟩ := both_ex [1, 0, 0, 0] t x y gX gY c false (fromI_W ⟨by omega, by omega⟩) ht hx hy gX_W gY_W
  obtain ⟨kb, kl, kbb, vk, f5⟩ := pbytes_ex qx qy qc hqx hqy
  obtain ⟨od, vo, f6⟩ := even_ex qx qy qc hqx hqy
  generalize hT : beN (tagB turnTag (inner ++ root)) = T at *
  have zb : bytes z32 := fun x hx => by simp [z32] at hx; omega
  have pl := cP_len hx.1 hy.1 c
  have pt := cP_take hx.1 hy.1 c
  have pd : (cP zI zI false).drop 9 = [] := cP_drop rfl rfl _
  have pl0 : (cP zI zI false).length = 9 := rfl
  have ql := cP_len hqx.1 hqy.1 qc
  have qt := cP_take hqx.1 hqy.1 qc
  have qb := cP_b hqx.1 hqy.1 qc
  have qg := cP_g hqx.1 hqy.1 qc
  have htl := ht.1
  have hz : List.drop 4 (cI zI) = [] := cI_drop rfl
  have zd : List.drop 32 (cb z32) = [] := cb_drop rfl
  have zt : List.take 32 (cb z32) = cb z32 := cb_take rfl
  cases ok
  · refine ⟨z32, false, 1, rfl, zb, .inr rfl, .inl ⟨.inl (fun h => lift_no vl h.1), rfl, rfl, rfl⟩, ?_⟩
    refine fna Tryz.func89 Tryz.ntmps89 (rs := [.cell 4 23, .tmp 5, .tmp 6]) (b_nb _ _) ?_
    simp [go_sem, cb_len, hi, cb_take hi]
    refine cl_eq f1 (one_cb1 _) ?_
    simp [go_sem, pl, pt, pd, pl0, zd, zt, cb_len, resV]
    exact post_be rfl
  · cases ok2
    · refine ⟨z32, false, 1, rfl, zb, .inr rfl, .inl ⟨.inl (fun h => absurd (vt.1 h.2).1 (by decide)), rfl, rfl, rfl⟩, ?_⟩
      refine fna Tryz.func89 Tryz.ntmps89 (rs := [.cell 4 23, .tmp 5, .tmp 6]) (b_nb _ _) ?_
      simp [go_sem, cb_len, hi, cb_take hi]
      refine cl_eq f1 (one_cb1 _) ?_
      simp [go_sem, cb_len, hi, cb_take hi, pl, pt, pd, pl0]
      refine cl_eq f2 (b_nb _ _) ?_
      simp [go_sem, htl, cI_take htl, hz, zd, zt, cb_len, resV]
      exact post_be rfl
    · obtain ⟨k1, k2, k3, k4⟩ := lift_pt vl
      have hlt : T < 115792089237316195423570985008687907852837564279074904382605163141518161494337 := by
        by_cases h : T < 115792089237316195423570985008687907852837564279074904382605163141518161494337
        · exact h
        · exact absurd (vt.2 h).1 (by decide)
      obtain ⟨m1, m2⟩ := vq k3 base_pt
      have vT : (V t).toNat = T := by rw [(vt.1 hlt).2]; exact Int.toNat_natCast _
      have v1 : (V [1, 0, 0, 0]).toNat = 1 := by simp [V]
      rw [k4, vT, v1] at m2
      have hQ : PV qx qy qc = turnQ (beN inner) T := m2
      cases qc
      · have hp := m1
        rcases hp with ⟨hb, _⟩ | ⟨_, hb1, hb2, _⟩
        · cases hb
        have vR : turnR (beN inner) T kb (!od) 0 := by
          refine .inr ⟨⟨k1, hlt⟩, rfl, FV qx, FV qy, hQ.symm, by rw [vk m1]; exact val_V hqx hb1, ?_⟩
          have e := val_V hqy hb2
          have hy0 := (V_lt hqy).1
          have ho := vo m1
          cases od
          · have : ¬ V qy % 2 = 0 := fun h => Bool.noConfusion (ho.2 ⟨rfl, h⟩)
            exact ⟨fun _ => by omega, fun _ => rfl⟩
          · have := (ho.1 rfl).2
            exact ⟨fun h => Bool.noConfusion h, fun h => by omega⟩
        refine ⟨kb, !od, 0, kl, kbb, .inl rfl, vR, ?_⟩
        refine fna Tryz.func89 Tryz.ntmps89 (rs := [.cell 4 23, .tmp 5, .tmp 6]) (b_nb _ _) ?_
        simp [go_sem, cb_len, hi, cb_take hi]
        refine cl_eq f1 (one_cb1 _) ?_
        simp [go_sem, cb_len, hi, cb_take hi, pl, pt, pd, pl0]
        refine cl_eq f2 (b_nb _ _) ?_
        simp [go_sem, htl, cI_take htl, hz]
        refine drw3 [1,2] [0,3,4,5,6] [1,2] (.alt (.step 0 [] true (.alt (.step 3 [] true (.alt (.step 4 [] false (.step 5 [] false (.step 6 [] false .done))) (.step 5 [] true (.step 4 [] false (.step 6 [] false .done))))) (.step 5 [] true (.step 3 [] true (.step 4 [] false (.step 6 [] false .done)))))) (.step 5 [] true (.step 0 [] true (.step 3 [] true (.step 4 [] false (.step 6 [] false .done)))))) ⟨[(4, .ptr 32 0 0 1), (10, .ptr 960 0 0 1)], [(960, ⟨162, 9, [cP qx qy false]⟩), (32, ⟨23, 32, [cb z32]⟩)], 5000⟩ (k := 7) ?h3 ?hq
        case h3 =>
          intro G hG
          have hW : ∀ (fr : Fr) (hp : Hp), (fv 4 fr = .ptr 32 0 0 1 ∧ fv 10 fr = .ptr 960 0 0 1 ∧ lk 960 hp = some ⟨162, 9, [cP qx qy false]⟩ ∧ lk 32 hp = some ⟨23, 32, [cb z32]⟩) → G fr hp := by
            rintro fr hp ⟨q0, q1, q2, q3⟩
            exact hG _ _ wkA
          simp [go_sem, htl, cI_take htl, pl, pt, ql, qt, pd, pl0, hz, SaW]
          repeat' first | exact hW _ _ ⟨rfl, rfl, rfl, rfl⟩ | (refine hW _ _ ?_; simp [fv, lk]; done) | refine cl_eq (fromI_fn 1) (by simp [AV.deep, AV.deep1]) ?_ | refine cl_eq base_fn (by simp) ?_ | refine cl_eq f4 (four_d _ _ _ _ _ _ _ _) ?_ | apply And.intro | simp [go_sem, htl, cI_take htl, pl, pt, ql, qt, pd, pl0, hz, SaW]
        case hq =>
          simp [go_sem, qb, qg, ql]
          refine drw3 [0,2] [1,3,4,5,6,7] [0,2] (.step 1 [] true (.step 3 [] false (.alt (.step 4 [] false (.step 5 [] false (.step 6 [] false (.step 7 [] false .done)))) (.step 5 [] false (.step 4 [] false (.step 6 [] false (.step 7 [] false .done))))))) ⟨[(4, .ptr 32 0 0 1), (5, .d (.bool (!od))), (6, .d (.int .i64 0))], [(32, ⟨23, 32, [cb kb]⟩)], 9000⟩ (k := 8) ?h3 ?hq
          case h3 =>
            intro G hG
            have hW : ∀ (fr : Fr) (hp : Hp), (fv 4 fr = .ptr 32 0 0 1 ∧ fv 5 fr = .d (.bool (!od)) ∧ fv 6 fr = .d (.int .i64 0) ∧ lk 32 hp = some ⟨23, 32, [cb kb]⟩) → G fr hp := by
              rintro fr hp ⟨q0, q1, q2, q3⟩
              exact hG _ _ wkA
            simp [go_sem, ql, qt, kl, cb_len, cb_take kl, zd, SaW]
            repeat' first | exact hW _ _ ⟨rfl, rfl, rfl, rfl⟩ | (refine hW _ _ ?_; simp [fv, lk]; done) | refine cl_eq f5 (one_cP _ _ _) ?_ | refine cl_eq f6 (one_cP _ _ _) ?_ | apply And.intro | simp [go_sem, ql, qt, kl, cb_len, cb_take kl, zd, SaW]
          case hq =>
            simp [go_sem, cb_len, kl, cb_take kl, resV]
            exact post_be rfl
      · refine ⟨z32, false, 1, rfl, zb, .inr rfl, .inl ⟨.inr hQ.symm, rfl, rfl, rfl⟩, ?_⟩
        refine fna Tryz.func89 Tryz.ntmps89 (rs := [.cell 4 23, .tmp 5, .tmp 6]) (b_nb _ _) ?_
        simp [go_sem, cb_len, hi, cb_take hi]
        refine cl_eq f1 (one_cb1 _) ?_
        simp [go_sem, cb_len, hi, cb_take hi, pl, pt, pd, pl0]
        refine cl_eq f2 (b_nb _ _) ?_
        simp [go_sem, htl, cI_take htl, hz]
        refine drw3 [1,2] [0,3,4,5,6] [1,2] (.alt (.step 0 [] true (.alt (.step 3 [] true (.alt (.step 4 [] false (.step 5 [] false (.step 6 [] false .done))) (.step 5 [] true (.step 4 [] false (.step 6 [] false .done))))) (.step 5 [] true (.step 3 [] true (.step 4 [] false (.step 6 [] false .done)))))) (.step 5 [] true (.step 0 [] true (.step 3 [] true (.step 4 [] false (.step 6 [] false .done)))))) ⟨[(4, .ptr 32 0 0 1), (10, .ptr 960 0 0 1)], [(960, ⟨162, 9, [cP qx qy true]⟩), (32, ⟨23, 32, [cb z32]⟩)], 5000⟩ (k := 7) ?h3 ?hq
        case h3 =>
          intro G hG
          have hW : ∀ (fr : Fr) (hp : Hp), (fv 4 fr = .ptr 32 0 0 1 ∧ fv 10 fr = .ptr 960 0 0 1 ∧ lk 960 hp = some ⟨162, 9, [cP qx qy true]⟩ ∧ lk 32 hp = some ⟨23, 32, [cb z32]⟩) → G fr hp := by
            rintro fr hp ⟨q0, q1, q2, q3⟩
            exact hG _ _ wkA
          simp [go_sem, htl, cI_take htl, pl, pt, ql, qt, pd, pl0, hz, SaW]
          repeat' first | exact hW _ _ ⟨rfl, rfl, rfl, rfl⟩ | (refine hW _ _ ?_; simp [fv, lk]; done) | refine cl_eq (fromI_fn 1) (by simp [AV.deep, AV.deep1]) ?_ | refine cl_eq base_fn (by simp) ?_ | refine cl_eq f4 (four_d _ _ _ _ _ _ _ _) ?_ | apply And.intro | simp [go_sem, htl, cI_take htl, pl, pt, ql, qt, pd, pl0, hz, SaW]
        case hq =>
          simp [go_sem, qb, qg, ql, zd, zt, cb_len, resV]
          exact post_be rfl
open Go.Am Go.Sha
def leafV (inner : List Nat) (ps : List (List Nat)) (x : List Nat) : AV := .agg (leafC inner (.d (hs32 ps)) (.d (nb x)))
theorem leafV_deep (inner : List Nat) (ps : List (List Nat)) (x : List Nat) : ∀ v, v ∈ [leafV inner ps x] → v.deep := by
  intro v hv
  simp at hv
  subst hv
  simp [AV.deep, leafC, leafV]
  intro c hc
  rcases hc with hc | rfl | rfl
  · exact cb_deep _ _ hc
  · trivial
  · trivial
theorem flat_be (k : List Nat) (o : Bool) (e : Int) : (AV.tup [.agg (cb k), .d (.bool o), .d (.int .i64 e)]).flat := by
  intro c hc
  simp at hc
  rcases hc with rfl | rfl | rfl
  · refine .inr ⟨_, rfl, fun x hx => ?_⟩
    rw [cb, List.mem_map] at hx
    obtain ⟨y, _, rfl⟩ := hx
    trivial
  · exact .inl trivial
  · exact .inl trivial
theorem cb_takeA {l : List Nat} (h : l.length = 32) (r : List AV) : List.take 32 (cb l ++ r) = cb l := by
  rw [List.take_append_of_le_length (by rw [cb_len, h]; exact Nat.le_refl _), cb_take h]
theorem leaf_take {inner : List Nat} (hi : inner.length = 32) (a b : AV) : List.take 34 (cb inner ++ [a, b]) = cb inner ++ [a, b] := List.take_of_length_le (by simp [cb_len, hi])
theorem rootB_lenA (ps : List (List Nat)) : ∀ h : List Nat, h.length = 32 → (rootB ps h).length = 32 := by
  induction ps with
  | nil => exact fun h hh => hh
  | cons p r ih => exact fun h hh => ih _ (branchB_len h p)
def leafTurn (inner : List Nat) (ps : List (List Nat)) (x k : List Nat) (o : Bool) (e : Int) : Prop :=
  (¬ (ps.length ≤ 8 ∧ x.length ≤ 1000) ∧ e = 1 ∧ k = z32 ∧ o = false) ∨ ((ps.length ≤ 8 ∧ x.length ≤ 1000) ∧ turnR (beN inner) (beN (tagB turnTag (inner ++ rootB ps (leafB x)))) k o e)
theorem turned_ex (inner : List Nat) (ps : List (List Nat)) (x : List Nat) (hi : inner.length = 32) (hib : bytes inner) (hp32 : ∀ p, p ∈ ps → p.length = 32) (hps : ps.length ≤ 1000) (hx : x.length ≤ 100000) : ∃ (k : List Nat) (o : Bool) (e : Int), k.length = 32 ∧ bytes k ∧ E1 e ∧ Rets Tryz.prog 54 [leafV inner ps x] (fun r => r = .tup [.agg (cb k), .d (.bool o), .d (.int .i64 e)]) ∧ (e = 0 → ps.length ≤ 8 ∧ x.length ≤ 1000) ∧ leafTurn inner ps x k o e := by
  have hR := rootB_lenA ps (leafB x) (leafB_len x)
  have f1 := root_fn inner ps x hi hp32 hps hx
  unfold leafTurn
  generalize rootB ps (leafB x) = R at *
  obtain ⟨k, o, e, hk, hkb, he, hT, f2⟩ := turn_ex inner R hi hib (by omega)
  have zb : bytes z32 := fun x hx => by simp [z32] at hx; omega
  have zd : List.drop 32 (cb z32) = [] := cb_drop rfl
  have zt : List.take 32 (cb z32) = cb z32 := cb_take rfl
  by_cases h1 : 8 < ps.length
  · refine ⟨z32, false, 1, rfl, zb, .inr rfl, ?_, fun h => by omega, .inl ⟨by omega, rfl, rfl, rfl⟩⟩
    refine fna Tryz.func54 Tryz.ntmps54 (rs := [.cell 2 23, .tmp 3, .tmp 4]) (leafV_deep _ _ _) ?_
    have i1 : (8 : Int) < (ps.length : Int) := by omega
    simp [go_sem, leafV, leafC, leaf33 hi, leaf32 hi, hs32, nb, i1, zd, zt, cb_len, resV]
    exact post_be rfl
  by_cases h2 : 1000 < x.length
  · refine ⟨z32, false, 1, rfl, zb, .inr rfl, ?_, fun h => by omega, .inl ⟨by omega, rfl, rfl, rfl⟩⟩
    refine fna Tryz.func54 Tryz.ntmps54 (rs := [.cell 2 23, .tmp 3, .tmp 4]) (leafV_deep _ _ _) ?_
    have i1 : ¬ (8 : Int) < (ps.length : Int) := by omega
    have i2 : (1000 : Int) < (x.length : Int) := by omega
    simp [go_sem, leafV, leafC, leaf33 hi, leaf32 hi, hs32, nb, i1, i2, zd, zt, cb_len, resV]
    exact post_be rfl
  refine ⟨k, o, e, hk, hkb, he, ?_, fun _ => by omega, .inr ⟨by omega, hT⟩⟩
  refine fna Tryz.func54 Tryz.ntmps54 (rs := [.cell 2 23, .tmp 3, .tmp 4]) (leafV_deep _ _ _) ?_
  have i1 : ¬ (8 : Int) < (ps.length : Int) := by omega
  have i2 : ¬ (1000 : Int) < (x.length : Int) := by omega
  simp [go_sem, leafV, leafC, leaf33 hi, leaf32 hi, hs32, nb, i1, i2, hi, leaf_take hi]
  refine cl_eq (by simpa only [leafC, hs32, nb] using f1) (by simpa only [leafV, leafC, hs32, nb] using leafV_deep inner ps x) ?_
  simp [go_sem, cb_len, hR, cb_take hR, zd]
  refine drw3 [0,1,2] [3,7,8,9] [0,1,2,4,5,6] (.step 3 [4,5,6] true (.step 7 [] false (.step 8 [] false (.step 9 [] false .done)))) ⟨[(2, .ptr 32 0 0 1), (3, .d (.bool o)), (4, .d (.int .i64 e))], [(32, ⟨23, 32, [cb k]⟩)], 9000⟩ (k := 10) ?h3 ?hq
  case h3 =>
    intro G hG
    have hW : ∀ (fr : Fr) (hp : Hp), (fv 2 fr = .ptr 32 0 0 1 ∧ fv 3 fr = .d (.bool o) ∧ fv 4 fr = .d (.int .i64 e) ∧ lk 32 hp = some ⟨23, 32, [cb k]⟩) → G fr hp := by
      rintro fr hp ⟨q0, q1, q2, q3⟩
      exact hG _ _ wkA
    simp [go_sem, leafC, leaf33 hi, leaf32 hi, cb_len, hi, hR, hk, cb_take hi, cb_take hR, cb_take hk, zd, cb_takeA hi, SaW]
    repeat' first | exact hW _ _ ⟨rfl, rfl, rfl, rfl⟩ | (refine hW _ _ ?_; simp [fv, lk]; done) | refine cl_snap f2 rfl (snap_cons (.deep (cb_deepA _)) (snap_cons (.one (snap1_d (snap_arr rfl trivial hR))) snap_nil)) (flat_be _ _ _) ?_ | apply And.intro | simp [go_sem, leafC, leaf33 hi, leaf32 hi, cb_len, hi, hR, hk, cb_take hi, cb_take hR, cb_take hk, zd, cb_takeA hi, SaW]
  case hq =>
    simp [go_sem, cb_len, hk, cb_take hk, resV]
    exact post_be rfl
theorem cb_rows {b : List Nat} (hb : b.length = 32) : (List.range 32).map (fun k => ((cb b).drop k).take 1) = rb b := by
  rw [arr_rows hb, rb_of]
theorem leaf_rows {b : List Nat} (hb : b.length = 32) (r : List AV) : (List.range 32).map (fun k => ((cb b ++ r).drop k).take 1) = rb b := by
  rw [← cb_rows hb]
  refine List.map_congr_left fun k hk => ?_
  have hk' : k < 32 := List.mem_range.1 hk
  have hl := cb_len b
  rw [List.drop_append_of_le_length (by omega), List.take_append_of_le_length (by rw [List.length_drop]; omega)]
theorem post_bldn {Q : AV → Prop} {st : St} {id n : Nat} {e : Int} {L : List Nat} (hl : L.length = n) (hb : lk id st.hp = some ⟨5, 1, rb L⟩) (hq : Q (.tup [.d (nb L), .d (.int .i64 e)])) : PostK Q (.tup [.own id 0 n n, .d (.int .i64 e)]) st :=
  post_tup (snap1_cons (snap1_d (snap_full hl hb trivial)) (snap1_cons (snap1_same trivial) snap1_nil)) rfl (by simp [AV.deep, AV.deep1]) hq
theorem post_bld0 {Q : AV → Prop} {st : St} {e : Int} (hq : Q (.tup [.d (nb []), .d (.int .i64 e)])) : PostK Q (.tup [.nil, .d (.int .i64 e)]) st :=
  post_tup (snap1_cons (snap1_d (.nil 1)) (snap1_cons (snap1_same trivial) snap1_nil)) rfl (by simp [AV.deep, AV.deep1]) hq
theorem output_no {inner x k : List Nat} {ps : List (List Nat)} {o : Bool} (hi : inner.length = 32) (hk : k.length = 32) (f : Rets Tryz.prog 54 [leafV inner ps x] (fun r => r = .tup [.agg (cb k), .d (.bool o), .d (.int .i64 1)])) :
    Rets Tryz.prog 18 [leafV inner ps x] (fun r => r = .tup [.d (nb []), .d (.int .i64 1)]) := by
  refine fna Tryz.func18 Tryz.ntmps18 (rs := [.tmp 2, .tmp 3]) (leafV_deep _ _ _) ?_
  have zd : List.drop 32 (cb z32) = [] := cb_drop rfl
  simp [go_sem, leafV, leafC, leaf33 hi, leaf32 hi, hs32, nb, hi, leaf_take hi]
  refine cl_eq f (leafV_deep _ _ _) ?_
  simp [go_sem, cb_len, hk, cb_take hk, zd, resV]
  exact post_bld0 rfl
theorem output_ok {inner x k : List Nat} {ps : List (List Nat)} {o : Bool} (hi : inner.length = 32) (hk : k.length = 32) (f : Rets Tryz.prog 54 [leafV inner ps x] (fun r => r = .tup [.agg (cb k), .d (.bool o), .d (.int .i64 0)])) :
    Rets Tryz.prog 18 [leafV inner ps x] (fun r => r = .tup [.d (nb (81 :: 32 :: k)), .d (.int .i64 0)]) := by
  refine fna Tryz.func18 Tryz.ntmps18 (rs := [.tmp 2, .tmp 3]) (leafV_deep _ _ _) ?_
  have zd : List.drop 32 (cb z32) = [] := cb_drop rfl
  simp [go_sem, leafV, leafC, leaf33 hi, leaf32 hi, hs32, nb, hi, leaf_take hi]
  refine cl_eq f (leafV_deep _ _ _) ?_
  have hx1 := cb_rows hk
  simp [go_sem] at hx1
  simp [go_sem, cb_len, hk, cb_take hk, zd, hx1, rb_len, resV]
  have e : rb (81 :: 32 :: k) = [AV.d (.int .u8 81)] :: [AV.d (.int .u8 32)] :: rb k := by simp [rb]
  have h34 : (81 :: 32 :: k).length = 34 := by simp [hk]
  exact post_bldn (L := 81 :: 32 :: k) h34 (by rw [e]; rfl) (by simp [nb])
theorem control_no {inner x k : List Nat} {ps : List (List Nat)} {o : Bool} (hi : inner.length = 32) (hk : k.length = 32) (f : Rets Tryz.prog 54 [leafV inner ps x] (fun r => r = .tup [.agg (cb k), .d (.bool o), .d (.int .i64 1)])) :
    Rets Tryz.prog 20 [leafV inner ps x] (fun r => r = .tup [.d (nb []), .d (.int .i64 1)]) := by
  refine fna Tryz.func20 Tryz.ntmps20 (rs := [.tmp 2, .tmp 3]) (leafV_deep _ _ _) ?_
  have zd : List.drop 32 (cb z32) = [] := cb_drop rfl
  simp [go_sem, leafV, leafC, leaf33 hi, leaf32 hi, hs32, nb, hi, leaf_take hi]
  refine cl_eq f (leafV_deep _ _ _) ?_
  simp [go_sem, cb_len, hk, cb_take hk, zd, resV]
  exact post_bld0 rfl
def ctl (o : Bool) (inner : List Nat) (ps : List (List Nat)) : List Nat := (if o then 193 else 192) :: (inner ++ ps.flatten)
theorem control_ok {inner x k : List Nat} {ps : List (List Nat)} {o : Bool} (hi : inner.length = 32) (hp32 : ∀ p, p ∈ ps → p.length = 32) (hps : ps.length ≤ 1000) (hk : k.length = 32) (f : Rets Tryz.prog 54 [leafV inner ps x] (fun r => r = .tup [.agg (cb k), .d (.bool o), .d (.int .i64 0)])) :
    Rets Tryz.prog 20 [leafV inner ps x] (fun r => r = .tup [.d (nb (ctl o inner ps)), .d (.int .i64 0)]) := by
  refine fna Tryz.func20 Tryz.ntmps20 (rs := [.tmp 2, .tmp 3]) (leafV_deep _ _ _) ?_
  have zd : List.drop 32 (cb z32) = [] := cb_drop rfl
  have hw : IntKind.u8.wrap 193 = 193 := by decide
  simp [go_sem, leafV, leafC, leaf33 hi, leaf32 hi, hs32, nb, hi, leaf_take hi]
  refine cl_eq f (leafV_deep _ _ _) ?_
  have hx1 := leaf_rows hi [AV.d (DV.ro 32 (List.map cd ps)), AV.d (DV.ro 1 (List.map (fun (b : Nat) => [DV.int .u8 (b : Int)]) x))]
  simp [go_sem] at hx1
  cases o
  · simp [go_sem, hx1, rb_len, cb_len, hk, hi, cb_take hk, zd, hs32, leaf32 hi, cb_takeA hi]
    have w33 : (ctl false inner (ps.take 0)).length = 33 := by simp [ctl, hi]
    have r0 : rb (ctl false inner (ps.take 0)) = [AV.d (.int .u8 192)] :: rb inner := by simp [ctl, rb]
    refine loop_of (fun k : Nat => ⟨[(7, .own 480 0 (ctl false inner (ps.take k)).length (ctl false inner (ps.take k)).length), (31, .d (hs32 ps)), (32, .d (.int .i64 (ps.length : Int))), (33, .d (.int .i64 (k : Int)))], [(480, ⟨5, 1, rb (ctl false inner (ps.take k))⟩)], 9000⟩)
      (fun k => k ≤ ps.length) (fun k => ps.length - k) 0 (by omega) (by
        rw [w33, r0]
        simp [Weak, slotOk, fv, lk, AV.low, AV.low1, hs32]
        exact rb_low _ _) ?_
    intro k hk
    have w := next_i64 (k := k) (by omega)
    simp only [go_sem, Nat.reduceEqDiff, Nat.reduceAdd, Nat.reduceLT, ↓reduceIte]
    refine ⟨fun hlt => ?_, fun hge => ?_⟩
    · have hlt' : k < ps.length := by omega
      have hp := List.getElem?_eq_getElem hlt'
      have htk : ps.take (k + 1) = ps.take k ++ [ps[k]] := List.take_succ_eq_append_getElem hlt'
      generalize ps[k] = q at hp htk
      have hpl : q.length = 32 := hp32 q (List.mem_of_getElem? hp)
      have hx2 := cb_rows hpl
      simp [go_sem] at hx2
      have hc : ctl false inner (ps.take (k + 1)) = ctl false inner (ps.take k) ++ q := by rw [htk]; simp [ctl]
      have hcl : (ctl false inner (ps.take k)).length ≤ 33 + 32 * k := by
        clear hc htk w
        have : (ps.take k).flatten.length ≤ 32 * k := by
          have h1 : ∀ l : List (List Nat), (∀ p, p ∈ l → p.length = 32) → l.flatten.length = 32 * l.length := by
            intro l
            induction l with
            | nil => intro _; rfl
            | cons a r ih => intro h; rw [List.flatten_cons, List.length_append, ih (fun p hp => h p (by simp [hp])), h a (by simp), List.length_cons]; omega
          rw [h1 _ (fun p hp => hp32 p (List.mem_of_mem_take hp)), List.length_take]
          omega
        unfold ctl; rw [List.length_cons, List.length_append, hi]; omega
      generalize ctl false inner (ps.take k) = L at *
      simp [go_sem, hs32, hp, cd_len, hpl, cd_map, cb_take hpl, cb_len, z32_drop, hx2, rb_len]
      first | refine ⟨by omega, ?_⟩ | skip
      refine next_of (k + 1) (by omega) (by omega) ?_
      rw [hc]
      have ra : rb (L ++ q) = rb L ++ rb q := by simp [rb]
      simp [Weak, slotOk, fv, lk, AV.low, AV.low1, hs32, w, hpl, ra]
      intro r hr
      exact hr.elim (rb_low _ _ r) (rb_low _ _ r)
    · have hkn : k = ps.length := by omega
      subst hkn
      simp only [List.take_length]
      simp [go_sem, resV]
      exact post_bldn (L := ctl false inner ps) rfl rfl (by simp [nb])
  · simp [go_sem, hx1, rb_len, cb_len, hk, hi, cb_take hk, zd, hs32, leaf32 hi, cb_takeA hi, hw]
    have w33 : (ctl true inner (ps.take 0)).length = 33 := by simp [ctl, hi]
    have r0 : rb (ctl true inner (ps.take 0)) = [AV.d (.int .u8 193)] :: rb inner := by simp [ctl, rb]
    refine loop_of (fun k : Nat => ⟨[(7, .own 480 0 (ctl true inner (ps.take k)).length (ctl true inner (ps.take k)).length), (31, .d (hs32 ps)), (32, .d (.int .i64 (ps.length : Int))), (33, .d (.int .i64 (k : Int)))], [(480, ⟨5, 1, rb (ctl true inner (ps.take k))⟩)], 9000⟩)
      (fun k => k ≤ ps.length) (fun k => ps.length - k) 0 (by omega) (by
        rw [w33, r0]
        simp [Weak, slotOk, fv, lk, AV.low, AV.low1, hs32]
        exact rb_low _ _) ?_
    intro k hk
    have w := next_i64 (k := k) (by omega)
    simp only [go_sem, Nat.reduceEqDiff, Nat.reduceAdd, Nat.reduceLT, ↓reduceIte]
    refine ⟨fun hlt => ?_, fun hge => ?_⟩
    · have hlt' : k < ps.length := by omega
      have hp := List.getElem?_eq_getElem hlt'
      have htk : ps.take (k + 1) = ps.take k ++ [ps[k]] := List.take_succ_eq_append_getElem hlt'
      generalize ps[k] = q at hp htk
      have hpl : q.length = 32 := hp32 q (List.mem_of_getElem? hp)
      have hx2 := cb_rows hpl
      simp [go_sem] at hx2
      have hc : ctl true inner (ps.take (k + 1)) = ctl true inner (ps.take k) ++ q := by rw [htk]; simp [ctl]
      have hcl : (ctl true inner (ps.take k)).length ≤ 33 + 32 * k := by
        clear hc htk w
        have : (ps.take k).flatten.length ≤ 32 * k := by
          have h1 : ∀ l : List (List Nat), (∀ p, p ∈ l → p.length = 32) → l.flatten.length = 32 * l.length := by
            intro l
            induction l with
            | nil => intro _; rfl
            | cons a r ih => intro h; rw [List.flatten_cons, List.length_append, ih (fun p hp => h p (by simp [hp])), h a (by simp), List.length_cons]; omega
          rw [h1 _ (fun p hp => hp32 p (List.mem_of_mem_take hp)), List.length_take]
          omega
        unfold ctl; rw [List.length_cons, List.length_append, hi]; omega
      generalize ctl true inner (ps.take k) = L at *
      simp [go_sem, hs32, hp, cd_len, hpl, cd_map, cb_take hpl, cb_len, z32_drop, hx2, rb_len]
      first | refine ⟨by omega, ?_⟩ | skip
      refine next_of (k + 1) (by omega) (by omega) ?_
      rw [hc]
      have ra : rb (L ++ q) = rb L ++ rb q := by simp [rb]
      simp [Weak, slotOk, fv, lk, AV.low, AV.low1, hs32, w, hpl, ra]
      intro r hr
      exact hr.elim (rb_low _ _ r) (rb_low _ _ r)
    · have hkn : k = ps.length := by omega
      subst hkn
      simp only [List.take_length]
      simp [go_sem, resV]
      exact post_bldn (L := ctl true inner ps) rfl rfl (by simp [nb])
theorem leaf_len {inner : List Nat} (hi : inner.length = 32) (a b : AV) : (leafC inner a b).length = 34 := by simp [leafC, cb_len, hi]
theorem leaf_take2 {inner : List Nat} (hi : inner.length = 32) (a b : AV) : List.take 34 (leafC inner a b) = leafC inner a b := List.take_of_length_le (by rw [leaf_len hi]; exact Nat.le_refl _)
theorem r_b_beq {P : Program} {K : AV → Hp → Prop} {hp : Hp} (t : TypeId) (a b : Bool) : binW P .eql t (.d (.bool a)) (.d (.bool b)) K hp = (P.underlying t = some .bool ∧ K (.d (.bool (a == b))) hp) := rfl
theorem r_b_bne {P : Program} {K : AV → Hp → Prop} {hp : Hp} (t : TypeId) (a b : Bool) : binW P .neq t (.d (.bool a)) (.d (.bool b)) K hp = (P.underlying t = some .bool ∧ K (.d (.bool (a != b))) hp) := rfl
theorem und_bool : Tryz.prog.underlying 4 = some .bool := by kernel_rfl
attribute [go_sem] r_b_beq r_b_bne und_bool
theorem leafC_deep (inner : List Nat) (a b : DV) : (AV.agg (leafC inner (.d a) (.d b))).deep := by
  intro c hc
  unfold leafC at hc
  rcases List.mem_append.1 hc with h | h
  · exact cb_deep _ _ h
  · simp at h; rcases h with rfl | rfl <;> trivial
theorem cvS_nb {P : Program} {s t : TypeId} {Kk : AV → Hp → Prop} {hp : Hp} (l : List Nat) (el : TypeId) (hb : bytes l) (h1 : tyk P s = .slice el) (h2 : tyk P t = .str) (h3 : P.underlying el = some (.int .u8)) (hK : Kk (.d (.str (sb l))) hp) : cvS P s t (l.map fun (x : Nat) => [DV.int .u8 (x : Int)]) Kk hp := by
  refine ⟨sb l, by simp [sb], fun b h => ?_, ?_⟩
  · simp only [sb, List.mem_map] at h
    obtain ⟨x, hx, rfl⟩ := h
    have := hb x hx
    omega
  · rw [h1, h2]
    exact ⟨h3, hK⟩
end Go.Proofs.YtldccnbokbieiaaGreat
