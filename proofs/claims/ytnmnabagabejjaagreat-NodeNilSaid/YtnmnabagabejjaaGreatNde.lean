/-
  Answers laid into bytes: the answer of the tip.
-/
import Derived.Test.YtnmnabagabejjaaGreatNdd
namespace Go.Proofs.YtnmnabagabejjaaGreat
open Go.Am Go.Sha
set_option linter.unusedSimpArgs false
set_option linter.unusedVariables false

theorem put32_own (b : List Nat) (x : Nat) (hb : b.length ≤ 1000000) (hx : x < 4294967296) : RetsE Tryz.prog 96 0 [] [.d (nb b), .d (.int .u32 (x : Int))] (fun r hp' => r = .own 97 0 (b ++ le x 4).length (b ++ le x 4).length ∧ lk 97 hp' = some ⟨5, 1, rb (b ++ le x 4)⟩) := by
  refine fnE_of_awp Tryz.func96 (by kernel_rfl) rfl Tryz.ntmps96 (rs := [.tmp 4]) rfl (Nat.le_of_ble_eq_true rfl) (by decide) ?_
  simp [go_sem]
  refine cl_eff [] (lay32_own b x 4 hb hx (by omega)) rfl (by simp) (by simp) (by simp) (by simp [AV.renL, AV.ren]) ?_
  rintro r hp' ⟨rfl, h0⟩
  refine ⟨[(225, 0)], rfl, ?_⟩
  simp [go_sem, outH, outP, h0, Blk.ren, renR, rb_ren, AV.renL, AV.ren, rho, resV]
def wrB (i n : Nat) : Blk := ⟨275, 1, [[.own i 0 n n]]⟩
def lA34 : List Nat := 1 :: 0 :: z32
def lA38 : List Nat := lA34 ++ [0, 0, 0, 0]
theorem lA34_len : lA34.length = 34 := rfl
theorem lA38_len : lA38.length = 38 := rfl
theorem lA38_le : lA34 ++ le 0 4 = lA38 := rfl
theorem lA70_is : lA38 ++ z32 = 1 :: 0 :: ansL := rfl
set_option maxHeartbeats 4000000 in
theorem wname_fn : RetsE Tryz.prog 249 3 [(0, wrB 1 2), (1, ⟨5, 1, rb [1, 0]⟩), (2, ⟨68, 49, [aA 1]⟩)] [.ptr 0 0 0 1, .ptr 2 0 2 1]
    (fun r hp' => r = .tup [] ∧ lk 0 hp' = some (wrB 1 34) ∧ lk 1 hp' = some ⟨5, 1, rb lA34⟩ ∧ lk 2 hp' = some ⟨68, 49, [aA 1]⟩) := by
  refine fnE_of_awp Tryz.func249 (by kernel_rfl) rfl Tryz.ntmps249 (rs := []) rfl (Nat.le_of_ble_eq_true rfl) (by decide) ?_
  have hr : roR (some (aA 1)) 1 1 1 1 2 32 = some (rb z32) := by kernel_rfl
  simp [go_sem, aA_len] at hr
  have hs : rb [1, 0] ++ rb z32 = rb lA34 := rfl
  simp [go_sem]
  apply draw3 (0 :: 1 :: 2 :: 3 :: 4 :: 5 :: 6 :: 7 :: []) (8 :: 9 :: 10 :: 11 :: []) (0 :: 1 :: 2 :: 3 :: 4 :: 5 :: 6 :: 7 :: []) (.step 8 ([]) false (.step 9 ([]) false (.step 10 ([]) false (.step 11 ([]) false .done)))) ⟨[], [(0, (wrB 1 34)), (1, ⟨5, 1, rb lA34⟩), (2, ⟨68, 49, [aA 1]⟩)], 9000⟩ (k := 12) (by kernel_rfl) (by kernel_rfl) rfl
  case hz => repeat (first | exact Its.nil | apply Its.plain rfl | apply Its.guard rfl rfl)
  case hj => repeat (first | exact Tts.done | exact Its.nil | apply Tts.alt | apply Its.plain rfl | apply Its.guard rfl rfl | apply Tts.plain rfl | apply Tts.guard rfl rfl)
  case h3 =>
    intro G hG
    have hW : ∀ (fr : Fr) (hp : Hp), (lk 0 hp = some (wrB 1 34) ∧ lk 1 hp = some ⟨5, 1, rb lA34⟩ ∧ lk 2 hp = some ⟨68, 49, [aA 1]⟩) → G fr hp := by
      rintro fr hp ⟨q0, q1, q2⟩
      refine hG _ _ (weak_wk ⟨?_, ?_, by simp⟩)
      · simp [slotOk, AV.low, AV.low1, ]
      · intro q hq
        simp only [List.mem_cons, List.mem_nil_iff, or_false] at hq
        rcases hq with rfl | rfl | rfl
        · exact ⟨.inl q0, by simp, by simp [wrB, AV.low1]⟩
        · exact ⟨.inl q1, by simp, rb_low _ _⟩
        · exact ⟨.inl q2, by simp, one_low (aA_low 1) _⟩
    simp [go_sem, wrB, aA_len, rb_len, hr, hs]
    repeat' first | exact hW _ _ ⟨by simp [fv, lk, wrB, aA_len, rb_len, hr, hs]⟩ | apply And.intro | (refine hW _ _ ?_; simp [fv, lk, wrB, aA_len, rb_len, hr, hs])
  case hq =>
    simp [go_sem, resV, lk]
theorem put34_own : RetsE Tryz.prog 96 0 [] [.d (nb lA34), .d (.int .u32 0)] (fun r hp' => r = .own 97 0 38 38 ∧ lk 97 hp' = some ⟨5, 1, rb lA38⟩) := by
  have h := put32_own lA34 0 (by decide) (by omega)
  rw [lA38_le] at h
  exact h
theorem lA34_snap {hp : Hp} {I : Nat → Prop} {id : Nat} (hb : lk id hp = some ⟨5, 1, rb lA34⟩) (hI : I id) : SnapD hp I (.own id 0 34 34) (nb lA34) := by
  have h := snap_rb (i0 := 0) (n := 34) hb hI (by decide)
  exact h
set_option maxHeartbeats 4000000 in
theorem wshort_fn : RetsE Tryz.prog 250 3 [(0, wrB 1 34), (1, ⟨5, 1, rb lA34⟩), (2, ⟨68, 49, [aA 1]⟩)] [.ptr 0 0 0 1, .ptr 2 0 34 1]
    (fun r hp' => r = .tup [] ∧ lk 0 hp' = some (wrB 260 38) ∧ lk 260 hp' = some ⟨5, 1, rb lA38⟩ ∧ lk 2 hp' = some ⟨68, 49, [aA 1]⟩ ∧ lk 1 hp' = none) := by
  refine fnE_of_awp Tryz.func250 (by kernel_rfl) rfl Tryz.ntmps250 (rs := []) rfl (Nat.le_of_ble_eq_true rfl) (by decide) ?_
  simp [go_sem]
  apply draw3 (0 :: 1 :: 2 :: 3 :: 4 :: 5 :: 6 :: 7 :: []) (8 :: 9 :: 10 :: 11 :: []) (0 :: 1 :: 2 :: 3 :: 4 :: 5 :: 6 :: 7 :: []) (.step 8 ([]) false (.step 9 ([]) false (.step 10 ([]) false (.step 11 ([]) false .done)))) ⟨[], [(0, (wrB 260 38)), (260, ⟨5, 1, rb lA38⟩), (2, ⟨68, 49, [aA 1]⟩)], 9000⟩ (k := 12) (by kernel_rfl) (by kernel_rfl) rfl
  case hz => repeat (first | exact Its.nil | apply Its.plain rfl | apply Its.guard rfl rfl)
  case hj => repeat (first | exact Tts.done | exact Its.nil | apply Tts.alt | apply Its.plain rfl | apply Its.guard rfl rfl | apply Tts.plain rfl | apply Tts.guard rfl rfl)
  case h3 =>
    intro G hG
    have hW : ∀ (fr : Fr) (hp : Hp), (lk 0 hp = some (wrB 260 38) ∧ lk 260 hp = some ⟨5, 1, rb lA38⟩ ∧ lk 2 hp = some ⟨68, 49, [aA 1]⟩) → G fr hp := by
      rintro fr hp ⟨q0, q1, q2⟩
      refine hG _ _ (weak_wk ⟨?_, ?_, by simp⟩)
      · simp [slotOk, AV.low, AV.low1, ]
      · intro q hq
        simp only [List.mem_cons, List.mem_nil_iff, or_false] at hq
        rcases hq with rfl | rfl | rfl
        · exact ⟨.inl q0, by simp, by simp [wrB, AV.low1]⟩
        · exact ⟨.inl q1, by simp, rb_low _ _⟩
        · exact ⟨.inl q2, by simp, one_low (aA_low 1) _⟩
    simp [go_sem, wrB, aA_len, rb_len, aA_34]
    repeat' first
      | exact hW _ _ ⟨by simp [fv, lk, wrB]⟩
      | apply And.intro
      | (refine cl_effz [1] put34_own rfl (snap_cons (.one (snap1_d (lA34_snap (by rfl) (by simp)))) (snap_cons (.deep (by simp [AV.deep, AV.deep1])) snap_nil)) (by intro ρ; rfl) ?_
         rintro r hp' ⟨rfl, h0⟩
         refine ⟨[(97, 0)], rfl, ?_⟩
         simp [go_sem, outH, outP, h0, Blk.ren, renR, rb_ren, AV.renL, AV.ren, rho, dropH, lk])
      | (refine hW _ _ ?_; simp [fv, lk, wrB]; done)
  case hq =>
    simp [go_sem, resV, lk]
theorem w4Z_low (n : Nat) : ∀ v, v ∈ w4Z → v.low1 n := by
  intro v hv
  simp [w4Z] at hv
  subst hv
  trivial
theorem wb0_is : rb lA38 ++ rb z32 = rb (1 :: 0 :: ansL) := rfl
set_option maxHeartbeats 4000000 in
theorem wb0_fn : Rets Tryz.prog 354 [.agg w4Z] (fun r => r = .agg (cb z32)) := by
  refine fn_of_awp Tryz.func354 (by kernel_rfl) rfl Tryz.ntmps354 (rs := [.cell 2 61]) rfl (Nat.le_of_ble_eq_true rfl) (by intro v hv; simp at hv; subst hv; intro c hc; simp [w4Z] at hc; subst hc; trivial) ?_
  have hz : (cb z32).length = 32 := rfl
  simp [go_sem, w4Z_len]
  refine loop_of (fun k : Nat => ⟨[(1, .ptr 0 0 0 1), (2, .ptr 32 0 0 1), (3, .ptr 64 0 0 1), (5, .d (.int .i64 (k : Int)))], [(64, ⟨61, 32, [cb z32]⟩), (32, ⟨61, 32, [cb z32]⟩), (0, ⟨64, 4, [w4Z]⟩)], 20000⟩)
    (fun k => k ≤ 32) (fun k => 32 - k) 0 (by omega) (by
      simp [Weak, slotOk, fv, lk, AV.low, AV.low1]
      exact ⟨cb_low _ _, w4Z_low _⟩) ?_
  intro k hk
  have w3 := next_i64 (k := k) (by omega)
  simp only [go_sem, Nat.reduceEqDiff, Nat.reduceAdd, Nat.reduceLT, ↓reduceIte, Nat.reduceMul]
  refine ⟨fun h => ?_, fun h => ?_⟩
  · have w4 : IntKind.i64.wrap ((k : Int) / 8) = ((k / 8 : Nat) : Int) := by rw [IntWalk.i64_in _ (by omega)]; omega
    have w4b : IntKind.i64.wrap ((k : Int).tdiv 8) = ((k / 8 : Nat) : Int) := w4
    have e2 : IntKind.i64.wrap (8 * ((k : Int) % 8)) = ((8 * (k % 8) : Nat) : Int) := by rw [IntWalk.i64_in _ (by omega)]; omega
    have e2b : IntKind.i64.wrap (8 * ((k : Int).tmod 8)) = ((8 * (k % 8) : Nat) : Int) := e2
    have e3 : IntKind.i64.wrap (31 - (k : Int)) = ((31 - k : Nat) : Int) := by rw [IntWalk.i64_in _ (by omega)]; omega
    have hw : w4Z[((k : Int) / 8).toNat]? = some (.d (.int .u64 0)) := by
      obtain ⟨j, hj⟩ : ∃ j, ((k : Int) / 8).toNat = j := ⟨_, rfl⟩
      have hj4 : j < 4 := by omega
      rw [hj]
      match j, hj4 with
      | 0, _ => rfl
      | 1, _ => rfl
      | 2, _ => rfl
      | 3, _ => rfl
    have hset : (cb z32).set (31 - k) (.d (.int .u8 0)) = cb z32 := by
      have := cb_set z32 (31 - k) 0
      rw [show z32.set (31 - k) 0 = z32 from List.set_replicate_self] at this
      exact this
    have f0 : ∀ n : Nat, Int.fdiv 0 (2 ^ n) = 0 := fun n => Int.zero_fdiv _
    have v8 : IntKind.u8.wrap 0 = 0 := by decide
    have i1 : 31 - k < 32 := by omega
    simp [go_sem, w4, w4b, e2, e2b, e3, hw, f0, v8, hset, hz, i1, w3]
    refine ⟨by omega, by omega, by omega, by omega, ?_⟩
    refine next_of (k + 1) (by omega) (by omega) ?_
    simp [Weak, slotOk, fv, lk, AV.low, AV.low1]
    exact ⟨cb_low _ _, w4Z_low _⟩
  · have hk2 : k = 32 := by omega
    subst hk2
    simp [go_sem, resV, hz, cz_take]
    exact post_same (cb_deepA _) rfl
set_option maxHeartbeats 4000000 in
theorem wwork_fn : RetsE Tryz.prog 253 3 [(0, wrB 1 38), (1, ⟨5, 1, rb lA38⟩), (2, ⟨68, 49, [aA 1]⟩)] [.ptr 0 0 0 1, .ptr 2 0 35 1]
    (fun r hp' => r = .tup [] ∧ lk 0 hp' = some (wrB 1 70) ∧ lk 1 hp' = some ⟨5, 1, rb (1 :: 0 :: ansL)⟩ ∧ lk 2 hp' = some ⟨68, 49, [aA 1]⟩) := by
  refine fnE_of_awp Tryz.func253 (by kernel_rfl) rfl Tryz.ntmps253 (rs := []) rfl (Nat.le_of_ble_eq_true rfl) (by decide) ?_
  have hr : roR (some (cb z32)) 1 1 1 1 0 32 = some (rb z32) := by kernel_rfl
  simp [go_sem, cz_len] at hr
  have hw : List.take 4 (List.drop 35 (aA 1)) = w4Z := rfl
  have hzz : tzO Tryz.prog 61 = some (cb z32) := by kernel_rfl
  have hd : List.drop 32 (cb z32) = [] := rfl
  simp [go_sem, aA_len, hw]
  refine cl_eq wb0_fn (by intro v hv; simp at hv; subst hv; intro c hc; simp [w4Z] at hc; subst hc; trivial) ?_
  simp [go_sem, hzz, cz_len, cz_take, hd]
  apply draw3 (0 :: 1 :: 2 :: 3 :: 4 :: 5 :: []) (6 :: 7 :: 8 :: 9 :: []) (0 :: 1 :: 2 :: 3 :: 4 :: 5 :: []) (.step 6 ([]) false (.step 7 ([]) false (.step 8 ([]) false (.step 9 ([]) false .done)))) ⟨[], [(0, (wrB 1 70)), (1, ⟨5, 1, rb (1 :: 0 :: ansL)⟩), (2, ⟨68, 49, [aA 1]⟩)], 9000⟩ (k := 10) (by kernel_rfl) (by kernel_rfl) rfl
  case hz => repeat (first | exact Its.nil | apply Its.plain rfl | apply Its.guard rfl rfl)
  case hj => repeat (first | exact Tts.done | exact Its.nil | apply Tts.alt | apply Its.plain rfl | apply Its.guard rfl rfl | apply Tts.plain rfl | apply Tts.guard rfl rfl)
  case h3 =>
    intro G hG
    have hW : ∀ (fr : Fr) (hp : Hp), (lk 0 hp = some (wrB 1 70) ∧ lk 1 hp = some ⟨5, 1, rb (1 :: 0 :: ansL)⟩ ∧ lk 2 hp = some ⟨68, 49, [aA 1]⟩) → G fr hp := by
      rintro fr hp ⟨q0, q1, q2⟩
      refine hG _ _ (weak_wk ⟨?_, ?_, by simp⟩)
      · simp [slotOk, AV.low, AV.low1, ]
      · intro q hq
        simp only [List.mem_cons, List.mem_nil_iff, or_false] at hq
        rcases hq with rfl | rfl | rfl
        · exact ⟨.inl q0, by simp, by simp [wrB, AV.low1]⟩
        · exact ⟨.inl q1, by simp, rb_low _ _⟩
        · exact ⟨.inl q2, by simp, one_low (aA_low 1) _⟩
    simp [go_sem, wrB, cz_len, rb_len, hr, wb0_is, lA38_len]
    repeat' first | exact hW _ _ ⟨by simp [fv, lk, wrB, cz_len, rb_len, hr, wb0_is, lA38_len]⟩ | apply And.intro | (refine hW _ _ ?_; simp [fv, lk, wrB, cz_len, rb_len, hr, wb0_is, lA38_len])
  case hq =>
    simp [go_sem, resV, lk]
theorem laying_fn : RetsE Tryz.prog 158 2 [(0, wrB 1 2), (1, ⟨5, 1, rb [1, 0]⟩)] [.ptr 0 0 0 1]
    (fun r hp' => r = .agg wrP ∧ lk 0 hp' = some (wrB 1 2) ∧ lk 1 hp' = some ⟨5, 1, rb [1, 0]⟩) := by
  refine fnE_of_awp Tryz.func158 (by kernel_rfl) rfl Tryz.ntmps158 (rs := [.cell 2 198]) rfl (Nat.le_of_ble_eq_true rfl) (by decide) ?_
  simp [go_sem, resV, lk, wrB, wrP]
set_option maxHeartbeats 2000000 in
theorem wans_fn : RetsE Tryz.prog 91 3 [(0, wrB 1 2), (1, ⟨5, 1, rb [1, 0]⟩), (2, ⟨68, 49, [aA 1]⟩)] [.agg wrP, .ptr 2 0 0 1]
    (fun r hp' => r = .tup [] ∧ lk 0 hp' = some (wrB 580 70) ∧ lk 580 hp' = some ⟨5, 1, rb (1 :: 0 :: ansL)⟩ ∧ lk 2 hp' = some ⟨68, 49, [aA 1]⟩ ∧ lk 1 hp' = none) := by
  refine fnE_of_awp Tryz.func91 (by kernel_rfl) rfl Tryz.ntmps91 (rs := []) rfl (Nat.le_of_ble_eq_true rfl) (by decide) ?_
  simp [go_sem, resV, lk, wrP, aA_h, aA_len]
  apply draw2 (0 :: 1 :: 2 :: 3 :: 4 :: []) ((5, ([])) :: []) 0 (k := 6) (by kernel_rfl) (by kernel_rfl) rfl
  case hz => repeat (first | exact Its.nil | apply Its.plain rfl | apply Its.guard rfl rfl)
  case hj => repeat (first | exact Jts.nil | exact Its.nil | apply Its.plain rfl | apply Its.guard rfl rfl | apply Jts.plain rfl | apply Jts.guard rfl rfl)
  intro G hG
  simp [go_sem]
  refine cl_eff [(0, 0), (1, 1), (2, 2)] wname_fn rfl (by simp) (by simp [lk, wrB, wrP, aA_ren, rb_ren]) (by simp [lk, Blk.ren, renR, AV.ren, AV.renL, rho, swp, wrB, wrP, aA_ren, rb_ren]) (by simp [AV.renL, AV.ren, rho, swp, lk, wrB, wrP, aA_ren, rb_ren]) ?_
  rintro r hp' ⟨rfl, h0, h1, h2⟩
  refine ⟨[], rfl, ?_⟩
  simp [go_sem, outH, outP, h0, h1, h2, Blk.ren, renR, AV.ren, AV.renL, rho, lk, wrB, wrP, aA_ren, rb_ren]
  clear h0 h1 h2 hp'
  refine hG _ _ ?_
  clear hG G
  simp [go_sem]
  apply draw2 (0 :: 1 :: 2 :: 3 :: 4 :: []) ((5, ([])) :: []) 0 (k := 6) (by kernel_rfl) (by kernel_rfl) rfl
  case hz => repeat (first | exact Its.nil | apply Its.plain rfl | apply Its.guard rfl rfl)
  case hj => repeat (first | exact Jts.nil | exact Its.nil | apply Its.plain rfl | apply Its.guard rfl rfl | apply Jts.plain rfl | apply Jts.guard rfl rfl)
  intro G hG
  simp [go_sem]
  refine cl_eff [(0, 0), (1, 1), (2, 2)] wshort_fn rfl (by simp) (by simp [lk, wrB, wrP, aA_ren, rb_ren]) (by simp [lk, Blk.ren, renR, AV.ren, AV.renL, rho, swp, wrB, wrP, aA_ren, rb_ren]) (by simp [AV.renL, AV.ren, rho, swp, lk, wrB, wrP, aA_ren, rb_ren]) ?_
  rintro r hp' ⟨rfl, h0, h1, h2, h3⟩
  refine ⟨[(260, 0)], rfl, ?_⟩
  simp [go_sem, outH, outP, h0, h1, h2, h3, Blk.ren, renR, AV.ren, AV.renL, rho, lk, wrB, wrP, aA_ren, rb_ren]
  clear h0 h1 h2 h3 hp'
  refine hG _ _ ?_
  clear hG G
  simp [go_sem]
  apply draw2 (0 :: 1 :: 2 :: 3 :: 4 :: []) ((5, ([])) :: []) 0 (k := 6) (by kernel_rfl) (by kernel_rfl) rfl
  case hz => repeat (first | exact Its.nil | apply Its.plain rfl | apply Its.guard rfl rfl)
  case hj => repeat (first | exact Jts.nil | exact Its.nil | apply Its.plain rfl | apply Its.guard rfl rfl | apply Jts.plain rfl | apply Jts.guard rfl rfl)
  intro G hG
  simp [go_sem]
  refine cl_eff [(0, 0), (1, 580), (2, 2)] wwork_fn rfl (by simp) (by simp [lk, wrB, wrP, aA_ren, rb_ren]) (by simp [lk, Blk.ren, renR, AV.ren, AV.renL, rho, swp, wrB, wrP, aA_ren, rb_ren]) (by simp [AV.renL, AV.ren, rho, swp, lk, wrB, wrP, aA_ren, rb_ren]) ?_
  rintro r hp' ⟨rfl, h0, h1, h2⟩
  refine ⟨[], rfl, ?_⟩
  simp [go_sem, outH, outP, h0, h1, h2, Blk.ren, renR, AV.ren, AV.renL, rho, lk, wrB, wrP, aA_ren, rb_ren]
  clear h0 h1 h2 hp'
  refine hG _ _ ?_
  clear hG G
  simp [go_sem, resV, lk, wrB]
theorem cvS_nbN {P : Program} {s t : TypeId} {Kk : AV → Hp → Prop} {hp : Hp} (el : TypeId) (h1 : tyk P s = .slice el) (h2 : tyk P t = .str) (h3 : P.underlying el = some (.int .u8)) (hK : Kk (.d (.str [])) hp) : cvS P s t [] Kk hp := by
  refine ⟨[], by simp, by simp, ?_⟩
  rw [h1, h2]
  exact ⟨h3, hK⟩
theorem r_b_beqN {P : Program} {K : AV → Hp → Prop} {hp : Hp} (t : TypeId) (a b : Bool) : binW P .eql t (.d (.bool a)) (.d (.bool b)) K hp = (P.underlying t = some .bool ∧ K (.d (.bool (a == b))) hp) := rfl
theorem eqN_fn : Rets Tryz.prog 52 [.d (nb []), .d (nb [])] (fun r => r = .d (.bool true)) := by
  refine fn_of_awp Tryz.func52 (by kernel_rfl) rfl Tryz.ntmps52 (rs := [.tmp 4]) rfl (Nat.le_of_ble_eq_true rfl) (by simp [AV.deep, AV.deep1]) ?_
  simp [go_sem, nb]
  refine cvS_nbN 5 (by simp [go_sem]) (by simp [go_sem]) Tryz.underlying5 ?_
  simp [go_sem]
  refine cvS_nbN 5 (by simp [go_sem]) (by simp [go_sem]) Tryz.underlying5 ?_
  simp [go_sem, resV]
  exact post_same (by simp [AV.deep, AV.deep1]) rfl
theorem eqE_fn : Rets Tryz.prog 257 [.nil, .nil] (fun r => r = .d (.bool true)) := by
  refine fn_of_awp Tryz.func257 (by kernel_rfl) rfl Tryz.ntmps257 (rs := [.tmp 4]) rfl (Nat.le_of_ble_eq_true rfl) (by simp [AV.deep, AV.deep1]) ?_
  simp [go_sem]
  refine loop_of (fun _ : Unit => ⟨[(0, .nil), (1, .nil), (12, .d (.int .i64 0)), (13, .d (.int .i64 0))], [], 1000⟩)
    (fun _ => True) (fun _ => 0) () trivial (by
      simp [Weak, slotOk, fv, lk, AV.low, AV.low1]) ?_
  intro _ _
  simp [go_sem, resV]
  exact post_same (by simp [AV.deep, AV.deep1]) rfl
theorem eqH_fn : Rets Tryz.prog 258 [.nil, .nil] (fun r => r = .d (.bool true)) := by
  refine fn_of_awp Tryz.func258 (by kernel_rfl) rfl Tryz.ntmps258 (rs := [.tmp 4]) rfl (Nat.le_of_ble_eq_true rfl) (by simp [AV.deep, AV.deep1]) ?_
  simp [go_sem]
  refine loop_of (fun _ : Unit => ⟨[(0, .nil), (1, .nil), (12, .d (.int .i64 0)), (13, .d (.int .i64 0))], [], 1000⟩)
    (fun _ => True) (fun _ => 0) () trivial (by
      simp [Weak, slotOk, fv, lk, AV.low, AV.low1]) ?_
  intro _ _
  simp [go_sem, resV]
  exact post_same (by simp [AV.deep, AV.deep1]) rfl
theorem w4Z_ints : intsOf .u64 w4Z = some [0, 0, 0, 0] := rfl
theorem n5Z_ints : intsOf .u32 n5Z = some [0, 0, 0, 0, 0] := rfl
theorem n5Z_len : n5Z.length = 5 := rfl
theorem aA_39 (op : Int) : (aA op)[39]? = some (.d (.int .u64 0)) := rfl
theorem aA_40 (op : Int) : (aA op)[40]? = some (.d (.bool false)) := rfl
theorem aA_41 (op : Int) : (aA op)[41]? = some .nil := rfl
theorem aA_42 (op : Int) : (aA op)[42]? = some .nil := rfl
theorem aA_48 (op : Int) : (aA op)[48]? = some .nil := rfl
theorem aA_nums (op : Int) : ((aA op).drop 43).take 5 = n5Z := rfl
set_option maxRecDepth 20000 in
set_option maxHeartbeats 8000000 in
theorem same_fn : Rets Tryz.prog 159 [.agg (aA 1), .agg (aA 1)] (fun r => r = .d (.bool true)) := by
  refine fn_of_awp Tryz.func159 (by kernel_rfl) rfl Tryz.ntmps159 (rs := [.tmp 4]) rfl (Nat.le_of_ble_eq_true rfl) (by intro v hv; simp at hv; subst hv; exact aA_deep 1) ?_
  simp [go_sem, aA_len, aA_h, aA_1, aA_34, aA_39, aA_40, aA_41, aA_42, aA_48, aA_nums, aA_name, aA_work, ints_cb, w4Z_ints, n5Z_ints, n5Z_len, w4Z_len, cz_len, r_b_beqN, Tryz.underlying4]
  refine cl_froz [] eqN_fn rfl (snap_cons (.one (snap1_d (.nil 1))) (snap_cons (.one (snap1_d (.nil 1))) snap_nil)) ?_
  simp [go_sem, dropH, aA_len, aA_42, aA_48]
  refine cl_eq eqE_fn (by simp [AV.deep, AV.deep1]) ?_
  simp [go_sem, dropH, aA_len, aA_42, aA_48]
  refine cl_eq eqH_fn (by simp [AV.deep, AV.deep1]) ?_
  simp [go_sem, resV]
  exact post_same (by simp [AV.deep, AV.deep1]) rfl
theorem aA_flat (op : Int) : ∀ v, v ∈ aA op → v.flat1 := by
  intro v hv
  simp only [aA, w4Z, n5Z, List.mem_cons, List.mem_append, List.mem_nil_iff, or_false] at hv
  rcases hv with rfl | rfl | hv | rfl | (rfl | rfl | rfl | rfl) | rfl | rfl | rfl | rfl | (rfl | rfl | rfl | rfl | rfl) | rfl
  · trivial
  · trivial
  · obtain ⟨_, _, rfl⟩ := List.mem_map.1 hv
    trivial
  all_goals trivial
theorem tupF (op : Int) (b : Bool) : (AV.tup [.agg (aA op), .d (.bool b)]).flat := by
  intro c hc
  simp only [List.mem_cons, List.mem_nil_iff, or_false] at hc
  rcases hc with rfl | rfl
  · exact .inr ⟨_, rfl, aA_flat op⟩
  · exact .inl trivial
theorem ansL_snap {hp : Hp} {I : Nat → Prop} {id : Nat} (hb : lk id hp = some ⟨5, 1, rb (1 :: 0 :: ansL)⟩) (hI : I id) : SnapD hp I (.own id 0 70 70) (nb (1 :: 0 :: ansL)) := by
  have h := snap_rb (i0 := 0) (n := 70) hb hI (by decide)
  exact h
theorem post_bE {st : St} {id : Nat} (hb : lk id st.hp = some ⟨5, 1, rb (1 :: 0 :: ansL)⟩) : PostK (fun r => r = .tup [.d (nb (1 :: 0 :: ansL)), .d (.int .i64 0)]) (.tup [.own id 0 70 70, .d (.int .i64 0)]) st := by
  refine post_tup (fun i c c' h1 h2 => ?_) (cs' := [.d (nb (1 :: 0 :: ansL)), .d (.int .i64 0)]) rfl (by simp [AV.deep, AV.deep1]) rfl
  match i with
  | 0 => simp at h1 h2; subst h1; subst h2; exact snap1_d (ansL_snap hb trivial)
  | 1 => simp at h1 h2; subst h1; subst h2; exact .inl ⟨rfl, trivial⟩
  | i + 2 => simp at h1
set_option maxHeartbeats 8000000 in
theorem putA_fn : Rets Tryz.prog 88 [.agg (aA 1)] (fun r => r = .tup [.d (nb (1 :: 0 :: ansL)), .d (.int .i64 0)]) := by
  refine fn_of_awp Tryz.func88 (by kernel_rfl) rfl Tryz.ntmps88 (rs := [.tmp 2, .tmp 3]) rfl (Nat.le_of_ble_eq_true rfl) (by intro v hv; simp at hv; subst hv; exact aA_deep 1) ?_
  have v0 : IntKind.u8.wrap 0 = 0 := by decide
  simp [go_sem, zans, aA_len, aA_take, aA_h, aA_1, aA_1g, aA_dh, aA_d, v0]
  refine cl_eff [(0, 576), (1, 512)] laying_fn rfl (by simp) (by simp [lk, wrB, wrP, rb]) (by simp [lk, Blk.ren, renR, AV.ren, AV.renL, rho, swp, wrB, wrP, rb]) (by simp [AV.renL, AV.ren, rho, swp, lk, wrB, wrP, rb]) ?_
  rintro r hp' ⟨rfl, h0, h1⟩
  refine ⟨[], rfl, ?_⟩
  simp [go_sem, outH, outP, h0, h1, Blk.ren, renR, AV.ren, AV.renL, rho, lk, wrB, wrP, rb]
  clear h0 h1 hp'
  refine cl_eff [(0, 576), (1, 512), (2, 672)] wans_fn rfl (by simp) (by simp [lk, wrB, wrP, aA_ren, rb]) (by simp [lk, Blk.ren, renR, AV.ren, AV.renL, rho, swp, wrB, wrP, aA_ren, rb]) (by simp [AV.renL, AV.ren, rho, swp, lk, wrB, wrP, aA_ren, rb]) ?_
  rintro r hp' ⟨rfl, h0, h1, h2, h3⟩
  refine ⟨[(580, 0)], rfl, ?_⟩
  simp [go_sem, outH, outP, h0, h1, h2, h3, Blk.ren, renR, AV.ren, AV.renL, rho, lk, wrB, wrP, aA_ren, rb]
  clear h0 h1 h2 h3 hp'
  refine cl_snap readA_fn rfl (snap_cons (.one (snap1_d (ansL_snap (by rfl) trivial))) snap_nil) (tupF 1 true) ?_
  simp [go_sem, zans, aA_len, aA_take, aA_d]
  refine cl_eq same_fn (by intro v hv; simp at hv; subst hv; exact aA_deep 1) ?_
  simp [go_sem, resV, lk]
  exact post_bE rfl
end Go.Proofs.YtnmnabagabejjaaGreat
