/-
  The field, only as far as that what is reckoned is a function of what it is reckoned of.
-/
import Derived.Test.YtgeabjjgeeakdaaWdc
namespace Go.Proofs.Ytgeabjjgeeakdaa
open Go.Am Go.Sha
set_option linter.unusedSimpArgs false
set_option linter.unusedVariables false

def W1 (f : FuncId) (a b : List Int) : Prop := Rets Try.prog f [.agg (cI a)] (fun r => r = .agg (cI b))
def W2 (f : FuncId) (a b c : List Int) : Prop := Rets Try.prog f [.agg (cI a), .agg (cI b)] (fun r => r = .agg (cI c))
theorem post_w {Q : AV → Prop} {st : St} {a : List Int} (hq : Q (.agg (cI a))) : PostK Q (.agg (cI a)) st := post_same (cI_deepA _) hq
theorem fromI_fn (x : Int) : Rets Try.prog 35 [.d (.int .u64 x)] (fun r => r = .agg (cI [x, 0, 0, 0])) := by
  refine fn_of_awp Try.func35 (by kernel_rfl) rfl Try.ntmps35 (rs := [.cell 2 69]) rfl (Nat.le_of_ble_eq_true rfl) (by simp [AV.deep, AV.deep1]) ?_
  simp [go_sem, cI, zI, resV]
  exact post_w (a := [x, 0, 0, 0]) rfl
theorem fromI_W {x : Int} (h : R64 x) : Wn 4 [x, 0, 0, 0] := ⟨rfl, by intro y hy; simp at hy; rcases hy with rfl | rfl | rfl | rfl <;> first | exact h | exact R64_0⟩
def prI : List Int := [18446744069414583343, 18446744073709551615, 18446744073709551615, 18446744073709551615]
theorem prI_W : Wn 4 prI := ⟨rfl, by intro y hy; simp [prI] at hy; rcases hy with rfl | rfl <;> exact ⟨by omega, by omega⟩⟩
theorem primeI_fn : Rets Try.prog 65 [] (fun r => r = .agg (cI prI)) := by
  refine fn_of_awp Try.func65 (by kernel_rfl) rfl Try.ntmps65 (rs := [.cell 0 69]) rfl (Nat.le_of_ble_eq_true rfl) (by simp [AV.deep, AV.deep1]) ?_
  simp [go_sem, cI, zI, resV]
  exact post_w (a := prI) rfl
set_option maxRecDepth 20000 in
set_option maxHeartbeats 4000000 in
theorem reduce_ex (a : List Int) (ha : Wn 4 a) : ∃ r, Wn 4 r ∧ W1 70 a r := by
  obtain ⟨d, c, hd, hc, hf⟩ := wsub_ex a prI ha prI_W
  have hal := ha.1
  have hdl := hd.1
  by_cases h0 : c = 0
  · refine ⟨d, hd, ?_⟩
    unfold W1
    refine fn_of_awp Try.func70 (by kernel_rfl) rfl Try.ntmps70 (rs := [.cell 2 69]) rfl (Nat.le_of_ble_eq_true rfl) (one_cI a) ?_
    simp [go_sem, hal, cI_take hal]
    apply draw3 (0 :: []) (1 :: 2 :: 6 :: 7 :: []) (0 :: 3 :: 4 :: 5 :: 8 :: []) (.alt (.step 1 ([]) true (.alt (.step 2 (3 :: 4 :: 5 :: []) true (.step 6 ([]) true (.step 7 (8 :: []) true .done))) (.step 6 ([]) true (.step 2 (3 :: 4 :: 5 :: []) true (.step 7 (8 :: []) true .done))))) (.step 6 ([]) true (.step 1 ([]) true (.step 2 (3 :: 4 :: 5 :: []) true (.step 7 (8 :: []) true .done))))) ⟨[(1, .ptr 0 0 0 1), (2, .ptr 32 0 0 1), (3, .ptr 256 0 0 1), (4, .d (.int .u64 c))], [(256, ⟨69, 4, [cI d]⟩), (32, ⟨69, 4, [cI zI]⟩), (0, ⟨69, 4, [cI a]⟩)], 9000⟩ (k := 9) (by kernel_rfl) (by kernel_rfl) rfl
    case hz => repeat (first | exact Its.nil | apply Its.plain rfl | apply Its.guard rfl rfl)
    case hj => repeat (first | exact Tts.done | exact Its.nil | apply Tts.alt | apply Its.plain rfl | apply Its.guard rfl rfl | apply Tts.plain rfl | apply Tts.guard rfl rfl)
    case h3 =>
      intro G hG
      have hW : ∀ fr : Fr, (fv 1 fr = .ptr 0 0 0 1 ∧ fv 2 fr = .ptr 32 0 0 1 ∧ fv 3 fr = .ptr 256 0 0 1 ∧ fv 4 fr = .d (.int .u64 c)) → G fr [(256, ⟨69, 4, [cI d]⟩), (32, ⟨69, 4, [cI zI]⟩), (0, ⟨69, 4, [cI a]⟩)] := by
        rintro fr ⟨e1, e2, e3, e4⟩
        refine hG _ _ (weak_wk ?_)
        simp only [Weak, slotOk]
        refine ⟨fun p hp => ?_, fun p hp => ?_, by simp⟩
        · simp only [List.mem_cons, List.mem_nil_iff, or_false] at hp
          rcases hp with rfl | rfl | rfl | rfl
          · exact ⟨.inl e1.symm, by simp [AV.low, AV.low1]⟩
          · exact ⟨.inl e2.symm, by simp [AV.low, AV.low1]⟩
          · exact ⟨.inl e3.symm, by simp [AV.low, AV.low1]⟩
          · exact ⟨.inl e4.symm, by simp [AV.low, AV.low1]⟩
        · simp only [List.mem_cons, List.mem_nil_iff, or_false] at hp
          rcases hp with rfl | rfl | rfl <;> exact ⟨.inl rfl, by simp, by intro r hr; simp only [List.mem_cons, List.mem_nil_iff, or_false] at hr; subst hr; exact cI_low _ _⟩
      simp [go_sem, hal, cI_take hal, SaW]
      repeat' first | exact hW _ ⟨rfl, rfl, rfl, rfl⟩ | (refine hW _ ?_; simp [fv, lk]; done) | refine cl_eq primeI_fn (by simp) ?_ | refine cl_eq hf (two_cI _ _) ?_ | apply And.intro | simp [go_sem, hal, cI_take hal, hdl, cI_take hdl, cI_drop (l := zI) (n := 4) rfl, SaW]
    case hq =>
      simp [go_sem, h0, hdl, cI_take hdl, cI_drop (l := zI) (n := 4) rfl, resV]
      exact post_w rfl
  · refine ⟨a, ha, ?_⟩
    unfold W1
    refine fn_of_awp Try.func70 (by kernel_rfl) rfl Try.ntmps70 (rs := [.cell 2 69]) rfl (Nat.le_of_ble_eq_true rfl) (one_cI a) ?_
    simp [go_sem, hal, cI_take hal]
    apply draw3 (0 :: []) (1 :: 2 :: 6 :: 7 :: []) (0 :: 3 :: 4 :: 5 :: 8 :: []) (.alt (.step 1 ([]) true (.alt (.step 2 (3 :: 4 :: 5 :: []) true (.step 6 ([]) true (.step 7 (8 :: []) true .done))) (.step 6 ([]) true (.step 2 (3 :: 4 :: 5 :: []) true (.step 7 (8 :: []) true .done))))) (.step 6 ([]) true (.step 1 ([]) true (.step 2 (3 :: 4 :: 5 :: []) true (.step 7 (8 :: []) true .done))))) ⟨[(1, .ptr 0 0 0 1), (2, .ptr 32 0 0 1), (3, .ptr 256 0 0 1), (4, .d (.int .u64 c))], [(256, ⟨69, 4, [cI d]⟩), (32, ⟨69, 4, [cI zI]⟩), (0, ⟨69, 4, [cI a]⟩)], 9000⟩ (k := 9) (by kernel_rfl) (by kernel_rfl) rfl
    case hz => repeat (first | exact Its.nil | apply Its.plain rfl | apply Its.guard rfl rfl)
    case hj => repeat (first | exact Tts.done | exact Its.nil | apply Tts.alt | apply Its.plain rfl | apply Its.guard rfl rfl | apply Tts.plain rfl | apply Tts.guard rfl rfl)
    case h3 =>
      intro G hG
      have hW : ∀ fr : Fr, (fv 1 fr = .ptr 0 0 0 1 ∧ fv 2 fr = .ptr 32 0 0 1 ∧ fv 3 fr = .ptr 256 0 0 1 ∧ fv 4 fr = .d (.int .u64 c)) → G fr [(256, ⟨69, 4, [cI d]⟩), (32, ⟨69, 4, [cI zI]⟩), (0, ⟨69, 4, [cI a]⟩)] := by
        rintro fr ⟨e1, e2, e3, e4⟩
        refine hG _ _ (weak_wk ?_)
        simp only [Weak, slotOk]
        refine ⟨fun p hp => ?_, fun p hp => ?_, by simp⟩
        · simp only [List.mem_cons, List.mem_nil_iff, or_false] at hp
          rcases hp with rfl | rfl | rfl | rfl
          · exact ⟨.inl e1.symm, by simp [AV.low, AV.low1]⟩
          · exact ⟨.inl e2.symm, by simp [AV.low, AV.low1]⟩
          · exact ⟨.inl e3.symm, by simp [AV.low, AV.low1]⟩
          · exact ⟨.inl e4.symm, by simp [AV.low, AV.low1]⟩
        · simp only [List.mem_cons, List.mem_nil_iff, or_false] at hp
          rcases hp with rfl | rfl | rfl <;> exact ⟨.inl rfl, by simp, by intro r hr; simp only [List.mem_cons, List.mem_nil_iff, or_false] at hr; subst hr; exact cI_low _ _⟩
      simp [go_sem, hal, cI_take hal, SaW]
      repeat' first | exact hW _ ⟨rfl, rfl, rfl, rfl⟩ | (refine hW _ ?_; simp [fv, lk]; done) | refine cl_eq primeI_fn (by simp) ?_ | refine cl_eq hf (two_cI _ _) ?_ | apply And.intro | simp [go_sem, hal, cI_take hal, hdl, cI_take hdl, cI_drop (l := zI) (n := 4) rfl, SaW]
    case hq =>
      simp [go_sem, h0, hal, cI_take hal, cI_drop (l := zI) (n := 4) rfl, resV]
      exact post_w rfl
theorem ov_R : R64 4294968273 := ⟨by omega, by omega⟩
theorem wl_deep (a : List Int) (c : Int) : ∀ v, v ∈ [AV.agg (cI a), AV.d (.int .u64 c)] → v.deep := by
  intro v hv; simp at hv; rcases hv with rfl | rfl; exact cI_deepA _; trivial
set_option maxRecDepth 20000 in
set_option maxHeartbeats 4000000 in
theorem liftF_ex (a : List Int) (c : Int) (ha : Wn 4 a) : ∃ r, Wn 4 r ∧ Rets Try.prog 84 [.agg (cI a), .d (.int .u64 c)] (fun x => x = .agg (cI r)) := by
  obtain ⟨r1, hr1, f1⟩ := reduce_ex a ha
  obtain ⟨s, d, hs, hd, f2⟩ := wadd_ex a [4294968273, 0, 0, 0] ha (fromI_W ov_R)
  obtain ⟨r2, hr2, f3⟩ := reduce_ex s hs
  unfold W1 at f1 f3
  have hal := ha.1
  have hsl := hs.1
  have h1l := hr1.1
  have h2l := hr2.1
  by_cases h0 : c = 0
  · refine ⟨r1, hr1, ?_⟩
    refine fn_of_awp Try.func84 (by kernel_rfl) rfl Try.ntmps84 (rs := [.cell 4 69]) rfl (Nat.le_of_ble_eq_true rfl) (wl_deep a c) ?_
    simp [go_sem, hal, cI_take hal, h0]
    refine cl_eq f1 (one_cI _) ?_
    simp [go_sem, h1l, cI_take h1l, cI_drop (l := zI) (n := 4) rfl, resV]
    exact post_w rfl
  · refine ⟨r2, hr2, ?_⟩
    refine fn_of_awp Try.func84 (by kernel_rfl) rfl Try.ntmps84 (rs := [.cell 4 69]) rfl (Nat.le_of_ble_eq_true rfl) (wl_deep a c) ?_
    simp [go_sem, hal, cI_take hal, h0]
    apply draw3 (0 :: []) (1 :: 2 :: 6 :: 7 :: []) (0 :: 3 :: 4 :: 5 :: 8 :: []) (.alt (.step 1 ([]) true (.alt (.step 2 (3 :: 4 :: 5 :: []) true (.step 6 ([]) true (.step 7 (8 :: []) true .done))) (.step 6 ([]) true (.step 2 (3 :: 4 :: 5 :: []) true (.step 7 (8 :: []) true .done))))) (.step 6 ([]) true (.step 1 ([]) true (.step 2 (3 :: 4 :: 5 :: []) true (.step 7 (8 :: []) true .done))))) ⟨[(2, .ptr 0 0 0 1), (4, .ptr 32 0 0 1), (5, .ptr 320 0 0 1)], [(320, ⟨69, 4, [cI s]⟩), (32, ⟨69, 4, [cI zI]⟩), (0, ⟨69, 4, [cI a]⟩)], 9000⟩ (k := 9) (by kernel_rfl) (by kernel_rfl) rfl
    case hz => repeat (first | exact Its.nil | apply Its.plain rfl | apply Its.guard rfl rfl)
    case hj => repeat (first | exact Tts.done | exact Its.nil | apply Tts.alt | apply Its.plain rfl | apply Its.guard rfl rfl | apply Tts.plain rfl | apply Tts.guard rfl rfl)
    case h3 =>
      intro G hG
      have hW : ∀ fr : Fr, (fv 2 fr = .ptr 0 0 0 1 ∧ fv 4 fr = .ptr 32 0 0 1 ∧ fv 5 fr = .ptr 320 0 0 1) → G fr [(320, ⟨69, 4, [cI s]⟩), (32, ⟨69, 4, [cI zI]⟩), (0, ⟨69, 4, [cI a]⟩)] := by
        rintro fr ⟨e1, e2, e3⟩
        refine hG _ _ (weak_wk ?_)
        simp only [Weak, slotOk]
        refine ⟨fun p hp => ?_, fun p hp => ?_, by simp⟩
        · simp only [List.mem_cons, List.mem_nil_iff, or_false] at hp
          rcases hp with rfl | rfl | rfl
          · exact ⟨.inl e1.symm, by simp [AV.low, AV.low1]⟩
          · exact ⟨.inl e2.symm, by simp [AV.low, AV.low1]⟩
          · exact ⟨.inl e3.symm, by simp [AV.low, AV.low1]⟩
        · simp only [List.mem_cons, List.mem_nil_iff, or_false] at hp
          rcases hp with rfl | rfl | rfl <;> exact ⟨.inl rfl, by simp, by intro r hr; simp only [List.mem_cons, List.mem_nil_iff, or_false] at hr; subst hr; exact cI_low _ _⟩
      simp [go_sem, hal, cI_take hal, SaW]
      repeat' first | exact hW _ ⟨rfl, rfl, rfl⟩ | (refine hW _ ?_; simp [fv, lk]; done) | refine cl_eq (fromI_fn 4294968273) (by simp [AV.deep, AV.deep1]) ?_ | refine cl_eq f2 (two_cI _ _) ?_ | apply And.intro | simp [go_sem, hal, cI_take hal, hsl, cI_take hsl, cI_drop (l := zI) (n := 4) rfl, SaW]
    case hq =>
      simp [go_sem, hsl, cI_take hsl]
      refine cl_eq f3 (one_cI _) ?_
      simp [go_sem, h2l, cI_take h2l, cI_drop (l := zI) (n := 4) rfl, resV]
      exact post_w rfl
set_option maxHeartbeats 2000000 in
theorem fadd_ex (a b : List Int) (ha : Wn 4 a) (hb : Wn 4 b) : ∃ r, Wn 4 r ∧ W2 72 a b r := by
  obtain ⟨a1, ha1, f1⟩ := reduce_ex a ha
  obtain ⟨b1, hb1, f2⟩ := reduce_ex b hb
  obtain ⟨s, c, hs, hc, f3⟩ := wadd_ex a1 b1 ha1 hb1
  obtain ⟨r, hr, f4⟩ := liftF_ex s c hs
  unfold W1 at f1 f2
  have hal := ha.1
  have hbl := hb.1
  have hsl := hs.1
  have hrl := hr.1
  refine ⟨r, hr, ?_⟩
  unfold W2
  refine fn_of_awp Try.func72 (by kernel_rfl) rfl Try.ntmps72 (rs := [.cell 4 69]) rfl (Nat.le_of_ble_eq_true rfl) (two_cI a b) ?_
  simp [go_sem, hal, hbl, cI_take hal, cI_take hbl]
  apply draw2 (0 :: 2 :: []) ((1, ([])) :: (3, ([])) :: (4, (5 :: 6 :: [])) :: (7, ([])) :: (8, ([])) :: []) 3 (k := 9) (by kernel_rfl) (by kernel_rfl) rfl
  case hz => repeat (first | exact Its.nil | apply Its.plain rfl | apply Its.guard rfl rfl)
  case hj => repeat (first | exact Jts.nil | exact Its.nil | apply Its.plain rfl | apply Its.guard rfl rfl | apply Jts.plain rfl | apply Jts.guard rfl rfl)
  intro G hG
  simp [go_sem, hal, hbl, cI_take hal, cI_take hbl]
  refine cl_eq f1 (one_cI _) ?_
  simp [go_sem, hal, hbl, cI_take hal, cI_take hbl]
  refine cl_eq f2 (one_cI _) ?_
  simp [go_sem]
  refine cl_eq f3 (two_cI _ _) ?_
  simp [go_sem]
  refine cl_eq f4 (wl_deep _ _) ?_
  simp [go_sem, hrl, cI_take hrl, cI_drop (l := zI) (n := 4) rfl, SaW]
  refine hG _ _ ?_
  simp [go_sem, hrl, cI_take hrl, resV]
  exact post_w rfl

theorem post_ww {Q : AV → Prop} {st : St} {a b : List Int} (hq : Q (.tup [.agg (cI a), .agg (cI b)])) : PostK Q (.tup [.agg (cI a), .agg (cI b)]) st :=
  post_same (by
    intro c hc
    simp at hc
    rcases hc with rfl | rfl
    · exact .inr ⟨_, rfl, cI_deep _⟩
    · exact .inr ⟨_, rfl, cI_deep _⟩) hq
theorem cI_tk (l : List Int) (n : Nat) : (cI l).take n = cI (l.take n) := by simp [cI, List.map_take]
theorem cI_dr (l : List Int) (n : Nat) : (cI l).drop n = cI (l.drop n) := by simp [cI, List.map_drop]
theorem Wn_take {l : List Int} (h : Wn 8 l) : Wn 4 (l.take 4) := ⟨by rw [List.length_take, h.1]; rfl, fun x hx => h.2 x (List.mem_of_mem_take hx)⟩
theorem Wn_drop {l : List Int} (h : Wn 8 l) : Wn 4 (l.drop 4) := ⟨by rw [List.length_drop, h.1], fun x hx => h.2 x (List.mem_of_mem_drop hx)⟩
set_option maxRecDepth 20000 in
set_option maxHeartbeats 4000000 in
theorem wmul_ex (a b : List Int) (ha : Wn 4 a) (hb : Wn 4 b) : ∃ (lo hi : List Int), Wn 4 lo ∧ Wn 4 hi ∧ Rets Try.prog 82 [.agg (cI a), .agg (cI b)] (fun r => r = .tup [.agg (cI lo), .agg (cI hi)]) := by
  obtain ⟨p, hp, f1⟩ := product_ex a b ha hb
  have hal := ha.1
  have hbl := hb.1
  have hpl := hp.1
  have hlo := Wn_take hp
  have hhi := Wn_drop hp
  refine ⟨p.take 4, p.drop 4, hlo, hhi, ?_⟩
  refine fn_of_awp Try.func82 (by kernel_rfl) rfl Try.ntmps82 (rs := [.cell 4 69, .cell 5 69]) rfl (Nat.le_of_ble_eq_true rfl) (two_cI a b) ?_
  simp [go_sem, hal, hbl, cI_take hal, cI_take hbl]
  refine cl_eq f1 (two_cI _ _) ?_
  simp [go_sem, hpl, cI_take hpl, cI_drop (l := zI8) (n := 8) rfl]
  have e1 := cI_tk p 4
  have e2 := cI_dr p 4
  have hl1 := hlo.1
  have hl2 := hhi.1
  have e3 : (cI (p.drop 4)).take 4 = cI (p.drop 4) := cI_take hl2
  generalize p.take 4 = lo at *
  generalize p.drop 4 = hi at *
  have hz : List.drop 4 (cI zI) = [] := cI_drop rfl
  apply draw3 (0 :: 1 :: 2 :: []) (3 :: 4 :: 5 :: 6 :: 7 :: []) (0 :: 1 :: 2 :: []) (.alt (.step 3 ([]) true (.alt (.step 4 ([]) true (.alt (.step 5 ([]) true (.step 6 ([]) false (.step 7 ([]) false .done))) (.step 6 ([]) false (.step 5 ([]) false (.step 7 ([]) false .done))))) (.step 6 ([]) false (.step 4 ([]) false (.step 5 ([]) false (.step 7 ([]) false .done)))))) (.step 6 ([]) false (.step 3 ([]) false (.step 4 ([]) false (.step 5 ([]) false (.step 7 ([]) false .done)))))) ⟨[(4, .ptr 64 0 0 1), (5, .ptr 96 0 0 1)], [(96, ⟨69, 4, [cI hi]⟩), (64, ⟨69, 4, [cI lo]⟩)], 9000⟩ (k := 8) (by kernel_rfl) (by kernel_rfl) rfl
  case hz => repeat (first | exact Its.nil | apply Its.plain rfl | apply Its.guard rfl rfl)
  case hj => repeat (first | exact Tts.done | exact Its.nil | apply Tts.alt | apply Its.plain rfl | apply Its.guard rfl rfl | apply Tts.plain rfl | apply Tts.guard rfl rfl)
  case h3 =>
    intro G hG
    have hW : ∀ fr : Fr, (fv 4 fr = .ptr 64 0 0 1 ∧ fv 5 fr = .ptr 96 0 0 1) → G fr [(224, ⟨127, 8, [cI p]⟩), (96, ⟨69, 4, [cI hi]⟩), (64, ⟨69, 4, [cI lo]⟩), (32, ⟨69, 4, [cI b]⟩), (0, ⟨69, 4, [cI a]⟩)] := by
      rintro fr ⟨e1, e2⟩
      refine hG _ _ (weak_wk ?_)
      simp only [Weak, slotOk]
      refine ⟨fun p hp => ?_, fun p hp => ?_, by simp⟩
      · simp only [List.mem_cons, List.mem_nil_iff, or_false] at hp
        rcases hp with rfl | rfl
        · exact ⟨.inl e1.symm, by simp [AV.low, AV.low1]⟩
        · exact ⟨.inl e2.symm, by simp [AV.low, AV.low1]⟩
      · simp only [List.mem_cons, List.mem_nil_iff, or_false] at hp
        rcases hp with rfl | rfl <;> exact ⟨.inl rfl, by simp, by intro r hr; simp only [List.mem_cons, List.mem_nil_iff, or_false] at hr; subst hr; exact cI_low _ _⟩
    simp [go_sem, hpl, e1, e2, e3, hl1, hl2, hz, SaW]
    repeat' first | exact hW _ ⟨rfl, rfl⟩ | apply And.intro | simp [go_sem, hpl, e1, e2, e3, hl1, hl2, hz, SaW]
  case hq =>
    simp [go_sem, hl1, hl2, hz, cI_take hl1, cI_take hl2, resV]
    exact post_ww rfl
set_option maxHeartbeats 2000000 in
theorem fmul_ex (a b : List Int) (ha : Wn 4 a) (hb : Wn 4 b) : ∃ r, Wn 4 r ∧ W2 69 a b r := by
  obtain ⟨lo, hi, hlo, hhi, f1⟩ := wmul_ex a b ha hb
  obtain ⟨fo, top, hfo, htop, f2⟩ := scaled_ex hi hhi
  obtain ⟨s, c, hs, hc, f3⟩ := wadd_ex lo fo hlo hfo
  obtain ⟨re, c2, hre, hc2, f4⟩ := scaled_ex [IntKind.u64.wrap (top + c), 0, 0, 0] (fromI_W (u64R _))
  obtain ⟨s2, c3, hs2, hc3, f5⟩ := wadd_ex s re hs hre
  obtain ⟨r, hr, f6⟩ := liftF_ex s2 c3 hs2
  have hal := ha.1
  have hbl := hb.1
  have l1 := hlo.1
  have l2 := hhi.1
  have l3 := hfo.1
  have l4 := hs.1
  have l5 := hre.1
  have l6 := hs2.1
  have l7 := hr.1
  have hz : List.drop 4 (cI zI) = [] := cI_drop rfl
  refine ⟨r, hr, ?_⟩
  unfold W2
  refine fn_of_awp Try.func69 (by kernel_rfl) rfl Try.ntmps69 (rs := [.cell 4 69]) rfl (Nat.le_of_ble_eq_true rfl) (two_cI a b) ?_
  simp [go_sem, hal, hbl, cI_take hal, cI_take hbl]
  refine cl_eq f1 (two_cI _ _) ?_
  simp [go_sem, l1, l2, cI_take l1, cI_take l2, hz]
  refine cl_eq f2 (one_cI _) ?_
  simp [go_sem, l1, l3, cI_take l1, cI_take l3, hz]
  refine cl_eq f3 (two_cI _ _) ?_
  simp [go_sem, l4, cI_take l4, hz]
  refine cl_eq (fromI_fn _) (by simp [AV.deep, AV.deep1]) ?_
  simp [go_sem]
  refine cl_eq f4 (one_cI _) ?_
  simp [go_sem, l4, l5, cI_take l4, cI_take l5, hz]
  refine cl_eq f5 (two_cI _ _) ?_
  simp [go_sem]
  refine cl_eq f6 (wl_deep _ _) ?_
  simp [go_sem, l7, cI_take l7, hz, resV]
  exact post_w rfl
end Go.Proofs.Ytgeabjjgeeakdaa
