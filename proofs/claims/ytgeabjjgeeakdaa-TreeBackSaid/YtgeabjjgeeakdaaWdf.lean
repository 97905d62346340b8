/-
  Lengths, shifts, differences and powers in the field.
-/
import Derived.Test.YtgeabjjgeeakdaaWde
import Derived.Test.YtgeabjjgeeakdaaHwa
namespace Go.Proofs.Ytgeabjjgeeakdaa
open Go.Am Go.Sha
set_option linter.unusedSimpArgs false
set_option linter.unusedVariables false

theorem lenI_ex (x : Int) (hx : R64 x) : ∃ n : Nat, n ≤ 64 ∧ Rets Try.prog 79 [.d (.int .u64 x)] (fun r => r = .d (.int .i64 (n : Int))) := by
  obtain ⟨X, rfl⟩ := Int.eq_ofNat_of_zero_le hx.1
  exact lenQ_ex X (by have := hx.2; omega)
def lenG (N : Int → Nat) (a : List Int) : Nat → Nat
  | 0 => 0
  | k + 1 => if gI a k = 0 then lenG N a k else 64 * k + N (gI a k)
theorem lenG_le {N : Int → Nat} {a : List Int} (h : ∀ k, N (gI a k) ≤ 64) : ∀ k, lenG N a k ≤ 64 * k
  | 0 => Nat.le_refl _
  | k + 1 => by
    have h1 := lenG_le h k
    have h2 := h k
    unfold lenG
    split <;> omega
set_option maxRecDepth 20000 in
set_option maxHeartbeats 4000000 in
theorem wlen_ex (a : List Int) (ha : Wn 4 a) : ∃ n : Nat, n ≤ 256 ∧ Rets Try.prog 56 [.agg (cI a)] (fun r => r = .d (.int .i64 (n : Int))) := by
  obtain ⟨N, hN⟩ := pick (α := Int) (β := Nat) (A := fun x => R64 x) (B := fun x n => n ≤ 64 ∧ Rets Try.prog 79 [.d (.int .u64 x)] (fun r => r = .d (.int .i64 (n : Int)))) lenI_ex
  have hN2 : ∀ k, N (gI a k) ≤ 64 := fun k => (hN _ (Wn_getD ha)).1
  have hle := lenG_le hN2
  have hal := ha.1
  refine ⟨lenG N a 4, hle 4, ?_⟩
  refine fn_of_awp Try.func56 (by kernel_rfl) rfl Try.ntmps56 (rs := [.tmp 2]) rfl (Nat.le_of_ble_eq_true rfl) (one_cI a) ?_
  generalize hT : lenG N a 4 = T
  simp [go_sem, hal, cI_take hal]
  refine loop_of (fun k : Nat => ⟨[(1, .ptr 0 0 0 1), (3, .d (.int .i64 (ixD k)))], [(0, ⟨69, 4, [cI a]⟩)], 500⟩)
    (fun k => k ≤ 4 ∧ lenG N a k = T) (fun k => k) 4 ⟨by omega, hT⟩ (by
      simp [Weak, slotOk, fv, lk, AV.low, AV.low1, ixD]
      exact cI_low _ _) ?_
  rintro k ⟨hk, hkT⟩
  match k, hk, hkT with
  | 0, _, hkT =>
    simp [go_sem, ixD_z, resV]
    exact post_same (by simp [AV.deep, AV.deep1]) (by rw [← hkT]; rfl)
  | k + 1, hk, hkT =>
    have hx := Wn_getD (k := k) ha
    have hka := get_D (l := a) (k := k) (by omega)
    have hk4 : (k : Int) < 4 := by omega
    unfold lenG at hkT
    have hle1 := (hN _ hx).1
    have hc := (hN _ hx).2
    by_cases h0 : gI a k = 0
    · rw [if_pos h0] at hkT
      have hw : IntKind.i64.wrap ((k : Int) - 1) = ixD k := by
        cases k with
        | zero => rw [IntWalk.i64_in _ (by omega)]; rfl
        | succ j => rw [IntWalk.i64_in _ (by omega)]; simp [ixD]
      simp [go_sem, ixD_s, hka, hal, hk4, h0, hw]
      first | refine next_of k ⟨by omega, hkT⟩ (by omega) ?_
      simp [Weak, slotOk, fv, lk, AV.low, AV.low1]
      exact cI_low _ _
    · rw [if_neg h0] at hkT
      have w1 : IntKind.i64.wrap (64 * (k : Int)) = 64 * (k : Int) := IntWalk.i64_in _ (by omega)
      generalize hn : N (gI a k) = n at *
      have w2 : IntKind.i64.wrap (64 * (k : Int) + (n : Int)) = 64 * (k : Int) + (n : Int) := IntWalk.i64_in _ (by omega)
      simp [go_sem, ixD_s, hka, hal, hk4, h0, w1]
      first | refine cl_eq hc (by simp [AV.deep, AV.deep1]) ?_
      simp [go_sem, w1, w2, resV]
      exact post_same (by simp [AV.deep, AV.deep1]) (by rw [← hkT]; first | rfl | simp [w2])

set_option maxRecDepth 20000 in
set_option maxHeartbeats 8000000 in
theorem fsub_ex (a b : List Int) (ha : Wn 4 a) (hb : Wn 4 b) : ∃ r, Wn 4 r ∧ W2 77 a b r := by
  obtain ⟨a1, ha1, f1⟩ := reduce_ex a ha
  obtain ⟨b1, hb1, f2⟩ := reduce_ex b hb
  obtain ⟨d, c, hd, hc, f3⟩ := wsub_ex a1 b1 ha1 hb1
  obtain ⟨s2, c2, hs2, hc2, f4⟩ := wadd_ex d prI hd prI_W
  unfold W1 at f1 f2
  have hal := ha.1
  have hbl := hb.1
  have hdl := hd.1
  have hsl := hs2.1
  have hz : List.drop 4 (cI zI) = [] := cI_drop rfl
  by_cases h0 : c = 0
  · refine ⟨d, hd, ?_⟩
    unfold W2
    refine fn_of_awp Try.func77 (by kernel_rfl) rfl Try.ntmps77 (rs := [.cell 4 69]) rfl (Nat.le_of_ble_eq_true rfl) (two_cI a b) ?_
    simp [go_sem, hal, hbl, cI_take hal, cI_take hbl]
    apply draw3 (0 :: 2 :: []) (1 :: 3 :: 4 :: 8 :: 9 :: []) (0 :: 2 :: 5 :: 6 :: 7 :: 10 :: []) (.alt (.step 1 ([]) true (.alt (.step 3 ([]) true (.alt (.step 4 (5 :: 6 :: 7 :: []) true (.step 8 ([]) true (.step 9 (10 :: []) true .done))) (.step 8 ([]) true (.step 4 (5 :: 6 :: 7 :: []) true (.step 9 (10 :: []) true .done))))) (.step 8 ([]) true (.step 3 ([]) true (.step 4 (5 :: 6 :: 7 :: []) true (.step 9 (10 :: []) true .done)))))) (.step 8 ([]) true (.step 1 ([]) true (.step 3 ([]) true (.step 4 (5 :: 6 :: 7 :: []) true (.step 9 (10 :: []) true .done)))))) ⟨[(4, .ptr 64 0 0 1), (5, .ptr 352 0 0 1), (6, .d (.int .u64 c))], [(352, ⟨69, 4, [cI d]⟩), (64, ⟨69, 4, [cI zI]⟩)], 9000⟩ (k := 11) (by kernel_rfl) (by kernel_rfl) rfl
    case hz => repeat (first | exact Its.nil | apply Its.plain rfl | apply Its.guard rfl rfl)
    case hj => repeat (first | exact Tts.done | exact Its.nil | apply Tts.alt | apply Its.plain rfl | apply Its.guard rfl rfl | apply Tts.plain rfl | apply Tts.guard rfl rfl)
    case h3 =>
      intro G hG
      have hW : ∀ fr : Fr, (fv 4 fr = .ptr 64 0 0 1 ∧ fv 5 fr = .ptr 352 0 0 1 ∧ fv 6 fr = .d (.int .u64 c)) → G fr [(352, ⟨69, 4, [cI d]⟩), (64, ⟨69, 4, [cI zI]⟩), (32, ⟨69, 4, [cI b]⟩), (0, ⟨69, 4, [cI a]⟩)] := by
        rintro fr ⟨q0, q1, q2⟩
        refine hG _ _ (weak_wk ?_)
        simp only [Weak, slotOk]
        refine ⟨fun p hp => ?_, fun p hp => ?_, by simp⟩
        · simp only [List.mem_cons, List.mem_nil_iff, or_false] at hp
          rcases hp with rfl | rfl | rfl
          · exact ⟨.inl q0.symm, by simp [AV.low, AV.low1]⟩
          · exact ⟨.inl q1.symm, by simp [AV.low, AV.low1]⟩
          · exact ⟨.inl q2.symm, by simp [AV.low, AV.low1]⟩
        · simp only [List.mem_cons, List.mem_nil_iff, or_false] at hp
          rcases hp with rfl | rfl <;> exact ⟨.inl rfl, by simp, by intro r hr; simp only [List.mem_cons, List.mem_nil_iff, or_false] at hr; subst hr; exact cI_low _ _⟩
      simp [go_sem, hal, hbl, cI_take hal, cI_take hbl, hdl, cI_take hdl, hz, SaW]
      repeat' first | exact hW _ ⟨rfl, rfl, rfl⟩ | (refine hW _ ?_; simp [fv, lk]; done) | refine cl_eq f1 (one_cI _) ?_ | refine cl_eq f2 (one_cI _) ?_ | refine cl_eq f3 (two_cI _ _) ?_ | apply And.intro | simp [go_sem, hal, hbl, cI_take hal, cI_take hbl, hdl, cI_take hdl, hz, SaW]
    case hq =>
      simp [go_sem, h0, hdl, cI_take hdl, hz, resV]
      exact post_w rfl
  · refine ⟨s2, hs2, ?_⟩
    unfold W2
    refine fn_of_awp Try.func77 (by kernel_rfl) rfl Try.ntmps77 (rs := [.cell 4 69]) rfl (Nat.le_of_ble_eq_true rfl) (two_cI a b) ?_
    simp [go_sem, hal, hbl, cI_take hal, cI_take hbl]
    apply draw3 (0 :: 2 :: []) (1 :: 3 :: 4 :: 8 :: 9 :: []) (0 :: 2 :: 5 :: 6 :: 7 :: 10 :: []) (.alt (.step 1 ([]) true (.alt (.step 3 ([]) true (.alt (.step 4 (5 :: 6 :: 7 :: []) true (.step 8 ([]) true (.step 9 (10 :: []) true .done))) (.step 8 ([]) true (.step 4 (5 :: 6 :: 7 :: []) true (.step 9 (10 :: []) true .done))))) (.step 8 ([]) true (.step 3 ([]) true (.step 4 (5 :: 6 :: 7 :: []) true (.step 9 (10 :: []) true .done)))))) (.step 8 ([]) true (.step 1 ([]) true (.step 3 ([]) true (.step 4 (5 :: 6 :: 7 :: []) true (.step 9 (10 :: []) true .done)))))) ⟨[(4, .ptr 64 0 0 1), (5, .ptr 352 0 0 1), (6, .d (.int .u64 c))], [(352, ⟨69, 4, [cI d]⟩), (64, ⟨69, 4, [cI zI]⟩)], 9000⟩ (k := 11) (by kernel_rfl) (by kernel_rfl) rfl
    case hz => repeat (first | exact Its.nil | apply Its.plain rfl | apply Its.guard rfl rfl)
    case hj => repeat (first | exact Tts.done | exact Its.nil | apply Tts.alt | apply Its.plain rfl | apply Its.guard rfl rfl | apply Tts.plain rfl | apply Tts.guard rfl rfl)
    case h3 =>
      intro G hG
      have hW : ∀ fr : Fr, (fv 4 fr = .ptr 64 0 0 1 ∧ fv 5 fr = .ptr 352 0 0 1 ∧ fv 6 fr = .d (.int .u64 c)) → G fr [(352, ⟨69, 4, [cI d]⟩), (64, ⟨69, 4, [cI zI]⟩), (32, ⟨69, 4, [cI b]⟩), (0, ⟨69, 4, [cI a]⟩)] := by
        rintro fr ⟨q0, q1, q2⟩
        refine hG _ _ (weak_wk ?_)
        simp only [Weak, slotOk]
        refine ⟨fun p hp => ?_, fun p hp => ?_, by simp⟩
        · simp only [List.mem_cons, List.mem_nil_iff, or_false] at hp
          rcases hp with rfl | rfl | rfl
          · exact ⟨.inl q0.symm, by simp [AV.low, AV.low1]⟩
          · exact ⟨.inl q1.symm, by simp [AV.low, AV.low1]⟩
          · exact ⟨.inl q2.symm, by simp [AV.low, AV.low1]⟩
        · simp only [List.mem_cons, List.mem_nil_iff, or_false] at hp
          rcases hp with rfl | rfl <;> exact ⟨.inl rfl, by simp, by intro r hr; simp only [List.mem_cons, List.mem_nil_iff, or_false] at hr; subst hr; exact cI_low _ _⟩
      simp [go_sem, hal, hbl, cI_take hal, cI_take hbl, hdl, cI_take hdl, hz, SaW]
      repeat' first | exact hW _ ⟨rfl, rfl, rfl⟩ | (refine hW _ ?_; simp [fv, lk]; done) | refine cl_eq f1 (one_cI _) ?_ | refine cl_eq f2 (one_cI _) ?_ | refine cl_eq f3 (two_cI _ _) ?_ | apply And.intro | simp [go_sem, hal, hbl, cI_take hal, cI_take hbl, hdl, cI_take hdl, hz, SaW]
    case hq =>
      simp [go_sem, h0]
      apply draw3 (0 :: []) (1 :: 2 :: 5 :: 6 :: []) (0 :: 3 :: 4 :: []) (.step 1 ([]) true (.step 2 (3 :: 4 :: []) true (.alt (.step 5 ([]) true (.step 6 ([]) false .done)) (.step 6 ([]) false (.step 5 ([]) false .done))))) ⟨[(4, .ptr 64 0 0 1), (5, .ptr 352 0 0 1)], [(352, ⟨69, 4, [cI s2]⟩), (64, ⟨69, 4, [cI zI]⟩)], 9000⟩ (k := 7) (by kernel_rfl) (by kernel_rfl) rfl
      case hz => repeat (first | exact Its.nil | apply Its.plain rfl | apply Its.guard rfl rfl)
      case hj => repeat (first | exact Tts.done | exact Its.nil | apply Tts.alt | apply Its.plain rfl | apply Its.guard rfl rfl | apply Tts.plain rfl | apply Tts.guard rfl rfl)
      case h3 =>
        intro G hG
        have hW : ∀ fr : Fr, (fv 4 fr = .ptr 64 0 0 1 ∧ fv 5 fr = .ptr 352 0 0 1) → G fr [(352, ⟨69, 4, [cI s2]⟩), (64, ⟨69, 4, [cI zI]⟩)] := by
          rintro fr ⟨q0, q1⟩
          refine hG _ _ (weak_wk ?_)
          simp only [Weak, slotOk]
          refine ⟨fun p hp => ?_, fun p hp => ?_, by simp⟩
          · simp only [List.mem_cons, List.mem_nil_iff, or_false] at hp
            rcases hp with rfl | rfl
            · exact ⟨.inl q0.symm, by simp [AV.low, AV.low1]⟩
            · exact ⟨.inl q1.symm, by simp [AV.low, AV.low1]⟩
          · simp only [List.mem_cons, List.mem_nil_iff, or_false] at hp
            rcases hp with rfl | rfl <;> exact ⟨.inl rfl, by simp, by intro r hr; simp only [List.mem_cons, List.mem_nil_iff, or_false] at hr; subst hr; exact cI_low _ _⟩
        simp [go_sem, hdl, cI_take hdl, hsl, cI_take hsl, hz, cI_drop hdl, SaW]
        repeat' first | exact hW _ ⟨rfl, rfl⟩ | (refine hW _ ?_; simp [fv, lk]; done) | refine cl_eq primeI_fn (by simp) ?_ | refine cl_eq f4 (two_cI _ _) ?_ | apply And.intro | simp [go_sem, hdl, cI_take hdl, hsl, cI_take hsl, hz, cI_drop hdl, SaW]
      case hq =>
        simp [go_sem, hsl, cI_take hsl, hz, resV]
        exact post_w rfl
theorem fneg_ex (a : List Int) (ha : Wn 4 a) : ∃ r, Wn 4 r ∧ W1 71 a r := by
  obtain ⟨r, hr, f1⟩ := fsub_ex zI a zI_W ha
  unfold W2 at f1
  have hal := ha.1
  have hrl := hr.1
  have hz : List.drop 4 (cI zI) = [] := cI_drop rfl
  refine ⟨r, hr, ?_⟩
  unfold W1
  refine fn_of_awp Try.func71 (by kernel_rfl) rfl Try.ntmps71 (rs := [.cell 2 69]) rfl (Nat.le_of_ble_eq_true rfl) (one_cI a) ?_
  simp [go_sem, hal, cI_take hal]
  refine cl_eq f1 (two_cI zI a) ?_
  simp [go_sem, hrl, cI_take hrl, hz, resV]
  exact post_w rfl
end Go.Proofs.Ytgeabjjgeeakdaa
