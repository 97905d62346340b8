/-
  SHA-256 in the program: Write, of an array's bytes.
-/
import Derived.Test.YtiihldilefeldaaSht
namespace Go.Proofs.Ytiihldilefeldaa
open Go.Am Go.Sha
set_option linter.unusedSimpArgs false
set_option linter.unusedVariables false

theorem arr_rows {b : List Nat} (hb : b.length = 32) : (List.range 32).map (fun k => ((cb b).drop k).take 1) = List.map ((fun r => List.map AV.d r) ∘ fun (x : Nat) => [DV.int .u8 (x : Int)]) b := by
  apply List.ext_getElem?
  intro i
  by_cases hi : i < 32
  · rw [List.getElem?_map, List.getElem?_map, List.getElem?_range hi, List.getElem?_eq_getElem (by omega : i < b.length)]
    have h : i < (cb b).length := by rw [cb_len]; omega
    have h1 : (cb b)[i]? = some (.d (.int .u8 ((b[i] : Nat) : Int))) := by rw [cb_get, List.getElem?_eq_getElem (by omega : i < b.length)]; rfl
    have h2 : (cb b)[i] = .d (.int .u8 ((b[i] : Nat) : Int)) := by
      rw [List.getElem?_eq_getElem h] at h1
      exact Option.some.inj h1
    rw [Option.map_some, Option.map_some, List.drop_eq_getElem_cons h, h2]
    rfl
  · rw [List.getElem?_eq_none (by simp; omega), List.getElem?_eq_none (by simp; omega)]

set_option maxHeartbeats 4000000 in
theorem write_arr_fn (s : S8) (R : AV) (rest b : List Nat) (n : Int) (hR : R = .d (nb rest) ∨ (R = .nil ∧ rest = [])) (hl : rest.length + b.length ≤ 1000000000000) (hb32 : b.length = 32) :
    RetsE Try.prog 74 2 [(0, ⟨128, 10, [s8c s ++ [R, .d (.int .u64 n)]]⟩), (1, ⟨22, 32, [cb b]⟩)] [.ptr 0 0 0 1, .sub 1 0 0 1 32 32 1]
      (fun r hp' => r = .tup [] ∧ lk 0 hp' = some ⟨128, 10, [s8c (eat ((rest ++ b).length) s (rest ++ b)).1 ++ [.d (nb (eat ((rest ++ b).length) s (rest ++ b)).2), .d (.int .u64 (IntKind.u64.wrap (n + (IntKind.u64.wrap (b.length : Int)))))]]⟩ ∧ lk 1 hp' = some ⟨22, 32, [cb b]⟩) := by
  refine fnE_of_awp Try.func74 (by kernel_rfl) rfl Try.ntmps74 (rs := []) rfl (Nat.le_of_ble_eq_true rfl) (by decide) ?_
  rw [hb32]
  generalize hn' : IntKind.u64.wrap (n + (IntKind.u64.wrap ((32 : Nat) : Int))) = n'
  generalize hE0 : eat ((rest ++ b).length) s (rest ++ b) = E
  have hx := arr_rows hb32
  generalize hX : List.map ((fun r => List.map AV.d r) ∘ fun (x : Nat) => [DV.int .u8 (x : Int)]) b = X at hx
  simp [go_sem] at hx
  have hn2 : IntKind.u64.wrap (n + IntKind.u64.wrap 32) = n' := hn'
  rcases hR with rfl | ⟨rfl, rfl⟩
  · simp [go_sem, nb, s8c, hn2]
    apply draw2 (0 :: 1 :: 2 :: 3 :: 4 :: 5 :: 6 :: 7 :: 8 :: 9 :: 10 :: 11 :: 12 :: 13 :: 14 :: 15 :: 16 :: []) ((17, (18 :: 19 :: [])) :: (20, ([])) :: []) 1 (k := 21) (by kernel_rfl) (by kernel_rfl) rfl
    case hz => repeat (first | exact Its.nil | apply Its.plain rfl | apply Its.guard rfl rfl)
    case hj => repeat (first | exact Jts.nil | exact Its.nil | apply Its.plain rfl | apply Its.guard rfl rfl | apply Jts.plain rfl | apply Jts.guard rfl rfl)
    intro G hG
    simp [go_sem, tk_map, hx]
    rw [← hX, r_ap_rofm]
    simp [go_sem, tk_map]
    refine ⟨by have := hl; simp only [List.length_append, List.length_nil] at *; omega, hG _ _ ?_⟩
    clear hG G
    refine loop_of (fun t : S8 × List Nat => ⟨[(0, .ptr 0 0 0 1)], [(0, ⟨128, 10, [s8c t.1 ++ [.d (nb t.2), .d (.int .u64 n')]]⟩), (1, ⟨22, 32, [cb b]⟩)], 1091⟩)
      (fun t => t.2.length ≤ 1000000000000 ∧ ∃ k, t.2.length ≤ k ∧ eat k t.1 t.2 = E) (fun t => t.2.length) (s, rest ++ b) ⟨by have := hl; simp only [List.length_append, List.length_nil] at *; omega, _, Nat.le_refl _, hE0⟩ (by
        simp [Weak, slotOk, fv, lk, AV.low, AV.low1, nb, s8c]
        exact cb_low _ _) ?_
    rintro ⟨s1, q⟩ ⟨hq, k, hk, hE⟩
    simp only at hq hk hE
    simp only [go_sem, Nat.reduceEqDiff, Nat.reduceAdd, Nat.reduceLT, ↓reduceIte, s8c, nb, List.length_map]
    refine ⟨fun h => ?_, fun h => ?_⟩
    · have h64 : 64 ≤ q.length := by omega
      rw [eat_more h64 hk] at hE
      apply draw2 (0 :: 1 :: 2 :: 3 :: 4 :: 5 :: 6 :: 7 :: []) ((8, ([])) :: []) 0 (k := 9) (by kernel_rfl) (by kernel_rfl) rfl
      case hz => repeat (first | exact Its.nil | apply Its.plain rfl | apply Its.guard rfl rfl)
      case hj => repeat (first | exact Jts.nil | exact Its.nil | apply Its.plain rfl | apply Its.guard rfl rfl | apply Jts.plain rfl | apply Jts.guard rfl rfl)
      intro G hG
      simp [go_sem]
      refine ⟨by omega, ?_⟩
      refine cl_eff [(0, 0)] (take_fn 128 10 s1 [.d (nb q), .d (.int .u64 n')] (q.take 64) (by simp; omega) (by simp [AV.low1])) rfl (by simp) (by simp [lk]) (by simp [lk, Blk.ren, renR, AV.renL, AV.ren, rho, swp, s8c, nb]) (by simp [AV.renL, AV.ren, rho, swp, lk, nb, List.map_take]) ?_
      rintro r hp' ⟨rfl, h0⟩
      refine ⟨[], rfl, ?_⟩
      simp [go_sem, outH, outP, h0, Blk.ren, renR, AV.renL, AV.ren, rho, s8c]
      refine hG _ _ ?_
      clear hG G
      simp [go_sem, nb]
      refine ⟨by omega, ?_⟩
      refine next_of (Go.Sha.take s1 (q.take 64), q.drop 64) ⟨by simp only [List.length_drop]; omega, k - 1, by simp only [List.length_drop]; omega, hE⟩ (by simp only [List.length_drop]; omega) ?_
      simp [Weak, slotOk, fv, lk, AV.low, AV.low1, nb, s8c, List.map_drop, tk_map]
      exact cb_low _ _
    · rw [eat_none k s1 q (by omega)] at hE
      subst hE
      rfl
  · simp [go_sem, nb, s8c, hn2]
    apply draw2 (0 :: 1 :: 2 :: 3 :: 4 :: 5 :: 6 :: 7 :: 8 :: 9 :: 10 :: 11 :: 12 :: 13 :: 14 :: 15 :: 16 :: []) ((17, (18 :: 19 :: [])) :: (20, ([])) :: []) 1 (k := 21) (by kernel_rfl) (by kernel_rfl) rfl
    case hz => repeat (first | exact Its.nil | apply Its.plain rfl | apply Its.guard rfl rfl)
    case hj => repeat (first | exact Jts.nil | exact Its.nil | apply Its.plain rfl | apply Its.guard rfl rfl | apply Jts.plain rfl | apply Jts.guard rfl rfl)
    intro G hG
    simp [go_sem, tk_map, hx]
    rw [← hX, r_ap_rofm]
    simp [go_sem, tk_map]
    refine ⟨by have := hl; simp only [List.length_append, List.length_nil] at *; omega, hG _ _ ?_⟩
    clear hG G
    refine loop_of (fun t : S8 × List Nat => ⟨[(0, .ptr 0 0 0 1)], [(0, ⟨128, 10, [s8c t.1 ++ [.d (nb t.2), .d (.int .u64 n')]]⟩), (1, ⟨22, 32, [cb b]⟩)], 1091⟩)
      (fun t => t.2.length ≤ 1000000000000 ∧ ∃ k, t.2.length ≤ k ∧ eat k t.1 t.2 = E) (fun t => t.2.length) (s, [] ++ b) ⟨by have := hl; simp only [List.length_append, List.length_nil] at *; omega, _, Nat.le_refl _, hE0⟩ (by
        simp [Weak, slotOk, fv, lk, AV.low, AV.low1, nb, s8c]
        exact cb_low _ _) ?_
    rintro ⟨s1, q⟩ ⟨hq, k, hk, hE⟩
    simp only at hq hk hE
    simp only [go_sem, Nat.reduceEqDiff, Nat.reduceAdd, Nat.reduceLT, ↓reduceIte, s8c, nb, List.length_map]
    refine ⟨fun h => ?_, fun h => ?_⟩
    · have h64 : 64 ≤ q.length := by omega
      rw [eat_more h64 hk] at hE
      apply draw2 (0 :: 1 :: 2 :: 3 :: 4 :: 5 :: 6 :: 7 :: []) ((8, ([])) :: []) 0 (k := 9) (by kernel_rfl) (by kernel_rfl) rfl
      case hz => repeat (first | exact Its.nil | apply Its.plain rfl | apply Its.guard rfl rfl)
      case hj => repeat (first | exact Jts.nil | exact Its.nil | apply Its.plain rfl | apply Its.guard rfl rfl | apply Jts.plain rfl | apply Jts.guard rfl rfl)
      intro G hG
      simp [go_sem]
      refine ⟨by omega, ?_⟩
      refine cl_eff [(0, 0)] (take_fn 128 10 s1 [.d (nb q), .d (.int .u64 n')] (q.take 64) (by simp; omega) (by simp [AV.low1])) rfl (by simp) (by simp [lk]) (by simp [lk, Blk.ren, renR, AV.renL, AV.ren, rho, swp, s8c, nb]) (by simp [AV.renL, AV.ren, rho, swp, lk, nb, List.map_take]) ?_
      rintro r hp' ⟨rfl, h0⟩
      refine ⟨[], rfl, ?_⟩
      simp [go_sem, outH, outP, h0, Blk.ren, renR, AV.renL, AV.ren, rho, s8c]
      refine hG _ _ ?_
      clear hG G
      simp [go_sem, nb]
      refine ⟨by omega, ?_⟩
      refine next_of (Go.Sha.take s1 (q.take 64), q.drop 64) ⟨by simp only [List.length_drop]; omega, k - 1, by simp only [List.length_drop]; omega, hE⟩ (by simp only [List.length_drop]; omega) ?_
      simp [Weak, slotOk, fv, lk, AV.low, AV.low1, nb, s8c, List.map_drop, tk_map]
      exact cb_low _ _
    · rw [eat_none k s1 q (by omega)] at hE
      subst hE
      rfl

theorem warr_fn (s : S8) (R : AV) (rest b : List Nat) (n : Nat) (hR : R = .d (nb rest) ∨ (R = .nil ∧ rest = [])) (hl : rest.length + b.length ≤ 1000000000000) (hb32 : b.length = 32) (hn : n + b.length < 18446744073709551616) :
    RetsE Try.prog 74 2 [(0, ⟨128, 10, [s8c s ++ [R, .d (.int .u64 (n : Int))]]⟩), (1, ⟨22, 32, [cb b]⟩)] [.ptr 0 0 0 1, .sub 1 0 0 1 32 32 1]
      (fun r hp' => r = .tup [] ∧ lk 0 hp' = some ⟨128, 10, [s8c (E s (rest ++ b)).1 ++ [.d (nb (E s (rest ++ b)).2), .d (.int .u64 ((n + b.length : Nat) : Int))]]⟩ ∧ lk 1 hp' = some ⟨22, 32, [cb b]⟩) := by
  have := write_arr_fn s R rest b n hR hl hb32
  rw [wn n b.length hn] at this
  exact this

set_option maxHeartbeats 2000000 in
theorem tagged_fn (tag : List Nat) (ts : DV) (hts : ts = .str (tag.map fun (x : Nat) => (x : Int))) (b : List Nat) (ht : tag.length ≤ 1000) (hb : b.length ≤ 10000000000) : Rets Try.prog 42 [.d ts, .d (nb b)] (fun r => r = .agg (cb (tagB tag b))) := by
  subst hts
  refine fn_of_awp Try.func42 (by kernel_rfl) rfl Try.ntmps42 (rs := [.cell 4 22]) rfl (Nat.le_of_ble_eq_true rfl) (by simp [AV.deep, AV.deep1]) ?_
  simp [go_sem, Try.underlying5]
  refine cl_eq (shasum_fn tag (by omega)) (by simp [AV.deep, AV.deep1]) ?_
  have hD := sumB_len tag
  have hg : tagB tag b = sumB (sumB tag ++ (sumB tag ++ b)) := rfl
  rw [hg]
  generalize sumB tag = D at hD
  simp [go_sem, hD, z32_drop]
  refine cl_eff [] new_fn rfl (by simp) (by simp) (by simp) (by simp [AV.renL]) ?_
  rintro r hp' ⟨rfl, h0⟩
  refine ⟨[(97, 0)], rfl, ?_⟩
  simp [go_sem, outH, outP, h0, Blk.ren, renR, h_ren, AV.ren, rho]
  have hp1 : E H0 (D ++ (D ++ b)) = E (E (E H0 D).1 ((E H0 D).2 ++ D)).1 ((E (E H0 D).1 ((E H0 D).2 ++ D)).2 ++ b) := by
    rw [E_app _ _ _ D (Nat.le_refl _), ← List.append_assoc, E_app _ _ _ ((E H0 D).2 ++ D) (Nat.le_refl _)]
  have hfin : fin (E (E (E H0 D).1 ((E H0 D).2 ++ D)).1 ((E (E H0 D).1 ((E H0 D).2 ++ D)).2 ++ b)) (0 + D.length + D.length + b.length) = sumB (D ++ (D ++ b)) := by
    unfold sumB
    rw [hp1]
    congr 1
    simp only [List.length_append]
    omega
  have l1 := E_le _ H0 D (Nat.le_refl _)
  refine cl_eff [(0, 192), (1, 128)] (warr_fn H0 .nil [] D 0 (.inr ⟨rfl, rfl⟩) (by simp; omega) hD (by omega)) rfl (by simp) (by simp [lk]) (by simp [lk, Blk.ren, renR, h_ren, cb_ren, AV.renL, AV.ren, rho, swp]) (by simp [AV.renL, AV.ren, rho, swp, lk]) ?_
  rintro r hp' ⟨rfl, h0, h1⟩
  refine ⟨[], rfl, ?_⟩
  rw [List.nil_append] at h0
  generalize E H0 D = p1 at *
  have l2 := E_le _ p1.1 (p1.2 ++ D) (Nat.le_refl _)
  rw [List.length_append] at l2
  simp [go_sem, outH, outP, h0, h1, Blk.ren, renR, h_ren, cb_ren, nb_ren, AV.renL, AV.ren, rho]
  refine cl_eff [(0, 192), (1, 128)] (warr_fn p1.1 (.d (nb p1.2)) p1.2 D (0 + D.length) (.inl rfl) (by omega) hD (by omega)) rfl (by simp) (by simp [lk]) (by simp [lk, Blk.ren, renR, h_ren, cb_ren, nb_ren, AV.renL, AV.ren, rho, swp]) (by simp [AV.renL, AV.ren, rho, swp, lk]) ?_
  rintro r hp' ⟨rfl, h0, h1⟩
  refine ⟨[], rfl, ?_⟩
  generalize E p1.1 (p1.2 ++ D) = p2 at *
  have l3 := E_le _ p2.1 (p2.2 ++ b) (Nat.le_refl _)
  rw [List.length_append] at l3
  simp [go_sem, outH, outP, h0, h1, Blk.ren, renR, h_ren, cb_ren, nb_ren, AV.renL, AV.ren, rho]
  refine cl_eff [(0, 192)] (w_fn p2.1 (.d (nb p2.2)) p2.2 b (0 + D.length + D.length) (.inl rfl) (by omega) (by omega)) rfl (by simp) (by simp [lk]) (by simp [lk, Blk.ren, renR, h_ren, cb_ren, nb_ren, AV.renL, AV.ren, rho, swp]) (by simp [AV.renL, AV.ren, rho, swp, lk]) ?_
  rintro r hp' ⟨rfl, h0⟩
  refine ⟨[], rfl, ?_⟩
  generalize E p2.1 (p2.2 ++ b) = p3 at *
  simp [go_sem, outH, outP, h0, h1, Blk.ren, renR, h_ren, cb_ren, nb_ren, AV.renL, AV.ren, rho]
  refine cl_eff [(0, 192)] (sum_fn p3.1 (.d (nb p3.2)) p3.2 (0 + D.length + D.length + b.length) (.inl rfl) (by omega)) rfl (by simp) (by simp [lk]) (by simp [lk, Blk.ren, renR, h_ren, nb_ren, AV.ren, rho, swp]) (by simp [AV.renL, AV.ren, rho, swp, lk]) ?_
  rintro r hp' ⟨rfl, h0⟩
  refine ⟨[], rfl, ?_⟩
  have hf : dig (eat (lastOf p3.2 (0 + D.length + D.length + b.length)).length p3.1 (lastOf p3.2 (0 + D.length + D.length + b.length))).1 = sumB (D ++ (D ++ b)) := hfin
  rw [hf]
  have hL := sumB_len (D ++ (D ++ b))
  generalize sumB (D ++ (D ++ b)) = R at *
  simp [go_sem, outH, outP, h0, Blk.ren, renR, h_ren, nb_ren, cb_ren, AV.ren, rho, resV, hL, cb_take hL, z32_drop]
  exact post_same (by simp [AV.deep]; exact cb_deep _) rfl
end Go.Proofs.Ytiihldilefeldaa
