/-
  Headers' names, and numbers of 256 bits: by the other text.
-/
import Derived.Test.YtbkbcjhghmlphaaHwd
namespace Go.Proofs.Ytbkbcjhghmlphaa
open Go.Am Go.Sha
set_option linter.unusedSimpArgs false
set_option linter.unusedVariables false

theorem take_snocA {α : Type} {l : List α} {k : Nat} {x : α} (h : l[k]? = some x) : l.take k ++ [x] = l.take (k + 1) := by
  rw [List.take_add_one, h]; rfl
theorem doubleR_fn (b : List Nat) (hb : b.length ≤ 1000000) (hby : ∀ x, x ∈ b → x < 256) : Rets Try.prog 123 [.d (nb b)] (fun r => r = .agg (cb (dblB b))) := by
  refine fn_of_awp Try.func123 (by kernel_rfl) rfl Try.ntmps123 (rs := [.cell 2 22]) rfl (Nat.le_of_ble_eq_true rfl) (by simp [AV.deep, AV.deep1]) ?_
  simp [go_sem]
  refine cl_eq (sumR_fn b (by omega) hby) (by simp [AV.deep, AV.deep1]) ?_
  have hl := sumB_len b
  have hsb := sumB_bytes b
  unfold dblB
  generalize sumB b = s at *
  have hz : (cb z32).drop 32 = [] := rfl
  simp [go_sem, cb_len, hl, hz]
  refine cl_froz [96] (sumR_fn s (by omega) hsb) rfl (snap_cons (.one (snap1_d (snap_arr rfl (by simp) hl))) snap_nil) ?_
  have hl2 := sumB_len s
  generalize sumB s = s2 at *
  have ht : (cb s2).take 32 = cb s2 := List.take_of_length_le (by rw [cb_len]; omega)
  simp [go_sem, dropH, cb_len, hl2, hz, ht, resV]
  exact post_same (cb_deepA _) rfl

theorem putR_o (b : List Nat) (x : Nat) (hb : b.length ≤ 1000000) (hx : x < 4294967296) : RetsE Try.prog 134 0 [] [.d (nb b), .d (.int .u64 (x : Int)), .d (.int .i64 4)] (OwnB (b ++ le x 4)) :=
  E_mono (putR_own b x 4 4 rfl (by omega) (by omega) (by omega)) fun r hp' h => ⟨33, h.1, h.2⟩
set_option maxHeartbeats 2000000 in
theorem putHeaderR_fn (h : Hd) (hk : h.ok) : Rets Try.prog 124 [.agg (eH h)] (fun r => r = .d (nb (headB h))) := by
  obtain ⟨hv, hp, hr, ht, hb, hn, _, _⟩ := hk
  refine fn_of_awp Try.func124 (by kernel_rfl) rfl Try.ntmps124 (rs := [.tmp 2]) rfl (Nat.le_of_ble_eq_true rfl) (one_eH h) ?_
  have hl := eH_len hp hr
  have g0 : (eH h).head? = some (.d (.int .u32 (h.ver : Int))) := rfl
  have wu : ∀ x : Nat, x < 4294967296 → IntKind.u64.wrap (x : Int) = (x : Int) := fun x hx => by rw [u64w]; omega
  simp [go_sem, hl, g0, wu h.ver hv]
  refine cl_effz [] (putR_o [] h.ver (by simp) hv) rfl (snap_cons (.one (snap1_d (.nil 1))) (snap_cons (.deep (by simp [AV.deep, AV.deep1])) (snap_cons (.deep (by simp [AV.deep, AV.deep1])) snap_nil))) (fun ρ => by simp [AV.renL, AV.ren]) ?_
  rintro r hp' ⟨I, rfl, h0⟩
  refine ⟨[(I, 0)], by simp [newsB, prsB], ?_⟩
  have hxp := eH_rows1 hp
  have hxr := eH_rows33 hp hr
  simp [go_sem] at hxp hxr
  have g65 := eH_get hp hr 0
  have g66 := eH_get hp hr 1
  have g67 := eH_get hp hr 2
  simp at g65 g66 g67
  simp [go_sem, outH, outP, h0, Blk.ren, renR, rb_ren, AV.renL, AV.ren, rho, dropH, hxp, hxr, rb_len, rb_app, le_len, g65, wu h.time ht]
  refine ⟨by omega, by omega, ?_⟩
  have hL1 : (le h.ver 4 ++ (h.prev ++ h.root)).length = 4 + h.prev.length + h.root.length := by simp [le_len]; omega
  have hF : headB h = le h.ver 4 ++ (h.prev ++ h.root) ++ le h.time 4 ++ le h.bits 4 ++ le h.nonce 4 := by simp [headB]
  generalize headB h = F at *
  clear hxp hxr
  generalize le h.ver 4 ++ (h.prev ++ h.root) = B1 at *
  refine cl_effz [160] (putR_o B1 h.time (by omega) ht) rfl (snap_cons (.one (snap1_d (snap_full hL1 rfl (by simp)))) (snap_cons (.deep (by simp [AV.deep, AV.deep1])) (snap_cons (.deep (by simp [AV.deep, AV.deep1])) snap_nil))) (fun ρ => by simp [AV.renL, AV.ren]) ?_
  rintro r hp' ⟨J, rfl, h1⟩
  refine ⟨[(J, 0)], by simp [newsB, prsB], ?_⟩
  have hL2 : (B1 ++ le h.time 4).length = B1.length + 4 := by rw [List.length_append, le_len]
  generalize B1 ++ le h.time 4 = B2 at *
  simp [go_sem, outH, outP, h1, Blk.ren, renR, rb_ren, AV.renL, AV.ren, rho, dropH, rb_len, g66, wu h.bits hb]
  refine cl_effz [672] (putR_o B2 h.bits (by omega) hb) rfl (snap_cons (.one (snap1_d (snap_full rfl rfl (by simp)))) (snap_cons (.deep (by simp [AV.deep, AV.deep1])) (snap_cons (.deep (by simp [AV.deep, AV.deep1])) snap_nil))) (fun ρ => by simp [AV.renL, AV.ren]) ?_
  rintro r hp' ⟨K, rfl, h2⟩
  refine ⟨[(K, 0)], by simp [newsB, prsB], ?_⟩
  have hL3 : (B2 ++ le h.bits 4).length = B2.length + 4 := by rw [List.length_append, le_len]
  generalize B2 ++ le h.bits 4 = B3 at *
  simp [go_sem, outH, outP, h2, Blk.ren, renR, rb_ren, AV.renL, AV.ren, rho, dropH, rb_len, g67, wu h.nonce hn]
  rw [hF]
  refine cl_froz [864] (putR_fn B3 h.nonce 4 4 rfl (by omega) (by omega) (by omega)) rfl (snap_cons (.one (snap1_d (snap_full rfl rfl (by simp)))) (snap_cons (.deep (by simp [AV.deep, AV.deep1])) (snap_cons (.deep (by simp [AV.deep, AV.deep1])) snap_nil))) ?_
  simp [go_sem, resV]
  exact post_same (by simp [AV.deep, AV.deep1]) rfl

theorem nameR_fn (h : Hd) (hk : h.ok) : Rets Try.prog 85 [.agg (eH h)] (fun r => r = .agg (cb (dblB (headB h)))) := by
  refine fn_of_awp Try.func85 (by kernel_rfl) rfl Try.ntmps85 (rs := [.cell 2 22]) rfl (Nat.le_of_ble_eq_true rfl) (one_eH h) ?_
  have hl := eH_len hk.2.1 hk.2.2.1
  have ht : (eH h).take 68 = eH h := List.take_of_length_le (by omega)
  simp [go_sem, hl, ht]
  refine cl_eq (putHeaderR_fn h hk) (one_eH h) ?_
  simp [go_sem]
  refine cl_eq (doubleR_fn (headB h) (by rw [headB_len hk]; omega) (headB_by hk)) (by simp [AV.deep, AV.deep1]) ?_
  have hl2 : (dblB (headB h)).length = 32 := sumB_len _
  generalize dblB (headB h) = s2 at *
  have hz : (cb z32).drop 32 = [] := rfl
  have ht : (cb s2).take 32 = cb s2 := List.take_of_length_le (by rw [cb_len]; omega)
  simp [go_sem, cb_len, hl2, hz, ht, resV]
  exact post_same (cb_deepA _) rfl

set_option maxHeartbeats 4000000 in
theorem cmpR_fn (a b : List Nat) (ha : a.length = 4) (hb : b.length = 4) : Rets Try.prog 122 [.agg (cW a), .agg (cW b)] (fun r => r = .d (.int .i64 (cmpF a b 4))) := by
  refine fn_of_awp Try.func122 (by kernel_rfl) rfl Try.ntmps122 (rs := [.tmp 4]) rfl (Nat.le_of_ble_eq_true rfl) (by intro v hv; simp at hv; rcases hv with rfl | rfl <;> exact cW_deep _) ?_
  generalize hF : cmpF a b 4 = F
  simp [go_sem]
  refine loop_of (fun k : Nat => ⟨[(2, .ptr 0 0 0 1), (3, .ptr 32 0 0 1), (5, .d (.int .i64 (ixD k)))], [(32, ⟨114, 4, [cW b]⟩), (0, ⟨114, 4, [cW a]⟩)], 500⟩)
    (fun k => k ≤ 4 ∧ cmpF a b k = F) (fun k => k) 4 ⟨by omega, hF⟩ (by
      simp [Weak, slotOk, fv, lk, AV.low, AV.low1, cW_len, ha, hb, ixD]
      exact ⟨cW_low _ _, cW_low _ _⟩) ?_
  rintro k ⟨hk, hq⟩
  cases k with
  | zero =>
    simp only [cmpF] at hq
    subst hq
    simp [go_sem, ixD_z, resV]
    exact post_same (by simp [AV.deep, AV.deep1]) rfl
  | succ k =>
    obtain ⟨x, hx, _⟩ := drop_of (l := a) (k := k) (by omega)
    obtain ⟨y, hy, _⟩ := drop_of (l := b) (k := k) (by omega)
    have ex : a.getD k 0 = x := by rw [List.getD_eq_getElem?_getD, hx]; rfl
    have ey : b.getD k 0 = y := by rw [List.getD_eq_getElem?_getD, hy]; rfl
    simp only [cmpF, ex, ey] at hq
    have hw := ixD_down k (by omega)
    simp [go_sem, ixD_s]
    apply draw2 (0 :: 1 :: 2 :: 3 :: 4 :: 5 :: 6 :: []) ([]) 0 (k := 7) (by kernel_rfl) (by kernel_rfl) rfl
    case hz => repeat (first | exact Its.nil | apply Its.plain rfl | apply Its.guard rfl rfl)
    case hj => repeat (first | exact Jts.nil | exact Its.nil | apply Its.plain rfl | apply Its.guard rfl rfl | apply Jts.plain rfl | apply Jts.guard rfl rfl)
    intro G hG
    simp [go_sem, cW_get, hx, hy]
    refine ⟨by omega, hG _ _ ?_⟩
    by_cases h1 : x < y
    · rw [if_pos h1] at hq
      subst hq
      simp [go_sem, h1, resV]
      exact post_same (by simp [AV.deep, AV.deep1]) rfl
    · rw [if_neg h1] at hq
      simp [go_sem, h1]
      apply draw2 (0 :: 1 :: 2 :: 3 :: 4 :: 5 :: 6 :: []) ([]) 0 (k := 7) (by kernel_rfl) (by kernel_rfl) rfl
      case hz => repeat (first | exact Its.nil | apply Its.plain rfl | apply Its.guard rfl rfl)
      case hj => repeat (first | exact Jts.nil | exact Its.nil | apply Its.plain rfl | apply Its.guard rfl rfl | apply Jts.plain rfl | apply Jts.guard rfl rfl)
      intro G hG
      simp [go_sem, cW_get, hx, hy]
      refine ⟨by omega, hG _ _ ?_⟩
      by_cases h2 : y < x
      · rw [if_pos h2] at hq
        subst hq
        simp [go_sem, h2, resV]
        exact post_same (by simp [AV.deep, AV.deep1]) rfl
      · rw [if_neg h2] at hq
        simp [go_sem, h2, hw]
        refine next_of k ⟨by omega, hq⟩ (by omega) ?_
        simp [Weak, slotOk, fv, lk, AV.low, AV.low1, cW_len, ha, hb]
        exact ⟨cW_low _ _, cW_low _ _⟩

set_option maxHeartbeats 4000000 in
theorem readR_fn (b : List Nat) (hb : b.length = 32) (hby : ∀ x, x ∈ b → x < 256) : Rets Try.prog 119 [.agg (cb b)] (fun r => r = .agg (cW (mulW b 32))) := by
  refine fn_of_awp Try.func119 (by kernel_rfl) rfl Try.ntmps119 (rs := [.cell 2 114]) rfl (Nat.le_of_ble_eq_true rfl) (by intro v hv; simp at hv; subst hv; exact cb_deepA _) ?_
  have hcl : (cb b).length = 32 := by rw [cb_len]; exact hb
  simp [go_sem, hcl]
  refine loop_of (fun i : Nat => ⟨[(1, .ptr 0 0 0 1), (2, .ptr 32 0 0 1), (3, .ptr 96 0 0 1), (4, .d (.int .i64 (i : Int)))], [(0, ⟨22, 32, [cb b]⟩), (32, ⟨114, 4, [cW [0, 0, 0, 0]]⟩), (96, ⟨114, 4, [cW (mulW b i)]⟩)], 500⟩)
    (fun i => i ≤ 32) (fun i => 32 - i) 0 (by omega) (by
      simp [Weak, slotOk, fv, lk, AV.low, AV.low1, cW_len, mulW_zero]
      repeat' apply And.intro
      all_goals first | rfl | exact cW_low _ _ | exact cb_low _ _) ?_
  intro i hi
  simp only [go_sem, Nat.reduceEqDiff, Nat.reduceAdd, Nat.reduceLT, ↓reduceIte, Nat.reduceMul]
  refine ⟨fun h => ?_, fun h => ?_⟩
  · obtain ⟨c, hc, _⟩ := drop_of (l := b) (k := i) (by omega)
    obtain ⟨w, hw1, hw2, hw4⟩ := mulW_next hb hby hc
    have w3 := next_i64 (k := i) (by omega)
    have hc8 := hby c (List.mem_of_getElem? hc)
    have q3 : IntKind.i64.wrap (3 - IntKind.i64.wrap ((i : Int) / 8)) = ((3 - i / 8 : Nat) : Int) := by
      rw [show IntKind.i64.wrap ((i : Int) / 8) = ((i / 8 : Nat) : Int) by rw [IntWalk.i64_in _ (by omega)]; omega, IntWalk.i64_in _ (by omega)]
      omega
    have q5 : IntKind.u64.wrap (c : Int) = (c : Int) := by rw [u64w]; omega
    have q6 : IntKind.u64.wrap (IntKind.u64.wrap ((w : Int) * 256) + (c : Int)) = ((w * 256 + c : Nat) : Int) := by
      rw [show IntKind.u64.wrap ((w : Int) * 256) = (w : Int) * 256 by rw [u64w]; omega, u64w]
      omega
    have hj4 : 3 - i / 8 < 4 := by omega
    generalize 3 - i / 8 = j at *
    generalize w * 256 + c = z at *
    apply draw2 (0 :: 1 :: 2 :: 3 :: 4 :: 5 :: 6 :: 7 :: 8 :: 9 :: 10 :: 11 :: 12 :: 13 :: 14 :: []) ((15, ([])) :: []) 0 (k := 16) (by kernel_rfl) (by kernel_rfl) rfl
    case hz => repeat (first | exact Its.nil | apply Its.plain rfl | apply Its.guard rfl rfl)
    case hj => repeat (first | exact Jts.nil | exact Its.nil | apply Its.plain rfl | apply Its.guard rfl rfl | apply Jts.plain rfl | apply Jts.guard rfl rfl)
    intro G hG
    simp [go_sem, q3, q5, q6, cW_get, cb_get, hc, hw1, cW_len, mulW_len, cW_set, hw4]
    have hi32 : (i : Int) < 32 := h
    have hj32 : (j : Int) < 4 := by omega
    first
    | refine ⟨hj32, hi32, hj4, hG _ _ ?_⟩
    | refine ⟨hj32, hi32, hj32, hj4, hG _ _ ?_⟩
    | refine ⟨hj4, hG _ _ ?_⟩
    | refine ⟨hj32, hj4, hG _ _ ?_⟩
    | trace_state
    simp [go_sem, w3]
    refine next_of (i + 1) (by omega) (by omega) ?_
    simp [Weak, slotOk, fv, lk, AV.low, AV.low1, cW_len]
    repeat' apply And.intro
    all_goals first | rfl | exact cW_low _ _ | exact cb_low _ _
  · have h32 : i = 32 := by omega
    subst h32
    have htk4 : (cW (mulW b 32)).take 4 = cW (mulW b 32) := List.take_of_length_le (by rw [cW_len, mulW_len]; omega)
    have d4 : (cW [0, 0, 0, 0]).drop 4 = [] := rfl
    simp [go_sem, resV, cW_len, mulW_len, htk4, d4]
    exact post_same (cW_deep _) rfl

theorem post_own {Q : AV → Prop} {st : St} {id n : Nat} {L : List Nat} (hn : n = L.length) (hb : lk id st.hp = some ⟨5, 1, rb L⟩) (hq : Q (.d (nb L))) : PostK Q (.own id 0 n n) st := by
  subst hn
  exact post_words_b hb hq
theorem turnedR_fn (b : List Nat) (hb : b.length ≤ 900) : Rets Try.prog 121 [.d (nb b)] (fun r => r = .d (nb b.reverse)) := by
  refine fn_of_awp Try.func121 (by kernel_rfl) rfl Try.ntmps121 (rs := [.tmp 2]) rfl (Nat.le_of_ble_eq_true rfl) (by simp [AV.deep, AV.deep1]) ?_
  have wi : IntKind.i64.wrap ((b.length : Int) - 1) = ixD b.length := ixD_down b.length (by omega)
  generalize hF : nb b.reverse = F
  simp [go_sem, nb, wi]
  refine loop_of (fun k : Nat => ⟨[(0, .d (nb b)), (3, .own 32 0 (b.length - k) (b.length - k)), (4, .d (.int .i64 (ixD k)))], [(32, ⟨5, 1, rb (b.drop k).reverse⟩)], 500⟩)
    (fun k => k ≤ b.length) (fun k => k) b.length (Nat.le_refl _) (by
      simp [Weak, slotOk, fv, lk, AV.low, AV.low1, nb, rb]) ?_
  intro k hk
  cases k with
  | zero =>
    simp [go_sem, ixD_z, resV]
    exact post_own (L := b.reverse) (by simp) rfl (by rw [hF])
  | succ k =>
    obtain ⟨x, hx, hd⟩ := drop_of (l := b) (k := k) (by omega)
    have hw := ixD_down k (by omega)
    have hl : (b.drop (k + 1)).reverse.length = b.length - (k + 1) := by simp
    have hs : rb (b.drop (k + 1)).reverse ++ [[AV.d (.int .u8 (x : Int))]] = rb (b.drop k).reverse := by rw [hd, List.reverse_cons, rb_snoc]
    simp [go_sem, ixD_s, nb, hx, hw, rb_len, hs]
    refine ⟨by omega, next_of k (by omega) (by omega) ?_⟩
    simp [Weak, slotOk, fv, lk, AV.low, AV.low1, nb]
    exact ⟨by omega, rb_low _ _⟩

theorem hashR_fn (b : List Nat) (hb : b.length = 32) : Rets Try.prog 120 [.d (nb b)] (fun r => r = .agg (cb b)) := by
  refine fn_of_awp Try.func120 (by kernel_rfl) rfl Try.ntmps120 (rs := [.cell 2 22]) rfl (Nat.le_of_ble_eq_true rfl) (by simp [AV.deep, AV.deep1]) ?_
  have hz : (cb z32).drop 32 = [] := rfl
  have hzl : (cb z32).length = 32 := rfl
  have hzt : (cb z32).take 32 = cb z32 := rfl
  simp [go_sem, nb, hz, hzl, hzt]
  refine loop_of (fun i : Nat => ⟨[(0, .d (nb b)), (2, .ptr 0 0 0 1), (3, .ptr 64 0 0 1), (4, .d (.int .i64 (i : Int)))], [(0, ⟨22, 32, [cb z32]⟩), (64, ⟨22, 32, [cb (b.take i ++ z32.drop i)]⟩)], 500⟩)
    (fun i => i ≤ 32) (fun i => 32 - i) 0 (by omega) (by
      simp [Weak, slotOk, fv, lk, AV.low, AV.low1, nb]
      repeat' apply And.intro
      all_goals first | rfl | exact cb_low _ _) ?_
  intro i hi
  by_cases h32 : i = 32
  · subst h32
    have e : b.take 32 ++ z32.drop 32 = b := by rw [List.take_of_length_le (by omega)]; simp [z32]
    have hcl : (cb b).length = 32 := by rw [cb_len]; exact hb
    have htk : (cb b).take 32 = cb b := List.take_of_length_le (by omega)
    rw [e]
    simp [go_sem, nb, hb, resV, hcl, htk, hz]
    exact post_same (cb_deepA _) rfl
  · obtain ⟨c, hc, _⟩ := drop_of (l := b) (k := i) (by omega)
    have w3 := next_i64 (k := i) (by omega)
    have hl : (b.take i ++ z32.drop i).length = 32 := by simp [z32]; omega
    have hs : (b.take i ++ z32.drop i).set i c = b.take (i + 1) ++ z32.drop (i + 1) := by
      have hz0 : z32.drop i = 0 :: z32.drop (i + 1) := by
        unfold z32
        rw [List.drop_replicate, List.drop_replicate, show 32 - i = (32 - (i + 1)) + 1 by omega, List.replicate_succ]
      rw [hz0, List.set_append_right _ _ (by simp; omega), List.length_take, show i - min i b.length = 0 by omega, List.set_cons_zero, ← take_snocA hc, List.append_assoc]
      rfl
    have i1 : (i : Int) < 32 := by omega
    have i2 : i < 32 := by omega
    have i3 : (i : Int) < (b.length : Int) := by omega
    have i4 : i < b.length := by omega
    generalize b.take i ++ z32.drop i = L at *
    have hbi : ∀ p : i < b.length, b[i] = c := fun p => (List.getElem?_eq_some_iff.1 hc).2
    simp [go_sem, nb, hbi, i1, i2, i3, i4, cb_len, cb_set, hl, hs, w3]
    refine next_of (i + 1) (by omega) (by omega) ?_
    simp [Weak, slotOk, fv, lk, AV.low, AV.low1, nb]
    repeat' apply And.intro
    all_goals first | rfl | exact cb_low _ _
end Go.Proofs.Ytbkbcjhghmlphaa
