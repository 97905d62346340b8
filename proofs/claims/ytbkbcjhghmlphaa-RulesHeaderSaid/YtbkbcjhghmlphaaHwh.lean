/-
  Targets, headers and mining by the other text; the law RulesHeader.
-/
import Derived.Test.YtbkbcjhghmlphaaHwe
import Derived.Test.YtbkbcjhghmlphaaHwf
import Derived.Test.YtbkbcjhghmlphaaHwg
namespace Go.Proofs.Ytbkbcjhghmlphaa
open Go.Am Go.Sha
set_option linter.unusedSimpArgs false
set_option linter.unusedVariables false

set_option maxHeartbeats 4000000 in
theorem expandR_fn (b : Nat) (hb : b < 4294967296) : Rets Try.prog 118 [.d (.int .u32 (b : Int))] (fun r => r = .tup [.agg (cW (expV b).1), .d (.int .i64 (expV b).2)]) := by
  refine fn_of_awp Try.func118 (by kernel_rfl) rfl Try.ntmps118 (rs := [.cell 2 114, .tmp 3]) rfl (Nat.le_of_ble_eq_true rfl) (by simp [AV.deep, AV.deep1]) ?_
  have hE : expV b = if b / 8388608 % 2 = 1 then ([0, 0, 0, 0], 3) else prgE (b / 16777216) (b % 8388608) := rfl
  have hg := goR_eq (b / 16777216) (b / 65536 % 128) (b / 256 % 256) (b % 256) (by omega) (by omega) (by omega)
  rw [show b / 65536 % 128 * 65536 + b / 256 % 256 * 256 + b % 256 = b % 8388608 by omega] at hg
  rw [← hg] at hE
  have he : b / 16777216 < 256 := by omega
  have ha : b / 65536 % 128 < 128 := by omega
  have u32 : ∀ x : Nat, x < 4294967296 → IntKind.u32.wrap (x : Int) = (x : Int) := fun x h => by rw [u32w]; omega
  have q1 : IntKind.u32.wrap ((b : Int) / 16777216) = ((b / 16777216 : Nat) : Int) := by rw [u32w]; omega
  have q2 : Int.tmod (IntKind.u32.wrap ((b : Int) / 65536)) 128 = ((b / 65536 % 128 : Nat) : Int) := by
    rw [show IntKind.u32.wrap ((b : Int) / 65536) = ((b / 65536 : Nat) : Int) by rw [u32w]; omega]
    rfl
  have q3 : IntKind.u8.wrap ((b / 65536 % 128 : Nat) : Int) = ((b / 65536 % 128 : Nat) : Int) := by rw [u8w]; omega
  have q4 : IntKind.u8.wrap (IntKind.u32.wrap ((b : Int) / 256)) = ((b / 256 % 256 : Nat) : Int) := by
    rw [show IntKind.u32.wrap ((b : Int) / 256) = ((b / 256 : Nat) : Int) by rw [u32w]; omega, u8w]
    omega
  have q5 : IntKind.u8.wrap (b : Int) = ((b % 256 : Nat) : Int) := by rw [u8w]; omega
  have q6 : Int.tmod (IntKind.u32.wrap ((b : Int) / 8388608)) 2 = ((b / 8388608 % 2 : Nat) : Int) := by
    rw [show IntKind.u32.wrap ((b : Int) / 8388608) = ((b / 8388608 : Nat) : Int) by rw [u32w]; omega]
    rfl
  generalize hF : expV b = F at *
  have h1 : b / 256 % 256 < 256 := by omega
  have h2 : b % 256 < 256 := by omega
  generalize b / 16777216 = e at *
  generalize b / 65536 % 128 = x at *
  generalize b / 256 % 256 = y at *
  generalize b % 256 = z at *
  have wi : IntKind.i64.wrap (e : Int) = (e : Int) := i64n (by omega)
  by_cases c1 : b / 8388608 % 2 = 1
  · rw [if_pos c1] at hE
    rw [c1] at q6
    subst hE
    simp [go_sem, q1, q2, q3, q4, q5, q6, wi]
    exact post_same (by simp [AV.deep, AV.deep1]) rfl
  · rw [if_neg c1] at hE
    have c2 : b / 8388608 % 2 = 0 := by omega
    rw [c2] at q6
    have hzl : (cb z32).length = 32 := rfl
    have hzt : (cb z32).take 32 = cb z32 := rfl
    have hzd : (cb z32).drop 32 = [] := rfl
    simp [go_sem, q1, q2, q3, q4, q5, q6, wi, hzl, hzt, hzd]
    clear q1 q2 q3 q4 q5 q6 hg
    have hMl : [x, y, z].length = 3 := rfl
    have hMb : ∀ v, v ∈ [x, y, z] → v < 256 := by
      intro v hv
      simp only [List.mem_cons, List.mem_nil_iff, or_false] at hv
      rcases hv with rfl | rfl | rfl <;> omega
    have hrb : [[AV.d (.int .u8 (x : Int))], [AV.d (.int .u8 (y : Int))], [AV.d (.int .u8 (z : Int))]] = rb [x, y, z] := rfl
    rw [hrb]
    generalize [x, y, z] = M at *
    refine loop_of (fun u : Nat × List Nat × Bool => ⟨[(2, .ptr 0 0 0 1), (4, .d (.int .i64 (e : Int))), (5, .own 480 0 3 3), (6, .ptr 704 0 0 1), (7, .d (.bool u.2.2)), (8, .d (.int .i64 (u.1 : Int)))], [(704, ⟨22, 32, [cb u.2.1]⟩), (480, ⟨5, 1, rb M⟩), (0, ⟨114, 4, [cW [0, 0, 0, 0]]⟩)], 1000⟩)
      (fun u => u.1 ≤ 3 ∧ u.2.1.length = 32 ∧ (∀ v, v ∈ u.2.1 → v < 256) ∧ goR e (M.drop u.1) u.1 u.2.1 u.2.2 = F) (fun u => 3 - u.1) (0, z32, false) ⟨by simp, rfl, by simp [z32], hE.symm⟩ (by
        simp [Weak, slotOk, fv, lk, AV.low, AV.low1]
        repeat' apply And.intro
        all_goals first | rfl | exact cb_low _ _ | exact rb_low _ _ | exact cW_low _ _) ?_
    rintro ⟨i, out, any⟩ ⟨hi, hol, hob, hG⟩
    simp only at hi hol hob hG
    by_cases hi3 : i = 3
    · subst hi3
      rw [List.drop_eq_nil_of_le (by omega)] at hG
      simp only [goR] at hG
      have hcl : (cb out).length = 32 := by rw [cb_len]; exact hol
      have hct : (cb out).take 32 = cb out := List.take_of_length_le (by omega)
      have hml := mulW_len out 32
      have d4 : (cW [0, 0, 0, 0]).drop 4 = [] := rfl
      have hm4 : (cW (mulW out 32)).take 4 = cW (mulW out 32) := List.take_of_length_le (by rw [cW_len]; omega)
      cases any
      · simp at hG
        subst hG
        simp [go_sem, resV, cW_len]
        exact post_same (pair_deep [0, 0, 0, 0] _) rfl
      · simp at hG
        subst hG
        simp [go_sem, hcl, hct]
        refine cl_eq (readR_fn out hol hob) (by intro v hv; simp at hv; subst hv; exact cb_deepA _) ?_
        generalize mulW out 32 = W at *
        simp [go_sem, resV, cW_len, hml, hm4, d4]
        exact post_same (pair_deep _ _) rfl
    · obtain ⟨v, hv, hd⟩ := drop_of (l := M) (k := i) (by omega)
      have hv8 := hMb v (List.mem_of_getElem? hv)
      have w3 := next_i64 (k := i) (by omega)
      have w1 : IntKind.i64.wrap ((e : Int) - 1) = (e : Int) - 1 := IntWalk.i64_in _ (by omega)
      have w2 : IntKind.i64.wrap ((e : Int) - 1 - (i : Int)) = (e : Int) - 1 - (i : Int) := IntWalk.i64_in _ (by omega)
      have w4 : IntKind.i64.wrap (31 - ((e : Int) - 1 - (i : Int))) = ((31 - (e - 1 - i) : Nat) : Int) ∨ ¬ (i < e ∧ e ≤ 32 + i) := by
        by_cases h : i < e ∧ e ≤ 32 + i
        · exact .inl (by rw [IntWalk.i64_in _ (by omega)]; omega)
        · exact .inr h
      rw [hd] at hG
      simp only [goR] at hG
      have i3 : (i : Int) < 3 := by omega
      have hrv : (rb M)[i]? = some [.d (.int .u8 (v : Int))] := by simp [rb, hv]
      have hcl : (cb out).length = 32 := by rw [cb_len]; exact hol
      by_cases cA : 32 + i < e
      · have j1 : (32 : Int) ≤ (e : Int) - 1 - (i : Int) := by omega
        by_cases hv0 : v = 0
        · rw [if_neg (by omega), if_neg (by omega)] at hG
          subst hv0
          have j2 : (i : Int) ≤ (e : Int) - 1 := by omega
          have j3 : ¬ (e : Int) - 1 - (i : Int) < 32 := by omega
          simp [go_sem, i3, w1, w2, j1, j2, j3, hrv, w3, rb_len, hMl]
          refine next_of (i + 1, out, any) ⟨by simp only; omega, hol, hob, hG⟩ (by simp only; omega) ?_
          simp [Weak, slotOk, fv, lk, AV.low, AV.low1]
          repeat' apply And.intro
          all_goals first | rfl | exact cb_low _ _ | exact rb_low _ _ | exact cW_low _ _
        · rw [if_pos ⟨cA, hv0⟩] at hG
          subst hG
          simp [go_sem, i3, w1, w2, j1, hrv, hv0, resV, rb_len, hMl, cW_len]
          exact post_same (pair_deep [0, 0, 0, 0] _) rfl
      · rw [if_neg (by omega)] at hG
        have j1 : ¬ (32 : Int) ≤ (e : Int) - 1 - (i : Int) := by omega
        by_cases cB : i < e ∧ e ≤ 32 + i
        · rw [if_pos cB] at hG
          have w5 := w4.resolve_right (fun h => h cB)
          have j2 : (i : Int) ≤ (e : Int) - 1 := by omega
          have j3 : (e : Int) - 1 - (i : Int) < 32 := by omega
          have hp32 : 31 - (e - 1 - i) < 32 := by omega
          generalize 31 - (e - 1 - i) = pl at *
          have hpl : (pl : Int) < 32 := by omega
          have hol2 : (out.set pl v).length = 32 := by rw [List.length_set]; exact hol
          have hob2 : ∀ u, u ∈ out.set pl v → u < 256 := by
            intro u hu
            rcases List.mem_or_eq_of_mem_set hu with h | rfl
            · exact hob u h
            · exact hv8
          cases any
          · by_cases hv0 : v = 0
            · have hG2 : goR e (M.drop (i + 1)) (i + 1) (out.set pl v) false = F := by rw [← hG]; simp [hv0]
              subst hv0
              have hcs : (cb out).set pl (.d (.int .u8 0)) = cb (out.set pl 0) := cb_set out pl 0
              simp [go_sem, i3, w1, w2, w5, j1, j2, j3, hrv, w3, hcl, hcs, rb_len, hMl, hp32, hpl]
              refine next_of (i + 1, out.set pl 0, false) ⟨by simp only; omega, hol2, hob2, hG2⟩ (by simp only; omega) ?_
              simp [Weak, slotOk, fv, lk, AV.low, AV.low1]
              repeat' apply And.intro
              all_goals first | rfl | exact cb_low _ _ | exact rb_low _ _ | exact cW_low _ _
            · have hG2 : goR e (M.drop (i + 1)) (i + 1) (out.set pl v) true = F := by rw [← hG]; simp [hv0]
              simp [go_sem, i3, w1, w2, w5, j1, j2, j3, hrv, w3, hcl, cb_set, rb_len, hMl, hp32, hpl, hv0]
              refine next_of (i + 1, out.set pl v, true) ⟨by simp only; omega, hol2, hob2, hG2⟩ (by simp only; omega) ?_
              simp [Weak, slotOk, fv, lk, AV.low, AV.low1]
              repeat' apply And.intro
              all_goals first | rfl | exact cb_low _ _ | exact rb_low _ _ | exact cW_low _ _
          · have hG2 : goR e (M.drop (i + 1)) (i + 1) (out.set pl v) true = F := by rw [← hG]; simp
            simp [go_sem, i3, w1, w2, w5, j1, j2, j3, hrv, w3, hcl, cb_set, rb_len, hMl, hp32, hpl]
            refine next_of (i + 1, out.set pl v, true) ⟨by simp only; omega, hol2, hob2, hG2⟩ (by simp only; omega) ?_
            simp [Weak, slotOk, fv, lk, AV.low, AV.low1]
            repeat' apply And.intro
            all_goals first | rfl | exact cb_low _ _ | exact rb_low _ _ | exact cW_low _ _
        · rw [if_neg cB] at hG
          have j2 : ¬ (i : Int) ≤ (e : Int) - 1 := by omega
          simp [go_sem, i3, w1, w2, j1, j2, hrv, w3]
          refine next_of (i + 1, out, any) ⟨by simp only; omega, hol, hob, hG⟩ (by simp only; omega) ?_
          simp [Weak, slotOk, fv, lk, AV.low, AV.low1]
          repeat' apply And.intro
          all_goals first | rfl | exact cb_low _ _ | exact rb_low _ _ | exact cW_low _ _

theorem meetsR_fn (h : List Nat) (b : Nat) (hl : h.length = 32) (hby : ∀ x, x ∈ h → x < 256) (hb : b < 4294967296) :
    Rets Try.prog 84 [.agg (cb h), .d (.int .u32 (b : Int))] (fun r => r = .d (.bool (meetsV h b))) := by
  refine fn_of_awp Try.func84 (by kernel_rfl) rfl Try.ntmps84 (rs := [.tmp 4]) rfl (Nat.le_of_ble_eq_true rfl) (one_cb _ _) ?_
  generalize hF : meetsV h b = F
  unfold meetsV at hF
  have hcl : (cb h).length = 32 := by rw [cb_len]; exact hl
  have htk : (cb h).take 32 = cb h := List.take_of_length_le (by omega)
  simp [go_sem, hcl, htk]
  refine cl_eq (expandR_fn b hb) (by simp [AV.deep, AV.deep1]) ?_
  have hel := expV_len b
  generalize expV b = E at *
  obtain ⟨W, e⟩ := E
  simp only at hF hel
  have dz : [AV.d (DV.int IntKind.u64 0), AV.d (DV.int IntKind.u64 0), AV.d (DV.int IntKind.u64 0), AV.d (DV.int IntKind.u64 0)].drop 4 = [] := rfl
  have tW : (cW W).take 4 = cW W := List.take_of_length_le (by rw [cW_len]; omega)
  have hrl : h.reverse.length = 32 := by simp [hl]
  have hrb : ∀ x, x ∈ h.reverse → x < 256 := fun x hx => hby x (List.mem_reverse.1 hx)
  simp [go_sem, hcl, htk, cW_len, hel, tW, dz]
  refine cl_froz [0] (turnedR_fn h (by omega)) rfl (snap_cons (.one (snap1_d (snap_arr rfl (by simp) hl))) snap_nil) ?_
  simp [go_sem, dropH]
  refine cl_eq (hashR_fn h.reverse hrl) (by simp [AV.deep, AV.deep1]) ?_
  generalize h.reverse = hr at *
  simp [go_sem, cb_len, hrl]
  refine cl_eq (readR_fn hr hrl hrb) (by intro v hv; simp at hv; subst hv; exact cb_deepA _) ?_
  have hml := mulW_len hr 32
  have hm4 : (cW (mulW hr 32)).take 4 = cW (mulW hr 32) := List.take_of_length_le (by rw [cW_len]; omega)
  generalize mulW hr 32 = R at *
  simp [go_sem, cW_len, hml, hm4, dz]
  by_cases c1 : e = 0
  · subst c1
    simp [go_sem, cW_len, hel, tW, hml, hm4]
    refine cl_eq (cmpR_fn R W hml hel) (by intro v hv; simp at hv; rcases hv with rfl | rfl <;> exact cW_deep _) ?_
    simp [go_sem, resV]
    rw [← hF]
    exact post_same (by simp [AV.deep, AV.deep1]) (by simp)
  · have i1 : decide (e = 0) = false := decide_eq_false c1
    rw [i1, Bool.false_and] at hF
    subst hF
    simp [go_sem, c1, resV]
    exact post_same (by simp [AV.deep, AV.deep1]) rfl

set_option maxHeartbeats 2000000 in
theorem headerR_fn (h : Hd) (hk : h.ok) (bits median now : Nat) (hb : bits < 4294967296) (hm : median < 4294967296) (hw : now < 4294967296) :
    Rets Try.prog 47 [.agg (eH h), .d (.int .u32 (bits : Int)), .d (.int .u32 (median : Int)), .d (.int .u32 (now : Int))] (fun r => r = .d (.int .i64 (headV h bits median now))) := by
  refine fn_of_awp Try.func47 (by kernel_rfl) rfl Try.ntmps47 (rs := [.tmp 8]) rfl (Nat.le_of_ble_eq_true rfl) (by intro v hv; simp at hv; rcases hv with rfl | rfl | rfl | rfl; exact eH_deep _; trivial; trivial; trivial) ?_
  have hl := eH_len hk.2.1 hk.2.2.1
  have tkh : (eH h).take 68 = eH h := List.take_of_length_le (by omega)
  have h65 := eH_get hk.2.1 hk.2.2.1 0
  have h66 := eH_get hk.2.1 hk.2.2.1 1
  have g65 : ∀ p : 65 < (eH h).length, (eH h)[65] = .d (.int .u32 (h.time : Int)) := fun p => (List.getElem?_eq_some_iff.1 h65).2
  have g66 : ∀ p : 66 < (eH h).length, (eH h)[66] = .d (.int .u32 (h.bits : Int)) := fun p => (List.getElem?_eq_some_iff.1 h66).2
  generalize hF : headV h bits median now = F
  unfold headV at hF
  have ht := hk.2.2.2.1
  have w1 : IntKind.u64.wrap (h.time : Int) = (h.time : Int) := by rw [u64w]; omega
  have w2 : IntKind.u64.wrap (now : Int) = (now : Int) := by rw [u64w]; omega
  have w3 : IntKind.u64.wrap ((now : Int) + 7200) = ((now + 7200 : Nat) : Int) := by rw [u64w]; omega
  obtain ⟨nw, hnw⟩ : ∃ nw, nw = now + 7200 := ⟨_, rfl⟩
  rw [← hnw] at w3 hF
  by_cases c1 : h.bits = bits
  · simp [go_sem, hl, g66, c1, tkh]
    refine cl_eq (nameR_fn h hk) (one_eH h) ?_
    simp [go_sem, hl, g66, c1, tkh]
    refine cl_eq (meetsR_fn _ bits (dblB_len _) (dblB_by _) hb) (one_cb _ _) ?_
    generalize meetsV (dblB (headB h)) bits = M at *
    cases M
    · rw [if_pos (.inr rfl)] at hF
      subst hF
      simp [go_sem, resV]
      exact post_same (by simp [AV.deep, AV.deep1]) rfl
    · rw [if_neg (by simp [c1])] at hF
      by_cases c2 : h.time ≤ median
      · rw [if_pos (.inl c2)] at hF
        subst hF
        simp [go_sem, hl, g65, c2, resV]
        exact post_same (by simp [AV.deep, AV.deep1]) rfl
      · by_cases c3 : nw < h.time
        · rw [if_pos (.inr c3)] at hF
          subst hF
          simp [go_sem, hl, g65, c2, w1, w2, w3, c3, resV]
          exact post_same (by simp [AV.deep, AV.deep1]) rfl
        · rw [if_neg (by rintro (e | e) <;> contradiction)] at hF
          subst hF
          simp [go_sem, hl, g65, c2, w1, w2, w3, c3, resV]
          exact post_same (by simp [AV.deep, AV.deep1]) rfl
  · rw [if_pos (.inl c1)] at hF
    subst hF
    have i1 : ¬ (h.bits : Int) = (bits : Int) := by omega
    simp [go_sem, hl, g66, i1, resV]
    exact post_same (by simp [AV.deep, AV.deep1]) rfl

set_option maxHeartbeats 4000000 in
theorem mineR_fn (h : Hd) (hk : h.ok) (n : Nat) (hn : n ≤ 4000) :
    Rets Try.prog 45 [.agg (eH h), .d (.int .i64 (n : Int))] (fun r => r = .tup [.agg (eH (mineH n h)), .d (.bool (mineB n h))]) := by
  refine fn_of_awp Try.func45 (by kernel_rfl) rfl Try.ntmps45 (rs := [.cell 4 67, .tmp 5]) rfl (Nat.le_of_ble_eq_true rfl) (two_eH h _) ?_
  have hl := eH_len hk.2.1 hk.2.2.1
  have h0 := zHd_len
  have tk : ∀ m : Hd, m.ok → (eH m).take 68 = eH m := fun m hm => List.take_of_length_le (by rw [eH_len hm.2.1 hm.2.2.1]; omega)
  have dk : ∀ m : Hd, m.ok → (eH m).drop 68 = [] := fun m hm => List.drop_eq_nil_of_le (by rw [eH_len hm.2.1 hm.2.2.1]; omega)
  have d0 : (eH zHd).drop 68 = [] := rfl
  have tkh := tk h hk
  unfold mineH mineB
  generalize hF : mineG n h = F
  simp [go_sem, hl, h0, tkh, d0]
  refine loop_of (fun u : Nat × Nat × Hd => ⟨[(1, .d (.int .i64 (n : Int))), (2, .ptr 0 0 0 1), (4, .ptr 32 0 0 1), (6, .ptr 128 0 0 1), (7, .d (.int .i64 (u.1 : Int)))], [(0, ⟨67, 68, [eH h]⟩), (32, ⟨67, 68, [eH zHd]⟩), (128, ⟨67, 68, [eH u.2.2]⟩)], 1000⟩)
    (fun u => u.1 + u.2.1 = n ∧ u.2.2.ok ∧ mineG u.2.1 u.2.2 = F) (fun u => u.2.1) (0, n, h) ⟨by simp, hk, hF⟩ (by
      simp [Weak, slotOk, fv, lk, AV.low, AV.low1]
      repeat' apply And.intro
      all_goals first | rfl | exact eH_low _ _) ?_
  rintro ⟨i, j, m⟩ ⟨hij, hmo, hG0⟩
  simp only at hij hmo hG0
  have hml := eH_len hmo.2.1 hmo.2.2.1
  have tkm := tk m hmo
  have hm66 := eH_get hmo.2.1 hmo.2.2.1 1
  have hm67 := eH_get hmo.2.1 hmo.2.2.1 2
  have g66 : ∀ p : 66 < (eH m).length, (eH m)[66] = .d (.int .u32 (m.bits : Int)) := fun p => (List.getElem?_eq_some_iff.1 hm66).2
  have g67 : ∀ p : 67 < (eH m).length, (eH m)[67] = .d (.int .u32 (m.nonce : Int)) := fun p => (List.getElem?_eq_some_iff.1 hm67).2
  have w3 := next_i64 (k := i) (by omega)
  have i2 : (i : Int) < 4096 := by omega
  have i2n : i < 4096 := by omega
  by_cases hj0 : j = 0
  · subst hj0
    have i1 : ¬ (i : Int) < (n : Int) := by omega
    have i1n : ¬ i < n := by omega
    simp only [mineG] at hG0
    subst hG0
    simp [go_sem, i1, i1n, hl, tkh, d0, h0, resV]
    exact post_same (pairH_deep _ _) rfl
  · obtain ⟨j', rfl⟩ : ∃ j', j = j' + 1 := ⟨j - 1, by omega⟩
    have i1 : (i : Int) < (n : Int) := by omega
    have i1n : i < n := by omega
    simp only [mineG] at hG0
    simp [go_sem, i1, i1n, i2, i2n]
    apply draw2 (0 :: 2 :: 3 :: []) ((1, ([])) :: (4, ([])) :: []) 1 (k := 5) (by kernel_rfl) (by kernel_rfl) rfl
    case hz => repeat (first | exact Its.nil | apply Its.plain rfl | apply Its.guard rfl rfl)
    case hj => repeat (first | exact Jts.nil | exact Its.nil | apply Its.plain rfl | apply Its.guard rfl rfl | apply Jts.plain rfl | apply Jts.guard rfl rfl)
    intro G hG
    simp [go_sem, hml, tkm, g66]
    refine cl_eq (nameR_fn m hmo) (one_eH m) ?_
    simp [go_sem, SaW]
    refine cl_eq (meetsR_fn _ m.bits (dblB_len _) (dblB_by _) hmo.2.2.2.2.1) (one_cb _ _) ?_
    generalize meetsV (dblB (headB m)) m.bits = M at *
    simp [go_sem]
    refine hG _ _ ?_
    cases M
    · simp only [Bool.false_eq_true, if_false] at hG0
      have hb := bump_ok hmo
      have es := eH_set hmo.2.1 hmo.2.2.1 ((m.nonce + 1) % 4294967296)
      have wn : IntKind.u32.wrap ((m.nonce : Int) + 1) = (((m.nonce + 1) % 4294967296 : Nat) : Int) := by rw [u32w]; omega
      have e2 : ({ m with nonce := (m.nonce + 1) % 4294967296 } : Hd) = bump m := rfl
      rw [e2] at es
      generalize (m.nonce + 1) % 4294967296 = nn at *
      generalize bump m = mb at *
      simp [go_sem, g67, wn, hml, es, w3]
      refine next_of (i + 1, j', mb) ⟨by simp only; omega, hb, hG0⟩ (by simp only; omega) ?_
      simp [Weak, slotOk, fv, lk, AV.low, AV.low1]
      repeat' apply And.intro
      all_goals first | rfl | exact eH_low _ _
    · simp only [if_true] at hG0
      subst hG0
      simp [go_sem, hml, tkm, d0, h0, dk m hmo, resV]
      exact post_same (pairH_deep _ _) rfl
end Go.Proofs.Ytbkbcjhghmlphaa
