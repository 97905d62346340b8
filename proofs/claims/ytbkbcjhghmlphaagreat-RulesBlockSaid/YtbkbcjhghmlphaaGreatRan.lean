/-
  Transactions by themselves: the other text's check.
-/
import Derived.Test.YtbkbcjhghmlphaaGreatRam
namespace Go.Sha
def sameI (x y : Ip) : Bool := decide (x.hash = y.hash ∧ x.idx = y.idx)
end Go.Sha
namespace Go.Proofs.YtbkbcjhghmlphaaGreat
open Go.Am Go.Sha
set_option linter.unusedSimpArgs false
set_option linter.unusedVariables false

/-- Inputs, one behind the other: one that came before, or one that spends nothing. -/
def refsGo : List Ip → List Ip → Bool → Int
  | [], _, b => if b then 38 else 0
  | i :: r, seen, b => if seen.any (sameI i) then 32 else refsGo r (seen ++ [i]) (b || nullI i)
def checkV (t : Tn) (first : Bool) : Int :=
  if checkT t ≠ 0 then 4 else if t.ins.length = 0 ∨ t.outs.length = 0 then 30 else if (sumO t.outs).2 ≠ 0 then (sumO t.outs).2
  else if first then (if t.ins.length = 1 ∧ (t.ins.all nullI) = true then 0 else 38) else refsGo t.ins [] false
theorem ref_row {i : Ip} (h : i.hash.length = 32) : List.take 33 ((eI i).map AV.d) = cR i.hash i.idx := by
  rw [eI_cI, cI, List.take_append, cb_len, h, List.take_of_length_le (by rw [cb_len]; omega)]; rfl

set_option maxRecDepth 20000 in
set_option maxHeartbeats 4000000 in
theorem checkR26_fn (t : Tn) (first : Bool) (ht : Sm t) : Rets Tryz.prog 17 [.agg (eT t), .d (.bool first)] (fun r => r = .d (.int .i64 (checkV t first))) := by
  have ht0 := ht
  obtain ⟨⟨_, _, hi, ho⟩, n1, n2, _, _⟩ := ht
  refine fn_of_awp Tryz.func17 (by kernel_rfl) rfl Tryz.ntmps17 (rs := [.tmp 4]) rfl (Nat.le_of_ble_eq_true rfl) (by simp [AV.deep, AV.deep1, eT]) ?_
  generalize hF : checkV t first = F
  unfold checkV at hF
  simp [go_sem, eT]
  refine cl_eq (checkTR_fn t ht0) (by simp [AV.deep, AV.deep1, eT]) ?_
  by_cases c0 : checkT t = 0
  · rw [if_neg (by simpa using c0)] at hF
    by_cases c1 : t.ins.length = 0
    · have i1 : (t.ins.length : Int) = 0 := by omega
      rw [if_pos (.inl c1)] at hF
      subst hF
      simp [go_sem, c0, c1, i1]
      exact post_same (by simp [AV.deep, AV.deep1]) rfl
    · have i1 : ¬ (t.ins.length : Int) = 0 := by omega
      have l1 : ¬ t.ins = [] := fun e => c1 (by rw [e]; rfl)
      by_cases c2 : t.outs.length = 0
      · have i2 : (t.outs.length : Int) = 0 := by omega
        have l2 : t.outs = [] := List.eq_nil_of_length_eq_zero c2
        rw [if_pos (.inr c2)] at hF
        subst hF
        simp [go_sem, c0, c1, i1, l1, c2, i2, l2]
        exact post_same (by simp [AV.deep, AV.deep1]) rfl
      · have i2 : ¬ (t.outs.length : Int) = 0 := by omega
        have l2 : ¬ t.outs = [] := fun e => c2 (by rw [e]; rfl)
        rw [if_neg (by rintro (e | e) <;> contradiction)] at hF
        simp [go_sem, c0, c1, i1, l1, c2, i2, l2]
        refine cl_eq (worthR_fn t.outs (by omega) ho) (by simp [AV.deep, AV.deep1]) ?_
        generalize sumO t.outs = S at *
        obtain ⟨s, es⟩ := S
        simp only at hF
        by_cases c3 : es = 0
        · rw [if_neg (by simpa using c3)] at hF
          cases first
          · simp at hF
            simp [go_sem, c3]
            refine loop_of (fun u : Nat × Bool => ⟨[(2, .ptr 0 0 0 1), (7, .d (.bool u.2)), (8, .d (.int .i64 (u.1 : Int)))], [(0, ⟨38, 4, [eT t]⟩)], 4000⟩)
              (fun u => u.1 ≤ t.ins.length ∧ refsGo (t.ins.drop u.1) (t.ins.take u.1) u.2 = F) (fun u => t.ins.length - u.1) (0, false) ⟨by simp, by simpa using hF⟩ (by
                simp [Weak, slotOk, fv, lk, AV.low, AV.low1, eT]) ?_
            rintro ⟨k, b⟩ ⟨hk, hq⟩
            simp only at hk hq
            simp only [eT]
            simp only [go_sem, Nat.reduceEqDiff, Nat.reduceAdd, Nat.reduceLT, ↓reduceIte, Nat.reduceMul]
            refine ⟨fun hlt => ?_, fun hge => ?_⟩
            · obtain ⟨x, hx1, hd⟩ := drop_of (l := t.ins) (k := k) (by omega)
              have hxo := hi x (List.mem_of_getElem? hx1)
              have hel := eI_len hxo.1
              have hrow := ref_row hxo.1
              have w3 := next_i64 (k := k) (by omega)
              rw [hd] at hq
              simp only [refsGo] at hq
              rw [take_snoc hx1] at hq
              refine loop_of (fun j : Nat => ⟨[(2, .ptr 0 0 0 1), (7, .d (.bool b)), (8, .d (.int .i64 (k : Int))), (9, .d (.int .i64 (j : Int)))], [(0, ⟨38, 4, [eT t]⟩)], 6000⟩)
                (fun j => j ≤ k ∧ (t.ins.take j).any (sameI x) = false) (fun j => k - j) 0 ⟨by omega, by simp⟩ (by
                  simp [Weak, slotOk, fv, lk, AV.low, AV.low1, eT]) ?_
              rintro j ⟨hj, hn⟩
              simp only [eT]
              simp only [go_sem, Nat.reduceEqDiff, Nat.reduceAdd, Nat.reduceLT, ↓reduceIte, Nat.reduceMul]
              refine ⟨fun hlt2 => ?_, fun hge2 => ?_⟩
              · obtain ⟨y, hy1, _⟩ := drop_of (l := t.ins) (k := j) (by omega)
                have hyo := hi y (List.mem_of_getElem? hy1)
                have hely := eI_len hyo.1
                have hrowy := ref_row hyo.1
                have w4 := next_i64 (k := j) (by omega)
                have k1 := cR_kinds hxo.1 x.idx
                have k2 := cR_kinds hyo.1 y.idx
                have e1 := cR_lits x.hash x.idx
                have e2 := cR_lits y.hash y.idx
                have he : (l1B x.hash ++ [L1.i .u32 (x.idx : Int)] = l1B y.hash ++ [L1.i .u32 (y.idx : Int)]) ↔ sameI x y = true := by
                  rw [cR_eq hxo.1 hyo.1]; simp [sameI]
                generalize l1B x.hash ++ [L1.i .u32 (x.idx : Int)] = us at *
                generalize l1B y.hash ++ [L1.i .u32 (y.idx : Int)] = vs at *
                apply draw2 (0 :: 1 :: 2 :: 3 :: 4 :: 5 :: 6 :: 7 :: 8 :: 9 :: 10 :: 11 :: 12 :: []) ([]) 0 (k := 13) (by kernel_rfl) (by kernel_rfl) rfl
                case hz => repeat (first | exact Its.nil | apply Its.plain rfl | apply Its.guard rfl rfl)
                case hj => repeat (first | exact Jts.nil | exact Its.nil | apply Its.plain rfl | apply Its.guard rfl rfl | apply Jts.plain rfl | apply Jts.guard rfl rfl)
                intro G hG
                simp [go_sem, hx1, hy1, hel, hely, hrow, hrowy, e1, e2, ks88, k1, k2]
                refine hG _ _ ?_
                clear hG G
                have htk : (t.ins.take (j + 1)).any (sameI x) = sameI x y := by
                  rw [← take_snoc hy1, List.any_append, hn]; simp
                by_cases hs : us = vs
                · have hs2 := he.1 hs
                  have hF32 : F = 32 := by
                    rw [← hq, if_pos]
                    rw [hs2] at htk
                    obtain ⟨z, hz1, hz2⟩ := List.any_eq_true.1 htk
                    exact List.any_eq_true.2 ⟨z, List.take_subset_take_left _ (by omega) hz1, hz2⟩
                  subst hF32
                  simp [go_sem, hs]
                  exact post_same (by simp [AV.deep, AV.deep1]) rfl
                · have hs2 : sameI x y = false := by
                    cases hh : sameI x y
                    · rfl
                    · exact absurd (he.2 hh) hs
                  simp [go_sem, hs, w4]
                  refine next_of (j + 1) ⟨by omega, by simpa using htk.trans hs2⟩ (by omega) ?_
                  simp [Weak, slotOk, fv, lk, AV.low, AV.low1, eT]
              · have hjk : j = k := by omega
                subst hjk
                rw [hn] at hq
                simp only [Bool.false_eq_true, if_false] at hq
                have k1 := cR_kinds hxo.1 x.idx
                have k2 : (l1B z32 ++ [L1.i .u32 ((4294967295 : Nat) : Int)]).map L1.k = List.replicate 32 (some .u8) ++ [some .u32] := cR_kinds rfl 4294967295
                have e1 := cR_lits x.hash x.idx
                have e2 := cR_lits z32 4294967295
                have he : (l1B x.hash ++ [L1.i .u32 (x.idx : Int)] = l1B z32 ++ [L1.i .u32 ((4294967295 : Nat) : Int)]) ↔ nullI x = true := by
                  rw [cR_eq hxo.1 rfl]; simp [nullI]
                generalize l1B x.hash ++ [L1.i .u32 (x.idx : Int)] = us at *
                generalize l1B z32 ++ [L1.i .u32 ((4294967295 : Nat) : Int)] = vs at *
                have hdec : decide (us = vs) = nullI x := by
                  cases hh : nullI x
                  · exact decide_eq_false (fun e => by rw [he.1 e] at hh; cases hh)
                  · exact decide_eq_true (he.2 hh)
                have w5 : IntKind.i64.wrap ((j : Int) + 1) = ((j + 1 : Nat) : Int) := w3
                cases b
                · simp [go_sem]
                  apply draw2 (0 :: 1 :: 2 :: 3 :: 4 :: 5 :: 6 :: 7 :: []) ((8, (9 :: 10 :: [])) :: (11, ([])) :: []) 1 (k := 12) (by kernel_rfl) (by kernel_rfl) rfl
                  case hz => repeat (first | exact Its.nil | apply Its.plain rfl | apply Its.guard rfl rfl)
                  case hj => repeat (first | exact Jts.nil | exact Its.nil | apply Its.plain rfl | apply Its.guard rfl rfl | apply Jts.plain rfl | apply Jts.guard rfl rfl)
                  intro G hG
                  simp [go_sem, hx1, hel, hrow]
                  refine cl_eq null_fn (by simp [AV.deep, AV.deep1]) ?_
                  simp [go_sem, e1, e2, ks88, k1, k2]
                  refine hG _ _ ?_
                  clear hG G
                  simp [go_sem, hdec, w5]
                  refine next_of (j + 1, nullI x) ⟨by simp only; omega, by simpa using hq⟩ (by simp only; omega) ?_
                  simp [Weak, slotOk, fv, lk, AV.low, AV.low1, eT]
                · simp [go_sem]
                  apply draw2 (0 :: 1 :: 2 :: 3 :: 4 :: 5 :: 6 :: 7 :: []) ((8, (9 :: 10 :: [])) :: (11, ([])) :: []) 1 (k := 12) (by kernel_rfl) (by kernel_rfl) rfl
                  case hz => repeat (first | exact Its.nil | apply Its.plain rfl | apply Its.guard rfl rfl)
                  case hj => repeat (first | exact Jts.nil | exact Its.nil | apply Its.plain rfl | apply Its.guard rfl rfl | apply Jts.plain rfl | apply Jts.guard rfl rfl)
                  intro G hG
                  simp [go_sem]
                  refine hG _ _ ?_
                  clear hG G
                  simp [go_sem, w5]
                  refine next_of (j + 1, true) ⟨by simp only; omega, by simpa using hq⟩ (by simp only; omega) ?_
                  simp [Weak, slotOk, fv, lk, AV.low, AV.low1, eT]
            · have hkl : k = t.ins.length := by omega
              subst hkl
              rw [List.drop_length] at hq
              simp only [refsGo] at hq
              subst hq
              cases b
              · simp [go_sem]
                exact post_same (by simp [AV.deep, AV.deep1]) rfl
              · simp [go_sem]
                exact post_same (by simp [AV.deep, AV.deep1]) rfl
          · simp at hF
            simp [go_sem, c3]
            apply draw2 (0 :: 1 :: 2 :: 3 :: 4 :: 5 :: 6 :: 7 :: 8 :: 9 :: []) ((10, (11 :: 12 :: [])) :: []) 1 (k := 13) (by kernel_rfl) (by kernel_rfl) rfl
            case hz => repeat (first | exact Its.nil | apply Its.plain rfl | apply Its.guard rfl rfl)
            case hj => repeat (first | exact Jts.nil | exact Its.nil | apply Its.plain rfl | apply Its.guard rfl rfl | apply Jts.plain rfl | apply Jts.guard rfl rfl)
            intro G hG
            by_cases c4 : t.ins.length = 1
            · obtain ⟨i, e⟩ : ∃ i, t.ins = [i] := by
                match h : t.ins, c4 with
                | [i], _ => exact ⟨i, rfl⟩
              have hio := hi i (by rw [e]; simp)
              have hel := eI_len hio.1
              have hrow := ref_row hio.1
              have k1 := cR_kinds hio.1 i.idx
              have k2 : (l1B z32 ++ [L1.i .u32 ((4294967295 : Nat) : Int)]).map L1.k = List.replicate 32 (some .u8) ++ [some .u32] := cR_kinds rfl 4294967295
              have e1 := cR_lits i.hash i.idx
              have e2 := cR_lits z32 4294967295
              have he : (l1B i.hash ++ [L1.i .u32 (i.idx : Int)] = l1B z32 ++ [L1.i .u32 ((4294967295 : Nat) : Int)]) ↔ nullI i = true := by
                rw [cR_eq hio.1 rfl]; simp [nullI]
              generalize l1B i.hash ++ [L1.i .u32 (i.idx : Int)] = us at *
              generalize l1B z32 ++ [L1.i .u32 ((4294967295 : Nat) : Int)] = vs at *
              have hdec : decide (us = vs) = nullI i := by
                cases hh : nullI i
                · exact decide_eq_false (fun e => by rw [he.1 e] at hh; cases hh)
                · exact decide_eq_true (he.2 hh)
              simp [go_sem, e, hel, hrow]
              refine cl_eq null_fn (by simp [AV.deep, AV.deep1]) ?_
              simp [go_sem, e1, e2, ks88, k1, k2]
              refine hG _ _ ?_
              clear hG G
              rw [e] at hF
              cases hh : nullI i
              · have : F = 38 := by rw [← hF]; simp [hh]
                subst this
                rw [hh] at hdec
                simp [go_sem, hdec]
                exact post_same (by simp [AV.deep, AV.deep1]) rfl
              · have : F = 0 := by rw [← hF]; simp [hh]
                subst this
                rw [hh] at hdec
                simp [go_sem, hdec]
                exact post_same (by simp [AV.deep, AV.deep1]) rfl
            · have i4 : ¬ (t.ins.length : Int) = 1 := by omega
              have : F = 38 := by rw [← hF, if_neg (fun e => c4 e.1)]
              subst this
              simp [go_sem, c4, i4]
              refine hG _ _ ?_
              clear hG G
              simp [go_sem]
              exact post_same (by simp [AV.deep, AV.deep1]) rfl
        · rw [if_pos c3] at hF
          subst hF
          simp [go_sem, c3]
          exact post_same (by simp [AV.deep, AV.deep1]) rfl
  · rw [if_pos c0] at hF
    subst hF
    simp [go_sem, c0]
    exact post_same (by simp [AV.deep, AV.deep1]) rfl

/-- What rules.checkRefs does, which keeps a map. -/
def RefsOk : Prop := ∀ t : Tn, Sm t → (∀ i, i ∈ t.ins → bytes i.hash) → Rets Tryz.prog 25 [.agg (eT t)] (fun r => r = .d (.int .i64 (refsGo t.ins [] false)))
set_option maxHeartbeats 4000000 in
theorem check26_fn (hR : RefsOk) (t : Tn) (first : Bool) (ht : Sm t) (hby : ∀ i, i ∈ t.ins → bytes i.hash) : Rets Tryz.prog 11 [.agg (eT t), .d (.bool first)] (fun r => r = .d (.int .i64 (checkV t first))) := by
  have ht0 := ht
  obtain ⟨⟨_, _, hi, ho⟩, n1, n2, _, _⟩ := ht
  refine fn_of_awp Tryz.func11 (by kernel_rfl) rfl Tryz.ntmps11 (rs := [.tmp 4]) rfl (Nat.le_of_ble_eq_true rfl) (by simp [AV.deep, AV.deep1, eT]) ?_
  generalize hF : checkV t first = F
  unfold checkV at hF
  simp [go_sem, eT]
  refine cl_eq (checkT_fn t ht0) (by simp [AV.deep, AV.deep1, eT]) ?_
  by_cases c0 : checkT t = 0
  · rw [if_neg (by simpa using c0)] at hF
    by_cases c1 : t.ins.length = 0
    · have i1 : (t.ins.length : Int) = 0 := by omega
      have l1 : t.ins = [] := List.eq_nil_of_length_eq_zero c1
      rw [if_pos (.inl c1)] at hF
      subst hF
      simp [go_sem, c0, c1, i1, l1]
      exact post_same (by simp [AV.deep, AV.deep1]) rfl
    · have i1 : ¬ (t.ins.length : Int) = 0 := by omega
      have l1 : ¬ t.ins = [] := fun e => c1 (by rw [e]; rfl)
      by_cases c2 : t.outs.length = 0
      · have i2 : (t.outs.length : Int) = 0 := by omega
        have l2 : t.outs = [] := List.eq_nil_of_length_eq_zero c2
        rw [if_pos (.inr c2)] at hF
        subst hF
        simp [go_sem, c0, c1, i1, l1, c2, i2, l2]
        exact post_same (by simp [AV.deep, AV.deep1]) rfl
      · have i2 : ¬ (t.outs.length : Int) = 0 := by omega
        have l2 : ¬ t.outs = [] := fun e => c2 (by rw [e]; rfl)
        rw [if_neg (by rintro (e | e) <;> contradiction)] at hF
        simp [go_sem, c0, c1, i1, l1, c2, i2, l2]
        refine cl_eq (worth_fn t.outs (by omega) ho) (by simp [AV.deep, AV.deep1]) ?_
        generalize sumO t.outs = S at *
        obtain ⟨s, es⟩ := S
        simp only at hF
        by_cases c3 : es = 0
        · rw [if_neg (by simpa using c3)] at hF
          cases first
          · simp only [Bool.false_eq_true, if_false] at hF
            simp [go_sem, c3]
            refine cl_eq (hR t ht0 hby) (by simp [AV.deep, AV.deep1, eT]) ?_
            rw [hF]
            simp [go_sem]
            exact post_same (by simp [AV.deep, AV.deep1]) rfl
          · simp only [if_true] at hF
            simp [go_sem, c3]
            refine cl_eq (checkFirst_fn t ht0.1) (by simp [AV.deep, AV.deep1, eT]) ?_
            rw [hF]
            simp [go_sem]
            exact post_same (by simp [AV.deep, AV.deep1]) rfl
        · rw [if_pos c3] at hF
          subst hF
          simp [go_sem, c3]
          exact post_same (by simp [AV.deep, AV.deep1]) rfl
  · rw [if_pos c0] at hF
    subst hF
    simp [go_sem, c0]
    exact post_same (by simp [AV.deep, AV.deep1]) rfl
end Go.Proofs.YtbkbcjhghmlphaaGreat
