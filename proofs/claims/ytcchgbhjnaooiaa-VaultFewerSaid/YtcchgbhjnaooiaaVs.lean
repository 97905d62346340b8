/-
  Walks: claims owed, claims settled.
-/
import Derived.Test.YtcchgbhjnaooiaaVt
namespace Go.Proofs.Ytcchgbhjnaooiaa
open Go.Am
set_option linter.unusedSimpArgs false
set_option linter.unusedVariables false

def encClaim (c : Int × Int) : List DV := [.int .i64 c.1, .int .u64 c.2]
def encOut (o : Int × List Int) : List DV := [.int .u64 o.1, encB o.2]

/-- owed: what the claims ask of output 'out', from place k on, s so far. -/
def owed (out : Int) : List (Int × Int) → Int → Int × Int
  | [], s => (s, 0)
  | c :: r, s => if c.1 ≠ out then owed out r s else if IntKind.u64.wrap (s + c.2) < c.2 then (0, 31) else owed out r (IntKind.u64.wrap (s + c.2))
/-- The same as the document has it. -/
def owedR (out : Int) : List (Int × Int) → Int → Int × Int
  | [], s => (s, 0)
  | c :: r, s => if c.1 ≠ out then owedR out r s else if IntKind.u64.wrap (s + c.2) < s then (0, 31) else owedR out r (IntKind.u64.wrap (s + c.2))

theorem u64_wrap (x : Int) : IntKind.u64.wrap x = x % 18446744073709551616 := by
  simp [IntKind.wrap, IntKind.bits, IntKind.signed]

theorem owedR_eq (out : Int) : ∀ (cs : List (Int × Int)) (s : Int), (∀ c, c ∈ cs → 0 ≤ c.2 ∧ c.2 < 18446744073709551616) → 0 ≤ s → s < 18446744073709551616 → owedR out cs s = owed out cs s
  | [], _, _, _, _ => rfl
  | c :: r, s, h, h1, h2 => by
    have hc := h c (List.mem_cons_self ..)
    have ih := fun s => owedR_eq out r s (fun c hc => h c (List.mem_cons_of_mem _ hc))
    simp only [owedR, owed, u64_wrap]
    split
    · exact ih s h1 h2
    · rw [ih _ (Int.emod_nonneg _ (by omega)) (Int.emod_lt_of_pos _ (by omega))]
      have : ((s + c.2) % 18446744073709551616 < s) ↔ ((s + c.2) % 18446744073709551616 < c.2) := by omega
      simp only [this]

theorem drop_of {α : Type} {l : List α} {k : Nat} (h : k < l.length) : ∃ c, l[k]? = some c ∧ l.drop k = c :: l.drop (k + 1) :=
  ⟨l[k], List.getElem?_eq_getElem h, List.drop_eq_getElem_cons h⟩

theorem next_i64 {k : Nat} (h : k < 4611686018427387904) : IntKind.i64.wrap ((k : Int) + 1) = ((k + 1 : Nat) : Int) := by
  rw [IntWalk.i64_in _ (by omega)]; omega

set_option maxHeartbeats 1000000 in
theorem owed_fn (cs : List (Int × Int)) (out : Int) (hl : cs.length < 4611686018427387904) : Rets Try.prog 6 [.d (.ro 2 (cs.map encClaim)), .d (.int .i64 out)] (fun r => r = .tup [.d (.int .u64 (owed out cs 0).1), .d (.int .i64 (owed out cs 0).2)]) := by
  refine fn_of_awp Try.func6 (by kernel_rfl) rfl Try.ntmps6 (rs := [.tmp 4, .tmp 5]) rfl (Nat.le_of_ble_eq_true rfl) (by simp [AV.deep, AV.deep1]) ?_
  simp only [go_sem, Nat.reduceEqDiff, Nat.reduceAdd, Nat.reduceLT, ↓reduceIte]
  refine loop_of (fun t : Nat × Int => ⟨[(0, .d (.ro 2 (cs.map encClaim))), (1, .d (.int .i64 out)), (6, .d (.int .u64 t.2)), (9, .d (.ro 2 (cs.map encClaim))), (10, .d (.int .i64 cs.length)), (11, .d (.int .i64 t.1))], [], 1⟩)
    (fun t => t.1 ≤ cs.length ∧ owed out (cs.drop t.1) t.2 = owed out cs 0) (fun t => cs.length - t.1) (0, 0) ⟨by omega, rfl⟩ (by simp [Weak, slotOk, fv, lk, AV.low, AV.low1]) ?_
  rintro ⟨k, s⟩ ⟨hk0, ho⟩
  simp only [go_sem, Nat.reduceEqDiff, Nat.reduceAdd, Nat.reduceLT, ↓reduceIte]
  simp only at hk0 ho
  refine ⟨fun hk => ?_, fun hk => ?_⟩
  · obtain ⟨c, hc, hd⟩ := drop_of (l := cs) (k := k) (by omega)
    rw [hd] at ho
    simp only [go_sem, Nat.reduceEqDiff, Nat.reduceAdd, Nat.reduceLT, ↓reduceIte, hc, encClaim, Nat.reduceLeDiff, next_i64 (show k < 4611686018427387904 by omega)]
    refine ⟨fun h => ?_, fun h => ⟨fun h2 => ?_, fun h2 => ?_⟩⟩
    · refine next_of (k + 1, s) ⟨by simp; omega, ?_⟩ (by simp; omega) (by simp [Weak, slotOk, fv, lk, AV.low, AV.low1])
      simpa [owed, h] using ho
    · refine post_same (by simp [AV.deep, AV.deep1]) ?_
      simp [owed, h, h2] at ho
      simp [← ho]
    · refine next_of (k + 1, IntKind.u64.wrap (s + c.2)) ⟨by simp; omega, ?_⟩ (by simp; omega) (by simp [Weak, slotOk, fv, lk, AV.low, AV.low1])
      simpa [owed, h, h2] using ho
  · refine post_same (by simp [AV.deep, AV.deep1]) ?_
    rw [List.drop_eq_nil_of_le (by omega)] at ho
    simp [owed] at ho
    simp [← ho]

set_option maxHeartbeats 1000000 in
theorem owedR_fn (cs : List (Int × Int)) (out : Int) (hl : cs.length < 4611686018427387904) : Rets Try.prog 7 [.d (.ro 2 (cs.map encClaim)), .d (.int .i64 out)] (fun r => r = .tup [.d (.int .u64 (owedR out cs 0).1), .d (.int .i64 (owedR out cs 0).2)]) := by
  refine fn_of_awp Try.func7 (by kernel_rfl) rfl Try.ntmps7 (rs := [.tmp 4, .tmp 5]) rfl (Nat.le_of_ble_eq_true rfl) (by simp [AV.deep, AV.deep1]) ?_
  simp only [go_sem, Nat.reduceEqDiff, Nat.reduceAdd, Nat.reduceLT, ↓reduceIte]
  refine loop_of (fun t : Nat × Int => ⟨[(0, .d (.ro 2 (cs.map encClaim))), (1, .d (.int .i64 out)), (6, .d (.int .u64 t.2)), (7, .d (.int .i64 t.1))], [], 1⟩)
    (fun t => t.1 ≤ cs.length ∧ owedR out (cs.drop t.1) t.2 = owedR out cs 0) (fun t => cs.length - t.1) (0, 0) ⟨by omega, rfl⟩ (by simp [Weak, slotOk, fv, lk, AV.low, AV.low1]) ?_
  rintro ⟨k, s⟩ ⟨hk0, ho⟩
  simp only [go_sem, Nat.reduceEqDiff, Nat.reduceAdd, Nat.reduceLT, ↓reduceIte]
  simp only at hk0 ho
  refine ⟨fun hk => ?_, fun hk => ?_⟩
  · obtain ⟨c, hc, hd⟩ := drop_of (l := cs) (k := k) (by omega)
    rw [hd] at ho
    simp only [go_sem, Nat.reduceEqDiff, Nat.reduceAdd, Nat.reduceLT, ↓reduceIte, hc, encClaim, Nat.reduceLeDiff, next_i64 (show k < 4611686018427387904 by omega)]
    refine ⟨fun h => ?_, fun h => ⟨fun h2 => ?_, fun h2 => ?_⟩⟩
    · refine next_of (k + 1, s) ⟨by simp; omega, ?_⟩ (by simp; omega) (by simp [Weak, slotOk, fv, lk, AV.low, AV.low1])
      simpa [owedR, h] using ho
    · refine post_same (by simp [AV.deep, AV.deep1]) ?_
      simp [owedR, h, h2] at ho
      simp [← ho]
    · refine next_of (k + 1, IntKind.u64.wrap (s + c.2)) ⟨by simp; omega, ?_⟩ (by simp; omega) (by simp [Weak, slotOk, fv, lk, AV.low, AV.low1])
      simpa [owedR, h, h2] using ho
  · refine post_same (by simp [AV.deep, AV.deep1]) ?_
    rw [List.drop_eq_nil_of_le (by omega)] at ho
    simp [owedR] at ho
    simp [← ho]

/-- Are all claims of outputs that are there? -/
def chk1 (n : Int) : List (Int × Int) → Bool
  | [] => true
  | c :: r => if c.1 < 0 then false else if n ≤ c.1 then false else chk1 n r
/-- Has each output what is asked of it? -/
def chk2 (cs : List (Int × Int)) : Nat → List (Int × List Int) → Bool
  | _, [] => true
  | i, o :: r => if (owed i cs 0).2 ≠ 0 then false else if o.1 < (owed i cs 0).1 then false else chk2 cs (i + 1) r
def settle (outs : List (Int × List Int)) (cs : List (Int × Int)) : Int := if chk1 outs.length cs then (if chk2 cs 0 outs then 0 else 40) else 1

set_option maxHeartbeats 2000000 in
theorem settle_fn (outs : List (Int × List Int)) (cs : List (Int × Int)) (hl : cs.length < 4611686018427387904) (ho : outs.length < 4611686018427387904) :
    Rets Try.prog 8 [.d (.ro 2 (outs.map encOut)), .d (.ro 2 (cs.map encClaim))] (fun r => r = .d (.int .i64 (settle outs cs))) := by
  refine fn_of_awp Try.func8 (by kernel_rfl) rfl Try.ntmps8 (rs := [.tmp 4]) rfl (Nat.le_of_ble_eq_true rfl) (by simp [AV.deep, AV.deep1]) ?_
  simp only [go_sem, Nat.reduceEqDiff, Nat.reduceAdd, Nat.reduceLT, ↓reduceIte]
  refine loop_of (fun k : Nat => ⟨[(0, .d (.ro 2 (outs.map encOut))), (1, .d (.ro 2 (cs.map encClaim))), (11, .d (.ro 2 (cs.map encClaim))), (12, .d (.int .i64 cs.length)), (13, .d (.int .i64 k))], [], 1⟩)
    (fun k => k ≤ cs.length ∧ chk1 outs.length (cs.drop k) = chk1 outs.length cs) (fun k => cs.length - k) 0 ⟨by omega, rfl⟩ (by simp [Weak, slotOk, fv, lk, AV.low, AV.low1]) ?_
  rintro k ⟨hk0, hq⟩
  simp only [go_sem, Nat.reduceEqDiff, Nat.reduceAdd, Nat.reduceLT, ↓reduceIte]
  refine ⟨fun hk => ?_, fun hk => ?_⟩
  · obtain ⟨c, hc, hd⟩ := drop_of (l := cs) (k := k) (by omega)
    rw [hd] at hq
    by_cases h1 : c.1 < 0
    · simp [go_sem, hc, encClaim, h1]
      refine post_same (by simp [AV.deep, AV.deep1]) ?_
      simp [chk1, h1] at hq
      simp [settle, hq]
    · by_cases h2 : (outs.length : Int) ≤ c.1
      · simp [go_sem, hc, encClaim, h1, h2]
        refine post_same (by simp [AV.deep, AV.deep1]) ?_
        simp [chk1, h1, h2] at hq
        simp [settle, hq]
      · simp [go_sem, hc, encClaim, h1, h2, next_i64 (show k < 4611686018427387904 by omega)]
        refine next_of (k + 1) ⟨by omega, ?_⟩ (by omega) (by simp [Weak, slotOk, fv, lk, AV.low, AV.low1])
        simpa [chk1, h1, h2] using hq
  · rw [List.drop_eq_nil_of_le (by omega)] at hq
    simp [go_sem]
    refine loop_of (fun k : Nat => ⟨[(0, .d (.ro 2 (outs.map encOut))), (1, .d (.ro 2 (cs.map encClaim))), (28, .d (.ro 2 (outs.map encOut))), (29, .d (.int .i64 outs.length)), (30, .d (.int .i64 k))], [], 1⟩)
      (fun k => k ≤ outs.length ∧ chk2 cs k (outs.drop k) = chk2 cs 0 outs) (fun k => outs.length - k) 0 ⟨by omega, rfl⟩ (by simp [Weak, slotOk, fv, lk, AV.low, AV.low1]) ?_
    rintro k ⟨hk0, hq2⟩
    simp only [go_sem, Nat.reduceEqDiff, Nat.reduceAdd, Nat.reduceLT, ↓reduceIte]
    refine ⟨fun hk => ?_, fun hk => ?_⟩
    · obtain ⟨o, hc, hd⟩ := drop_of (l := outs) (k := k) (by omega)
      rw [hd] at hq2
      simp [go_sem, hc, encOut]
      refine cl_eq (owed_fn cs k hl) (by simp [AV.deep, AV.deep1]) ?_
      by_cases h1 : (owed k cs 0).2 = 0
      · by_cases h2 : o.1 < (owed k cs 0).1
        · simp [go_sem, h1, h2]
          refine post_same (by simp [AV.deep, AV.deep1]) ?_
          simp [chk2, h1, h2] at hq2
          simp [settle, ← hq, ← hq2, chk1]
        · simp [go_sem, h1, h2, next_i64 (show k < 4611686018427387904 by omega)]
          refine next_of (k + 1) ⟨by omega, ?_⟩ (by omega) (by simp [Weak, slotOk, fv, lk, AV.low, AV.low1])
          simpa [chk2, h1, h2] using hq2
      · simp [go_sem, h1]
        refine post_same (by simp [AV.deep, AV.deep1]) ?_
        simp [chk2, h1] at hq2
        simp [settle, ← hq, ← hq2, chk1]
    · simp [go_sem]
      refine post_same (by simp [AV.deep, AV.deep1]) ?_
      rw [List.drop_eq_nil_of_le (by omega)] at hq2
      simp [chk2] at hq2
      simp [settle, ← hq, ← hq2, chk1]

/-- Settle, as the document has it. -/
def chk2R (cs : List (Int × Int)) : Nat → List (Int × List Int) → Bool
  | _, [] => true
  | i, o :: r => if (owedR i cs 0).2 ≠ 0 then false else if o.1 < (owedR i cs 0).1 then false else chk2R cs (i + 1) r
def settleR (outs : List (Int × List Int)) (cs : List (Int × Int)) : Int := if chk1 outs.length cs then (if chk2R cs 0 outs then 0 else 40) else 1

theorem chk2R_eq (cs : List (Int × Int)) (h : ∀ c, c ∈ cs → 0 ≤ c.2 ∧ c.2 < 18446744073709551616) : ∀ (outs : List (Int × List Int)) (i : Nat), chk2R cs i outs = chk2 cs i outs
  | [], _ => rfl
  | o :: r, i => by
    simp only [chk2R, chk2, owedR_eq i cs 0 h (by omega) (by omega), chk2R_eq cs h r (i + 1)]

theorem settleR_eq (outs : List (Int × List Int)) (cs : List (Int × Int)) (h : ∀ c, c ∈ cs → 0 ≤ c.2 ∧ c.2 < 18446744073709551616) : settleR outs cs = settle outs cs := by
  simp only [settleR, settle, chk2R_eq cs h]

set_option maxHeartbeats 2000000 in
theorem settleR_fn (outs : List (Int × List Int)) (cs : List (Int × Int)) (hl : cs.length < 4611686018427387904) (ho : outs.length < 4611686018427387904) :
    Rets Try.prog 9 [.d (.ro 2 (outs.map encOut)), .d (.ro 2 (cs.map encClaim))] (fun r => r = .d (.int .i64 (settleR outs cs))) := by
  refine fn_of_awp Try.func9 (by kernel_rfl) rfl Try.ntmps9 (rs := [.tmp 4]) rfl (Nat.le_of_ble_eq_true rfl) (by simp [AV.deep, AV.deep1]) ?_
  simp only [go_sem, Nat.reduceEqDiff, Nat.reduceAdd, Nat.reduceLT, ↓reduceIte]
  refine loop_of (fun k : Nat => ⟨[(0, .d (.ro 2 (outs.map encOut))), (1, .d (.ro 2 (cs.map encClaim))), (5, .d (.int .i64 k))], [], 1⟩)
    (fun k => k ≤ cs.length ∧ chk1 outs.length (cs.drop k) = chk1 outs.length cs) (fun k => cs.length - k) 0 ⟨by omega, rfl⟩ (by simp [Weak, slotOk, fv, lk, AV.low, AV.low1]) ?_
  rintro k ⟨hk0, hq⟩
  simp only [go_sem, Nat.reduceEqDiff, Nat.reduceAdd, Nat.reduceLT, ↓reduceIte]
  refine ⟨fun hk => ?_, fun hk => ?_⟩
  · obtain ⟨c, hc, hd⟩ := drop_of (l := cs) (k := k) (by omega)
    rw [hd] at hq
    by_cases h1 : c.1 < 0
    · simp [go_sem, hc, encClaim, h1]
      refine post_same (by simp [AV.deep, AV.deep1]) ?_
      simp [chk1, h1] at hq
      simp [settleR, hq]
    · by_cases h2 : (outs.length : Int) ≤ c.1
      · simp [go_sem, hc, encClaim, h1, h2]
        refine post_same (by simp [AV.deep, AV.deep1]) ?_
        simp [chk1, h1, h2] at hq
        simp [settleR, hq]
      · simp [go_sem, hc, encClaim, h1, h2, next_i64 (show k < 4611686018427387904 by omega)]
        refine next_of (k + 1) ⟨by omega, ?_⟩ (by omega) (by simp [Weak, slotOk, fv, lk, AV.low, AV.low1])
        simpa [chk1, h1, h2] using hq
  · rw [List.drop_eq_nil_of_le (by omega)] at hq
    simp [go_sem]
    refine loop_of (fun k : Nat => ⟨[(0, .d (.ro 2 (outs.map encOut))), (1, .d (.ro 2 (cs.map encClaim))), (6, .d (.int .i64 k))], [], 1⟩)
      (fun k => k ≤ outs.length ∧ chk2R cs k (outs.drop k) = chk2R cs 0 outs) (fun k => outs.length - k) 0 ⟨by omega, rfl⟩ (by simp [Weak, slotOk, fv, lk, AV.low, AV.low1]) ?_
    rintro k ⟨hk0, hq2⟩
    simp only [go_sem, Nat.reduceEqDiff, Nat.reduceAdd, Nat.reduceLT, ↓reduceIte]
    refine ⟨fun hk => ?_, fun hk => ?_⟩
    · obtain ⟨o, hc, hd⟩ := drop_of (l := outs) (k := k) (by omega)
      rw [hd] at hq2
      simp [go_sem, hc, encOut]
      refine cl_eq (owedR_fn cs k hl) (by simp [AV.deep, AV.deep1]) ?_
      by_cases h1 : (owedR k cs 0).2 = 0
      · by_cases h2 : o.1 < (owedR k cs 0).1
        · simp [go_sem, h1, h2, hc, encOut]
          refine post_same (by simp [AV.deep, AV.deep1]) ?_
          simp [chk2R, h1, h2] at hq2
          simp [settleR, ← hq, ← hq2, chk1]
        · simp [go_sem, h1, h2, hc, encOut, next_i64 (show k < 4611686018427387904 by omega)]
          refine next_of (k + 1) ⟨by omega, ?_⟩ (by omega) (by simp [Weak, slotOk, fv, lk, AV.low, AV.low1])
          simpa [chk2R, h1, h2] using hq2
      · simp [go_sem, h1, hc, encOut]
        refine post_same (by simp [AV.deep, AV.deep1]) ?_
        simp [chk2R, h1] at hq2
        simp [settleR, ← hq, ← hq2, chk1]
    · simp [go_sem]
      refine post_same (by simp [AV.deep, AV.deep1]) ?_
      rw [List.drop_eq_nil_of_le (by omega)] at hq2
      simp [chk2R] at hq2
      simp [settleR, ← hq, ← hq2, chk1]

set_option maxHeartbeats 2000000 in
theorem alive_fn : Rets Try.prog 5 [] (fun r => r = .d (.bool true)) := by
  refine fn_of_awp Try.func5 (by kernel_rfl) rfl Try.ntmps5 (rs := [.tmp 0]) rfl (Nat.le_of_ble_eq_true rfl) (by simp [AV.deep, AV.deep1]) ?_
  simp [go_sem, resV, IntKind.wrap, IntKind.bits, IntKind.signed]
  refine cl_froz [7, 6, 5, 8] updated_ab rfl (snap_cons (.one (snap1_d (own_of rfl (by simp) rfl (.cons (.cons (snap_cb (bs := [1]) rfl (by simp) rfl) .nil) (.cons (.cons (snap_cb (bs := [7, 7]) rfl (by simp) rfl) .nil) .nil)) rfl (by simp))))
    (snap_cons (.one (snap1_d (snap_cb (bs := [9]) rfl (by simp) rfl))) snap_nil)) ?_
  simp [go_sem, resV, IntKind.wrap, IntKind.bits, IntKind.signed, dropH]
  have sn : ∀ (hp : Hp) (i v : Nat) (u : Int), lk i hp = some ⟨35, 2, [[.d (.int .u64 u), .nil]]⟩ → lk 3 hp = some ⟨32, 2, [[.d (.int .i64 0), .d (.int .u64 3)], [.d (.int .i64 0), .d (.int .u64 4)]]⟩ →
      ∀ (j : Nat) (v v' : AV), [AV.own i 0 1 1, AV.own 3 0 2 2][j]? = some v → [AV.d (.ro 2 ([(u, [])].map encOut)), AV.d (.ro 2 ([(0, 3), (0, 4)].map encClaim))][j]? = some v' → Snap hp (fun _ => True) v v' := by
    intro hp i _ u h1 h2
    exact snap_cons (.one (snap1_d (own_of h1 trivial rfl (.cons (.cons (.d _) (.cons (.nil 1) .nil)) .nil) rfl (by simp [encOut]))))
      (snap_cons (.one (snap1_d (own_of h2 trivial rfl (.cons (.cons (.d _) (.cons (.d _) .nil)) (.cons (.cons (.d _) (.cons (.d _) .nil)) .nil)) rfl (by simp [encClaim])))) snap_nil)
  refine cl_snap (settle_fn [(7, [])] [(0, 3), (0, 4)] (by simp) (by simp)) rfl (sn _ _ 0 7 rfl rfl) trivial ?_
  have e1 : settle [(7, [])] [(0, 3), (0, 4)] = 0 := by decide
  have e2 : settle [(6, [])] [(0, 3), (0, 4)] = 40 := by decide
  simp [go_sem, resV, IntKind.wrap, IntKind.bits, IntKind.signed, e1]
  refine cl_snap (settle_fn [(6, [])] [(0, 3), (0, 4)] (by simp) (by simp)) rfl (sn _ _ 0 6 rfl rfl) trivial ?_
  simp [go_sem, resV, IntKind.wrap, IntKind.bits, IntKind.signed, e2, encB]
  refine ⟨[81, 2, 7, 7, 9], by simp, by simp, ?_⟩
  simp [go_sem, Try.underlying5]
  exact post_same (by simp [AV.deep, AV.deep1]) rfl
end Go.Proofs.Ytcchgbhjnaooiaa
