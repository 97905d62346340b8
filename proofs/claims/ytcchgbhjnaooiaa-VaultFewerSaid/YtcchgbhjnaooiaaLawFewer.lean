/-
  The law VaultFewer: the walk.
-/
import Derived.Test.YtcchgbhjnaooiaaLawSettle
import Derived.Test.YtcchgbhjnaooiaaAmZi
namespace Go.Proofs.Ytcchgbhjnaooiaa
open Go.Am
set_option linter.unusedSimpArgs false
set_option linter.unusedVariables false

def rowsC (cs : List (Int × Int)) : List (List AV) := cs.map fun c => [.d (.int .i64 c.1), .d (.int .u64 c.2)]
def rowsO (os : List (Int × List Int)) : List (List AV) := os.map fun o => [.d (.int .u64 o.1), .d (encB o.2)]
theorem rowsC_len (cs : List (Int × Int)) : (rowsC cs).length = cs.length := by simp [rowsC]
theorem rowsO_len (cs : List (Int × List Int)) : (rowsO cs).length = cs.length := by simp [rowsO]
theorem rowsC_is (cs : List (Int × Int)) : ((cs.map encClaim).map fun r => r.map AV.d) = rowsC cs := by simp [rowsC, encClaim]
theorem rowsO_is (cs : List (Int × List Int)) : ((cs.map encOut).map fun r => r.map AV.d) = rowsO cs := by simp [rowsO, encOut]
theorem snap_C {hp : Hp} {I : Nat → Prop} {id n : Nat} {cs : List (Int × Int)} (hb : lk id hp = some ⟨32, 2, rowsC cs⟩) (hI : I id) (hn : cs.length = n) : SnapD hp I (.own id 0 n n) (.ro 2 (cs.map encClaim)) := by
  rw [← rowsC_is] at hb
  exact snap_row hb hI (by simp [hn]) (fun r hr => by rw [List.mem_map] at hr; obtain ⟨c, _, rfl⟩ := hr; rfl)
theorem snap_O {hp : Hp} {I : Nat → Prop} {id n : Nat} {os : List (Int × List Int)} (hb : lk id hp = some ⟨35, 2, rowsO os⟩) (hI : I id) (hn : os.length = n) : SnapD hp I (.own id 0 n n) (.ro 2 (os.map encOut)) := by
  rw [← rowsO_is] at hb
  exact snap_row hb hI (by simp [hn]) (fun r hr => by rw [List.mem_map] at hr; obtain ⟨c, _, rfl⟩ := hr; rfl)

/-- Claims without the one at 'at'; the first is number i. -/
def less (out : Int) : Nat → List (Int × Int) → List (Int × Int)
  | _, [] => []
  | i, c :: r => if (i : Int) = out then less out (i + 1) r else c :: less out (i + 1) r
theorem less_append (out : Int) : ∀ (a b : List (Int × Int)) (i : Nat), less out i (a ++ b) = less out i a ++ less out (i + a.length) b
  | [], b, i => by simp [less]
  | c :: r, b, i => by
    simp only [List.cons_append, less, less_append out r b (i + 1), List.length_cons, show i + 1 + r.length = i + (r.length + 1) by omega]
    split <;> simp

theorem rowsC_low (n : Nat) (cs : List (Int × Int)) : ∀ r, r ∈ rowsC cs → ∀ v, v ∈ r → v.low1 n := by
  intro r hr v hv
  simp only [rowsC, List.mem_map] at hr
  obtain ⟨c, _, rfl⟩ := hr
  simp only [List.mem_cons, List.mem_nil_iff, or_false] at hv
  rcases hv with rfl | rfl <;> simp [AV.low1]
theorem rowsO_low (n : Nat) (cs : List (Int × List Int)) : ∀ r, r ∈ rowsO cs → ∀ v, v ∈ r → v.low1 n := by
  intro r hr v hv
  simp only [rowsO, List.mem_map] at hr
  obtain ⟨c, _, rfl⟩ := hr
  simp only [List.mem_cons, List.mem_nil_iff, or_false] at hv
  rcases hv with rfl | rfl <;> simp [AV.low1]

theorem less_len (out : Int) : ∀ (l : List (Int × Int)) (i : Nat), (less out i l).length ≤ l.length := by
  intro l
  induction l with
  | nil => intro i; simp [less]
  | cons x r ih => intro i; have := ih (i + 1); simp only [less]; split <;> simp <;> omega

def up (o : Int × List Int) : Int × List Int := (bits .or .u64 o.1 9223372036854775808, o.2)

def mixO (outs : List (Int × List Int)) (k : Nat) : List (List AV) := rowsO ((outs.take k).map up ++ outs.drop k)
theorem mix_0 (outs : List (Int × List Int)) : List.map ((fun r => List.map AV.d r) ∘ encOut) outs = mixO outs 0 := by simp [mixO, ← rowsO_is]
theorem mix_get {outs : List (Int × List Int)} {j : Nat} {o : Int × List Int} (ho : outs[j]? = some o) (hdo : outs.drop j = o :: outs.drop (j + 1)) (hj : j < outs.length) : (mixO outs j)[j]? = some [.d (.int .u64 o.1), .d (encB o.2)] := by
  unfold mixO
  rw [hdo]
  simp [rowsO, List.getElem?_append_right, show min j outs.length = j by omega]
theorem mix_set {outs : List (Int × List Int)} {j : Nat} {o : Int × List Int} (ho : outs[j]? = some o) (hdo : outs.drop j = o :: outs.drop (j + 1)) (hj : j < outs.length) : (mixO outs j).set j [.d (.int .u64 (bits .or .u64 o.1 9223372036854775808)), .d (encB o.2)] = mixO outs (j + 1) := by
  unfold mixO
  rw [hdo, List.take_add_one, ho]
  simp [rowsO, List.set_append_right, show min j outs.length = j by omega, up]
theorem mix_len {outs : List (Int × List Int)} {j : Nat} (hj : j ≤ outs.length) : (mixO outs j).length = outs.length := by simp [mixO, rowsO]; omega

set_option maxHeartbeats 4000000 in
theorem fewer_walk (outs : List (Int × List Int)) (cs : List (Int × Int)) (out : Int)
    (F : settle outs cs = 0 → (∀ c, c ∈ cs → ¬ c.1 < 0 ∧ ¬ (outs.length : Int) ≤ c.1 ∧ ∃ o, outs[c.1.toNat]? = some o ∧ ¬ o.1 < c.2) ∧ settle outs cs.reverse = 0 ∧ settle outs (less out 0 cs) = 0 ∧ settle (outs.map up) cs = 0) :
    Rets Try.prog 4 [.d (.ro 2 (outs.map encOut)), .d (.ro 2 (cs.map encClaim)), .d (.int .i64 out)] (fun r => r = .d (.bool true)) := by
  refine fn_of_awp Try.func4 (by kernel_rfl) rfl Try.ntmps4 (rs := [.tmp 6]) rfl (Nat.le_of_ble_eq_true rfl) (by simp [AV.deep, AV.deep1]) ?_
  by_cases h1 : outs.length ≤ 40
  · by_cases h2 : cs.length ≤ 40
    · have e1 : ¬ (40 : Int) < outs.length := by omega
      have e2 : ¬ (40 : Int) < cs.length := by omega
      simp [go_sem, e1, e2]
      refine cl_eq (settle_fn outs cs (by omega) (by omega)) (by simp [AV.deep, AV.deep1]) ?_
      by_cases h3 : settle outs cs = 0
      · obtain ⟨F1, F2, F3, F4⟩ := F h3
        simp [go_sem, h3]
        refine loop_of (fun t : Nat × List (Int × Int) × List (Int × Int) => ⟨[(0, .d (.ro 2 (outs.map encOut))), (1, .d (.ro 2 (cs.map encClaim))), (2, .d (.int .i64 out)), (7, .own 1000 0 t.2.1.length t.2.1.length), (8, .own 1001 0 t.2.2.length t.2.2.length), (9, .d (.int .i64 t.1))],
            [(1000, ⟨32, 2, rowsC t.2.1⟩), (1001, ⟨32, 2, rowsC t.2.2⟩)], 1002⟩)
          (fun t => t.1 ≤ cs.length ∧ t.2.1 = cs.reverse.take t.1 ∧ t.2.2 = less out 0 (cs.take t.1)) (fun t => cs.length - t.1) (0, [], []) ⟨by omega, rfl, by simp [less]⟩ (by simp [Weak, slotOk, fv, lk, AV.low, AV.low1, rowsC, less]) ?_
        rintro ⟨k, A, B⟩ ⟨hk0, hA, hB⟩
        simp only at hk0 hA hB
        have hAl : A.length = k := by rw [hA]; simp; omega
        simp only [go_sem, Nat.reduceEqDiff, Nat.reduceAdd, Nat.reduceLT, ↓reduceIte]
        refine ⟨fun hk => ?_, fun hk => ?_⟩
        · obtain ⟨c, hc, hd⟩ := drop_of (l := cs) (k := k) (by omega)
          obtain ⟨c', hc', hd'⟩ := drop_of (l := cs) (k := cs.length - 1 - k) (by omega)
          have w1 : IntKind.i64.wrap ((cs.length : Int) - 1) = ((cs.length - 1 : Nat) : Int) := by rw [IntWalk.i64_in _ (by omega)]; omega
          have w2 : IntKind.i64.wrap (((cs.length - 1 : Nat) : Int) - (k : Int)) = ((cs.length - 1 - k : Nat) : Int) := by rw [IntWalk.i64_in _ (by omega)]; omega
          obtain ⟨q1, q2, o, q3, q4⟩ := F1 c (List.mem_of_getElem? hc)
          have hA' : A ++ [c'] = cs.reverse.take (k + 1) := by
            rw [List.take_add_one, ← hA]
            congr 1
            rw [List.getElem?_reverse (by omega), hc']
            rfl
          have htk : cs.take (k + 1) = cs.take k ++ [c] := by rw [List.take_add_one, hc]; rfl
          have hrA : rowsC A ++ [[AV.d (.int .i64 c'.1), AV.d (.int .u64 c'.2)]] = rowsC (A ++ [c']) := by simp [rowsC]
          have hBl : B.length ≤ k := by
            rw [hB]
            have : ∀ (l : List (Int × Int)) (i : Nat), (less out i l).length ≤ l.length := by
              intro l
              induction l with
              | nil => intro i; simp [less]
              | cons x r ih => intro i; have := ih (i + 1); simp only [less]; split <;> simp <;> omega
            have := this (cs.take k) 0
            simp at this
            omega
          have w3 := next_i64 (show k < 4611686018427387904 by omega)
          -- the region that only reads
          by_cases h4 : (k : Int) = out
          · subst h4
            simp [go_sem, w1, w2, hc', hc, encClaim, hrA, rowsC_len]
            refine ⟨by omega, ?_⟩
            apply draw2 (0 :: 1 :: 2 :: 3 :: 4 :: 5 :: 6 :: 7 :: 8 :: 9 :: 10 :: 11 :: 12 :: 13 :: 14 :: 15 :: 16 :: 17 :: 18 :: 19 :: 20 :: 21 :: 22 :: 23 :: 24 :: 25 :: 26 :: 27 :: 28 :: 29 :: 30 :: 31 :: 32 :: []) [] 0 (k := 33) (by kernel_rfl) (by kernel_rfl) rfl
            case hz => repeat (first | exact Its.nil | apply Its.plain rfl | apply Its.guard rfl rfl)
            case hj => exact Its.nil
            intro G hG
            simp [go_sem, hc, encClaim, q1, q2, q3, q4, encOut]
            refine ⟨by omega, hG _ _ ?_⟩
            simp [go_sem, w3]
            refine next_of (k + 1, A ++ [c'], B) ⟨by omega, hA', ?_⟩ (by simp only; omega) ?_
            · simp only [htk, less_append, ← hB]
              simp [less, show min k cs.length = k by omega]
            · simp [Weak, slotOk, fv, lk, AV.low, AV.low1]
              exact ⟨rowsC_low _ _, rowsC_low _ _⟩
          · have hrB : rowsC B ++ [[AV.d (.int .i64 c.1), AV.d (.int .u64 c.2)]] = rowsC (B ++ [c]) := by simp [rowsC]
            simp [go_sem, w1, w2, hc', hc, encClaim, hrA, h4, rowsC_len, hrB]
            refine ⟨by omega, by omega, ?_⟩
            apply draw2 (0 :: 1 :: 2 :: 3 :: 4 :: 5 :: 6 :: 7 :: 8 :: 9 :: 10 :: 11 :: 12 :: 13 :: 14 :: 15 :: 16 :: 17 :: 18 :: 19 :: 20 :: 21 :: 22 :: 23 :: 24 :: 25 :: 26 :: 27 :: 28 :: 29 :: 30 :: 31 :: 32 :: []) [] 0 (k := 33) (by kernel_rfl) (by kernel_rfl) rfl
            case hz => repeat (first | exact Its.nil | apply Its.plain rfl | apply Its.guard rfl rfl)
            case hj => exact Its.nil
            intro G hG
            simp [go_sem, hc, encClaim, q1, q2, q3, q4, encOut]
            refine ⟨by omega, hG _ _ ?_⟩
            simp [go_sem, w3]
            refine next_of (k + 1, A ++ [c'], B ++ [c]) ⟨by omega, hA', ?_⟩ (by simp only; omega) ?_
            · simp only [htk, less_append, ← hB]
              simp [less, show min k cs.length = k by omega, h4]
            · simp [Weak, slotOk, fv, lk, AV.low, AV.low1]
              exact ⟨rowsC_low _ _, rowsC_low _ _⟩
        · have hk1 : k = cs.length := by omega
          have hA1 : A = cs.reverse := by rw [hA, List.take_of_length_le (by simp; omega)]
          have hB1 : B = less out 0 cs := by rw [hB, List.take_of_length_le (by omega)]
          subst hA1 hB1
          clear hA hB hAl
          simp [go_sem]
          refine ⟨by omega, ?_⟩
          refine loop_of (fun k : Nat => ⟨[(0, .d (.ro 2 (outs.map encOut))), (1, .d (.ro 2 (cs.map encClaim))), (7, .own 1000 0 cs.length cs.length), (8, .own 1001 0 (less out 0 cs).length (less out 0 cs).length), (10, .own 1006 0 outs.length outs.length), (11, .d (.int .i64 k))],
              [(1006, ⟨35, 2, mixO outs k⟩), (1000, ⟨32, 2, rowsC cs.reverse⟩), (1001, ⟨32, 2, rowsC (less out 0 cs)⟩)], 1011⟩)
            (fun k => k ≤ outs.length) (fun k => outs.length - k) 0 (by omega) (by
              simp [Weak, slotOk, fv, lk, AV.low, AV.low1]
              refine ⟨⟨mix_0 outs, rowsO_low _ _⟩, rowsC_low _ _, rowsC_low _ _⟩) ?_
          intro j hj
          simp only [go_sem, Nat.reduceEqDiff, Nat.reduceAdd, Nat.reduceLT, ↓reduceIte]
          refine ⟨fun hj2 => ?_, fun hj2 => ?_⟩
          · obtain ⟨o, ho, hdo⟩ := drop_of (l := outs) (k := j) (by omega)
            have hg := mix_get ho hdo (by omega)
            have hs := mix_set ho hdo (by omega)
            have hr := mix_len hj
            have w3 := next_i64 (show j < 4611686018427387904 by omega)
            simp [go_sem, hg, hs, hr, w3]
            refine ⟨by omega, next_of (j + 1) (by omega) (by omega) ?_⟩
            simp [Weak, slotOk, fv, lk, AV.low, AV.low1]
            exact ⟨rowsO_low _ _, rowsC_low _ _, rowsC_low _ _⟩
          · have hj1 : j = outs.length := by omega
            subst hj1
            have hmo : mixO outs outs.length = rowsO (outs.map up) := by simp [mixO]
            rw [hmo]
            refine cl_eq alive_fn (by simp [AV.deep, AV.deep1]) ?_
            simp [go_sem]
            refine cl_snap (settle_fn outs cs.reverse (by simp; omega) (by omega)) rfl (snap_cons (.deep (by simp [AV.deep, AV.deep1])) (snap_cons (.one (snap1_d (snap_C rfl trivial (by simp)))) snap_nil)) trivial ?_
            simp [go_sem, F2]
            refine cl_snap (settle_fn outs (less out 0 cs) (by have := less_len out cs 0; omega) (by omega)) rfl (snap_cons (.deep (by simp [AV.deep, AV.deep1])) (snap_cons (.one (snap1_d (snap_C rfl trivial (by simp)))) snap_nil)) trivial ?_
            simp [go_sem, F3]
            refine cl_snap (settle_fn (outs.map up) cs (by omega) (by simp; omega)) rfl (snap_cons (.one (snap1_d (snap_O rfl trivial (by simp)))) (snap_cons (.deep (by simp [AV.deep, AV.deep1])) snap_nil)) trivial ?_
            simp [go_sem, F4]
            exact post_same (by simp [AV.deep, AV.deep1]) rfl
      · simp [go_sem, h3]
        refine cl_eq alive_fn (by simp [AV.deep, AV.deep1]) ?_
        simp [go_sem]
        exact post_same (by simp [AV.deep, AV.deep1]) rfl
    · have e1 : ¬ (40 : Int) < outs.length := by omega
      have e2 : (40 : Int) < cs.length := by omega
      simp [go_sem, e1, e2]
      refine cl_eq alive_fn (by simp [AV.deep, AV.deep1]) ?_
      simp [go_sem]
      exact post_same (by simp [AV.deep, AV.deep1]) rfl
  · have e1 : (40 : Int) < outs.length := by omega
    simp [go_sem, e1]
    refine cl_eq alive_fn (by simp [AV.deep, AV.deep1]) ?_
    simp [go_sem]
    exact post_same (by simp [AV.deep, AV.deep1]) rfl
end Go.Proofs.Ytcchgbhjnaooiaa
