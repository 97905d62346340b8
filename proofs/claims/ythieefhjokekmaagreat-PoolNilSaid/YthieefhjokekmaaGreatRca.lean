/-
  Sums of amounts, coins, fees, waiting: by the program and by the other text.
-/
import Derived.Test.YthieefhjokekmaaGreatVrx
import Derived.Test.YthieefhjokekmaaGreatRma
namespace Go.Sha
def maxM : Nat := 2100000000000000
/-- A sum of amounts from s on, and the error. -/
def sumM : List Nat → Nat → Nat × Int
  | [], s => (s, 0)
  | a :: r, s => if maxM < a then (0, 31) else if maxM < s + a then (0, 31) else sumM r (s + a)
/-- A coin. -/
structure Co where
  hash : List Nat
  idx : Nat
  amt : Nat
  scr : List Nat
  height : Nat
  first : Bool
def Co.ok (c : Co) : Prop := c.hash.length = 32 ∧ c.idx < 4294967296 ∧ c.amt < 18446744073709551616 ∧ c.height < 4294967296
def payOf (c : Co) : Nat × List Nat := (c.amt, c.scr)
/-- Are all coins ripe at a height? -/
def ripe (h : Nat) (cs : List Co) : Bool := cs.all fun c => !(c.first && decide (h < c.height + 4))
theorem sumM_le : ∀ (l : List Nat) (s : Nat), s ≤ maxM → (sumM l s).1 ≤ maxM
  | [], s, h => h
  | a :: r, s, h => by
    simp only [sumM]
    split
    · exact Nat.zero_le _
    · split
      · exact Nat.zero_le _
      · exact sumM_le r _ (by omega)
end Go.Sha
namespace Go.Proofs.YthieefhjokekmaaGreat
open Go.Am Go.Sha
set_option linter.unusedSimpArgs false
set_option linter.unusedVariables false

/-- Amounts, read-only, and as rows. -/
def nq (l : List Nat) : DV := .ro 1 (l.map fun (x : Nat) => [.int .u64 (x : Int)])
def rq (l : List Nat) : List (List AV) := l.map fun (x : Nat) => [.d (.int .u64 (x : Int))]
theorem rq_len (l : List Nat) : (rq l).length = l.length := by simp [rq]
theorem rq_low (n : Nat) (l : List Nat) : ∀ r, r ∈ rq l → ∀ v, v ∈ r → v.low1 n := by
  intro r hr v hv
  simp only [rq, List.mem_map] at hr
  obtain ⟨x, _, rfl⟩ := hr
  simp at hv
  subst hv
  trivial
theorem rq_snoc (a : List Nat) (x : Nat) : rq a ++ [[AV.d (.int .u64 (x : Int))]] = rq (a ++ [x]) := by simp [rq]
theorem snap_rq {hp : Hp} {I : Nat → Prop} {id n : Nat} {L : List Nat} (hl : L.length = n) (hb : lk id hp = some ⟨35, 1, rq L⟩) (hI : I id) : SnapD hp I (.own id 0 n n) (nq L) :=
  snap_row (ty := 35) (e := 1) (es := L.map fun (x : Nat) => [.int .u64 (x : Int)]) (by rw [hb]; simp [rq]) hI (by simp [hl]) (fun r hr => by
    rw [List.mem_map] at hr
    obtain ⟨x, _, rfl⟩ := hr
    rfl)
theorem take_snoc {α : Type} {l : List α} {k : Nat} {x : α} (h : l[k]? = some x) : l.take k ++ [x] = l.take (k + 1) := by
  rw [List.take_add_one, h]; rfl
theorem take_len {α : Type} {l : List α} {k : Nat} (h : k ≤ l.length) : (l.take k).length = k := by rw [List.length_take]; omega

theorem mcheck_fn (x : Nat) : Rets Tryz.prog 165 [.d (.int .u64 (x : Int))] (fun r => r = .d (.int .i64 (if maxM < x then 31 else 0))) := by
  refine fn_of_awp Tryz.func165 (by kernel_rfl) rfl Tryz.ntmps165 (rs := [.tmp 2]) rfl (Nat.le_of_ble_eq_true rfl) (by simp [AV.deep, AV.deep1]) ?_
  by_cases h : maxM < x
  · have i1 : (2100000000000000 : Int) < (x : Int) := by unfold maxM at h; omega
    simp [go_sem, i1, h]
    exact post_same (by simp [AV.deep, AV.deep1]) rfl
  · have i1 : ¬ (2100000000000000 : Int) < (x : Int) := by unfold maxM at h; omega
    simp [go_sem, i1, h]
    exact post_same (by simp [AV.deep, AV.deep1]) rfl

set_option maxHeartbeats 2000000 in
theorem msum_fn (l : List Nat) (hl : l.length ≤ 1000000) (h64 : ∀ x, x ∈ l → x < 18446744073709551616) : Rets Tryz.prog 206 [.d (nq l)] (fun r => r = .tup [.d (.int .u64 ((sumM l 0).1 : Int)), .d (.int .i64 (sumM l 0).2)]) := by
  refine fn_of_awp Tryz.func206 (by kernel_rfl) rfl Tryz.ntmps206 (rs := [.tmp 2, .tmp 3]) rfl (Nat.le_of_ble_eq_true rfl) (by simp [AV.deep, AV.deep1]) ?_
  generalize hS : sumM l 0 = S
  simp [go_sem, nq]
  refine loop_of (fun u : Nat × Nat => ⟨[(4, .d (.int .u64 (u.2 : Int))), (7, .d (nq l)), (8, .d (.int .i64 (l.length : Int))), (9, .d (.int .i64 (u.1 : Int)))], [], 1000⟩)
    (fun u => u.1 ≤ l.length ∧ u.2 ≤ maxM ∧ sumM (l.drop u.1) u.2 = S) (fun u => l.length - u.1) (0, 0) ⟨by simp, by simp [maxM], by simpa using hS⟩ (by
      simp [Weak, slotOk, fv, lk, AV.low, AV.low1, nq]) ?_
  rintro ⟨k, s⟩ ⟨hk, hs, hq⟩
  simp only at hk hs hq
  simp only [go_sem, Nat.reduceEqDiff, Nat.reduceAdd, Nat.reduceLT, ↓reduceIte, Nat.reduceMul]
  refine ⟨fun h => ?_, fun h => ?_⟩
  · obtain ⟨a, ha, hd⟩ := drop_of (l := l) (k := k) (by omega)
    have ha64 := h64 a (List.mem_of_getElem? ha)
    have w3 := next_i64 (k := k) (by omega)
    rw [hd] at hq
    simp only [sumM] at hq
    simp [go_sem, nq, ha]
    refine cl_eq (mcheck_fn a) (by simp [AV.deep, AV.deep1]) ?_
    by_cases h1 : maxM < a
    · rw [if_pos h1] at hq
      subst hq
      simp [go_sem, h1, resV]
      exact post_same (by simp [AV.deep, AV.deep1]) rfl
    · rw [if_neg h1] at hq
      have wa : IntKind.u64.wrap ((s : Int) + (a : Int)) = ((s + a : Nat) : Int) := by rw [u64w]; unfold maxM at hs h1; omega
      simp [go_sem, h1, wa]
      refine cl_eq (mcheck_fn (s + a)) (by simp [AV.deep, AV.deep1]) ?_
      by_cases h2 : maxM < s + a
      · rw [if_pos h2] at hq
        subst hq
        simp [go_sem, h2, resV]
        exact post_same (by simp [AV.deep, AV.deep1]) rfl
      · rw [if_neg h2] at hq
        simp [go_sem, h2, w3]
        refine next_of (k + 1, s + a) ⟨by simp only; omega, by simp only; omega, hq⟩ (by simp only; omega) ?_
        simp [Weak, slotOk, fv, lk, AV.low, AV.low1, nq]
  · have hkl : k = l.length := by omega
    subst hkl
    rw [List.drop_length] at hq
    simp only [sumM] at hq
    subst hq
    simp [go_sem, resV]
    exact post_same (by simp [AV.deep, AV.deep1]) rfl

def sumO (os : List (Nat × List Nat)) : Nat × Int := sumM (os.map (·.1)) 0
set_option maxHeartbeats 2000000 in
theorem worth_fn (os : List (Nat × List Nat)) (hl : os.length ≤ 1000) (h64 : ∀ o, o ∈ os → o.1 < 18446744073709551616) : Rets Tryz.prog 148 [.d (.ro 2 (os.map eO))] (fun r => r = .tup [.d (.int .u64 ((sumO os).1 : Int)), .d (.int .i64 (sumO os).2)]) := by
  refine fn_of_awp Tryz.func148 (by kernel_rfl) rfl Tryz.ntmps148 (rs := [.tmp 2, .tmp 3]) rfl (Nat.le_of_ble_eq_true rfl) (by simp [AV.deep, AV.deep1]) ?_
  simp [go_sem]
  refine loop_of (fun k : Nat => ⟨[(4, .own 1000 0 k k), (7, .d (.ro 2 (os.map eO))), (8, .d (.int .i64 (os.length : Int))), (9, .d (.int .i64 (k : Int)))], [(1000, ⟨35, 1, rq ((os.map (·.1)).take k)⟩)], 2000⟩)
    (fun k => k ≤ os.length) (fun k => os.length - k) 0 (by simp) (by
      simp [Weak, slotOk, fv, lk, AV.low, AV.low1, rq]) ?_
  intro k hk
  simp only [go_sem, Nat.reduceEqDiff, Nat.reduceAdd, Nat.reduceLT, ↓reduceIte, Nat.reduceMul]
  refine ⟨fun h => ?_, fun h => ?_⟩
  · obtain ⟨o, ho1, hd⟩ := drop_of (l := os) (k := k) (by omega)
    have w3 := next_i64 (k := k) (by omega)
    have htl : ((os.map (·.1)).take k).length = k := take_len (by simpa using hk)
    have hts : (os.map (·.1)).take k ++ [o.1] = (os.map (·.1)).take (k + 1) := take_snoc (by simp [ho1])
    generalize (os.map (·.1)).take k = L at *
    simp [go_sem, ho1, eO, rq_len, htl, rq_snoc, hts, w3]
    refine ⟨by omega, ?_⟩
    refine next_of (k + 1) (by omega) (by omega) ?_
    simp [Weak, slotOk, fv, lk, AV.low, AV.low1]
    exact rq_low _ _
  · have hkl : k = os.length := by omega
    subst hkl
    simp [go_sem]
    refine cl_froz [1000] (msum_fn (os.map (·.1)) (by simp; omega) (fun x hx => by
      rw [List.mem_map] at hx
      obtain ⟨o, ho, rfl⟩ := hx
      exact h64 o ho)) rfl (snap_cons (.one (snap1_d (snap_rq (by simp) (by rw [List.take_of_length_le (by simp)]; rfl) (by simp)))) snap_nil) ?_
    simp [go_sem, dropH, resV]
    exact post_same (by simp [AV.deep, AV.deep1]) rfl

end Go.Proofs.YthieefhjokekmaaGreat
