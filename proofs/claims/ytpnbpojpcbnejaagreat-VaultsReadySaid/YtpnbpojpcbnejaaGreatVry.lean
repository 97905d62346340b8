/-
  Transactions and spendings: what they are here; whether they are small; whether a transaction's parts are not too many or too long.
-/
import Derived.Test.YtpnbpojpcbnejaaGreatVwy
namespace Go.Sha
/-- An input: the hash and place of what it spends, its sequence, its witness. -/
structure Ip where
  hash : List Nat
  idx : Nat
  seq : Nat
  wit : List (List Nat)
/-- A transaction. -/
structure Tn where
  ver : Nat
  ins : List Ip
  outs : List (Nat × List Nat)
  lock : Nat
def Ip.ok (i : Ip) : Prop := i.hash.length = 32 ∧ i.idx < 4294967296 ∧ i.seq < 4294967296
def Tn.ok (t : Tn) : Prop := t.ver < 4294967296 ∧ t.lock < 4294967296 ∧ (∀ i, i ∈ t.ins → i.ok) ∧ (∀ o, o ∈ t.outs → o.1 < 18446744073709551616)
def shortW (n : Nat) (xs : List (List Nat)) : Bool := xs.all fun x => decide (x.length ≤ n)
def shortO (n : Nat) (os : List (Nat × List Nat)) : Bool := os.all fun o => decide (o.2.length ≤ n)
def shortI (m n : Nat) (is : List Ip) : Bool := is.all fun i => decide (i.wit.length ≤ m) && shortW n i.wit
/-- At most a inputs and outputs, scripts of n bytes at most, m things at most, each of n bytes at most. -/
def within (a m n : Nat) (t : Tn) : Bool := decide (t.ins.length ≤ a) && (decide (t.outs.length ≤ a) && (shortO n t.outs && shortI m n t.ins))
end Go.Sha
namespace Go.Proofs.YtpnbpojpcbnejaaGreat
open Go.Am Go.Sha
set_option linter.unusedSimpArgs false
set_option linter.unusedVariables false

def eO (o : Nat × List Nat) : List DV := [.int .u64 (o.1 : Int), nb o.2]
def eI (i : Ip) : List DV := cd i.hash ++ [.int .u32 (i.idx : Int), .int .u32 (i.seq : Int), .ro 1 (i.wit.map encT)]
def eT (t : Tn) : List AV := [.d (.int .u32 (t.ver : Int)), .d (.ro 35 (t.ins.map eI)), .d (.ro 2 (t.outs.map eO)), .d (.int .u32 (t.lock : Int))]
def eS (t : Tn) (n : Int) (coins : List (Nat × List Nat)) : List AV := [.d (.int .u32 (t.ver : Int)), .d (.ro 35 (t.ins.map eI)), .d (.ro 2 (t.outs.map eO)), .d (.int .u32 (t.lock : Int)), .d (.int .i64 n), .d (.ro 2 (coins.map eO))]
theorem eI34 {i : Ip} (h : i.hash.length = 32) : (eI i).drop 34 = [.ro 1 (i.wit.map encT)] := by
  unfold eI
  rw [List.drop_append, List.drop_eq_nil_of_le (by rw [cd_len]; omega), cd_len, h]; rfl
theorem eI33 {i : Ip} (h : i.hash.length = 32) : (eI i).drop 33 = [.int .u32 (i.seq : Int), .ro 1 (i.wit.map encT)] := by
  unfold eI
  rw [List.drop_append, List.drop_eq_nil_of_le (by rw [cd_len]; omega), cd_len, h]; rfl
theorem eI32 {i : Ip} (h : i.hash.length = 32) : (eI i).drop 32 = [.int .u32 (i.idx : Int), .int .u32 (i.seq : Int), .ro 1 (i.wit.map encT)] := by
  unfold eI
  rw [List.drop_append, List.drop_eq_nil_of_le (by rw [cd_len]; omega), cd_len, h]; rfl
theorem eI_len {i : Ip} (h : i.hash.length = 32) : (eI i).length = 35 := by simp [eI, cd_len, h]

/-- A walk over bytes strings, whose place is told by the kit's bounds. -/
theorem all_step {α : Type} {l : List α} {k : Nat} {p : α → Bool} {x : α} {b : Bool} (hd : l.drop k = x :: l.drop (k + 1)) (h : (l.drop k).all p = b) (hx : p x = true) : (l.drop (k + 1)).all p = b := by
  rw [hd, List.all_cons, hx, Bool.true_and] at h
  exact h
theorem all_stop {α : Type} {l : List α} {k : Nat} {p : α → Bool} {x : α} {b : Bool} (hd : l.drop k = x :: l.drop (k + 1)) (h : (l.drop k).all p = b) (hx : p x = false) : b = false := by
  rw [hd, List.all_cons, hx, Bool.false_and] at h
  exact h.symm
theorem all_done {α : Type} {l : List α} {p : α → Bool} {b : Bool} (h : (l.drop l.length).all p = b) : b = true := by
  rw [List.drop_length] at h
  exact h.symm

set_option maxHeartbeats 4000000 in
theorem small09_fn (t : Tn) (ht : t.ok) : Rets Tryz.prog 37 [.agg (eT t)] (fun r => r = .d (.bool (within 6 6 600 t))) := by
  obtain ⟨_, _, hi, _⟩ := ht
  refine fn_of_awp Tryz.func37 (by kernel_rfl) rfl Tryz.ntmps37 (rs := [.tmp 2]) rfl (Nat.le_of_ble_eq_true rfl) (by simp [AV.deep, AV.deep1, eT]) ?_
  by_cases h1 : t.ins.length ≤ 6
  · by_cases h2 : t.outs.length ≤ 6
    · have i1 : ¬ 6 < (t.ins.length : Int) := by omega
      have i2 : ¬ 6 < (t.outs.length : Int) := by omega
      have hw : within 6 6 600 t = (shortO 600 t.outs && shortI 6 600 t.ins) := by simp [within, h1, h2]
      rw [hw]
      simp [go_sem, eT, i1, i2]
      refine loop_of (fun k : Nat => ⟨[(1, .ptr 0 0 0 1), (3, .d (.int .i64 (k : Int)))], [(0, ⟨58, 4, [eT t]⟩)], 2000⟩)
        (fun k => k ≤ t.outs.length ∧ shortO 600 (t.outs.drop k) = shortO 600 t.outs) (fun k => t.outs.length - k) 0 ⟨by omega, rfl⟩ (by
          simp [Weak, slotOk, fv, lk, AV.low, AV.low1, eT]) ?_
      rintro k ⟨hk, ho⟩
      simp only [eT]
      simp only [go_sem, Nat.reduceEqDiff, Nat.reduceAdd, Nat.reduceLT, ↓reduceIte, Nat.reduceMul]
      refine ⟨fun h => ?_, fun h => ?_⟩
      · obtain ⟨o, ho1, hd⟩ := drop_of (l := t.outs) (k := k) (by omega)
        have w3 := next_i64 (k := k) (by omega)
        by_cases hx : o.2.length ≤ 600
        · have j1 : ¬ 600 < (o.2.length : Int) := by omega
          simp [go_sem, ho1, eO, nb, j1, w3]
          refine next_of (k + 1) ⟨by omega, all_step hd ho (by simpa using hx)⟩ (by omega) ?_
          simp [Weak, slotOk, fv, lk, AV.low, AV.low1, eT]
        · have j1 : 600 < (o.2.length : Int) := by omega
          have := all_stop hd ho (by simpa using hx)
          simp [go_sem, ho1, eO, nb, j1]
          exact post_same (by simp [AV.deep, AV.deep1]) (by rw [this]; rfl)
      · have hkl : k = t.outs.length := by omega
        subst hkl
        have hO : shortO 600 t.outs = true := all_done ho
        rw [hO, Bool.true_and]
        clear ho h
        simp [go_sem]
        refine loop_of (fun k : Nat => ⟨[(1, .ptr 0 0 0 1), (4, .d (.int .i64 (k : Int)))], [(0, ⟨58, 4, [eT t]⟩)], 4000⟩)
          (fun k => k ≤ t.ins.length ∧ shortI 6 600 (t.ins.drop k) = shortI 6 600 t.ins) (fun k => t.ins.length - k) 0 ⟨by omega, rfl⟩ (by
            simp [Weak, slotOk, fv, lk, AV.low, AV.low1, eT]) ?_
        rintro k ⟨hk, ho⟩
        simp only [eT]
        simp only [go_sem, Nat.reduceEqDiff, Nat.reduceAdd, Nat.reduceLT, ↓reduceIte, Nat.reduceMul]
        refine ⟨fun h => ?_, fun h => ?_⟩
        · obtain ⟨i, hi1, hd⟩ := drop_of (l := t.ins) (k := k) (by omega)
          have hi32 := (hi i (List.mem_of_getElem? hi1)).1
          by_cases hx : i.wit.length ≤ 6
          · have j1 : ¬ 6 < (i.wit.length : Int) := by omega
            simp [go_sem, hi1, eI34 hi32, j1]
            refine loop_of (fun j : Nat => ⟨[(1, .ptr 0 0 0 1), (4, .d (.int .i64 (k : Int))), (5, .d (.int .i64 (j : Int)))], [(0, ⟨58, 4, [eT t]⟩)], 6000⟩)
              (fun j => j ≤ i.wit.length ∧ shortW 600 (i.wit.drop j) = shortW 600 i.wit) (fun j => i.wit.length - j) 0 ⟨by omega, rfl⟩ (by
                simp [Weak, slotOk, fv, lk, AV.low, AV.low1, eT]) ?_
            rintro j ⟨hj, ho2⟩
            simp only [eT]
            simp [go_sem, hi1, eI34 hi32]
            refine ⟨fun h' => ?_, fun h' => ?_⟩
            · obtain ⟨x, hx1, hd2⟩ := drop_of (l := i.wit) (k := j) (by omega)
              have w4 := next_i64 (k := j) (by omega)
              by_cases hy : x.length ≤ 600
              · have j2 : ¬ 600 < (x.length : Int) := by omega
                simp [go_sem, hi1, eI34 hi32, hx1, encT, nb, j2, w4]
                intro _
                refine next_of (j + 1) ⟨by omega, all_step hd2 ho2 (by simpa using hy)⟩ (by omega) ?_
                simp [Weak, slotOk, fv, lk, AV.low, AV.low1, eT]
              · have j2 : 600 < (x.length : Int) := by omega
                have h3 := all_stop hd2 ho2 (by simpa using hy)
                have := all_stop hd ho (by rw [show shortW 600 i.wit = false from h3]; simp)
                simp [go_sem, hi1, eI34 hi32, hx1, encT, nb, j2]
                refine ⟨?_, fun h => by omega⟩
                exact post_same (by simp [AV.deep, AV.deep1]) (by rw [show shortI 6 600 t.ins = false from this])
            · have hjl : j = i.wit.length := by omega
              subst hjl
              have h3 : shortW 600 i.wit = true := all_done ho2
              have w4 := next_i64 (k := k) (by omega)
              simp [go_sem, w4]
              refine next_of (k + 1) ⟨by omega, all_step hd ho (by rw [h3]; simpa using hx)⟩ (by omega) ?_
              simp [Weak, slotOk, fv, lk, AV.low, AV.low1, eT]
          · have j1 : 6 < (i.wit.length : Int) := by omega
            have := all_stop hd ho (by simp; omega)
            simp [go_sem, hi1, eI34 hi32, j1]
            exact post_same (by simp [AV.deep, AV.deep1]) (by rw [show shortI 6 600 t.ins = false from this])
        · have hkl : k = t.ins.length := by omega
          subst hkl
          have hI : shortI 6 600 t.ins = true := all_done ho
          simp [go_sem]
          exact post_same (by simp [AV.deep, AV.deep1]) (by rw [hI])
    · have i1 : ¬ 6 < (t.ins.length : Int) := by omega
      have i2 : 6 < (t.outs.length : Int) := by omega
      simp [go_sem, eT, i1, i2]
      exact post_same (by simp [AV.deep, AV.deep1]) (by simp [within, h2])
  · have i1 : 6 < (t.ins.length : Int) := by omega
    simp [go_sem, eT, i1]
    exact post_same (by simp [AV.deep, AV.deep1]) (by simp [within, h1])
set_option maxHeartbeats 4000000 in
theorem countsR_fn (t : Tn) (ht : t.ok) : Rets Tryz.prog 170 [.agg (eT t)] (fun r => r = .d (.bool (within 20 30 1000 t))) := by
  obtain ⟨_, _, hi, _⟩ := ht
  refine fn_of_awp Tryz.func170 (by kernel_rfl) rfl Tryz.ntmps170 (rs := [.tmp 2]) rfl (Nat.le_of_ble_eq_true rfl) (by simp [AV.deep, AV.deep1, eT]) ?_
  by_cases h1 : t.ins.length ≤ 20
  · by_cases h2 : t.outs.length ≤ 20
    · have i1 : ¬ 20 < (t.ins.length : Int) := by omega
      have i2 : ¬ 20 < (t.outs.length : Int) := by omega
      have hw : within 20 30 1000 t = (shortO 1000 t.outs && shortI 30 1000 t.ins) := by simp [within, h1, h2]
      rw [hw]
      simp [go_sem, eT, i1, i2]
      refine loop_of (fun k : Nat => ⟨[(1, .ptr 0 0 0 1), (3, .d (.int .i64 (k : Int)))], [(0, ⟨58, 4, [eT t]⟩)], 2000⟩)
        (fun k => k ≤ t.outs.length ∧ shortO 1000 (t.outs.drop k) = shortO 1000 t.outs) (fun k => t.outs.length - k) 0 ⟨by omega, rfl⟩ (by
          simp [Weak, slotOk, fv, lk, AV.low, AV.low1, eT]) ?_
      rintro k ⟨hk, ho⟩
      simp only [eT]
      simp only [go_sem, Nat.reduceEqDiff, Nat.reduceAdd, Nat.reduceLT, ↓reduceIte, Nat.reduceMul]
      refine ⟨fun h => ?_, fun h => ?_⟩
      · obtain ⟨o, ho1, hd⟩ := drop_of (l := t.outs) (k := k) (by omega)
        have w3 := next_i64 (k := k) (by omega)
        by_cases hx : o.2.length ≤ 1000
        · have j1 : ¬ 1000 < (o.2.length : Int) := by omega
          simp [go_sem, ho1, eO, nb, j1, w3]
          refine next_of (k + 1) ⟨by omega, all_step hd ho (by simpa using hx)⟩ (by omega) ?_
          simp [Weak, slotOk, fv, lk, AV.low, AV.low1, eT]
        · have j1 : 1000 < (o.2.length : Int) := by omega
          have := all_stop hd ho (by simpa using hx)
          simp [go_sem, ho1, eO, nb, j1]
          exact post_same (by simp [AV.deep, AV.deep1]) (by rw [this]; rfl)
      · have hkl : k = t.outs.length := by omega
        subst hkl
        have hO : shortO 1000 t.outs = true := all_done ho
        rw [hO, Bool.true_and]
        clear ho h
        simp [go_sem]
        refine loop_of (fun k : Nat => ⟨[(1, .ptr 0 0 0 1), (4, .d (.int .i64 (k : Int)))], [(0, ⟨58, 4, [eT t]⟩)], 4000⟩)
          (fun k => k ≤ t.ins.length ∧ shortI 30 1000 (t.ins.drop k) = shortI 30 1000 t.ins) (fun k => t.ins.length - k) 0 ⟨by omega, rfl⟩ (by
            simp [Weak, slotOk, fv, lk, AV.low, AV.low1, eT]) ?_
        rintro k ⟨hk, ho⟩
        simp only [eT]
        simp only [go_sem, Nat.reduceEqDiff, Nat.reduceAdd, Nat.reduceLT, ↓reduceIte, Nat.reduceMul]
        refine ⟨fun h => ?_, fun h => ?_⟩
        · obtain ⟨i, hi1, hd⟩ := drop_of (l := t.ins) (k := k) (by omega)
          have hi32 := (hi i (List.mem_of_getElem? hi1)).1
          by_cases hx : i.wit.length ≤ 30
          · have j1 : ¬ 30 < (i.wit.length : Int) := by omega
            simp [go_sem, hi1, eI34 hi32, j1]
            refine loop_of (fun j : Nat => ⟨[(1, .ptr 0 0 0 1), (4, .d (.int .i64 (k : Int))), (5, .d (.int .i64 (j : Int)))], [(0, ⟨58, 4, [eT t]⟩)], 6000⟩)
              (fun j => j ≤ i.wit.length ∧ shortW 1000 (i.wit.drop j) = shortW 1000 i.wit) (fun j => i.wit.length - j) 0 ⟨by omega, rfl⟩ (by
                simp [Weak, slotOk, fv, lk, AV.low, AV.low1, eT]) ?_
            rintro j ⟨hj, ho2⟩
            simp only [eT]
            simp [go_sem, hi1, eI34 hi32]
            refine ⟨fun h' => ?_, fun h' => ?_⟩
            · obtain ⟨x, hx1, hd2⟩ := drop_of (l := i.wit) (k := j) (by omega)
              have w4 := next_i64 (k := j) (by omega)
              by_cases hy : x.length ≤ 1000
              · have j2 : ¬ 1000 < (x.length : Int) := by omega
                simp [go_sem, hi1, eI34 hi32, hx1, encT, nb, j2, w4]
                intro _
                refine next_of (j + 1) ⟨by omega, all_step hd2 ho2 (by simpa using hy)⟩ (by omega) ?_
                simp [Weak, slotOk, fv, lk, AV.low, AV.low1, eT]
              · have j2 : 1000 < (x.length : Int) := by omega
                have h3 := all_stop hd2 ho2 (by simpa using hy)
                have := all_stop hd ho (by rw [show shortW 1000 i.wit = false from h3]; simp)
                simp [go_sem, hi1, eI34 hi32, hx1, encT, nb, j2]
                refine ⟨?_, fun h => by omega⟩
                exact post_same (by simp [AV.deep, AV.deep1]) (by rw [show shortI 30 1000 t.ins = false from this])
            · have hjl : j = i.wit.length := by omega
              subst hjl
              have h3 : shortW 1000 i.wit = true := all_done ho2
              have w4 := next_i64 (k := k) (by omega)
              simp [go_sem, w4]
              refine next_of (k + 1) ⟨by omega, all_step hd ho (by rw [h3]; simpa using hx)⟩ (by omega) ?_
              simp [Weak, slotOk, fv, lk, AV.low, AV.low1, eT]
          · have j1 : 30 < (i.wit.length : Int) := by omega
            have := all_stop hd ho (by simp; omega)
            simp [go_sem, hi1, eI34 hi32, j1]
            exact post_same (by simp [AV.deep, AV.deep1]) (by rw [show shortI 30 1000 t.ins = false from this])
        · have hkl : k = t.ins.length := by omega
          subst hkl
          have hI : shortI 30 1000 t.ins = true := all_done ho
          simp [go_sem]
          exact post_same (by simp [AV.deep, AV.deep1]) (by rw [hI])
    · have i1 : ¬ 20 < (t.ins.length : Int) := by omega
      have i2 : 20 < (t.outs.length : Int) := by omega
      simp [go_sem, eT, i1, i2]
      exact post_same (by simp [AV.deep, AV.deep1]) (by simp [within, h2])
  · have i1 : 20 < (t.ins.length : Int) := by omega
    simp [go_sem, eT, i1]
    exact post_same (by simp [AV.deep, AV.deep1]) (by simp [within, h1])

theorem long_fn (x : List Nat) : Rets Tryz.prog 79 [.d (nb x)] (fun r => r = .d (.bool (decide (1000 < x.length)))) := by
  refine fn_of_awp Tryz.func79 (by kernel_rfl) rfl Tryz.ntmps79 (rs := [.tmp 2]) rfl (Nat.le_of_ble_eq_true rfl) (by simp [AV.deep, AV.deep1]) ?_
  simp [go_sem, nb]
  refine post_same (by simp [AV.deep, AV.deep1]) ?_
  have : ((1000 : Int) < (x.length : Int)) ↔ 1000 < x.length := by omega
  simp [this]
set_option maxHeartbeats 1000000 in
theorem indexW_fn (xs : List (List Nat)) (hl : xs.length ≤ 1000000000) : Rets Tryz.prog 110 [.d (.ro 1 (xs.map encT)), .fn 79 []] (fun r => ∃ n : Int, r = .d (.int .i64 n) ∧ decide (0 ≤ n) = !shortW 1000 xs) := by
  refine fn_of_awp Tryz.func110 (by kernel_rfl) rfl Tryz.ntmps110 (rs := [.tmp 4]) rfl (Nat.le_of_ble_eq_true rfl) (by simp [AV.deep, AV.deep1]) ?_
  simp [go_sem]
  refine loop_of (fun k : Nat => ⟨[(0, .d (.ro 1 (xs.map encT))), (1, .fn 79 []), (7, .d (.int .i64 (xs.length : Int))), (8, .d (.int .i64 (k : Int)))], [], 1000⟩)
    (fun k => k ≤ xs.length ∧ shortW 1000 (xs.drop k) = shortW 1000 xs) (fun k => xs.length - k) 0 ⟨by omega, rfl⟩ (by
      simp [Weak, slotOk, fv, lk, AV.low, AV.low1]) ?_
  rintro k ⟨hk, ho⟩
  simp only [go_sem, Nat.reduceEqDiff, Nat.reduceAdd, Nat.reduceLT, ↓reduceIte, Nat.reduceMul]
  refine ⟨fun h => ?_, fun h => ?_⟩
  · obtain ⟨x, hx1, hd⟩ := drop_of (l := xs) (k := k) (by omega)
    have w3 := next_i64 (k := k) (by omega)
    simp [go_sem, hx1, encT]
    refine cl_eq (long_fn x) (by simp [AV.deep, AV.deep1]) ?_
    by_cases hx : x.length ≤ 1000
    · have j1 : ¬ 1000 < x.length := by omega
      simp [go_sem, j1, w3]
      refine next_of (k + 1) ⟨by omega, all_step hd ho (by simpa using hx)⟩ (by omega) ?_
      simp [Weak, slotOk, fv, lk, AV.low, AV.low1]
    · have j1 : 1000 < x.length := by omega
      have := all_stop hd ho (by simpa using hx)
      simp [go_sem, j1]
      exact post_same (by simp [AV.deep, AV.deep1]) ⟨_, rfl, by rw [show shortW 1000 xs = false from this]; simp⟩
  · have hkl : k = xs.length := by omega
    subst hkl
    have hI : shortW 1000 xs = true := all_done ho
    simp [go_sem]
    exact post_same (by simp [AV.deep, AV.deep1]) ⟨_, rfl, by rw [hI]; rfl⟩
theorem containsW_fn (xs : List (List Nat)) (hl : xs.length ≤ 1000000000) : Rets Tryz.prog 80 [.d (.ro 1 (xs.map encT)), .fn 79 []] (fun r => r = .d (.bool (!shortW 1000 xs))) := by
  refine fn_of_awp Tryz.func80 (by kernel_rfl) rfl Tryz.ntmps80 (rs := [.tmp 4]) rfl (Nat.le_of_ble_eq_true rfl) (by simp [AV.deep, AV.deep1]) ?_
  simp [go_sem]
  refine cl_fn (indexW_fn xs hl) (by simp [AV.deep, AV.deep1]) ?_
  rintro r ⟨n, rfl, hn⟩
  rw [← hn]
  simp [go_sem]
  exact post_same (by simp [AV.deep, AV.deep1]) rfl

end Go.Proofs.YtpnbpojpcbnejaaGreat

/-
  A transaction's bytes, by the program and by the other text.
-/
namespace Go.Sha
def bytesB (x : List Nat) : List Nat := putSize x.length ++ x
def bytesL (xs : List (List Nat)) : List Nat := (xs.map bytesB).flatten
def listB (xs : List (List Nat)) : List Nat := putSize xs.length ++ bytesL xs
def inB (i : Ip) : List Nat := i.hash ++ (le i.idx 4 ++ le i.seq 4)
def insB (l : List Ip) : List Nat := (l.map inB).flatten
def payB (o : Nat × List Nat) : List Nat := le o.1 8 ++ bytesB o.2
def paysB (l : List (Nat × List Nat)) : List Nat := (l.map payB).flatten
def bareB (t : Tn) : List Nat := le t.ver 4 ++ (putSize t.ins.length ++ (insB t.ins ++ (putSize t.outs.length ++ (paysB t.outs ++ le t.lock 4))))
def witsB (l : List Ip) : List Nat := (l.map fun i => listB i.wit).flatten
def wholeB (t : Tn) : List Nat := bareB t ++ witsB t.ins
/-- Small things. -/
def SmW (xs : List (List Nat)) : Prop := xs.length ≤ 6 ∧ ∀ x, x ∈ xs → x.length ≤ 600
theorem bytesB_len (x : List Nat) : (bytesB x).length ≤ 5 + x.length := by
  have := putSize_len x.length
  unfold bytesB
  rw [List.length_append]; omega
theorem bytesL_len : ∀ (xs : List (List Nat)), (∀ x, x ∈ xs → x.length ≤ 600) → (bytesL xs).length ≤ 605 * xs.length
  | [], _ => by simp [bytesL]
  | x :: r, h => by
    have ih := bytesL_len r fun y hy => h y (List.mem_cons_of_mem _ hy)
    have hx := h x (List.mem_cons_self ..)
    have h1 := bytesB_len x
    have e : (bytesL (x :: r)).length = (bytesB x).length + (bytesL r).length := by simp [bytesL]
    rw [e, List.length_cons]; omega
theorem listB_len {xs : List (List Nat)} (h : SmW xs) : (listB xs).length ≤ 3635 := by
  have h1 := bytesL_len xs h.2
  have h2 := putSize_len xs.length
  have h3 := h.1
  unfold listB
  rw [List.length_append]; omega
end Go.Sha
namespace Go.Proofs.YtpnbpojpcbnejaaGreat
open Go.Am Go.Sha
set_option linter.unusedSimpArgs false
set_option linter.unusedVariables false

theorem lay64_own (b : List Nat) (x n : Nat) (hb : b.length ≤ 1000000) (hx : x < 18446744073709551616) (hn : n ≤ 8) : RetsE Tryz.prog 120 0 [] [.d (nb b), .d (.int .u64 (x : Int)), .d (.int .i64 (n : Int))] (OwnB (b ++ le x n)) := by
  refine fnE_of_awp Tryz.func120 (by kernel_rfl) rfl Tryz.ntmps120 (rs := [.tmp 6]) rfl (Nat.le_of_ble_eq_true rfl) (by decide) ?_
  have w1 : IntKind.i64.wrap ((b.length : Int) + (n : Int)) = ((b.length + n : Nat) : Int) := by rw [IntWalk.i64_in _ (by omega)]; omega
  have hr : List.replicate b.length [AV.d (.int .u8 0)] = rb (List.replicate b.length 0) := by simp [rb]
  simp only [go_sem, Nat.reduceEqDiff, Nat.reduceAdd, Nat.reduceLT, ↓reduceIte, Nat.reduceMul, w1, nb, List.length_map, Int.toNat_natCast, hr]
  simp [go_sem, rb_of, rb_len]
  rw [cat_rb]
  refine ⟨by omega, by omega, by omega, by omega, ?_⟩
  refine loop_of (fun k : Nat => ⟨[(7, .own 225 0 (b ++ le x k).length (b ++ le x k).length), (8, .d (.int .u64 ((r32 (8 * k) x : Nat) : Int))), (20, .d (.int .i64 (n : Int))), (21, .d (.int .i64 (k : Int)))], [(225, ⟨5, 1, rb (b ++ le x k)⟩)], 545⟩)
    (fun k => k ≤ n) (fun k => n - k) 0 (by omega) (by
      simp [Weak, slotOk, fv, lk, AV.low, AV.low1, le, r32]
      exact rb_low _ _) ?_
  intro k hk
  have hl : (b ++ le x k).length = b.length + k := by rw [List.length_append, le_len]
  have hs : rb (b ++ le x k) ++ [[AV.d (.int .u8 ((t8 (r32 (8 * k) x) : Nat) : Int))]] = rb (b ++ le x (k + 1)) := by rw [rb_snoc, List.append_assoc]; rfl
  have w5 := next_i64 (k := k) (by omega)
  simp only [go_sem, Nat.reduceEqDiff, Nat.reduceAdd, Nat.reduceLT, ↓reduceIte]
  refine ⟨fun h => ?_, fun h => ?_⟩
  · simp [go_sem, w8_nat, rb_len, hs, le_len, IntKind.bits, d_r8, r32_8, w5]
    refine ⟨by omega, ?_⟩
    refine next_of (k + 1) (by omega) (by omega) ?_
    simp [Weak, slotOk, fv, lk, AV.low, AV.low1, le_len]
    exact ⟨by omega, rb_low _ _⟩
  · have hkn : k = n := by omega
    subst hkn
    exact ⟨225, by rw [List.length_append], rfl⟩

theorem put32_own (b : List Nat) (x : Nat) (hb : b.length ≤ 1000000) (hx : x < 4294967296) : RetsE Tryz.prog 55 0 [] [.d (nb b), .d (.int .u32 (x : Int))] (OwnB (b ++ le x 4)) := by
  refine fnE_of_awp Tryz.func55 (by kernel_rfl) rfl Tryz.ntmps55 (rs := [.tmp 4]) rfl (Nat.le_of_ble_eq_true rfl) (by decide) ?_
  simp [go_sem]
  refine cl_eff [] (lay32_own b x 4 hb hx (by omega)) rfl (by simp) (by simp) (by simp) (by simp [AV.renL, AV.ren]) ?_
  rintro r hp' ⟨rfl, h0⟩
  refine ⟨[(225, 0)], rfl, ?_⟩
  simp [go_sem, outH, outP, h0, Blk.ren, renR, rb_ren, AV.renL, AV.ren, rho, resV, OwnB]
theorem put64_own (b : List Nat) (x : Nat) (hb : b.length ≤ 1000000) (hx : x < 18446744073709551616) : RetsE Tryz.prog 87 0 [] [.d (nb b), .d (.int .u64 (x : Int))] (OwnB (b ++ le x 8)) := by
  refine fnE_of_awp Tryz.func87 (by kernel_rfl) rfl Tryz.ntmps87 (rs := [.tmp 4]) rfl (Nat.le_of_ble_eq_true rfl) (by decide) ?_
  simp [go_sem]
  refine cl_eff [] (lay64_own b x 8 hb hx (by omega)) rfl (by simp) (by simp) (by simp) (by simp [AV.renL, AV.ren]) ?_
  rintro r hp' ⟨I, rfl, h0⟩
  refine ⟨[(I, 0)], by simp [newsB, prsB], ?_⟩
  simp [go_sem, outH, outP, h0, Blk.ren, renR, rb_ren, AV.renL, AV.ren, rho, resV, OwnB]
theorem put32_fn (b : List Nat) (x : Nat) (hb : b.length ≤ 1000000) (hx : x < 4294967296) : Rets Tryz.prog 55 [.d (nb b), .d (.int .u32 (x : Int))] (fun r => r = .d (nb (b ++ le x 4))) := own_deep (put32_own b x hb hx) (by simp [AV.deep, AV.deep1])
theorem put64_fn (b : List Nat) (x : Nat) (hb : b.length ≤ 1000000) (hx : x < 18446744073709551616) : Rets Tryz.prog 87 [.d (nb b), .d (.int .u64 (x : Int))] (fun r => r = .d (nb (b ++ le x 8))) := own_deep (put64_own b x hb hx) (by simp [AV.deep, AV.deep1])
theorem putSize_fn (b : List Nat) (n : Nat) (hb : b.length ≤ 100000) (hn : n < 4294967296) : Rets Tryz.prog 86 [.d (nb b), .d (.int .u64 (n : Int))] (fun r => r = .d (nb (b ++ putSize n))) := own_deep (putSize_own b n hb hn) (by simp [AV.deep, AV.deep1])
theorem putSizeR_fn (b : List Nat) (n : Nat) (hb : b.length ≤ 1000000) (hn : n < 4294967296) : Rets Tryz.prog 174 [.d (nb b), .d (.int .u64 (n : Int))] (fun r => r = .d (nb (b ++ putSize n))) := own_deep (putSizeR_own b n hb hn) (by simp [AV.deep, AV.deep1])

def tailB {α : Type} (f : α → List Nat) (l : List α) (k : Nat) : List Nat := ((l.drop k).map f).flatten
theorem rest_step {α : Type} {f : α → List Nat} {l : List α} {k : Nat} {x : α} {B R : List Nat} (hd : l.drop k = x :: l.drop (k + 1)) (h : B ++ tailB f l k = R) : (B ++ f x) ++ tailB f l (k + 1) = R := by
  unfold tailB at *
  rw [hd, List.map_cons, List.flatten_cons, ← List.append_assoc] at h
  exact h
theorem rest_done {α : Type} {f : α → List Nat} {l : List α} {B R : List Nat} (h : B ++ tailB f l l.length = R) : B = R := by
  unfold tailB at h
  rw [List.drop_length] at h
  simpa using h

set_option maxHeartbeats 2000000 in
theorem putList_fn (b : List Nat) (xs : List (List Nat)) (hb : b.length ≤ 50000) (hx : SmW xs) : Rets Tryz.prog 81 [.d (nb b), .d (.ro 1 (xs.map encT))] (fun r => r = .d (nb (b ++ listB xs))) := by
  refine fn_of_awp Tryz.func81 (by kernel_rfl) rfl Tryz.ntmps81 (rs := [.tmp 4]) rfl (Nat.le_of_ble_eq_true rfl) (by simp [AV.deep, AV.deep1]) ?_
  obtain ⟨hl, hx⟩ := hx
  have hp5 := putSize_len xs.length
  have w : IntKind.u64.wrap (xs.length : Int) = (xs.length : Int) := by rw [u64w]; omega
  have hR0 : (b ++ putSize xs.length) ++ tailB bytesB xs 0 = b ++ listB xs := by rw [List.append_assoc]; rfl
  generalize b ++ listB xs = R at *
  simp [go_sem, w]
  refine cl_eq (putSize_fn b xs.length (by omega) (by omega)) (by simp [AV.deep, AV.deep1]) ?_
  have hB0 : (b ++ putSize xs.length).length ≤ 50005 := by rw [List.length_append]; omega
  generalize b ++ putSize xs.length = B0 at *
  simp [go_sem]
  refine loop_of (fun t : Nat × List Nat => ⟨[(5, .d (nb t.2)), (13, .d (.ro 1 (xs.map encT))), (14, .d (.int .i64 (xs.length : Int))), (15, .d (.int .i64 (t.1 : Int)))], [], 1000⟩)
    (fun t => t.1 ≤ xs.length ∧ t.2.length ≤ 50005 + 605 * t.1 ∧ t.2 ++ tailB bytesB xs t.1 = R) (fun t => xs.length - t.1) (0, B0) ⟨by simp, by simp; omega, hR0⟩ (by
      simp [Weak, slotOk, fv, lk, AV.low, AV.low1, nb]) ?_
  rintro ⟨k, B⟩ ⟨hk, hBl, hR⟩
  simp only at hk hBl hR
  simp only [go_sem, Nat.reduceEqDiff, Nat.reduceAdd, Nat.reduceLT, ↓reduceIte, Nat.reduceMul]
  refine ⟨fun h => ?_, fun h => ?_⟩
  · obtain ⟨x, hx1, hd⟩ := drop_of (l := xs) (k := k) (by omega)
    have hxl := hx x (List.mem_of_getElem? hx1)
    have w3 := next_i64 (k := k) (by omega)
    have hbl := bytesB_len x
    simp [go_sem, hx1, encT]
    refine cl_eq (putBytes_fn B x (by omega) (by omega)) (by simp [AV.deep, AV.deep1]) ?_
    simp [go_sem, w3]
    refine next_of (k + 1, B ++ bytesB x) ⟨by simp only; omega, by simp only [List.length_append]; omega, rest_step hd hR⟩ (by simp only; omega) ?_
    simp [Weak, slotOk, fv, lk, AV.low, AV.low1, nb, bytesB]
  · have hkl : k = xs.length := by omega
    subst hkl
    have := rest_done hR
    subst this
    simp [go_sem]
    exact post_same (by simp [AV.deep, AV.deep1]) rfl

set_option maxHeartbeats 2000000 in
theorem putListR_fn (b : List Nat) (xs : List (List Nat)) (hb : b.length ≤ 50000) (hx : SmW xs) : Rets Tryz.prog 211 [.d (nb b), .d (.ro 1 (xs.map encT))] (fun r => r = .d (nb (b ++ listB xs))) := by
  refine fn_of_awp Tryz.func211 (by kernel_rfl) rfl Tryz.ntmps211 (rs := [.tmp 4]) rfl (Nat.le_of_ble_eq_true rfl) (by simp [AV.deep, AV.deep1]) ?_
  obtain ⟨hl, hx⟩ := hx
  have hp5 := putSize_len xs.length
  have w : IntKind.u64.wrap (xs.length : Int) = (xs.length : Int) := by rw [u64w]; omega
  have hR0 : (b ++ putSize xs.length) ++ tailB bytesB xs 0 = b ++ listB xs := by rw [List.append_assoc]; rfl
  generalize b ++ listB xs = R at *
  simp [go_sem, w]
  refine cl_eq (putSizeR_fn b xs.length (by omega) (by omega)) (by simp [AV.deep, AV.deep1]) ?_
  have hB0 : (b ++ putSize xs.length).length ≤ 50005 := by rw [List.length_append]; omega
  generalize b ++ putSize xs.length = B0 at *
  simp [go_sem]
  refine loop_of (fun t : Nat × List Nat => ⟨[(1, .d (.ro 1 (xs.map encT))), (5, .d (nb t.2)), (6, .d (.int .i64 (t.1 : Int)))], [], 1000⟩)
    (fun t => t.1 ≤ xs.length ∧ t.2.length ≤ 50005 + 605 * t.1 ∧ t.2 ++ tailB bytesB xs t.1 = R) (fun t => xs.length - t.1) (0, B0) ⟨by simp, by simp; omega, hR0⟩ (by
      simp [Weak, slotOk, fv, lk, AV.low, AV.low1, nb]) ?_
  rintro ⟨k, B⟩ ⟨hk, hBl, hR⟩
  simp only at hk hBl hR
  simp only [go_sem, Nat.reduceEqDiff, Nat.reduceAdd, Nat.reduceLT, ↓reduceIte, Nat.reduceMul]
  refine ⟨fun h => ?_, fun h => ?_⟩
  · obtain ⟨x, hx1, hd⟩ := drop_of (l := xs) (k := k) (by omega)
    have hxl := hx x (List.mem_of_getElem? hx1)
    have w3 := next_i64 (k := k) (by omega)
    have hbl := bytesB_len x
    simp [go_sem, hx1, encT]
    refine cl_eq (putBytesR_fn B x (by omega) (by omega)) (by simp [AV.deep, AV.deep1]) ?_
    simp [go_sem, w3]
    refine next_of (k + 1, B ++ bytesB x) ⟨by simp only; omega, by simp only [List.length_append]; omega, rest_step hd hR⟩ (by simp only; omega) ?_
    simp [Weak, slotOk, fv, lk, AV.low, AV.low1, nb, bytesB]
  · have hkl : k = xs.length := by omega
    subst hkl
    have := rest_done hR
    subst this
    simp [go_sem]
    exact post_same (by simp [AV.deep, AV.deep1]) rfl
end Go.Proofs.YtpnbpojpcbnejaaGreat

/-
  A transaction's bytes: bare, whole; by the program and by the other text.
-/
namespace Go.Sha
theorem inB_len {i : Ip} (h : i.hash.length = 32) : (inB i).length = 40 := by simp [inB, h, le_len]
theorem payB_len (o : Nat × List Nat) : (payB o).length ≤ 13 + o.2.length := by
  have := bytesB_len o.2
  unfold payB
  rw [List.length_append, le_len]; omega
/-- A small transaction. -/
def Sm (t : Tn) : Prop := t.ok ∧ t.ins.length ≤ 6 ∧ t.outs.length ≤ 6 ∧ (∀ o, o ∈ t.outs → o.2.length ≤ 600) ∧ ∀ i, i ∈ t.ins → SmW i.wit
theorem sm_of {t : Tn} (h : t.ok) (hw : within 6 6 600 t = true) : Sm t := by
  simp only [within, Bool.and_eq_true, decide_eq_true_eq, shortO, shortI, shortW, List.all_eq_true] at hw
  obtain ⟨h1, h2, h3, h4⟩ := hw
  exact ⟨h, h1, h2, h3, fun i hi => ⟨(h4 i hi).1, (h4 i hi).2⟩⟩
end Go.Sha
namespace Go.Proofs.YtpnbpojpcbnejaaGreat
open Go.Am Go.Sha
set_option linter.unusedSimpArgs false
set_option linter.unusedVariables false

def cIp (i : Ip) : List AV := cb i.hash ++ [.d (.int .u32 (i.idx : Int)), .d (.int .u32 (i.seq : Int)), .d (.ro 1 (i.wit.map encT))]
theorem eI_cI (i : Ip) : (eI i).map AV.d = cIp i := by simp [eI, cIp, cd_map]
theorem cIp_len {i : Ip} (h : i.hash.length = 32) : (cIp i).length = 35 := by simp [cIp, cb_len, h]
theorem cI32 {i : Ip} (h : i.hash.length = 32) : (cIp i)[32]? = some (.d (.int .u32 (i.idx : Int))) := by
  rw [cIp, List.getElem?_append_right (by rw [cb_len]; omega), cb_len, h]; rfl
theorem cI33 {i : Ip} (h : i.hash.length = 32) : (cIp i)[33]? = some (.d (.int .u32 (i.seq : Int))) := by
  rw [cIp, List.getElem?_append_right (by rw [cb_len]; omega), cb_len, h]; rfl
theorem cI34 {i : Ip} (h : i.hash.length = 32) : (cIp i)[34]? = some (.d (.ro 1 (i.wit.map encT))) := by
  rw [cIp, List.getElem?_append_right (by rw [cb_len]; omega), cb_len, h]; rfl
theorem cI32g {i : Ip} (h : i.hash.length = 32) (hl : 32 < (cIp i).length) : (cIp i)[32] = .d (.int .u32 (i.idx : Int)) := by
  have := cI32 h
  rw [List.getElem?_eq_getElem hl] at this
  exact Option.some.inj this
theorem cI33g {i : Ip} (h : i.hash.length = 32) (hl : 33 < (cIp i).length) : (cIp i)[33] = .d (.int .u32 (i.seq : Int)) := by
  have := cI33 h
  rw [List.getElem?_eq_getElem hl] at this
  exact Option.some.inj this
theorem cI34g {i : Ip} (h : i.hash.length = 32) (hl : 34 < (cIp i).length) : (cIp i)[34] = .d (.ro 1 (i.wit.map encT)) := by
  have := cI34 h
  rw [List.getElem?_eq_getElem hl] at this
  exact Option.some.inj this
theorem cIp_take {i : Ip} (h : i.hash.length = 32) : (cIp i).take 35 = cIp i := List.take_of_length_le (by rw [cIp_len h]; omega)
theorem cIp_low (n : Nat) (i : Ip) : ∀ v, v ∈ cIp i → v.low1 n := by
  intro v hv
  simp only [cIp, List.mem_append, List.mem_cons, List.mem_nil_iff, or_false] at hv
  rcases hv with hv | rfl | rfl | rfl
  · exact cb_low _ _ _ hv
  · trivial
  · trivial
  · trivial
theorem cIp_rows {i : Ip} (h : i.hash.length = 32) : (List.range 32).map (fun k => ((cIp i).drop k).take 1) = rb i.hash := by
  have h1 := arr_rows h
  rw [rb_of] at h1
  rw [← h1]
  apply List.map_congr_left
  intro k hk
  have hk := List.mem_range.1 hk
  unfold cIp
  rw [List.drop_append_of_le_length (by rw [cb_len]; omega), List.take_append_of_le_length (by rw [List.length_drop, cb_len]; omega)]
theorem zin : tzO Tryz.prog 69 = some (cb z32 ++ [.d (.int .u32 0), .d (.int .u32 0), .nil]) := by kernel_rfl
attribute [go_sem] zin
theorem zin_drop : List.drop 35 (cb z32 ++ [AV.d (.int .u32 0), AV.d (.int .u32 0), AV.nil]) = [] := rfl

set_option maxRecDepth 20000 in
set_option maxHeartbeats 4000000 in
theorem bare_fn (t : Tn) (ht : Sm t) : Rets Tryz.prog 50 [.agg (eT t)] (fun r => r = .d (nb (bareB t))) := by
  obtain ⟨⟨hv, hlk, hi, ho⟩, h1, h2, h3, h4⟩ := ht
  refine fn_of_awp Tryz.func50 (by kernel_rfl) rfl Tryz.ntmps50 (rs := [.tmp 2]) rfl (Nat.le_of_ble_eq_true rfl) (by simp [AV.deep, AV.deep1, eT]) ?_
  have w1 : IntKind.u64.wrap (t.ins.length : Int) = (t.ins.length : Int) := by rw [u64w]; omega
  have w2 : IntKind.u64.wrap (t.outs.length : Int) = (t.outs.length : Int) := by rw [u64w]; omega
  have hp1 := putSize_len t.ins.length
  have hp2 := putSize_len t.outs.length
  simp [go_sem, eT]
  refine cl_froz [] (put32_fn [] t.ver (by simp) hv) rfl (snap_cons (.one (snap1_d (.nil 1))) (snap_cons (.deep (by simp [AV.deep, AV.deep1])) snap_nil)) ?_
  simp [go_sem, dropH, w1]
  refine cl_eff [] (putSize_own (le t.ver 4) t.ins.length (by simp [le_len]) (by omega)) rfl (by simp) (by simp) (by simp) (by simp [AV.renL, AV.ren]) ?_
  rintro r hp' ⟨I, rfl, h0⟩
  refine ⟨[(I, 0)], by simp [newsB, prsB], ?_⟩
  have hB0 : (le t.ver 4 ++ putSize t.ins.length).length ≤ 9 := by rw [List.length_append, le_len]; omega
  have hR0 : (le t.ver 4 ++ putSize t.ins.length) ++ tailB inB t.ins 0 = le t.ver 4 ++ putSize t.ins.length ++ insB t.ins := rfl
  have hR9 : bareB t = (le t.ver 4 ++ putSize t.ins.length ++ insB t.ins) ++ (putSize t.outs.length ++ (paysB t.outs ++ le t.lock 4)) := by simp [bareB]
  rw [hR9]
  generalize le t.ver 4 ++ putSize t.ins.length ++ insB t.ins = R1 at *
  generalize le t.ver 4 ++ putSize t.ins.length = B0 at *
  simp [go_sem, outH, outP, h0, Blk.ren, renR, rb_ren, AV.renL, AV.ren, rho]
  refine loop_of (fun u : Nat × List Nat => ⟨[(1, .ptr 0 0 0 1), (3, .own 352 0 u.2.length u.2.length), (18, .d (.ro 35 (t.ins.map eI))), (19, .d (.int .i64 (t.ins.length : Int))), (20, .d (.int .i64 (u.1 : Int)))], [(352, ⟨5, 1, rb u.2⟩), (0, ⟨58, 4, [eT t]⟩)], 2000⟩)
    (fun u => u.1 ≤ t.ins.length ∧ u.2.length ≤ 9 + 40 * u.1 ∧ u.2 ++ tailB inB t.ins u.1 = R1) (fun u => t.ins.length - u.1) (0, B0) ⟨by simp, by simp; omega, hR0⟩ (by
      simp [Weak, slotOk, fv, lk, AV.low, AV.low1, eT]
      exact rb_low _ _) ?_
  rintro ⟨k, B⟩ ⟨hk, hBl, hR⟩
  simp only at hk hBl hR
  simp only [eT]
  simp only [go_sem, Nat.reduceEqDiff, Nat.reduceAdd, Nat.reduceLT, ↓reduceIte, Nat.reduceMul]
  refine ⟨fun h => ?_, fun h => ?_⟩
  · obtain ⟨i, hi1, hd⟩ := drop_of (l := t.ins) (k := k) (by omega)
    obtain ⟨hi32, hidx, hseq⟩ := hi i (List.mem_of_getElem? hi1)
    have w3 := next_i64 (k := k) (by omega)
    have hil := inB_len hi32
    have hel := eI_len hi32
    have hcl := cIp_len hi32
    have hx := cIp_rows hi32
    simp [go_sem] at hx
    simp [go_sem, hi1, hel, eI_cI, hcl, cIp_take hi32, zin_drop, hx, rb_len, cI32g hi32, rb_app]
    refine ⟨by omega, ?_⟩
    have hBh : (B ++ i.hash).length = B.length + 32 := by rw [List.length_append, hi32]
    refine cl_effz [352] (put32_own (B ++ i.hash) i.idx (by omega) hidx) rfl (snap_cons (.one (snap1_d (snap_full hBh rfl (by simp)))) (snap_cons (.deep (by simp [AV.deep, AV.deep1])) snap_nil)) (fun ρ => by simp [AV.renL, AV.ren]) ?_
    rintro r hp' ⟨I, rfl, h0⟩
    refine ⟨[(I, 0)], by simp [newsB, prsB], ?_⟩
    have hB1 : (B ++ i.hash ++ le i.idx 4).length = B.length + 36 := by rw [List.length_append, hBh, le_len]
    have hB3 : B ++ inB i = B ++ i.hash ++ le i.idx 4 ++ le i.seq 4 := by simp [inB]
    generalize B ++ i.hash ++ le i.idx 4 = B1 at *
    simp [go_sem, outH, outP, h0, Blk.ren, renR, rb_ren, AV.renL, AV.ren, rho, dropH, hcl, cI33g hi32]
    refine cl_effz [2480] (put32_own B1 i.seq (by omega) hseq) rfl (snap_cons (.one (snap1_d (snap_full rfl rfl (by simp)))) (snap_cons (.deep (by simp [AV.deep, AV.deep1])) snap_nil)) (fun ρ => by simp [AV.renL, AV.ren]) ?_
    rintro r hp'' ⟨J, rfl, h0'⟩
    refine ⟨[(J, 0)], by simp [newsB, prsB], ?_⟩
    have hB2 : (B1 ++ le i.seq 4).length = B1.length + 4 := by rw [List.length_append, le_len]
    rw [← hB3] at h0' hB2 ⊢
    generalize hB4 : B ++ inB i = B2 at *
    simp [go_sem, outH, outP, h0', Blk.ren, renR, rb_ren, AV.renL, AV.ren, rho, dropH, w3]
    refine nextR_of (k + 1, B2) ⟨by simp only; omega, by simp only; omega, by rw [← hB4]; exact rest_step hd hR⟩ (by simp only; omega) [(0, 0), (2640, 352)] 9000 (by decide) (by decide) (by decide) (by decide) ?_
    simp [renF, renH, rho, AV.ren, Blk.ren, renR, rb_ren, Weak, slotOk, fv, lk, AV.low, AV.low1, AV.renL, eT]
    exact rb_low _ _
  · have hkl : k = t.ins.length := by omega
    subst hkl
    have := rest_done hR
    subst this
    clear hR hR0 h hk
    have hR0 : (B ++ putSize t.outs.length) ++ tailB payB t.outs 0 = B ++ putSize t.outs.length ++ paysB t.outs := rfl
    have hR9 : B ++ (putSize t.outs.length ++ (paysB t.outs ++ le t.lock 4)) = (B ++ putSize t.outs.length ++ paysB t.outs) ++ le t.lock 4 := by simp
    rw [hR9]
    simp [go_sem, w2]
    refine cl_froz [352] (putSize_fn B t.outs.length (by omega) (by omega)) rfl (snap_cons (.one (snap1_d (snap_full rfl rfl (by simp)))) (snap_cons (.deep (by simp [AV.deep, AV.deep1])) snap_nil)) ?_
    have hB0' : (B ++ putSize t.outs.length).length ≤ 300 := by rw [List.length_append]; omega
    generalize B ++ putSize t.outs.length ++ paysB t.outs = R2 at *
    generalize B ++ putSize t.outs.length = B1 at *
    simp [go_sem, dropH]
    refine loop_of (fun u : Nat × List Nat => ⟨[(1, .ptr 0 0 0 1), (3, .d (nb u.2)), (46, .d (.ro 2 (t.outs.map eO))), (47, .d (.int .i64 (t.outs.length : Int))), (48, .d (.int .i64 (u.1 : Int)))], [(0, ⟨58, 4, [eT t]⟩)], 9000⟩)
      (fun u => u.1 ≤ t.outs.length ∧ u.2.length ≤ 300 + 613 * u.1 ∧ u.2 ++ tailB payB t.outs u.1 = R2) (fun u => t.outs.length - u.1) (0, B1) ⟨by simp, by simp; omega, hR0⟩ (by
        simp [Weak, slotOk, fv, lk, AV.low, AV.low1, eT]) ?_
    rintro ⟨k, B'⟩ ⟨hk, hBl', hR⟩
    simp only at hk hBl' hR
    simp only [eT]
    simp only [go_sem, Nat.reduceEqDiff, Nat.reduceAdd, Nat.reduceLT, ↓reduceIte, Nat.reduceMul]
    refine ⟨fun h => ?_, fun h => ?_⟩
    · obtain ⟨o, ho1, hd⟩ := drop_of (l := t.outs) (k := k) (by omega)
      have ho64 := ho o (List.mem_of_getElem? ho1)
      have hol := h3 o (List.mem_of_getElem? ho1)
      have w3 := next_i64 (k := k) (by omega)
      have hoB := payB_len o
      simp [go_sem, ho1, eO]
      refine cl_eq (put64_fn B' o.1 (by omega) ho64) (by simp [AV.deep, AV.deep1]) ?_
      simp [go_sem]
      have hl8 : (B' ++ le o.1 8).length = B'.length + 8 := by rw [List.length_append, le_len]
      have hB3 : B' ++ payB o = B' ++ le o.1 8 ++ (putSize o.2.length ++ o.2) := by simp [payB, bytesB]
      refine cl_eq (putBytes_fn (B' ++ le o.1 8) o.2 (by omega) (by omega)) (by simp [AV.deep, AV.deep1]) ?_
      rw [← hB3]
      have hB4l : (B' ++ payB o).length = B'.length + (payB o).length := List.length_append
      simp [go_sem, w3]
      refine next_of (k + 1, B' ++ payB o) ⟨by simp only; omega, by simp only; omega, rest_step hd hR⟩ (by simp only; omega) ?_
      simp [Weak, slotOk, fv, lk, AV.low, AV.low1, eT]
    · have hkl : k = t.outs.length := by omega
      subst hkl
      have := rest_done hR
      subst this
      simp [go_sem]
      refine cl_eq (put32_fn B' t.lock (by omega) hlk) (by simp [AV.deep, AV.deep1]) ?_
      simp [go_sem]
      exact post_same (by simp [AV.deep, AV.deep1]) (by rw [hR9])
end Go.Proofs.YtpnbpojpcbnejaaGreat

/-
  A transaction's bytes by the other text; whole bytes; whether a transaction may be.
-/
namespace Go.Proofs.YtpnbpojpcbnejaaGreat
open Go.Am Go.Sha
set_option linter.unusedSimpArgs false
set_option linter.unusedVariables false

theorem eI_rows {i : Ip} (h : i.hash.length = 32) : ((eI i).take 32).map (fun c => [c]) = i.hash.map fun (b : Nat) => [DV.int .u8 (b : Int)] := by
  unfold eI
  rw [List.take_append_of_le_length (by rw [cd_len]; omega), List.take_of_length_le (by rw [cd_len]; omega)]
  simp [cd]

set_option maxRecDepth 20000 in
set_option maxHeartbeats 4000000 in
theorem bareR_fn (t : Tn) (ht : Sm t) : Rets Tryz.prog 136 [.agg (eT t)] (fun r => r = .d (nb (bareB t))) := by
  obtain ⟨⟨hv, hlk, hi, ho⟩, h1, h2, h3, h4⟩ := ht
  refine fn_of_awp Tryz.func136 (by kernel_rfl) rfl Tryz.ntmps136 (rs := [.tmp 2]) rfl (Nat.le_of_ble_eq_true rfl) (by simp [AV.deep, AV.deep1, eT]) ?_
  have w1 : IntKind.u64.wrap (t.ins.length : Int) = (t.ins.length : Int) := by rw [u64w]; omega
  have w2 : IntKind.u64.wrap (t.outs.length : Int) = (t.outs.length : Int) := by rw [u64w]; omega
  have wv : IntKind.u64.wrap (t.ver : Int) = (t.ver : Int) := by rw [u64w]; omega
  have wl : IntKind.u64.wrap (t.lock : Int) = (t.lock : Int) := by rw [u64w]; omega
  have hp1 := putSize_len t.ins.length
  have hp2 := putSize_len t.outs.length
  simp [go_sem, eT, wv]
  refine cl_froz [] (putR_fn [] t.ver 4 4 rfl (by simp) (by omega) (by omega)) rfl (snap_cons (.one (snap1_d (.nil 1))) (snap_cons (.deep (by simp [AV.deep, AV.deep1])) (snap_cons (.deep (by simp [AV.deep, AV.deep1])) snap_nil))) ?_
  simp [go_sem, dropH, w1]
  refine cl_eff [] (putSizeR_own (le t.ver 4) t.ins.length (by simp [le_len]) (by omega)) rfl (by simp) (by simp) (by simp) (by simp [AV.renL, AV.ren]) ?_
  rintro r hp' ⟨I, rfl, h0⟩
  refine ⟨[(I, 0)], by simp [newsB, prsB], ?_⟩
  have hB0 : (le t.ver 4 ++ putSize t.ins.length).length ≤ 9 := by rw [List.length_append, le_len]; omega
  have hR0 : (le t.ver 4 ++ putSize t.ins.length) ++ tailB inB t.ins 0 = le t.ver 4 ++ putSize t.ins.length ++ insB t.ins := rfl
  have hR9 : bareB t = (le t.ver 4 ++ putSize t.ins.length ++ insB t.ins) ++ (putSize t.outs.length ++ (paysB t.outs ++ le t.lock 4)) := by simp [bareB]
  rw [hR9]
  generalize le t.ver 4 ++ putSize t.ins.length ++ insB t.ins = R1 at *
  generalize le t.ver 4 ++ putSize t.ins.length = B0 at *
  simp [go_sem, outH, outP, h0, Blk.ren, renR, rb_ren, AV.renL, AV.ren, rho]
  refine loop_of (fun u : Nat × List Nat => ⟨[(1, .ptr 0 0 0 1), (3, .own 384 0 u.2.length u.2.length), (4, .d (.int .i64 (u.1 : Int)))], [(384, ⟨5, 1, rb u.2⟩), (0, ⟨58, 4, [eT t]⟩)], 2000⟩)
    (fun u => u.1 ≤ t.ins.length ∧ u.2.length ≤ 9 + 40 * u.1 ∧ u.2 ++ tailB inB t.ins u.1 = R1) (fun u => t.ins.length - u.1) (0, B0) ⟨by simp, by simp; omega, hR0⟩ (by
      simp [Weak, slotOk, fv, lk, AV.low, AV.low1, eT]
      exact rb_low _ _) ?_
  rintro ⟨k, B⟩ ⟨hk, hBl, hR⟩
  simp only at hk hBl hR
  simp only [eT]
  simp only [go_sem, Nat.reduceEqDiff, Nat.reduceAdd, Nat.reduceLT, ↓reduceIte, Nat.reduceMul]
  refine ⟨fun h => ?_, fun h => ?_⟩
  · obtain ⟨i, hi1, hd⟩ := drop_of (l := t.ins) (k := k) (by omega)
    obtain ⟨hi32, hidx, hseq⟩ := hi i (List.mem_of_getElem? hi1)
    have w3 := next_i64 (k := k) (by omega)
    have hil := inB_len hi32
    have hel := eI_len hi32
    have wx : IntKind.u64.wrap (i.idx : Int) = (i.idx : Int) := by rw [u64w]; omega
    have ws : IntKind.u64.wrap (i.seq : Int) = (i.seq : Int) := by rw [u64w]; omega
    have her := eI_rows hi32
    simp [go_sem, hi1, hel, her, eI32 hi32, eI33 hi32, rb_of, rb_len, rb_app, wx, hi32]
    refine ⟨by omega, ?_⟩
    have hBh : (B ++ i.hash).length = B.length + 32 := by rw [List.length_append, hi32]
    refine cl_effz [384] (putR_own (B ++ i.hash) i.idx 4 4 rfl (by omega) (by omega) (by omega)) rfl (snap_cons (.one (snap1_d (snap_full hBh rfl (by simp)))) (snap_cons (.deep (by simp [AV.deep, AV.deep1])) (snap_cons (.deep (by simp [AV.deep, AV.deep1])) snap_nil))) (fun ρ => by simp [AV.renL, AV.ren]) ?_
    rintro r hp' ⟨rfl, h0⟩
    refine ⟨[(33, 0)], by simp [newsB, prsB], ?_⟩
    have hB1 : (B ++ i.hash ++ le i.idx 4).length = B.length + 36 := by rw [List.length_append, hBh, le_len]
    have hB3 : B ++ inB i = B ++ i.hash ++ le i.idx 4 ++ le i.seq 4 := by simp [inB]
    generalize B ++ i.hash ++ le i.idx 4 = B1 at *
    simp [go_sem, outH, outP, h0, Blk.ren, renR, rb_ren, AV.renL, AV.ren, rho, dropH, hi1, eI33 hi32, ws]
    refine cl_effz [2768] (putR_own B1 i.seq 4 4 rfl (by omega) (by omega) (by omega)) rfl (snap_cons (.one (snap1_d (snap_full rfl rfl (by simp)))) (snap_cons (.deep (by simp [AV.deep, AV.deep1])) (snap_cons (.deep (by simp [AV.deep, AV.deep1])) snap_nil))) (fun ρ => by simp [AV.renL, AV.ren]) ?_
    rintro r hp'' ⟨rfl, h0'⟩
    refine ⟨[(33, 0)], by simp [newsB, prsB], ?_⟩
    have hB2 : (B1 ++ le i.seq 4).length = B1.length + 4 := by rw [List.length_append, le_len]
    rw [← hB3] at h0' hB2 ⊢
    generalize hB4 : B ++ inB i = B2 at *
    simp [go_sem, outH, outP, h0', Blk.ren, renR, rb_ren, AV.renL, AV.ren, rho, dropH, w3]
    refine nextR_of (k + 1, B2) ⟨by simp only; omega, by simp only; omega, by rw [← hB4]; exact rest_step hd hR⟩ (by simp only; omega) [(0, 0), (3088, 384)] 9000 (by decide) (by decide) (by decide) (by decide) ?_
    simp [renF, renH, rho, AV.ren, Blk.ren, renR, rb_ren, Weak, slotOk, fv, lk, AV.low, AV.low1, AV.renL, eT]
    exact rb_low _ _
  · have hkl : k = t.ins.length := by omega
    subst hkl
    have := rest_done hR
    subst this
    clear hR hR0 h hk
    have hR0 : (B ++ putSize t.outs.length) ++ tailB payB t.outs 0 = B ++ putSize t.outs.length ++ paysB t.outs := rfl
    have hR9 : B ++ (putSize t.outs.length ++ (paysB t.outs ++ le t.lock 4)) = (B ++ putSize t.outs.length ++ paysB t.outs) ++ le t.lock 4 := by simp
    rw [hR9]
    simp [go_sem, w2]
    refine cl_froz [384] (putSizeR_fn B t.outs.length (by omega) (by omega)) rfl (snap_cons (.one (snap1_d (snap_full rfl rfl (by simp)))) (snap_cons (.deep (by simp [AV.deep, AV.deep1])) snap_nil)) ?_
    have hB0' : (B ++ putSize t.outs.length).length ≤ 300 := by rw [List.length_append]; omega
    generalize B ++ putSize t.outs.length ++ paysB t.outs = R2 at *
    generalize B ++ putSize t.outs.length = B1 at *
    simp [go_sem, dropH]
    refine loop_of (fun u : Nat × List Nat => ⟨[(1, .ptr 0 0 0 1), (3, .d (nb u.2)), (5, .d (.int .i64 (u.1 : Int)))], [(0, ⟨58, 4, [eT t]⟩)], 9000⟩)
      (fun u => u.1 ≤ t.outs.length ∧ u.2.length ≤ 300 + 613 * u.1 ∧ u.2 ++ tailB payB t.outs u.1 = R2) (fun u => t.outs.length - u.1) (0, B1) ⟨by simp, by simp; omega, hR0⟩ (by
        simp [Weak, slotOk, fv, lk, AV.low, AV.low1, eT]) ?_
    rintro ⟨k, B'⟩ ⟨hk, hBl', hR⟩
    simp only at hk hBl' hR
    simp only [eT]
    simp only [go_sem, Nat.reduceEqDiff, Nat.reduceAdd, Nat.reduceLT, ↓reduceIte, Nat.reduceMul]
    refine ⟨fun h => ?_, fun h => ?_⟩
    · obtain ⟨o, ho1, hd⟩ := drop_of (l := t.outs) (k := k) (by omega)
      have ho64 := ho o (List.mem_of_getElem? ho1)
      have hol := h3 o (List.mem_of_getElem? ho1)
      have w3 := next_i64 (k := k) (by omega)
      have hoB := payB_len o
      simp [go_sem, ho1, eO]
      refine cl_eq (putR_fn B' o.1 8 8 rfl (by omega) ho64 (by omega)) (by simp [AV.deep, AV.deep1]) ?_
      simp [go_sem, ho1, eO]
      have hl8 : (B' ++ le o.1 8).length = B'.length + 8 := by rw [List.length_append, le_len]
      have hB3 : B' ++ payB o = B' ++ le o.1 8 ++ (putSize o.2.length ++ o.2) := by simp [payB, bytesB]
      refine cl_eq (putBytesR_fn (B' ++ le o.1 8) o.2 (by omega) (by omega)) (by simp [AV.deep, AV.deep1]) ?_
      rw [← hB3]
      have hB4l : (B' ++ payB o).length = B'.length + (payB o).length := List.length_append
      simp [go_sem, w3]
      refine next_of (k + 1, B' ++ payB o) ⟨by simp only; omega, by simp only; omega, rest_step hd hR⟩ (by simp only; omega) ?_
      simp [Weak, slotOk, fv, lk, AV.low, AV.low1, eT]
    · have hkl : k = t.outs.length := by omega
      subst hkl
      have := rest_done hR
      subst this
      simp [go_sem, wl]
      refine cl_eq (putR_fn B' t.lock 4 4 rfl (by omega) (by omega) (by omega)) (by simp [AV.deep, AV.deep1]) ?_
      simp [go_sem]
      exact post_same (by simp [AV.deep, AV.deep1]) (by rw [hR9])

theorem bareB_len {t : Tn} (ht : Sm t) : (bareB t).length ≤ 4000 := by
  obtain ⟨⟨hv, hlk, hi, ho⟩, h1, h2, h3, h4⟩ := ht
  have hp1 := putSize_len t.ins.length
  have hp2 := putSize_len t.outs.length
  have e1 : ∀ l : List Ip, (∀ i, i ∈ l → i.hash.length = 32) → (insB l).length = 40 * l.length := by
    intro l
    induction l with
    | nil => intro _; rfl
    | cons i r ih =>
      intro h
      have h1 := ih fun j hj => h j (List.mem_cons_of_mem _ hj)
      have h2 := inB_len (h i (List.mem_cons_self ..))
      have e : (insB (i :: r)).length = (inB i).length + (insB r).length := by simp [insB]
      rw [e, List.length_cons]; omega
  have e2 : ∀ l : List (Nat × List Nat), (∀ o, o ∈ l → o.2.length ≤ 600) → (paysB l).length ≤ 613 * l.length := by
    intro l
    induction l with
    | nil => intro _; simp [paysB]
    | cons i r ih =>
      intro h
      have h1 := ih fun j hj => h j (List.mem_cons_of_mem _ hj)
      have h2 := payB_len i
      have h3 := h i (List.mem_cons_self ..)
      have e : (paysB (i :: r)).length = (payB i).length + (paysB r).length := by simp [paysB]
      rw [e, List.length_cons]; omega
  have f1 := e1 t.ins fun i h => (hi i h).1
  have f2 := e2 t.outs h3
  unfold bareB
  simp only [List.length_append, le_len]
  omega

def whB (i : Ip) : List Nat := listB i.wit
set_option maxRecDepth 20000 in
set_option maxHeartbeats 4000000 in
theorem whole_fn (t : Tn) (ht : Sm t) : Rets Tryz.prog 46 [.agg (eT t)] (fun r => r = .d (nb (wholeB t))) := by
  have hbl := bareB_len ht
  refine fn_of_awp Tryz.func46 (by kernel_rfl) rfl Tryz.ntmps46 (rs := [.tmp 2]) rfl (Nat.le_of_ble_eq_true rfl) (by simp [AV.deep, AV.deep1, eT]) ?_
  simp [go_sem, eT]
  refine cl_eq (bare_fn t ht) (by simp [AV.deep, AV.deep1, eT]) ?_
  obtain ⟨⟨hv, hlk, hi, ho⟩, h1, h2, h3, h4⟩ := ht
  have hR0 : bareB t ++ tailB whB t.ins 0 = wholeB t := rfl
  generalize wholeB t = R at *
  generalize bareB t = B0 at *
  simp [go_sem]
  refine loop_of (fun u : Nat × List Nat => ⟨[(3, .d (nb u.2)), (9, .d (.ro 35 (t.ins.map eI))), (10, .d (.int .i64 (t.ins.length : Int))), (11, .d (.int .i64 (u.1 : Int)))], [], 9000⟩)
    (fun u => u.1 ≤ t.ins.length ∧ u.2.length ≤ 4000 + 3635 * u.1 ∧ u.2 ++ tailB whB t.ins u.1 = R) (fun u => t.ins.length - u.1) (0, B0) ⟨by simp, by simp; omega, hR0⟩ (by
      simp [Weak, slotOk, fv, lk, AV.low, AV.low1]) ?_
  rintro ⟨k, B⟩ ⟨hk, hBl, hR⟩
  simp only at hk hBl hR
  simp only [go_sem, Nat.reduceEqDiff, Nat.reduceAdd, Nat.reduceLT, ↓reduceIte, Nat.reduceMul]
  refine ⟨fun h => ?_, fun h => ?_⟩
  · obtain ⟨i, hi1, hd⟩ := drop_of (l := t.ins) (k := k) (by omega)
    obtain ⟨hi32, hidx, hseq⟩ := hi i (List.mem_of_getElem? hi1)
    have w3 := next_i64 (k := k) (by omega)
    have hel := eI_len hi32
    have hcl := cIp_len hi32
    have hw := h4 i (List.mem_of_getElem? hi1)
    have hll := listB_len hw
    simp [go_sem, hi1, hel, eI_cI, hcl, cIp_take hi32, zin_drop, cI34g hi32]
    refine cl_eq (putList_fn B i.wit (by omega) hw) (by simp [AV.deep, AV.deep1]) ?_
    simp [go_sem, w3]
    refine next_of (k + 1, B ++ listB i.wit) ⟨by simp only; omega, by simp only [List.length_append]; omega, rest_step (f := whB) hd hR⟩ (by simp only; omega) ?_
    simp [Weak, slotOk, fv, lk, AV.low, AV.low1]
  · have hkl : k = t.ins.length := by omega
    subst hkl
    have := rest_done hR
    subst this
    simp [go_sem]
    exact post_same (by simp [AV.deep, AV.deep1]) rfl
set_option maxRecDepth 20000 in
set_option maxHeartbeats 4000000 in
theorem wholeR_fn (t : Tn) (ht : Sm t) : Rets Tryz.prog 171 [.agg (eT t)] (fun r => r = .d (nb (wholeB t))) := by
  have hbl := bareB_len ht
  refine fn_of_awp Tryz.func171 (by kernel_rfl) rfl Tryz.ntmps171 (rs := [.tmp 2]) rfl (Nat.le_of_ble_eq_true rfl) (by simp [AV.deep, AV.deep1, eT]) ?_
  simp [go_sem, eT]
  refine cl_eq (bareR_fn t ht) (by simp [AV.deep, AV.deep1, eT]) ?_
  obtain ⟨⟨hv, hlk, hi, ho⟩, h1, h2, h3, h4⟩ := ht
  have hR0 : bareB t ++ tailB whB t.ins 0 = wholeB t := rfl
  generalize wholeB t = R at *
  generalize bareB t = B0 at *
  simp [go_sem]
  refine loop_of (fun u : Nat × List Nat => ⟨[(1, .ptr 0 0 0 1), (3, .d (nb u.2)), (4, .d (.int .i64 (u.1 : Int)))], [(0, ⟨58, 4, [eT t]⟩)], 9000⟩)
    (fun u => u.1 ≤ t.ins.length ∧ u.2.length ≤ 4000 + 3635 * u.1 ∧ u.2 ++ tailB whB t.ins u.1 = R) (fun u => t.ins.length - u.1) (0, B0) ⟨by simp, by simp; omega, hR0⟩ (by
      simp [Weak, slotOk, fv, lk, AV.low, AV.low1, eT]) ?_
  rintro ⟨k, B⟩ ⟨hk, hBl, hR⟩
  simp only at hk hBl hR
  simp only [eT]
  simp only [go_sem, Nat.reduceEqDiff, Nat.reduceAdd, Nat.reduceLT, ↓reduceIte, Nat.reduceMul]
  refine ⟨fun h => ?_, fun h => ?_⟩
  · obtain ⟨i, hi1, hd⟩ := drop_of (l := t.ins) (k := k) (by omega)
    obtain ⟨hi32, hidx, hseq⟩ := hi i (List.mem_of_getElem? hi1)
    have w3 := next_i64 (k := k) (by omega)
    have hw := h4 i (List.mem_of_getElem? hi1)
    have hll := listB_len hw
    simp [go_sem, hi1, eI34 hi32]
    refine cl_eq (putListR_fn B i.wit (by omega) hw) (by simp [AV.deep, AV.deep1]) ?_
    simp [go_sem, w3]
    refine next_of (k + 1, B ++ listB i.wit) ⟨by simp only; omega, by simp only [List.length_append]; omega, rest_step (f := whB) hd hR⟩ (by simp only; omega) ?_
    simp [Weak, slotOk, fv, lk, AV.low, AV.low1, eT]
  · have hkl : k = t.ins.length := by omega
    subst hkl
    have := rest_done hR
    subst this
    simp [go_sem]
    exact post_same (by simp [AV.deep, AV.deep1]) rfl
end Go.Proofs.YtpnbpojpcbnejaaGreat

/-
  Whether a spending may be; what a spending recovers; the law VaultRecover.
-/
namespace Go.Proofs.YtpnbpojpcbnejaaGreat
open Go.Am Go.Sha
set_option linter.unusedSimpArgs false
set_option linter.unusedVariables false

theorem within_of {t : Tn} (h : Sm t) : within 20 30 1000 t = true := by
  obtain ⟨_, h1, h2, h3, h4⟩ := h
  simp only [within, Bool.and_eq_true, decide_eq_true_eq, shortO, shortI, shortW, List.all_eq_true]
  refine ⟨by omega, by omega, fun o ho => by have := h3 o ho; omega, fun i hi => ?_⟩
  obtain ⟨q1, q2⟩ := h4 i hi
  exact ⟨by omega, fun x hx => by have := q2 x hx; omega⟩
theorem shortW_of {xs : List (List Nat)} (h : SmW xs) : shortW 1000 xs = true := by
  simp only [shortW, List.all_eq_true, decide_eq_true_eq]
  exact fun x hx => by have := h.2 x hx; omega

set_option maxRecDepth 20000 in
set_option maxHeartbeats 4000000 in
theorem counts_fn (t : Tn) (ht : Sm t) : Rets Tryz.prog 45 [.agg (eT t)] (fun r => r = .d (.bool true)) := by
  refine fn_of_awp Tryz.func45 (by kernel_rfl) rfl Tryz.ntmps45 (rs := [.tmp 2]) rfl (Nat.le_of_ble_eq_true rfl) (by simp [AV.deep, AV.deep1, eT]) ?_
  obtain ⟨⟨hv, hlk, hi, ho⟩, h1, h2, h3, h4⟩ := ht
  have i1 : ¬ 20 < (t.ins.length : Int) := by omega
  have i2 : ¬ 20 < (t.outs.length : Int) := by omega
  simp [go_sem, eT, i1, i2]
  refine loop_of (fun k : Nat => ⟨[(1, .ptr 0 0 0 1), (18, .d (.ro 2 (t.outs.map eO))), (19, .d (.int .i64 (t.outs.length : Int))), (20, .d (.int .i64 (k : Int)))], [(0, ⟨58, 4, [eT t]⟩)], 9000⟩)
    (fun k => k ≤ t.outs.length) (fun k => t.outs.length - k) 0 (by simp) (by
      simp [Weak, slotOk, fv, lk, AV.low, AV.low1, eT]) ?_
  intro k hk
  simp only [eT]
  simp only [go_sem, Nat.reduceEqDiff, Nat.reduceAdd, Nat.reduceLT, ↓reduceIte, Nat.reduceMul]
  refine ⟨fun h => ?_, fun h => ?_⟩
  · obtain ⟨o, ho1, hd⟩ := drop_of (l := t.outs) (k := k) (by omega)
    have hol := h3 o (List.mem_of_getElem? ho1)
    have w3 := next_i64 (k := k) (by omega)
    simp [go_sem, ho1, eO]
    refine cl_eq (long_fn o.2) (by simp [AV.deep, AV.deep1]) ?_
    have j1 : ¬ 1000 < o.2.length := by omega
    simp [go_sem, j1, w3]
    refine next_of (k + 1) (by omega) (by omega) ?_
    simp [Weak, slotOk, fv, lk, AV.low, AV.low1, eT]
  · simp [go_sem]
    refine loop_of (fun k : Nat => ⟨[(1, .ptr 0 0 0 1), (29, .d (.ro 35 (t.ins.map eI))), (30, .d (.int .i64 (t.ins.length : Int))), (31, .d (.int .i64 (k : Int)))], [(0, ⟨58, 4, [eT t]⟩)], 19000⟩)
      (fun k => k ≤ t.ins.length) (fun k => t.ins.length - k) 0 (by simp) (by
        simp [Weak, slotOk, fv, lk, AV.low, AV.low1, eT]) ?_
    intro k hk
    simp only [eT]
    simp only [go_sem, Nat.reduceEqDiff, Nat.reduceAdd, Nat.reduceLT, ↓reduceIte, Nat.reduceMul]
    refine ⟨fun h => ?_, fun h => ?_⟩
    · obtain ⟨i, hi1, hd⟩ := drop_of (l := t.ins) (k := k) (by omega)
      obtain ⟨hi32, hidx, hseq⟩ := hi i (List.mem_of_getElem? hi1)
      have w3 := next_i64 (k := k) (by omega)
      have hel := eI_len hi32
      have hcl := cIp_len hi32
      have hw := h4 i (List.mem_of_getElem? hi1)
      have hw6 := hw.1
      have j1 : ¬ 30 < (i.wit.length : Int) := by omega
      simp [go_sem, hi1, hel, eI_cI, hcl, cIp_take hi32, zin_drop, cI34g hi32, j1]
      refine cl_eq (containsW_fn i.wit (by omega)) (by simp [AV.deep, AV.deep1]) ?_
      simp [go_sem, shortW_of hw, w3]
      refine next_of (k + 1) (by omega) (by omega) ?_
      simp [Weak, slotOk, fv, lk, AV.low, AV.low1, eT]
    · simp [go_sem]
      exact post_same (by simp [AV.deep, AV.deep1]) rfl

/-- Whether a transaction may be. -/
def checkT (t : Tn) : Int := if 12000 < (wholeB t).length then 4 else 0
theorem checkT_fn (t : Tn) (ht : Sm t) : Rets Tryz.prog 21 [.agg (eT t)] (fun r => r = .d (.int .i64 (checkT t))) := by
  refine fn_of_awp Tryz.func21 (by kernel_rfl) rfl Tryz.ntmps21 (rs := [.tmp 2]) rfl (Nat.le_of_ble_eq_true rfl) (by simp [AV.deep, AV.deep1, eT]) ?_
  simp [go_sem, eT]
  refine cl_eq (counts_fn t ht) (by simp [AV.deep, AV.deep1, eT]) ?_
  simp [go_sem]
  refine cl_eq (whole_fn t ht) (by simp [AV.deep, AV.deep1, eT]) ?_
  have hc : checkT t = if 12000 < (wholeB t).length then 4 else 0 := rfl
  rw [hc]
  by_cases h : 12000 < (wholeB t).length
  · have i1 : 12000 < ((wholeB t).length : Int) := by omega
    simp [go_sem, nb, i1, h]
    exact post_same (by simp [AV.deep, AV.deep1]) rfl
  · have i1 : ¬ 12000 < ((wholeB t).length : Int) := by omega
    simp [go_sem, nb, i1, h]
    exact post_same (by simp [AV.deep, AV.deep1]) rfl
theorem checkTR_fn (t : Tn) (ht : Sm t) : Rets Tryz.prog 134 [.agg (eT t)] (fun r => r = .d (.int .i64 (checkT t))) := by
  refine fn_of_awp Tryz.func134 (by kernel_rfl) rfl Tryz.ntmps134 (rs := [.tmp 2]) rfl (Nat.le_of_ble_eq_true rfl) (by simp [AV.deep, AV.deep1, eT]) ?_
  simp [go_sem, eT]
  refine cl_eq (countsR_fn t ht.1) (by simp [AV.deep, AV.deep1, eT]) ?_
  rw [within_of ht]
  simp [go_sem]
  refine cl_eq (wholeR_fn t ht) (by simp [AV.deep, AV.deep1, eT]) ?_
  have hc : checkT t = if 12000 < (wholeB t).length then 4 else 0 := rfl
  rw [hc]
  by_cases h : 12000 < (wholeB t).length
  · have i1 : 12000 < ((wholeB t).length : Int) := by omega
    simp [go_sem, nb, i1, h]
    exact post_same (by simp [AV.deep, AV.deep1]) rfl
  · have i1 : ¬ 12000 < ((wholeB t).length : Int) := by omega
    simp [go_sem, nb, i1, h]
    exact post_same (by simp [AV.deep, AV.deep1]) rfl

/-- Whether a spending may be. -/
def checkS (t : Tn) (n : Int) (coins : List (Nat × List Nat)) : Int :=
  if checkT t ≠ 0 ∨ coins.length ≠ t.ins.length ∨ n < 0 ∨ (coins.length : Int) ≤ n ∨ shortO 1000 coins = false then 1 else 0

def smallS (t : Tn) (coins : List (Nat × List Nat)) : Bool := within 6 6 600 t && (decide (coins.length ≤ 8) && shortO 1100 coins)
end Go.Proofs.YtpnbpojpcbnejaaGreat

/-
  What a spending recovers; the law VaultRecover.
-/
namespace Go.Proofs.YtpnbpojpcbnejaaGreat
open Go.Am Go.Sha
set_option linter.unusedSimpArgs false
set_option linter.unusedVariables false

theorem equal_fn (a b : List Nat) (ha : bytes a) (hb : bytes b) : Rets Tryz.prog 104 [.d (nb a), .d (nb b)] (fun r => r = .d (.bool (decide (a = b)))) := by
  refine fn_of_awp Tryz.func104 (by kernel_rfl) rfl Tryz.ntmps104 (rs := [.tmp 4]) rfl (Nat.le_of_ble_eq_true rfl) (by simp [AV.deep, AV.deep1]) ?_
  simp [go_sem, nb]
  refine cvS_nbV a 5 ha (by simp [go_sem]) (by simp [go_sem]) Tryz.underlying5 ?_
  simp [go_sem, nb]
  refine cvS_nbV b 5 hb (by simp [go_sem]) (by simp [go_sem]) Tryz.underlying5 ?_
  simp [go_sem, sb_inj]
  exact post_same (by simp [AV.deep, AV.deep1]) rfl

/-- What a spending recovers to an output: the claim's output and amount, the error. -/
def recV (t : Tn) (n : Int) (coins : List (Nat × List Nat)) (rec : List Nat) (out : Int) : Int × Int × Int :=
  if checkS t n coins ≠ 0 then (0, 0, 1)
  else match t.outs[out.toNat]? with
    | some o => if 0 ≤ out then (if recB o.2 = rec then (out, (((coins[n.toNat]?.map (·.1)).getD 0 : Nat) : Int), 0) else (0, 0, 24)) else (0, 0, 24)
    | none => (0, 0, 24)
def recA (x : Int × Int × Int) : AV := .tup [.agg [.d (.int .i64 x.1), .d (.int .u64 x.2.1)], .d (.int .i64 x.2.2)]
theorem recV1 {t : Tn} {n : Int} {coins : List (Nat × List Nat)} {rec : List Nat} {out : Int} (h : checkS t n coins = 1) : recV t n coins rec out = (0, 0, 1) := by
  simp [recV, h]
theorem recV2 {t : Tn} {n : Int} {coins : List (Nat × List Nat)} {rec : List Nat} {out : Int} (h : checkS t n coins = 0) (h2 : out < 0 ∨ (t.outs.length : Int) ≤ out) : recV t n coins rec out = (0, 0, 24) := by
  rcases h2 with h2 | h2
  · have : ¬ 0 ≤ out := by omega
    simp only [recV, h, this]
    cases t.outs[out.toNat]? <;> simp
  · have : t.outs[out.toNat]? = none := List.getElem?_eq_none (by omega)
    simp [recV, h, this]
theorem checkS_cases (t : Tn) (n : Int) (coins : List (Nat × List Nat)) : checkS t n coins = 1 ∨ (checkS t n coins = 0 ∧ 0 ≤ n ∧ n < (coins.length : Int)) := by
  unfold checkS
  split
  · exact .inl rfl
  · rename_i h
    exact .inr ⟨rfl, by omega, by omega⟩
theorem eS4 (t : Tn) (n : Int) (coins : List (Nat × List Nat)) : (eS t n coins).take 4 = eT t := rfl

set_option maxRecDepth 100000
theorem ty_u32 {n : Nat} {ds : List DV} (h : TyD Tryz.prog (n + 1) 23 ds) : ∃ x : Nat, ds = [.int .u32 (x : Int)] ∧ x < 4294967296 := by
  rw [TyD] at h
  simp only [Tryz.underlying23] at h
  obtain ⟨x, rfl, hx⟩ := h
  have hx' : 0 ≤ x ∧ x < 4294967296 := by simp [IntKind.has, IntKind.min, IntKind.max, IntKind.signed, IntKind.bits] at hx; omega
  exact ⟨x.toNat, by rw [show ((x.toNat : Nat) : Int) = x by omega], by omega⟩
theorem ty_u64 {n : Nat} {ds : List DV} (h : TyD Tryz.prog (n + 1) 26 ds) : ∃ x : Nat, ds = [.int .u64 (x : Int)] ∧ x < 18446744073709551616 := by
  rw [TyD] at h
  simp only [Tryz.underlying26] at h
  obtain ⟨x, rfl, hx⟩ := h
  have hx' : 0 ≤ x ∧ x < 18446744073709551616 := by simp [IntKind.has, IntKind.min, IntKind.max, IntKind.signed, IntKind.bits] at hx; omega
  exact ⟨x.toNat, by rw [show ((x.toNat : Nat) : Int) = x by omega], by omega⟩
theorem ty_out {n : Nat} {ds : List DV} (h : TyD Tryz.prog (n + 3) 71 ds) : ∃ o : Nat × List Nat, ds = eO o ∧ o.1 < 18446744073709551616 ∧ bytes o.2 := by
  rw [TyD] at h
  simp only [Tryz.underlying71, List.map_cons, List.map_nil] at h
  obtain ⟨a, b, rfl, ha, ha2, a', b', rfl, hb, hb2, rfl⟩ := h
  obtain ⟨x, rfl, hx⟩ := ty_u64 ha2
  rw [show Tryz.prog.cellsOf 29 = 1 by kernel_rfl] at hb
  match a', hb, hb2 with
  | [y], _, hb2 =>
    obtain ⟨bs, rfl, _, h5⟩ := ty_bytes hb2
    exact ⟨(x, bs), rfl, hx, h5⟩
theorem ty_outs {n : Nat} {ds : List DV} (h : TyD Tryz.prog (n + 4) 56 ds) : ∃ os : List (Nat × List Nat), ds = [.ro 2 (os.map eO)] ∧ ∀ o, o ∈ os → o.1 < 18446744073709551616 ∧ bytes o.2 := by
  rw [TyD] at h
  simp only [Tryz.underlying56] at h
  obtain ⟨es, rfl, hl, hr⟩ := h
  obtain ⟨os, rfl, hos⟩ := map_of (enc := eO) (R := fun o => o.1 < 18446744073709551616 ∧ bytes o.2) (es := es) (fun r hr' => by
    obtain ⟨h1, h2⟩ := hr r hr'
    obtain ⟨o, rfl, h3, h4⟩ := ty_out h1
    exact ⟨o, rfl, h3, h4⟩)
  exact ⟨os, by rw [show Tryz.prog.cellsOf 71 = 2 by kernel_rfl], hos⟩
theorem ty_in {n : Nat} {ds : List DV} (h : TyD Tryz.prog (n + 4) 69 ds) : ∃ i : Ip, ds = eI i ∧ i.ok ∧ bytes i.hash := by
  rw [TyD] at h
  simp only [Tryz.underlying69, List.map_cons, List.map_nil] at h
  obtain ⟨a, b, rfl, ha, ha2, a', b', rfl, hb, hb2, a3, b3, rfl, hc, hc2, rfl⟩ := h
  rw [TyD] at ha2
  simp only [Tryz.underlying25, List.map_cons, List.map_nil] at ha2
  obtain ⟨c, d, rfl, hc1, hc3, c', d', rfl, hd, hd2, rfl⟩ := ha2
  obtain ⟨hash, rfl, h1, h2⟩ := ty_h32 hc3
  obtain ⟨x, rfl, hx⟩ := ty_u32 hd2
  obtain ⟨y, rfl, hy⟩ := ty_u32 hb2
  rw [show Tryz.prog.cellsOf 67 = 1 by kernel_rfl] at hc
  match a3, hc, hc2 with
  | [z], _, hc2 =>
    obtain ⟨xs, rfl, _⟩ := ty_things hc2
    exact ⟨⟨hash, x, y, xs⟩, by simp [eI], ⟨h1, hx, hy⟩, h2⟩
theorem ty_ins {n : Nat} {ds : List DV} (h : TyD Tryz.prog (n + 5) 55 ds) : ∃ is : List Ip, ds = [.ro 35 (is.map eI)] ∧ ∀ i, i ∈ is → i.ok ∧ bytes i.hash := by
  rw [TyD] at h
  simp only [Tryz.underlying55] at h
  obtain ⟨es, rfl, hl, hr⟩ := h
  obtain ⟨os, rfl, hos⟩ := map_of (enc := eI) (R := fun i => i.ok ∧ bytes i.hash) (es := es) (fun r hr' => by
    obtain ⟨h1, h2⟩ := hr r hr'
    obtain ⟨o, rfl, h3⟩ := ty_in h1
    exact ⟨o, rfl, h3⟩)
  exact ⟨os, by rw [show Tryz.prog.cellsOf 69 = 35 by kernel_rfl], hos⟩
theorem ty_tx {n : Nat} {ds : List DV} (h : TyD Tryz.prog (n + 6) 58 ds) : ∃ t : Tn, ds.map .d = eT t ∧ t.ok ∧ (∀ o, o ∈ t.outs → bytes o.2) ∧ ∀ i, i ∈ t.ins → bytes i.hash := by
  rw [TyD] at h
  simp only [Tryz.underlying58, List.map_cons, List.map_nil] at h
  obtain ⟨a, b, rfl, ha, ha2, a', b', rfl, hb, hb2, a3, b3, rfl, hc, hc2, a4, b4, rfl, hd, hd2, rfl⟩ := h
  obtain ⟨v, rfl, hv⟩ := ty_u32 ha2
  obtain ⟨is, rfl, his⟩ := ty_ins hb2
  obtain ⟨os, rfl, hos⟩ := ty_outs hc2
  obtain ⟨l, rfl, hl⟩ := ty_u32 hd2
  exact ⟨⟨v, is, os, l⟩, rfl, ⟨hv, hl, fun i hi => (his i hi).1, fun o ho => (hos o ho).1⟩, fun o ho => (hos o ho).2, fun i hi => (his i hi).2⟩
end Go.Proofs.YtpnbpojpcbnejaaGreat
