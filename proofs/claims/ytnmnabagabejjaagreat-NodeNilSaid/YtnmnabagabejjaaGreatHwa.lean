/-
  Numbers of 256 bits, and targets: by the program.
-/
import Derived.Test.YtnmnabagabejjaaGreatRax
namespace Go.Sha
/-- Which of two stands higher, words from k down. -/
def cmpF (a b : List Nat) : Nat → Int
  | 0 => 0
  | k + 1 => if a.getD k 0 < b.getD k 0 then -1 else if b.getD k 0 < a.getD k 0 then 1 else cmpF a b k
/-- The number of bytes, the highest first. -/
def beN (l : List Nat) : Nat := l.foldl (fun a x => a * 256 + x) 0
theorem beN_snoc (l : List Nat) (x : Nat) : beN (l ++ [x]) = beN l * 256 + x := by simp [beN]
/-- The bytes of word j that stand among the first i of 32. -/
def part (b : List Nat) (i j : Nat) : List Nat := ((b.take i).drop (8 * (3 - j))).take 8
theorem part_get (b : List Nat) (i j k : Nat) : (part b i j)[k]? = if k < 8 ∧ 8 * (3 - j) + k < i then b[8 * (3 - j) + k]? else none := by
  unfold part
  rw [List.getElem?_take]
  by_cases h1 : k < 8
  · rw [if_pos h1, List.getElem?_drop, List.getElem?_take]
    by_cases h2 : 8 * (3 - j) + k < i
    · rw [if_pos h2, if_pos ⟨h1, h2⟩]
    · rw [if_neg h2, if_neg (fun h => h2 h.2)]
  · rw [if_neg h1, if_neg (fun h => h1 h.1)]
theorem part_len {b : List Nat} (hb : b.length = 32) {i j : Nat} (hi : i ≤ 32) (hj : j ≤ 3) : (part b i j).length = min 8 (i - 8 * (3 - j)) := by
  unfold part
  rw [List.length_take, List.length_drop, List.length_take, hb]
  omega
theorem part_same {b : List Nat} {i j : Nat} (hi : i < 32) (hj : j ≤ 3) (h : j ≠ 3 - i / 8) : part b (i + 1) j = part b i j := by
  refine List.ext_getElem? fun k => ?_
  rw [part_get, part_get]
  by_cases h1 : k < 8 ∧ 8 * (3 - j) + k < i
  · rw [if_pos h1, if_pos ⟨h1.1, by omega⟩]
  · rw [if_neg h1]
    by_cases h2 : k < 8 ∧ 8 * (3 - j) + k < i + 1
    · omega
    · rw [if_neg h2]
theorem part_next {b : List Nat} (hb : b.length = 32) {i c : Nat} (hc : b[i]? = some c) : part b (i + 1) (3 - i / 8) = part b i (3 - i / 8) ++ [c] := by
  have hi : i < 32 := by have := (List.getElem?_eq_some_iff.1 hc).1; omega
  have hl : (part b i (3 - i / 8)).length = i % 8 := by rw [part_len hb (by omega) (by omega)]; omega
  refine List.ext_getElem? fun k => ?_
  rw [List.getElem?_append, hl, part_get, part_get]
  by_cases h1 : k < i % 8
  · rw [if_pos h1, if_pos ⟨by omega, by omega⟩, if_pos ⟨by omega, by omega⟩]
  · rw [if_neg h1]
    by_cases h2 : k = i % 8
    · subst h2
      rw [if_pos ⟨by omega, by omega⟩, show 8 * (3 - (3 - i / 8)) + i % 8 = i by omega, hc]
      simp
    · rw [if_neg (by omega)]
      rw [List.getElem?_eq_none (by simp; omega)]
theorem part_zero (b : List Nat) (j : Nat) : part b 0 j = [] := by simp [part]
/-- The words of the first i of 32 bytes: as they are read by shifts, and by products. -/
def shW (b : List Nat) (i : Nat) : List Nat := (List.range 4).map fun j => beN (part b i j) * 256 ^ (8 - (part b i j).length)
def mulW (b : List Nat) (i : Nat) : List Nat := (List.range 4).map fun j => beN (part b i j)
theorem shW_mul {b : List Nat} (hb : b.length = 32) : shW b 32 = mulW b 32 := by
  unfold shW mulW
  refine List.map_congr_left fun j hj => ?_
  rw [List.mem_range] at hj
  rw [part_len hb (by omega) (by omega), show 8 - min 8 (32 - 8 * (3 - j)) = 0 by omega]
  simp
theorem shW_zero (b : List Nat) : shW b 0 = [0, 0, 0, 0] := by simp [shW, part_zero, beN, List.range, List.range.loop]
theorem mulW_zero (b : List Nat) : mulW b 0 = [0, 0, 0, 0] := by simp [mulW, part_zero, beN, List.range, List.range.loop]
theorem beN_lt : ∀ (l : List Nat), (∀ x, x ∈ l → x < 256) → beN l < 256 ^ l.length := by
  intro l
  have key : ∀ (l : List Nat) (a n : Nat), (∀ x, x ∈ l → x < 256) → a < 256 ^ n → l.foldl (fun a x => a * 256 + x) a < 256 ^ (n + l.length) := by
    intro l
    induction l with
    | nil => intro a n _ h; simpa using h
    | cons x l ih =>
      intro a n hl h
      have hx := hl x (by simp)
      rw [List.foldl_cons, List.length_cons, show n + (l.length + 1) = (n + 1) + l.length by omega]
      exact ih _ (n + 1) (fun y hy => hl y (by simp [hy])) (by rw [Nat.pow_succ]; omega)
  intro h
  have := key l 0 0 h (by simp)
  simpa [beN] using this
theorem or64 (a b : Nat) (ha : a < 18446744073709551616) (hb : b < 18446744073709551616) : Go.bits .or .u64 (a : Int) (b : Int) = ((a ||| b : Nat) : Int) := by
  show IntKind.u64.wrap (((BitVec.ofInt 64 (a : Int)) ||| (BitVec.ofInt 64 (b : Int))).toNat : Int) = _
  rw [BitVec.toNat_or, ofInt_nat, ofInt_nat, ← Nat.or_mod_two_pow, u64w]
  have : a ||| b < 2 ^ 64 := Nat.or_lt_two_pow (by omega) (by omega)
  omega
theorem shW_next {b : List Nat} (hb : b.length = 32) (hby : ∀ x, x ∈ b → x < 256) {i c : Nat} (hc : b[i]? = some c) :
    ∃ a, (shW b i)[3 - i / 8]? = some a ∧ a < 18446744073709551616 ∧ c * 2 ^ (8 * ((31 - i) % 8)) < 18446744073709551616 ∧ (shW b i).set (3 - i / 8) (a ||| c * 2 ^ (8 * ((31 - i) % 8))) = shW b (i + 1) := by
  have hi : i < 32 := by have := (List.getElem?_eq_some_iff.1 hc).1; omega
  have hc8 : c < 256 := hby c (List.mem_of_getElem? hc)
  have hl : (part b i (3 - i / 8)).length = i % 8 := by rw [part_len hb (by omega) (by omega)]; omega
  have hpn := part_next hb hc
  have hlt := beN_lt (part b i (3 - i / 8)) (fun x hx => hby x (List.mem_of_mem_take (List.mem_of_mem_drop (List.mem_of_mem_take hx))))
  rw [hl] at hlt
  have hm : (31 - i) % 8 = 7 - i % 8 := by omega
  have hpow : ∀ n, (256 : Nat) ^ n = 2 ^ (8 * n) := fun n => by rw [Nat.pow_mul]
  generalize hA : beN (part b i (3 - i / 8)) = A at hlt
  have hr : i % 8 < 8 := by omega
  generalize hr' : i % 8 = r at *
  have e1 : (256 : Nat) ^ (8 - r) = 256 * 256 ^ (7 - r) := by rw [show 8 - r = (7 - r) + 1 by omega, Nat.pow_succ, Nat.mul_comm]
  have e2 : (256 : Nat) ^ r * 256 ^ (8 - r) = 18446744073709551616 := by rw [← Nat.pow_add, show r + (8 - r) = 8 by omega]
  have hcl : c * 2 ^ (8 * (7 - r)) < 2 ^ (8 * (8 - r)) := by
    rw [← hpow, ← hpow, e1]
    exact Nat.mul_lt_mul_of_pos_right hc8 (Nat.pow_pos (by omega))
  have hle : (2 : Nat) ^ (8 * (8 - r)) ≤ 18446744073709551616 := by
    rw [← hpow]
    calc (256 : Nat) ^ (8 - r) ≤ 256 ^ 8 := Nat.pow_le_pow_right (by omega) (by omega)
      _ = 18446744073709551616 := by decide
  have hAlt : A * 256 ^ (8 - r) < 18446744073709551616 := by
    rw [← e2]
    exact Nat.mul_lt_mul_of_pos_right hlt (Nat.pow_pos (by omega))
  refine ⟨A * 256 ^ (8 - r), ?_, hAlt, by rw [hm]; omega, ?_⟩
  · unfold shW
    rw [List.getElem?_map, List.getElem?_range (by omega)]
    simp [hA, hl]
  · rw [hm]
    refine List.ext_getElem? fun j => ?_
    rw [List.getElem?_set]
    have hlen : (shW b i).length = 4 := by simp [shW]
    by_cases hj : 3 - i / 8 = j
    · subst hj
      rw [if_pos rfl, if_pos (by omega)]
      unfold shW
      rw [List.getElem?_map, List.getElem?_range (by omega), Option.map_some, hpn, beN_snoc, List.length_append, hl, hA]
      congr 1
      have := Nat.two_pow_add_eq_or_of_lt hcl A
      rw [← hpow, Nat.mul_comm] at this
      rw [← this, List.length_singleton, show 8 - (r + 1) = 7 - r by omega, e1, ← hpow, Nat.add_mul, Nat.mul_assoc]
    · rw [if_neg hj]
      unfold shW
      rw [List.getElem?_map, List.getElem?_map]
      by_cases h4 : j < 4
      · rw [List.getElem?_range h4, Option.map_some, Option.map_some, part_same hi (by omega) (by omega)]
      · rw [List.getElem?_eq_none (by simp; omega)]
        rfl
theorem mulW_next {b : List Nat} (hb : b.length = 32) (hby : ∀ x, x ∈ b → x < 256) {i c : Nat} (hc : b[i]? = some c) :
    ∃ a, (mulW b i)[3 - i / 8]? = some a ∧ a * 256 + c < 18446744073709551616 ∧ (mulW b i).set (3 - i / 8) (a * 256 + c) = mulW b (i + 1) := by
  have hi : i < 32 := by have := (List.getElem?_eq_some_iff.1 hc).1; omega
  have hc8 : c < 256 := hby c (List.mem_of_getElem? hc)
  have hl : (part b i (3 - i / 8)).length = i % 8 := by rw [part_len hb (by omega) (by omega)]; omega
  have hpn := part_next hb hc
  have hlt := beN_lt (part b (i + 1) (3 - i / 8)) (fun x hx => hby x (List.mem_of_mem_take (List.mem_of_mem_drop (List.mem_of_mem_take hx))))
  rw [hpn, beN_snoc, List.length_append, hl, List.length_singleton] at hlt
  have hle : (256 : Nat) ^ (i % 8 + 1) ≤ 18446744073709551616 := by
    calc (256 : Nat) ^ (i % 8 + 1) ≤ 256 ^ 8 := Nat.pow_le_pow_right (by omega) (by omega)
      _ = 18446744073709551616 := by decide
  refine ⟨beN (part b i (3 - i / 8)), ?_, by omega, ?_⟩
  · unfold mulW
    rw [List.getElem?_map, List.getElem?_range (by omega)]
    rfl
  · refine List.ext_getElem? fun j => ?_
    rw [List.getElem?_set]
    have hlen : (mulW b i).length = 4 := by simp [mulW]
    by_cases hj : 3 - i / 8 = j
    · subst hj
      rw [if_pos rfl, if_pos (by omega)]
      unfold mulW
      rw [List.getElem?_map, List.getElem?_range (by omega), Option.map_some, hpn, beN_snoc]
    · rw [if_neg hj]
      unfold mulW
      rw [List.getElem?_map, List.getElem?_map]
      by_cases h4 : j < 4
      · rw [List.getElem?_range h4, Option.map_some, Option.map_some, part_same hi (by omega) (by omega)]
      · rw [List.getElem?_eq_none (by simp; omega)]
        rfl
/-- The first i and the last i of 32 bytes have changed places. -/
def swp32 (l : List Nat) (i : Nat) : List Nat := (List.range 32).map fun j => if j < i ∨ 31 - i < j then l.getD (31 - j) 0 else l.getD j 0
theorem swp_zero {l : List Nat} (hl : l.length = 32) : swp32 l 0 = l := by
  refine List.ext_getElem? fun j => ?_
  unfold swp32
  rw [List.getElem?_map]
  by_cases h : j < 32
  · rw [List.getElem?_range h, Option.map_some, if_neg (by omega), List.getElem?_eq_getElem (by omega), List.getD_eq_getElem?_getD, List.getElem?_eq_getElem (by omega)]
    rfl
  · rw [List.getElem?_eq_none (by simp; omega), List.getElem?_eq_none (by omega)]
    rfl
theorem swp_done {l : List Nat} (hl : l.length = 32) : swp32 l 16 = l.reverse := by
  refine List.ext_getElem? fun j => ?_
  unfold swp32
  rw [List.getElem?_map]
  by_cases h : j < 32
  · rw [List.getElem?_range h, Option.map_some, if_pos (by omega), List.getElem?_reverse (by omega), hl, List.getD_eq_getElem?_getD, show 32 - 1 - j = 31 - j by omega, List.getElem?_eq_getElem (by omega)]
    rfl
  · rw [List.getElem?_eq_none (by simp; omega), List.getElem?_eq_none (by simp; omega)]
    rfl
theorem swp_len (l : List Nat) (i : Nat) : (swp32 l i).length = 32 := by simp [swp32]
theorem swp_lo {l : List Nat} {i : Nat} (hi : i < 16) : (swp32 l i)[i]? = some (l.getD i 0) := by
  unfold swp32
  rw [List.getElem?_map, List.getElem?_range (by omega), Option.map_some, if_neg (by omega)]
theorem swp_hi {l : List Nat} {i : Nat} (hi : i < 16) : (swp32 l i)[31 - i]? = some (l.getD (31 - i) 0) := by
  unfold swp32
  rw [List.getElem?_map, List.getElem?_range (by omega), Option.map_some, if_neg (by omega)]
theorem swp_next {l : List Nat} {i : Nat} (hi : i < 16) : ((swp32 l i).set i (l.getD (31 - i) 0)).set (31 - i) (l.getD i 0) = swp32 l (i + 1) := by
  refine List.ext_getElem? fun j => ?_
  rw [List.getElem?_set, List.getElem?_set, List.length_set, swp_len]
  unfold swp32
  rw [List.getElem?_map, List.getElem?_map]
  by_cases h : j < 32
  · rw [List.getElem?_range h, Option.map_some, Option.map_some]
    by_cases h1 : 31 - i = j
    · subst h1
      rw [if_pos rfl, if_pos (by omega), if_pos (by omega), show 31 - (31 - i) = i by omega]
    · rw [if_neg h1]
      by_cases h2 : i = j
      · subst h2
        rw [if_pos rfl, if_pos (by omega), if_pos (by omega)]
      · rw [if_neg h2]
        by_cases h3 : j < i ∨ 31 - i < j
        · rw [if_pos h3, if_pos (by omega)]
        · rw [if_neg h3, if_neg (by omega)]
  · rw [List.getElem?_eq_none (by simp; omega), if_neg (by omega), if_neg (by omega)]
    rfl
end Go.Sha
namespace Go.Proofs.YtnmnabagabejjaaGreat
open Go.Am Go.Sha
set_option linter.unusedSimpArgs false
set_option linter.unusedVariables false

/-- Words as cells. -/
def cW (l : List Nat) : List AV := l.map fun (x : Nat) => AV.d (.int .u64 (x : Int))
theorem cW_len (l : List Nat) : (cW l).length = l.length := by simp [cW]
theorem cW_get (l : List Nat) (i : Nat) : (cW l)[i]? = (l[i]?).map fun (x : Nat) => AV.d (.int .u64 (x : Int)) := by simp [cW]
theorem cW_set (l : List Nat) (i x : Nat) : (cW l).set i (.d (.int .u64 (x : Int))) = cW (l.set i x) := by simp [cW, List.map_set]
theorem cW_deep (l : List Nat) : (AV.agg (cW l)).deep := by
  intro c hc
  simp only [cW, List.mem_map] at hc
  obtain ⟨x, _, rfl⟩ := hc
  trivial
theorem cW_low (n : Nat) (l : List Nat) : ∀ v, v ∈ cW l → v.low1 n := by
  intro c hc
  simp only [cW, List.mem_map] at hc
  obtain ⟨x, _, rfl⟩ := hc
  trivial

theorem from_fn (x : Nat) : Rets Tryz.prog 208 [.d (.int .u64 (x : Int))] (fun r => r = .agg (cW [x, 0, 0, 0])) := by
  refine fn_of_awp Tryz.func208 (by kernel_rfl) rfl Tryz.ntmps208 (rs := [.cell 2 64]) rfl (Nat.le_of_ble_eq_true rfl) (by simp [AV.deep, AV.deep1]) ?_
  simp [go_sem, resV]
  exact post_same (cW_deep [x, 0, 0, 0]) rfl
theorem told_fn (a b c d : Nat) : Rets Tryz.prog 304 [.agg (cW [a, b, c, d])] (fun r => r = .d (.int .i64 (if a = 0 ∧ b = 0 ∧ c = 0 ∧ d = 0 then 3 else 0))) := by
  refine fn_of_awp Tryz.func304 (by kernel_rfl) rfl Tryz.ntmps304 (rs := [.tmp 2]) rfl (Nat.le_of_ble_eq_true rfl) (by intro v hv; simp at hv; subst hv; exact cW_deep _) ?_
  by_cases h : a = 0 ∧ b = 0 ∧ c = 0 ∧ d = 0
  · obtain ⟨rfl, rfl, rfl, rfl⟩ := h
    simp [go_sem, cW, intsOf, resV]
    exact post_same (by simp [AV.deep, AV.deep1]) rfl
  · have hb : (decide (a = 0) && (decide (b = 0) && (decide (c = 0) && decide (d = 0)))) = false := by
      simp only [Bool.and_eq_false_iff, decide_eq_false_iff_not]
      omega
    rw [if_neg h]
    simp [go_sem, cW, intsOf, hb, resV]
    exact post_same (by simp [AV.deep, AV.deep1]) rfl

/-- How many bits, as far as it is asked. -/
def lenK (x n : Nat) : Prop := if x = 0 then n = 0 else if x < 256 then 1 ≤ n ∧ n ≤ 8 else if x < 65536 then 9 ≤ n ∧ n ≤ 16 else 17 ≤ n ∧ n ≤ 24
def tabL : List Int := (List.range 256).map fun y => if y = 0 then 0 else ((Nat.log2 y + 1 : Nat) : Int)
theorem tabL_some {L : List Int} (hL : L = tabL) {y : Nat} {b : Int} (h : L[y]? = some b) : ∃ n : Nat, b = (n : Int) ∧ (if y = 0 then n = 0 else 1 ≤ n ∧ n ≤ 8) := by
  subst hL
  unfold tabL at h
  rw [List.getElem?_map] at h
  by_cases hy : y < 256
  · rw [List.getElem?_range hy, Option.map_some, Option.some.injEq] at h
    by_cases h0 : y = 0
    · rw [if_pos h0] at h
      exact ⟨0, h.symm, by rw [if_pos h0]⟩
    · rw [if_neg h0] at h
      refine ⟨_, h.symm, ?_⟩
      rw [if_neg h0]
      have := Nat.log2_lt (n := y) (k := 8) h0
      omega
  · rw [List.getElem?_eq_none (by simp; omega)] at h
    cases h
theorem tabL_none {L : List Int} (hL : L = tabL) {y : Nat} (hy : y < 256) (h : L[y]? = none) : False := by
  subst hL
  unfold tabL at h
  rw [List.getElem?_map, List.getElem?_range hy] at h
  cases h
set_option maxRecDepth 20000 in
theorem lenq_fn (x : Nat) (hx : x < 16777216) : Rets Tryz.prog 393 [.d (.int .u64 (x : Int))] (fun r => ∃ n : Nat, r = .d (.int .i64 (n : Int)) ∧ lenK x n) := by
  refine fn_of_awp Tryz.func393 (by kernel_rfl) rfl Tryz.ntmps393 (rs := [.tmp 2]) rfl (Nat.le_of_ble_eq_true rfl) (by simp [AV.deep, AV.deep1]) ?_
  have i1 : ¬ (4294967296 : Int) ≤ (x : Int) := by omega
  have d16 : Int.fdiv (x : Int) 65536 = ((x / 65536 : Nat) : Int) := fdiv_nat x 65536
  have d8 : Int.fdiv (x : Int) 256 = ((x / 256 : Nat) : Int) := fdiv_nat x 256
  have w8 : IntKind.i64.wrap 8 = 8 := IntWalk.i64_in _ (by omega)
  have w16 : IntKind.i64.wrap 16 = 16 := IntWalk.i64_in _ (by omega)
  have hi : ∀ n : Nat, n ≤ 100 → IntKind.i64.wrap (n : Int) = (n : Int) := fun n h => IntWalk.i64_in _ (by omega)
  by_cases h1 : x < 65536
  · have i2 : ¬ (65536 : Int) ≤ (x : Int) := by omega
    by_cases h2 : x < 256
    · have i3 : ¬ (256 : Int) ≤ (x : Int) := by omega
      have e8 : IntKind.u8.wrap (x : Int) = (x : Int) := by rw [u8w]; omega
      simp [go_sem, i1, i2, i3, e8]
      split
      · rename_i b hb
        obtain ⟨n, rfl, hn⟩ := tabL_some rfl hb
        have hn8 : n ≤ 8 := by split at hn <;> omega
        rw [hi n (by omega), hi n (by omega)]
        exact post_same (by simp [AV.deep, AV.deep1]) ⟨n, rfl, by unfold lenK; split at hn <;> simp_all⟩
      · rename_i hb
        exact tabL_none rfl h2 hb
    · have i3 : (256 : Int) ≤ (x : Int) := by omega
      have hy : x / 256 < 256 := by omega
      have hy0 : x / 256 ≠ 0 := by omega
      have e8 : IntKind.u8.wrap ((x / 256 : Nat) : Int) = ((x / 256 : Nat) : Int) := by rw [u8w]; omega
      generalize hyy : x / 256 = y at *
      simp [go_sem, i1, i2, i3, d8, e8, IntKind.bits, w8]
      split
      · rename_i b hb
        obtain ⟨n, rfl, hn⟩ := tabL_some rfl hb
        rw [if_neg hy0] at hn
        rw [hi n (by omega)]
        have e9 : IntKind.i64.wrap (8 + (n : Int)) = ((8 + n : Nat) : Int) := by rw [IntWalk.i64_in _ (by omega)]; omega
        rw [e9]
        exact post_same (by simp [AV.deep, AV.deep1]) ⟨8 + n, rfl, by unfold lenK; rw [if_neg (by omega), if_neg h2, if_pos h1]; omega⟩
      · rename_i hb
        exact tabL_none rfl hy hb
  · have i2 : (65536 : Int) ≤ (x : Int) := by omega
    have hy : x / 65536 < 256 := by omega
    have hy0 : x / 65536 ≠ 0 := by omega
    have e8 : IntKind.u8.wrap ((x / 65536 : Nat) : Int) = ((x / 65536 : Nat) : Int) := by rw [u8w]; omega
    generalize hyy : x / 65536 = y at *
    have i3 : ¬ (256 : Int) ≤ (y : Int) := by omega
    simp [go_sem, i1, i2, i3, d16, e8, IntKind.bits, w16]
    split
    · rename_i b hb
      obtain ⟨n, rfl, hn⟩ := tabL_some rfl hb
      rw [if_neg hy0] at hn
      rw [hi n (by omega)]
      have e9 : IntKind.i64.wrap (16 + (n : Int)) = ((16 + n : Nat) : Int) := by rw [IntWalk.i64_in _ (by omega)]; omega
      rw [e9]
      exact post_same (by simp [AV.deep, AV.deep1]) ⟨16 + n, rfl, by unfold lenK; rw [if_neg (by omega), if_neg (by omega), if_neg h1]; omega⟩
    · rename_i hb
      exact tabL_none rfl hy hb

/-- A place that goes down to -1. -/
def ixD : Nat → Int
  | 0 => -1
  | k + 1 => k
theorem ixD_z : ixD 0 = -1 := rfl
theorem ixD_s (k : Nat) : ixD (k + 1) = (k : Int) := rfl
theorem ixD_down (k : Nat) (h : k < 1000) : IntKind.i64.wrap ((k : Int) - 1) = ixD k := by
  cases k with
  | zero => rfl
  | succ k => rw [IntWalk.i64_in _ (by omega)]; show ((k + 1 : Nat) : Int) - 1 = (k : Int); omega
set_option maxHeartbeats 4000000 in
theorem cmp_fn (a b : List Nat) (ha : a.length = 4) (hb : b.length = 4) : Rets Tryz.prog 129 [.agg (cW a), .agg (cW b)] (fun r => r = .d (.int .i64 (cmpF a b 4))) := by
  refine fn_of_awp Tryz.func129 (by kernel_rfl) rfl Tryz.ntmps129 (rs := [.tmp 4]) rfl (Nat.le_of_ble_eq_true rfl) (by intro v hv; simp at hv; rcases hv with rfl | rfl <;> exact cW_deep _) ?_
  generalize hF : cmpF a b 4 = F
  simp [go_sem]
  refine loop_of (fun k : Nat => ⟨[(2, .ptr 0 0 0 1), (3, .ptr 32 0 0 1), (5, .d (.int .i64 (ixD k)))], [(32, ⟨64, 4, [cW b]⟩), (0, ⟨64, 4, [cW a]⟩)], 500⟩)
    (fun k => k ≤ 4 ∧ cmpF a b k = F) (fun k => k) 4 ⟨by omega, hF⟩ (by
      simp [Weak, slotOk, fv, lk, AV.low, AV.low1, cW_len, ha, hb, ixD]
      exact ⟨cW_low _ _, cW_low _ _⟩) ?_
  rintro k ⟨hk, hq⟩
  cases k with
  | zero =>
    simp only [cmpF] at hq
    subst hq
    simp [go_sem, ixD_z, resV]
    exact post_same (by simp [AV.deep, AV.deep1]) rfl
  | succ k =>
    obtain ⟨x, hx, _⟩ := drop_of (l := a) (k := k) (by omega)
    obtain ⟨y, hy, _⟩ := drop_of (l := b) (k := k) (by omega)
    have ex : a.getD k 0 = x := by rw [List.getD_eq_getElem?_getD, hx]; rfl
    have ey : b.getD k 0 = y := by rw [List.getD_eq_getElem?_getD, hy]; rfl
    simp only [cmpF, ex, ey] at hq
    have hw := ixD_down k (by omega)
    simp [go_sem, ixD_s]
    apply draw2 (0 :: 1 :: 2 :: 3 :: 4 :: 5 :: 6 :: 7 :: []) ([]) 0 (k := 8) (by kernel_rfl) (by kernel_rfl) rfl
    case hz => repeat (first | exact Its.nil | apply Its.plain rfl | apply Its.guard rfl rfl)
    case hj => repeat (first | exact Jts.nil | exact Its.nil | apply Its.plain rfl | apply Its.guard rfl rfl | apply Jts.plain rfl | apply Jts.guard rfl rfl)
    intro G hG
    simp [go_sem, cW_get, hx, hy]
    refine ⟨by omega, hG _ _ ?_⟩
    by_cases h1 : x < y
    · rw [if_pos h1] at hq
      subst hq
      simp [go_sem, h1, resV]
      exact post_same (by simp [AV.deep, AV.deep1]) rfl
    · rw [if_neg h1] at hq
      simp [go_sem, h1]
      apply draw2 (0 :: 1 :: 2 :: 3 :: 4 :: 5 :: 6 :: 7 :: []) ([]) 0 (k := 8) (by kernel_rfl) (by kernel_rfl) rfl
      case hz => repeat (first | exact Its.nil | apply Its.plain rfl | apply Its.guard rfl rfl)
      case hj => repeat (first | exact Jts.nil | exact Its.nil | apply Its.plain rfl | apply Its.guard rfl rfl | apply Jts.plain rfl | apply Jts.guard rfl rfl)
      intro G hG
      simp [go_sem, cW_get, hx, hy]
      refine ⟨by omega, hG _ _ ?_⟩
      by_cases h2 : y < x
      · rw [if_pos h2] at hq
        subst hq
        simp [go_sem, h2, resV]
        exact post_same (by simp [AV.deep, AV.deep1]) rfl
      · rw [if_neg h2] at hq
        simp [go_sem, h2, hw]
        refine next_of k ⟨by omega, hq⟩ (by omega) ?_
        simp [Weak, slotOk, fv, lk, AV.low, AV.low1, cW_len, ha, hb]
        exact ⟨cW_low _ _, cW_low _ _⟩

theorem shW_len (b : List Nat) (i : Nat) : (shW b i).length = 4 := by simp [shW]
set_option maxHeartbeats 4000000 in
theorem read_fn (b : List Nat) (hb : b.length = 32) (hby : ∀ x, x ∈ b → x < 256) : Rets Tryz.prog 263 [.agg (cb b)] (fun r => r = .agg (cW (mulW b 32))) := by
  refine fn_of_awp Tryz.func263 (by kernel_rfl) rfl Tryz.ntmps263 (rs := [.cell 2 64]) rfl (Nat.le_of_ble_eq_true rfl) (by intro v hv; simp at hv; subst hv; exact cb_deepA _) ?_
  rw [← shW_mul hb]
  have hcl : (cb b).length = 32 := by rw [cb_len]; exact hb
  have htk : (cb b).take 32 = cb b := List.take_of_length_le (by omega)
  have hz : [AV.d (DV.int .u64 0), AV.d (DV.int .u64 0), AV.d (DV.int .u64 0), AV.d (DV.int .u64 0)] = cW (shW b 0) := by rw [shW_zero]; rfl
  simp [go_sem, hcl, htk]
  refine loop_of (fun i : Nat => ⟨[(2, .ptr 32 0 0 1), (3, .ptr 64 0 0 1), (7, .agg (cb b)), (8, .d (.int .i64 (i : Int)))], [(32, ⟨64, 4, [cW [0, 0, 0, 0]]⟩), (64, ⟨64, 4, [cW (shW b i)]⟩)], 500⟩)
    (fun i => i ≤ 32) (fun i => 32 - i) 0 (by omega) (by
      simp [Weak, slotOk, fv, lk, AV.low, AV.low1, cW_len, shW_zero]
      exact ⟨cb_low _ _, rfl, cW_low _ _⟩) ?_
  intro i hi
  simp only [go_sem, Nat.reduceEqDiff, Nat.reduceAdd, Nat.reduceLT, ↓reduceIte, Nat.reduceMul]
  refine ⟨fun h => ?_, fun h => ?_⟩
  · obtain ⟨c, hc, _⟩ := drop_of (l := b) (k := i) (by omega)
    obtain ⟨w, hw1, hw2, hw3, hw4⟩ := shW_next hb hby hc
    have e1 : IntKind.i64.wrap (31 - (i : Int)) = ((31 - i : Nat) : Int) := by rw [IntWalk.i64_in _ (by omega)]; omega
    have w3 := next_i64 (k := i) (by omega)
    have hc8 := hby c (List.mem_of_getElem? hc)
    obtain ⟨m, hm⟩ : ∃ m, m = 31 - i := ⟨_, rfl⟩
    rw [← hm] at e1 hw3 hw4
    have hj : m / 8 = 3 - i / 8 := by omega
    rw [← hj] at hw1 hw4
    have q3 : IntKind.i64.wrap ((m : Int) / 8) = ((m / 8 : Nat) : Int) := by rw [IntWalk.i64_in _ (by omega)]; omega
    have q4 : IntKind.i64.wrap (8 * Int.tmod (m : Int) 8) = ((8 * (m % 8) : Nat) : Int) := by rw [show Int.tmod (m : Int) 8 = ((m % 8 : Nat) : Int) from rfl, IntWalk.i64_in _ (by omega)]; omega
    have q5 : IntKind.u64.wrap (c : Int) = (c : Int) := by rw [u64w]; omega
    have hj4 : m / 8 < 4 := by omega
    have hs64 : 8 * (m % 8) ≤ 64 := by omega
    generalize m / 8 = j at *
    generalize 8 * (m % 8) = s at *
    have q6 : min s 64 = s := by omega
    have q7 : IntKind.u64.wrap ((c : Int) * 2 ^ s) = ((c * 2 ^ s : Nat) : Int) := by
      rw [u64w, show (2 : Int) ^ s = ((2 ^ s : Nat) : Int) by rw [Int.natCast_pow]; rfl, ← Int.natCast_mul]
      omega
    have q8 := or64 w (c * 2 ^ s) hw2 hw3
    generalize c * 2 ^ s = y at *
    generalize w ||| y = z at *
    simp [go_sem, cb_get, hc, e1]
    refine ⟨by omega, ?_⟩
    apply draw2 (0 :: 1 :: 2 :: 3 :: 4 :: 5 :: 6 :: 7 :: 8 :: 9 :: 10 :: 11 :: []) ((12, ([])) :: []) 0 (k := 13) (by kernel_rfl) (by kernel_rfl) rfl
    case hz => repeat (first | exact Its.nil | apply Its.plain rfl | apply Its.guard rfl rfl)
    case hj => repeat (first | exact Jts.nil | exact Its.nil | apply Its.plain rfl | apply Its.guard rfl rfl | apply Jts.plain rfl | apply Jts.guard rfl rfl)
    intro G hG
    simp [go_sem, q3, q4, q5, cW_get, hw1, q6, q7, q8, IntKind.bits, cW_len, shW_len, cW_set, hw4]
    refine ⟨by omega, hj4, hG _ _ ?_⟩
    simp [go_sem, w3]
    refine next_of (i + 1) (by omega) (by omega) ?_
    simp [Weak, slotOk, fv, lk, AV.low, AV.low1, cW_len]
    exact ⟨cb_low _ _, cW_low _ _, cW_low _ _⟩
  · have h32 : i = 32 := by omega
    subst h32
    have htk4 : (cW (shW b 32)).take 4 = cW (shW b 32) := List.take_of_length_le (by rw [cW_len, shW_len]; omega)
    simp [go_sem, resV, cW_len, shW_len, htk4]
    exact post_same (cW_deep _) rfl

theorem swp_low (n : Nat) (l : List Nat) : ∀ v, v ∈ cb l → v.low1 n := cb_low n l
set_option maxHeartbeats 4000000 in
theorem number_fn (b : List Nat) (hb : b.length = 32) (hby : ∀ x, x ∈ b → x < 256) : Rets Tryz.prog 291 [.agg (cb b)] (fun r => r = .agg (cW (mulW b.reverse 32))) := by
  refine fn_of_awp Tryz.func291 (by kernel_rfl) rfl Tryz.ntmps291 (rs := [.cell 2 64]) rfl (Nat.le_of_ble_eq_true rfl) (by intro v hv; simp at hv; subst hv; exact cb_deepA _) ?_
  have hcl : (cb b).length = 32 := by rw [cb_len]; exact hb
  simp [go_sem, hcl]
  refine loop_of (fun i : Nat => ⟨[(1, .ptr 0 0 0 1), (2, .ptr 32 0 0 1), (3, .d (.int .i64 (i : Int))), (4, .d (.int .i64 (31 - (i : Int))))], [(0, ⟨61, 32, [cb (swp32 b i)]⟩), (32, ⟨64, 4, [cW [0, 0, 0, 0]]⟩)], 500⟩)
    (fun i => i ≤ 16) (fun i => 16 - i) 0 (by omega) (by
      simp [Weak, slotOk, fv, lk, AV.low, AV.low1, swp_zero hb]
      exact ⟨cb_low _ _, rfl, cW_low _ _⟩) ?_
  intro i hi
  simp only [go_sem, Nat.reduceEqDiff, Nat.reduceAdd, Nat.reduceLT, ↓reduceIte, Nat.reduceMul]
  refine ⟨fun h => ?_, fun h => ?_⟩
  · have hlo := swp_lo (l := b) (i := i) (by omega)
    have hhi := swp_hi (l := b) (i := i) (by omega)
    have hn := swp_next (l := b) (i := i) (by omega)
    have w3 := next_i64 (k := i) (by omega)
    have w4 : IntKind.i64.wrap (31 - (i : Int) - 1) = 31 - ((i + 1 : Nat) : Int) := by rw [IntWalk.i64_in _ (by omega)]; omega
    have e1 : (31 : Int) - (i : Int) = ((31 - i : Nat) : Int) := by omega
    have h31 : 31 - i < 32 := by omega
    rw [e1]
    rw [e1] at w4
    generalize 31 - i = k at *
    generalize b.getD k 0 = x at *
    generalize b.getD i 0 = y at *
    apply draw3 (0 :: 2 :: 3 :: 4 :: 5 :: 6 :: 7 :: 8 :: []) (1 :: 9 :: 10 :: 11 :: []) (0 :: 2 :: 3 :: 4 :: 5 :: 6 :: 7 :: 8 :: []) (.alt (.step 1 ([]) true (.step 9 ([]) false (.step 10 ([]) false (.step 11 ([]) false .done)))) (.step 9 ([]) false (.step 1 ([]) false (.step 10 ([]) false (.step 11 ([]) false .done))))) ⟨[(1, .ptr 0 0 0 1), (2, .ptr 32 0 0 1), (3, .d (.int .i64 (i : Int))), (4, .d (.int .i64 (k : Int)))], [(0, ⟨61, 32, [cb (swp32 b (i + 1))]⟩), (32, ⟨64, 4, [cW [0, 0, 0, 0]]⟩)], 9000⟩ (k := 12) (by kernel_rfl) (by kernel_rfl) rfl
    case hz => repeat (first | exact Its.nil | apply Its.plain rfl | apply Its.guard rfl rfl)
    case hj => repeat (first | exact Tts.done | exact Its.nil | apply Tts.alt | apply Its.plain rfl | apply Its.guard rfl rfl | apply Tts.plain rfl | apply Tts.guard rfl rfl)
    case h3 =>
      intro G hG
      have hik : i ≠ k := by omega
      have hki : k ≠ i := by omega
      simp (maxSteps := 3000000) [go_sem, cb_get, cb_set, cb_len, swp_len, hlo, hhi, List.getElem?_set, hn, SaW]
      have hW : ∀ fr : Fr, fv 1 fr = .ptr 0 0 0 1 → fv 2 fr = .ptr 32 0 0 1 → fv 3 fr = .d (.int .i64 (i : Int)) → fv 4 fr = .d (.int .i64 (k : Int)) → G fr [(0, ⟨61, 32, [cb (swp32 b (i + 1))]⟩), (32, ⟨64, 4, [cW [0, 0, 0, 0]]⟩)] := by
        intro fr e0 e1 e2 e6
        refine hG _ _ (weak_wk ?_)
        simp only [Weak, slotOk]
        refine ⟨fun p hp => ?_, fun p hp => ?_, by simp⟩
        · simp only [List.mem_cons, List.mem_nil_iff, or_false] at hp
          rcases hp with rfl | rfl | rfl | rfl
          · exact ⟨.inl e0.symm, by simp [AV.low, AV.low1]⟩
          · exact ⟨.inl e1.symm, by simp [AV.low, AV.low1]⟩
          · exact ⟨.inl e2.symm, by simp [AV.low, AV.low1]⟩
          · exact ⟨.inl e6.symm, by simp [AV.low, AV.low1]⟩
        · simp only [List.mem_cons, List.mem_nil_iff, or_false] at hp
          rcases hp with rfl | rfl
          · refine ⟨.inl rfl, by simp, ?_⟩
            intro r hr
            simp only [List.mem_cons, List.mem_nil_iff, or_false] at hr
            subst hr
            exact cb_low _ _
          · refine ⟨.inl rfl, by simp, ?_⟩
            intro r hr
            simp only [List.mem_cons, List.mem_nil_iff, or_false] at hr
            subst hr
            exact cW_low _ _
      have h1 : (i : Int) < 32 := by omega
      have h2 : (k : Int) < 32 := by omega
      have h3 : i < 32 := by omega
      exact ⟨h2, h1, h3, h2, h31, hW _ rfl rfl rfl rfl⟩
    case hq =>
      simp [go_sem, w3, w4]
      refine next_of (i + 1) (by omega) (by omega) ?_
      simp [Weak, slotOk, fv, lk, AV.low, AV.low1]
      exact ⟨cb_low _ _, cW_low _ _⟩
  · have h16 : i = 16 := by omega
    subst h16
    have hrl : b.reverse.length = 32 := by simp [hb]
    rw [swp_done hb]
    have htk : (cb b.reverse).take 32 = cb b.reverse := List.take_of_length_le (by rw [cb_len]; omega)
    simp [go_sem, cb_len, hb, htk]
    refine cl_eq (read_fn b.reverse hrl (fun x hx => hby x (List.mem_reverse.1 hx))) (by intro v hv; simp at hv; subst hv; exact cb_deepA _) ?_
    have hml : (mulW b.reverse 32).length = 4 := by simp [mulW]
    have htk4 : (cW (mulW b.reverse 32)).take 4 = cW (mulW b.reverse 32) := List.take_of_length_le (by rw [cW_len, hml]; omega)
    generalize mulW b.reverse 32 = W at *
    simp [go_sem, resV, cW_len, hml, htk4]
    exact post_same (cW_deep _) rfl
end Go.Proofs.YtnmnabagabejjaaGreat
