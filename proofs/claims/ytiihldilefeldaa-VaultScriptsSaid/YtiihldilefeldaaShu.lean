/-
  SHA-256 in the program: the sum.
-/
import Derived.Test.YtiihldilefeldaaShv
namespace Go.Proofs.Ytiihldilefeldaa
open Go.Am Go.Sha
set_option linter.unusedSimpArgs false
set_option linter.unusedVariables false

theorem rb_app (a b : List Nat) : rb a ++ rb b = rb (a ++ b) := by simp [rb]
theorem rb_snoc (a : List Nat) (x : Nat) : rb a ++ [[AV.d (.int .u8 (x : Int))]] = rb (a ++ [x]) := by simp [rb]
theorem rb_snoc128 (a : List Nat) : rb a ++ [[AV.d (.int .u8 128)]] = rb (a ++ [128]) := by simp [rb]
theorem rb_snoc0 (a : List Nat) : rb a ++ [[AV.d (.int .u8 0)]] = rb (a ++ [0]) := by simp [rb]
theorem rb_of (a : List Nat) : List.map ((fun r => List.map AV.d r) ∘ fun (x : Nat) => [DV.int .u8 (x : Int)]) a = rb a := by simp [rb]
def len8 (m : Nat) : Nat → List Nat
  | 0 => []
  | j + 1 => len8 m j ++ [t8 (r32 (56 - 8 * j) m)]
theorem len8_len (m : Nat) : ∀ j, (len8 m j).length = j
  | 0 => rfl
  | j + 1 => by simp [len8, len8_len m j]
/-- What is hashed last. -/
def lastOf (rest : List Nat) (n : Nat) : List Nat := padTo 64 (rest ++ [128]) ++ len8 (n * 8 % 18446744073709551616) 8
theorem m8_nat (n : Nat) : IntKind.u64.wrap ((n : Int) * 8) = ((n * 8 % 18446744073709551616 : Nat) : Int) := by rw [u64w]; omega
theorem tmod64 (n : Nat) : Int.tmod (n : Int) 64 = ((n % 64 : Nat) : Int) := by
  have := Int.ofNat_tmod n 64
  simpa using this.symm

theorem hrow_low (s : S8) (a b : AV) (ha : ∀ n, a.low1 n) (hb : ∀ n, b.low1 n) (n : Nat) : ∀ v, v ∈ s8c s ++ [a, b] → v.low1 n := by
  intro v hv
  rcases List.mem_append.1 hv with h | h
  · exact cw_low n s.l v h
  · simp only [List.mem_cons, List.mem_nil_iff, or_false] at h
    rcases h with rfl | rfl
    · exact ha n
    · exact hb n
theorem hrow2 (s : S8) (a b : AV) (ha : ∀ n, a.low1 n) (hb : ∀ n, b.low1 n) (n : Nat) : ∀ v, v ∈ s8c s ∨ v = a ∨ v = b → v.low1 n := by
  intro v hv
  refine hrow_low s a b ha hb n v ?_
  simpa using hv
theorem s8c_low (s : S8) (n : Nat) : ∀ v, v ∈ s8c s → v.low1 n := cw_low n s.l
theorem s8c_ren (ρ : Nat → Nat) (s : S8) : AV.renL ρ (s8c s) = s8c s := cw_ren ρ s.l
theorem rb_ren (ρ : Nat → Nat) (L : List Nat) : List.map (AV.renL ρ) (rb L) = rb L := by
  simp [rb, AV.renL, AV.ren]
def row32 (w : List Nat) : List Nat := w ++ List.replicate (32 - w.length) 0
theorem row32_len {w : List Nat} (h : w.length ≤ 32) : (row32 w).length = 32 := by simp [row32]; omega
theorem row32_set {w : List Nat} {x : Nat} (h : w.length < 32) : (row32 w).set w.length x = row32 (w ++ [x]) := by
  unfold row32
  rw [List.set_append_right _ _ (Nat.le_refl _), Nat.sub_self]
  obtain ⟨k, hk⟩ : ∃ k, 32 - w.length = k + 1 := ⟨31 - w.length, by omega⟩
  rw [hk, List.replicate_succ, List.set_cons_zero, List.append_assoc]
  simp only [List.length_append, List.length_singleton, List.singleton_append]
  rw [show 32 - (w.length + 1) = k by omega]
theorem row32_full {w : List Nat} (h : w.length = 32) : row32 w = w := by unfold row32; rw [h]; simp
theorem tk8s (s : S8) : List.take 8 (s8c s) = s8c s := rfl
theorem s8c_get (s : S8) {i : Nat} (h : i < 8) : (s8c s)[i]? = some (.d (.int .u32 ((s.l.getD i 0 : Nat) : Int))) := by
  rw [s8c_cw, cw_get, List.getD_eq_getElem?_getD]
  have : i < s.l.length := h
  rw [List.getElem?_eq_getElem this]
  rfl
theorem hd9 (s : S8) (a b : AV) : (List.drop 9 (s8c s ++ [a, b])).head? = some b := rfl
theorem tk8 (s : S8) (a b : AV) : List.take 8 (s8c s ++ [a, b]) = s8c s := rfl
theorem s8c_len (s : S8) : (s8c s).length = 8 := rfl
theorem modn (n : Nat) : IntKind.i64.wrap (n : Int) = IntKind.i64.wrap (n : Int) := rfl

set_option maxHeartbeats 4000000 in
theorem sum_fn (s : S8) (R : AV) (rest : List Nat) (n : Nat) (hR : R = .d (nb rest) ∨ (R = .nil ∧ rest = [])) (hl : rest.length ≤ 1000000000000) :
    RetsE Try.prog 75 1 [(0, ⟨128, 10, [s8c s ++ [R, .d (.int .u64 (n : Int))]]⟩)] [.ptr 0 0 0 1]
      (fun r hp' => r = .agg (cb (dig (eat (lastOf rest n).length s (lastOf rest n)).1)) ∧ lk 0 hp' = some ⟨128, 10, [s8c s ++ [R, .d (.int .u64 (n : Int))]]⟩) := by
  refine fnE_of_awp Try.func75 (by kernel_rfl) rfl Try.ntmps75 (rs := [.cell 2 22]) rfl (Nat.le_of_ble_eq_true rfl) (by decide) ?_
  rcases hR with rfl | ⟨rfl, rfl⟩
  · simp [go_sem, nb, s8c, rb_of, rb_snoc128, rb_len]
    refine ⟨by omega, by omega, ?_⟩
    refine loop_of (fun l : List Nat => ⟨[(0, .ptr 0 0 0 1), (2, .ptr 2 0 0 1), (3, .own 98 0 l.length l.length)], [(98, ⟨5, 1, rb l⟩), (2, ⟨22, 32, [cb z32]⟩), (0, ⟨128, 10, [s8c s ++ [.d (nb rest), .d (.int .u64 (n : Int))]]⟩)], 450⟩)
      (fun l => l.length ≤ 1000000000000 + 65 ∧ ∃ k, (120 - l.length % 64) % 64 ≤ k ∧ (k + l.length ≤ 1000000000000 + 65) ∧ padTo k l = padTo 64 (rest ++ [128])) (fun l => (120 - l.length % 64) % 64) (rest ++ [128]) ⟨by have := hl; simp only [List.length_append, List.length_nil, List.length_singleton] at *; omega, 64, by omega, by have := hl; simp only [List.length_append, List.length_nil, List.length_singleton] at *; omega, rfl⟩ (by
        simp [Weak, slotOk, fv, lk, AV.low, AV.low1, nb, s8c]
        exact ⟨rb_low _ _, cb_low _ _⟩) ?_
    rintro l ⟨hl1, k, hk, hk2, hP⟩
    have em : Int.tmod (l.length : Int) 64 = ((l.length % 64 : Nat) : Int) := tmod64 _
    simp only [go_sem, Nat.reduceEqDiff, Nat.reduceAdd, Nat.reduceLT, ↓reduceIte, em]
    refine ⟨by decide, fun h => ?_, fun h => ?_⟩
    · have h56 : l.length % 64 ≠ 56 := by omega
      rw [padTo_step h56 (by omega)] at hP
      refine ⟨by decide, rb_len l, by omega, ?_⟩
      rw [rb_snoc0]
      refine next_of (l ++ [0]) ⟨by simp only [List.length_append, List.length_singleton]; omega, k - 1, by simp only [List.length_append, List.length_singleton]; omega, by simp only [List.length_append, List.length_singleton]; omega, hP⟩ (by simp only [List.length_append, List.length_singleton]; omega) ?_
      simp [Weak, slotOk, fv, lk, AV.low, AV.low1]
      exact ⟨rb_low _ _, cb_low _ _, hrow2 s (.d (nb rest)) (.d (.int .u64 n)) (fun _ => trivial) (fun _ => trivial) _⟩
    · have h56 : l.length % 64 = 56 := by omega
      rw [padTo_end h56] at hP
      simp only [go_sem, Nat.reduceEqDiff, Nat.reduceAdd, Nat.reduceLT, ↓reduceIte, hd9, m8_nat]
      have hm : lastOf rest n = l ++ len8 (n * 8 % 18446744073709551616) 8 := by unfold lastOf; rw [← hP]
      generalize n * 8 % 18446744073709551616 = m at hm
      generalize lastOf rest n = L at hm
      clear hP hk hk2 hl
      refine loop_of (fun j : Nat => ⟨[(0, .ptr 0 0 0 1), (2, .ptr 2 0 0 1), (3, .own 98 0 (l ++ len8 m j).length (l ++ len8 m j).length), (4, .d (.int .u64 (m : Int))), (5, .d (.int .i64 (56 - 8 * (j : Int))))], [(98, ⟨5, 1, rb (l ++ len8 m j)⟩), (2, ⟨22, 32, [cb z32]⟩), (0, ⟨128, 10, [s8c s ++ [.d (nb rest), .d (.int .u64 (n : Int))]]⟩)], 642⟩)
        (fun j => j ≤ 8) (fun j => 8 - j) 0 (by omega) (by
          simp [Weak, slotOk, fv, lk, AV.low, AV.low1, len8]
          exact ⟨rb_low _ _, cb_low _ _, hrow2 s (.d (nb rest)) (.d (.int .u64 n)) (fun _ => trivial) (fun _ => trivial) _⟩) ?_
      intro j hj
      have hll : (l ++ len8 m j).length = l.length + j := by rw [List.length_append, len8_len]
      have e8 : (56 : Int) - 8 * (j : Int) - 8 = 56 - 8 * ((j + 1 : Nat) : Int) := by omega
      have w8 : IntKind.i64.wrap (56 - 8 * (j : Int) - 8) = 56 - 8 * ((j + 1 : Nat) : Int) := by rw [IntWalk.i64_in _ (by omega)]; omega
      simp only [go_sem, Nat.reduceEqDiff, Nat.reduceAdd, Nat.reduceLT, ↓reduceIte]
      refine ⟨fun h => ?_, fun h => ?_⟩
      · have hj7 : j ≤ 7 := by omega
        have eb : IntKind.u8.wrap (Int.fdiv (m : Int) (2 ^ (min (56 - 8 * (j : Int)).toNat 64))) = ((t8 (r32 (56 - 8 * j) m) : Nat) : Int) := by
          rw [show min (56 - 8 * (j : Int)).toNat 64 = 56 - 8 * j by omega, d_r, w8_nat]
        have es : rb (l ++ len8 m j) ++ [[AV.d (.int .u8 ((t8 (r32 (56 - 8 * j) m) : Nat) : Int))]] = rb (l ++ len8 m (j + 1)) := by rw [rb_snoc, List.append_assoc]; rfl
        simp only [go_sem, Nat.reduceEqDiff, Nat.reduceAdd, Nat.reduceLT, ↓reduceIte, IntKind.bits, eb, rb_len, es, w8]
        refine ⟨by omega, by decide, by have := len8_len m j; omega, ?_⟩
        refine next_of (j + 1) (by omega) (by omega) ?_
        have hl8 : (len8 m (j + 1)).length = (len8 m j).length + 1 := by rw [len8_len, len8_len]
        simp [Weak, slotOk, fv, lk, AV.low, AV.low1, hl8]
        exact ⟨by omega, rb_low _ _, cb_low _ _, hrow2 s (.d (nb rest)) (.d (.int .u64 n)) (fun _ => trivial) (fun _ => trivial) _⟩
      · have hj8 : j = 8 := by omega
        subst hj8
        rw [← hm]
        have hL64 : L.length % 64 = 0 := by rw [hm, List.length_append, len8_len]; omega
        have hLl : L.length ≤ 2000000000000 := by rw [hm, List.length_append, len8_len]; omega
        have hLen : l.length + (len8 m 8).length = L.length := by rw [hm, List.length_append]
        clear hm hll e8 w8 h56 h em
        simp [go_sem, tk8, s8c_len, hLen]
        generalize hE0 : eat L.length s L = E
        refine loop_of (fun t : Nat × S8 => ⟨[(0, .ptr 0 0 0 1), (2, .ptr 2 0 0 1), (3, .own 98 (64 * t.1) (L.length - 64 * t.1) L.length), (6, .ptr 834 0 0 1)], [(834, ⟨125, 8, [s8c t.2]⟩), (98, ⟨5, 1, rb L⟩), (2, ⟨22, 32, [cb z32]⟩), (0, ⟨128, 10, [s8c s ++ [.d (nb rest), .d (.int .u64 (n : Int))]]⟩)], 898⟩)
          (fun t => 64 * t.1 ≤ L.length ∧ ∃ k, L.length - 64 * t.1 ≤ k ∧ eat k t.2 (L.drop (64 * t.1)) = E) (fun t => L.length - 64 * t.1) (0, s) ⟨by omega, L.length, by omega, hE0⟩ (by
            simp [Weak, slotOk, fv, lk, AV.low, AV.low1]
            exact ⟨s8c_low _ _, rb_low _ _, cb_low _ _, hrow2 s (.d (nb rest)) (.d (.int .u64 n)) (fun _ => trivial) (fun _ => trivial) _⟩) ?_
        rintro ⟨j, s1⟩ ⟨hj64, k, hk, hE⟩
        simp only at hj64 hk hE
        have hdl : (L.drop (64 * j)).length = L.length - 64 * j := List.length_drop
        simp only [go_sem, Nat.reduceEqDiff, Nat.reduceAdd, Nat.reduceLT, ↓reduceIte]
        refine ⟨fun h => ?_, fun h => ?_⟩
        · have h64 : 64 ≤ L.length - 64 * j := by omega
          rw [eat_more (by omega) (by omega)] at hE
          simp [go_sem]
          refine ⟨by omega, ?_⟩
          refine cl_eff [(0, 834), (1, 98)] (take_own_fn 125 8 s1 [] L (64 * j) (by omega) (by simp)) rfl (by simp) (by simp [lk]) (by simp [lk, Blk.ren, renR, AV.renL, AV.ren, rho, swp, s8c, rb]) (by simp [AV.renL, AV.ren, rho, swp, lk]) ?_
          rintro r hp' ⟨rfl, h0, h1⟩
          refine ⟨[], rfl, ?_⟩
          simp [go_sem, outH, outP, h0, h1, Blk.ren, renR, s8c_ren, rb_ren, AV.renL, AV.ren, rho]
          refine ⟨by omega, ?_⟩
          refine next_of (j + 1, Go.Sha.take s1 ((L.drop (64 * j)).take 64)) ⟨by simp only; omega, k - 1, by simp only; omega, ?_⟩ (by simp only; omega) ?_
          · rw [List.drop_drop] at hE
            exact hE
          · simp [Weak, slotOk, fv, lk, AV.low, AV.low1]
            exact ⟨⟨by omega, by omega⟩, s8c_low _ _, rb_low _ _, cb_low _ _, hrow2 s (.d (nb rest)) (.d (.int .u64 n)) (fun _ => trivial) (fun _ => trivial) _⟩
        · have hnil : L.drop (64 * j) = [] := List.drop_eq_nil_of_le (by omega)
          rw [hnil, eat_none k s1 [] (by simp)] at hE
          have hs1 : s1 = E.1 := by rw [← hE]
          clear hE hE0 hdl hnil
          simp [go_sem, s8c_len]
          refine loop_of (fun i : Nat => ⟨[(0, .ptr 0 0 0 1), (2, .ptr 2 0 0 1), (7, .ptr 994 0 0 1), (59, .agg (s8c s1)), (60, .d (.int .i64 i))], [(994, ⟨22, 32, [cb (row32 (pre s1.l i))]⟩), (2, ⟨22, 32, [cb z32]⟩), (0, ⟨128, 10, [s8c s ++ [.d (nb rest), .d (.int .u64 (n : Int))]]⟩)], 1090⟩)
            (fun i => i ≤ 8) (fun i => 8 - i) 0 (by omega) (by
              simp [Weak, slotOk, fv, lk, AV.low, AV.low1, tk8s]
              exact ⟨s8c_low _ _, ⟨rfl, cb_low _ _⟩, cb_low _ _, hrow2 s (.d (nb rest)) (.d (.int .u64 n)) (fun _ => trivial) (fun _ => trivial) _⟩) ?_
          intro i hi
          have hpl := pre_len s1.l i
          simp only [go_sem, Nat.reduceEqDiff, Nat.reduceAdd, Nat.reduceLT, ↓reduceIte]
          refine ⟨fun h2 => ?_, fun h2 => ?_⟩
          · have hg := s8c_get s1 (i := i) (by omega)
            have hpre : pre s1.l (i + 1) = pre s1.l i ++ wbk (s1.l.getD i 0) 4 := rfl
            generalize s1.l.getD i 0 = x at hg hpre
            simp [go_sem, hg]
            refine ⟨by omega, ?_⟩
            refine loop_of (fun k : Nat => ⟨[(0, .ptr 0 0 0 1), (2, .ptr 2 0 0 1), (7, .ptr 994 0 0 1), (59, .agg (s8c s1)), (60, .d (.int .i64 i)), (8, .d (.int .i64 i)), (9, .d (.int .u32 (x : Int))), (64, .d (.int .i64 k))], [(994, ⟨22, 32, [cb (row32 (pre s1.l i ++ wbk x k))]⟩), (2, ⟨22, 32, [cb z32]⟩), (0, ⟨128, 10, [s8c s ++ [.d (nb rest), .d (.int .u64 (n : Int))]]⟩)], 1300⟩)
              (fun k => k ≤ 4) (fun k => 4 - k) 0 (by omega) (by
                simp [Weak, slotOk, fv, lk, AV.low, AV.low1, wbk]
                exact ⟨s8c_low _ _, cb_low _ _, cb_low _ _, hrow2 s (.d (nb rest)) (.d (.int .u64 n)) (fun _ => trivial) (fun _ => trivial) _⟩) ?_
            intro k hk4
            have hkl := wbk_len x k
            simp only [go_sem, Nat.reduceEqDiff, Nat.reduceAdd, Nat.reduceLT, ↓reduceIte]
            refine ⟨fun h3 => ?_, fun h3 => ?_⟩
            · have w1 : IntKind.i64.wrap (4 * (i : Int)) = ((4 * i : Nat) : Int) := by rw [IntWalk.i64_in _ (by omega)]; omega
              have w2 : IntKind.i64.wrap (((4 * i : Nat) : Int) + (k : Int)) = ((4 * i + k : Nat) : Int) := by rw [IntWalk.i64_in _ (by omega)]; omega
              have w3 : IntKind.i64.wrap (8 * (k : Int)) = ((8 * k : Nat) : Int) := by rw [IntWalk.i64_in _ (by omega)]; omega
              have w4 : IntKind.i64.wrap (24 - ((8 * k : Nat) : Int)) = ((24 - 8 * k : Nat) : Int) := by rw [IntWalk.i64_in _ (by omega)]; omega
              have w5 := next_i64 (k := k) (by omega)
              have eb : IntKind.u8.wrap (Int.fdiv (x : Int) (2 ^ (min (24 - 8 * k) 32))) = ((t8 (r32 (24 - 8 * k) x) : Nat) : Int) := by
                rw [show min (24 - 8 * k) 32 = 24 - 8 * k by omega, d_r, w8_nat]
              have hset : (row32 (pre s1.l i ++ wbk x k)).set (4 * i + k) (t8 (r32 (24 - 8 * k) x)) = row32 (pre s1.l i ++ wbk x (k + 1)) := by
                have h := row32_set (w := pre s1.l i ++ wbk x k) (x := t8 (r32 (24 - 8 * k) x)) (by rw [List.length_append]; omega)
                rw [List.length_append, hpl, hkl, List.append_assoc] at h
                exact h
              have hrl : (row32 (pre s1.l i ++ wbk x k)).length = 32 := row32_len (by rw [List.length_append]; omega)
              simp only [go_sem, Nat.reduceEqDiff, Nat.reduceAdd, Nat.reduceLT, ↓reduceIte, w1, w2, w3, w4, IntKind.bits, Int.toNat_natCast, eb, Nat.mul_one, cb_set, hset, hrl, w5]
              refine ⟨by omega, by omega, ?_⟩
              refine next_of (k + 1) (by omega) (by omega) ?_
              simp [Weak, slotOk, fv, lk, AV.low, AV.low1]
              exact ⟨s8c_low _ _, cb_low _ _, cb_low _ _, hrow2 s (.d (nb rest)) (.d (.int .u64 n)) (fun _ => trivial) (fun _ => trivial) _⟩
            · have hk4' : k = 4 := by omega
              subst hk4'
              rw [← hpre]
              have w5 := next_i64 (k := i) (by omega)
              simp only [go_sem, Nat.reduceEqDiff, Nat.reduceAdd, Nat.reduceLT, ↓reduceIte, w5]
              refine next_of (i + 1) (by omega) (by omega) ?_
              simp [Weak, slotOk, fv, lk, AV.low, AV.low1]
              exact ⟨s8c_low _ _, cb_low _ _, cb_low _ _, hrow2 s (.d (nb rest)) (.d (.int .u64 n)) (fun _ => trivial) (fun _ => trivial) _⟩
          · have hi8 : i = 8 := by omega
            subst hi8
            have hfull : row32 (pre s1.l 8) = dig s1 := row32_full hpl
            rw [hfull, hs1]
            have hdl2 : (dig E.1).length = 32 := pre_len _ 8
            have htk : List.take 32 (cb (dig E.1)) = cb (dig E.1) := List.take_of_length_le (by rw [cb_len]; omega)
            simp [go_sem, resV, hdl2, htk]
            rfl
  · simp [go_sem, nb, s8c, rb_of, rb_snoc128, rb_len]
    refine loop_of (fun l : List Nat => ⟨[(0, .ptr 0 0 0 1), (2, .ptr 2 0 0 1), (3, .own 98 0 l.length l.length)], [(98, ⟨5, 1, rb l⟩), (2, ⟨22, 32, [cb z32]⟩), (0, ⟨128, 10, [s8c s ++ [.nil, .d (.int .u64 (n : Int))]]⟩)], 450⟩)
      (fun l => l.length ≤ 1000000000000 + 65 ∧ ∃ k, (120 - l.length % 64) % 64 ≤ k ∧ (k + l.length ≤ 1000000000000 + 65) ∧ padTo k l = padTo 64 ([] ++ [128])) (fun l => (120 - l.length % 64) % 64) ([] ++ [128]) ⟨by have := hl; simp only [List.length_append, List.length_nil, List.length_singleton] at *; omega, 64, by omega, by have := hl; simp only [List.length_append, List.length_nil, List.length_singleton] at *; omega, rfl⟩ (by
        simp [Weak, slotOk, fv, lk, AV.low, AV.low1, nb, s8c]
        exact ⟨⟨rfl, rb_low _ _⟩, cb_low _ _⟩) ?_
    rintro l ⟨hl1, k, hk, hk2, hP⟩
    have em : Int.tmod (l.length : Int) 64 = ((l.length % 64 : Nat) : Int) := tmod64 _
    simp only [go_sem, Nat.reduceEqDiff, Nat.reduceAdd, Nat.reduceLT, ↓reduceIte, em]
    refine ⟨by decide, fun h => ?_, fun h => ?_⟩
    · have h56 : l.length % 64 ≠ 56 := by omega
      rw [padTo_step h56 (by omega)] at hP
      refine ⟨by decide, rb_len l, by omega, ?_⟩
      rw [rb_snoc0]
      refine next_of (l ++ [0]) ⟨by simp only [List.length_append, List.length_singleton]; omega, k - 1, by simp only [List.length_append, List.length_singleton]; omega, by simp only [List.length_append, List.length_singleton]; omega, hP⟩ (by simp only [List.length_append, List.length_singleton]; omega) ?_
      simp [Weak, slotOk, fv, lk, AV.low, AV.low1]
      exact ⟨rb_low _ _, cb_low _ _, hrow2 s (.nil) (.d (.int .u64 n)) (fun _ => trivial) (fun _ => trivial) _⟩
    · have h56 : l.length % 64 = 56 := by omega
      rw [padTo_end h56] at hP
      simp only [go_sem, Nat.reduceEqDiff, Nat.reduceAdd, Nat.reduceLT, ↓reduceIte, hd9, m8_nat]
      have hm : lastOf [] n = l ++ len8 (n * 8 % 18446744073709551616) 8 := by unfold lastOf; rw [← hP]
      generalize n * 8 % 18446744073709551616 = m at hm
      generalize lastOf [] n = L at hm
      clear hP hk hk2 hl
      refine loop_of (fun j : Nat => ⟨[(0, .ptr 0 0 0 1), (2, .ptr 2 0 0 1), (3, .own 98 0 (l ++ len8 m j).length (l ++ len8 m j).length), (4, .d (.int .u64 (m : Int))), (5, .d (.int .i64 (56 - 8 * (j : Int))))], [(98, ⟨5, 1, rb (l ++ len8 m j)⟩), (2, ⟨22, 32, [cb z32]⟩), (0, ⟨128, 10, [s8c s ++ [.nil, .d (.int .u64 (n : Int))]]⟩)], 642⟩)
        (fun j => j ≤ 8) (fun j => 8 - j) 0 (by omega) (by
          simp [Weak, slotOk, fv, lk, AV.low, AV.low1, len8]
          exact ⟨rb_low _ _, cb_low _ _, hrow2 s (.nil) (.d (.int .u64 n)) (fun _ => trivial) (fun _ => trivial) _⟩) ?_
      intro j hj
      have hll : (l ++ len8 m j).length = l.length + j := by rw [List.length_append, len8_len]
      have e8 : (56 : Int) - 8 * (j : Int) - 8 = 56 - 8 * ((j + 1 : Nat) : Int) := by omega
      have w8 : IntKind.i64.wrap (56 - 8 * (j : Int) - 8) = 56 - 8 * ((j + 1 : Nat) : Int) := by rw [IntWalk.i64_in _ (by omega)]; omega
      simp only [go_sem, Nat.reduceEqDiff, Nat.reduceAdd, Nat.reduceLT, ↓reduceIte]
      refine ⟨fun h => ?_, fun h => ?_⟩
      · have hj7 : j ≤ 7 := by omega
        have eb : IntKind.u8.wrap (Int.fdiv (m : Int) (2 ^ (min (56 - 8 * (j : Int)).toNat 64))) = ((t8 (r32 (56 - 8 * j) m) : Nat) : Int) := by
          rw [show min (56 - 8 * (j : Int)).toNat 64 = 56 - 8 * j by omega, d_r, w8_nat]
        have es : rb (l ++ len8 m j) ++ [[AV.d (.int .u8 ((t8 (r32 (56 - 8 * j) m) : Nat) : Int))]] = rb (l ++ len8 m (j + 1)) := by rw [rb_snoc, List.append_assoc]; rfl
        simp only [go_sem, Nat.reduceEqDiff, Nat.reduceAdd, Nat.reduceLT, ↓reduceIte, IntKind.bits, eb, rb_len, es, w8]
        refine ⟨by omega, by decide, by have := len8_len m j; omega, ?_⟩
        refine next_of (j + 1) (by omega) (by omega) ?_
        have hl8 : (len8 m (j + 1)).length = (len8 m j).length + 1 := by rw [len8_len, len8_len]
        simp [Weak, slotOk, fv, lk, AV.low, AV.low1, hl8]
        exact ⟨by omega, rb_low _ _, cb_low _ _, hrow2 s (.nil) (.d (.int .u64 n)) (fun _ => trivial) (fun _ => trivial) _⟩
      · have hj8 : j = 8 := by omega
        subst hj8
        rw [← hm]
        have hL64 : L.length % 64 = 0 := by rw [hm, List.length_append, len8_len]; omega
        have hLl : L.length ≤ 2000000000000 := by rw [hm, List.length_append, len8_len]; omega
        have hLen : l.length + (len8 m 8).length = L.length := by rw [hm, List.length_append]
        clear hm hll e8 w8 h56 h em
        simp [go_sem, tk8, s8c_len, hLen]
        generalize hE0 : eat L.length s L = E
        refine loop_of (fun t : Nat × S8 => ⟨[(0, .ptr 0 0 0 1), (2, .ptr 2 0 0 1), (3, .own 98 (64 * t.1) (L.length - 64 * t.1) L.length), (6, .ptr 834 0 0 1)], [(834, ⟨125, 8, [s8c t.2]⟩), (98, ⟨5, 1, rb L⟩), (2, ⟨22, 32, [cb z32]⟩), (0, ⟨128, 10, [s8c s ++ [.nil, .d (.int .u64 (n : Int))]]⟩)], 898⟩)
          (fun t => 64 * t.1 ≤ L.length ∧ ∃ k, L.length - 64 * t.1 ≤ k ∧ eat k t.2 (L.drop (64 * t.1)) = E) (fun t => L.length - 64 * t.1) (0, s) ⟨by omega, L.length, by omega, hE0⟩ (by
            simp [Weak, slotOk, fv, lk, AV.low, AV.low1]
            exact ⟨s8c_low _ _, rb_low _ _, cb_low _ _, hrow2 s (.nil) (.d (.int .u64 n)) (fun _ => trivial) (fun _ => trivial) _⟩) ?_
        rintro ⟨j, s1⟩ ⟨hj64, k, hk, hE⟩
        simp only at hj64 hk hE
        have hdl : (L.drop (64 * j)).length = L.length - 64 * j := List.length_drop
        simp only [go_sem, Nat.reduceEqDiff, Nat.reduceAdd, Nat.reduceLT, ↓reduceIte]
        refine ⟨fun h => ?_, fun h => ?_⟩
        · have h64 : 64 ≤ L.length - 64 * j := by omega
          rw [eat_more (by omega) (by omega)] at hE
          simp [go_sem]
          refine ⟨by omega, ?_⟩
          refine cl_eff [(0, 834), (1, 98)] (take_own_fn 125 8 s1 [] L (64 * j) (by omega) (by simp)) rfl (by simp) (by simp [lk]) (by simp [lk, Blk.ren, renR, AV.renL, AV.ren, rho, swp, s8c, rb]) (by simp [AV.renL, AV.ren, rho, swp, lk]) ?_
          rintro r hp' ⟨rfl, h0, h1⟩
          refine ⟨[], rfl, ?_⟩
          simp [go_sem, outH, outP, h0, h1, Blk.ren, renR, s8c_ren, rb_ren, AV.renL, AV.ren, rho]
          refine ⟨by omega, ?_⟩
          refine next_of (j + 1, Go.Sha.take s1 ((L.drop (64 * j)).take 64)) ⟨by simp only; omega, k - 1, by simp only; omega, ?_⟩ (by simp only; omega) ?_
          · rw [List.drop_drop] at hE
            exact hE
          · simp [Weak, slotOk, fv, lk, AV.low, AV.low1]
            exact ⟨⟨by omega, by omega⟩, s8c_low _ _, rb_low _ _, cb_low _ _, hrow2 s (.nil) (.d (.int .u64 n)) (fun _ => trivial) (fun _ => trivial) _⟩
        · have hnil : L.drop (64 * j) = [] := List.drop_eq_nil_of_le (by omega)
          rw [hnil, eat_none k s1 [] (by simp)] at hE
          have hs1 : s1 = E.1 := by rw [← hE]
          clear hE hE0 hdl hnil
          simp [go_sem, s8c_len]
          refine loop_of (fun i : Nat => ⟨[(0, .ptr 0 0 0 1), (2, .ptr 2 0 0 1), (7, .ptr 994 0 0 1), (59, .agg (s8c s1)), (60, .d (.int .i64 i))], [(994, ⟨22, 32, [cb (row32 (pre s1.l i))]⟩), (2, ⟨22, 32, [cb z32]⟩), (0, ⟨128, 10, [s8c s ++ [.nil, .d (.int .u64 (n : Int))]]⟩)], 1090⟩)
            (fun i => i ≤ 8) (fun i => 8 - i) 0 (by omega) (by
              simp [Weak, slotOk, fv, lk, AV.low, AV.low1, tk8s]
              exact ⟨s8c_low _ _, ⟨rfl, cb_low _ _⟩, cb_low _ _, hrow2 s (.nil) (.d (.int .u64 n)) (fun _ => trivial) (fun _ => trivial) _⟩) ?_
          intro i hi
          have hpl := pre_len s1.l i
          simp only [go_sem, Nat.reduceEqDiff, Nat.reduceAdd, Nat.reduceLT, ↓reduceIte]
          refine ⟨fun h2 => ?_, fun h2 => ?_⟩
          · have hg := s8c_get s1 (i := i) (by omega)
            have hpre : pre s1.l (i + 1) = pre s1.l i ++ wbk (s1.l.getD i 0) 4 := rfl
            generalize s1.l.getD i 0 = x at hg hpre
            simp [go_sem, hg]
            refine ⟨by omega, ?_⟩
            refine loop_of (fun k : Nat => ⟨[(0, .ptr 0 0 0 1), (2, .ptr 2 0 0 1), (7, .ptr 994 0 0 1), (59, .agg (s8c s1)), (60, .d (.int .i64 i)), (8, .d (.int .i64 i)), (9, .d (.int .u32 (x : Int))), (64, .d (.int .i64 k))], [(994, ⟨22, 32, [cb (row32 (pre s1.l i ++ wbk x k))]⟩), (2, ⟨22, 32, [cb z32]⟩), (0, ⟨128, 10, [s8c s ++ [.nil, .d (.int .u64 (n : Int))]]⟩)], 1300⟩)
              (fun k => k ≤ 4) (fun k => 4 - k) 0 (by omega) (by
                simp [Weak, slotOk, fv, lk, AV.low, AV.low1, wbk]
                exact ⟨s8c_low _ _, cb_low _ _, cb_low _ _, hrow2 s (.nil) (.d (.int .u64 n)) (fun _ => trivial) (fun _ => trivial) _⟩) ?_
            intro k hk4
            have hkl := wbk_len x k
            simp only [go_sem, Nat.reduceEqDiff, Nat.reduceAdd, Nat.reduceLT, ↓reduceIte]
            refine ⟨fun h3 => ?_, fun h3 => ?_⟩
            · have w1 : IntKind.i64.wrap (4 * (i : Int)) = ((4 * i : Nat) : Int) := by rw [IntWalk.i64_in _ (by omega)]; omega
              have w2 : IntKind.i64.wrap (((4 * i : Nat) : Int) + (k : Int)) = ((4 * i + k : Nat) : Int) := by rw [IntWalk.i64_in _ (by omega)]; omega
              have w3 : IntKind.i64.wrap (8 * (k : Int)) = ((8 * k : Nat) : Int) := by rw [IntWalk.i64_in _ (by omega)]; omega
              have w4 : IntKind.i64.wrap (24 - ((8 * k : Nat) : Int)) = ((24 - 8 * k : Nat) : Int) := by rw [IntWalk.i64_in _ (by omega)]; omega
              have w5 := next_i64 (k := k) (by omega)
              have eb : IntKind.u8.wrap (Int.fdiv (x : Int) (2 ^ (min (24 - 8 * k) 32))) = ((t8 (r32 (24 - 8 * k) x) : Nat) : Int) := by
                rw [show min (24 - 8 * k) 32 = 24 - 8 * k by omega, d_r, w8_nat]
              have hset : (row32 (pre s1.l i ++ wbk x k)).set (4 * i + k) (t8 (r32 (24 - 8 * k) x)) = row32 (pre s1.l i ++ wbk x (k + 1)) := by
                have h := row32_set (w := pre s1.l i ++ wbk x k) (x := t8 (r32 (24 - 8 * k) x)) (by rw [List.length_append]; omega)
                rw [List.length_append, hpl, hkl, List.append_assoc] at h
                exact h
              have hrl : (row32 (pre s1.l i ++ wbk x k)).length = 32 := row32_len (by rw [List.length_append]; omega)
              simp only [go_sem, Nat.reduceEqDiff, Nat.reduceAdd, Nat.reduceLT, ↓reduceIte, w1, w2, w3, w4, IntKind.bits, Int.toNat_natCast, eb, Nat.mul_one, cb_set, hset, hrl, w5]
              refine ⟨by omega, by omega, ?_⟩
              refine next_of (k + 1) (by omega) (by omega) ?_
              simp [Weak, slotOk, fv, lk, AV.low, AV.low1]
              exact ⟨s8c_low _ _, cb_low _ _, cb_low _ _, hrow2 s (.nil) (.d (.int .u64 n)) (fun _ => trivial) (fun _ => trivial) _⟩
            · have hk4' : k = 4 := by omega
              subst hk4'
              rw [← hpre]
              have w5 := next_i64 (k := i) (by omega)
              simp only [go_sem, Nat.reduceEqDiff, Nat.reduceAdd, Nat.reduceLT, ↓reduceIte, w5]
              refine next_of (i + 1) (by omega) (by omega) ?_
              simp [Weak, slotOk, fv, lk, AV.low, AV.low1]
              exact ⟨s8c_low _ _, cb_low _ _, cb_low _ _, hrow2 s (.nil) (.d (.int .u64 n)) (fun _ => trivial) (fun _ => trivial) _⟩
          · have hi8 : i = 8 := by omega
            subst hi8
            have hfull : row32 (pre s1.l 8) = dig s1 := row32_full hpl
            rw [hfull, hs1]
            have hdl2 : (dig E.1).length = 32 := pre_len _ 8
            have htk : List.take 32 (cb (dig E.1)) = cb (dig E.1) := List.take_of_length_le (by rw [cb_len]; omega)
            simp [go_sem, resV, hdl2, htk]
            rfl
end Go.Proofs.Ytiihldilefeldaa
