/-
  The other text's SHA-256: turned words, the numbers of the steps, padded bytes.
-/
import Derived.Test.YtiihldilefeldaaCpu
import Derived.Test.YtiihldilefeldaaRsa
namespace Go.Proofs.Ytiihldilefeldaa
open Go.Am Go.Sha
set_option linter.unusedSimpArgs false
set_option linter.unusedVariables false

/-- Words, as what is read-only. -/
def nw (l : List Nat) : DV := .ro 1 (l.map fun (x : Nat) => [.int .u32 (x : Int)])
/-- Words as rows. -/
def rw4 (l : List Nat) : List (List AV) := l.map fun (x : Nat) => [.d (.int .u32 (x : Int))]
theorem rw4_len (l : List Nat) : (rw4 l).length = l.length := by simp [rw4]
theorem rw4_low (n : Nat) (l : List Nat) : ∀ r, r ∈ rw4 l → ∀ v, v ∈ r → v.low1 n := by
  intro r hr v hv
  simp only [rw4, List.mem_map] at hr
  obtain ⟨x, _, rfl⟩ := hr
  simp at hv
  subst hv
  trivial
theorem rw4_snoc (a : List Nat) (x : Nat) : rw4 a ++ [[AV.d (.int .u32 (x : Int))]] = rw4 (a ++ [x]) := by simp [rw4]
theorem rw4_of (a : List Nat) : List.map ((fun r => List.map AV.d r) ∘ fun (x : Nat) => [DV.int .u32 (x : Int)]) a = rw4 a := by simp [rw4]
theorem rw4_get (l : List Nat) (i : Nat) : (rw4 l)[i]? = (l[i]?).map fun (x : Nat) => [AV.d (.int .u32 (x : Int))] := by simp [rw4]
theorem rw4_set (l : List Nat) (i x : Nat) : (rw4 l).set i [.d (.int .u32 (x : Int))] = rw4 (l.set i x) := by simp [rw4, List.map_set]
theorem rw4_row (l : List Nat) : rw4 l = (l.map fun (x : Nat) => [DV.int .u32 (x : Int)]).map fun r => r.map .d := by simp [rw4]
theorem snap_rw4 {hp : Hp} {I : Nat → Prop} {id : Nat} {L : List Nat} (hb : lk id hp = some ⟨38, 1, rw4 L⟩) (hI : I id) : SnapD hp I (.own id 0 L.length L.length) (nw L) := by
  rw [rw4_row] at hb
  exact snap_row hb hI (by simp) (fun r hr => by
    rw [List.mem_map] at hr
    obtain ⟨x, _, rfl⟩ := hr
    rfl)
theorem post_words {Q : AV → Prop} {st : St} {id : Nat} {L : List Nat} (hb : lk id st.hp = some ⟨38, 1, rw4 L⟩) (hq : Q (.d (nw L))) : PostK Q (.own id 0 L.length L.length) st :=
  post_one (snap1_d (snap_rw4 hb trivial)) trivial hq

theorem turn_fn (x n : Nat) (m : Int) (hm : m = (n : Int)) (h : n ≤ 32) : Rets Try.prog 128 [.d (.int .u32 (x : Int)), .d (.int .u64 m)] (fun r => r = .d (.int .u32 ((ror n x : Nat) : Int))) := by
  subst hm
  refine fn_of_awp Try.func128 (by kernel_rfl) rfl Try.ntmps128 (rs := [.tmp 4]) rfl (Nat.le_of_ble_eq_true rfl) (by simp [AV.deep, AV.deep1]) ?_
  have w1 : IntKind.u64.wrap (32 - (n : Int)) = ((32 - n : Nat) : Int) := by rw [u64w]; omega
  have m1 : min n 32 = n := by omega
  have m2 : min (32 - n) 32 = 32 - n := by omega
  simp [go_sem, w1, IntKind.bits, m1, m2, d_r, w_shl, w_or, resV]
  exact post_same (by simp [AV.deep, AV.deep1]) rfl

set_option maxRecDepth 100000 in
theorem stepsR_fn : Rets Try.prog 102 [] (fun r => r = .d (nw K)) := by
  refine fn_of_awp Try.func102 (by kernel_rfl) rfl Try.ntmps102 (rs := [.tmp 0]) rfl (Nat.le_of_ble_eq_true rfl) (by simp) ?_
  simp [go_sem, resV]
  exact post_words (L := K) (by kernel_rfl) rfl

set_option maxHeartbeats 1000000 in
theorem padded_fn (b : List Nat) (hb : b.length ≤ 100000000000) : Rets Try.prog 103 [.d (nb b)] (fun r => r = .d (nb (lastOf b b.length))) := by
  refine fn_of_awp Try.func103 (by kernel_rfl) rfl Try.ntmps103 (rs := [.tmp 2]) rfl (Nat.le_of_ble_eq_true rfl) (by simp [AV.deep, AV.deep1]) ?_
  simp [go_sem, nb, rb_of, rb_snoc128, rb_len]
  refine ⟨by omega, by omega, ?_⟩
  refine loop_of (fun l : List Nat => ⟨[(0, .d (nb b)), (3, .own 32 0 l.length l.length)], [(32, ⟨5, 1, rb l⟩)], 288⟩)
    (fun l => l.length ≤ 100000000000 + 65 ∧ ∃ k, (120 - l.length % 64) % 64 ≤ k ∧ (k + l.length ≤ 100000000000 + 65) ∧ padTo k l = padTo 64 (b ++ [128])) (fun l => (120 - l.length % 64) % 64) (b ++ [128]) ⟨by simp; omega, 64, by omega, by simp; omega, rfl⟩ (by
      simp [Weak, slotOk, fv, lk, AV.low, AV.low1, nb]
      exact rb_low _ _) ?_
  rintro l ⟨hl1, k, hk, hk2, hP⟩
  have em : Int.tmod (l.length : Int) 64 = ((l.length % 64 : Nat) : Int) := tmod64 _
  simp only [go_sem, Nat.reduceEqDiff, Nat.reduceAdd, Nat.reduceLT, ↓reduceIte, em]
  refine ⟨by decide, fun h => ?_, fun h => ?_⟩
  · have h56 : l.length % 64 ≠ 56 := by omega
    rw [padTo_step h56 (by omega)] at hP
    refine ⟨by decide, rb_len l, by omega, ?_⟩
    rw [rb_snoc0]
    refine next_of (l ++ [0]) ⟨by simp; omega, k - 1, by simp; omega, by simp; omega, hP⟩ (by simp; omega) ?_
    simp [Weak, slotOk, fv, lk, AV.low, AV.low1, nb]
    exact rb_low _ _
  · have h56 : l.length % 64 = 56 := by omega
    rw [padTo_end h56] at hP
    have hm8 : IntKind.u64.wrap (IntKind.u64.wrap (b.length : Int) * 8) = ((b.length * 8 % 18446744073709551616 : Nat) : Int) := by rw [u64w, u64w]; omega
    simp only [go_sem, Nat.reduceEqDiff, Nat.reduceAdd, Nat.reduceLT, ↓reduceIte, nb, hm8]
    have hm : lastOf b b.length = l ++ len8 (b.length * 8 % 18446744073709551616) 8 := by unfold lastOf; rw [← hP]
    rw [hm]
    generalize b.length * 8 % 18446744073709551616 = m
    clear hm hm8 hP hk hk2
    refine loop_of (fun j : Nat => ⟨[(3, .own 32 0 (l ++ len8 m j).length (l ++ len8 m j).length), (4, .d (.int .u64 (m : Int))), (5, .d (.int .i64 (j : Int)))], [(32, ⟨5, 1, rb (l ++ len8 m j)⟩)], 800⟩)
      (fun j => j ≤ 8) (fun j => 8 - j) 0 (by omega) (by
        simp [Weak, slotOk, fv, lk, AV.low, AV.low1, len8]
        exact rb_low _ _) ?_
    intro j hj
    have hll : (l ++ len8 m j).length = l.length + j := by rw [List.length_append, len8_len]
    simp only [go_sem, Nat.reduceEqDiff, Nat.reduceAdd, Nat.reduceLT, ↓reduceIte]
    refine ⟨fun h => ?_, fun h => ?_⟩
    · have hj7 : j ≤ 7 := by omega
      have w1 : IntKind.i64.wrap (8 * (j : Int)) = ((8 * j : Nat) : Int) := by rw [IntWalk.i64_in _ (by omega)]; omega
      have w2 : IntKind.i64.wrap (56 - ((8 * j : Nat) : Int)) = ((56 - 8 * j : Nat) : Int) := by rw [IntWalk.i64_in _ (by omega)]; omega
      have w3 : IntKind.u64.wrap ((56 - 8 * j : Nat) : Int) = ((56 - 8 * j : Nat) : Int) := by rw [u64w]; omega
      have w4 : min (56 - 8 * j) 64 = 56 - 8 * j := by omega
      have w5 := next_i64 (k := j) (by omega)
      have es : rb (l ++ len8 m j) ++ [[AV.d (.int .u8 ((t8 (r32 (56 - 8 * j) m) : Nat) : Int))]] = rb (l ++ len8 m (j + 1)) := by rw [rb_snoc, List.append_assoc]; rfl
      simp only [go_sem, Nat.reduceEqDiff, Nat.reduceAdd, Nat.reduceLT, ↓reduceIte, IntKind.bits, w1, w2, w3, w4, d_r, w8_nat, es, rb_len, w5]
      refine ⟨by omega, by have := len8_len m j; omega, ?_⟩
      refine next_of (j + 1) (by omega) (by omega) ?_
      have hl8 : (len8 m (j + 1)).length = (len8 m j).length + 1 := by rw [len8_len, len8_len]
      simp [Weak, slotOk, fv, lk, AV.low, AV.low1, hl8]
      exact ⟨by omega, rb_low _ _⟩
    · have hj8 : j = 8 := by omega
      subst hj8
      rw [← List.length_append]
      exact post_bytes (id := 32) (L := l ++ len8 m 8) rfl rfl
end Go.Proofs.Ytiihldilefeldaa
