/-
  The program's compact: numbers laid into bytes.
-/
import Derived.Test.YtiihldilefeldaaShs
namespace Go.Sha
/-- A number's bytes, the lowest first. -/
def le (x : Nat) : Nat → List Nat
  | 0 => []
  | k + 1 => le x k ++ [t8 (r32 (8 * k) x)]
theorem le_len (x : Nat) : ∀ k, (le x k).length = k
  | 0 => rfl
  | k + 1 => by simp [le, le_len x k]
end Go.Sha
namespace Go.Proofs.Ytiihldilefeldaa
open Go.Am Go.Sha
set_option linter.unusedSimpArgs false
set_option linter.unusedVariables false

theorem r32_8 (k x : Nat) : r32 8 (r32 (8 * k) x) = r32 (8 * (k + 1)) x := by
  unfold r32
  rw [Nat.div_div_eq_div_mul, ← Nat.pow_add]
  congr 1
theorem d_r8 (a : Nat) : Int.fdiv (a : Int) 256 = ((r32 8 a : Nat) : Int) := fdiv_nat a 256
theorem cat_rb (b : List Nat) : List.take b.length (rb b) ++ List.drop b.length (rb (List.replicate b.length 0)) = rb b := by
  rw [List.take_of_length_le (by rw [rb_len]; exact Nat.le_refl _), List.drop_eq_nil_of_le (by rw [rb_len]; simp), List.append_nil]
theorem post_bytes {Q : AV → Prop} {st : St} {id : Nat} {L : List Nat} (hb : lk id st.hp = some ⟨5, 1, rb L⟩) (hq : Q (.d (nb L))) : PostK Q (.own id 0 L.length L.length) st := by
  have h := snap_rb (I := fun _ => True) (i0 := 0) (n := L.length) hb trivial (by omega)
  rw [List.drop_zero, List.take_length] at h
  exact post_one (snap1_d h) (by simp [AV.deep, AV.deep1]) hq
theorem rep_rows (n : Nat) (v : AV) : (List.replicate n [v]).length = n := by simp

set_option maxHeartbeats 1000000 in
theorem lay8_fn (b : List Nat) (x n : Nat) (hb : b.length ≤ 1000000) (hx : x < 256) (hn : n ≤ 8) : Rets Try.prog 98 [.d (nb b), .d (.int .u8 (x : Int)), .d (.int .i64 (n : Int))] (fun r => r = .d (nb (b ++ le x n))) := by
  refine fn_of_awp Try.func98 (by kernel_rfl) rfl Try.ntmps98 (rs := [.tmp 6]) rfl (Nat.le_of_ble_eq_true rfl) (by simp [AV.deep, AV.deep1]) ?_
  have w1 : IntKind.i64.wrap ((b.length : Int) + (n : Int)) = ((b.length + n : Nat) : Int) := by rw [IntWalk.i64_in _ (by omega)]; omega
  have w2 : IntKind.u64.wrap (x : Int) = (x : Int) := by rw [u64w]; omega
  have hr : List.replicate b.length [AV.d (.int .u8 0)] = rb (List.replicate b.length 0) := by simp [rb]
  simp only [go_sem, Nat.reduceEqDiff, Nat.reduceAdd, Nat.reduceLT, ↓reduceIte, Nat.reduceMul, w1, w2, nb, List.length_map, Int.toNat_natCast, hr]
  simp [go_sem, rb_of, rb_len]
  rw [cat_rb]
  refine ⟨by omega, by omega, by omega, by omega, ?_⟩
  refine loop_of (fun k : Nat => ⟨[(7, .own 224 0 (b ++ le x k).length (b ++ le x k).length), (8, .d (.int .u64 ((r32 (8 * k) x : Nat) : Int))), (21, .d (.int .i64 (n : Int))), (22, .d (.int .i64 (k : Int)))], [(224, ⟨5, 1, rb (b ++ le x k)⟩)], 544⟩)
    (fun k => k ≤ n) (fun k => n - k) 0 (by omega) (by
      simp [Weak, slotOk, fv, lk, AV.low, AV.low1, le, r32]
      exact rb_low _ _) ?_
  intro k hk
  have hl : (b ++ le x k).length = b.length + k := by rw [List.length_append, le_len]
  have hs : rb (b ++ le x k) ++ [[AV.d (.int .u8 ((t8 (r32 (8 * k) x) : Nat) : Int))]] = rb (b ++ le x (k + 1)) := by rw [rb_snoc, List.append_assoc]; rfl
  have w5 := next_i64 (k := k) (by omega)
  simp only [go_sem, Nat.reduceEqDiff, Nat.reduceAdd, Nat.reduceLT, ↓reduceIte]
  refine ⟨fun h => ?_, fun h => ?_⟩
  · simp [go_sem, w8_nat, rb_len, hs, le_len, IntKind.bits, d_r8, r32_8, w5]
    refine ⟨by omega, ?_⟩
    refine next_of (k + 1) (by omega) (by omega) ?_
    simp [Weak, slotOk, fv, lk, AV.low, AV.low1, le_len]
    exact ⟨by omega, rb_low _ _⟩
  · have hkn : k = n := by omega
    subst hkn
    simp [go_sem, resV]
    have hl2 : b.length + (le x k).length = (b ++ le x k).length := by rw [List.length_append]
    rw [hl2]
    exact post_bytes rfl (by simp [nb])
set_option maxHeartbeats 1000000 in
theorem lay16_fn (b : List Nat) (x n : Nat) (hb : b.length ≤ 1000000) (hx : x < 65536) (hn : n ≤ 8) : Rets Try.prog 99 [.d (nb b), .d (.int .u16 (x : Int)), .d (.int .i64 (n : Int))] (fun r => r = .d (nb (b ++ le x n))) := by
  refine fn_of_awp Try.func99 (by kernel_rfl) rfl Try.ntmps99 (rs := [.tmp 6]) rfl (Nat.le_of_ble_eq_true rfl) (by simp [AV.deep, AV.deep1]) ?_
  have w1 : IntKind.i64.wrap ((b.length : Int) + (n : Int)) = ((b.length + n : Nat) : Int) := by rw [IntWalk.i64_in _ (by omega)]; omega
  have w2 : IntKind.u64.wrap (x : Int) = (x : Int) := by rw [u64w]; omega
  have hr : List.replicate b.length [AV.d (.int .u8 0)] = rb (List.replicate b.length 0) := by simp [rb]
  simp only [go_sem, Nat.reduceEqDiff, Nat.reduceAdd, Nat.reduceLT, ↓reduceIte, Nat.reduceMul, w1, w2, nb, List.length_map, Int.toNat_natCast, hr]
  simp [go_sem, rb_of, rb_len]
  rw [cat_rb]
  refine ⟨by omega, by omega, by omega, by omega, ?_⟩
  refine loop_of (fun k : Nat => ⟨[(7, .own 224 0 (b ++ le x k).length (b ++ le x k).length), (8, .d (.int .u64 ((r32 (8 * k) x : Nat) : Int))), (21, .d (.int .i64 (n : Int))), (22, .d (.int .i64 (k : Int)))], [(224, ⟨5, 1, rb (b ++ le x k)⟩)], 544⟩)
    (fun k => k ≤ n) (fun k => n - k) 0 (by omega) (by
      simp [Weak, slotOk, fv, lk, AV.low, AV.low1, le, r32]
      exact rb_low _ _) ?_
  intro k hk
  have hl : (b ++ le x k).length = b.length + k := by rw [List.length_append, le_len]
  have hs : rb (b ++ le x k) ++ [[AV.d (.int .u8 ((t8 (r32 (8 * k) x) : Nat) : Int))]] = rb (b ++ le x (k + 1)) := by rw [rb_snoc, List.append_assoc]; rfl
  have w5 := next_i64 (k := k) (by omega)
  simp only [go_sem, Nat.reduceEqDiff, Nat.reduceAdd, Nat.reduceLT, ↓reduceIte]
  refine ⟨fun h => ?_, fun h => ?_⟩
  · simp [go_sem, w8_nat, rb_len, hs, le_len, IntKind.bits, d_r8, r32_8, w5]
    refine ⟨by omega, ?_⟩
    refine next_of (k + 1) (by omega) (by omega) ?_
    simp [Weak, slotOk, fv, lk, AV.low, AV.low1, le_len]
    exact ⟨by omega, rb_low _ _⟩
  · have hkn : k = n := by omega
    subst hkn
    simp [go_sem, resV]
    have hl2 : b.length + (le x k).length = (b ++ le x k).length := by rw [List.length_append]
    rw [hl2]
    exact post_bytes rfl (by simp [nb])
set_option maxHeartbeats 1000000 in
theorem lay32_fn (b : List Nat) (x n : Nat) (hb : b.length ≤ 1000000) (hx : x < 4294967296) (hn : n ≤ 8) : Rets Try.prog 100 [.d (nb b), .d (.int .u32 (x : Int)), .d (.int .i64 (n : Int))] (fun r => r = .d (nb (b ++ le x n))) := by
  refine fn_of_awp Try.func100 (by kernel_rfl) rfl Try.ntmps100 (rs := [.tmp 6]) rfl (Nat.le_of_ble_eq_true rfl) (by simp [AV.deep, AV.deep1]) ?_
  have w1 : IntKind.i64.wrap ((b.length : Int) + (n : Int)) = ((b.length + n : Nat) : Int) := by rw [IntWalk.i64_in _ (by omega)]; omega
  have w2 : IntKind.u64.wrap (x : Int) = (x : Int) := by rw [u64w]; omega
  have hr : List.replicate b.length [AV.d (.int .u8 0)] = rb (List.replicate b.length 0) := by simp [rb]
  simp only [go_sem, Nat.reduceEqDiff, Nat.reduceAdd, Nat.reduceLT, ↓reduceIte, Nat.reduceMul, w1, w2, nb, List.length_map, Int.toNat_natCast, hr]
  simp [go_sem, rb_of, rb_len]
  rw [cat_rb]
  refine ⟨by omega, by omega, by omega, by omega, ?_⟩
  refine loop_of (fun k : Nat => ⟨[(7, .own 224 0 (b ++ le x k).length (b ++ le x k).length), (8, .d (.int .u64 ((r32 (8 * k) x : Nat) : Int))), (21, .d (.int .i64 (n : Int))), (22, .d (.int .i64 (k : Int)))], [(224, ⟨5, 1, rb (b ++ le x k)⟩)], 544⟩)
    (fun k => k ≤ n) (fun k => n - k) 0 (by omega) (by
      simp [Weak, slotOk, fv, lk, AV.low, AV.low1, le, r32]
      exact rb_low _ _) ?_
  intro k hk
  have hl : (b ++ le x k).length = b.length + k := by rw [List.length_append, le_len]
  have hs : rb (b ++ le x k) ++ [[AV.d (.int .u8 ((t8 (r32 (8 * k) x) : Nat) : Int))]] = rb (b ++ le x (k + 1)) := by rw [rb_snoc, List.append_assoc]; rfl
  have w5 := next_i64 (k := k) (by omega)
  simp only [go_sem, Nat.reduceEqDiff, Nat.reduceAdd, Nat.reduceLT, ↓reduceIte]
  refine ⟨fun h => ?_, fun h => ?_⟩
  · simp [go_sem, w8_nat, rb_len, hs, le_len, IntKind.bits, d_r8, r32_8, w5]
    refine ⟨by omega, ?_⟩
    refine next_of (k + 1) (by omega) (by omega) ?_
    simp [Weak, slotOk, fv, lk, AV.low, AV.low1, le_len]
    exact ⟨by omega, rb_low _ _⟩
  · have hkn : k = n := by omega
    subst hkn
    simp [go_sem, resV]
    have hl2 : b.length + (le x k).length = (b ++ le x k).length := by rw [List.length_append]
    rw [hl2]
    exact post_bytes rfl (by simp [nb])
end Go.Proofs.Ytiihldilefeldaa
