/-
  The program's compact: numbers laid into bytes.
-/
import Derived.Test.YtnmnabagabejjaaGreatShc
import Derived.Lib.BytesEntry
namespace Go.Sha
/-- A number's bytes, the lowest first. -/
def le (x : Nat) : Nat → List Nat
  | 0 => []
  | k + 1 => le x k ++ [t8 (r32 (8 * k) x)]
theorem le_len (x : Nat) : ∀ k, (le x k).length = k
  | 0 => rfl
  | k + 1 => by simp [le, le_len x k]
end Go.Sha
namespace Go.Proofs.YtnmnabagabejjaaGreat
open Go.Am Go.Sha
set_option linter.unusedSimpArgs false
set_option linter.unusedVariables false

theorem r32_8 (k x : Nat) : r32 8 (r32 (8 * k) x) = r32 (8 * (k + 1)) x := by
  unfold r32
  rw [Nat.div_div_eq_div_mul, ← Nat.pow_add]
  congr 1
theorem d_r8 (a : Nat) : Int.fdiv (a : Int) 256 = ((r32 8 a : Nat) : Int) := fdiv_nat a 256
theorem cat_rb (b : List Nat) : List.take b.length (rb b) ++ List.drop b.length (rb (List.replicate b.length 0)) = rb b := by
  rw [List.take_of_length_le (by rw [rb_len]; exact Nat.le_refl _), List.drop_eq_nil_of_le (by rw [rb_len]; simp), List.append_nil]
theorem post_bytes {Q : AV → Prop} {st : St} {id : Nat} {L : List Nat} (hb : lk id st.hp = some ⟨5, 1, rb L⟩) (hq : Q (.d (nb L))) : PostK Q (.own id 0 L.length L.length) st := by
  have h := snap_rb (I := fun _ => True) (i0 := 0) (n := L.length) hb trivial (by omega)
  rw [List.drop_zero, List.take_length] at h
  exact post_one (snap1_d h) (by simp [AV.deep, AV.deep1]) hq
theorem rep_rows (n : Nat) (v : AV) : (List.replicate n [v]).length = n := by simp

set_option maxHeartbeats 1000000 in
theorem lay8_fn (b : List Nat) (x n : Nat) (hb : b.length ≤ 1000000) (hx : x < 256) (hn : n ≤ 8) : Rets Tryz.prog 267 [.d (nb b), .d (.int .u8 (x : Int)), .d (.int .i64 (n : Int))] (fun r => r = .d (nb (b ++ le x n))) := by
  refine fn_of_awp Tryz.func267 (by kernel_rfl) rfl Tryz.ntmps267 (rs := [.tmp 6]) rfl (Nat.le_of_ble_eq_true rfl) (by simp [AV.deep, AV.deep1]) ?_
  have w1 : IntKind.i64.wrap ((b.length : Int) + (n : Int)) = ((b.length + n : Nat) : Int) := by rw [IntWalk.i64_in _ (by omega)]; omega
  have w2 : IntKind.u64.wrap (x : Int) = (x : Int) := by rw [u64w]; omega
  have hr : List.replicate b.length [AV.d (.int .u8 0)] = rb (List.replicate b.length 0) := by simp [rb]
  simp only [go_sem, Nat.reduceEqDiff, Nat.reduceAdd, Nat.reduceLT, ↓reduceIte, Nat.reduceMul, w1, w2, nb, List.length_map, Int.toNat_natCast, hr]
  simp [go_sem, rb_of, rb_len]
  rw [cat_rb]
  refine ⟨by omega, by omega, by omega, by omega, ?_⟩
  refine loop_of (fun k : Nat => ⟨[(7, .own 224 0 (b ++ le x k).length (b ++ le x k).length), (8, .d (.int .u64 ((r32 (8 * k) x : Nat) : Int))), (21, .d (.int .i64 (n : Int))), (22, .d (.int .i64 (k : Int)))], [(224, ⟨5, 1, rb (b ++ le x k)⟩)], 544⟩)
    (fun k => k ≤ n) (fun k => n - k) 0 (by omega) (by
      simp [Weak, slotOk, fv, lk, AV.low, AV.low1, le, r32]
      exact rb_low _ _) ?_
  intro k hk
  have hl : (b ++ le x k).length = b.length + k := by rw [List.length_append, le_len]
  have hs : rb (b ++ le x k) ++ [[AV.d (.int .u8 ((t8 (r32 (8 * k) x) : Nat) : Int))]] = rb (b ++ le x (k + 1)) := by rw [rb_snoc, List.append_assoc]; rfl
  have w5 := next_i64 (k := k) (by omega)
  simp only [go_sem, Nat.reduceEqDiff, Nat.reduceAdd, Nat.reduceLT, ↓reduceIte]
  refine ⟨fun h => ?_, fun h => ?_⟩
  · simp [go_sem, w8_nat, rb_len, hs, le_len, IntKind.bits, d_r8, r32_8, w5]
    refine ⟨by omega, ?_⟩
    refine next_of (k + 1) (by omega) (by omega) ?_
    simp [Weak, slotOk, fv, lk, AV.low, AV.low1, le_len]
    exact ⟨by omega, rb_low _ _⟩
  · have hkn : k = n := by omega
    subst hkn
    simp [go_sem, resV]
    have hl2 : b.length + (le x k).length = (b ++ le x k).length := by rw [List.length_append]
    rw [hl2]
    exact post_bytes rfl (by simp [nb])
set_option maxHeartbeats 1000000 in
theorem lay16_fn (b : List Nat) (x n : Nat) (hb : b.length ≤ 1000000) (hx : x < 65536) (hn : n ≤ 8) : Rets Tryz.prog 268 [.d (nb b), .d (.int .u16 (x : Int)), .d (.int .i64 (n : Int))] (fun r => r = .d (nb (b ++ le x n))) := by
  refine fn_of_awp Tryz.func268 (by kernel_rfl) rfl Tryz.ntmps268 (rs := [.tmp 6]) rfl (Nat.le_of_ble_eq_true rfl) (by simp [AV.deep, AV.deep1]) ?_
  have w1 : IntKind.i64.wrap ((b.length : Int) + (n : Int)) = ((b.length + n : Nat) : Int) := by rw [IntWalk.i64_in _ (by omega)]; omega
  have w2 : IntKind.u64.wrap (x : Int) = (x : Int) := by rw [u64w]; omega
  have hr : List.replicate b.length [AV.d (.int .u8 0)] = rb (List.replicate b.length 0) := by simp [rb]
  simp only [go_sem, Nat.reduceEqDiff, Nat.reduceAdd, Nat.reduceLT, ↓reduceIte, Nat.reduceMul, w1, w2, nb, List.length_map, Int.toNat_natCast, hr]
  simp [go_sem, rb_of, rb_len]
  rw [cat_rb]
  refine ⟨by omega, by omega, by omega, by omega, ?_⟩
  refine loop_of (fun k : Nat => ⟨[(7, .own 224 0 (b ++ le x k).length (b ++ le x k).length), (8, .d (.int .u64 ((r32 (8 * k) x : Nat) : Int))), (21, .d (.int .i64 (n : Int))), (22, .d (.int .i64 (k : Int)))], [(224, ⟨5, 1, rb (b ++ le x k)⟩)], 544⟩)
    (fun k => k ≤ n) (fun k => n - k) 0 (by omega) (by
      simp [Weak, slotOk, fv, lk, AV.low, AV.low1, le, r32]
      exact rb_low _ _) ?_
  intro k hk
  have hl : (b ++ le x k).length = b.length + k := by rw [List.length_append, le_len]
  have hs : rb (b ++ le x k) ++ [[AV.d (.int .u8 ((t8 (r32 (8 * k) x) : Nat) : Int))]] = rb (b ++ le x (k + 1)) := by rw [rb_snoc, List.append_assoc]; rfl
  have w5 := next_i64 (k := k) (by omega)
  simp only [go_sem, Nat.reduceEqDiff, Nat.reduceAdd, Nat.reduceLT, ↓reduceIte]
  refine ⟨fun h => ?_, fun h => ?_⟩
  · simp [go_sem, w8_nat, rb_len, hs, le_len, IntKind.bits, d_r8, r32_8, w5]
    refine ⟨by omega, ?_⟩
    refine next_of (k + 1) (by omega) (by omega) ?_
    simp [Weak, slotOk, fv, lk, AV.low, AV.low1, le_len]
    exact ⟨by omega, rb_low _ _⟩
  · have hkn : k = n := by omega
    subst hkn
    simp [go_sem, resV]
    have hl2 : b.length + (le x k).length = (b ++ le x k).length := by rw [List.length_append]
    rw [hl2]
    exact post_bytes rfl (by simp [nb])
set_option maxHeartbeats 1000000 in
theorem lay32_fn (b : List Nat) (x n : Nat) (hb : b.length ≤ 1000000) (hx : x < 4294967296) (hn : n ≤ 8) : Rets Tryz.prog 172 [.d (nb b), .d (.int .u32 (x : Int)), .d (.int .i64 (n : Int))] (fun r => r = .d (nb (b ++ le x n))) := by
  refine fn_of_awp Tryz.func172 (by kernel_rfl) rfl Tryz.ntmps172 (rs := [.tmp 6]) rfl (Nat.le_of_ble_eq_true rfl) (by simp [AV.deep, AV.deep1]) ?_
  have w1 : IntKind.i64.wrap ((b.length : Int) + (n : Int)) = ((b.length + n : Nat) : Int) := by rw [IntWalk.i64_in _ (by omega)]; omega
  have w2 : IntKind.u64.wrap (x : Int) = (x : Int) := by rw [u64w]; omega
  have hr : List.replicate b.length [AV.d (.int .u8 0)] = rb (List.replicate b.length 0) := by simp [rb]
  simp only [go_sem, Nat.reduceEqDiff, Nat.reduceAdd, Nat.reduceLT, ↓reduceIte, Nat.reduceMul, w1, w2, nb, List.length_map, Int.toNat_natCast, hr]
  simp [go_sem, rb_of, rb_len]
  rw [cat_rb]
  refine ⟨by omega, by omega, by omega, by omega, ?_⟩
  refine loop_of (fun k : Nat => ⟨[(7, .own 224 0 (b ++ le x k).length (b ++ le x k).length), (8, .d (.int .u64 ((r32 (8 * k) x : Nat) : Int))), (21, .d (.int .i64 (n : Int))), (22, .d (.int .i64 (k : Int)))], [(224, ⟨5, 1, rb (b ++ le x k)⟩)], 544⟩)
    (fun k => k ≤ n) (fun k => n - k) 0 (by omega) (by
      simp [Weak, slotOk, fv, lk, AV.low, AV.low1, le, r32]
      exact rb_low _ _) ?_
  intro k hk
  have hl : (b ++ le x k).length = b.length + k := by rw [List.length_append, le_len]
  have hs : rb (b ++ le x k) ++ [[AV.d (.int .u8 ((t8 (r32 (8 * k) x) : Nat) : Int))]] = rb (b ++ le x (k + 1)) := by rw [rb_snoc, List.append_assoc]; rfl
  have w5 := next_i64 (k := k) (by omega)
  simp only [go_sem, Nat.reduceEqDiff, Nat.reduceAdd, Nat.reduceLT, ↓reduceIte]
  refine ⟨fun h => ?_, fun h => ?_⟩
  · simp [go_sem, w8_nat, rb_len, hs, le_len, IntKind.bits, d_r8, r32_8, w5]
    refine ⟨by omega, ?_⟩
    refine next_of (k + 1) (by omega) (by omega) ?_
    simp [Weak, slotOk, fv, lk, AV.low, AV.low1, le_len]
    exact ⟨by omega, rb_low _ _⟩
  · have hkn : k = n := by omega
    subst hkn
    simp [go_sem, resV]
    have hl2 : b.length + (le x k).length = (b ++ le x k).length := by rw [List.length_append]
    rw [hl2]
    exact post_bytes rfl (by simp [nb])
end Go.Proofs.YtnmnabagabejjaaGreat

/-
  The program's compact: numbers laid into bytes of one's own; sizes, strings.
-/
namespace Go.Sha
def t16 (a : Nat) : Nat := a % 65536
def putSize (n : Nat) : List Nat := if n < 253 then le (t8 n) 1 else if n < 65536 then le 253 1 ++ le (t16 n) 2 else le 254 1 ++ le (t32 n) 4
theorem putSize_len (n : Nat) : (putSize n).length ≤ 5 := by
  unfold putSize
  split
  · simp [le_len]
  · split <;> simp [le_len]
end Go.Sha
namespace Go.Proofs.YtnmnabagabejjaaGreat
open Go.Am Go.Sha
set_option linter.unusedSimpArgs false
set_option linter.unusedVariables false

set_option maxHeartbeats 1000000 in
theorem lay8_own (b : List Nat) (x n : Nat) (hb : b.length ≤ 1000000) (hx : x < 256) (hn : n ≤ 8) : RetsE Tryz.prog 267 0 [] [.d (nb b), .d (.int .u8 (x : Int)), .d (.int .i64 (n : Int))] (fun r hp' => r = .own 225 0 (b ++ le x n).length (b ++ le x n).length ∧ lk 225 hp' = some ⟨5, 1, rb (b ++ le x n)⟩) := by
  refine fnE_of_awp Tryz.func267 (by kernel_rfl) rfl Tryz.ntmps267 (rs := [.tmp 6]) rfl (Nat.le_of_ble_eq_true rfl) (by decide) ?_
  have w1 : IntKind.i64.wrap ((b.length : Int) + (n : Int)) = ((b.length + n : Nat) : Int) := by rw [IntWalk.i64_in _ (by omega)]; omega
  have w2 : IntKind.u64.wrap (x : Int) = (x : Int) := by rw [u64w]; omega
  have hr : List.replicate b.length [AV.d (.int .u8 0)] = rb (List.replicate b.length 0) := by simp [rb]
  simp only [go_sem, Nat.reduceEqDiff, Nat.reduceAdd, Nat.reduceLT, ↓reduceIte, Nat.reduceMul, w1, w2, nb, List.length_map, Int.toNat_natCast, hr]
  simp [go_sem, rb_of, rb_len]
  rw [cat_rb]
  refine ⟨by omega, by omega, by omega, by omega, ?_⟩
  refine loop_of (fun k : Nat => ⟨[(7, .own 225 0 (b ++ le x k).length (b ++ le x k).length), (8, .d (.int .u64 ((r32 (8 * k) x : Nat) : Int))), (21, .d (.int .i64 (n : Int))), (22, .d (.int .i64 (k : Int)))], [(225, ⟨5, 1, rb (b ++ le x k)⟩)], 545⟩)
    (fun k => k ≤ n) (fun k => n - k) 0 (by omega) (by
      simp [Weak, slotOk, fv, lk, AV.low, AV.low1, le, r32]
      exact rb_low _ _) ?_
  intro k hk
  have hl : (b ++ le x k).length = b.length + k := by rw [List.length_append, le_len]
  have hs : rb (b ++ le x k) ++ [[AV.d (.int .u8 ((t8 (r32 (8 * k) x) : Nat) : Int))]] = rb (b ++ le x (k + 1)) := by rw [rb_snoc, List.append_assoc]; rfl
  have w5 := next_i64 (k := k) (by omega)
  simp only [go_sem, Nat.reduceEqDiff, Nat.reduceAdd, Nat.reduceLT, ↓reduceIte]
  refine ⟨fun h => ?_, fun h => ?_⟩
  · simp [go_sem, w8_nat, rb_len, hs, le_len, IntKind.bits, d_r8, r32_8, w5]
    refine ⟨by omega, ?_⟩
    refine next_of (k + 1) (by omega) (by omega) ?_
    simp [Weak, slotOk, fv, lk, AV.low, AV.low1, le_len]
    exact ⟨by omega, rb_low _ _⟩
  · have hkn : k = n := by omega
    subst hkn
    simp [go_sem, resV]

set_option maxHeartbeats 1000000 in
theorem lay16_own (b : List Nat) (x n : Nat) (hb : b.length ≤ 1000000) (hx : x < 65536) (hn : n ≤ 8) : RetsE Tryz.prog 268 0 [] [.d (nb b), .d (.int .u16 (x : Int)), .d (.int .i64 (n : Int))] (fun r hp' => r = .own 225 0 (b ++ le x n).length (b ++ le x n).length ∧ lk 225 hp' = some ⟨5, 1, rb (b ++ le x n)⟩) := by
  refine fnE_of_awp Tryz.func268 (by kernel_rfl) rfl Tryz.ntmps268 (rs := [.tmp 6]) rfl (Nat.le_of_ble_eq_true rfl) (by decide) ?_
  have w1 : IntKind.i64.wrap ((b.length : Int) + (n : Int)) = ((b.length + n : Nat) : Int) := by rw [IntWalk.i64_in _ (by omega)]; omega
  have w2 : IntKind.u64.wrap (x : Int) = (x : Int) := by rw [u64w]; omega
  have hr : List.replicate b.length [AV.d (.int .u8 0)] = rb (List.replicate b.length 0) := by simp [rb]
  simp only [go_sem, Nat.reduceEqDiff, Nat.reduceAdd, Nat.reduceLT, ↓reduceIte, Nat.reduceMul, w1, w2, nb, List.length_map, Int.toNat_natCast, hr]
  simp [go_sem, rb_of, rb_len]
  rw [cat_rb]
  refine ⟨by omega, by omega, by omega, by omega, ?_⟩
  refine loop_of (fun k : Nat => ⟨[(7, .own 225 0 (b ++ le x k).length (b ++ le x k).length), (8, .d (.int .u64 ((r32 (8 * k) x : Nat) : Int))), (21, .d (.int .i64 (n : Int))), (22, .d (.int .i64 (k : Int)))], [(225, ⟨5, 1, rb (b ++ le x k)⟩)], 545⟩)
    (fun k => k ≤ n) (fun k => n - k) 0 (by omega) (by
      simp [Weak, slotOk, fv, lk, AV.low, AV.low1, le, r32]
      exact rb_low _ _) ?_
  intro k hk
  have hl : (b ++ le x k).length = b.length + k := by rw [List.length_append, le_len]
  have hs : rb (b ++ le x k) ++ [[AV.d (.int .u8 ((t8 (r32 (8 * k) x) : Nat) : Int))]] = rb (b ++ le x (k + 1)) := by rw [rb_snoc, List.append_assoc]; rfl
  have w5 := next_i64 (k := k) (by omega)
  simp only [go_sem, Nat.reduceEqDiff, Nat.reduceAdd, Nat.reduceLT, ↓reduceIte]
  refine ⟨fun h => ?_, fun h => ?_⟩
  · simp [go_sem, w8_nat, rb_len, hs, le_len, IntKind.bits, d_r8, r32_8, w5]
    refine ⟨by omega, ?_⟩
    refine next_of (k + 1) (by omega) (by omega) ?_
    simp [Weak, slotOk, fv, lk, AV.low, AV.low1, le_len]
    exact ⟨by omega, rb_low _ _⟩
  · have hkn : k = n := by omega
    subst hkn
    simp [go_sem, resV]

set_option maxHeartbeats 1000000 in
theorem lay32_own (b : List Nat) (x n : Nat) (hb : b.length ≤ 1000000) (hx : x < 4294967296) (hn : n ≤ 8) : RetsE Tryz.prog 172 0 [] [.d (nb b), .d (.int .u32 (x : Int)), .d (.int .i64 (n : Int))] (fun r hp' => r = .own 225 0 (b ++ le x n).length (b ++ le x n).length ∧ lk 225 hp' = some ⟨5, 1, rb (b ++ le x n)⟩) := by
  refine fnE_of_awp Tryz.func172 (by kernel_rfl) rfl Tryz.ntmps172 (rs := [.tmp 6]) rfl (Nat.le_of_ble_eq_true rfl) (by decide) ?_
  have w1 : IntKind.i64.wrap ((b.length : Int) + (n : Int)) = ((b.length + n : Nat) : Int) := by rw [IntWalk.i64_in _ (by omega)]; omega
  have w2 : IntKind.u64.wrap (x : Int) = (x : Int) := by rw [u64w]; omega
  have hr : List.replicate b.length [AV.d (.int .u8 0)] = rb (List.replicate b.length 0) := by simp [rb]
  simp only [go_sem, Nat.reduceEqDiff, Nat.reduceAdd, Nat.reduceLT, ↓reduceIte, Nat.reduceMul, w1, w2, nb, List.length_map, Int.toNat_natCast, hr]
  simp [go_sem, rb_of, rb_len]
  rw [cat_rb]
  refine ⟨by omega, by omega, by omega, by omega, ?_⟩
  refine loop_of (fun k : Nat => ⟨[(7, .own 225 0 (b ++ le x k).length (b ++ le x k).length), (8, .d (.int .u64 ((r32 (8 * k) x : Nat) : Int))), (21, .d (.int .i64 (n : Int))), (22, .d (.int .i64 (k : Int)))], [(225, ⟨5, 1, rb (b ++ le x k)⟩)], 545⟩)
    (fun k => k ≤ n) (fun k => n - k) 0 (by omega) (by
      simp [Weak, slotOk, fv, lk, AV.low, AV.low1, le, r32]
      exact rb_low _ _) ?_
  intro k hk
  have hl : (b ++ le x k).length = b.length + k := by rw [List.length_append, le_len]
  have hs : rb (b ++ le x k) ++ [[AV.d (.int .u8 ((t8 (r32 (8 * k) x) : Nat) : Int))]] = rb (b ++ le x (k + 1)) := by rw [rb_snoc, List.append_assoc]; rfl
  have w5 := next_i64 (k := k) (by omega)
  simp only [go_sem, Nat.reduceEqDiff, Nat.reduceAdd, Nat.reduceLT, ↓reduceIte]
  refine ⟨fun h => ?_, fun h => ?_⟩
  · simp [go_sem, w8_nat, rb_len, hs, le_len, IntKind.bits, d_r8, r32_8, w5]
    refine ⟨by omega, ?_⟩
    refine next_of (k + 1) (by omega) (by omega) ?_
    simp [Weak, slotOk, fv, lk, AV.low, AV.low1, le_len]
    exact ⟨by omega, rb_low _ _⟩
  · have hkn : k = n := by omega
    subst hkn
    simp [go_sem, resV]

theorem w16_nat (a : Nat) : IntKind.u16.wrap (a : Int) = ((t16 a : Nat) : Int) := by
  have : IntKind.u16.wrap (a : Int) = (a : Int) % 65536 := by simp [IntKind.wrap, IntKind.bits, IntKind.signed]
  rw [this]; unfold t16; omega

set_option maxHeartbeats 1000000 in
theorem putSize_own (b : List Nat) (n : Nat) (hb : b.length ≤ 100000) (hn : n < 4294967296) : RetsE Tryz.prog 174 0 [] [.d (nb b), .d (.int .u64 (n : Int))] (fun r hp' => ∃ I, r = .own I 0 (b ++ putSize n).length (b ++ putSize n).length ∧ lk I hp' = some ⟨5, 1, rb (b ++ putSize n)⟩) := by
  refine fnE_of_awp Tryz.func174 (by kernel_rfl) rfl Tryz.ntmps174 (rs := [.tmp 4]) rfl (Nat.le_of_ble_eq_true rfl) (by decide) ?_
  by_cases h1 : n < 253
  · have e : putSize n = le (t8 n) 1 := by unfold putSize; rw [if_pos h1]
    rw [e]
    have i1 : (n : Int) < 253 := by omega
    simp [go_sem, i1, w8_nat]
    refine cl_eff [] (lay8_own b (t8 n) 1 (by omega) (by unfold t8; omega) (by omega)) rfl (by simp) (by simp) (by simp) (by simp [AV.renL, AV.ren]) ?_
    rintro r hp' ⟨rfl, h0⟩
    refine ⟨[(225, 0)], rfl, ?_⟩
    simp [go_sem, outH, outP, h0, Blk.ren, renR, rb_ren, AV.renL, AV.ren, rho, resV]
  · have i1 : ¬ (n : Int) < 253 := by omega
    by_cases h2 : n < 65536
    · have e : putSize n = le 253 1 ++ le (t16 n) 2 := by unfold putSize; rw [if_neg h1, if_pos h2]
      have i2 : (n : Int) < 65536 := by omega
      rw [e, ← List.append_assoc]
      simp [go_sem, i1, i2, -List.append_assoc]
      refine cl_eq (lay8_fn b 253 1 (by omega) (by omega) (by omega)) (by simp [AV.deep, AV.deep1]) ?_
      simp [go_sem, w16_nat, -List.append_assoc]
      refine cl_eff [] (lay16_own (b ++ le 253 1) (t16 n) 2 (by rw [List.length_append, le_len]; omega) (by unfold t16; omega) (by omega)) rfl (by simp) (by simp) (by simp) (by simp [AV.renL, AV.ren]) ?_
      rintro r hp' ⟨rfl, h0⟩
      refine ⟨[(225, 0)], rfl, ?_⟩
      simp [go_sem, outH, outP, h0, Blk.ren, renR, rb_ren, AV.renL, AV.ren, rho, resV]
      omega
    · have e : putSize n = le 254 1 ++ le (t32 n) 4 := by unfold putSize; rw [if_neg h1, if_neg h2]
      have i2 : ¬ (n : Int) < 65536 := by omega
      have i3 : (n : Int) < 4294967296 := by omega
      rw [e, ← List.append_assoc]
      simp [go_sem, i1, i2, i3, -List.append_assoc]
      refine cl_eq (lay8_fn b 254 1 (by omega) (by omega) (by omega)) (by simp [AV.deep, AV.deep1]) ?_
      simp [go_sem, w_nat, -List.append_assoc]
      refine cl_eff [] (lay32_own (b ++ le 254 1) (t32 n) 4 (by rw [List.length_append, le_len]; omega) (by unfold t32; omega) (by omega)) rfl (by simp) (by simp) (by simp) (by simp [AV.renL, AV.ren]) ?_
      rintro r hp' ⟨rfl, h0⟩
      refine ⟨[(225, 0)], rfl, ?_⟩
      simp [go_sem, outH, outP, h0, Blk.ren, renR, rb_ren, AV.renL, AV.ren, rho, resV]
      omega

set_option maxHeartbeats 1000000 in
theorem putBytes_fn (b x : List Nat) (hb : b.length ≤ 100000) (hx : x.length < 1000000) : Rets Tryz.prog 274 [.d (nb b), .d (nb x)] (fun r => r = .d (nb (b ++ (putSize x.length ++ x)))) := by
  refine fn_of_awp Tryz.func274 (by kernel_rfl) rfl Tryz.ntmps274 (rs := [.tmp 4]) rfl (Nat.le_of_ble_eq_true rfl) (by simp [AV.deep, AV.deep1]) ?_
  have w : IntKind.u64.wrap (x.length : Int) = (x.length : Int) := by rw [u64w]; omega
  have hp5 := putSize_len x.length
  simp only [go_sem, Nat.reduceEqDiff, Nat.reduceAdd, Nat.reduceLT, ↓reduceIte, nb, List.length_map, w]
  refine cl_eff [] (putSize_own b x.length (by omega) (by omega)) rfl (by simp) (by simp) (by simp) (by simp [AV.renL, AV.ren, nb]) ?_
  rintro r hp' ⟨I, rfl, h0⟩
  refine ⟨[(I, 0)], by simp [newsB, prsB], ?_⟩
  simp [go_sem, outH, outP, h0, Blk.ren, renR, rb_ren, AV.renL, AV.ren, rho, rb_of, rb_len, resV]
  refine ⟨by omega, ?_⟩
  rw [rb_app, show b.length + (putSize x.length).length + x.length = (b ++ putSize x.length ++ x).length by simp; omega]
  exact post_bytes rfl (by simp [nb])

set_option maxHeartbeats 1000000 in
theorem treeHash_fn (x : List Nat) (hx : x.length ≤ 100000) : Rets Tryz.prog 177 [.d (nb x)] (fun r => r = .agg (cb (tagB [84, 97, 112, 76, 101, 97, 102] (192 :: (putSize x.length ++ x))))) := by
  refine fn_of_awp Tryz.func177 (by kernel_rfl) rfl Tryz.ntmps177 (rs := [.cell 2 61]) rfl (Nat.le_of_ble_eq_true rfl) (by simp [AV.deep, AV.deep1]) ?_
  have hp5 := putSize_len x.length
  simp [go_sem]
  have hs : ∀ (hp : Hp), lk 32 hp = some ⟨5, 1, rb [192]⟩ → SnapD hp (fun id => id ∈ [32]) (.own 32 0 1 1) (nb [192]) := fun hp h => by
    have := snap_rb (I := fun id => id ∈ [32]) (i0 := 0) (n := 1) (L := [192]) h (by simp) (by simp)
    exact this
  refine cl_froz [32] (putBytes_fn [192] x (by simp) (by omega)) rfl (snap_cons (.one (snap1_d (hs _ rfl))) (snap_cons (.deep (by simp [AV.deep, AV.deep1])) snap_nil)) ?_
  simp [go_sem, dropH]
  refine cl_eq (tagged_fn [84, 97, 112, 76, 101, 97, 102] (.str [84, 97, 112, 76, 101, 97, 102]) rfl (192 :: (putSize x.length ++ x)) (by simp) (by simp; omega)) (by simp [AV.deep, AV.deep1]) ?_
  have hL : (tagB [84, 97, 112, 76, 101, 97, 102] (192 :: (putSize x.length ++ x))).length = 32 := sumB_len _
  generalize tagB [84, 97, 112, 76, 101, 97, 102] (192 :: (putSize x.length ++ x)) = R at *
  simp [go_sem, resV, hL, cb_take hL, z32_drop]
  exact post_same (by simp [AV.deep]; exact cb_deep _) rfl
end Go.Proofs.YtnmnabagabejjaaGreat

/-
  Bytes compared: the function without code, and bytes.Compare.
-/
namespace Go.Proofs.YtnmnabagabejjaaGreat
open Go.Am Go.Sha
set_option linter.unusedSimpArgs false
set_option linter.unusedVariables false

def u8s (a : List Nat) : List UInt8 := Lib.bytesOf (a.map fun (x : Nat) => (x : Int))

theorem run_bytes {P : Program} {w : World} {S : Nat → Prop} {σ : Nat → Option Nat} {hp : Hp} {U : Nat → Prop} {a : List Nat} {x : Value} (h : AIs w S σ hp U (.d (nb a)) x) : (Extern.Bytes.bytesOf x).run P w = .ok ⟨(u8s a).toArray⟩ w := by
  cases h with
  | d h =>
    unfold nb at h
    generalize hes : (a.map fun (b : Nat) => [DV.int .u8 (b : Int)]) = es at h
    cases h with
    | ro _ _ A c vs hc he hA hv hd =>
      have hlen : es.length = a.length := by rw [← hes, List.length_map]
      cases A with
      | none =>
        have : a = [] := by
          cases a with
          | nil => rfl
          | cons y r =>
            obtain ⟨ad, h1, _⟩ := hA [DV.int .u8 (y : Int)] (by rw [← hes]; simp)
            cases h1
        subst this
        simp [Extern.Bytes.bytesOf, u8s, Lib.bytesOf]
        rfl
      | some ad =>
        have hl := Lib.run_loadBytesX (P := P) w (a.map fun (x : Nat) => (x : Int)) ad .empty (fun j y hj => by
          simp only [List.getElem?_map, Option.map_eq_some_iff] at hj
          obtain ⟨z, hz, rfl⟩ := hj
          have h1 : es[j]? = some [DV.int .u8 (z : Int)] := by rw [← hes, List.getElem?_map, hz]; rfl
          have h2 := hv ad rfl j 0 _ _ h1 rfl
          have h3 := hd j 0 _ _ h1 rfl
          rw [Nat.mul_one, Nat.add_zero] at h2
          rw [h2]
          generalize vs j 0 = u at h3
          cases h3
          rfl)
        rw [List.length_map] at hl
        show (Extern.Bytes.loadBytes ad es.length .empty).run P w = _
        rw [hlen, hl]
        congr 2
        simp [u8s]

theorem cmp_ext (a b : List Nat) : ExtOk Tryz.prog 428 [.d (nb a), .d (nb b)] (.d (.int .i64 (Lib.compareBytes (u8s a) (u8s b)))) := by
  intro w S σ hp U vs hl hv
  match vs, hl with
  | [x, y], _ =>
    have hx := run_bytes (P := Tryz.prog) (hv 0 _ x rfl rfl)
    have hy := run_bytes (P := Tryz.prog) (hv 1 _ y rfl rfl)
    refine ⟨.int .i64 (Lib.compareBytes (u8s a) (u8s b)), ?_, .d (.int _ _)⟩
    have hc : (Extern.BytealgCompare.compare #[x, y]).run Tryz.prog w = .ok (.int .i64 (Lib.compareBytes (u8s a) (u8s b))) w := by
      change Sem.run Tryz.prog (do pure (goInt (Extern.BytealgCompare.cmp (← Extern.Bytes.bytesOf x) (← Extern.Bytes.bytesOf y)))) w = _
      simp only [Sem.run_bind, hx, hy, Result.andThen_ok, Sem.run_pure, Lib.cmp_eq]
      rfl
    rw [run_callFunc_extern Tryz.func428 (by kernel_rfl) (by kernel_rfl) (by kernel_rfl) (e := Extern.BytealgCompare.compare) (by kernel_rfl), hc]
    rfl

theorem compare_fn (a b : List Nat) : Rets Tryz.prog 359 [.d (nb a), .d (nb b)] (fun r => r = .d (.int .i64 (Lib.compareBytes (u8s a) (u8s b)))) := by
  refine fn_of_awp Tryz.func359 (by kernel_rfl) rfl Tryz.ntmps359 (rs := [.tmp 4]) rfl (Nat.le_of_ble_eq_true rfl) (by simp [AV.deep, AV.deep1]) ?_
  simp only [go_sem, Nat.reduceEqDiff, Nat.reduceAdd, Nat.reduceLT, ↓reduceIte]
  refine cl_ext (cmp_ext a b) ?_
  simp [go_sem, resV]
  exact post_same (by simp [AV.deep, AV.deep1]) rfl
end Go.Proofs.YtnmnabagabejjaaGreat

/-
  The program's tree: branches, roots.
-/
namespace Go.Proofs.YtnmnabagabejjaaGreat
open Go.Am Go.Sha
set_option linter.unusedSimpArgs false
set_option linter.unusedVariables false

def branchTag : List Nat := [84, 97, 112, 66, 114, 97, 110, 99, 104]
def branchB (a b : List Nat) : List Nat := tagB branchTag (if 0 < Lib.compareBytes (u8s a) (u8s b) then b ++ a else a ++ b)

theorem snap_all {hp : Hp} {I : Nat → Prop} {id : Nat} {L : List Nat} (hl : L.length = 64) (hb : lk id hp = some ⟨5, 1, rb L⟩) (hI : I id) : SnapD hp I (.own id 0 64 64) (nb L) := by
  have h := snap_rb (i0 := 0) (n := 64) (L := L) hb hI (by omega)
  rw [List.drop_zero, List.take_of_length_le (by omega), hl] at h
  exact h

set_option maxHeartbeats 2000000 in
theorem branch_fn (a b : List Nat) (ha : a.length = 32) (hb : b.length = 32) : Rets Tryz.prog 275 [.agg (cb a), .agg (cb b)] (fun r => r = .agg (cb (branchB a b))) := by
  refine fn_of_awp Tryz.func275 (by kernel_rfl) rfl Tryz.ntmps275 (rs := [.cell 4 61]) rfl (Nat.le_of_ble_eq_true rfl) (by simp [AV.deep]; exact ⟨cb_deep _, cb_deep _⟩) ?_
  simp [go_sem, ha, hb]
  apply draw2 (0 :: 1 :: []) ((2, (3 :: [])) :: []) 1 (k := 4) (by kernel_rfl) (by kernel_rfl) rfl
  case hz => repeat (first | exact Its.nil | apply Its.plain rfl | apply Its.guard rfl rfl)
  case hj => repeat (first | exact Jts.nil | exact Its.nil | apply Its.plain rfl | apply Its.guard rfl rfl | apply Jts.plain rfl | apply Jts.guard rfl rfl)
  intro G hG
  simp [go_sem]
  refine cl_snap (compare_fn a b) rfl (snap_cons (.one (snap1_d (snap_arr rfl trivial ha))) (snap_cons (.one (snap1_d (snap_arr rfl trivial hb))) snap_nil)) trivial ?_
  simp [go_sem]
  refine hG _ _ ?_
  clear hG G
  by_cases hc : 0 < Lib.compareBytes (u8s a) (u8s b)
  · have hda : List.drop 32 (cb a) = [] := List.drop_eq_nil_of_le (by rw [cb_len]; omega)
    have hdb : List.drop 32 (cb b) = [] := List.drop_eq_nil_of_le (by rw [cb_len]; omega)
    simp [go_sem, hc, ha, hb, hda, hdb, cb_take ha, cb_take hb]
    apply draw2 (0 :: 1 :: []) ((2, ([])) :: (3, ([])) :: (4, ([])) :: []) 0 (k := 5) (by kernel_rfl) (by kernel_rfl) rfl
    case hz => repeat (first | exact Its.nil | apply Its.plain rfl | apply Its.guard rfl rfl)
    case hj => repeat (first | exact Jts.nil | exact Its.nil | apply Its.plain rfl | apply Its.guard rfl rfl | apply Jts.plain rfl | apply Jts.guard rfl rfl)
    intro G hG
    have hx1 := arr_rows hb
    have hx2 := arr_rows ha
    rw [rb_of] at hx1 hx2
    simp [go_sem] at hx1 hx2
    have hl : (b ++ a).length = 64 := by rw [List.length_append]; omega
    simp [go_sem]
    refine cl_froz [416] (tagged_fn branchTag (.str [84, 97, 112, 66, 114, 97, 110, 99, 104]) rfl (b ++ a) (by simp [branchTag]) (by omega)) rfl (snap_cons (.deep (by simp [AV.deep, AV.deep1])) (snap_cons (.one (snap1_d (snap_all (L := b ++ a) hl (by simp [lk]; rw [← rb_app, ← hx1, ← hx2]; rfl) (by simp)))) snap_nil)) ?_
    have hR : branchB a b = tagB branchTag (b ++ a) := by unfold branchB; rw [if_pos hc]
    rw [hR] at hG
    have hL : (tagB branchTag (b ++ a)).length = 32 := sumB_len _
    generalize tagB branchTag (b ++ a) = R at *
    simp [go_sem, dropH, hL]
    refine hG _ _ ?_
    clear hG G
    simp [go_sem, resV, hL, cb_take hL, z32_drop]
    exact post_same (by simp [AV.deep]; exact cb_deep _) rfl
  · have hda : List.drop 32 (cb a) = [] := List.drop_eq_nil_of_le (by rw [cb_len]; omega)
    have hdb : List.drop 32 (cb b) = [] := List.drop_eq_nil_of_le (by rw [cb_len]; omega)
    simp [go_sem, hc, ha, hb, hda, hdb, cb_take ha, cb_take hb]
    apply draw2 (0 :: 1 :: []) ((2, ([])) :: (3, ([])) :: (4, ([])) :: []) 0 (k := 5) (by kernel_rfl) (by kernel_rfl) rfl
    case hz => repeat (first | exact Its.nil | apply Its.plain rfl | apply Its.guard rfl rfl)
    case hj => repeat (first | exact Jts.nil | exact Its.nil | apply Its.plain rfl | apply Its.guard rfl rfl | apply Jts.plain rfl | apply Jts.guard rfl rfl)
    intro G hG
    have hx1 := arr_rows ha
    have hx2 := arr_rows hb
    rw [rb_of] at hx1 hx2
    simp [go_sem] at hx1 hx2
    have hl : (a ++ b).length = 64 := by rw [List.length_append]; omega
    simp [go_sem]
    refine cl_froz [288] (tagged_fn branchTag (.str [84, 97, 112, 66, 114, 97, 110, 99, 104]) rfl (a ++ b) (by simp [branchTag]) (by omega)) rfl (snap_cons (.deep (by simp [AV.deep, AV.deep1])) (snap_cons (.one (snap1_d (snap_all (L := a ++ b) hl (by simp [lk]; rw [← rb_app, ← hx1, ← hx2]; rfl) (by simp)))) snap_nil)) ?_
    have hR : branchB a b = tagB branchTag (a ++ b) := by unfold branchB; rw [if_neg hc]
    rw [hR] at hG
    have hL : (tagB branchTag (a ++ b)).length = 32 := sumB_len _
    generalize tagB branchTag (a ++ b) = R at *
    simp [go_sem, dropH, hL]
    refine hG _ _ ?_
    clear hG G
    simp [go_sem, resV, hL, cb_take hL, z32_drop]
    exact post_same (by simp [AV.deep]; exact cb_deep _) rfl
end Go.Proofs.YtnmnabagabejjaaGreat

/-
  The program's tree: roots.
-/
namespace Go.Proofs.YtnmnabagabejjaaGreat
open Go.Am Go.Sha
set_option linter.unusedSimpArgs false
set_option linter.unusedVariables false

/-- Bytes as deep cells. -/
def cd (l : List Nat) : List DV := l.map fun (x : Nat) => DV.int .u8 (x : Int)
theorem cd_len (l : List Nat) : (cd l).length = l.length := by simp [cd]
theorem cd_map (l : List Nat) : (cd l).map AV.d = cb l := by simp [cd, cb]
/-- Rows of bytes. -/
def hs32 (ps : List (List Nat)) : DV := .ro 32 (ps.map cd)
def leafC (inner : List Nat) (path script : AV) : List AV := cb inner ++ [path, script]
def rootB (ps : List (List Nat)) (h : List Nat) : List Nat := ps.foldl branchB h
def leafTag : List Nat := [84, 97, 112, 76, 101, 97, 102]
def leafB (x : List Nat) : List Nat := tagB leafTag (192 :: (putSize x.length ++ x))
theorem leafB_len (x : List Nat) : (leafB x).length = 32 := sumB_len _
theorem branchB_len (a b : List Nat) : (branchB a b).length = 32 := sumB_len _
theorem zleaf : tzO Tryz.prog 147 = some (leafC z32 .nil .nil) := by kernel_rfl
attribute [go_sem] zleaf
theorem cb_drop {l : List Nat} (h : l.length = 32) : List.drop 32 (cb l) = [] := List.drop_eq_nil_of_le (by rw [cb_len]; omega)
theorem leaf32 {inner : List Nat} (hi : inner.length = 32) (a b : AV) : (cb inner ++ [a, b])[32]? = some a := by
  rw [List.getElem?_append_right (by rw [cb_len]; omega), cb_len, hi]; rfl
theorem leaf33 {inner : List Nat} (hi : inner.length = 32) (a b : AV) : (cb inner ++ [a, b])[33]? = some b := by
  rw [List.getElem?_append_right (by rw [cb_len]; omega), cb_len, hi]; rfl
theorem rootB_step {ps : List (List Nat)} {k : Nat} {p h : List Nat} (hk : ps[k]? = some p) : rootB (ps.drop k) h = rootB (ps.drop (k + 1)) (branchB h p) := by
  obtain ⟨h1, h2⟩ := List.getElem?_eq_some_iff.1 hk
  unfold rootB
  rw [List.drop_eq_getElem_cons h1, List.foldl_cons, h2]

set_option maxHeartbeats 2000000 in
theorem root_fn (inner : List Nat) (ps : List (List Nat)) (x : List Nat) (hi : inner.length = 32) (hp32 : ∀ p, p ∈ ps → p.length = 32) (hps : ps.length ≤ 1000) (hx : x.length ≤ 100000) :
    Rets Tryz.prog 186 [.agg (leafC inner (.d (hs32 ps)) (.d (nb x)))] (fun r => r = .agg (cb (rootB ps (leafB x)))) := by
  refine fn_of_awp Tryz.func186 (by kernel_rfl) rfl Tryz.ntmps186 (rs := [.cell 2 61]) rfl (Nat.le_of_ble_eq_true rfl) (by
    simp [AV.deep, leafC]
    intro c hc
    rcases hc with hc | rfl | rfl
    · exact cb_deep _ _ hc
    · trivial
    · trivial) ?_
  simp [go_sem, leafC, leaf33 hi]
  refine cl_eq (treeHash_fn x hx) (by simp [AV.deep, AV.deep1]) ?_
  have hL : (tagB [84, 97, 112, 76, 101, 97, 102] (192 :: (putSize x.length ++ x))).length = 32 := sumB_len _
  have hR : rootB ps (leafB x) = rootB (ps.drop 0) (tagB [84, 97, 112, 76, 101, 97, 102] (192 :: (putSize x.length ++ x))) := by rw [List.drop_zero]; rfl
  rw [hR]
  generalize tagB [84, 97, 112, 76, 101, 97, 102] (192 :: (putSize x.length ++ x)) = R at *
  generalize hT : rootB (ps.drop 0) R = T
  clear hR
  simp [go_sem, leaf32 hi, hs32, hL, cb_take hL, z32_drop]
  refine loop_of (fun t : Nat × List Nat => ⟨[(2, .ptr 32 0 0 1), (3, .ptr 160 0 0 1), (10, .d (hs32 ps)), (11, .d (.int .i64 (ps.length : Int))), (12, .d (.int .i64 (t.1 : Int)))], [(32, ⟨61, 32, [cb z32]⟩), (160, ⟨61, 32, [cb t.2]⟩)], 1000⟩)
    (fun t => t.1 ≤ ps.length ∧ t.2.length = 32 ∧ rootB (ps.drop t.1) t.2 = T) (fun t => ps.length - t.1) (0, R) ⟨by omega, hL, hT⟩ (by
      simp [Weak, slotOk, fv, lk, AV.low, AV.low1, hs32]
      exact ⟨cb_low _ _, cb_low _ _⟩) ?_
  rintro ⟨k, h⟩ ⟨hk, hh, hT'⟩
  simp only at hk hh hT'
  simp only [go_sem, Nat.reduceEqDiff, Nat.reduceAdd, Nat.reduceLT, ↓reduceIte]
  refine ⟨fun hlt => ?_, fun hge => ?_⟩
  · have hlt' : k < ps.length := by omega
    have hp := List.getElem?_eq_getElem hlt'
    generalize ps[k] = p at hp
    have hpl : p.length = 32 := hp32 p (List.mem_of_getElem? hp)
    rw [rootB_step hp] at hT'
    simp [go_sem, hs32, hp, cd_len, hpl, cd_map, cb_take hpl, cb_len, hh, cb_take hh, z32_drop]
    refine cl_eq (branch_fn h p hh hpl) (by simp [AV.deep]; exact ⟨cb_deep _, cb_deep _⟩) ?_
    have hB := branchB_len h p
    generalize branchB h p = B at *
    simp [go_sem, cb_len, hB, hh, cb_take hB, cb_drop hh]
    refine next_of (k + 1, B) ⟨by omega, hB, hT'⟩ (by omega) ?_
    have w := next_i64 (k := k) (by omega)
    simp [Weak, slotOk, fv, lk, AV.low, AV.low1, hs32, w]
    exact ⟨cb_low _ _, cb_low _ _⟩
  · have hkn : k = ps.length := by omega
    subst hkn
    have : T = h := by rw [← hT', List.drop_length]; rfl
    subst this
    simp [go_sem, resV, hh, cb_take hh, z32_drop]
    exact post_same (by simp [AV.deep]; exact cb_deep _) rfl

theorem keyOf_fn (k : List Nat) (hk : k.length = 32) : Rets Tryz.prog 414 [.d (nb (81 :: 32 :: k))] (fun r => r = .tup [.agg (cb k), .d (.bool true)]) := by
  refine fn_of_awp Tryz.func414 (by kernel_rfl) rfl Tryz.ntmps414 (rs := [.cell 2 61, .tmp 3]) rfl (Nat.le_of_ble_eq_true rfl) (by simp [AV.deep, AV.deep1]) ?_
  have e1 : List.take 32 (List.map (fun (b : Nat) => [DV.int .u8 (b : Int)]) k) = List.map (fun (b : Nat) => [DV.int .u8 (b : Int)]) k := List.take_of_length_le (by simp [hk])
  have e2 : (List.map (fun (b : Nat) => [DV.int .u8 (b : Int)]) k).flatten = cd k := by
    clear hk e1
    induction k with
    | nil => rfl
    | cons x r ih => simp only [List.map_cons, List.flatten_cons, ih]; rfl
  simp [go_sem, nb, hk, e1, e2, -List.map_flatten, -List.length_flatten, cd_map, cd_len, cb_len, cb_take hk, z32_drop, resV]
  exact post_same (by simp [AV.deep, AV.deep1]; exact cb_deep _) rfl

theorem readNil_fn (x : List Nat) : Rets Tryz.prog 494 [.nil, .d (nb x)] (fun r => r = .tup [.agg (leafC z32 .nil .nil), .d (.bool false), .d (.int .i64 26)]) := by
  refine fn_of_awp Tryz.func494 (by kernel_rfl) rfl Tryz.ntmps494 (rs := [.cell 4 147, .tmp 5, .tmp 6]) rfl (Nat.le_of_ble_eq_true rfl) (by simp [AV.deep, AV.deep1]) ?_
  have w : IntKind.i64.wrap (-33) = -33 := by decide
  simp [go_sem, w, resV, leafC, cb_len, z32]
  show PostK _ (AV.tup [AV.agg (leafC z32 .nil .nil), AV.d (DV.bool false), AV.d (DV.int IntKind.i64 26)]) _
  refine post_same ?_ rfl
  simp [AV.deep, AV.deep1, leafC]
  intro c hc
  rcases hc with hc | rfl
  · exact cb_deep _ _ hc
  · trivial
end Go.Proofs.YtnmnabagabejjaaGreat
