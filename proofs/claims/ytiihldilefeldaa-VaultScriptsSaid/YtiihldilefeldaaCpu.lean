/-
  The program's compact: numbers laid into bytes of one's own; sizes, strings.
-/
import Derived.Test.YtiihldilefeldaaCpt
namespace Go.Sha
def t16 (a : Nat) : Nat := a % 65536
def putSize (n : Nat) : List Nat := if n < 253 then le (t8 n) 1 else if n < 65536 then le 253 1 ++ le (t16 n) 2 else le 254 1 ++ le (t32 n) 4
theorem putSize_len (n : Nat) : (putSize n).length ≤ 5 := by
  unfold putSize
  split
  · simp [le_len]
  · split <;> simp [le_len]
end Go.Sha
namespace Go.Proofs.Ytiihldilefeldaa
open Go.Am Go.Sha
set_option linter.unusedSimpArgs false
set_option linter.unusedVariables false

set_option maxHeartbeats 1000000 in
theorem lay8_own (b : List Nat) (x n : Nat) (hb : b.length ≤ 1000000) (hx : x < 256) (hn : n ≤ 8) : RetsE Try.prog 98 0 [] [.d (nb b), .d (.int .u8 (x : Int)), .d (.int .i64 (n : Int))] (fun r hp' => r = .own 225 0 (b ++ le x n).length (b ++ le x n).length ∧ lk 225 hp' = some ⟨5, 1, rb (b ++ le x n)⟩) := by
  refine fnE_of_awp Try.func98 (by kernel_rfl) rfl Try.ntmps98 (rs := [.tmp 6]) rfl (Nat.le_of_ble_eq_true rfl) (by decide) ?_
  have w1 : IntKind.i64.wrap ((b.length : Int) + (n : Int)) = ((b.length + n : Nat) : Int) := by rw [IntWalk.i64_in _ (by omega)]; omega
  have w2 : IntKind.u64.wrap (x : Int) = (x : Int) := by rw [u64w]; omega
  have hr : List.replicate b.length [AV.d (.int .u8 0)] = rb (List.replicate b.length 0) := by simp [rb]
  simp only [go_sem, Nat.reduceEqDiff, Nat.reduceAdd, Nat.reduceLT, ↓reduceIte, Nat.reduceMul, w1, w2, nb, List.length_map, Int.toNat_natCast, hr]
  simp [go_sem, rb_of, rb_len]
  rw [cat_rb]
  refine ⟨by omega, by omega, by omega, by omega, ?_⟩
  refine loop_of (fun k : Nat => ⟨[(7, .own 225 0 (b ++ le x k).length (b ++ le x k).length), (8, .d (.int .u64 ((r32 (8 * k) x : Nat) : Int))), (21, .d (.int .i64 (n : Int))), (22, .d (.int .i64 (k : Int)))], [(225, ⟨5, 1, rb (b ++ le x k)⟩)], 545⟩)
    (fun k => k ≤ n) (fun k => n - k) 0 (by omega) (by
      simp [Weak, slotOk, fv, lk, AV.low, AV.low1, le, r32]
      exact rb_low _ _) ?_
  intro k hk
  have hl : (b ++ le x k).length = b.length + k := by rw [List.length_append, le_len]
  have hs : rb (b ++ le x k) ++ [[AV.d (.int .u8 ((t8 (r32 (8 * k) x) : Nat) : Int))]] = rb (b ++ le x (k + 1)) := by rw [rb_snoc, List.append_assoc]; rfl
  have w5 := next_i64 (k := k) (by omega)
  simp only [go_sem, Nat.reduceEqDiff, Nat.reduceAdd, Nat.reduceLT, ↓reduceIte]
  refine ⟨fun h => ?_, fun h => ?_⟩
  · simp [go_sem, w8_nat, rb_len, hs, le_len, IntKind.bits, d_r8, r32_8, w5]
    refine ⟨by omega, ?_⟩
    refine next_of (k + 1) (by omega) (by omega) ?_
    simp [Weak, slotOk, fv, lk, AV.low, AV.low1, le_len]
    exact ⟨by omega, rb_low _ _⟩
  · have hkn : k = n := by omega
    subst hkn
    simp [go_sem, resV]

set_option maxHeartbeats 1000000 in
theorem lay16_own (b : List Nat) (x n : Nat) (hb : b.length ≤ 1000000) (hx : x < 65536) (hn : n ≤ 8) : RetsE Try.prog 99 0 [] [.d (nb b), .d (.int .u16 (x : Int)), .d (.int .i64 (n : Int))] (fun r hp' => r = .own 225 0 (b ++ le x n).length (b ++ le x n).length ∧ lk 225 hp' = some ⟨5, 1, rb (b ++ le x n)⟩) := by
  refine fnE_of_awp Try.func99 (by kernel_rfl) rfl Try.ntmps99 (rs := [.tmp 6]) rfl (Nat.le_of_ble_eq_true rfl) (by decide) ?_
  have w1 : IntKind.i64.wrap ((b.length : Int) + (n : Int)) = ((b.length + n : Nat) : Int) := by rw [IntWalk.i64_in _ (by omega)]; omega
  have w2 : IntKind.u64.wrap (x : Int) = (x : Int) := by rw [u64w]; omega
  have hr : List.replicate b.length [AV.d (.int .u8 0)] = rb (List.replicate b.length 0) := by simp [rb]
  simp only [go_sem, Nat.reduceEqDiff, Nat.reduceAdd, Nat.reduceLT, ↓reduceIte, Nat.reduceMul, w1, w2, nb, List.length_map, Int.toNat_natCast, hr]
  simp [go_sem, rb_of, rb_len]
  rw [cat_rb]
  refine ⟨by omega, by omega, by omega, by omega, ?_⟩
  refine loop_of (fun k : Nat => ⟨[(7, .own 225 0 (b ++ le x k).length (b ++ le x k).length), (8, .d (.int .u64 ((r32 (8 * k) x : Nat) : Int))), (21, .d (.int .i64 (n : Int))), (22, .d (.int .i64 (k : Int)))], [(225, ⟨5, 1, rb (b ++ le x k)⟩)], 545⟩)
    (fun k => k ≤ n) (fun k => n - k) 0 (by omega) (by
      simp [Weak, slotOk, fv, lk, AV.low, AV.low1, le, r32]
      exact rb_low _ _) ?_
  intro k hk
  have hl : (b ++ le x k).length = b.length + k := by rw [List.length_append, le_len]
  have hs : rb (b ++ le x k) ++ [[AV.d (.int .u8 ((t8 (r32 (8 * k) x) : Nat) : Int))]] = rb (b ++ le x (k + 1)) := by rw [rb_snoc, List.append_assoc]; rfl
  have w5 := next_i64 (k := k) (by omega)
  simp only [go_sem, Nat.reduceEqDiff, Nat.reduceAdd, Nat.reduceLT, ↓reduceIte]
  refine ⟨fun h => ?_, fun h => ?_⟩
  · simp [go_sem, w8_nat, rb_len, hs, le_len, IntKind.bits, d_r8, r32_8, w5]
    refine ⟨by omega, ?_⟩
    refine next_of (k + 1) (by omega) (by omega) ?_
    simp [Weak, slotOk, fv, lk, AV.low, AV.low1, le_len]
    exact ⟨by omega, rb_low _ _⟩
  · have hkn : k = n := by omega
    subst hkn
    simp [go_sem, resV]

set_option maxHeartbeats 1000000 in
theorem lay32_own (b : List Nat) (x n : Nat) (hb : b.length ≤ 1000000) (hx : x < 4294967296) (hn : n ≤ 8) : RetsE Try.prog 100 0 [] [.d (nb b), .d (.int .u32 (x : Int)), .d (.int .i64 (n : Int))] (fun r hp' => r = .own 225 0 (b ++ le x n).length (b ++ le x n).length ∧ lk 225 hp' = some ⟨5, 1, rb (b ++ le x n)⟩) := by
  refine fnE_of_awp Try.func100 (by kernel_rfl) rfl Try.ntmps100 (rs := [.tmp 6]) rfl (Nat.le_of_ble_eq_true rfl) (by decide) ?_
  have w1 : IntKind.i64.wrap ((b.length : Int) + (n : Int)) = ((b.length + n : Nat) : Int) := by rw [IntWalk.i64_in _ (by omega)]; omega
  have w2 : IntKind.u64.wrap (x : Int) = (x : Int) := by rw [u64w]; omega
  have hr : List.replicate b.length [AV.d (.int .u8 0)] = rb (List.replicate b.length 0) := by simp [rb]
  simp only [go_sem, Nat.reduceEqDiff, Nat.reduceAdd, Nat.reduceLT, ↓reduceIte, Nat.reduceMul, w1, w2, nb, List.length_map, Int.toNat_natCast, hr]
  simp [go_sem, rb_of, rb_len]
  rw [cat_rb]
  refine ⟨by omega, by omega, by omega, by omega, ?_⟩
  refine loop_of (fun k : Nat => ⟨[(7, .own 225 0 (b ++ le x k).length (b ++ le x k).length), (8, .d (.int .u64 ((r32 (8 * k) x : Nat) : Int))), (21, .d (.int .i64 (n : Int))), (22, .d (.int .i64 (k : Int)))], [(225, ⟨5, 1, rb (b ++ le x k)⟩)], 545⟩)
    (fun k => k ≤ n) (fun k => n - k) 0 (by omega) (by
      simp [Weak, slotOk, fv, lk, AV.low, AV.low1, le, r32]
      exact rb_low _ _) ?_
  intro k hk
  have hl : (b ++ le x k).length = b.length + k := by rw [List.length_append, le_len]
  have hs : rb (b ++ le x k) ++ [[AV.d (.int .u8 ((t8 (r32 (8 * k) x) : Nat) : Int))]] = rb (b ++ le x (k + 1)) := by rw [rb_snoc, List.append_assoc]; rfl
  have w5 := next_i64 (k := k) (by omega)
  simp only [go_sem, Nat.reduceEqDiff, Nat.reduceAdd, Nat.reduceLT, ↓reduceIte]
  refine ⟨fun h => ?_, fun h => ?_⟩
  · simp [go_sem, w8_nat, rb_len, hs, le_len, IntKind.bits, d_r8, r32_8, w5]
    refine ⟨by omega, ?_⟩
    refine next_of (k + 1) (by omega) (by omega) ?_
    simp [Weak, slotOk, fv, lk, AV.low, AV.low1, le_len]
    exact ⟨by omega, rb_low _ _⟩
  · have hkn : k = n := by omega
    subst hkn
    simp [go_sem, resV]

theorem w16_nat (a : Nat) : IntKind.u16.wrap (a : Int) = ((t16 a : Nat) : Int) := by
  have : IntKind.u16.wrap (a : Int) = (a : Int) % 65536 := by simp [IntKind.wrap, IntKind.bits, IntKind.signed]
  rw [this]; unfold t16; omega

set_option maxHeartbeats 1000000 in
theorem putSize_own (b : List Nat) (n : Nat) (hb : b.length ≤ 100000) (hn : n < 4294967296) : RetsE Try.prog 76 0 [] [.d (nb b), .d (.int .u64 (n : Int))] (fun r hp' => ∃ I, r = .own I 0 (b ++ putSize n).length (b ++ putSize n).length ∧ lk I hp' = some ⟨5, 1, rb (b ++ putSize n)⟩) := by
  refine fnE_of_awp Try.func76 (by kernel_rfl) rfl Try.ntmps76 (rs := [.tmp 4]) rfl (Nat.le_of_ble_eq_true rfl) (by decide) ?_
  by_cases h1 : n < 253
  · have e : putSize n = le (t8 n) 1 := by unfold putSize; rw [if_pos h1]
    rw [e]
    have i1 : (n : Int) < 253 := by omega
    simp [go_sem, i1, w8_nat]
    refine cl_eff [] (lay8_own b (t8 n) 1 (by omega) (by unfold t8; omega) (by omega)) rfl (by simp) (by simp) (by simp) (by simp [AV.renL, AV.ren]) ?_
    rintro r hp' ⟨rfl, h0⟩
    refine ⟨[(225, 0)], rfl, ?_⟩
    simp [go_sem, outH, outP, h0, Blk.ren, renR, rb_ren, AV.renL, AV.ren, rho, resV]
  · have i1 : ¬ (n : Int) < 253 := by omega
    by_cases h2 : n < 65536
    · have e : putSize n = le 253 1 ++ le (t16 n) 2 := by unfold putSize; rw [if_neg h1, if_pos h2]
      have i2 : (n : Int) < 65536 := by omega
      rw [e, ← List.append_assoc]
      simp [go_sem, i1, i2, -List.append_assoc]
      refine cl_eq (lay8_fn b 253 1 (by omega) (by omega) (by omega)) (by simp [AV.deep, AV.deep1]) ?_
      simp [go_sem, w16_nat, -List.append_assoc]
      refine cl_eff [] (lay16_own (b ++ le 253 1) (t16 n) 2 (by rw [List.length_append, le_len]; omega) (by unfold t16; omega) (by omega)) rfl (by simp) (by simp) (by simp) (by simp [AV.renL, AV.ren]) ?_
      rintro r hp' ⟨rfl, h0⟩
      refine ⟨[(225, 0)], rfl, ?_⟩
      simp [go_sem, outH, outP, h0, Blk.ren, renR, rb_ren, AV.renL, AV.ren, rho, resV]
      omega
    · have e : putSize n = le 254 1 ++ le (t32 n) 4 := by unfold putSize; rw [if_neg h1, if_neg h2]
      have i2 : ¬ (n : Int) < 65536 := by omega
      have i3 : (n : Int) < 4294967296 := by omega
      rw [e, ← List.append_assoc]
      simp [go_sem, i1, i2, i3, -List.append_assoc]
      refine cl_eq (lay8_fn b 254 1 (by omega) (by omega) (by omega)) (by simp [AV.deep, AV.deep1]) ?_
      simp [go_sem, w_nat, -List.append_assoc]
      refine cl_eff [] (lay32_own (b ++ le 254 1) (t32 n) 4 (by rw [List.length_append, le_len]; omega) (by unfold t32; omega) (by omega)) rfl (by simp) (by simp) (by simp) (by simp [AV.renL, AV.ren]) ?_
      rintro r hp' ⟨rfl, h0⟩
      refine ⟨[(225, 0)], rfl, ?_⟩
      simp [go_sem, outH, outP, h0, Blk.ren, renR, rb_ren, AV.renL, AV.ren, rho, resV]
      omega

set_option maxHeartbeats 1000000 in
theorem putBytes_fn (b x : List Nat) (hb : b.length ≤ 100000) (hx : x.length < 1000000) : Rets Try.prog 43 [.d (nb b), .d (nb x)] (fun r => r = .d (nb (b ++ (putSize x.length ++ x)))) := by
  refine fn_of_awp Try.func43 (by kernel_rfl) rfl Try.ntmps43 (rs := [.tmp 4]) rfl (Nat.le_of_ble_eq_true rfl) (by simp [AV.deep, AV.deep1]) ?_
  have w : IntKind.u64.wrap (x.length : Int) = (x.length : Int) := by rw [u64w]; omega
  have hp5 := putSize_len x.length
  simp only [go_sem, Nat.reduceEqDiff, Nat.reduceAdd, Nat.reduceLT, ↓reduceIte, nb, List.length_map, w]
  refine cl_eff [] (putSize_own b x.length (by omega) (by omega)) rfl (by simp) (by simp) (by simp) (by simp [AV.renL, AV.ren, nb]) ?_
  rintro r hp' ⟨I, rfl, h0⟩
  refine ⟨[(I, 0)], by simp [newsB, prsB], ?_⟩
  simp [go_sem, outH, outP, h0, Blk.ren, renR, rb_ren, AV.renL, AV.ren, rho, rb_of, rb_len, resV]
  refine ⟨by omega, ?_⟩
  rw [rb_app, show b.length + (putSize x.length).length + x.length = (b ++ putSize x.length ++ x).length by simp; omega]
  exact post_bytes rfl (by simp [nb])

set_option maxHeartbeats 1000000 in
theorem treeHash_fn (x : List Nat) (hx : x.length ≤ 100000) : Rets Try.prog 11 [.d (nb x)] (fun r => r = .agg (cb (tagB [84, 97, 112, 76, 101, 97, 102] (192 :: (putSize x.length ++ x))))) := by
  refine fn_of_awp Try.func11 (by kernel_rfl) rfl Try.ntmps11 (rs := [.cell 2 22]) rfl (Nat.le_of_ble_eq_true rfl) (by simp [AV.deep, AV.deep1]) ?_
  have hp5 := putSize_len x.length
  simp [go_sem]
  have hs : ∀ (hp : Hp), lk 32 hp = some ⟨5, 1, rb [192]⟩ → SnapD hp (fun id => id ∈ [32]) (.own 32 0 1 1) (nb [192]) := fun hp h => by
    have := snap_rb (I := fun id => id ∈ [32]) (i0 := 0) (n := 1) (L := [192]) h (by simp) (by simp)
    exact this
  refine cl_froz [32] (putBytes_fn [192] x (by simp) (by omega)) rfl (snap_cons (.one (snap1_d (hs _ rfl))) (snap_cons (.deep (by simp [AV.deep, AV.deep1])) snap_nil)) ?_
  simp [go_sem, dropH]
  refine cl_eq (tagged_fn [84, 97, 112, 76, 101, 97, 102] (.str [84, 97, 112, 76, 101, 97, 102]) rfl (192 :: (putSize x.length ++ x)) (by simp) (by simp; omega)) (by simp [AV.deep, AV.deep1]) ?_
  have hL : (tagB [84, 97, 112, 76, 101, 97, 102] (192 :: (putSize x.length ++ x))).length = 32 := sumB_len _
  generalize tagB [84, 97, 112, 76, 101, 97, 102] (192 :: (putSize x.length ++ x)) = R at *
  simp [go_sem, resV, hL, cb_take hL, z32_drop]
  exact post_same (by simp [AV.deep]; exact cb_deep _) rfl
end Go.Proofs.Ytiihldilefeldaa
