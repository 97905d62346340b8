/-
  Whether inputs wait; the law RulesCoins.
-/
import Derived.Test.YtbkbcjhghmlphaaGreatRcc
namespace Go.Proofs.YtbkbcjhghmlphaaGreat
open Go.Am Go.Sha
set_option linter.unusedSimpArgs false
set_option linter.unusedVariables false

/-- Whether inputs wait long enough, from place k on. -/
def waitsL (h : Nat) (cs : List Co) : Nat → List Ip → Int
  | _, [] => 0
  | k, i :: r => if 2147483648 ≤ i.seq then waitsL h cs (k + 1) r else if i.seq / 4194304 % 2 = 1 then 22 else if h < i.seq % 65536 + ((cs[k]?.map Co.height).getD 0) then 22 else waitsL h cs (k + 1) r
def waitsV (t : Tn) (cs : List Co) (h : Nat) : Int := if cs.length ≠ t.ins.length then 1 else if t.ver < 2 then 0 else waitsL h cs 0 t.ins
theorem b_31 (x : Nat) (h : x < 4294967296) : bits .and .u32 (x : Int) 2147483648 = ((if 2147483648 ≤ x then 2147483648 else 0 : Nat) : Int) := by
  have := w_and x 2147483648
  unfold n32 at this
  rw [and31 x h] at this
  rw [show (2147483648 : Int) = ((2147483648 : Nat) : Int) from rfl, this]
  split <;> rfl
theorem b_22 (x : Nat) : bits .and .u32 (x : Int) 4194304 = ((if x / 4194304 % 2 = 1 then 4194304 else 0 : Nat) : Int) := by
  have := w_and x 4194304
  unfold n32 at this
  rw [and22 x] at this
  rw [show (4194304 : Int) = ((4194304 : Nat) : Int) from rfl, this]
  split <;> rfl
theorem b_16 (x : Nat) : bits .and .u32 (x : Int) 65535 = ((x % 65536 : Nat) : Int) := by
  have := w_and x 65535
  unfold n32 at this
  rw [and16 x] at this
  rw [show (65535 : Int) = ((65535 : Nat) : Int) from rfl, this]
  congr 1
  omega

theorem sub31_fn : Rets Tryz.prog 9 [.d (.int .u32 31)] (fun r => r = .d (.int .u64 5000000000)) := by
  refine fn_of_awp Tryz.func9 (by kernel_rfl) rfl Tryz.ntmps9 (rs := [.tmp 2]) rfl (Nat.le_of_ble_eq_true rfl) (by simp [AV.deep, AV.deep1]) ?_
  simp [go_sem, IntKind.wrap, IntKind.bits, IntKind.signed]
  exact post_same (by simp [AV.deep, AV.deep1]) rfl
theorem sub32_fn : Rets Tryz.prog 9 [.d (.int .u32 32)] (fun r => r = .d (.int .u64 2500000000)) := by
  refine fn_of_awp Tryz.func9 (by kernel_rfl) rfl Tryz.ntmps9 (rs := [.tmp 2]) rfl (Nat.le_of_ble_eq_true rfl) (by simp [AV.deep, AV.deep1]) ?_
  simp [go_sem, IntKind.wrap, IntKind.bits, IntKind.signed]
  exact post_same (by simp [AV.deep, AV.deep1]) rfl
def t0 : Tn := ⟨0, [], [], 0⟩
theorem sm0 : Sm t0 := ⟨⟨by simp [t0], by simp [t0], by simp [t0], by simp [t0]⟩, by simp [t0], by simp [t0], by simp [t0], by simp [t0]⟩
theorem check0 : checkT t0 = 0 := by
  have h := bareB_len sm0
  have e : wholeB t0 = bareB t0 := by simp [wholeB, witsB, t0]
  unfold checkT
  rw [e, if_neg (by omega)]
theorem checkNil_fn : Rets Tryz.prog 11 [.agg (eT t0), .d (.bool false)] (fun r => r = .d (.int .i64 30)) := by
  refine fn_of_awp Tryz.func11 (by kernel_rfl) rfl Tryz.ntmps11 (rs := [.tmp 4]) rfl (Nat.le_of_ble_eq_true rfl) (by simp [AV.deep, AV.deep1, eT]) ?_
  simp [go_sem, eT, t0]
  refine cl_eq (checkT_fn t0 sm0) (by simp [AV.deep, AV.deep1, eT]) ?_
  rw [check0]
  simp [go_sem]
  exact post_same (by simp [AV.deep, AV.deep1]) rfl
theorem finalNil_fn : Rets Tryz.prog 12 [.agg (eT t0), .d (.int .u32 0), .d (.int .u32 0)] (fun r => r = .d (.bool true)) := by
  refine fn_of_awp Tryz.func12 (by kernel_rfl) rfl Tryz.ntmps12 (rs := [.tmp 6]) rfl (Nat.le_of_ble_eq_true rfl) (by simp [AV.deep, AV.deep1, eT]) ?_
  simp [go_sem, eT, t0]
  exact post_same (by simp [AV.deep, AV.deep1]) rfl
theorem snap_t0 {hp : Hp} {I : Nat → Prop} : Snap hp I (.agg [.d (.int .u32 0), .nil, .nil, .d (.int .u32 0)]) (.agg (eT t0)) :=
  .agg ⟨rfl, snap1_cons (snap1_same trivial) (snap1_cons (snap1_d (.nil 35)) (snap1_cons (snap1_d (.nil 2)) (snap1_cons (snap1_same trivial) snap1_nil)))⟩

set_option maxHeartbeats 4000000 in
theorem alive26_fn : Rets Tryz.prog 5 [] (fun r => r = .d (.bool true)) := by
  refine fn_of_awp Tryz.func5 (by kernel_rfl) rfl Tryz.ntmps5 (rs := [.tmp 0]) rfl (Nat.le_of_ble_eq_true rfl) (by simp [AV.deep, AV.deep1]) ?_
  simp [go_sem]
  refine cl_eq sub31_fn (by simp [AV.deep, AV.deep1]) ?_
  simp [go_sem]
  refine cl_eq sub32_fn (by simp [AV.deep, AV.deep1]) ?_
  simp [go_sem]
  have hm : (if [5, 1, 3].length = 0 then 0 else medV [5, 1, 3]) = 3 := by decide
  refine cl_froz [256] (median_fn [5, 1, 3] (by simp)) rfl (snap_cons (.one (snap1_d (snap_rw4 (L := [5, 1, 3]) rfl (by simp)))) snap_nil) ?_
  rw [hm]
  simp [go_sem, dropH]
  refine cl_froz [] checkNil_fn rfl (snap_cons snap_t0 (snap_cons (.deep (by simp [AV.deep, AV.deep1])) snap_nil)) ?_
  simp [go_sem, dropH]
  refine cl_froz [] finalNil_fn rfl (snap_cons snap_t0 (snap_cons (.deep (by simp [AV.deep, AV.deep1])) (snap_cons (.deep (by simp [AV.deep, AV.deep1])) snap_nil))) ?_
  simp [go_sem, dropH, resV]
  exact post_same (by simp [AV.deep, AV.deep1]) rfl

set_option maxRecDepth 100000
end Go.Proofs.YtbkbcjhghmlphaaGreat
