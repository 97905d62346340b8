/-
  Pool: a transaction of noughts is refused.
-/
import Derived.Test.YthieefhjokekmaaGreatPob
namespace Go.Proofs.YthieefhjokekmaaGreat
open Go.Am Go.Sha
set_option linter.unusedSimpArgs false
set_option linter.unusedVariables false

def tNo : Tn := ⟨0, [], [], 0⟩
def zT : List AV := [.d (.int .u32 0), .nil, .nil, .d (.int .u32 0)]
theorem zT_deep : ∀ v, v ∈ [AV.agg zT, AV.d (.bool false)] → v.deep := by simp [AV.deep, AV.deep1, zT]
theorem tNo_sm : Sm tNo := by
  refine ⟨⟨by decide, by decide, ?_, ?_⟩, ?_, ?_, ?_, ?_⟩ <;> simp [tNo]
theorem zT_snap (hp : Hp) (I : Nat → Prop) : SnapC hp I zT (eT tNo) := by
  refine ⟨rfl, fun i c c' h1 h2 => ?_⟩
  match i with
  | 0 => cases h1; cases h2; exact .inl ⟨rfl, trivial⟩
  | 1 => cases h1; cases h2; exact .inr ⟨_, rfl, .nil 35⟩
  | 2 => cases h1; cases h2; exact .inr ⟨_, rfl, .nil 2⟩
  | 3 => cases h1; cases h2; exact .inl ⟨rfl, trivial⟩
  | k + 4 => cases h1
theorem check0_val : checkT tNo = 0 := by kernel_rfl
theorem check0_fn : Rets Tryz.prog 104 [.agg zT, .d (.bool false)] (fun r => r = .d (.int .i64 30)) := by
  refine fn_of_awp Tryz.func104 (by kernel_rfl) rfl Tryz.ntmps104 (rs := [.tmp 4]) rfl (Nat.le_of_ble_eq_true rfl) zT_deep ?_
  simp [go_sem, zT]
  refine cl_froz [] (checkT_fn tNo tNo_sm) rfl (snap_cons (.agg (zT_snap _ _)) snap_nil) ?_
  simp [go_sem, check0_val, dropH, resV]
  exact post_same (by simp [AV.deep, AV.deep1]) rfl
end Go.Proofs.YthieefhjokekmaaGreat
