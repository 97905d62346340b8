/-
 Part 15.
-/
import Derived.Test.YtmfnimjnneflnaaGreatN13
set_option linter.unusedVariables false
set_option linter.unusedSimpArgs false
set_option maxRecDepth 100000
set_option maxHeartbeats 16000000
open Go.Proofs.Tryz
namespace Go.Proofs.YtmfnimjnneflnaaGreat
open Go.ChangeShapes Go.WideShapes Go.ChangeAt Go.RowKit
theorem MD:(Rows.planWithdrawsRow.inPlace==(Checked.prog (Pinned.checked Tryz.pinned)).inPlace 9)=true:=by kernel_rfl
theorem Dp:(Rows.planWithdrawsRow.unfollowed==(Checked.prog (Pinned.checked Tryz.pinned)).unfollowed 9)=true:=by kernel_rfl
theorem Il:(Rows.planWithdrawsRow.recurses==(Checked.prog (Pinned.checked Tryz.pinned)).recurses 9)=true:=by kernel_rfl
theorem ae2:(Rows.planWithdrawsRow.named==(Checked.prog (Pinned.checked Tryz.pinned)).varsNamed 9)=true:=by kernel_rfl
end Go.Proofs.YtmfnimjnneflnaaGreat
