/-
 Part 17 of what the claim rests on.
-/
import Derived.Test.YtmfnimjnneflnaaGreatD15
import Derived.Test.YtmfnimjnneflnaaGreatRows
set_option linter.unusedVariables false
set_option linter.unusedSimpArgs false
set_option maxRecDepth 100000
set_option maxHeartbeats 16000000
namespace Go.Proofs.YtmfnimjnneflnaaGreat
open Go.ChangeShapes Go.WideShapes Go.ChangeAt Go.RowKit Go.Am
theorem JP:(Rows.planTriggersRow.inPlace==(Checked.prog (Pinned.checked Tryz.pinned)).inPlace 12)=true:=by kernel_rfl
theorem Bt:(Rows.planTriggersRow.unfollowed==(Checked.prog (Pinned.checked Tryz.pinned)).unfollowed 12)=true:=by kernel_rfl
theorem GF:(Rows.planTriggersRow.recurses==(Checked.prog (Pinned.checked Tryz.pinned)).recurses 12)=true:=by kernel_rfl
theorem adv:(Rows.planTriggersRow.named==(Checked.prog (Pinned.checked Tryz.pinned)).varsNamed 12)=true:=by kernel_rfl
end Go.Proofs.YtmfnimjnneflnaaGreat
