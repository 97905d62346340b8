/-
 Part 15 of what the claim rests on.
-/
import Derived.Test.YtmfnimjnneflnaaGreatX13
import Derived.Test.YtmfnimjnneflnaaGreatRows
set_option linter.unusedVariables false
set_option linter.unusedSimpArgs false
set_option maxRecDepth 100000
set_option maxHeartbeats 16000000
namespace Go.Proofs.YtmfnimjnneflnaaGreat
open Go.ChangeShapes Go.WideShapes Go.ChangeAt Go.RowKit Go.Am
theorem LH:(Rows.planRecoversRow.inPlace==(Checked.prog (Pinned.checked Tryz.pinned)).inPlace 8)=true:=by kernel_rfl
theorem C2:(Rows.planRecoversRow.unfollowed==(Checked.prog (Pinned.checked Tryz.pinned)).unfollowed 8)=true:=by kernel_rfl
theorem HO:(Rows.planRecoversRow.recurses==(Checked.prog (Pinned.checked Tryz.pinned)).recurses 8)=true:=by kernel_rfl
theorem aeC:(Rows.planRecoversRow.named==(Checked.prog (Pinned.checked Tryz.pinned)).varsNamed 8)=true:=by kernel_rfl
end Go.Proofs.YtmfnimjnneflnaaGreat
