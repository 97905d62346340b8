/-
  NodeNil: closed facts of the row, each for itself (together they outgrow the kernel's memory).
-/
import Derived.Test.YtnmnabagabejjaaGreatRows
import Derived.Test.YtnmnabagabejjaaGreatNdg
namespace Go.Proofs.YtnmnabagabejjaaGreat
open Go.ChangeShapes Go.WideShapes Go.ChangeAt Go.RowKit Go.Am

theorem c_inPlace : (Rows.nodeNilRow.inPlace == (Checked.prog (Pinned.checked Tryz.pinned)).inPlace 3) = true := by kernel_rfl
theorem c_unfollowed : (Rows.nodeNilRow.unfollowed == (Checked.prog (Pinned.checked Tryz.pinned)).unfollowed 3) = true := by kernel_rfl
theorem c_recurses : (Rows.nodeNilRow.recurses == (Checked.prog (Pinned.checked Tryz.pinned)).recurses 3) = true := by kernel_rfl
theorem c_nm : (Rows.nodeNilRow.named == (Checked.prog (Pinned.checked Tryz.pinned)).varsNamed 3) = true := by kernel_rfl
end Go.Proofs.YtnmnabagabejjaaGreat
