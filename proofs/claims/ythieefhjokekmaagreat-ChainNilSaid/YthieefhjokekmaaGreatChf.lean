/-
  ChainNil: closed facts of the row, each for itself (together they outgrow the kernel's memory).
-/
import Derived.Test.YthieefhjokekmaaGreatChe
namespace Go.Proofs.YthieefhjokekmaaGreat
open Go.ChangeShapes Go.WideShapes Go.ChangeAt Go.RowKit Go.Am

theorem c_inPlace : (Rows.chainNilRow.inPlace == (Checked.prog (Pinned.checked Tryz.pinned)).inPlace 4) = true := by kernel_rfl
theorem c_unfollowed : (Rows.chainNilRow.unfollowed == (Checked.prog (Pinned.checked Tryz.pinned)).unfollowed 4) = true := by kernel_rfl
theorem c_recurses : (Rows.chainNilRow.recurses == (Checked.prog (Pinned.checked Tryz.pinned)).recurses 4) = true := by kernel_rfl
theorem c_nm : (Rows.chainNilRow.named == (Checked.prog (Pinned.checked Tryz.pinned)).varsNamed 4) = true := by kernel_rfl
end Go.Proofs.YthieefhjokekmaaGreat
