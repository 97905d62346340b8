/-
  The statement TreeOne, proved: for every inner key and all scripts the law answers true, and what was handed in reads as it did. No condition.
-/
import Derived.Test.YtldccnbokbieiaaB9
namespace Go.Proofs.Ytldccnbokbieiaa
open Go.ChangeShapes Go.WideShapes Go.ChangeAt Go.RowKit Go.Am

theorem Try.own : ownKnob Try.prog.godebug = none := by kernel_rfl
theorem Try.laidOut : laidOutB Try.prog = true := by kernel_rfl

set_option maxRecDepth 100000 in
theorem one_lifted (os : Os) (started : os.Started) (H : Type) (enc : TypeId × Value → H) :
    ReturnsInHanded {} Try.checked os 3 .any (Rows.treeOneSpec.pre6 enc Try.prog Try.f3 Rows.treeOneRow.domain false) (Rows.treeOneSpec.post enc Try.prog Try.f3 false true false false) := by
  refine returnsInHanded_of_change (C := Try.checked) Try.own started (by kernel_rfl) Try.func3
    (ChangeSpec.witness6 (enc := enc) (C := Try.checked) false ⟨#[], #[.agg (Array.replicate 32 (.int .u8 0)), .slice none 0 0], []⟩ 8 (by kernel_rfl) (by kernel_rfl) (by kernel_rfl) (by kernel_rfl)) ?_
  intro W base args ds gs before hval0 hW hcnd _
  exact law_fin (P := Try.prog) (n := 6) Try.laidOut rfl Try.underlying4 rfl (by kernel_rfl) (by kernel_rfl) hval0 hW
    (fun ds hd => by
      match ds, hd with
      | [a, b], _ => rfl) (by rw [Try.params3]; exact one_args)

theorem one_holds : Rows.TreeOneSaid :=
  OpenClaim.holds_of_wide 3 Try.f3 rfl rfl rfl rfl rfl rfl rfl ⟨rfl, rfl, rfl, rfl, rfl⟩ rfl rfl rfl rfl rfl (by kernel_rfl) Try.func3 (by kernel_rfl)
    (of_decide_eq_true (by kernel_rfl)) (by unfold Func.isWrapper; first | (rw [if_pos (by decide +kernel)]; kernel_rfl) | (rw [if_neg (by decide +kernel)]; exact ⟨rfl, rfl⟩))
    (fun os started H enc _ => one_lifted os started H enc)

end Go.Proofs.Ytldccnbokbieiaa
