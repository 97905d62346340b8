/-
  The statement RulesHeader, proved: for every header, all bits, medians and times, and every number of tries the law answers true, and what was handed in reads as it did. No condition.
-/
import Derived.Test.YtbkbcjhghmlphaaHwi
namespace Go.Proofs.Ytbkbcjhghmlphaa
open Go.ChangeShapes Go.WideShapes Go.ChangeAt Go.RowKit Go.Am

theorem Try.own : ownKnob Try.prog.godebug = none := by kernel_rfl
theorem Try.laidOut : laidOutB Try.prog = true := by kernel_rfl

set_option maxRecDepth 100000 in
theorem header_lifted (os : Os) (started : os.Started) (H : Type) (enc : TypeId × Value → H) :
    ReturnsInHanded {} Try.checked os 10 .any (Rows.rulesHeaderSpec.pre6 enc Try.prog Try.f10 Rows.rulesHeaderRow.domain false) (Rows.rulesHeaderSpec.post enc Try.prog Try.f10 false true false false) := by
  refine returnsInHanded_of_change (C := Try.checked) Try.own started (by kernel_rfl) Try.func10
    (ChangeSpec.witness6 (enc := enc) (C := Try.checked) false ⟨#[], #[.agg (#[.int .u32 0] ++ Array.replicate 64 (.int .u8 0) ++ #[.int .u32 0, .int .u32 0, .int .u32 0]), .agg #[.int .u32 0, .int .u32 0, .int .u32 0], .int .i64 0], []⟩ 8 (by kernel_rfl) (by kernel_rfl) (by kernel_rfl) (by kernel_rfl)) ?_
  intro W base args ds gs before hval0 hW hcnd _
  exact law_fin (P := Try.prog) (n := 8) Try.laidOut rfl Try.underlying4 rfl (by kernel_rfl) (by kernel_rfl) hval0 hW
    (fun ds hd => by
      match ds, hd with
      | [a, b, c], _ => rfl) (by rw [Try.params10]; exact header_args)

theorem header_holds : Rows.RulesHeaderSaid :=
  OpenClaim.holds_of_wide 10 Try.f10 rfl rfl rfl rfl rfl rfl rfl ⟨rfl, rfl, rfl, rfl, rfl⟩ rfl rfl rfl rfl rfl (by kernel_rfl) Try.func10 (by kernel_rfl)
    (of_decide_eq_true (by kernel_rfl)) (by unfold Func.isWrapper; first | (rw [if_pos (by decide +kernel)]; kernel_rfl) | (rw [if_neg (by decide +kernel)]; exact ⟨rfl, rfl⟩))
    (fun os started H enc _ => header_lifted os started H enc)

end Go.Proofs.Ytbkbcjhghmlphaa
