/-
  The statement RulesMined, proved: for every header and every number of tries the law answers true, and what was handed in reads as it did. No condition.
-/
import Derived.Test.YtbkbcjhghmlphaaHwe
namespace Go.Proofs.Ytbkbcjhghmlphaa
open Go.ChangeShapes Go.WideShapes Go.ChangeAt Go.RowKit Go.Am

theorem Try.own : ownKnob Try.prog.godebug = none := by kernel_rfl
theorem Try.laidOut : laidOutB Try.prog = true := by kernel_rfl

set_option maxRecDepth 100000 in
theorem mined_lifted (os : Os) (started : os.Started) (H : Type) (enc : TypeId × Value → H) :
    ReturnsInHanded {} Try.checked os 9 .any (Rows.rulesMinedSpec.pre6 enc Try.prog Try.f9 Rows.rulesMinedRow.domain false) (Rows.rulesMinedSpec.post enc Try.prog Try.f9 false true false false) := by
  refine returnsInHanded_of_change (C := Try.checked) Try.own started (by kernel_rfl) Try.func9
    (ChangeSpec.witness6 (enc := enc) (C := Try.checked) false ⟨#[], #[.agg (#[.int .u32 0] ++ Array.replicate 64 (.int .u8 0) ++ #[.int .u32 0, .int .u32 0, .int .u32 0]), .int .i64 0], []⟩ 8 (by kernel_rfl) (by kernel_rfl) (by kernel_rfl) (by kernel_rfl)) ?_
  intro W base args ds gs before hval0 hW hcnd _
  exact law_fin (P := Try.prog) (n := 8) Try.laidOut rfl Try.underlying4 rfl (by kernel_rfl) (by kernel_rfl) hval0 hW
    (fun ds hd => by
      match ds, hd with
      | [a, b], _ => rfl) (by rw [Try.params9]; exact mined_args)

theorem mined_holds : Rows.RulesMinedSaid :=
  OpenClaim.holds_of_wide 9 Try.f9 rfl rfl rfl rfl rfl rfl rfl ⟨rfl, rfl, rfl, rfl, rfl⟩ rfl rfl rfl rfl rfl (by kernel_rfl) Try.func9 (by kernel_rfl)
    (of_decide_eq_true (by kernel_rfl)) (by unfold Func.isWrapper; first | (rw [if_pos (by decide +kernel)]; kernel_rfl) | (rw [if_neg (by decide +kernel)]; exact ⟨rfl, rfl⟩))
    (fun os started H enc _ => mined_lifted os started H enc)

end Go.Proofs.Ytbkbcjhghmlphaa
