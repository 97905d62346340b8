/-
 The statement EngineTemplate, proved: for every case and thing the law answers true, and what was handed in reads as it did. No condition.
-/
import Derived.Test.YtmfnimjnneflnaaGreatV13
namespace Go.Proofs.YtmfnimjnneflnaaGreat
open Go.ChangeShapes Go.WideShapes Go.ChangeAt Go.RowKit Go.Am

theorem Tryz.own : ownKnob Tryz.prog.godebug = none := by kernel_rfl
theorem Tryz.laidOut : laidOutB Tryz.prog = true := by kernel_rfl

set_option maxRecDepth 100000 in
theorem Ao (os : Os) (started : os.Started) (H : Type) (enc : TypeId × Value → H) :
  ReturnsInHanded {} Tryz.checked os 3 .any (Rows.engineTemplateSpec.pre6 enc Tryz.prog Tryz.f3 Rows.engineTemplateRow.domain false) (Rows.engineTemplateSpec.post enc Tryz.prog Tryz.f3 false true false false) := by
 refine returnsInHanded_of_change (C := Tryz.checked) Tryz.own started (by kernel_rfl) Tryz.func3
  (ChangeSpec.witness6 (enc := enc) (C := Tryz.checked) false ⟨#[], #[.agg (#[.int .u32 0, .slice none 0 0, .slice none 0 0, .int .u32 0, .int .i64 0, .slice none 0 0] ++ Array.replicate 32 (.int .u8 0) ++ #[.slice none 0 0, .slice none 0 0, .slice none 0 0, .slice none 0 0, .int .i64 0]), .slice none 0 0], []⟩ 8 (by kernel_rfl) (by kernel_rfl) (by kernel_rfl) (by kernel_rfl)) ?_
 intro W base args ds gs before hval0 hW hcnd _
 exact L8 (P := Tryz.prog) (n := 9) Tryz.laidOut rfl Tryz.underlying4 rfl (by kernel_rfl) (by kernel_rfl) hval0 hW
  (fun ds hd => by
   match ds, hd with
   | [a, b], _ => rfl) (by rw [Tryz.params3]; exact Gs)

theorem tmpl_holds : Rows.EngineTemplateSaid :=
 OpenClaim.holds_of_wide 3 Tryz.f3 rfl rfl rfl rfl rfl rfl rfl ⟨rfl, rfl, rfl, rfl, rfl⟩ rfl rfl rfl rfl rfl (by kernel_rfl) Tryz.func3 (by kernel_rfl)
  (of_decide_eq_true (by kernel_rfl)) (by unfold Func.isWrapper; first | (rw [if_pos (by decide +kernel)]; kernel_rfl) | (rw [if_neg (by decide +kernel)]; exact ⟨rfl, rfl⟩))
  (fun os started H enc _ => Ao os started H enc)

end Go.Proofs.YtmfnimjnneflnaaGreat
