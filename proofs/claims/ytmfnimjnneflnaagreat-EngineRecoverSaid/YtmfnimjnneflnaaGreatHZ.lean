/-
 The statement EngineRecover, proved: for every case the law answers true, and what was handed in reads as it did. No condition.
-/
import Derived.Test.YtmfnimjnneflnaaGreatH13
namespace Go.Proofs.YtmfnimjnneflnaaGreat
open Go.ChangeShapes Go.WideShapes Go.ChangeAt Go.RowKit Go.Am Go.Sha

theorem Tryz.own : ownKnob Tryz.prog.godebug = none := by kernel_rfl
theorem Tryz.laidOut : laidOutB Tryz.prog = true := by kernel_rfl

set_option maxRecDepth 100000 in
theorem C3 (l : List AV) (h : xe Tryz.prog 9 [36, 31] l) : ax Tryz.prog 4 l (fun r => r = .d (.bool true)) := by
 obtain ⟨a0, r0, rfl, h0, a1, r1, rfl, h1, rfl⟩ := h;obtain ⟨c, rfl, q1⟩ := K3 h0;obtain ⟨t, rfl, q2⟩ := OV h1;exact GR c t q1 q2
set_option maxRecDepth 100000 in
theorem yx (os : Os) (started : os.Started) (H : Type) (enc : TypeId × Value → H) :
  ReturnsInHanded {} Tryz.checked os 4 .any (Rows.engineRecoverSpec.pre6 enc Tryz.prog Tryz.f4 Rows.engineRecoverRow.domain false) (Rows.engineRecoverSpec.post enc Tryz.prog Tryz.f4 false true false false) := by
 refine returnsInHanded_of_change (C := Tryz.checked) Tryz.own started (by kernel_rfl) Tryz.func4
  (ChangeSpec.witness6 (enc := enc) (C := Tryz.checked) false ⟨#[], #[.agg (#[.int .u32 0, .slice none 0 0, .slice none 0 0, .int .u32 0, .int .i64 0, .slice none 0 0] ++ Array.replicate 32 (.int .u8 0) ++ #[.slice none 0 0, .slice none 0 0, .slice none 0 0, .slice none 0 0, .int .i64 0]), .slice none 0 0], []⟩ 8 (by kernel_rfl) (by kernel_rfl) (by kernel_rfl) (by kernel_rfl)) ?_
 intro W base args ds gs before hval0 hW hcnd _
 exact MP (P := Tryz.prog) (n := 9) Tryz.laidOut rfl Tryz.underlying4 rfl (by kernel_rfl) (by kernel_rfl) hval0 hW
  (fun ds hd => by
   match ds, hd with
   | [a, b], _ => rfl) (by rw [Tryz.params4]; exact C3)

theorem recov_holds : Rows.EngineRecoverSaid :=
 OpenClaim.holds_of_wide 4 Tryz.f4 rfl rfl rfl rfl rfl rfl rfl ⟨rfl, rfl, rfl, rfl, rfl⟩ rfl rfl rfl rfl rfl (by kernel_rfl) Tryz.func4 (by kernel_rfl)
  (of_decide_eq_true (by kernel_rfl)) (by unfold Func.isWrapper; first | (rw [if_pos (by decide +kernel)]; kernel_rfl) | (rw [if_neg (by decide +kernel)]; exact ⟨rfl, rfl⟩))
  (fun os started H enc _ => yx os started H enc)

end Go.Proofs.YtmfnimjnneflnaaGreat
