/-
 The statement EngineWaits, proved: for every case the law answers true, and what was handed in reads as it did. No condition.
-/
import Derived.Test.YtmfnimjnneflnaaGreatG13
namespace Go.Proofs.YtmfnimjnneflnaaGreat
open Go.ChangeShapes Go.WideShapes Go.ChangeAt Go.RowKit Go.Am Go.Sha

theorem Tryz.own : ownKnob Tryz.prog.godebug = none := by kernel_rfl
theorem Tryz.laidOut : laidOutB Tryz.prog = true := by kernel_rfl

set_option maxRecDepth 100000 in
theorem C4 (l : List AV) (h : w9 Tryz.prog 9 [36, 2] l) : ax Tryz.prog 6 l (fun r => r = .d (.bool true)) := by
 obtain ⟨a0, r0, rfl, h0, a1, r1, rfl, h1, rfl⟩ := h;obtain ⟨c, rfl, q1⟩ := Lh h0;obtain ⟨d, rfl, t⟩ := Nj Tryz.underlying2 aw aw h1;rw [iC] at t;simp only [Tryz.underlying2, List.cons.injEq, and_true] at t;obtain ⟨x, rfl, hx⟩ := t;have hx' : -9223372036854775808 ≤ x ∧ x < 9223372036854775808 := by simp [IntKind.has, IntKind.min, IntKind.max, IntKind.signed, IntKind.bits] at hx; omega
 exact G2 c x q1 hx'.1 hx'.2
set_option maxRecDepth 100000 in
theorem yx (os : Os) (started : os.Started) (H : Type) (enc : TypeId × Value → H) :
  ReturnsInHanded {} Tryz.checked os 6 .any (Rows.engineWaitsSpec.pre6 enc Tryz.prog Tryz.f6 Rows.engineWaitsRow.domain false) (Rows.engineWaitsSpec.post enc Tryz.prog Tryz.f6 false true false false) := by
 refine returnsInHanded_of_change (C := Tryz.checked) Tryz.own started (by kernel_rfl) Tryz.func6
  (ChangeSpec.witness6 (enc := enc) (C := Tryz.checked) false ⟨#[], #[.agg (#[.int .u32 0, .slice none 0 0, .slice none 0 0, .int .u32 0, .int .i64 0, .slice none 0 0] ++ Array.replicate 32 (.int .u8 0) ++ #[.slice none 0 0, .slice none 0 0, .slice none 0 0, .slice none 0 0, .int .i64 0]), .int .i64 0], []⟩ 8 (by kernel_rfl) (by kernel_rfl) (by kernel_rfl) (by kernel_rfl)) ?_
 intro W base args ds gs before hval0 hW hcnd _
 exact M1 (P := Tryz.prog) (n := 9) Tryz.laidOut rfl Tryz.underlying4 rfl (by kernel_rfl) (by kernel_rfl) hval0 hW
  (fun ds hd => by
   match ds, hd with
   | [a, b], _ => rfl) (by rw [Tryz.params6]; exact C4)

theorem waits_holds : Rows.EngineWaitsSaid :=
 OpenClaim.holds_of_wide 6 Tryz.f6 rfl rfl rfl rfl rfl rfl rfl ⟨rfl, rfl, rfl, rfl, rfl⟩ rfl rfl rfl rfl rfl (by kernel_rfl) Tryz.func6 (by kernel_rfl)
  (of_decide_eq_true (by kernel_rfl)) (by unfold Func.isWrapper; first | (rw [if_pos (by decide +kernel)]; kernel_rfl) | (rw [if_neg (by decide +kernel)]; exact ⟨rfl, rfl⟩))
  (fun os started H enc _ => yx os started H enc)

end Go.Proofs.YtmfnimjnneflnaaGreat
