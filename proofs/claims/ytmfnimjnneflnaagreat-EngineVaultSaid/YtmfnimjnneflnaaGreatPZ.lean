/-
 The statement EngineVault, proved: for every case the law answers true, and what was handed in reads as it did. No condition.
-/
import Derived.Test.YtmfnimjnneflnaaGreatP13
namespace Go.Proofs.YtmfnimjnneflnaaGreat
open Go.ChangeShapes Go.WideShapes Go.ChangeAt Go.RowKit Go.Am Go.Sha

theorem Tryz.own : ownKnob Tryz.prog.godebug = none := by kernel_rfl
theorem Tryz.laidOut : laidOutB Tryz.prog = true := by kernel_rfl

set_option maxRecDepth 100000 in
theorem Dk(l : List AV)(h : xp Tryz.prog 9 [36, 31, 3] l) : ay Tryz.prog 7 l (fun r => r = .d (.bool true)) := by
 obtain⟨a0, r0, rfl, h0, a1, r1, rfl, h1, a2, r2, rfl, h2, rfl⟩ := h;obtain⟨c, rfl, q1⟩ := Lj h0;obtain⟨t, rfl, q2⟩ := O9 h1;obtain⟨d, rfl, t2⟩ := DU Tryz.underlying3 aw aw h2;rw[iw]at t2;simp only[Tryz.underlying3, List.cons.injEq, and_true]at t2;obtain⟨x, rfl, hx⟩ := t2;have hx' : -9223372036854775808 ≤ x ∧ x < 9223372036854775808 := by simp[IntKind.has, IntKind.min, IntKind.max, IntKind.signed, IntKind.bits]at hx; omega
 exact G5 c t x q1 q2 hx'.1 hx'.2
set_option maxRecDepth 100000 in
theorem yK(os : Os)(started : os.Started)(H : Type)(enc : TypeId×Value → H) :
  ReturnsInHanded {} Tryz.checked os 7 .any (Rows.engineVaultSpec.pre6 enc Tryz.prog Tryz.f7 Rows.engineVaultRow.domain false) (Rows.engineVaultSpec.post enc Tryz.prog Tryz.f7 false true false false) := by
 refine returnsInHanded_of_change (C := Tryz.checked) Tryz.own started (by kernel_rfl) Tryz.func7
  (ChangeSpec.witness6 (enc := enc) (C := Tryz.checked) false ⟨#[], #[.agg (#[.int .u32 0, .slice none 0 0, .slice none 0 0, .int .u32 0, .int .i64 0, .slice none 0 0]++Array.replicate 32 (.int .u8 0)++#[.slice none 0 0, .slice none 0 0, .slice none 0 0, .slice none 0 0, .int .i64 0]), .slice none 0 0, .int .i64 0], []⟩ 8 (by kernel_rfl) (by kernel_rfl) (by kernel_rfl) (by kernel_rfl)) ?_
 intro W base args ds gs before hval0 hW hcnd _
 exact M7 (P := Tryz.prog) (n := 9) Tryz.laidOut rfl Tryz.underlying4 rfl (by kernel_rfl) (by kernel_rfl) hval0 hW
  (fun ds hd => by
   match ds, hd with
   |[a, b, c], _ => rfl) (by rw[Tryz.params7]; exact Dk)

theorem vault_holds : Rows.EngineVaultSaid :=
 OpenClaim.holds_of_wide 7 Tryz.f7 rfl rfl rfl rfl rfl rfl rfl ⟨rfl, rfl, rfl, rfl, rfl⟩ rfl rfl rfl rfl rfl (by kernel_rfl) Tryz.func7 (by kernel_rfl)
  (of_decide_eq_true (by kernel_rfl)) (by unfold Func.isWrapper; first|(rw[if_pos (by decide +kernel)]; kernel_rfl)|(rw[if_neg (by decide +kernel)]; exact⟨rfl, rfl⟩))
  (fun os started H enc _ => yK os started H enc)

end Go.Proofs.YtmfnimjnneflnaaGreat
