/-
 The statement PlanRecovers, proved: for every plan, spending and template the law answers true, and what was handed in reads as it did. No condition.
-/
import Derived.Test.YtmfnimjnneflnaaGreatX14
namespace Go.Proofs.YtmfnimjnneflnaaGreat
open Go.ChangeShapes Go.WideShapes Go.ChangeAt Go.RowKit Go.Am Go.Sha

theorem Tryz.own : ownKnob Tryz.prog.godebug = none := by kernel_rfl
theorem Tryz.laidOut : laidOutB Tryz.prog = true := by kernel_rfl

set_option maxRecDepth 100000 in
theorem yV(l : List AV)(h : A4 Tryz.prog 9 [76, 28, 29] l) : au Tryz.prog 8 l (fun r => r = .d (.bool true)) := by
 obtain⟨A, D, rfl, p, y, C, rfl, s, B, z, rfl, k, rfl⟩ := h;obtain⟨b, g, d, c, rfl, m, o, q, i, v, j⟩ := QT (n := 5) p;obtain⟨t, n, a, rfl, u, w, x⟩ := XX (n := 2) s;obtain⟨T, rfl, f, e⟩ := SX (n := 7) k;exact C0 b g c T d t n a m o v j q f e i.1 i.2 u w x
set_option maxRecDepth 100000 in
theorem vE(os : Os)(d : os.Started)(H : Type)(enc : TypeId×Value → H) :
  ReturnsInHanded {} Tryz.checked os 8 .any (Rows.planRecoversSpec.pre6 enc Tryz.prog Tryz.f8 Rows.planRecoversRow.domain false) (Rows.planRecoversSpec.post enc Tryz.prog Tryz.f8 false true false false) := by
 refine returnsInHanded_of_change (C := Tryz.checked) Tryz.own d (by kernel_rfl) Tryz.func8
  (ChangeSpec.witness6 (enc := enc) (C := Tryz.checked) false ⟨#[], #[.agg (Array.replicate 32 (.int .u8 0)++#[.slice none 0 0, .int .i64 0]++Array.replicate 32 (.int .u8 0)), .agg #[.int .u32 0, .slice none 0 0, .slice none 0 0, .int .u32 0, .int .i64 0, .slice none 0 0], .agg (Array.replicate 32 (.int .u8 0))], []⟩ 8 (by kernel_rfl) (by kernel_rfl) (by kernel_rfl) (by kernel_rfl)) ?_
 intro W j g i m f e k h _;exact SG (P := Tryz.prog) (n := 9) Tryz.laidOut rfl Tryz.underlying4 rfl (by kernel_rfl) (by kernel_rfl) e k
  (fun i l => by
   match i, l with
   |[a, b, c], _ => rfl) (by rw[Tryz.params8]; exact yV)

theorem Vp : Program.funcNamed (Checked.prog (Pinned.checked Tryz.pinned)) (OpenClaim.func Rows.planRecoversRow) = some 8 := by kernel_rfl
set_option maxHeartbeats 8000000 in
theorem Vq : joinedFacts (Checked.prog (Pinned.checked Tryz.pinned)) 8 Tryz.f8 Rows.planRecoversSpec Rows.planRecoversRow = true := by
 unfold joinedFacts;simp only[Bool.and_eq_true];and_intros
 ·as_aux_lemma => kernel_rfl
 ·as_aux_lemma => kernel_rfl
 ·as_aux_lemma => kernel_rfl
 ·as_aux_lemma => kernel_rfl
 ·as_aux_lemma => kernel_rfl
 ·as_aux_lemma => kernel_rfl
 ·as_aux_lemma => kernel_rfl
 ·as_aux_lemma => kernel_rfl
 ·as_aux_lemma => kernel_rfl
 ·exact LH
 ·exact C2
 ·exact HO
 ·exact aeC
 all_goals(as_aux_lemma => kernel_rfl)
theorem ZH : Func.isInstance (Checked.prog (Pinned.checked Tryz.pinned)) Tryz.f8 (OpenClaim.origin Rows.planRecoversRow) (OpenClaim.targs Rows.planRecoversRow) := of_decide_eq_true (by kernel_rfl)
theorem ZI : Func.isWrapper (Checked.prog (Pinned.checked Tryz.pinned)) Tryz.f8 (OpenClaim.wrapper Rows.planRecoversRow) (OpenClaim.mainSum Rows.planRecoversRow) := by
 unfold Func.isWrapper; first|(rw[if_pos (by decide +kernel)]; kernel_rfl)|(rw[if_neg (by decide +kernel)]; exact⟨rfl, rfl⟩)
theorem recovers_holds : Rows.PlanRecoversSaid :=
 OpenClaim.holds_of_wide 8 Tryz.f8 rfl rfl rfl rfl rfl rfl rfl ⟨rfl, rfl, rfl, rfl, rfl⟩ rfl rfl rfl rfl rfl Vp Tryz.func8 Vq ZH ZI
  (fun c a H b _ => vE c a H b)

end Go.Proofs.YtmfnimjnneflnaaGreat
