/-
 The statement PlanWithdraws, proved: for every plan, spending and template the law answers true, and what was handed in reads as it did. No condition.
-/
import Derived.Test.YtmfnimjnneflnaaGreatN14
namespace Go.Proofs.YtmfnimjnneflnaaGreat
open Go.ChangeShapes Go.WideShapes Go.ChangeAt Go.RowKit

theorem Tryz.own : ownKnob Tryz.prog.godebug = none := by kernel_rfl
theorem Tryz.laidOut : laidOutB Tryz.prog = true := by kernel_rfl

set_option maxRecDepth 100000 in
theorem yY(l : List AV)(h : Bw Tryz.prog 9 [76, 28, 29] l) : ar Tryz.prog 9 l (fun r => r = .d (.bool true)) := by
 obtain⟨y, z, rfl, k, C, B, rfl, u, A, D, rfl, s, rfl⟩ := h;obtain⟨a, f, d, c, rfl, q, p, x, i, o, w⟩ := Rq (n := 5) k;obtain⟨t, n, b, rfl, v, j, m⟩ := Yq (n := 2) u;obtain⟨T, rfl, e, g⟩ := TN (n := 7) s;exact zC a f c T d t n b q p o w e g i.1 i.2 v j m
set_option maxRecDepth 100000 in
theorem uU(os : Os)(d : os.Started)(H : Type)(enc : TypeId×Value → H) :
  ReturnsInHanded {} Tryz.checked os 9 .any (Rows.planWithdrawsSpec.pre6 enc Tryz.prog Tryz.f9 Rows.planWithdrawsRow.domain false) (Rows.planWithdrawsSpec.post enc Tryz.prog Tryz.f9 false true false false) := by
 refine returnsInHanded_of_change (C := Tryz.checked) Tryz.own d (by kernel_rfl) Tryz.func9
  (ChangeSpec.witness6 (enc := enc) (C := Tryz.checked) false ⟨#[], #[.agg (Array.replicate 32 (.int .u8 0)++#[.slice none 0 0, .int .i64 0]++Array.replicate 32 (.int .u8 0)), .agg #[.int .u32 0, .slice none 0 0, .slice none 0 0, .int .u32 0, .int .i64 0, .slice none 0 0], .agg (Array.replicate 32 (.int .u8 0))], []⟩ 8 (by kernel_rfl) (by kernel_rfl) (by kernel_rfl) (by kernel_rfl)) ?_
 intro W h g j m f e l i _;exact Tv (P := Tryz.prog) (n := 9) Tryz.laidOut rfl Tryz.underlying4 rfl (by kernel_rfl) (by kernel_rfl) e l
  (fun j k => by
   match j, k with
   |[a, b, c], _ => rfl) (by rw[Tryz.params9]; exact yY)

theorem VQ : Program.funcNamed (Checked.prog (Pinned.checked Tryz.pinned)) (OpenClaim.func Rows.planWithdrawsRow) = some 9 := by kernel_rfl
set_option maxHeartbeats 8000000 in
theorem VR : joinedFacts (Checked.prog (Pinned.checked Tryz.pinned)) 9 Tryz.f9 Rows.planWithdrawsSpec Rows.planWithdrawsRow = true := by
 unfold joinedFacts;simp only[Bool.and_eq_true];and_intros
 ·as_aux_lemma => kernel_rfl
 ·as_aux_lemma => kernel_rfl
 ·as_aux_lemma => kernel_rfl
 ·as_aux_lemma => kernel_rfl
 ·as_aux_lemma => kernel_rfl
 ·as_aux_lemma => kernel_rfl
 ·as_aux_lemma => kernel_rfl
 ·as_aux_lemma => kernel_rfl
 ·as_aux_lemma => kernel_rfl
 ·exact MD
 ·exact Dp
 ·exact Il
 ·exact ae2
 all_goals(as_aux_lemma => kernel_rfl)
theorem aaa : Func.isInstance (Checked.prog (Pinned.checked Tryz.pinned)) Tryz.f9 (OpenClaim.origin Rows.planWithdrawsRow) (OpenClaim.targs Rows.planWithdrawsRow) := of_decide_eq_true (by kernel_rfl)
theorem aab : Func.isWrapper (Checked.prog (Pinned.checked Tryz.pinned)) Tryz.f9 (OpenClaim.wrapper Rows.planWithdrawsRow) (OpenClaim.mainSum Rows.planWithdrawsRow) := by
 unfold Func.isWrapper; first|(rw[if_pos (by decide +kernel)]; kernel_rfl)|(rw[if_neg (by decide +kernel)]; exact⟨rfl, rfl⟩)
theorem withdraws_holds : Rows.PlanWithdrawsSaid :=
 OpenClaim.holds_of_wide 9 Tryz.f9 rfl rfl rfl rfl rfl rfl rfl ⟨rfl, rfl, rfl, rfl, rfl⟩ rfl rfl rfl rfl rfl VQ Tryz.func9 VR aaa aab
  (fun c a H b _ => uU c a H b)

end Go.Proofs.YtmfnimjnneflnaaGreat
