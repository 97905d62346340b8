/-
 The statement PlanTriggers, proved: for every plan, spending and secret the law answers true, and what was handed in reads as it did. No condition.
-/
import Derived.Test.YtmfnimjnneflnaaGreatD16
namespace Go.Proofs.YtmfnimjnneflnaaGreat
open Go.ChangeShapes Go.WideShapes Go.ChangeAt Go.RowKit Go.Am Go.Sha

theorem Tryz.own : ownKnob Tryz.prog.godebug = none := by kernel_rfl
theorem Tryz.laidOut : laidOutB Tryz.prog = true := by kernel_rfl

set_option maxRecDepth 100000 in
theorem x7(l : List AV)(h : Aa Tryz.prog 9 [76, 28, 96] l) : ap Tryz.prog 12 l (fun r => r = .d (.bool true)) := by
 obtain⟨D, w, rfl, k, x, B, rfl, o, A, y, rfl, s, rfl⟩ := h;obtain⟨a, g, d, c, rfl, q, v, C, i, j, z⟩ := OJ (n := 5) k;obtain⟨t, n, b, rfl, u, p, m⟩ := V7 (n := 2) o;obtain⟨f, rfl, e⟩ := OS (n := 7) s;exact Br a g c d t n b f q v j i.1 i.2 u p m e
set_option maxRecDepth 100000 in
theorem uq(os : Os)(d : os.Started)(H : Type)(enc : TypeId×Value → H) :
  ReturnsInHanded {} Tryz.checked os 12 .any (Rows.planTriggersSpec.pre6 enc Tryz.prog Tryz.f12 Rows.planTriggersRow.domain false) (Rows.planTriggersSpec.post enc Tryz.prog Tryz.f12 false true false false) := by
 refine returnsInHanded_of_change (C := Tryz.checked) Tryz.own d (by kernel_rfl) Tryz.func12
  (ChangeSpec.witness6 (enc := enc) (C := Tryz.checked) false ⟨#[], #[.agg (Array.replicate 32 (.int .u8 0)++#[.slice none 0 0, .int .i64 0]++Array.replicate 32 (.int .u8 0)), .agg #[.int .u32 0, .slice none 0 0, .slice none 0 0, .int .u32 0, .int .i64 0, .slice none 0 0], .agg (Array.replicate 4 (.int .u64 0))], []⟩ 8 (by kernel_rfl) (by kernel_rfl) (by kernel_rfl) (by kernel_rfl)) ?_
 intro W h i g m f e l j _;exact Qn (P := Tryz.prog) (n := 9) Tryz.laidOut rfl Tryz.underlying4 rfl (by kernel_rfl) (by kernel_rfl) e l
  (fun g k => by
   match g, k with
   |[a, b, c], _ => rfl) (by rw[Tryz.params12]; exact x7)

theorem Tq : Program.funcNamed (Checked.prog (Pinned.checked Tryz.pinned)) (OpenClaim.func Rows.planTriggersRow) = some 12 := by kernel_rfl
set_option maxHeartbeats 8000000 in
theorem Tt : joinedFacts (Checked.prog (Pinned.checked Tryz.pinned)) 12 Tryz.f12 Rows.planTriggersSpec Rows.planTriggersRow = true := by
 unfold joinedFacts;simp only[Bool.and_eq_true];and_intros
 ·as_aux_lemma => kernel_rfl
 ·as_aux_lemma => kernel_rfl
 ·as_aux_lemma => kernel_rfl
 ·as_aux_lemma => kernel_rfl
 ·as_aux_lemma => kernel_rfl
 ·as_aux_lemma => kernel_rfl
 ·as_aux_lemma => kernel_rfl
 ·as_aux_lemma => kernel_rfl
 ·as_aux_lemma => kernel_rfl
 ·exact JP
 ·exact Bt
 ·exact GF
 ·exact adv
 all_goals(as_aux_lemma => kernel_rfl)
theorem Yc : Func.isInstance (Checked.prog (Pinned.checked Tryz.pinned)) Tryz.f12 (OpenClaim.origin Rows.planTriggersRow) (OpenClaim.targs Rows.planTriggersRow) := of_decide_eq_true (by kernel_rfl)
theorem Yd : Func.isWrapper (Checked.prog (Pinned.checked Tryz.pinned)) Tryz.f12 (OpenClaim.wrapper Rows.planTriggersRow) (OpenClaim.mainSum Rows.planTriggersRow) := by
 unfold Func.isWrapper; first|(rw[if_pos (by decide +kernel)]; kernel_rfl)|(rw[if_neg (by decide +kernel)]; exact⟨rfl, rfl⟩)
theorem triggers_holds : Rows.PlanTriggersSaid :=
 OpenClaim.holds_of_wide 12 Tryz.f12 rfl rfl rfl rfl rfl rfl rfl ⟨rfl, rfl, rfl, rfl, rfl⟩ rfl rfl rfl rfl rfl Tq Tryz.func12 Tt Yc Yd
  (fun c a H b _ => uq c a H b)

end Go.Proofs.YtmfnimjnneflnaaGreat
