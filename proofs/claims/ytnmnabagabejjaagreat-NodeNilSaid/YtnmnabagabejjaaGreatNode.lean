/-
  The statement NodeNil, proved: for every command and bytes the law answers true, and what was handed in reads as it did. No condition.
-/
import Derived.Test.YtnmnabagabejjaaGreatNdg
import Derived.Test.YtnmnabagabejjaaGreatNdh
namespace Go.Proofs.YtnmnabagabejjaaGreat
open Go.ChangeShapes Go.WideShapes Go.ChangeAt Go.RowKit Go.Am Go.Sha

theorem Tryz.own : ownKnob Tryz.prog.godebug = none := by kernel_rfl
theorem Tryz.laidOut : laidOutB Tryz.prog = true := by kernel_rfl

set_option maxRecDepth 100000 in
theorem node_args (l : List AV) (h : ArgTys Tryz.prog 9 [5, 22] l) : Rets Tryz.prog 3 l (fun r => r = .d (.bool true)) := by
  obtain ⟨a0, r0, rfl, h0, a1, r1, rfl, h1, rfl⟩ := h
  unfold ArgTy at h0 h1
  simp only [Tryz.underlying5] at h0
  simp only [Tryz.underlying22] at h1
  obtain ⟨d0, rfl, h0⟩ := h0
  obtain ⟨d1, rfl, h1⟩ := h1
  rw [TyD] at h0
  simp only [Tryz.underlying5] at h0
  obtain ⟨x, e, _⟩ := h0
  injection e with e
  subst e
  obtain ⟨bs, rfl, _⟩ := ty_bytes h1
  exact node_law x bs

set_option maxRecDepth 100000 in
theorem node_lifted (os : Os) (started : os.Started) (H : Type) (enc : TypeId × Value → H) :
    ReturnsInHanded {} Tryz.checked os 3 .any (Rows.nodeNilSpec.pre6 enc Tryz.prog Tryz.f3 Rows.nodeNilRow.domain false) (Rows.nodeNilSpec.post enc Tryz.prog Tryz.f3 false true false false) := by
  refine returnsInHanded_of_change (C := Tryz.checked) Tryz.own started (by kernel_rfl) Tryz.func3
    (ChangeSpec.witness6 (enc := enc) (C := Tryz.checked) false ⟨#[], #[.int .u8 0, .slice none 0 0], []⟩ 8 (by kernel_rfl) (by kernel_rfl) (by kernel_rfl) (by kernel_rfl)) ?_
  intro W base args ds gs before hval0 hW hcnd _
  exact law_fin (P := Tryz.prog) (n := 9) Tryz.laidOut rfl Tryz.underlying4 rfl (by kernel_rfl) (by kernel_rfl) hval0 hW
    (fun ds hd => by
      match ds, hd with
      | [a, b], _ => rfl) (by rw [Tryz.params3]; exact node_args)

theorem c_named : Program.funcNamed (Checked.prog (Pinned.checked Tryz.pinned)) (OpenClaim.func Rows.nodeNilRow) = some 3 := by kernel_rfl
set_option maxHeartbeats 8000000 in
theorem c_facts : joinedFacts (Checked.prog (Pinned.checked Tryz.pinned)) 3 Tryz.f3 Rows.nodeNilSpec Rows.nodeNilRow = true := by
  unfold joinedFacts
  simp only [Bool.and_eq_true]
  and_intros
  · as_aux_lemma => kernel_rfl
  · as_aux_lemma => kernel_rfl
  · as_aux_lemma => kernel_rfl
  · as_aux_lemma => kernel_rfl
  · as_aux_lemma => kernel_rfl
  · as_aux_lemma => kernel_rfl
  · as_aux_lemma => kernel_rfl
  · as_aux_lemma => kernel_rfl
  · as_aux_lemma => kernel_rfl
  · exact c_inPlace
  · exact c_unfollowed
  · exact c_recurses
  · exact c_nm
  all_goals (as_aux_lemma => kernel_rfl)
theorem c_inst : Func.isInstance (Checked.prog (Pinned.checked Tryz.pinned)) Tryz.f3 (OpenClaim.origin Rows.nodeNilRow) (OpenClaim.targs Rows.nodeNilRow) := of_decide_eq_true (by kernel_rfl)
theorem c_wrap : Func.isWrapper (Checked.prog (Pinned.checked Tryz.pinned)) Tryz.f3 (OpenClaim.wrapper Rows.nodeNilRow) (OpenClaim.mainSum Rows.nodeNilRow) := by
  unfold Func.isWrapper; first | (rw [if_pos (by decide +kernel)]; kernel_rfl) | (rw [if_neg (by decide +kernel)]; exact ⟨rfl, rfl⟩)
theorem node_holds : Rows.NodeNilSaid :=
  OpenClaim.holds_of_wide 3 Tryz.f3 rfl rfl rfl rfl rfl rfl rfl ⟨rfl, rfl, rfl, rfl, rfl⟩ rfl rfl rfl rfl rfl c_named Tryz.func3 c_facts c_inst c_wrap
    (fun os started H enc _ => node_lifted os started H enc)

end Go.Proofs.YtnmnabagabejjaaGreat
