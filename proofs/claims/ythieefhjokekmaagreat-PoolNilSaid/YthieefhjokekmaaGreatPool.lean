/-
  The statement PoolNil, proved: for every transaction and name the law answers true, and what was handed in reads as it did. No condition.
-/
import Derived.Test.YthieefhjokekmaaGreatPof
namespace Go.Proofs.YthieefhjokekmaaGreat
open Go.ChangeShapes Go.WideShapes Go.ChangeAt Go.RowKit Go.Am

theorem Tryz.own : ownKnob Tryz.prog.godebug = none := by kernel_rfl
theorem Tryz.laidOut : laidOutB Tryz.prog = true := by kernel_rfl

set_option maxRecDepth 100000 in
theorem nil_lifted (os : Os) (started : os.Started) (H : Type) (enc : TypeId × Value → H) :
    ReturnsInHanded {} Tryz.checked os 3 .any (Rows.poolNilSpec.pre6 enc Tryz.prog Tryz.f3 Rows.poolNilRow.domain false) (Rows.poolNilSpec.post enc Tryz.prog Tryz.f3 false true false false) := by
  refine returnsInHanded_of_change (C := Tryz.checked) Tryz.own started (by kernel_rfl) Tryz.func3
    (ChangeSpec.witness6 (enc := enc) (C := Tryz.checked) false ⟨#[], #[.agg #[.int .u32 0, .slice none 0 0, .slice none 0 0, .int .u32 0], .agg (Array.replicate 32 (.int .u8 0))], []⟩ 8 (by kernel_rfl) (by kernel_rfl) (by kernel_rfl) (by kernel_rfl)) ?_
  intro W base args ds gs before hval0 hW hcnd _
  exact law_fin (P := Tryz.prog) (n := 8) Tryz.laidOut rfl Tryz.underlying4 rfl (by kernel_rfl) (by kernel_rfl) hval0 hW
    (fun ds hd => by
      match ds, hd with
      | [a, b], _ => rfl) (by rw [Tryz.params3]; exact pool_args)

theorem c_named : Program.funcNamed (Checked.prog (Pinned.checked Tryz.pinned)) (OpenClaim.func Rows.poolNilRow) = some 3 := by kernel_rfl
set_option maxHeartbeats 8000000 in
theorem c_facts : joinedFacts (Checked.prog (Pinned.checked Tryz.pinned)) 3 Tryz.f3 Rows.poolNilSpec Rows.poolNilRow = true := by
  unfold joinedFacts
  simp only [Bool.and_eq_true]
  and_intros
  · as_aux_lemma => kernel_rfl
  · as_aux_lemma => kernel_rfl
  · as_aux_lemma => kernel_rfl
  · as_aux_lemma => kernel_rfl
  · as_aux_lemma => kernel_rfl
  · as_aux_lemma => kernel_rfl
  · as_aux_lemma => kernel_rfl
  · as_aux_lemma => kernel_rfl
  · as_aux_lemma => kernel_rfl
  · exact c_inPlace
  · exact c_unfollowed
  · exact c_recurses
  · exact c_nm
  all_goals (as_aux_lemma => kernel_rfl)
theorem c_inst : Func.isInstance (Checked.prog (Pinned.checked Tryz.pinned)) Tryz.f3 (OpenClaim.origin Rows.poolNilRow) (OpenClaim.targs Rows.poolNilRow) := of_decide_eq_true (by kernel_rfl)
theorem c_wrap : Func.isWrapper (Checked.prog (Pinned.checked Tryz.pinned)) Tryz.f3 (OpenClaim.wrapper Rows.poolNilRow) (OpenClaim.mainSum Rows.poolNilRow) := by
  unfold Func.isWrapper; first | (rw [if_pos (by decide +kernel)]; kernel_rfl) | (rw [if_neg (by decide +kernel)]; exact ⟨rfl, rfl⟩)
theorem nil_holds : Rows.PoolNilSaid :=
  OpenClaim.holds_of_wide 3 Tryz.f3 rfl rfl rfl rfl rfl rfl rfl ⟨rfl, rfl, rfl, rfl, rfl⟩ rfl rfl rfl rfl rfl c_named Tryz.func3 c_facts c_inst c_wrap
    (fun os started H enc _ => nil_lifted os started H enc)

end Go.Proofs.YthieefhjokekmaaGreat
