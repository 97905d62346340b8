/-
  The statement ChainNil, proved: for every block and name the law answers true, and what was handed in reads as it did. No condition.
-/
import Derived.Test.YthieefhjokekmaaGreatChf
namespace Go.Proofs.YthieefhjokekmaaGreat
open Go.ChangeShapes Go.WideShapes Go.ChangeAt Go.RowKit Go.Am

theorem Tryz.own : ownKnob Tryz.prog.godebug = none := by kernel_rfl
theorem Tryz.laidOut : laidOutB Tryz.prog = true := by kernel_rfl

set_option maxRecDepth 100000 in
theorem nil_lifted (os : Os) (started : os.Started) (H : Type) (enc : TypeId × Value → H) :
    ReturnsInHanded {} Tryz.checked os 4 .any (Rows.chainNilSpec.pre6 enc Tryz.prog Tryz.f4 Rows.chainNilRow.domain false) (Rows.chainNilSpec.post enc Tryz.prog Tryz.f4 false true false false) := by
  refine returnsInHanded_of_change (C := Tryz.checked) Tryz.own started (by kernel_rfl) Tryz.func4
    (ChangeSpec.witness6 (enc := enc) (C := Tryz.checked) false ⟨#[], #[.agg (#[.int .u32 0] ++ Array.replicate 64 (.int .u8 0) ++ #[.int .u32 0, .int .u32 0, .int .u32 0, .slice none 0 0]), .agg (Array.replicate 32 (.int .u8 0))], []⟩ 8 (by kernel_rfl) (by kernel_rfl) (by kernel_rfl) (by kernel_rfl)) ?_
  intro W base args ds gs before hval0 hW hcnd _
  exact law_fin (P := Tryz.prog) (n := 8) Tryz.laidOut rfl Tryz.underlying4 rfl (by kernel_rfl) (by kernel_rfl) hval0 hW
    (fun ds hd => by
      match ds, hd with
      | [a, b], _ => rfl) (by rw [Tryz.params4]; exact chain_args)

theorem c_named : Program.funcNamed (Checked.prog (Pinned.checked Tryz.pinned)) (OpenClaim.func Rows.chainNilRow) = some 4 := by kernel_rfl
set_option maxHeartbeats 8000000 in
theorem c_facts : joinedFacts (Checked.prog (Pinned.checked Tryz.pinned)) 4 Tryz.f4 Rows.chainNilSpec Rows.chainNilRow = true := by
  unfold joinedFacts
  simp only [Bool.and_eq_true]
  and_intros
  · as_aux_lemma => kernel_rfl
  · as_aux_lemma => kernel_rfl
  · as_aux_lemma => kernel_rfl
  · as_aux_lemma => kernel_rfl
  · as_aux_lemma => kernel_rfl
  · as_aux_lemma => kernel_rfl
  · as_aux_lemma => kernel_rfl
  · as_aux_lemma => kernel_rfl
  · as_aux_lemma => kernel_rfl
  · exact c_inPlace
  · exact c_unfollowed
  · exact c_recurses
  · exact c_nm
  all_goals (as_aux_lemma => kernel_rfl)
theorem c_inst : Func.isInstance (Checked.prog (Pinned.checked Tryz.pinned)) Tryz.f4 (OpenClaim.origin Rows.chainNilRow) (OpenClaim.targs Rows.chainNilRow) := of_decide_eq_true (by kernel_rfl)
theorem c_wrap : Func.isWrapper (Checked.prog (Pinned.checked Tryz.pinned)) Tryz.f4 (OpenClaim.wrapper Rows.chainNilRow) (OpenClaim.mainSum Rows.chainNilRow) := by
  unfold Func.isWrapper; first | (rw [if_pos (by decide +kernel)]; kernel_rfl) | (rw [if_neg (by decide +kernel)]; exact ⟨rfl, rfl⟩)
theorem nil_holds : Rows.ChainNilSaid :=
  OpenClaim.holds_of_wide 4 Tryz.f4 rfl rfl rfl rfl rfl rfl rfl ⟨rfl, rfl, rfl, rfl, rfl⟩ rfl rfl rfl rfl rfl c_named Tryz.func4 c_facts c_inst c_wrap
    (fun os started H enc _ => nil_lifted os started H enc)

end Go.Proofs.YthieefhjokekmaaGreat
