/-
  The program's tree: branches, roots.
-/
import Derived.Test.YtiihldilefeldaaCmp
namespace Go.Proofs.Ytiihldilefeldaa
open Go.Am Go.Sha
set_option linter.unusedSimpArgs false
set_option linter.unusedVariables false

def branchTag : List Nat := [84, 97, 112, 66, 114, 97, 110, 99, 104]
def branchB (a b : List Nat) : List Nat := tagB branchTag (if 0 < Lib.compareBytes (u8s a) (u8s b) then b ++ a else a ++ b)

theorem snap_all {hp : Hp} {I : Nat → Prop} {id : Nat} {L : List Nat} (hl : L.length = 64) (hb : lk id hp = some ⟨5, 1, rb L⟩) (hI : I id) : SnapD hp I (.own id 0 64 64) (nb L) := by
  have h := snap_rb (i0 := 0) (n := 64) (L := L) hb hI (by omega)
  rw [List.drop_zero, List.take_of_length_le (by omega), hl] at h
  exact h

set_option maxHeartbeats 2000000 in
theorem branch_fn (a b : List Nat) (ha : a.length = 32) (hb : b.length = 32) : Rets Try.prog 13 [.agg (cb a), .agg (cb b)] (fun r => r = .agg (cb (branchB a b))) := by
  refine fn_of_awp Try.func13 (by kernel_rfl) rfl Try.ntmps13 (rs := [.cell 4 22]) rfl (Nat.le_of_ble_eq_true rfl) (by simp [AV.deep]; exact ⟨cb_deep _, cb_deep _⟩) ?_
  simp [go_sem, ha, hb]
  apply draw2 (0 :: 1 :: []) ((2, (3 :: [])) :: []) 1 (k := 4) (by kernel_rfl) (by kernel_rfl) rfl
  case hz => repeat (first | exact Its.nil | apply Its.plain rfl | apply Its.guard rfl rfl)
  case hj => repeat (first | exact Jts.nil | exact Its.nil | apply Its.plain rfl | apply Its.guard rfl rfl | apply Jts.plain rfl | apply Jts.guard rfl rfl)
  intro G hG
  simp [go_sem]
  refine cl_snap (compare_fn a b) rfl (snap_cons (.one (snap1_d (snap_arr rfl trivial ha))) (snap_cons (.one (snap1_d (snap_arr rfl trivial hb))) snap_nil)) trivial ?_
  simp [go_sem]
  refine hG _ _ ?_
  clear hG G
  by_cases hc : 0 < Lib.compareBytes (u8s a) (u8s b)
  · have hda : List.drop 32 (cb a) = [] := List.drop_eq_nil_of_le (by rw [cb_len]; omega)
    have hdb : List.drop 32 (cb b) = [] := List.drop_eq_nil_of_le (by rw [cb_len]; omega)
    simp [go_sem, hc, ha, hb, hda, hdb, cb_take ha, cb_take hb]
    apply draw2 (0 :: 1 :: []) ((2, ([])) :: (3, ([])) :: (4, ([])) :: []) 0 (k := 5) (by kernel_rfl) (by kernel_rfl) rfl
    case hz => repeat (first | exact Its.nil | apply Its.plain rfl | apply Its.guard rfl rfl)
    case hj => repeat (first | exact Jts.nil | exact Its.nil | apply Its.plain rfl | apply Its.guard rfl rfl | apply Jts.plain rfl | apply Jts.guard rfl rfl)
    intro G hG
    have hx1 := arr_rows hb
    have hx2 := arr_rows ha
    rw [rb_of] at hx1 hx2
    simp [go_sem] at hx1 hx2
    have hl : (b ++ a).length = 64 := by rw [List.length_append]; omega
    simp [go_sem]
    refine cl_froz [416] (tagged_fn branchTag (.str [84, 97, 112, 66, 114, 97, 110, 99, 104]) rfl (b ++ a) (by simp [branchTag]) (by omega)) rfl (snap_cons (.deep (by simp [AV.deep, AV.deep1])) (snap_cons (.one (snap1_d (snap_all (L := b ++ a) hl (by simp [lk]; rw [← rb_app, ← hx1, ← hx2]; rfl) (by simp)))) snap_nil)) ?_
    have hR : branchB a b = tagB branchTag (b ++ a) := by unfold branchB; rw [if_pos hc]
    rw [hR] at hG
    have hL : (tagB branchTag (b ++ a)).length = 32 := sumB_len _
    generalize tagB branchTag (b ++ a) = R at *
    simp [go_sem, dropH, hL]
    refine hG _ _ ?_
    clear hG G
    simp [go_sem, resV, hL, cb_take hL, z32_drop]
    exact post_same (by simp [AV.deep]; exact cb_deep _) rfl
  · have hda : List.drop 32 (cb a) = [] := List.drop_eq_nil_of_le (by rw [cb_len]; omega)
    have hdb : List.drop 32 (cb b) = [] := List.drop_eq_nil_of_le (by rw [cb_len]; omega)
    simp [go_sem, hc, ha, hb, hda, hdb, cb_take ha, cb_take hb]
    apply draw2 (0 :: 1 :: []) ((2, ([])) :: (3, ([])) :: (4, ([])) :: []) 0 (k := 5) (by kernel_rfl) (by kernel_rfl) rfl
    case hz => repeat (first | exact Its.nil | apply Its.plain rfl | apply Its.guard rfl rfl)
    case hj => repeat (first | exact Jts.nil | exact Its.nil | apply Its.plain rfl | apply Its.guard rfl rfl | apply Jts.plain rfl | apply Jts.guard rfl rfl)
    intro G hG
    have hx1 := arr_rows ha
    have hx2 := arr_rows hb
    rw [rb_of] at hx1 hx2
    simp [go_sem] at hx1 hx2
    have hl : (a ++ b).length = 64 := by rw [List.length_append]; omega
    simp [go_sem]
    refine cl_froz [288] (tagged_fn branchTag (.str [84, 97, 112, 66, 114, 97, 110, 99, 104]) rfl (a ++ b) (by simp [branchTag]) (by omega)) rfl (snap_cons (.deep (by simp [AV.deep, AV.deep1])) (snap_cons (.one (snap1_d (snap_all (L := a ++ b) hl (by simp [lk]; rw [← rb_app, ← hx1, ← hx2]; rfl) (by simp)))) snap_nil)) ?_
    have hR : branchB a b = tagB branchTag (a ++ b) := by unfold branchB; rw [if_neg hc]
    rw [hR] at hG
    have hL : (tagB branchTag (a ++ b)).length = 32 := sumB_len _
    generalize tagB branchTag (a ++ b) = R at *
    simp [go_sem, dropH, hL]
    refine hG _ _ ?_
    clear hG G
    simp [go_sem, resV, hL, cb_take hL, z32_drop]
    exact post_same (by simp [AV.deep]; exact cb_deep _) rfl
end Go.Proofs.Ytiihldilefeldaa
