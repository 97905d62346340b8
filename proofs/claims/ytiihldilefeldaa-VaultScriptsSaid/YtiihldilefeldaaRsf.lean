/-
  The other text's tree: branches' and roots' hashes.
-/
import Derived.Test.YtiihldilefeldaaRse
namespace Go.Proofs.Ytiihldilefeldaa
open Go.Am Go.Sha
set_option linter.unusedSimpArgs false
set_option linter.unusedVariables false

/-- Bytes as a string's. -/
def sb (l : List Nat) : List Int := l.map fun (x : Nat) => (x : Int)
theorem sb_len (l : List Nat) : (sb l).length = l.length := by simp [sb]
theorem sb_inj {a b : List Nat} : sb a = sb b ↔ a = b := natmap_inj
theorem cvO_rb {P : Program} {s t : TypeId} {Kk : AV → Hp → Prop} {hp : Hp} (l : List Nat) (el : TypeId) (hb : bytes l) (h1 : tyk P s = .slice el) (h2 : tyk P t = .str) (h3 : P.underlying el = some (.int .u8)) (hK : Kk (.d (.str (sb l))) hp) : cvO P s t (some (rb l)) Kk hp := by
  refine ⟨sb l, by simp [rb, sb], fun b h => ?_, ?_⟩
  · simp only [sb, List.mem_map] at h
    obtain ⟨x, hx, rfl⟩ := h
    have := hb x hx
    omega
  · rw [h1, h2]
    exact ⟨h3, hK⟩
theorem cmp_less : ∀ (x y : List UInt8), Lib.compareBytes x y < 0 ↔ Op.bytesLess x y = true
  | [], [] => by simp [Lib.compareBytes, Op.bytesLess]
  | [], _ :: _ => by simp [Lib.compareBytes, Op.bytesLess]
  | _ :: _, [] => by simp [Lib.compareBytes, Op.bytesLess]
  | a :: x, b :: y => by
    have ih := cmp_less x y
    simp only [Lib.compareBytes, Op.bytesLess]
    by_cases h1 : a < b
    · simp [h1]
    · by_cases h2 : b < a
      · have : a ≠ b := fun e => by subst e; exact h1 h2
        simp [h1, h2, this]
      · have : a = b := UInt8.toNat_inj.1 (by
          have e1 : ¬ a.toNat < b.toNat := fun h => h1 (UInt8.lt_iff_toNat_lt.2 h)
          have e2 : ¬ b.toNat < a.toNat := fun h => h2 (UInt8.lt_iff_toNat_lt.2 h)
          omega)
        subst this
        simp only [h1, if_false, decide_false, Bool.false_or, beq_self_eq_true, Bool.true_and]
        exact ih
theorem u8s_sb {a : List Nat} (h : bytes a) : (u8s a).map (fun c => (c.toNat : Int)) = sb a := by
  unfold u8s Lib.bytesOf sb
  rw [List.map_map, List.map_map]
  apply List.map_congr_left
  intro x hx
  have := h x hx
  simp only [Function.comp_apply, Int.toNat_natCast]
  rw [UInt8.toNat_ofNat', Nat.mod_eq_of_lt (by omega)]
theorem str_gt {a b : List Nat} (ha : bytes a) (hb : bytes b) : (!(strLess (sb a) (sb b) || decide (sb a = sb b))) = decide (0 < Lib.compareBytes (u8s a) (u8s b)) := by
  have h1 := cmp_less (u8s a) (u8s b)
  rw [less_map, u8s_sb ha, u8s_sb hb] at h1
  obtain ⟨h3, h4⟩ := cmp_anti (u8s a) (u8s b)
  by_cases e : a = b
  · subst e
    have h0 : ¬ 0 < Lib.compareBytes (u8s a) (u8s a) := fun h => by have := h3.1 h; omega
    simp [h0]
  · have hne : sb a ≠ sb b := fun h => e (sb_inj.1 h)
    have h0 : Lib.compareBytes (u8s a) (u8s b) ≠ 0 := fun h => e (u8s_inj ha hb (h4 h))
    cases hl : strLess (sb a) (sb b) with
    | true =>
      have := h1.2 hl
      have h5 : ¬ 0 < Lib.compareBytes (u8s a) (u8s b) := by omega
      simp [h5]
    | false =>
      have h6 : ¬ Lib.compareBytes (u8s a) (u8s b) < 0 := fun h => by rw [h1.1 h] at hl; cases hl
      have h5 : 0 < Lib.compareBytes (u8s a) (u8s b) := by omega
      simp [h5, hne]

set_option maxHeartbeats 2000000 in
theorem branchR_fn (a b : List Nat) (ha : a.length = 32) (hb : b.length = 32) (hab : bytes a) (hbb : bytes b) : Rets Try.prog 14 [.agg (cb a), .agg (cb b)] (fun r => r = .agg (cb (branchB a b))) := by
  refine fn_of_awp Try.func14 (by kernel_rfl) rfl Try.ntmps14 (rs := [.cell 4 22]) rfl (Nat.le_of_ble_eq_true rfl) (by simp [AV.deep]; exact ⟨cb_deep _, cb_deep _⟩) ?_
  have hx1 := arr_rows ha
  have hx2 := arr_rows hb
  rw [rb_of] at hx1 hx2
  simp [go_sem] at hx1 hx2
  simp [go_sem, ha, hb]
  apply draw2 (0 :: 1 :: 2 :: 3 :: []) ([]) 0 (k := 4) (by kernel_rfl) (by kernel_rfl) rfl
  case hz => repeat (first | exact Its.nil | apply Its.plain rfl | apply Its.guard rfl rfl)
  case hj => repeat (first | exact Jts.nil | exact Its.nil | apply Its.plain rfl | apply Its.guard rfl rfl | apply Jts.plain rfl | apply Jts.guard rfl rfl)
  intro G hG
  simp [go_sem]
  refine hG _ _ ?_
  clear hG G
  simp [go_sem, hx1, hx2]
  refine cvO_rb a 5 hab (by simp [go_sem]) (by simp [go_sem]) Try.underlying5 ?_
  simp [go_sem, hx1, hx2]
  refine cvO_rb b 5 hbb (by simp [go_sem]) (by simp [go_sem]) Try.underlying5 ?_
  by_cases hc : 0 < Lib.compareBytes (u8s a) (u8s b)
  · simp [go_sem, str_gt hab hbb, hc, hx1, hx2, rb_len, ha, hb]
    have hl : (b ++ a).length = 64 := by rw [List.length_append]; omega
    refine cl_froz [512] (taggedR_fn branchTag (.str [84, 97, 112, 66, 114, 97, 110, 99, 104]) rfl (b ++ a) (by simp [branchTag]) (by simp [branchTag]) (by omega) (fun z hz => by
      rcases List.mem_append.1 hz with h | h
      · exact hbb z h
      · exact hab z h)) rfl (snap_cons (.deep (by simp [AV.deep, AV.deep1])) (snap_cons (.one (snap1_d (snap_full hl (by simp [lk, ← rb_app]) (by simp)))) snap_nil)) ?_
    have hR : branchB a b = tagB branchTag (b ++ a) := by unfold branchB; rw [if_pos hc]
    rw [hR]
    have hL : (tagB branchTag (b ++ a)).length = 32 := sumB_len _
    generalize tagB branchTag (b ++ a) = R at *
    simp [go_sem, dropH, hL, resV, cb_take hL, z32_drop]
    exact post_same (by simp [AV.deep]; exact cb_deep _) rfl
  · simp [go_sem, str_gt hab hbb, hc, hx1, hx2, rb_len, ha, hb]
    have hl : (a ++ b).length = 64 := by rw [List.length_append]; omega
    refine cl_froz [384] (taggedR_fn branchTag (.str [84, 97, 112, 66, 114, 97, 110, 99, 104]) rfl (a ++ b) (by simp [branchTag]) (by simp [branchTag]) (by omega) (fun z hz => by
      rcases List.mem_append.1 hz with h | h
      · exact hab z h
      · exact hbb z h)) rfl (snap_cons (.deep (by simp [AV.deep, AV.deep1])) (snap_cons (.one (snap1_d (snap_full hl (by simp [lk, ← rb_app]) (by simp)))) snap_nil)) ?_
    have hR : branchB a b = tagB branchTag (a ++ b) := by unfold branchB; rw [if_neg hc]
    rw [hR]
    have hL : (tagB branchTag (a ++ b)).length = 32 := sumB_len _
    generalize tagB branchTag (a ++ b) = R at *
    simp [go_sem, dropH, hL, resV, cb_take hL, z32_drop]
    exact post_same (by simp [AV.deep]; exact cb_deep _) rfl
end Go.Proofs.Ytiihldilefeldaa
