/-
  The law RulesAlone, but for rules.checkRefs.
-/
import Derived.Test.YtbkbcjhghmlphaaRao
namespace Go.Proofs.Ytbkbcjhghmlphaa
open Go.Am Go.Sha
set_option linter.unusedSimpArgs false
set_option linter.unusedVariables false

set_option maxRecDepth 20000 in
set_option maxHeartbeats 8000000 in
theorem alone_law (hR : RefsOk) (t : Tn) (l : List Nat) (a b : Nat) (ht : t.ok) (hby : ∀ i, i ∈ t.ins → bytes i.hash) (ha : a < 4294967296) (hb : b < 4294967296) :
    Rets Try.prog 7 [.agg (eT t), .d (nw l), .agg [.d (.int .u32 (a : Int)), .d (.int .u32 (b : Int))]] (fun r => r = .d (.bool true)) := by
  refine fn_of_awp Try.func7 (by kernel_rfl) rfl Try.ntmps7 (rs := [.tmp 6]) rfl (Nat.le_of_ble_eq_true rfl) (by simp [AV.deep, AV.deep1, eT]) ?_
  have b3 := b_16 a
  have hm : a % 65536 < 4294967296 := by omega
  generalize a % 65536 = m at b3 hm
  have hd1 : ∀ f : Bool, ∀ v, v ∈ [AV.agg [AV.d (.int .u32 (t.ver : Int)), AV.d (.ro 35 (t.ins.map eI)), AV.d (.ro 2 (t.outs.map eO)), AV.d (.int .u32 (t.lock : Int))], AV.d (.bool f)] → v.deep := by simp [AV.deep, AV.deep1]
  have hd2 : ∀ v, v ∈ [AV.agg [AV.d (.int .u32 (t.ver : Int)), AV.d (.ro 35 (t.ins.map eI)), AV.d (.ro 2 (t.outs.map eO)), AV.d (.int .u32 (t.lock : Int))], AV.d (.int .u32 (a : Int)), AV.d (.int .u32 (b : Int))] → v.deep := by simp [AV.deep, AV.deep1]
  simp [go_sem, eT]
  refine cl_eq (small09_fn t ht) (by simp [AV.deep, AV.deep1, eT]) ?_
  cases hs : within 6 6 600 t
  · simp [go_sem]
    refine cl_eq alive26_fn (by simp) ?_
    simp [go_sem, resV]
    exact post_same (by simp [AV.deep, AV.deep1]) rfl
  · have hsm := sm_of ht hs
    have q1 := hsm.2.1
    by_cases h40 : 40 < l.length
    · have i1 : (40 : Int) < (l.length : Int) := by omega
      simp [go_sem, nw, i1]
      refine cl_eq alive26_fn (by simp) ?_
      simp [go_sem, resV]
      exact post_same (by simp [AV.deep, AV.deep1]) rfl
    · have i1 : ¬ (40 : Int) < (l.length : Int) := by omega
      simp [go_sem, nw, i1]
      apply draw2 ([]) ((0, (1 :: 2 :: 4 :: [])) :: (3, ([])) :: (5, (6 :: 7 :: 8 :: 9 :: 11 :: [])) :: (10, ([])) :: (12, (13 :: 14 :: 15 :: 16 :: 17 :: 18 :: 19 :: 20 :: 22 :: 23 :: 24 :: 25 :: 26 :: [])) :: (21, ([])) :: (27, (28 :: 29 :: 30 :: 31 :: 32 :: 33 :: 35 :: 36 :: 37 :: [])) :: (34, ([])) :: (38, (39 :: 40 :: 41 :: 42 :: 44 :: [])) :: (43, ([])) :: (45, (46 :: 47 :: 48 :: [])) :: []) 11 (k := 49) (by kernel_rfl) (by kernel_rfl) rfl
      case hz => repeat (first | exact Its.nil | apply Its.plain rfl | apply Its.guard rfl rfl)
      case hj => repeat (first | exact Jts.nil | exact Its.nil | apply Its.plain rfl | apply Its.guard rfl rfl | apply Jts.plain rfl | apply Jts.guard rfl rfl)
      intro G hG
      simp [go_sem]
      refine cl_eq alive26_fn (by simp) ?_
      simp [go_sem]
      refine cl_eq (check26_fn hR t false hsm hby) (hd1 _) ?_
      simp [go_sem]
      refine cl_eq (checkR26_fn t false hsm) (hd1 _) ?_
      simp [go_sem]
      refine cl_eq (check26_fn hR t true hsm hby) (hd1 _) ?_
      simp [go_sem]
      refine cl_eq (checkR26_fn t true hsm) (hd1 _) ?_
      simp [go_sem]
      refine cl_eq (final_fn t a b ht (by omega)) hd2 ?_
      simp [go_sem]
      refine cl_eq (finalR_fn t a b ht (by omega)) hd2 ?_
      simp [go_sem, b3]
      have hbb : ∀ (x : Bool) (K : AV → Hp → Prop) (hp : Hp), K (.d (.bool true)) hp → binW Try.prog .eql 4 (.d (.bool x)) (.d (.bool x)) K hp := by
        intro x K hp hK
        simp [binW, binW0, hK]
      refine hbb _ _ _ ?_
      simp [go_sem, b3]
      refine cl_eq (sub_fn m hm) (by simp [AV.deep, AV.deep1]) ?_
      simp [go_sem, b3]
      refine cl_eq (subR_fn m hm) (by simp [AV.deep, AV.deep1]) ?_
      simp [go_sem]
      refine cl_eq (median_fn l (by omega)) (by simp [AV.deep, AV.deep1]) ?_
      simp [go_sem]
      refine cl_eq (medianR_fn l (by omega)) (by simp [AV.deep, AV.deep1]) ?_
      simp [go_sem]
      refine hG _ _ ?_
      simp [go_sem, resV]
      exact post_same (by simp [AV.deep, AV.deep1]) rfl
end Go.Proofs.Ytbkbcjhghmlphaa
