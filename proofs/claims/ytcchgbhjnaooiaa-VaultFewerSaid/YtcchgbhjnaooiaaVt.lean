/-
  Walks: bytes.Clone, words.
-/
import Derived.Test.YtcchgbhjnaooiaaTyA
namespace Go.Proofs.Ytcchgbhjnaooiaa
open Go.Am
set_option linter.unusedSimpArgs false

def encB (bs : List Int) : DV := .ro 1 (bs.map fun b => [.int .u8 b])

theorem snap_bytes {hp : Hp} {I : Nat → Prop} {id n : Nat} {ty : TypeId} {bs : List Int} (hb : lk id hp = some ⟨ty, 1, (bs.map fun b => [DV.int .u8 b]).map fun r => r.map .d⟩) (hI : I id) (hn : bs.length = n) : SnapD hp I (.own id 0 n n) (encB bs) :=
  snap_row hb hI (by simp [hn]) (by simp)

set_option maxHeartbeats 1000000 in
theorem clone_fn (bs : List Int) (hl : bs.length ≤ 140737488355328) : Rets Try.prog 14 [.d (encB bs)] (fun r => r = .d (encB bs)) := by
  refine fn_of_awp Try.func14 (by kernel_rfl) rfl Try.ntmps14 (rs := [.tmp 2]) rfl (Nat.le_of_ble_eq_true rfl) (by simp [AV.deep, AV.deep1]) ?_
  simp only [go_sem, encB, Nat.reduceEqDiff, Nat.reduceAdd, Nat.reduceLT, ↓reduceIte]
  intro b hb
  cases b with
  | true =>
    have h0 : bs = [] := List.eq_nil_of_length_eq_zero (hb rfl)
    subst h0
    simp only [go_sem, Nat.reduceEqDiff, Nat.reduceAdd, Nat.reduceLT, ↓reduceIte]
    exact post_one (.inr ⟨_, rfl, .nil 1⟩) (by simp [AV.deep, AV.deep1]) rfl
  | false =>
    simp only [go_sem, Nat.reduceEqDiff, Nat.reduceAdd, Nat.reduceLT, ↓reduceIte]
    exact ⟨by omega, by omega, post_one (.inr ⟨_, rfl, snap_bytes rfl trivial rfl⟩) (by simp [AV.deep, AV.deep1]) rfl⟩

set_option maxHeartbeats 1000000 in
theorem push_a : Rets Try.prog 12 [.d (encB [1])] (fun r => r = .agg [.d (.int .u8 81), .nil]) := by
  refine fn_of_awp Try.func12 (by kernel_rfl) rfl Try.ntmps12 (rs := [.cell 2 41]) rfl (Nat.le_of_ble_eq_true rfl) (by simp [AV.deep, AV.deep1]) ?_
  simp [go_sem, encB, resV, IntKind.wrap, IntKind.bits, IntKind.signed]
  exact post_same (by simp [AV.deep, AV.deep1]) rfl

set_option maxHeartbeats 1000000 in
theorem push_b : Rets Try.prog 12 [.d (encB [7, 7])] (fun r => r = .agg [.d (.int .u8 2), .d (encB [7, 7])]) := by
  refine fn_of_awp Try.func12 (by kernel_rfl) rfl Try.ntmps12 (rs := [.cell 2 41]) rfl (Nat.le_of_ble_eq_true rfl) (by simp [AV.deep, AV.deep1]) ?_
  simp [go_sem, encB, resV, IntKind.wrap, IntKind.bits, IntKind.signed]
  refine cl_eq (clone_fn [7, 7] (by simp)) (by simp [AV.deep, AV.deep1]) ?_
  simp [go_sem, encB, resV, IntKind.wrap, IntKind.bits, IntKind.signed]
  exact post_same (by simp [AV.deep, AV.deep1]) rfl

set_option maxHeartbeats 1000000 in
theorem lay_a : Rets Try.prog 13 [.agg [.d (.int .u8 81), .d (encB [])]] (fun r => r = .tup [.d (encB [81]), .d (.bool true)]) := by
  refine fn_of_awp Try.func13 (by kernel_rfl) rfl Try.ntmps13 (rs := [.tmp 2, .tmp 3]) rfl (Nat.le_of_ble_eq_true rfl) (by simp [AV.deep, AV.deep1]) ?_
  simp [go_sem, encB, resV, IntKind.wrap, IntKind.bits, IntKind.signed]
  exact post_tup (snap1_cons (snap1_d (snap_bytes (bs := [81]) rfl trivial rfl)) (snap1_cons (snap1_same trivial) snap1_nil)) rfl (by simp [AV.deep, AV.deep1]) rfl

set_option maxHeartbeats 1000000 in
theorem lay_b : Rets Try.prog 13 [.agg [.d (.int .u8 2), .d (encB [7, 7])]] (fun r => r = .tup [.d (encB [2, 7, 7]), .d (.bool true)]) := by
  refine fn_of_awp Try.func13 (by kernel_rfl) rfl Try.ntmps13 (rs := [.tmp 2, .tmp 3]) rfl (Nat.le_of_ble_eq_true rfl) (by simp [AV.deep, AV.deep1]) ?_
  simp [go_sem, encB, resV, IntKind.wrap, IntKind.bits, IntKind.signed]
  refine draw_of [0, 1, 3, 4, 6, 7, 8, 9, 10] [2, 5, 11, 12] 3 (by kernel_rfl) (by kernel_rfl) ?_
  simp [go_sem, encB, resV, IntKind.wrap, IntKind.bits, IntKind.signed]
  exact post_tup (snap1_cons (snap1_d (snap_bytes (bs := [2, 7, 7]) rfl trivial rfl)) (snap1_cons (snap1_same trivial) snap1_nil)) rfl (by simp [AV.deep, AV.deep1]) rfl

def encW (op : Int) (bs : List Int) : List DV := [.int .u8 op, encB bs]

/-- Cells of bytes. -/
def cellsB (bs : List Int) : List (List AV) := bs.map fun b => [.d (.int .u8 b)]
theorem cellsB_len (bs : List Int) : (cellsB bs).length = bs.length := by simp [cellsB]
theorem cellsB_of (bs : List Int) : ((bs.map fun b => [DV.int .u8 b]).map fun r => r.map AV.d) = cellsB bs := by simp [cellsB]
theorem cellsB_append (a b : List Int) : cellsB a ++ cellsB b = cellsB (a ++ b) := by simp [cellsB]
theorem snap_cb {hp : Hp} {I : Nat → Prop} {id n : Nat} {ty : TypeId} {bs : List Int} (hb : lk id hp = some ⟨ty, 1, cellsB bs⟩) (hI : I id) (hn : bs.length = n) : SnapD hp I (.own id 0 n n) (encB bs) := by
  rw [← cellsB_of] at hb
  exact snap_bytes hb hI hn

/-- One word alone, built. -/
theorem build_one (op : Int) (c : DV) (bs : List Int) (hbs : bs.length < 1000) (h : Rets Try.prog 13 [.agg [.d (.int .u8 op), .d c]] (fun r => r = .tup [.d (encB bs), .d (.bool true)])) :
    Rets Try.prog 11 [.d (.ro 2 [[.int .u8 op, c]])] (fun r => r = .tup [.d (encB bs), .d (.int .i64 0)]) := by
  refine fn_of_awp Try.func11 (by kernel_rfl) rfl Try.ntmps11 (rs := [.tmp 2, .tmp 3]) rfl (Nat.le_of_ble_eq_true rfl) (by simp [AV.deep, AV.deep1]) ?_
  simp [go_sem, resV, IntKind.wrap, IntKind.bits, IntKind.signed]
  refine loop_of (fun t : Bool => ⟨[(4, .own 1000 0 (if t then bs else []).length (if t then bs else []).length), (9, .d (.ro 2 [[.int .u8 op, c]])), (10, .d (.int .i64 1)), (11, .d (.int .i64 (if t then 1 else 0)))], [(1000, ⟨5, 1, cellsB (if t then bs else [])⟩)], 1001⟩)
     (fun _ => True) (fun t => if t then 0 else 1) false trivial (by simp [Weak, slotOk, fv, lk, AV.low, AV.low1, cellsB]) ?_
  rintro (_ | _) _
  · simp [go_sem, resV, IntKind.wrap, IntKind.bits, IntKind.signed]
    refine cl_eq h (by simp [AV.deep, AV.deep1]) ?_
    simp [go_sem, encB, resV, IntKind.wrap, IntKind.bits, IntKind.signed]
    refine ⟨by simp [cellsB], by omega, next_of true trivial (by simp) ?_⟩
    simp [Weak, slotOk, fv, lk, AV.low, AV.low1, cellsB]
  · simp [go_sem, resV, IntKind.wrap, IntKind.bits, IntKind.signed]
    exact post_tup (snap1_cons (snap1_d (snap_cb rfl trivial rfl)) (snap1_cons (snap1_same trivial) snap1_nil)) rfl (by simp [AV.deep, AV.deep1]) rfl

set_option maxHeartbeats 1000000 in
theorem updated_ab : Rets Try.prog 10 [.d (.ro 1 [[encB [1]], [encB [7, 7]]]), .d (encB [9])] (fun r => r = .tup [.d (encB [81, 2, 7, 7, 9]), .d (.int .i64 0)]) := by
  refine fn_of_awp Try.func10 (by kernel_rfl) rfl Try.ntmps10 (rs := [.tmp 4, .tmp 5]) rfl (Nat.le_of_ble_eq_true rfl) (by simp [AV.deep, AV.deep1]) ?_
  simp [go_sem, resV, IntKind.wrap, IntKind.bits, IntKind.signed]
  refine loop_of (fun t : Nat => ⟨[(1, .d (encB [9])), (6, .own 1000 0 ([[], [81], [81, 2, 7, 7]].getD t []).length ([[], [81], [81, 2, 7, 7]].getD t []).length), (11, .d (.ro 1 [[encB [1]], [encB [7, 7]]])), (12, .d (.int .i64 2)), (13, .d (.int .i64 t))], [(1000, ⟨5, 1, cellsB ([[], [81], [81, 2, 7, 7]].getD t [])⟩)], 1001⟩)
     (fun t => t ≤ 2) (fun t => 2 - t) 0 (by omega) (by simp [Weak, slotOk, fv, lk, AV.low, AV.low1, cellsB]) ?_
  rintro (_ | _ | _ | t) ht
  · simp [go_sem, encB, resV, IntKind.wrap, IntKind.bits, IntKind.signed]
    refine cl_eq push_a (by simp [AV.deep, AV.deep1]) ?_
    simp [go_sem, encB, resV, IntKind.wrap, IntKind.bits, IntKind.signed]
    refine cl_froz [1010] (build_one 81 (encB []) [81] (by simp) lay_a) rfl (snap_cons (.one (snap1_d (own_of rfl (by simp) rfl (.cons (.cons (.d _) (.cons (.nil 1) .nil)) .nil) rfl (by simp)))) snap_nil) ?_
    simp [go_sem, encB, resV, IntKind.wrap, IntKind.bits, IntKind.signed, dropH]
    exact ⟨by simp [cellsB], next_of 1 (by simp) (by simp) (by simp [Weak, slotOk, fv, lk, AV.low, AV.low1, cellsB])⟩
  · simp [go_sem, encB, resV, IntKind.wrap, IntKind.bits, IntKind.signed]
    refine cl_eq push_b (by simp [AV.deep, AV.deep1]) ?_
    simp [go_sem, encB, resV, IntKind.wrap, IntKind.bits, IntKind.signed]
    refine cl_froz [1010] (build_one 2 (encB [7, 7]) [2, 7, 7] (by simp) lay_b) rfl (snap_cons (.one (snap1_d (own_of rfl (by simp) rfl (.cons (.cons (.d _) (.cons (.d _) .nil)) .nil) rfl (by simp)))) snap_nil) ?_
    simp [go_sem, encB, resV, IntKind.wrap, IntKind.bits, IntKind.signed, dropH]
    exact ⟨by simp [cellsB], next_of 2 (by simp) (by simp) (by simp [Weak, slotOk, fv, lk, AV.low, AV.low1, cellsB])⟩
  · simp [go_sem, encB, resV, IntKind.wrap, IntKind.bits, IntKind.signed]
    refine ⟨by simp [cellsB], ?_⟩
    exact post_tup (snap1_cons (snap1_d (snap_cb (bs := [81, 2, 7, 7, 9]) rfl trivial rfl)) (snap1_cons (snap1_same trivial) snap1_nil)) rfl (by simp [AV.deep, AV.deep1]) rfl
  · omega
end Go.Proofs.Ytcchgbhjnaooiaa
