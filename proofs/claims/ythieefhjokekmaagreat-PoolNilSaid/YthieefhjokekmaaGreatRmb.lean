/-
  The program's sort and median; the other text's.
-/
import Derived.Test.YthieefhjokekmaaGreatRma
namespace Go.Proofs.YthieefhjokekmaaGreat
open Go.Am Go.Sha
set_option linter.unusedSimpArgs false
set_option linter.unusedVariables false
set_option maxRecDepth 100000 in
theorem len64_fn (n : Nat) (hn : n < 256) : Rets Tryz.prog 230 [.d (.int .u64 (n : Int))] (fun r => ∃ m : Int, r = .d (.int .i64 m)) := by
  refine fn_of_awp Tryz.func230 (by kernel_rfl) rfl Tryz.ntmps230 (rs := [.tmp 2]) rfl (Nat.le_of_ble_eq_true rfl) (by simp [AV.deep, AV.deep1]) ?_
  have i1 : ¬ (4294967296 : Int) ≤ (n : Int) := by omega
  have i2 : ¬ (65536 : Int) ≤ (n : Int) := by omega
  have i3 : ¬ (256 : Int) ≤ (n : Int) := by omega
  have w8 : IntKind.u8.wrap (n : Int) = (n : Int) := by
    have : IntKind.u8.wrap (n : Int) = (n : Int) % 256 := by simp [IntKind.wrap, IntKind.bits, IntKind.signed]
    rw [this]; omega
  simp [go_sem, i1, i2, i3, w8]
  split
  · exact post_same (by simp [AV.deep, AV.deep1]) ⟨_, rfl⟩
  · rename_i h
    rw [List.getElem?_eq_none_iff] at h
    exact absurd (Nat.le_trans (Nat.le_of_ble_eq_true rfl : 256 ≤ _) h) (by omega)
theorem len_fn (n : Nat) (hn : n < 256) : Rets Tryz.prog 192 [.d (.int .u64 (n : Int))] (fun r => ∃ m : Int, r = .d (.int .i64 m)) := by
  refine fn_of_awp Tryz.func192 (by kernel_rfl) rfl Tryz.ntmps192 (rs := [.tmp 2]) rfl (Nat.le_of_ble_eq_true rfl) (by simp [AV.deep, AV.deep1]) ?_
  simp [go_sem]
  refine cl_fn (len64_fn n hn) (by simp [AV.deep, AV.deep1]) ?_
  rintro r ⟨m, rfl⟩
  simp [go_sem]
  exact post_same (by simp [AV.deep, AV.deep1]) ⟨m, rfl⟩
theorem clone32_own (l : List Nat) (h0 : 0 < l.length) (hl : l.length ≤ 1000000) : RetsE Tryz.prog 133 0 [] [.d (nw l)] (fun r hp' => ∃ I, r = .own I 0 l.length l.length ∧ lk I hp' = some ⟨22, 1, rw4 l⟩) := by
  refine fnE_of_awp Tryz.func133 (by kernel_rfl) rfl Tryz.ntmps133 (rs := [.tmp 2]) rfl (Nat.le_of_ble_eq_true rfl) (by decide) ?_
  simp [go_sem, nw]
  exact ⟨⟨by omega, rw4_of l⟩, by intro e; subst e; simp at h0⟩

set_option maxHeartbeats 2000000 in
theorem pdq_fn (l : List Nat) (n : Nat) (lim : Int) (hn : l.length = n) (h12 : n ≤ 12) :
    RetsE Tryz.prog 191 1 [(0, ⟨22, 1, rw4 l⟩)] [.own 0 0 n n, .d (.int .i64 0), .d (.int .i64 (n : Int)), .d (.int .i64 lim)] (fun r hp' => r = .tup [] ∧ lk 0 hp' = some ⟨22, 1, rw4 (sortL l)⟩) := by
  refine fnE_of_awp Tryz.func191 (by kernel_rfl) rfl Tryz.ntmps191 (rs := []) rfl (Nat.le_of_ble_eq_true rfl) (by decide) ?_
  simp only [go_sem, Nat.reduceEqDiff, Nat.reduceAdd, Nat.reduceLT, ↓reduceIte, Nat.reduceMul]
  refine loop_of (fun _ : Unit => ⟨[(0, .own 0 0 n n), (1, .d (.int .i64 0)), (2, .d (.int .i64 (n : Int))), (3, .d (.int .i64 lim)), (8, .d (.bool true)), (9, .d (.bool true))], [(0, ⟨22, 1, rw4 l⟩)], 1000⟩)
    (fun _ => True) (fun _ => 0) () trivial (by
      simp [Weak, slotOk, fv, lk, AV.low, AV.low1]
      exact rw4_low _ _) ?_
  rintro _ _
  have w : IntKind.i64.wrap ((n : Int) - 0) = (n : Int) := by rw [Int.sub_zero]; exact IntWalk.i64_in _ (by omega)
  have i1 : (n : Int) ≤ 12 := by omega
  simp only [go_sem, Nat.reduceEqDiff, Nat.reduceAdd, Nat.reduceLT, ↓reduceIte, Nat.reduceMul, w, i1, decide_true, if_true]
  refine cl_eff [(0, 0)] (insort_fn l n hn (by omega)) rfl (by simp) (by simp [lk]) (by simp [lk, Blk.ren, renR, rw4_ren, AV.renL, AV.ren, rho, swp]) (by simp [AV.renL, AV.ren, rho, swp, lk]) ?_
  rintro r hp' ⟨rfl, h0⟩
  refine ⟨[], rfl, ?_⟩
  simp [go_sem, outH, outP, h0, Blk.ren, renR, rw4_ren, AV.renL, AV.ren, rho, resV]
theorem sort32_fn (l : List Nat) (n : Nat) (hn : l.length = n) (h12 : n ≤ 12) :
    RetsE Tryz.prog 134 1 [(0, ⟨22, 1, rw4 l⟩)] [.own 0 0 n n] (fun r hp' => r = .tup [] ∧ lk 0 hp' = some ⟨22, 1, rw4 (sortL l)⟩) := by
  refine fnE_of_awp Tryz.func134 (by kernel_rfl) rfl Tryz.ntmps134 (rs := []) rfl (Nat.le_of_ble_eq_true rfl) (by decide) ?_
  have w : IntKind.u64.wrap (n : Int) = (n : Int) := by rw [u64w]; omega
  simp [go_sem, w]
  refine cl_fn (len_fn n (by omega)) (by simp [AV.deep, AV.deep1]) ?_
  rintro r ⟨m, rfl⟩
  simp [go_sem]
  refine cl_eff [(0, 0)] (pdq_fn l n m hn h12) rfl (by simp) (by simp [lk]) (by simp [lk, Blk.ren, renR, rw4_ren, AV.renL, AV.ren, rho, swp]) (by simp [AV.renL, AV.ren, rho, swp, lk]) ?_
  rintro r hp' ⟨rfl, h0⟩
  refine ⟨[], rfl, ?_⟩
  simp [go_sem, outH, outP, h0, Blk.ren, renR, rw4_ren, AV.renL, AV.ren, rho, resV]

/-- The median of the last eleven. -/
def medV (l : List Nat) : Nat := (sortL (l.drop (l.length - 11))).getD ((l.drop (l.length - 11)).length / 2) 0
set_option maxHeartbeats 2000000 in
theorem median_fn (l : List Nat) (hl : l.length ≤ 1000) : Rets Tryz.prog 93 [.d (nw l)] (fun r => r = .d (.int .u32 ((if l.length = 0 then 0 else medV l : Nat) : Int))) := by
  refine fn_of_awp Tryz.func93 (by kernel_rfl) rfl Tryz.ntmps93 (rs := [.tmp 2]) rfl (Nat.le_of_ble_eq_true rfl) (by simp [AV.deep, AV.deep1]) ?_
  by_cases h0 : l.length = 0
  · have i0 : (l.length : Int) = 0 := by omega
    simp [go_sem, nw, i0]
    have h0' : l = [] := List.eq_nil_of_length_eq_zero h0
    exact post_same (by simp [AV.deep, AV.deep1]) (by rw [if_pos h0']; rfl)
  · have i0 : ¬ (l.length : Int) = 0 := by omega
    have w : IntKind.i64.wrap ((l.length : Int) - 11) = (l.length : Int) - 11 := IntWalk.i64_in _ (by omega)
    rw [if_neg h0]
    have hm : medV l = (sortL (l.drop (l.length - 11))).getD ((l.drop (l.length - 11)).length / 2) 0 := rfl
    generalize medV l = V at *
    have hdl : (l.drop (l.length - 11)).length ≤ 11 := by rw [List.length_drop]; omega
    have hd0 : 0 < (l.drop (l.length - 11)).length := by rw [List.length_drop]; omega
    have hb : (if (l.length : Int) - 11 > 0 then (l.length : Int) - 11 else 0) = ((l.length - 11 : Nat) : Int) := by split <;> omega
    have e1 : List.drop (l.length - 11) (List.map (fun (x : Nat) => [DV.int .u32 (x : Int)]) l) = List.map (fun (x : Nat) => [DV.int .u32 (x : Int)]) (l.drop (l.length - 11)) := by rw [List.map_drop]
    have e2 : List.take l.length (List.map (fun (x : Nat) => [DV.int .u32 (x : Int)]) l) = List.map (fun (x : Nat) => [DV.int .u32 (x : Int)]) l := List.take_of_length_le (by simp)
    simp only [go_sem, nw, i0, w, hb, List.length_map, Int.toNat_natCast, Nat.reduceEqDiff, Nat.reduceAdd, Nat.reduceLT, ↓reduceIte, decide_false, if_false, e1, e2]
    refine ⟨by omega, by omega, ?_⟩
    clear hb e1 e2 w
    generalize l.drop (l.length - 11) = L at *
    refine cl_eff [] (clone32_own L hd0 (by omega)) rfl (by simp) (by simp) (by simp) (by simp [AV.renL, AV.ren, nw]) ?_
    rintro r hp' ⟨I, rfl, h1⟩
    refine ⟨[(I, 0)], by simp [newsB, prsB], ?_⟩
    simp [go_sem, outH, outP, h1, Blk.ren, renR, rw4_ren, AV.renL, AV.ren, rho]
    refine cl_eff [(0, 320)] (sort32_fn L L.length rfl (by omega)) rfl (by simp) (by simp [lk]) (by simp [lk, Blk.ren, renR, rw4_ren, AV.renL, AV.ren, rho, swp]) (by simp [AV.renL, AV.ren, rho, swp, lk]) ?_
    rintro r hp' ⟨rfl, h2⟩
    refine ⟨[], rfl, ?_⟩
    have hS := sortL_len L
    have hat := rw4_at (sortL L) (L.length / 2) (by omega)
    have e3 : Int.tdiv (L.length : Int) 2 = ((L.length / 2 : Nat) : Int) := (Int.ofNat_tdiv _ 2).symm
    have e4 : IntKind.i64.wrap ((L.length / 2 : Nat) : Int) = ((L.length / 2 : Nat) : Int) := IntWalk.i64_in _ (by omega)
    have e5 : IntKind.i64.wrap ((L.length : Int) / 2) = ((L.length / 2 : Nat) : Int) := by rw [← e4]; congr 1
    have e6 : (L.length : Int) / 2 = ((L.length / 2 : Nat) : Int) := by omega
    rw [← hm] at hat
    clear hm
    have e7 : ((L.length : Int) / 2).toNat = L.length / 2 := by omega
    generalize sortL L = SL at *
    simp [go_sem, outH, outP, h2, Blk.ren, renR, rw4_ren, AV.renL, AV.ren, rho, rw4_len, hS, e3, e4, e5, e7, hat]
    exact ⟨by omega, by omega, post_same (by simp [AV.deep, AV.deep1]) rfl⟩
end Go.Proofs.YthieefhjokekmaaGreat
