/-
  The program's tree: roots.
-/
import Derived.Test.YtiihldilefeldaaBra
namespace Go.Proofs.Ytiihldilefeldaa
open Go.Am Go.Sha
set_option linter.unusedSimpArgs false
set_option linter.unusedVariables false

/-- Bytes as deep cells. -/
def cd (l : List Nat) : List DV := l.map fun (x : Nat) => DV.int .u8 (x : Int)
theorem cd_len (l : List Nat) : (cd l).length = l.length := by simp [cd]
theorem cd_map (l : List Nat) : (cd l).map AV.d = cb l := by simp [cd, cb]
/-- Rows of bytes. -/
def hs32 (ps : List (List Nat)) : DV := .ro 32 (ps.map cd)
def leafC (inner : List Nat) (path script : AV) : List AV := cb inner ++ [path, script]
def rootB (ps : List (List Nat)) (h : List Nat) : List Nat := ps.foldl branchB h
def leafTag : List Nat := [84, 97, 112, 76, 101, 97, 102]
def leafB (x : List Nat) : List Nat := tagB leafTag (192 :: (putSize x.length ++ x))
theorem leafB_len (x : List Nat) : (leafB x).length = 32 := sumB_len _
theorem branchB_len (a b : List Nat) : (branchB a b).length = 32 := sumB_len _
theorem zleaf : tzO Try.prog 26 = some (leafC z32 .nil .nil) := by kernel_rfl
attribute [go_sem] zleaf

theorem cb_drop {l : List Nat} (h : l.length = 32) : List.drop 32 (cb l) = [] := List.drop_eq_nil_of_le (by rw [cb_len]; omega)
theorem leaf32 {inner : List Nat} (hi : inner.length = 32) (a b : AV) : (cb inner ++ [a, b])[32]? = some a := by
  rw [List.getElem?_append_right (by rw [cb_len]; omega), cb_len, hi]; rfl
theorem leaf33 {inner : List Nat} (hi : inner.length = 32) (a b : AV) : (cb inner ++ [a, b])[33]? = some b := by
  rw [List.getElem?_append_right (by rw [cb_len]; omega), cb_len, hi]; rfl
theorem rootB_step {ps : List (List Nat)} {k : Nat} {p h : List Nat} (hk : ps[k]? = some p) : rootB (ps.drop k) h = rootB (ps.drop (k + 1)) (branchB h p) := by
  obtain ⟨h1, h2⟩ := List.getElem?_eq_some_iff.1 hk
  unfold rootB
  rw [List.drop_eq_getElem_cons h1, List.foldl_cons, h2]

set_option maxHeartbeats 2000000 in
theorem root_fn (inner : List Nat) (ps : List (List Nat)) (x : List Nat) (hi : inner.length = 32) (hp32 : ∀ p, p ∈ ps → p.length = 32) (hps : ps.length ≤ 1000) (hx : x.length ≤ 100000) :
    Rets Try.prog 15 [.agg (leafC inner (.d (hs32 ps)) (.d (nb x)))] (fun r => r = .agg (cb (rootB ps (leafB x)))) := by
  refine fn_of_awp Try.func15 (by kernel_rfl) rfl Try.ntmps15 (rs := [.cell 2 22]) rfl (Nat.le_of_ble_eq_true rfl) (by
    simp [AV.deep, leafC]
    intro c hc
    rcases hc with hc | rfl | rfl
    · exact cb_deep _ _ hc
    · trivial
    · trivial) ?_
  simp [go_sem, leafC, leaf33 hi]
  refine cl_eq (treeHash_fn x hx) (by simp [AV.deep, AV.deep1]) ?_
  have hL : (tagB [84, 97, 112, 76, 101, 97, 102] (192 :: (putSize x.length ++ x))).length = 32 := sumB_len _
  have hR : rootB ps (leafB x) = rootB (ps.drop 0) (tagB [84, 97, 112, 76, 101, 97, 102] (192 :: (putSize x.length ++ x))) := by rw [List.drop_zero]; rfl
  rw [hR]
  generalize tagB [84, 97, 112, 76, 101, 97, 102] (192 :: (putSize x.length ++ x)) = R at *
  generalize hT : rootB (ps.drop 0) R = T
  clear hR
  simp [go_sem, leaf32 hi, hs32, hL, cb_take hL, z32_drop]
  refine loop_of (fun t : Nat × List Nat => ⟨[(2, .ptr 32 0 0 1), (3, .ptr 160 0 0 1), (10, .d (hs32 ps)), (11, .d (.int .i64 (ps.length : Int))), (12, .d (.int .i64 (t.1 : Int)))], [(32, ⟨22, 32, [cb z32]⟩), (160, ⟨22, 32, [cb t.2]⟩)], 1000⟩)
    (fun t => t.1 ≤ ps.length ∧ t.2.length = 32 ∧ rootB (ps.drop t.1) t.2 = T) (fun t => ps.length - t.1) (0, R) ⟨by omega, hL, hT⟩ (by
      simp [Weak, slotOk, fv, lk, AV.low, AV.low1, hs32]
      exact ⟨cb_low _ _, cb_low _ _⟩) ?_
  rintro ⟨k, h⟩ ⟨hk, hh, hT'⟩
  simp only at hk hh hT'
  simp only [go_sem, Nat.reduceEqDiff, Nat.reduceAdd, Nat.reduceLT, ↓reduceIte]
  refine ⟨fun hlt => ?_, fun hge => ?_⟩
  · have hlt' : k < ps.length := by omega
    have hp := List.getElem?_eq_getElem hlt'
    generalize ps[k] = p at hp
    have hpl : p.length = 32 := hp32 p (List.mem_of_getElem? hp)
    rw [rootB_step hp] at hT'
    simp [go_sem, hs32, hp, cd_len, hpl, cd_map, cb_take hpl, cb_len, hh, cb_take hh, z32_drop]
    refine cl_eq (branch_fn h p hh hpl) (by simp [AV.deep]; exact ⟨cb_deep _, cb_deep _⟩) ?_
    have hB := branchB_len h p
    generalize branchB h p = B at *
    simp [go_sem, cb_len, hB, hh, cb_take hB, cb_drop hh]
    refine next_of (k + 1, B) ⟨by omega, hB, hT'⟩ (by omega) ?_
    have w := next_i64 (k := k) (by omega)
    simp [Weak, slotOk, fv, lk, AV.low, AV.low1, hs32, w]
    exact ⟨cb_low _ _, cb_low _ _⟩
  · have hkn : k = ps.length := by omega
    subst hkn
    have : T = h := by rw [← hT', List.drop_length]; rfl
    subst this
    simp [go_sem, resV, hh, cb_take hh, z32_drop]
    exact post_same (by simp [AV.deep]; exact cb_deep _) rfl

theorem small16_fn (inner : List Nat) (ps : List (List Nat)) (x : List Nat) (hi : inner.length = 32) :
    Rets Try.prog 9 [.agg (leafC inner (.d (hs32 ps)) (.d (nb x)))] (fun r => r = .d (.bool (decide (ps.length ≤ 12 ∧ x.length ≤ 300)))) := by
  refine fn_of_awp Try.func9 (by kernel_rfl) rfl Try.ntmps9 (rs := [.tmp 2]) rfl (Nat.le_of_ble_eq_true rfl) (by
    simp [AV.deep, leafC]
    intro c hc
    rcases hc with hc | rfl | rfl
    · exact cb_deep _ _ hc
    · trivial
    · trivial) ?_
  by_cases h1 : ps.length ≤ 12
  · have i1 : (ps.length : Int) ≤ 12 := by omega
    simp [go_sem, leafC, leaf33 hi, leaf32 hi, hs32, nb, resV, i1]
    exact post_same (by simp [AV.deep, AV.deep1]) (by simp [h1]; omega)
  · have i1 : ¬ (ps.length : Int) ≤ 12 := by omega
    simp [go_sem, leafC, leaf33 hi, leaf32 hi, hs32, nb, resV, i1]
    exact post_same (by simp [AV.deep, AV.deep1]) (by simp [h1])

theorem keyOf_fn (k : List Nat) (hk : k.length = 32) : Rets Try.prog 40 [.d (nb (81 :: 32 :: k))] (fun r => r = .tup [.agg (cb k), .d (.bool true)]) := by
  refine fn_of_awp Try.func40 (by kernel_rfl) rfl Try.ntmps40 (rs := [.cell 2 22, .tmp 3]) rfl (Nat.le_of_ble_eq_true rfl) (by simp [AV.deep, AV.deep1]) ?_
  have e1 : List.take 32 (List.map (fun (b : Nat) => [DV.int .u8 (b : Int)]) k) = List.map (fun (b : Nat) => [DV.int .u8 (b : Int)]) k := List.take_of_length_le (by simp [hk])
  have e2 : (List.map (fun (b : Nat) => [DV.int .u8 (b : Int)]) k).flatten = cd k := by
    clear hk e1
    induction k with
    | nil => rfl
    | cons x r ih => simp only [List.map_cons, List.flatten_cons, ih]; rfl
  simp [go_sem, nb, hk, e1, e2, -List.map_flatten, -List.length_flatten, cd_map, cd_len, cb_len, cb_take hk, z32_drop, resV]
  exact post_same (by simp [AV.deep, AV.deep1]; exact cb_deep _) rfl

theorem readNil_fn (x : List Nat) : Rets Try.prog 41 [.nil, .d (nb x)] (fun r => r = .tup [.agg (leafC z32 .nil .nil), .d (.bool false), .d (.int .i64 26)]) := by
  refine fn_of_awp Try.func41 (by kernel_rfl) rfl Try.ntmps41 (rs := [.cell 4 26, .tmp 5, .tmp 6]) rfl (Nat.le_of_ble_eq_true rfl) (by simp [AV.deep, AV.deep1]) ?_
  have w : IntKind.i64.wrap (-33) = -33 := by decide
  simp [go_sem, w, resV, leafC, cb_len, z32]
  show PostK _ (AV.tup [AV.agg (leafC z32 .nil .nil), AV.d (DV.bool false), AV.d (DV.int IntKind.i64 26)]) _
  refine post_same ?_ rfl
  simp [AV.deep, AV.deep1, leafC]
  intro c hc
  rcases hc with hc | rfl
  · exact cb_deep _ _ hc
  · trivial
end Go.Proofs.Ytiihldilefeldaa
