/-
  Roots of hashes by the program; two hashes' hash, rows and roots by the other text.
-/
import Derived.Test.YthieefhjokekmaaGreatBka
namespace Go.Proofs.YthieefhjokekmaaGreat
open Go.Am Go.Sha
set_option linter.unusedSimpArgs false
set_option linter.unusedVariables false

theorem rootL_more {l : List (List Nat)} (d : Bool) (h : 1 < l.length) : rootL l d = rootL (upL l) (d || alL l) := by
  rw [rootL, if_pos h]
theorem rootL_one (a : List Nat) (d : Bool) : rootL [a] d = (a, d) := by
  rw [rootL]; rfl
theorem rootL_nil (d : Bool) : rootL [] d = (z32, false) := by
  rw [rootL]; rfl
theorem post_root {Q : AV → Prop} {st : St} {a : List Nat} {b : Bool} (hq : Q (.tup [.agg (cb a), .d (.bool b)])) : PostK Q (.tup [.agg (cb a), .d (.bool b)]) st :=
  post_same (by
    intro c hc
    simp at hc
    rcases hc with rfl | rfl
    · exact .inr ⟨_, rfl, cb_deep _⟩
    · exact .inl trivial) hq

set_option maxHeartbeats 2000000 in
theorem mroot_fn (ps : List (List Nat)) (hw : Ws ps) (hl : ps.length ≤ 1000) : Rets Tryz.prog 193 [.d (hs32 ps)] (fun r => r = .tup [.agg (cb (rootL ps false).1), .d (.bool (rootL ps false).2)]) := by
  refine fn_of_awp Tryz.func193 (by kernel_rfl) rfl Tryz.ntmps193 (rs := [.cell 2 27, .tmp 3]) rfl (Nat.le_of_ble_eq_true rfl) (by simp [AV.deep, AV.deep1]) ?_
  simp [go_sem, hs32]
  refine loop_of (fun t : List (List Nat) × Bool => ⟨[(0, .d (.ro 32 (t.1.map cd))), (2, .ptr 0 0 0 1), (4, .d (.bool t.2))], [(0, ⟨27, 32, [cb z32]⟩)], 500⟩)
    (fun t => rootL t.1 t.2 = rootL ps false ∧ Ws t.1 ∧ t.1.length ≤ 1000) (fun t => t.1.length) (ps, false) ⟨rfl, hw, hl⟩ (by
      simp [Weak, slotOk, fv, lk, AV.low, AV.low1]
      exact cb_low _ _) ?_
  rintro ⟨l, d⟩ ⟨hr, hwl, hll⟩
  simp only at hr hwl hll
  simp only [go_sem, Nat.reduceEqDiff, Nat.reduceAdd, Nat.reduceLT, ↓reduceIte, Nat.reduceMul]
  by_cases h1 : 1 < l.length
  · refine ⟨fun h => ?_, fun h => absurd (by exact_mod_cast h1) h⟩
    rw [rootL_more d h1] at hr
    have hul : (upL l).length < l.length := by rw [upL_len]; omega
    have huw := upL_ws hwl
    refine cl_eq (lift_fn l hwl hll) (by simp [AV.deep, AV.deep1]) ?_
    generalize hA : alL l = A at *
    cases d
    · simp [go_sem]
      refine next_of (upL l, A) ⟨by simpa using hr, huw, by simp; omega⟩ hul ?_
      simp [Weak, slotOk, fv, lk, AV.low, AV.low1, hs32]
      exact cb_low _ _
    · simp [go_sem]
      refine next_of (upL l, true) ⟨by simpa using hr, huw, by simp; omega⟩ hul ?_
      simp [Weak, slotOk, fv, lk, AV.low, AV.low1, hs32]
      exact cb_low _ _
  match l, hr, hwl, h1 with
  | [], hr, hwl, _ =>
    rw [← hr, rootL_nil]
    simp [go_sem, resV, cb_len, z32_drop, cb_take (l := z32) rfl]
    exact post_root rfl
  | [a], hr, hwl, _ =>
    rw [← hr, rootL_one]
    have hla := (hwl a (by simp)).1
    refine ⟨fun h => absurd h (by simp), fun _ => ⟨fun h => absurd h (by simp), fun _ => ?_⟩⟩
    simp [go_sem, resV, cd_len, cd_map, hla, cb_len, z32_drop, cb_take hla]
    exact post_root rfl
  | a :: b :: r, hr, hwl, h1 => exact absurd (by simp) h1

theorem upL_get : ∀ (ps : List (List Nat)) (j : Nat), 2 * j < ps.length → ∃ a q, ps[2 * j]? = some a ∧ (if 2 * j + 1 < ps.length then ps[2 * j + 1]? else ps[2 * j]?) = some q ∧ (upL ps)[j]? = some (pairB a q)
  | [], j, h => absurd h (by simp)
  | [a], 0, _ => ⟨a, a, rfl, rfl, by simp [upL]⟩
  | [a], j + 1, h => absurd h (by simp)
  | a :: b :: r, 0, _ => ⟨a, b, rfl, by simp, by simp [upL]⟩
  | a :: b :: r, j + 1, h => by
    obtain ⟨x, q, h1, h2, h3⟩ := upL_get r j (by simp at h; omega)
    refine ⟨x, q, ?_, ?_, ?_⟩
    · rw [show 2 * (j + 1) = 2 * j + 1 + 1 by omega, List.getElem?_cons_succ, List.getElem?_cons_succ, h1]
    · rw [show 2 * (j + 1) = 2 * j + 1 + 1 by omega, List.getElem?_cons_succ, List.getElem?_cons_succ, List.getElem?_cons_succ, List.getElem?_cons_succ, ← h2]
      simp
    · rw [upL, List.getElem?_cons_succ, h3]
theorem snap_hs1 {id n : Nat} {ps : List (List Nat)} {Q : AV → Prop} {st : St} (hn : ps.length = n) (hw : Ws ps) (hb : lk id st.hp = some ⟨27, 32, ps.map cb⟩) (hq : Q (.d (hs32 ps))) : PostK Q (.own id 0 n n) st :=
  post_one (snap1_d (snap_hs hn hw hb trivial)) trivial hq
def tw (j : Nat) : Nat := 2 * j
theorem alL_more {l : List (List Nat)} {j : Nat} {a b : List Nat} (ha : l[j]? = some a) (hb : l[j + 1]? = some b) : alL (l.drop j) = (decide (a = b) || alL (l.drop (j + 2))) := by
  obtain ⟨h1, e1⟩ := List.getElem?_eq_some_iff.1 ha
  obtain ⟨h2, e2⟩ := List.getElem?_eq_some_iff.1 hb
  rw [List.drop_eq_getElem_cons h1, List.drop_eq_getElem_cons h2, e1, e2]
  rfl
theorem alL_done {l : List (List Nat)} {j : Nat} (h : l.length ≤ j + 1) : alL (l.drop j) = false := by
  have : (l.drop j).length ≤ 1 := by rw [List.length_drop]; omega
  match l.drop j, this with
  | [], _ => rfl
  | [_], _ => rfl
end Go.Proofs.YthieefhjokekmaaGreat
