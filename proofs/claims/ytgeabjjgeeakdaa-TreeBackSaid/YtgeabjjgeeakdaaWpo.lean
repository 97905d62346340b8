/-
  A number's bytes; a point's.
-/
import Derived.Test.YtgeabjjgeeakdaaWpk
namespace Go.Proofs.Ytgeabjjgeeakdaa
open Go.Am Go.Sha
set_option linter.unusedSimpArgs false
set_option linter.unusedVariables false

def d8 (i : Nat) : Nat := i / 8
def r8 (i : Nat) : Nat := 8 * (i % 8)
def byt (a : List Int) (k : Nat) : Nat := (IntKind.u8.wrap (Int.fdiv (gI a (d8 k)) (2 ^ r8 k))).toNat
def bst (a : List Int) (k : Nat) (l : List Nat) : List Nat := l.set (31 - k) (byt a k)
theorem byt_i (a : List Int) (k : Nat) : IntKind.u8.wrap (Int.fdiv (gI a (d8 k)) (2 ^ r8 k)) = ((byt a k : Nat) : Int) := by
  unfold byt
  have : IntKind.u8.wrap (Int.fdiv (gI a (d8 k)) (2 ^ r8 k)) = (Int.fdiv (gI a (d8 k)) (2 ^ r8 k)) % 256 := by simp [IntKind.wrap, IntKind.bits, IntKind.signed]
  rw [this]
  omega
theorem byt_lt (a : List Int) (k : Nat) : byt a k < 256 := by
  have h := byt_i a k
  have : IntKind.u8.wrap (Int.fdiv (gI a (d8 k)) (2 ^ r8 k)) = (Int.fdiv (gI a (d8 k)) (2 ^ r8 k)) % 256 := by simp [IntKind.wrap, IntKind.bits, IntKind.signed]
  rw [this] at h
  omega
theorem bst_ok (a : List Int) : ∀ k, (itr (bst a) z32 k).length = 32 ∧ bytes (itr (bst a) z32 k) :=
  itr_inv (P := fun _ l => l.length = 32 ∧ bytes l) ⟨rfl, fun x hx => by simp [z32] at hx; omega⟩ fun k l hl => by
    refine ⟨by unfold bst; rw [List.length_set]; exact hl.1, fun x hx => ?_⟩
    rcases List.mem_or_eq_of_mem_set hx with hx | rfl
    · exact hl.2 x hx
    · exact byt_lt _ _
set_option maxHeartbeats 4000000 in
theorem wbytes_ex (a : List Int) (ha : Wn 4 a) : ∃ b : List Nat, b.length = 32 ∧ bytes b ∧ Rets Try.prog 60 [.agg (cI a)] (fun r => r = .agg (cb b)) := by
  refine ⟨itr (bst a) z32 32, (bst_ok a 32).1, (bst_ok a 32).2, ?_⟩
  refine fn_of_awp Try.func60 (by kernel_rfl) rfl Try.ntmps60 (rs := [.cell 2 22]) rfl (Nat.le_of_ble_eq_true rfl) (one_cI a) ?_
  have hal := ha.1
  simp [go_sem, hal, cI_take hal]
  generalize hSS : itr (bst a) z32 = S at *
  have hS := bst_ok a
  rw [hSS] at hS
  refine loop_of (fun k : Nat => ⟨[(1, .ptr 0 0 0 1), (2, .ptr 32 0 0 1), (3, .ptr 64 0 0 1), (5, .d (.int .i64 (k : Int)))], [(64, ⟨22, 32, [cb (S k)]⟩), (32, ⟨22, 32, [cb z32]⟩), (0, ⟨69, 4, [cI a]⟩)], 20000⟩)
    (fun k => k ≤ 32) (fun k => 32 - k) 0 (by omega) (by
      rw [← hSS]
      simp [Weak, slotOk, fv, lk, AV.low, AV.low1, itr]
      and_intros <;> first | rfl | exact cI_low _ _ | exact cb_low _ _) ?_
  intro k hk
  obtain ⟨hs1, hs2⟩ := hS k
  have w3 := next_i64 (k := k) (by omega)
  simp only [go_sem, Nat.reduceEqDiff, Nat.reduceAdd, Nat.reduceLT, ↓reduceIte]
  by_cases h4 : k < 32
  · refine ⟨fun h => ?_, fun h => absurd (by exact_mod_cast h4) h⟩
    have hsn : S (k + 1) = bst a k (S k) := by rw [← hSS]; rfl
    have hdq : d8 k = k / 8 := rfl
    have hrq : r8 k = 8 * (k % 8) := rfl
    have hnk := get_D (l := a) (k := d8 k) (by omega)
    have w4 : IntKind.i64.wrap ((k : Int) / 8) = (d8 k : Int) := by rw [IntWalk.i64_in _ (by omega)]; omega
    have w4b : IntKind.i64.wrap ((k : Int).tdiv 8) = (d8 k : Int) := w4
    have e2 : IntKind.i64.wrap (8 * ((k : Int) % 8)) = (r8 k : Int) := by rw [IntWalk.i64_in _ (by omega)]; omega
    have e2b : IntKind.i64.wrap (8 * ((k : Int).tmod 8)) = (r8 k : Int) := e2
    have e3 : IntKind.i64.wrap (31 - (k : Int)) = ((31 - k : Nat) : Int) := by rw [IntWalk.i64_in _ (by omega)]; omega
    have i1 : (d8 k : Int) < 4 := by omega
    have hm64 : r8 k < 64 := by omega
    have hmn : min (r8 k) 64 = r8 k := by omega
    have i3 : ((31 - k : Nat) : Int) < 32 := by omega
    have i4 : 31 - k < 32 := by omega
    simp [go_sem, hnk, hal, e2, e2b, w4, w4b, e3, i1, i3, i4, hm64, hmn, IntKind.bits, byt_i, cb_set, cb_len, hs1, w3]
    refine next_of (k + 1) (by omega) (by omega) ?_
    rw [hsn]
    simp [Weak, slotOk, fv, lk, AV.low, AV.low1, bst]
    and_intros <;> first | rfl | exact cI_low _ _ | exact cb_low _ _
  · refine ⟨fun h => absurd (by exact_mod_cast h) h4, fun h => ?_⟩
    have hkl : k = 32 := by omega
    subst hkl
    simp [go_sem, cb_len, hs1, cb_take hs1, cb_drop (l := z32) rfl, resV]
    exact post_same (cb_deepA _) rfl
theorem post_b {Q : AV → Prop} {st : St} {b : List Nat} (hq : Q (.agg (cb b))) : PostK Q (.agg (cb b)) st := post_same (cb_deepA _) hq
set_option maxHeartbeats 4000000 in
theorem pbytes_ex (x y : List Int) (c : Bool) (hx : Wn 4 x) (hy : Wn 4 y) : ∃ b : List Nat, b.length = 32 ∧ bytes b ∧ Rets Try.prog 37 [.agg (cP x y c)] (fun r => r = .agg (cb b)) := by
  obtain ⟨u, v, d, hu, hv, f1⟩ := taken_ex x y c hx hy
  obtain ⟨b, hb, hbb, f2⟩ := wbytes_ex u hu
  refine ⟨b, hb, hbb, ?_⟩
  refine fn_of_awp Try.func37 (by kernel_rfl) rfl Try.ntmps37 (rs := [.cell 2 22]) rfl (Nat.le_of_ble_eq_true rfl) (one_cP _ _ _) ?_
  have hxl := hx.1
  have hyl := hy.1
  have ul := cP_len hu.1 hv.1 d
  have ux := cP_x (y := v) hu.1 d
  have zd : List.drop 32 (cb z32) = [] := cb_drop rfl
  simp [go_sem, cP_len hxl hyl, cP_take hxl hyl]
  refine cl_eq f1 (one_cP _ _ _) ?_
  simp [go_sem, ul, ux]
  refine cl_eq f2 (one_cI _) ?_
  simp [go_sem, cb_len, hb, cb_take hb, zd, resV]
  exact post_b rfl
end Go.Proofs.Ytgeabjjgeeakdaa

/-
  Byte strings, one behind the other.
-/
namespace Go.Proofs.Ytgeabjjgeeakdaa
open Go.Am Go.Sha
set_option linter.unusedSimpArgs false
set_option linter.unusedVariables false

def jnV (a b : List Nat) : Nat → AV
  | 0 => .nil
  | 1 => .own 1192 0 a.length a.length
  | _ => .own 1192 0 (a ++ b).length (a ++ b).length
def jnH (a b : List Nat) : Nat → Hp
  | 0 => []
  | 1 => [(1192, ⟨5, 1, rb a⟩)]
  | _ => [(1192, ⟨5, 1, rb (a ++ b)⟩)]
def jnN : Nat → Nat
  | 0 => 1000
  | _ => 2000
set_option maxHeartbeats 4000000 in
theorem joined_fn (a b : List Nat) (ha : a.length = 32) (hb : b.length ≤ 1000000) : Rets Try.prog 52 [.d (.ro 1 [[nb a], [nb b]])] (fun r => r = .d (nb (a ++ b))) := by
  refine fn_of_awp Try.func52 (by kernel_rfl) rfl Try.ntmps52 (rs := [.tmp 2]) rfl (Nat.le_of_ble_eq_true rfl) (by simp [AV.deep, AV.deep1]) ?_
  simp [go_sem]
  refine loop_of (fun k : Nat => ⟨[(3, jnV a b k), (6, .d (.ro 1 [[nb a], [nb b]])), (7, .d (.int .i64 2)), (8, .d (.int .i64 (k : Int)))], jnH a b k, jnN k⟩)
    (fun k => k ≤ 2) (fun k => 2 - k) 0 (by omega) (by simp [Weak, slotOk, fv, lk, AV.low, AV.low1, jnV, jnH, jnN]) ?_
  intro k hk
  simp only [go_sem, Nat.reduceEqDiff, Nat.reduceAdd, Nat.reduceLT, ↓reduceIte]
  match k, hk with
  | 0, _ =>
    refine ⟨fun _ => ?_, fun h => absurd (by decide) h⟩
    simp [go_sem, jnV, jnH, jnN, nb, rb_of]
    refine ⟨by rw [rb_len]; omega, ?_⟩
    have w1 : IntKind.i64.wrap 1 = 1 := by decide
    refine next_of 1 (by omega) (by omega) ?_
    simp [Weak, slotOk, fv, lk, AV.low, AV.low1, rb_len, w1]
    exact rb_low _ _
  | 1, _ =>
    refine ⟨fun _ => ?_, fun h => absurd (by decide) h⟩
    simp [go_sem, jnV, jnH, jnN, nb, rb_of, rb_len]
    refine ⟨by omega, ?_⟩
    have w1 : IntKind.i64.wrap 2 = 2 := by decide
    have ra : rb (a ++ b) = rb a ++ rb b := by simp [rb]
    refine next_of 2 (by omega) (by omega) ?_
    simp [Weak, slotOk, fv, lk, AV.low, AV.low1, rb_len, w1, ra]
    intro r hr
    exact hr.elim (rb_low _ _ r) (rb_low _ _ r)
  | 2, _ =>
    refine ⟨fun h => absurd h (by decide), fun _ => ?_⟩
    simp [go_sem, jnV, jnH, resV]
    have hl2 : a.length + b.length = (a ++ b).length := by rw [List.length_append]
    rw [hl2]
    exact post_bytes rfl (by simp [nb])
end Go.Proofs.Ytgeabjjgeeakdaa
