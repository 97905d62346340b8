/-
  Words: Build in both texts; a vault's updated script in both texts.
-/
import Derived.Test.YtiihldilefeldaaVx
namespace Go.Sha
def bldR : List Nat → List Wd → List Nat × Int
  | out, [] => (out, 0)
  | out, w :: r => if (layW w).2 = true then bldR (out ++ refW w) r else ([], 1)
theorem bldR_eq : ∀ (ws : List Wd) (out : List Nat), bldR out ws = bldW out ws
  | [], out => rfl
  | w :: r, out => by
    simp only [bldR, bldW]
    split
    · rename_i h
      rw [refW_eq h]
      exact bldR_eq r _
    · rfl
theorem refW_len (w : Wd) : (refW w).length ≤ w.2.length + 3 := by
  unfold refW
  simp only [List.length_append]
  split <;> split <;> simp <;> omega
/-- The updated script: of things, behind so many bytes. -/
def updL : List Nat → List (List Nat) → Option (List Nat)
  | out, [] => some out
  | out, x :: r => if 1000 < x.length then none else updL (out ++ (layW (pushW x)).1) r
def updW (things : List (List Nat)) (body : List Nat) : List Nat × Int :=
  match updL [] things with
  | none => ([], 4)
  | some out => if 1000 < (out ++ body).length then ([], 4) else (out ++ body, 0)
theorem push_ok {x : List Nat} (h : x.length ≤ 1000) : (layW (pushW x)).2 = true := by
  have g : (layW (pushG x)).2 = true := by
    unfold pushG layW
    by_cases h1 : x.length ≤ 75
    · by_cases h0 : x.length = 0
      · have : x = [] := List.eq_nil_of_length_eq_zero h0
        subst this
        rfl
      · have : 0 < x.length ∧ x.length ≤ 75 := by omega
        simp [h1, this]
    · by_cases h2 : x.length ≤ 255
      · simp [h1, h2]
      · simp [h1, h2]
        omega
  match x, g with
  | [], g => exact g
  | [c], g =>
    show (layW (if 1 ≤ c ∧ c ≤ 16 then (80 + c, []) else if c = 129 then (79, []) else pushG [c])).2 = true
    by_cases hA : 1 ≤ c ∧ c ≤ 16
    · rw [if_pos hA]
      unfold layW
      have n1 : ¬ (0 < 80 + c ∧ 80 + c ≤ 75) := by omega
      have n2 : ¬ 80 + c = 76 := by omega
      have n3 : ¬ 80 + c = 77 := by omega
      simp [n1, n2, n3]
    · rw [if_neg hA]
      by_cases hB : c = 129
      · rw [if_pos hB]; rfl
      · rw [if_neg hB]; exact g
  | _ :: _ :: _, g => exact g
end Go.Sha
namespace Go.Sha
theorem pushW_len (x : List Nat) : (pushW x).2.length ≤ x.length := by
  match x with
  | [] => exact Nat.le_refl _
  | [c] =>
    show (if 1 ≤ c ∧ c ≤ 16 then (80 + c, []) else if c = 129 then (79, []) else pushG [c]).2.length ≤ 1
    split
    · simp
    · split
      · simp
      · exact Nat.le_refl _
  | _ :: _ :: _ => exact Nat.le_refl _
end Go.Sha
namespace Go.Proofs.Ytiihldilefeldaa
open Go.Am Go.Sha
set_option linter.unusedSimpArgs false
set_option linter.unusedVariables false

/-- A word such as these texts speak of. -/
def WdOk (w : Wd) : Prop := w.2.length ≤ 60000 ∧ w.1 < 256
theorem post_bld {Q : AV → Prop} {st : St} {id : Nat} {e : Int} {L : List Nat} (hb : lk id st.hp = some ⟨5, 1, rb L⟩) (hq : Q (.tup [.d (nb L), .d (.int .i64 e)])) : PostK Q (.tup [.own id 0 L.length L.length, .d (.int .i64 e)]) st :=
  post_tup (snap1_cons (snap1_d (snap_full rfl hb trivial)) (snap1_cons (snap1_same trivial) snap1_nil)) rfl (by simp [AV.deep, AV.deep1]) hq
theorem post_bld0 {Q : AV → Prop} {st : St} {e : Int} (hq : Q (.tup [.d (nb []), .d (.int .i64 e)])) : PostK Q (.tup [.nil, .d (.int .i64 e)]) st :=
  post_tup (snap1_cons (snap1_d (.nil 1)) (snap1_cons (snap1_same trivial) snap1_nil)) rfl (by simp [AV.deep, AV.deep1]) hq

set_option maxHeartbeats 2000000 in
theorem build_fn (ws : List Wd) (hw : ∀ w, w ∈ ws → WdOk w) (hl : ws.length ≤ 10000) : Rets Try.prog 48 [.d (.ro 2 (ws.map encW))] (fun r => r = .tup [.d (nb (bldW [] ws).1), .d (.int .i64 (bldW [] ws).2)]) := by
  refine fn_of_awp Try.func48 (by kernel_rfl) rfl Try.ntmps48 (rs := [.tmp 2, .tmp 3]) rfl (Nat.le_of_ble_eq_true rfl) (by simp [AV.deep, AV.deep1]) ?_
  generalize hB : bldW [] ws = B
  simp only [go_sem, Nat.reduceEqDiff, Nat.reduceAdd, Nat.reduceLT, ↓reduceIte, Nat.reduceMul]
  refine loop_of (fun t : Nat × List Nat => ⟨[(4, .own 1000 0 t.2.length t.2.length), (9, .d (.ro 2 (ws.map encW))), (10, .d (.int .i64 (ws.length : Int))), (11, .d (.int .i64 (t.1 : Int)))], [(1000, ⟨5, 1, rb t.2⟩)], 1001⟩)
    (fun t => t.1 ≤ ws.length ∧ t.2.length ≤ 60003 * t.1 ∧ bldW t.2 (ws.drop t.1) = B) (fun t => ws.length - t.1) (0, []) ⟨by omega, by simp, hB⟩ (by
      simp [Weak, slotOk, fv, lk, AV.low, AV.low1, rb]) ?_
  clear hB
  rintro ⟨k, out⟩ ⟨hk, ho, hB⟩
  simp only at hk ho hB
  simp only [go_sem, Nat.reduceEqDiff, Nat.reduceAdd, Nat.reduceLT, ↓reduceIte, Nat.reduceMul]
  refine ⟨fun h => ?_, fun h => ?_⟩
  · obtain ⟨w, hw1, hd⟩ := drop_of (l := ws) (k := k) (by omega)
    obtain ⟨q1, q2⟩ := hw w (List.mem_of_getElem? hw1)
    rw [hd] at hB
    simp only [bldW] at hB
    have hll := layW_len w
    have hrow : encW w = [.int .u8 (w.1 : Int), nb w.2] := rfl
    simp [go_sem, hw1, hrow]
    refine cl_eq (lay_fn w q1 q2) (by intro v hv; simp at hv; subst hv; exact wcs_deep w) ?_
    cases hok : (layW w).2 with
    | false =>
      simp [go_sem, resV]
      rw [hok, if_neg (by simp)] at hB
      rw [← hB]
      exact post_bld0 rfl
    | true =>
      rw [hok, if_pos rfl] at hB
      have w3 := next_i64 (k := k) (by omega)
      generalize (layW w).1 = L at *
      simp [go_sem, nb, rb_of, rb_len, rb_app, w3]
      refine ⟨by omega, ?_⟩
      refine next_of (k + 1, out ++ L) ⟨by simp only; omega, by simp only [List.length_append]; omega, hB⟩ (by simp only; omega) ?_
      simp [Weak, slotOk, fv, lk, AV.low, AV.low1]
      exact rb_low _ _
  · rw [List.drop_eq_nil_of_le (by omega)] at hB
    simp only [bldW] at hB
    simp [go_sem, resV]
    rw [← hB]
    exact post_bld rfl rfl

def encT (x : List Nat) : List DV := [nb x]
theorem encT_row {things : List (List Nat)} {k : Nat} {x : List Nat} (h : things[k]? = some x) : (things.map encT)[k]? = some [nb x] := by rw [List.getElem?_map, h]; rfl
theorem pushW_ok {x : List Nat} (h : x.length ≤ 60000) (hb : bytes x) : WdOk (pushW x) := by
  have g : WdOk (pushG x) := by
    unfold pushG
    refine ⟨h, ?_⟩
    simp only
    split
    · omega
    · split <;> omega
  match x, hb, g with
  | [], _, g => exact g
  | [c], hb, g =>
    show WdOk (if 1 ≤ c ∧ c ≤ 16 then (80 + c, []) else if c = 129 then (79, []) else pushG [c])
    by_cases hA : 1 ≤ c ∧ c ≤ 16
    · rw [if_pos hA]; exact ⟨by simp, by simp only; omega⟩
    · rw [if_neg hA]
      by_cases hB : c = 129
      · rw [if_pos hB]; exact ⟨by simp, by simp⟩
      · rw [if_neg hB]; exact g
  | _ :: _ :: _, _, g => exact g
theorem snap_wd {hp : Hp} {I : Nat → Prop} {id : Nat} {w : Wd} (hb : lk id hp = some ⟨79, 2, [wcs w]⟩) (hI : I id) : SnapD hp I (.own id 0 1 1) (.ro 2 ([w].map encW)) :=
  snap_row (es := [w].map encW) (by rw [hb]; rfl) hI rfl (by simp [encW])

set_option maxHeartbeats 2000000 in
theorem updated_fn (things : List (List Nat)) (body : List Nat) (hl : things.length ≤ 1000) (ht : ∀ x, x ∈ things → x.length ≤ 60000 ∧ bytes x) (hb : body.length ≤ 100000) :
    Rets Try.prog 18 [.d (.ro 1 (things.map encT)), .d (nb body)] (fun r => r = .tup [.d (nb (updW things body).1), .d (.int .i64 (updW things body).2)]) := by
  refine fn_of_awp Try.func18 (by kernel_rfl) rfl Try.ntmps18 (rs := [.tmp 4, .tmp 5]) rfl (Nat.le_of_ble_eq_true rfl) (by simp [AV.deep, AV.deep1]) ?_
  unfold updW
  generalize hB : updL [] things = B
  simp only [go_sem, Nat.reduceEqDiff, Nat.reduceAdd, Nat.reduceLT, ↓reduceIte, Nat.reduceMul]
  refine loop_of (fun t : Nat × List Nat => ⟨[(1, .d (nb body)), (6, .own 1000 0 t.2.length t.2.length), (11, .d (.ro 1 (things.map encT))), (12, .d (.int .i64 (things.length : Int))), (13, .d (.int .i64 (t.1 : Int)))], [(1000, ⟨5, 1, rb t.2⟩)], 1001⟩)
    (fun t => t.1 ≤ things.length ∧ t.2.length ≤ 60003 * t.1 ∧ updL t.2 (things.drop t.1) = B) (fun t => things.length - t.1) (0, []) ⟨by omega, by simp, hB⟩ (by
      simp [Weak, slotOk, fv, lk, AV.low, AV.low1, rb]) ?_
  clear hB
  rintro ⟨k, out⟩ ⟨hk, ho, hB⟩
  simp only at hk ho hB
  simp only [go_sem, Nat.reduceEqDiff, Nat.reduceAdd, Nat.reduceLT, ↓reduceIte, Nat.reduceMul]
  refine ⟨fun h => ?_, fun h => ?_⟩
  · obtain ⟨x, hx1, hd⟩ := drop_of (l := things) (k := k) (by omega)
    obtain ⟨q1, q2⟩ := ht x (List.mem_of_getElem? hx1)
    rw [hd] at hB
    simp only [updL] at hB
    by_cases hxl : 1000 < x.length
    · rw [if_pos hxl] at hB
      subst hB
      have i1 : 1000 < (x.length : Int) := by omega
      simp [go_sem, hx1, encT, nb, i1, resV]
      exact post_bld0 rfl
    · rw [if_neg hxl] at hB
      have i1 : ¬ 1000 < (x.length : Int) := by omega
      have hok := push_ok (x := x) (by omega)
      have hwd := pushW_ok q1 q2
      have hll := layW_len (pushW x)
      have hpl : (pushW x).2.length ≤ x.length := pushW_len x
      have hbl : bldW [] [pushW x] = ((layW (pushW x)).1, 0) := by simp [bldW, hok]
      simp [go_sem, hx1, encT, nb, i1]
      refine cl_eq (push_fn x q1 q2) (by simp [AV.deep, AV.deep1]) ?_
      have hsz : (wcs (pushW x)).length = 2 := rfl
      simp [go_sem, hsz]
      refine cl_froz [1289] (build_fn [pushW x] (by intro w hw; simp at hw; subst hw; exact hwd) (by simp)) rfl (snap_cons (.one (snap1_d (snap_wd rfl (by simp)))) snap_nil) ?_
      rw [hbl]
      have w3 := next_i64 (k := k) (by omega)
      generalize (layW (pushW x)).1 = L at *
      simp [go_sem, dropH, nb, rb_of, rb_len, rb_app, w3]
      refine ⟨by omega, ?_⟩
      refine next_of (k + 1, out ++ L) ⟨by simp only; omega, by simp only [List.length_append]; omega, hB⟩ (by simp only; omega) ?_
      simp [Weak, slotOk, fv, lk, AV.low, AV.low1, nb]
      exact rb_low _ _
  · rw [List.drop_eq_nil_of_le (by omega)] at hB
    simp only [updL] at hB
    subst hB
    have hkl : k = things.length := by omega
    simp only
    by_cases hbig : 1000 < out.length + body.length
    · rw [if_pos hbig]
      have i1 : 1000 < ((out.length + body.length : Nat) : Int) := by omega
      have i2 : 1000 < (out.length : Int) + (body.length : Int) := by omega
      simp [go_sem, nb, rb_of, rb_len, i1, i2, resV]
      exact ⟨by omega, post_bld0 rfl⟩
    · rw [if_neg hbig]
      have i1 : ¬ 1000 < ((out.length + body.length : Nat) : Int) := by omega
      have i2 : ¬ 1000 < (out.length : Int) + (body.length : Int) := by omega
      simp [go_sem, nb, rb_of, rb_len, rb_app, i1, i2, resV]
      refine ⟨by omega, ?_⟩
      have := post_bld (id := 1000) (L := out ++ body) (e := 0) (Q := fun r => r = AV.tup [AV.d (nb (out ++ body)), AV.d (.int .i64 0)]) (st := ⟨[], [(1000, ⟨5, 1, rb (out ++ body)⟩)], 0⟩) rfl rfl
      simp [nb] at this
      exact this
end Go.Proofs.Ytiihldilefeldaa
