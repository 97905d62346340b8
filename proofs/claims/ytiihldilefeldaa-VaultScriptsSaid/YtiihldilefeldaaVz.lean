/-
  The other text's words built; its updated script.
-/
import Derived.Test.YtiihldilefeldaaVy
namespace Go.Proofs.Ytiihldilefeldaa
open Go.Am Go.Sha
set_option linter.unusedSimpArgs false
set_option linter.unusedVariables false

theorem int_dec {a b : Nat} : decide ((a : Int) = (b : Int)) = decide (a = b) := by congr 1; exact propext (by omega)

set_option maxHeartbeats 2000000 in
theorem mayR_fn (w : Wd) (hl : w.2.length ≤ 60000) (h8 : w.1 < 256) : Rets Try.prog 82 [.agg (wcs w)] (fun r => r = .d (.bool (layW w).2)) := by
  refine fn_of_awp Try.func82 (by kernel_rfl) rfl Try.ntmps82 (rs := [.tmp 2]) rfl (Nat.le_of_ble_eq_true rfl) (by intro v hv; simp at hv; subst hv; exact wcs_deep w) ?_
  obtain ⟨op, p⟩ := w
  simp only at hl h8
  by_cases h1 : 0 < op ∧ op ≤ 75
  · obtain ⟨j1, j2⟩ := h1
    have i1 : 1 ≤ (op : Int) := by omega
    have i2 : (op : Int) ≤ 75 := by omega
    have wi : IntKind.i64.wrap (op : Int) = (op : Int) := IntWalk.i64_in _ (by omega)
    have hy : layW (op, p) = (op :: p, decide (p.length = op)) := by unfold layW; rw [if_pos ⟨j1, j2⟩]
    rw [hy]
    simp [go_sem, wcs, nb, i1, i2, j2, wi, resV, int_dec]
    exact post_same (by simp [AV.deep, AV.deep1]) rfl
  · by_cases h2 : op = 76
    · subst h2
      have hy : layW (76, p) = (76 :: t8 p.length :: p, decide (p.length ≤ 255)) := rfl
      rw [hy]
      have hcast : decide ((p.length : Int) ≤ 255) = decide (p.length ≤ 255) := by congr 1; exact propext (by omega)
      simp [go_sem, wcs, nb, hcast, resV]
      exact post_same (by simp [AV.deep, AV.deep1]) rfl
    · by_cases h3 : op = 77
      · subst h3
        have hy : layW (77, p) = (77 :: t8 p.length :: t8 (r32 8 p.length) :: p, decide (p.length ≤ 65535)) := rfl
        rw [hy]
        have hcast : decide ((p.length : Int) ≤ 65535) = decide (p.length ≤ 65535) := by congr 1; exact propext (by omega)
        simp [go_sem, wcs, nb, hcast, resV]
        exact post_same (by simp [AV.deep, AV.deep1]) rfl
      · have hy : layW (op, p) = ([op], decide (p.length = 0)) := by unfold layW; rw [if_neg h1, if_neg h2, if_neg h3]
        rw [hy]
        have e2 : ¬ (op : Int) = 76 := by omega
        have e3 : ¬ (op : Int) = 77 := by omega
        by_cases j1 : 0 < op
        · have i1 : 1 ≤ (op : Int) := by omega
          have i2 : ¬ (op : Int) ≤ 75 := by omega
          simp [go_sem, wcs, nb, i1, i2, e2, e3, resV]
          exact post_same (by simp [AV.deep, AV.deep1]) (by simp)
        · have i1 : ¬ 1 ≤ (op : Int) := by omega
          simp [go_sem, wcs, nb, i1, e2, e3, resV]
          exact post_same (by simp [AV.deep, AV.deep1]) (by simp)

def catR (ws : List Wd) : List Nat := (ws.map refW).flatten
set_option maxRecDepth 20000 in
set_option maxHeartbeats 4000000 in
theorem buildR_own (ws : List Wd) (hw : ∀ w, w ∈ ws → WdOk w ∧ (layW w).2 = true) (hl : ws.length ≤ 10000) : RetsE Try.prog 51 0 [] [.d (.ro 2 (ws.map encW))]
    (fun r hp' => r = .tup [.own 65 0 (catR ws).length (catR ws).length, .d (.int .i64 0)] ∧ lk 65 hp' = some ⟨5, 1, rb (catR ws)⟩) := by
  refine fnE_of_awp Try.func51 (by kernel_rfl) rfl Try.ntmps51 (rs := [.tmp 2, .tmp 3]) rfl (Nat.le_of_ble_eq_true rfl) (by decide) ?_
  simp [go_sem]
  refine loop_of (fun k : Nat => ⟨[(0, .d (.ro 2 (ws.map encW))), (4, .own 65 0 (catR (ws.take k)).length (catR (ws.take k)).length), (5, .d (.int .i64 (k : Int)))], [(65, ⟨5, 1, rb (catR (ws.take k))⟩)], 1000⟩)
    (fun k => k ≤ ws.length ∧ (catR (ws.take k)).length ≤ 60003 * k) (fun k => ws.length - k) 0 ⟨by omega, by simp [catR]⟩ (by
      simp [Weak, slotOk, fv, lk, AV.low, AV.low1, catR, rb]) ?_
  rintro k ⟨hk, ho⟩
  simp only [go_sem, Nat.reduceEqDiff, Nat.reduceAdd, Nat.reduceLT, ↓reduceIte, Nat.reduceMul]
  refine ⟨fun h => ?_, fun h => ?_⟩
  · obtain ⟨w, hw1, hd⟩ := drop_of (l := ws) (k := k) (by omega)
    obtain ⟨⟨q1, q2⟩, q3⟩ := hw w (List.mem_of_getElem? hw1)
    have hcat : catR (ws.take (k + 1)) = catR (ws.take k) ++ refW w := by
      unfold catR
      rw [List.take_add_one, hw1]
      simp
    have hll := refW_len w
    have hrl : (catR (ws.take (k + 1))).length = (catR (ws.take k)).length + (refW w).length := by rw [hcat, List.length_append]
    have hrow : encW w = [.int .u8 (w.1 : Int), nb w.2] := rfl
    have w3 := next_i64 (k := k) (by omega)
    have hdiv : IntKind.u8.wrap (IntKind.i64.wrap (Int.tdiv (w.2.length : Int) 256)) = ((t8 (r32 8 w.2.length) : Nat) : Int) := by
      have e : Int.tdiv (w.2.length : Int) 256 = ((w.2.length / 256 : Nat) : Int) := (Int.ofNat_tdiv _ 256).symm
      rw [e, IntWalk.i64_in _ (by omega), w8_nat]
      rfl
    have hdiv2 : IntKind.u8.wrap (IntKind.i64.wrap ((w.2.length : Int) / 256)) = ((t8 (r32 8 w.2.length) : Nat) : Int) := by
      rw [← hdiv, Int.tdiv_eq_ediv_of_nonneg (by omega)]
    simp [go_sem, hw1, hrow]
    refine cl_eq (mayR_fn w q1 q2) (by intro v hv; simp at hv; subst hv; exact wcs_deep w) ?_
    rw [q3]
    obtain ⟨op, p⟩ := w
    generalize catR (ws.take k) = out at *
    simp only at q1 q2 hdiv hdiv2
    by_cases h2 : op = 76
    · subst h2
      have hr : refW (76, p) = 76 :: t8 p.length :: p := by simp [refW]
      rw [hr] at hcat hrl
      simp [go_sem, nb, rb_of, rb_len, w8_nat, w3]
      refine ⟨by omega, by omega, by omega, ?_⟩
      refine next_of (k + 1) ⟨by omega, by rw [hrl]; simp only [List.length_cons]; omega⟩ (by omega) ?_
      simp [Weak, slotOk, fv, lk, AV.low, AV.low1, hcat]
      exact ⟨by omega, by simp [rb], rb_low _ _⟩
    · by_cases h3 : op = 77
      · subst h3
        have hr : refW (77, p) = 77 :: t8 p.length :: t8 (r32 8 p.length) :: p := by simp [refW]
        rw [hr] at hcat hrl
        simp [go_sem, nb, rb_of, rb_len, w8_nat, hdiv, w3]
        refine ⟨by omega, by omega, by omega, by omega, ?_⟩
        refine next_of (k + 1) ⟨by omega, by rw [hrl]; simp only [List.length_cons]; omega⟩ (by omega) ?_
        simp [Weak, slotOk, fv, lk, AV.low, AV.low1, hcat]
        exact ⟨by omega, by simp [rb, hdiv2], rb_low _ _⟩
      · have hr : refW (op, p) = op :: p := by simp [refW, h2, h3]
        have e2 : ¬ (op : Int) = 76 := by omega
        have e3 : ¬ (op : Int) = 77 := by omega
        rw [hr] at hcat hrl
        simp [go_sem, nb, rb_of, rb_len, w8_nat, e2, e3, w3]
        refine ⟨by omega, by omega, ?_⟩
        refine next_of (k + 1) ⟨by omega, by rw [hrl]; simp only [List.length_cons]; omega⟩ (by omega) ?_
        simp [Weak, slotOk, fv, lk, AV.low, AV.low1, hcat]
        exact ⟨by omega, by simp [rb], rb_low _ _⟩
  · have hkl : k = ws.length := by omega
    subst hkl
    rw [List.take_length]
    simp [go_sem, resV]

/-- The words of things, so many of them. -/
def wdsT (things : List (List Nat)) : List Wd := things.map pushW
theorem updL_cat : ∀ (things : List (List Nat)) (out : List Nat), (∀ x, x ∈ things → x.length ≤ 1000) → updL out things = some (out ++ catR (wdsT things))
  | [], out, _ => by simp [updL, catR, wdsT]
  | x :: r, out, h => by
    have hx := h x (List.mem_cons_self ..)
    simp only [updL]
    rw [if_neg (by omega), updL_cat r _ (fun y hy => h y (List.mem_cons_of_mem _ hy)), ← refW_eq (push_ok hx)]
    simp [catR, wdsT]
theorem updL_none : ∀ (things : List (List Nat)) (out : List Nat) (k : Nat) (x : List Nat), things[k]? = some x → 1000 < x.length → updL out things = none
  | [], out, k, x, h, _ => by simp at h
  | y :: r, out, 0, x, h, hl => by
    simp at h
    subst h
    simp only [updL]
    rw [if_pos hl]
  | y :: r, out, k + 1, x, h, hl => by
    simp only [updL]
    split
    · rfl
    · exact updL_none r _ k x (by simpa using h) hl

theorem catR_len : ∀ (things : List (List Nat)), (∀ x, x ∈ things → x.length ≤ 1000) → (catR (wdsT things)).length ≤ 1003 * things.length
  | [], _ => by simp [catR, wdsT]
  | x :: r, h => by
    have ih := catR_len r fun y hy => h y (List.mem_cons_of_mem _ hy)
    have hx := h x (List.mem_cons_self ..)
    have h1 := refW_len (pushW x)
    have h2 := pushW_len x
    have e : (catR (wdsT (x :: r))).length = (refW (pushW x)).length + (catR (wdsT r)).length := by simp [catR, wdsT]
    rw [e, List.length_cons]
    omega
theorem snap_wds {hp : Hp} {I : Nat → Prop} {id n : Nat} {ws : List Wd} (hb : lk id hp = some ⟨79, 2, ws.map wcs⟩) (hI : I id) (hn : ws.length = n) : SnapD hp I (.own id 0 n n) (.ro 2 (ws.map encW)) :=
  snap_row (es := ws.map encW) (by rw [hb, List.map_map]; rfl) hI (by simp [hn]) (fun r hr => by
    rw [List.mem_map] at hr
    obtain ⟨w, _, rfl⟩ := hr
    rfl)

set_option maxRecDepth 20000 in
set_option maxHeartbeats 4000000 in
theorem updatedR_fn (things : List (List Nat)) (body : List Nat) (hl : things.length ≤ 1000) (ht : ∀ x, x ∈ things → x.length ≤ 60000 ∧ bytes x) (hb : body.length ≤ 100000) :
    Rets Try.prog 19 [.d (.ro 1 (things.map encT)), .d (nb body)] (fun r => r = .tup [.d (nb (updW things body).1), .d (.int .i64 (updW things body).2)]) := by
  refine fn_of_awp Try.func19 (by kernel_rfl) rfl Try.ntmps19 (rs := [.tmp 4, .tmp 5]) rfl (Nat.le_of_ble_eq_true rfl) (by simp [AV.deep, AV.deep1]) ?_
  generalize hU : updW things body = U
  simp [go_sem]
  refine loop_of (fun k : Nat => ⟨[(0, .d (.ro 1 (things.map encT))), (1, .d (nb body)), (6, .own 64 0 k k), (7, .d (.int .i64 (k : Int)))], [(64, ⟨79, 2, (wdsT (things.take k)).map wcs⟩)], 1000⟩)
    (fun k => k ≤ things.length ∧ ∀ x, x ∈ things.take k → x.length ≤ 1000) (fun k => things.length - k) 0 ⟨by omega, by simp⟩ (by
      simp [Weak, slotOk, fv, lk, AV.low, AV.low1, wdsT]) ?_
  rintro k ⟨hk, hall⟩
  simp only [go_sem, Nat.reduceEqDiff, Nat.reduceAdd, Nat.reduceLT, ↓reduceIte, Nat.reduceMul]
  refine ⟨fun h => ?_, fun h => ?_⟩
  · obtain ⟨x, hx1, hd⟩ := drop_of (l := things) (k := k) (by omega)
    obtain ⟨q1, q2⟩ := ht x (List.mem_of_getElem? hx1)
    by_cases hxl : 1000 < x.length
    · have i1 : 1000 < (x.length : Int) := by omega
      have : U = ([], 4) := by rw [← hU]; unfold updW; rw [updL_none things [] k x hx1 hxl]
      subst this
      simp [go_sem, hx1, encT, nb, i1, resV]
      exact post_bld0 rfl
    · have i1 : ¬ 1000 < (x.length : Int) := by omega
      have w3 := next_i64 (k := k) (by omega)
      have hwl : ((wdsT (things.take k)).map wcs).length = k := by simp [wdsT]; omega
      simp [go_sem, hx1, encT, nb, i1]
      refine cl_eq (pushR_fn x q1 q2) (by simp [AV.deep, AV.deep1]) ?_
      have hsz : (wcs (pushW x)).length = 2 := rfl
      simp [go_sem, hsz, hwl, w3]
      refine ⟨by omega, ?_⟩
      refine next_of (k + 1) ⟨by omega, fun y hy => ?_⟩ (by omega) ?_
      · rw [List.take_add_one, hx1] at hy
        simp at hy
        rcases hy with hy | rfl
        · exact hall y hy
        · omega
      · simp [Weak, slotOk, fv, lk, AV.low, AV.low1, nb]
        refine ⟨by rw [List.take_add_one, hx1]; simp [wdsT], ?_⟩
        rintro r a b _ rfl v hv
        simp [wcs] at hv
        rcases hv with rfl | rfl <;> trivial
  · have hkl : k = things.length := by omega
    subst hkl
    rw [List.take_length] at hall ⊢
    have hcat := updL_cat things [] hall
    rw [List.nil_append] at hcat
    simp [go_sem]
    refine cl_effz [64] (buildR_own (wdsT things) (fun w hw => by
      simp only [wdsT, List.mem_map] at hw
      obtain ⟨x, hx, rfl⟩ := hw
      exact ⟨pushW_ok (ht x hx).1 (ht x hx).2, push_ok (hall x hx)⟩) (by simp [wdsT]; omega)) rfl (snap_cons (.one (snap1_d (snap_wds rfl (by simp) (by simp [wdsT])))) snap_nil) (fun ρ => by simp [AV.renL, AV.ren]) ?_
    rintro r hp' ⟨rfl, h0⟩
    refine ⟨[(65, 0)], rfl, ?_⟩
    unfold updW at hU
    rw [hcat] at hU
    simp only at hU
    have hcl := catR_len things hall
    generalize catR (wdsT things) = L at *
    simp [go_sem, outH, outP, h0, Blk.ren, renR, rb_ren, AV.renL, AV.ren, rho, dropH, nb, rb_of, rb_len]
    have wi : IntKind.i64.wrap ((L.length : Int) + (body.length : Int)) = (L.length : Int) + (body.length : Int) := IntWalk.i64_in _ (by omega)
    rw [wi]
    refine ⟨fun h => ?_, fun h => ⟨by omega, ?_⟩⟩
    · have hbig : 1000 < (L ++ body).length := by rw [List.length_append]; omega
      rw [if_pos hbig] at hU
      subst hU
      exact post_bld0 rfl
    · have hbig : ¬ 1000 < (L ++ body).length := by rw [List.length_append]; omega
      rw [if_neg hbig] at hU
      subst hU
      rw [rb_app, ← List.length_append]
      exact post_bld (id := 1160) (L := L ++ body) rfl (by simp [nb])
end Go.Proofs.Ytiihldilefeldaa
