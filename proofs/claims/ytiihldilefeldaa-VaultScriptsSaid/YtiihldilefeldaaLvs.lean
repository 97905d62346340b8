/-
  The law VaultScripts.
-/
import Derived.Test.YtiihldilefeldaaVaw
import Derived.Test.YtiihldilefeldaaAmLaw
namespace Go.Proofs.Ytiihldilefeldaa
open Go.Am Go.Sha
set_option linter.unusedSimpArgs false
set_option linter.unusedVariables false

theorem layW_bytes {w : Wd} (h8 : w.1 < 256) (hp : bytes w.2) : bytes (layW w).1 := by
  unfold layW
  split
  · intro y hy
    rcases List.mem_cons.1 hy with rfl | hy
    · exact h8
    · exact hp y hy
  · split
    · intro y hy
      simp only [List.mem_cons] at hy
      rcases hy with rfl | rfl | hy
      · omega
      · exact le_bytes _
      · exact hp y hy
    · split
      · intro y hy
        simp only [List.mem_cons] at hy
        rcases hy with rfl | rfl | rfl | hy
        · omega
        · exact le_bytes _
        · exact le_bytes _
        · exact hp y hy
      · intro y hy
        simp only [List.mem_singleton] at hy
        rw [hy]; exact h8
theorem pushW_bytes {x : List Nat} (hb : bytes x) : bytes (pushW x).2 := by
  match x, hb with
  | [], hb => exact hb
  | [c], hb =>
    show bytes (if 1 ≤ c ∧ c ≤ 16 then (80 + c, []) else if c = 129 then (79, []) else pushG [c]).2
    split
    · intro y hy; simp at hy
    · split
      · intro y hy; simp at hy
      · exact hb
  | _ :: _ :: _, hb => exact hb
theorem bytes_app {a b : List Nat} (ha : bytes a) (hb : bytes b) : bytes (a ++ b) := fun y hy => (List.mem_append.1 hy).elim (ha y) (hb y)
theorem updL_bytes : ∀ (things : List (List Nat)) (out o : List Nat), bytes out → (∀ x, x ∈ things → x.length ≤ 60000 ∧ bytes x) → updL out things = some o → bytes o
  | [], out, o, h, _, e => by simp only [updL, Option.some.injEq] at e; subst e; exact h
  | x :: r, out, o, h, ht, e => by
    obtain ⟨q1, q2⟩ := ht x (List.mem_cons_self ..)
    simp only [updL] at e
    split at e
    · cases e
    · exact updL_bytes r _ o (bytes_app h (layW_bytes (pushW_ok q1 q2).2 (pushW_bytes q2))) (fun y hy => ht y (List.mem_cons_of_mem _ hy)) e
theorem updW_bytes {things : List (List Nat)} {body : List Nat} (hb : bytes body) (ht : ∀ x, x ∈ things → x.length ≤ 60000 ∧ bytes x) : bytes (updW things body).1 := by
  unfold updW
  cases h : updL [] things with
  | none => intro y hy; simp at hy
  | some o =>
    have := updL_bytes things [] o (by intro y hy; simp at hy) ht h
    simp only
    split
    · intro y hy; simp at hy
    · exact bytes_app this hb

set_option maxHeartbeats 4000000 in
theorem scripts_law (things : List (List Nat)) (body : List Nat) (ht : ∀ x, x ∈ things → bytes x) (hb : bytes body) :
    Rets Try.prog 5 [.d (.ro 1 (things.map encT)), .d (nb body)] (fun r => r = .d (.bool true)) := by
  refine fn_of_awp Try.func5 (by kernel_rfl) rfl Try.ntmps5 (rs := [.tmp 4]) rfl (Nat.le_of_ble_eq_true rfl) (by simp [AV.deep, AV.deep1]) ?_
  by_cases h1 : things.length ≤ 40
  · by_cases h2 : body.length ≤ 600
    · have i1 : ¬ 40 < (things.length : Int) := by omega
      have i2 : ¬ 600 < (body.length : Int) := by omega
      simp [go_sem, nb, i1, i2]
      refine loop_of (fun k : Nat => ⟨[(0, .d (.ro 1 (things.map encT))), (1, .d (nb body)), (5, .d (.int .i64 (k : Int)))], [], 1000⟩)
        (fun k => k ≤ things.length ∧ ∀ x, x ∈ things.take k → x.length ≤ 600) (fun k => things.length - k) 0 ⟨by omega, by simp⟩ (by
          simp [Weak, slotOk, fv, lk, AV.low, AV.low1, nb]) ?_
      rintro k ⟨hk, hall⟩
      simp only [go_sem, Nat.reduceEqDiff, Nat.reduceAdd, Nat.reduceLT, ↓reduceIte, Nat.reduceMul]
      refine ⟨fun h => ?_, fun h => ?_⟩
      · obtain ⟨x, hx1, hd⟩ := drop_of (l := things) (k := k) (by omega)
        by_cases hxl : 600 < x.length
        · have j1 : 600 < (x.length : Int) := by omega
          simp [go_sem, hx1, encT, nb, j1]
          refine cl_eq alive21_fn (by simp) ?_
          simp [go_sem, resV]
          exact post_same (by simp [AV.deep, AV.deep1]) rfl
        · have j1 : ¬ 600 < (x.length : Int) := by omega
          have w3 := next_i64 (k := k) (by omega)
          simp [go_sem, hx1, encT, nb, j1, w3]
          refine next_of (k + 1) ⟨by omega, fun y hy => ?_⟩ (by omega) ?_
          · rw [List.take_add_one, hx1] at hy
            simp at hy
            rcases hy with hy | rfl
            · exact hall y hy
            · omega
          · simp [Weak, slotOk, fv, lk, AV.low, AV.low1, nb]
      · have hkl : k = things.length := by omega
        subst hkl
        rw [List.take_length] at hall
        have ht' : ∀ x, x ∈ things → x.length ≤ 60000 ∧ bytes x := fun x hx => ⟨by have := hall x hx; omega, ht x hx⟩
        simp [go_sem]
        refine cl_eq (updated_fn things body (by omega) ht' (by omega)) (by simp [AV.deep, AV.deep1]) ?_
        simp [go_sem]
        refine cl_eq (updatedR_fn things body (by omega) ht' (by omega)) (by simp [AV.deep, AV.deep1]) ?_
        have hUb := updW_bytes hb ht'
        generalize updW things body = U at *
        simp [go_sem]
        refine cl_eq alive21_fn (by simp) ?_
        simp [go_sem, nb]
        refine cvS_nb U.1 5 hUb (by simp [go_sem]) (by simp [go_sem]) Try.underlying5 ?_
        simp [go_sem, nb]
        refine cvS_nb U.1 5 hUb (by simp [go_sem]) (by simp [go_sem]) Try.underlying5 ?_
        simp [go_sem]
        refine cl_eq (recHash_fn body (by omega)) (by simp [AV.deep, AV.deep1]) ?_
        simp [go_sem]
        refine cl_eq (recHashR_fn body (by omega) hb) (by simp [AV.deep, AV.deep1]) ?_
        have hL := recB_len body
        simp [go_sem, ints_cb, hL, resV]
        exact post_same (by simp [AV.deep, AV.deep1]) rfl
    · have i1 : ¬ 40 < (things.length : Int) := by omega
      have i2 : 600 < (body.length : Int) := by omega
      simp [go_sem, nb, i1, i2]
      refine cl_eq alive21_fn (by simp) ?_
      simp [go_sem, resV]
      exact post_same (by simp [AV.deep, AV.deep1]) rfl
  · have i1 : 40 < (things.length : Int) := by omega
    simp [go_sem, nb, i1]
    refine cl_eq alive21_fn (by simp) ?_
    simp [go_sem, resV]
    exact post_same (by simp [AV.deep, AV.deep1]) rfl

set_option maxRecDepth 100000
theorem arg_one {n : Nat} {t : TypeId} {a : AV} {k : TypeDesc} (hu : Try.prog.underlying t = some k) (hk : ∀ fs, k ≠ .struct fs) (hk2 : ∀ m e, k ≠ .array m e) (h : ArgTy Try.prog n t a) : ∃ d, a = .d d ∧ TyD Try.prog n t [d] := by
  unfold ArgTy at h
  rw [hu] at h
  cases k <;> first | exact h | exact absurd rfl (hk _) | exact absurd rfl (hk2 _ _)
theorem ty_things {n : Nat} {d : DV} (h : TyD Try.prog (n + 3) 33 [d]) : ∃ xs : List (List Nat), d = .ro 1 (xs.map encT) ∧ ∀ x, x ∈ xs → bytes x := by
  rw [TyD] at h
  simp only [Try.underlying33, List.cons.injEq, and_true] at h
  obtain ⟨es, rfl, hl, hr⟩ := h
  obtain ⟨xs, rfl, hxs⟩ := map_of (enc := encT) (R := fun x => bytes x) (es := es) (fun r hr' => by
    obtain ⟨h1, h2⟩ := hr r hr'
    rw [show Try.prog.cellsOf 24 = 1 by kernel_rfl] at h2
    match r, h1, h2 with
    | [y], h1, _ =>
      obtain ⟨x, rfl, _, hb⟩ := ty_bytes h1
      exact ⟨x, rfl, hb⟩)
  exact ⟨xs, by rw [show Try.prog.cellsOf 24 = 1 by kernel_rfl], hxs⟩
theorem scripts_args (l : List AV) (h : ArgTys Try.prog 6 [33, 24] l) : Rets Try.prog 5 l (fun r => r = .d (.bool true)) := by
  obtain ⟨a0, r0, rfl, h0, a1, r1, rfl, h1, rfl⟩ := h
  obtain ⟨d0, rfl, t0⟩ := arg_one Try.underlying33 (by simp) (by simp) h0
  obtain ⟨d1, rfl, t1⟩ := arg_one Try.underlying24 (by simp) (by simp) h1
  obtain ⟨things, rfl, q1⟩ := ty_things t0
  obtain ⟨body, rfl, q2, q3⟩ := ty_bytes t1
  exact scripts_law things body q1 q3
end Go.Proofs.Ytiihldilefeldaa
