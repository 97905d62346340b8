/-
  The law VaultSettle.
-/
import Derived.Test.YtcchgbhjnaooiaaVs
import Derived.Test.YtcchgbhjnaooiaaAmLaw
namespace Go.Proofs.Ytcchgbhjnaooiaa
open Go.Am
set_option linter.unusedSimpArgs false
set_option linter.unusedVariables false

set_option maxHeartbeats 2000000 in
theorem settle_law (outs : List (Int × List Int)) (cs : List (Int × Int)) (out : Int) (hc : ∀ c, c ∈ cs → 0 ≤ c.2 ∧ c.2 < 18446744073709551616) :
    Rets Try.prog 3 [.d (.ro 2 (outs.map encOut)), .d (.ro 2 (cs.map encClaim)), .d (.int .i64 out)] (fun r => r = .d (.bool true)) := by
  refine fn_of_awp Try.func3 (by kernel_rfl) rfl Try.ntmps3 (rs := [.tmp 6]) rfl (Nat.le_of_ble_eq_true rfl) (by simp [AV.deep, AV.deep1]) ?_
  by_cases h1 : outs.length ≤ 40
  · by_cases h2 : cs.length ≤ 40
    · have e1 : ¬ (40 : Int) < outs.length := by omega
      have e2 : ¬ (40 : Int) < cs.length := by omega
      simp [go_sem, e1, e2]
      refine cl_eq (owed_fn cs out (by omega)) (by simp [AV.deep, AV.deep1]) ?_
      simp [go_sem]
      refine cl_eq (owedR_fn cs out (by omega)) (by simp [AV.deep, AV.deep1]) ?_
      rw [owedR_eq out cs 0 hc (by omega) (by omega)]
      simp [go_sem]
      refine cl_eq alive_fn (by simp [AV.deep, AV.deep1]) ?_
      simp [go_sem]
      refine cl_eq (settle_fn outs cs (by omega) (by omega)) (by simp [AV.deep, AV.deep1]) ?_
      simp [go_sem]
      refine cl_eq (settleR_fn outs cs (by omega) (by omega)) (by simp [AV.deep, AV.deep1]) ?_
      rw [settleR_eq outs cs hc]
      simp [go_sem]
      exact post_same (by simp [AV.deep, AV.deep1]) rfl
    · have e1 : ¬ (40 : Int) < outs.length := by omega
      have e2 : (40 : Int) < cs.length := by omega
      simp [go_sem, e1, e2]
      refine cl_eq alive_fn (by simp [AV.deep, AV.deep1]) ?_
      simp [go_sem]
      exact post_same (by simp [AV.deep, AV.deep1]) rfl
  · have e1 : (40 : Int) < outs.length := by omega
    simp [go_sem, e1]
    refine cl_eq alive_fn (by simp [AV.deep, AV.deep1]) ?_
    simp [go_sem]
    exact post_same (by simp [AV.deep, AV.deep1]) rfl

theorem ty_bytes {n : Nat} {d : DV} (h : TyD Try.prog (n + 2) 33 [d]) : ∃ bs : List Int, d = encB bs ∧ bs.length ≤ maxLen ∧ ∀ b, b ∈ bs → 0 ≤ b ∧ b < 256 := by
  simp only [TyD, Try.underlying33, List.cons.injEq, and_true] at h
  obtain ⟨es, rfl, hl, hr⟩ := h
  obtain ⟨bs, rfl, hbs⟩ := map_of (enc := fun b : Int => [DV.int .u8 b]) (R := fun b => 0 ≤ b ∧ b < 256) (es := es) (fun r hr' => by
    obtain ⟨h1, h2⟩ := hr r hr'
    simp only [Try.underlying5] at h1
    obtain ⟨x, rfl, hx⟩ := h1
    exact ⟨x, rfl, by simp [IntKind.has, IntKind.min, IntKind.max, IntKind.signed, IntKind.bits] at hx; omega⟩)
  refine ⟨bs, by rw [c5]; rfl, by simpa using hl, hbs⟩

theorem ty_outs {n : Nat} {d : DV} (h : TyD Try.prog (n + 4) 22 [d]) : ∃ outs : List (Int × List Int), d = .ro 2 (outs.map encOut) ∧ ∀ o, o ∈ outs → (0 ≤ o.1 ∧ o.1 < 18446744073709551616) := by
  rw [TyD] at h
  simp only [Try.underlying22, List.cons.injEq, and_true] at h
  obtain ⟨es, rfl, hl, hr⟩ := h
  obtain ⟨os, rfl, hos⟩ := map_of (enc := encOut) (R := fun o => 0 ≤ o.1 ∧ o.1 < 18446744073709551616) (es := es) (fun r hr' => by
    obtain ⟨h1, h2⟩ := hr r hr'
    rw [TyD] at h1
    simp only [Try.underlying35, List.map_cons, List.map_nil] at h1
    obtain ⟨a, b, rfl, ha, ha2, a', b', rfl, hb, hb2, rfl⟩ := h1
    rw [TyD] at ha2
    simp only [Try.underlying25] at ha2
    obtain ⟨x, rfl, hx⟩ := ha2
    rw [c33] at hb
    match a', hb, hb2 with
    | [y], _, hb2 =>
      obtain ⟨bs, rfl, _⟩ := ty_bytes hb2
      exact ⟨(x, bs), rfl, by simp [IntKind.has, IntKind.min, IntKind.max, IntKind.signed, IntKind.bits] at hx; omega⟩)
  exact ⟨os, by rw [c35], hos⟩

theorem ty_claims {n : Nat} {d : DV} (h : TyD Try.prog (n + 3) 23 [d]) : ∃ cs : List (Int × Int), d = .ro 2 (cs.map encClaim) ∧ ∀ c, c ∈ cs → 0 ≤ c.2 ∧ c.2 < 18446744073709551616 := by
  rw [TyD] at h
  simp only [Try.underlying23, List.cons.injEq, and_true] at h
  obtain ⟨es, rfl, hl, hr⟩ := h
  obtain ⟨os, rfl, hos⟩ := map_of (enc := encClaim) (R := fun o => 0 ≤ o.2 ∧ o.2 < 18446744073709551616) (es := es) (fun r hr' => by
    obtain ⟨h1, h2⟩ := hr r hr'
    rw [TyD] at h1
    simp only [Try.underlying32, List.map_cons, List.map_nil] at h1
    obtain ⟨a, b, rfl, ha, ha2, a', b', rfl, hb, hb2, rfl⟩ := h1
    rw [TyD] at ha2 hb2
    simp only [Try.underlying25, Try.underlying3] at ha2 hb2
    obtain ⟨x, rfl, _⟩ := ha2
    obtain ⟨y, rfl, hx⟩ := hb2
    exact ⟨(x, y), rfl, by simp [IntKind.has, IntKind.min, IntKind.max, IntKind.signed, IntKind.bits] at hx; omega⟩)
  exact ⟨os, by rw [c32], hos⟩

theorem arg_one {n : Nat} {t : TypeId} {a : AV} {k : TypeDesc} (hu : Try.prog.underlying t = some k) (hk : ∀ fs, k ≠ .struct fs) (hk2 : ∀ m e, k ≠ .array m e) (h : ArgTy Try.prog n t a) : ∃ d, a = .d d ∧ TyD Try.prog n t [d] := by
  unfold ArgTy at h
  rw [hu] at h
  cases k <;> first | exact h | exact absurd rfl (hk _) | exact absurd rfl (hk2 _ _)

theorem settle_args (l : List AV) (h : ArgTys Try.prog 6 [22, 23, 3] l) : Rets Try.prog 3 l (fun r => r = .d (.bool true)) := by
  obtain ⟨a0, r0, rfl, h0, a1, r1, rfl, h1, a2, r2, rfl, h2, rfl⟩ := h
  obtain ⟨d0, rfl, t0⟩ := arg_one Try.underlying22 (by simp) (by simp) h0
  obtain ⟨d1, rfl, t1⟩ := arg_one Try.underlying23 (by simp) (by simp) h1
  obtain ⟨d2, rfl, t2⟩ := arg_one Try.underlying3 (by simp) (by simp) h2
  obtain ⟨outs, rfl, _⟩ := ty_outs t0
  obtain ⟨cs, rfl, hc⟩ := ty_claims t1
  rw [TyD] at t2
  simp only [Try.underlying3, List.cons.injEq, and_true] at t2
  obtain ⟨x, rfl, _⟩ := t2
  exact settle_law outs cs x hc
end Go.Proofs.Ytcchgbhjnaooiaa
