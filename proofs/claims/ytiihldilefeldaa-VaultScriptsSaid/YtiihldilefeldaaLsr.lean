/-
  The law TreeSorted.
-/
import Derived.Test.YtiihldilefeldaaLvh
import Derived.Test.YtiihldilefeldaaAmLaw
namespace Go.Proofs.Ytiihldilefeldaa
open Go.Am Go.Sha
set_option linter.unusedSimpArgs false
set_option linter.unusedVariables false

theorem cmp_anti : ∀ (x y : List UInt8), (0 < Lib.compareBytes x y ↔ Lib.compareBytes y x < 0) ∧ (Lib.compareBytes x y = 0 → x = y)
  | [], [] => by simp [Lib.compareBytes]
  | [], _ :: _ => by simp [Lib.compareBytes]
  | _ :: _, [] => by simp [Lib.compareBytes]
  | a :: x, b :: y => by
    have ih := cmp_anti x y
    simp only [Lib.compareBytes]
    by_cases h1 : a < b
    · have h2 : ¬ b < a := fun h => by
        have := UInt8.lt_iff_toNat_lt.1 h
        have := UInt8.lt_iff_toNat_lt.1 h1
        omega
      simp [h1, h2]
    · by_cases h2 : b < a
      · simp [h1, h2]
      · have : a = b := UInt8.toNat_inj.1 (by
          have e1 : ¬ a.toNat < b.toNat := fun h => h1 (UInt8.lt_iff_toNat_lt.2 h)
          have e2 : ¬ b.toNat < a.toNat := fun h => h2 (UInt8.lt_iff_toNat_lt.2 h)
          omega)
        subst this
        simp only [h1, if_false]
        exact ⟨ih.1, fun h => by rw [ih.2 h]⟩
def bytes (l : List Nat) : Prop := ∀ x, x ∈ l → x < 256
theorem u8s_inj : ∀ {a b : List Nat}, bytes a → bytes b → u8s a = u8s b → a = b
  | [], [], _, _, _ => rfl
  | [], _ :: _, _, _, h => by simp [u8s, Lib.bytesOf] at h
  | _ :: _, [], _, _, h => by simp [u8s, Lib.bytesOf] at h
  | x :: a, y :: b, ha, hb, h => by
    have hx := ha x (List.mem_cons_self ..)
    have hy := hb y (List.mem_cons_self ..)
    simp [u8s, Lib.bytesOf] at h
    obtain ⟨h1, h2⟩ := h
    have := u8s_inj (fun z hz => ha z (List.mem_cons_of_mem _ hz)) (fun z hz => hb z (List.mem_cons_of_mem _ hz)) (by simpa [u8s, Lib.bytesOf] using h2)
    have e : x = y := by
      have := congrArg UInt8.toNat h1
      rw [UInt8.toNat_ofNat', UInt8.toNat_ofNat', Nat.mod_eq_of_lt (by omega), Nat.mod_eq_of_lt (by omega)] at this
      exact this
    rw [this, e]
theorem branchB_comm {a b : List Nat} (ha : bytes a) (hb : bytes b) : branchB a b = branchB b a := by
  unfold branchB
  obtain ⟨h1, h2⟩ := cmp_anti (u8s a) (u8s b)
  obtain ⟨h3, h4⟩ := cmp_anti (u8s b) (u8s a)
  by_cases c1 : 0 < Lib.compareBytes (u8s a) (u8s b)
  · have c2 : ¬ 0 < Lib.compareBytes (u8s b) (u8s a) := by have := h1.1 c1; omega
    rw [if_pos c1, if_neg c2]
  · by_cases c2 : 0 < Lib.compareBytes (u8s b) (u8s a)
    · rw [if_neg c1, if_pos c2]
    · have h0 : Lib.compareBytes (u8s a) (u8s b) = 0 := by
        have : ¬ Lib.compareBytes (u8s a) (u8s b) < 0 := fun h => c2 (h3.2 h)
        omega
      have := u8s_inj ha hb (h2 h0)
      subst this
      rfl

theorem leaf_deep {inner : List Nat} {a b : AV} (ha : a.deep1) (hb : b.deep1) : (AV.agg (leafC inner a b)).deep := by
  intro c hc
  simp only [leafC, List.mem_append, List.mem_cons, List.mem_nil_iff, or_false] at hc
  rcases hc with hc | rfl | rfl
  · exact cb_deep _ _ hc
  · exact ha
  · exact hb
theorem leafset {inner : List Nat} (hi : inner.length = 32) (a b w : AV) (r : List AV) : (cb inner ++ a :: b :: r).set 32 w = cb inner ++ w :: b :: r := by
  rw [List.set_append_right _ _ (by rw [cb_len]; omega), cb_len, hi]; rfl
theorem zleaf_drop : List.drop 34 (cb z32 ++ [AV.nil, AV.nil]) = [] := rfl
theorem rootB_len : ∀ (ps : List (List Nat)) {h : List Nat}, h.length = 32 → (rootB ps h).length = 32
  | [], h, hh => hh
  | p :: r, h, _ => rootB_len r (branchB_len h p)
theorem cb_deepA (l : List Nat) : (AV.agg (cb l)).deep := cb_deep l

set_option maxHeartbeats 4000000 in
theorem sorted_law (inner : List Nat) (ps : List (List Nat)) (x a b : List Nat) (hi : inner.length = 32) (hp32 : ∀ p, p ∈ ps → p.length = 32) (ha : a.length = 32) (hb : b.length = 32) (hab : bytes a) (hbb : bytes b) :
    Rets Try.prog 4 [.agg (leafC inner (.d (hs32 ps)) (.d (nb x))), .agg (cb a), .agg (cb b)] (fun r => r = .d (.bool true)) := by
  have hleaf : (AV.agg (leafC inner (.d (hs32 ps)) (.d (nb x)))).deep := leaf_deep trivial trivial
  refine fn_of_awp Try.func4 (by kernel_rfl) rfl Try.ntmps4 (rs := [.tmp 6]) rfl (Nat.le_of_ble_eq_true rfl) (by
    intro v hv
    simp only [List.mem_cons, List.mem_nil_iff, or_false] at hv
    rcases hv with rfl | rfl | rfl
    · exact hleaf
    · exact cb_deepA _
    · exact cb_deepA _) ?_
  have hll : ∀ u v, (leafC inner u v).length = 34 := fun u v => by simp [leafC, cb_len, hi]
  have hlt : ∀ u v, List.take 34 (leafC inner u v) = leafC inner u v := fun u v => List.take_of_length_le (by rw [hll]; omega)
  have hld : ∀ u v, List.drop 34 (leafC inner u v) = [] := fun u v => List.drop_eq_nil_of_le (by rw [hll]; omega)
  simp [go_sem, hll, hlt, hld]
  refine cl_eq (small16_fn inner ps x hi) (by intro v hv; simp at hv; subst hv; exact hleaf) ?_
  by_cases hs : ps.length ≤ 12 ∧ x.length ≤ 300
  · obtain ⟨hs1, hs2⟩ := hs
    have hz : (leafC z32 .nil .nil).length = 34 := rfl
    simp [go_sem, hs1, hs2, hll, hlt, hld, hz]
    have hmp : List.map (List.map AV.d ∘ cd) ps = ps.map cb := by
      apply List.map_congr_left
      intro p _
      exact cd_map p
    apply draw3 (1 :: 2 :: 4 :: []) (0 :: 3 :: 5 :: 6 :: 8 :: []) (1 :: 2 :: 4 :: 7 :: []) (.alt (.step 0 ([]) true (.alt (.step 3 ([]) true (.step 5 ([]) true (.step 6 (7 :: []) true (.step 8 ([]) false .done)))) (.step 5 ([]) true (.step 3 ([]) true (.step 6 (7 :: []) true (.step 8 ([]) false .done)))))) (.step 5 ([]) true (.step 0 ([]) true (.step 3 ([]) true (.step 6 (7 :: []) true (.step 8 ([]) false .done))))))
      ⟨[(3, .ptr 0 0 0 1), (4, .ptr 32 0 0 1), (5, .ptr 64 0 0 1), (7, .ptr 256 0 0 1)], [(0, ⟨26, 34, [leafC inner (.d (hs32 ps)) (.d (nb x))]⟩), (32, ⟨22, 32, [cb a]⟩), (64, ⟨22, 32, [cb b]⟩), (256, ⟨26, 34, [leafC inner (.own 320 0 (ps.length + 1) (ps.length + 1)) (.d (nb x))]⟩), (320, ⟨22, 32, ps.map cb ++ [cb a]⟩)], 608⟩ (k := 9) (by kernel_rfl) (by kernel_rfl) rfl
    case hz => repeat (first | exact Its.nil | apply Its.plain rfl | apply Its.guard rfl rfl)
    case hj => repeat (first | exact Tts.done | exact Its.nil | apply Tts.alt | apply Its.plain rfl | apply Its.guard rfl rfl | apply Tts.plain rfl | apply Tts.guard rfl rfl)
    case h3 =>
      intro G hG
      simp [go_sem, leafC, leaf32 hi, hs32, ha, hb, hi, cb_take ha, hmp, SaW, leafset hi, zleaf_drop]
      have hl2 : ∀ v, (v ∈ cb inner ∨ v = AV.own 320 0 (ps.length + 1) (ps.length + 1) ∨ v = .d (nb x)) → v.low1 608 := by
        rintro v (h | rfl | rfl)
        · exact cb_low _ _ _ h
        · simp [AV.low1]
        · trivial
      have hl3 : ∀ v, (v ∈ cb inner ∨ v = AV.d (.ro 32 (List.map cd ps)) ∨ v = .d (nb x)) → v.low1 608 := by
        rintro v (h | rfl | rfl)
        · exact cb_low _ _ _ h
        · trivial
        · trivial
      have hl4 : ∀ r, (∃ p, p ∈ ps ∧ cb p = r) ∨ r = cb a → ∀ v, v ∈ r → v.low1 608 := by
        rintro r (⟨p, _, rfl⟩ | rfl)
        · exact cb_low _ _
        · exact cb_low _ _
      refine ⟨⟨⟨by omega, by omega, hG _ _ (weak_wk ?_)⟩, by omega, by omega, hG _ _ (weak_wk ?_)⟩, by omega, by omega, hG _ _ (weak_wk ?_)⟩
      all_goals (
        simp only [Weak, slotOk, fv, lk, hs32, leafC]
        simp [AV.low]
        exact ⟨⟨by simp [AV.low1], by simp [AV.low1], by simp [AV.low1], by simp [AV.low1]⟩, hl3, cb_low _ _, cb_low _ _, hl2, hl4⟩)
    case hq =>
      simp [go_sem]
      apply draw2 ([]) ((0, (1 :: 2 :: 3 :: 5 :: 6 :: [])) :: (4, ([])) :: (7, (8 :: 9 :: 10 :: 11 :: 13 :: 15 :: [])) :: (12, ([])) :: (14, ([])) :: (16, (17 :: 18 :: 19 :: [])) :: []) 6 (k := 20) (by kernel_rfl) (by kernel_rfl) rfl
      case hz => repeat (first | exact Its.nil | apply Its.plain rfl | apply Its.guard rfl rfl)
      case hj => repeat (first | exact Jts.nil | exact Its.nil | apply Its.plain rfl | apply Its.guard rfl rfl | apply Jts.plain rfl | apply Jts.guard rfl rfl)
      intro G hG
      simp [go_sem]
      refine cl_eq alive16_fn (by simp) ?_
      simp [go_sem, ha, hb, cb_take ha, cb_take hb, SaW]
      refine cl_eq (branch_fn a b ha hb) (by intro v hv; simp at hv; rcases hv with rfl | rfl <;> exact cb_deepA _) ?_
      simp [go_sem, ha, hb, cb_take ha, cb_take hb, SaW]
      refine cl_eq (branch_fn b a hb ha) (by intro v hv; simp at hv; rcases hv with rfl | rfl <;> exact cb_deepA _) ?_
      have hB := branchB_len a b
      rw [← branchB_comm hab hbb]
      generalize branchB a b = B at hB
      simp [go_sem, ha, hb, cb_take ha, cb_take hb, SaW, ints_cb, hB, hll, hlt]
      have hown : ∀ hp : Hp, lk 320 hp = some ⟨22, 32, ps.map cb ++ [cb a]⟩ → SnapD hp (fun _ => True) (.own 320 0 (ps.length + 1) (ps.length + 1)) (hs32 (ps ++ [a])) := fun hp h => by
        have e : ps.map cb ++ [cb a] = ((ps ++ [a]).map cd).map (fun r => r.map AV.d) := by
          rw [List.map_map]
          simp only [List.map_append, List.map_cons, List.map_nil]
          rw [← hmp]
          simp [cd_map]
        refine snap_row (es := (ps ++ [a]).map cd) (by rw [h, e]) trivial (by simp) ?_
        intro r hr
        rw [List.mem_map] at hr
        obtain ⟨p, hp, rfl⟩ := hr
        rw [cd_len]
        rcases List.mem_append.1 hp with hp | hp
        · exact hp32 p hp
        · rw [List.mem_singleton] at hp; rw [hp]; exact ha
      refine cl_snap (root_fn inner (ps ++ [a]) x hi (by
        intro p hp
        rcases List.mem_append.1 hp with hp | hp
        · exact hp32 p hp
        · rw [List.mem_singleton] at hp; rw [hp]; exact ha) (by simp; omega) (by omega)) rfl (snap_cons (leaf_snap (snap1_d (hown _ rfl)) (snap1_same trivial)) snap_nil) (cb_flat _) ?_
      simp [go_sem, SaW]
      refine cl_eq (root_fn inner ps x hi hp32 (by omega) (by omega)) (by intro v hv; simp at hv; subst hv; exact hleaf) ?_
      have hR : rootB (ps ++ [a]) (leafB x) = branchB (rootB ps (leafB x)) a := by simp [rootB]
      have hRl : (rootB ps (leafB x)).length = 32 := rootB_len ps (leafB_len x)
      rw [hR]
      generalize rootB ps (leafB x) = R at *
      simp [go_sem, SaW]
      refine cl_eq (branch_fn R a hRl ha) (by intro v hv; simp at hv; rcases hv with rfl | rfl <;> exact cb_deepA _) ?_
      have hB2 := branchB_len R a
      generalize branchB R a = B2 at *
      simp [go_sem, SaW, ints_cb, hB2]
      refine hG _ _ ?_
      simp [go_sem, resV]
      exact post_same (by simp [AV.deep, AV.deep1]) rfl
  · simp [go_sem, hs]
    refine cl_eq alive16_fn (by simp) ?_
    simp [go_sem, resV]
    exact post_same (by simp [AV.deep, AV.deep1]) rfl

set_option maxRecDepth 100000
/-- 32 bytes, as an argument. -/
theorem tyfs_rep {n : Nat} : ∀ (m : Nat) {ds : List DV}, TyFs (TyD Try.prog (n + 1)) Try.prog.cellsOf (List.replicate m 5) ds → ∃ l : List Nat, ds = cd l ∧ l.length = m ∧ bytes l
  | 0, ds, h => ⟨[], by simpa [TyFs, cd] using h, rfl, fun _ h => by simp at h⟩
  | m + 1, ds, h => by
    rw [List.replicate_succ] at h
    obtain ⟨a, b, rfl, _, h2, h3⟩ := h
    simp only [TyD, Try.underlying5] at h2
    obtain ⟨x, rfl, hx⟩ := h2
    obtain ⟨l, rfl, hl, hb⟩ := tyfs_rep m h3
    have hx' : 0 ≤ x ∧ x < 256 := by simp [IntKind.has, IntKind.min, IntKind.max, IntKind.signed, IntKind.bits] at hx; omega
    refine ⟨x.toNat :: l, ?_, by simp [hl], fun y hy => ?_⟩
    · simp only [cd, List.map_cons, List.cons_append, List.nil_append]
      rw [show ((x.toNat : Nat) : Int) = x by omega]
    · rcases List.mem_cons.1 hy with rfl | hy
      · omega
      · exact hb y hy
theorem ty_h32 {n : Nat} {ds : List DV} (h : TyD Try.prog (n + 2) 22 ds) : ∃ l : List Nat, ds = cd l ∧ l.length = 32 ∧ bytes l := by
  rw [TyD] at h
  simp only [Try.underlying22] at h
  exact tyfs_rep 32 h
theorem arg_h32 {n : Nat} {a : AV} (h : ArgTy Try.prog (n + 2) 22 a) : ∃ l : List Nat, a = .agg (cb l) ∧ l.length = 32 ∧ bytes l := by
  unfold ArgTy at h
  simp only [Try.underlying22] at h
  obtain ⟨ds, rfl, h⟩ := h
  obtain ⟨l, rfl, h1, h2⟩ := ty_h32 h
  exact ⟨l, by rw [cd_map], h1, h2⟩
theorem ty_bytes {n : Nat} {d : DV} (h : TyD Try.prog (n + 2) 24 [d]) : ∃ bs : List Nat, d = nb bs ∧ bs.length ≤ maxLen ∧ bytes bs := by
  simp only [TyD, Try.underlying24, List.cons.injEq, and_true] at h
  obtain ⟨es, rfl, hl, hr⟩ := h
  obtain ⟨bs, rfl, hbs⟩ := map_of (enc := fun b : Nat => [DV.int .u8 (b : Int)]) (R := fun b => b < 256) (es := es) (fun r hr' => by
    obtain ⟨h1, h2⟩ := hr r hr'
    simp only [Try.underlying5] at h1
    obtain ⟨x, rfl, hx⟩ := h1
    have hx' : 0 ≤ x ∧ x < 256 := by simp [IntKind.has, IntKind.min, IntKind.max, IntKind.signed, IntKind.bits] at hx; omega
    exact ⟨x.toNat, by rw [show ((x.toNat : Nat) : Int) = x by omega], by omega⟩)
  exact ⟨bs, by rw [show Try.prog.cellsOf 5 = 1 by kernel_rfl]; rfl, by simpa using hl, hbs⟩
theorem ty_hs32 {n : Nat} {d : DV} (h : TyD Try.prog (n + 3) 23 [d]) : ∃ ps : List (List Nat), d = hs32 ps ∧ ∀ p, p ∈ ps → p.length = 32 ∧ bytes p := by
  rw [TyD] at h
  simp only [Try.underlying23, List.cons.injEq, and_true] at h
  obtain ⟨es, rfl, hl, hr⟩ := h
  obtain ⟨ps, rfl, hps⟩ := map_of (enc := cd) (R := fun p => p.length = 32 ∧ bytes p) (es := es) (fun r hr' => by
    obtain ⟨l, rfl, h1, h2⟩ := ty_h32 (hr r hr').1
    exact ⟨l, rfl, h1, h2⟩)
  exact ⟨ps, by rw [show Try.prog.cellsOf 22 = 32 by kernel_rfl]; rfl, hps⟩
theorem arg_leaf {n : Nat} {a : AV} (h : ArgTy Try.prog (n + 4) 26 a) : ∃ (inner : List Nat) (ps : List (List Nat)) (x : List Nat), a = .agg (leafC inner (.d (hs32 ps)) (.d (nb x))) ∧ inner.length = 32 ∧ bytes inner ∧ (∀ p, p ∈ ps → p.length = 32 ∧ bytes p) ∧ x.length ≤ maxLen ∧ bytes x := by
  unfold ArgTy at h
  simp only [Try.underlying26] at h
  obtain ⟨ds, rfl, h⟩ := h
  rw [TyD] at h
  simp only [Try.underlying26, List.map_cons, List.map_nil] at h
  obtain ⟨a, b, rfl, ha, ha2, a', b', rfl, hb, hb2, a3, b3, rfl, hc, hc2, rfl⟩ := h
  obtain ⟨inner, rfl, h1, h2⟩ := ty_h32 ha2
  rw [show Try.prog.cellsOf 23 = 1 by kernel_rfl] at hb
  rw [show Try.prog.cellsOf 24 = 1 by kernel_rfl] at hc
  match a', hb, hb2, a3, hc, hc2 with
  | [y], _, hb2, [z], _, hc2 =>
    obtain ⟨ps, rfl, h3⟩ := ty_hs32 hb2
    obtain ⟨x, rfl, h4, h5⟩ := ty_bytes hc2
    exact ⟨inner, ps, x, by simp [leafC, cd_map], h1, h2, h3, h4, h5⟩

theorem sorted_args (l : List AV) (h : ArgTys Try.prog 6 [26, 22, 22] l) : Rets Try.prog 4 l (fun r => r = .d (.bool true)) := by
  obtain ⟨a0, r0, rfl, h0, a1, r1, rfl, h1, a2, r2, rfl, h2, rfl⟩ := h
  obtain ⟨inner, ps, x, rfl, q1, q2, q3, q4, q5⟩ := arg_leaf h0
  obtain ⟨a, rfl, q6, q7⟩ := arg_h32 h1
  obtain ⟨b, rfl, q8, q9⟩ := arg_h32 h2
  exact sorted_law inner ps x a b q1 (fun p hp => (q3 p hp).1) q6 q8 q7 q9
end Go.Proofs.Ytiihldilefeldaa
