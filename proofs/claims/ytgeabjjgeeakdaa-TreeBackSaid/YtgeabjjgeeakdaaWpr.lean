/-
  Outputs and controls of leaves.
-/
import Derived.Test.YtgeabjjgeeakdaaWpq
namespace Go.Proofs.Ytgeabjjgeeakdaa
open Go.Am Go.Sha
set_option linter.unusedSimpArgs false
set_option linter.unusedVariables false

theorem cb_rows {b : List Nat} (hb : b.length = 32) : (List.range 32).map (fun k => ((cb b).drop k).take 1) = rb b := by
  rw [arr_rows hb, rb_of]
theorem leaf_rows {b : List Nat} (hb : b.length = 32) (r : List AV) : (List.range 32).map (fun k => ((cb b ++ r).drop k).take 1) = rb b := by
  rw [← cb_rows hb]
  refine List.map_congr_left fun k hk => ?_
  have hk' : k < 32 := List.mem_range.1 hk
  have hl := cb_len b
  rw [List.drop_append_of_le_length (by omega), List.take_append_of_le_length (by rw [List.length_drop]; omega)]
theorem post_bld {Q : AV → Prop} {st : St} {id : Nat} {e : Int} {L : List Nat} (hb : lk id st.hp = some ⟨5, 1, rb L⟩) (hq : Q (.tup [.d (nb L), .d (.int .i64 e)])) : PostK Q (.tup [.own id 0 L.length L.length, .d (.int .i64 e)]) st :=
  post_tup (snap1_cons (snap1_d (snap_full rfl hb trivial)) (snap1_cons (snap1_same trivial) snap1_nil)) rfl (by simp [AV.deep, AV.deep1]) hq
theorem post_bldn {Q : AV → Prop} {st : St} {id n : Nat} {e : Int} {L : List Nat} (hl : L.length = n) (hb : lk id st.hp = some ⟨5, 1, rb L⟩) (hq : Q (.tup [.d (nb L), .d (.int .i64 e)])) : PostK Q (.tup [.own id 0 n n, .d (.int .i64 e)]) st :=
  post_tup (snap1_cons (snap1_d (snap_full hl hb trivial)) (snap1_cons (snap1_same trivial) snap1_nil)) rfl (by simp [AV.deep, AV.deep1]) hq
theorem post_bld0 {Q : AV → Prop} {st : St} {e : Int} (hq : Q (.tup [.d (nb []), .d (.int .i64 e)])) : PostK Q (.tup [.nil, .d (.int .i64 e)]) st :=
  post_tup (snap1_cons (snap1_d (.nil 1)) (snap1_cons (snap1_same trivial) snap1_nil)) rfl (by simp [AV.deep, AV.deep1]) hq
set_option maxHeartbeats 4000000 in
theorem output_no {inner x k : List Nat} {ps : List (List Nat)} {o : Bool} (hi : inner.length = 32) (hk : k.length = 32) (f : Rets Try.prog 16 [leafV inner ps x] (fun r => r = .tup [.agg (cb k), .d (.bool o), .d (.int .i64 1)])) :
    Rets Try.prog 7 [leafV inner ps x] (fun r => r = .tup [.d (nb []), .d (.int .i64 1)]) := by
  refine fn_of_awp Try.func7 (by kernel_rfl) rfl Try.ntmps7 (rs := [.tmp 2, .tmp 3]) rfl (Nat.le_of_ble_eq_true rfl) (leafV_deep _ _ _) ?_
  have zd : List.drop 32 (cb z32) = [] := cb_drop rfl
  simp [go_sem, leafV, leafC, leaf33 hi, leaf32 hi, hs32, nb, hi, leaf_take hi]
  refine cl_eq f (leafV_deep _ _ _) ?_
  simp [go_sem, cb_len, hk, cb_take hk, zd, resV]
  exact post_bld0 rfl
set_option maxHeartbeats 4000000 in
theorem output_ok {inner x k : List Nat} {ps : List (List Nat)} {o : Bool} (hi : inner.length = 32) (hk : k.length = 32) (f : Rets Try.prog 16 [leafV inner ps x] (fun r => r = .tup [.agg (cb k), .d (.bool o), .d (.int .i64 0)])) :
    Rets Try.prog 7 [leafV inner ps x] (fun r => r = .tup [.d (nb (81 :: 32 :: k)), .d (.int .i64 0)]) := by
  refine fn_of_awp Try.func7 (by kernel_rfl) rfl Try.ntmps7 (rs := [.tmp 2, .tmp 3]) rfl (Nat.le_of_ble_eq_true rfl) (leafV_deep _ _ _) ?_
  have zd : List.drop 32 (cb z32) = [] := cb_drop rfl
  simp [go_sem, leafV, leafC, leaf33 hi, leaf32 hi, hs32, nb, hi, leaf_take hi]
  refine cl_eq f (leafV_deep _ _ _) ?_
  have hx1 := cb_rows hk
  simp [go_sem] at hx1
  simp [go_sem, cb_len, hk, cb_take hk, zd, hx1, rb_len, resV]
  have e : rb (81 :: 32 :: k) = [AV.d (.int .u8 81)] :: [AV.d (.int .u8 32)] :: rb k := by simp [rb]
  have h34 : (81 :: 32 :: k).length = 34 := by simp [hk]
  exact post_bldn (L := 81 :: 32 :: k) h34 (by rw [e]; rfl) (by simp [nb])
set_option maxHeartbeats 4000000 in
theorem control_no {inner x k : List Nat} {ps : List (List Nat)} {o : Bool} (hi : inner.length = 32) (hk : k.length = 32) (f : Rets Try.prog 16 [leafV inner ps x] (fun r => r = .tup [.agg (cb k), .d (.bool o), .d (.int .i64 1)])) :
    Rets Try.prog 8 [leafV inner ps x] (fun r => r = .tup [.d (nb []), .d (.int .i64 1)]) := by
  refine fn_of_awp Try.func8 (by kernel_rfl) rfl Try.ntmps8 (rs := [.tmp 2, .tmp 3]) rfl (Nat.le_of_ble_eq_true rfl) (leafV_deep _ _ _) ?_
  have zd : List.drop 32 (cb z32) = [] := cb_drop rfl
  simp [go_sem, leafV, leafC, leaf33 hi, leaf32 hi, hs32, nb, hi, leaf_take hi]
  refine cl_eq f (leafV_deep _ _ _) ?_
  simp [go_sem, cb_len, hk, cb_take hk, zd, resV]
  exact post_bld0 rfl
def ctl (o : Bool) (inner : List Nat) (ps : List (List Nat)) : List Nat := (if o then 193 else 192) :: (inner ++ ps.flatten)
set_option maxHeartbeats 4000000 in
theorem control_ok {inner x k : List Nat} {ps : List (List Nat)} {o : Bool} (hi : inner.length = 32) (hp32 : ∀ p, p ∈ ps → p.length = 32) (hps : ps.length ≤ 1000) (hk : k.length = 32) (f : Rets Try.prog 16 [leafV inner ps x] (fun r => r = .tup [.agg (cb k), .d (.bool o), .d (.int .i64 0)])) :
    Rets Try.prog 8 [leafV inner ps x] (fun r => r = .tup [.d (nb (ctl o inner ps)), .d (.int .i64 0)]) := by
  refine fn_of_awp Try.func8 (by kernel_rfl) rfl Try.ntmps8 (rs := [.tmp 2, .tmp 3]) rfl (Nat.le_of_ble_eq_true rfl) (leafV_deep _ _ _) ?_
  have zd : List.drop 32 (cb z32) = [] := cb_drop rfl
  have hw : IntKind.u8.wrap 193 = 193 := by decide
  simp [go_sem, leafV, leafC, leaf33 hi, leaf32 hi, hs32, nb, hi, leaf_take hi]
  refine cl_eq f (leafV_deep _ _ _) ?_
  have hx1 := leaf_rows hi [AV.d (DV.ro 32 (List.map cd ps)), AV.d (DV.ro 1 (List.map (fun (b : Nat) => [DV.int .u8 (b : Int)]) x))]
  simp [go_sem] at hx1
  cases o
  · simp [go_sem, hx1, rb_len, cb_len, hk, hi, cb_take hk, zd, hs32, leaf32 hi, cb_takeA hi]
    have w33 : (ctl false inner (ps.take 0)).length = 33 := by simp [ctl, hi]
    have r0 : rb (ctl false inner (ps.take 0)) = [AV.d (.int .u8 192)] :: rb inner := by simp [ctl, rb]
    refine loop_of (fun k : Nat => ⟨[(7, .own 480 0 (ctl false inner (ps.take k)).length (ctl false inner (ps.take k)).length), (31, .d (hs32 ps)), (32, .d (.int .i64 (ps.length : Int))), (33, .d (.int .i64 (k : Int)))], [(480, ⟨5, 1, rb (ctl false inner (ps.take k))⟩)], 9000⟩)
      (fun k => k ≤ ps.length) (fun k => ps.length - k) 0 (by omega) (by
        rw [w33, r0]
        simp [Weak, slotOk, fv, lk, AV.low, AV.low1, hs32]
        exact rb_low _ _) ?_
    intro k hk
    have w := next_i64 (k := k) (by omega)
    simp only [go_sem, Nat.reduceEqDiff, Nat.reduceAdd, Nat.reduceLT, ↓reduceIte]
    refine ⟨fun hlt => ?_, fun hge => ?_⟩
    · have hlt' : k < ps.length := by omega
      have hp := List.getElem?_eq_getElem hlt'
      have htk : ps.take (k + 1) = ps.take k ++ [ps[k]] := List.take_succ_eq_append_getElem hlt'
      generalize ps[k] = q at hp htk
      have hpl : q.length = 32 := hp32 q (List.mem_of_getElem? hp)
      have hx2 := cb_rows hpl
      simp [go_sem] at hx2
      have hc : ctl false inner (ps.take (k + 1)) = ctl false inner (ps.take k) ++ q := by rw [htk]; simp [ctl]
      have hcl : (ctl false inner (ps.take k)).length ≤ 33 + 32 * k := by
        clear hc htk w
        have : (ps.take k).flatten.length ≤ 32 * k := by
          have h1 : ∀ l : List (List Nat), (∀ p, p ∈ l → p.length = 32) → l.flatten.length = 32 * l.length := by
            intro l
            induction l with
            | nil => intro _; rfl
            | cons a r ih => intro h; rw [List.flatten_cons, List.length_append, ih (fun p hp => h p (by simp [hp])), h a (by simp), List.length_cons]; omega
          rw [h1 _ (fun p hp => hp32 p (List.mem_of_mem_take hp)), List.length_take]
          omega
        unfold ctl; rw [List.length_cons, List.length_append, hi]; omega
      generalize ctl false inner (ps.take k) = L at *
      simp [go_sem, hs32, hp, cd_len, hpl, cd_map, cb_take hpl, cb_len, z32_drop, hx2, rb_len]
      first | refine ⟨by omega, ?_⟩ | skip
      refine next_of (k + 1) (by omega) (by omega) ?_
      rw [hc]
      have ra : rb (L ++ q) = rb L ++ rb q := by simp [rb]
      simp [Weak, slotOk, fv, lk, AV.low, AV.low1, hs32, w, hpl, ra]
      intro r hr
      exact hr.elim (rb_low _ _ r) (rb_low _ _ r)
    · have hkn : k = ps.length := by omega
      subst hkn
      simp only [List.take_length]
      simp [go_sem, resV]
      exact post_bldn (L := ctl false inner ps) rfl rfl (by simp [nb])
  · simp [go_sem, hx1, rb_len, cb_len, hk, hi, cb_take hk, zd, hs32, leaf32 hi, cb_takeA hi, hw]
    have w33 : (ctl true inner (ps.take 0)).length = 33 := by simp [ctl, hi]
    have r0 : rb (ctl true inner (ps.take 0)) = [AV.d (.int .u8 193)] :: rb inner := by simp [ctl, rb]
    refine loop_of (fun k : Nat => ⟨[(7, .own 480 0 (ctl true inner (ps.take k)).length (ctl true inner (ps.take k)).length), (31, .d (hs32 ps)), (32, .d (.int .i64 (ps.length : Int))), (33, .d (.int .i64 (k : Int)))], [(480, ⟨5, 1, rb (ctl true inner (ps.take k))⟩)], 9000⟩)
      (fun k => k ≤ ps.length) (fun k => ps.length - k) 0 (by omega) (by
        rw [w33, r0]
        simp [Weak, slotOk, fv, lk, AV.low, AV.low1, hs32]
        exact rb_low _ _) ?_
    intro k hk
    have w := next_i64 (k := k) (by omega)
    simp only [go_sem, Nat.reduceEqDiff, Nat.reduceAdd, Nat.reduceLT, ↓reduceIte]
    refine ⟨fun hlt => ?_, fun hge => ?_⟩
    · have hlt' : k < ps.length := by omega
      have hp := List.getElem?_eq_getElem hlt'
      have htk : ps.take (k + 1) = ps.take k ++ [ps[k]] := List.take_succ_eq_append_getElem hlt'
      generalize ps[k] = q at hp htk
      have hpl : q.length = 32 := hp32 q (List.mem_of_getElem? hp)
      have hx2 := cb_rows hpl
      simp [go_sem] at hx2
      have hc : ctl true inner (ps.take (k + 1)) = ctl true inner (ps.take k) ++ q := by rw [htk]; simp [ctl]
      have hcl : (ctl true inner (ps.take k)).length ≤ 33 + 32 * k := by
        clear hc htk w
        have : (ps.take k).flatten.length ≤ 32 * k := by
          have h1 : ∀ l : List (List Nat), (∀ p, p ∈ l → p.length = 32) → l.flatten.length = 32 * l.length := by
            intro l
            induction l with
            | nil => intro _; rfl
            | cons a r ih => intro h; rw [List.flatten_cons, List.length_append, ih (fun p hp => h p (by simp [hp])), h a (by simp), List.length_cons]; omega
          rw [h1 _ (fun p hp => hp32 p (List.mem_of_mem_take hp)), List.length_take]
          omega
        unfold ctl; rw [List.length_cons, List.length_append, hi]; omega
      generalize ctl true inner (ps.take k) = L at *
      simp [go_sem, hs32, hp, cd_len, hpl, cd_map, cb_take hpl, cb_len, z32_drop, hx2, rb_len]
      first | refine ⟨by omega, ?_⟩ | skip
      refine next_of (k + 1) (by omega) (by omega) ?_
      rw [hc]
      have ra : rb (L ++ q) = rb L ++ rb q := by simp [rb]
      simp [Weak, slotOk, fv, lk, AV.low, AV.low1, hs32, w, hpl, ra]
      intro r hr
      exact hr.elim (rb_low _ _ r) (rb_low _ _ r)
    · have hkn : k = ps.length := by omega
      subst hkn
      simp only [List.take_length]
      simp [go_sem, resV]
      exact post_bldn (L := ctl true inner ps) rfl rfl (by simp [nb])
end Go.Proofs.Ytgeabjjgeeakdaa
