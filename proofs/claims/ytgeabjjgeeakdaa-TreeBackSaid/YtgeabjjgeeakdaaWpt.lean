/-
  Leaves, checked by a key; leaves alike.
-/
import Derived.Test.YtgeabjjgeeakdaaWps
namespace Go.Proofs.Ytgeabjjgeeakdaa
open Go.Am Go.Sha
set_option linter.unusedSimpArgs false
set_option linter.unusedVariables false

theorem r_b_beq {P : Program} {K : AV → Hp → Prop} {hp : Hp} (t : TypeId) (a b : Bool) : binW P .eql t (.d (.bool a)) (.d (.bool b)) K hp = (P.underlying t = some .bool ∧ K (.d (.bool (a == b))) hp) := rfl
theorem r_b_bne {P : Program} {K : AV → Hp → Prop} {hp : Hp} (t : TypeId) (a b : Bool) : binW P .neq t (.d (.bool a)) (.d (.bool b)) K hp = (P.underlying t = some .bool ∧ K (.d (.bool (a != b))) hp) := rfl
theorem und_bool : Try.prog.underlying 4 = some .bool := by kernel_rfl
attribute [go_sem] r_b_beq r_b_bne und_bool
theorem three_d (a b : DV) (k : List Nat) : ∀ v, v ∈ [AV.d a, AV.d b, AV.agg (cb k)] → v.deep := by
  intro v hv; simp at hv
  rcases hv with rfl | rfl | rfl
  · trivial
  · trivial
  · exact cb_deepA _
theorem leafC_deep (inner : List Nat) (a b : DV) : (AV.agg (leafC inner (.d a) (.d b))).deep := by
  intro c hc
  unfold leafC at hc
  rcases List.mem_append.1 hc with h | h
  · exact cb_deep _ _ h
  · simp at h; rcases h with rfl | rfl <;> trivial
theorem post_le {Q : AV → Prop} {st : St} {inner : List Nat} {a b : DV} {e : Int} (hq : Q (.tup [.agg (leafC inner (.d a) (.d b)), .d (.int .i64 e)])) : PostK Q (.tup [.agg (leafC inner (.d a) (.d b)), .d (.int .i64 e)]) st :=
  post_same (by
    intro c hc
    simp at hc
    rcases hc with rfl | rfl
    · exact .inr ⟨_, rfl, leafC_deep _ _ _⟩
    · exact .inl trivial) hq
theorem cvS_nb {P : Program} {s t : TypeId} {Kk : AV → Hp → Prop} {hp : Hp} (l : List Nat) (el : TypeId) (hb : bytes l) (h1 : tyk P s = .slice el) (h2 : tyk P t = .str) (h3 : P.underlying el = some (.int .u8)) (hK : Kk (.d (.str (sb l))) hp) : cvS P s t (l.map fun (x : Nat) => [DV.int .u8 (x : Int)]) Kk hp := by
  refine ⟨sb l, by simp [sb], fun b h => ?_, ?_⟩
  · simp only [sb, List.mem_map] at h
    obtain ⟨x, hx, rfl⟩ := h
    have := hb x hx
    omega
  · rw [h1, h2]
    exact ⟨h3, hK⟩
end Go.Proofs.Ytgeabjjgeeakdaa

/-
  The law VaultScripts.
-/
namespace Go.Proofs.Ytgeabjjgeeakdaa
open Go.Am Go.Sha
set_option maxRecDepth 20000 in
set_option maxHeartbeats 8000000 in
theorem check_ok {inner x k kk : List Nat} {ps : List (List Nat)} {o : Bool} (hi : inner.length = 32) (hp32 : ∀ p, p ∈ ps → p.length = 32) (hps : ps.length ≤ 8) (hx : x.length ≤ 1000) (hk : k.length = 32) (hkk : kk.length = 32) (f : Rets Try.prog 16 [leafV inner ps x] (fun r => r = .tup [.agg (cb k), .d (.bool o), .d (.int .i64 0)])) :
    Rets Try.prog 11 [.d (nb (ctl o inner ps)), .d (nb x), .agg (cb kk)] (fun r => r = if k = kk then .tup [.agg (leafC inner (.d (hs32 ps)) (.d (nb x))), .d (.int .i64 0)] else .tup [.agg (leafC z32 .nil .nil), .d (.int .i64 26)]) := by
  refine fn_of_awp Try.func11 (by kernel_rfl) rfl Try.ntmps11 (rs := [.cell 6 26, .tmp 7]) rfl (Nat.le_of_ble_eq_true rfl) (three_d _ _ _) ?_
  have zd : List.drop 32 (cb z32) = [] := cb_drop rfl
  have zlf : (leafC z32 .nil .nil).length = 34 := rfl
  have lft : List.drop 34 (leafC z32 .nil .nil) = [] := rfl
  have f1 := read_ok o hi hp32 hps hx
  simp [go_sem, cb_len, hkk, cb_take hkk]
  refine cl_eq f1 (by simp [AV.deep, AV.deep1]) ?_
  simp [go_sem, leaf_len hi, leaf_take2 hi, zlf, lft]
  refine cl_eq f (leafV_deep _ _ _) ?_
  by_cases q : k = kk
  · subst q
    cases o
    · simp [go_sem, cb_len, hk, cb_take hk, zd, ints_cb, leaf_len hi, leaf_take2 hi, zlf, lft, resV]
      exact post_le rfl
    · simp [go_sem, cb_len, hk, cb_take hk, zd, ints_cb, leaf_len hi, leaf_take2 hi, zlf, lft, resV]
      exact post_le rfl
  · have q2 : ¬ (List.map (fun (x : Nat) => (x : Int)) k = List.map (fun (x : Nat) => (x : Int)) kk) := fun h => q (natmap_inj.1 h)
    have zt : List.take 34 (leafC z32 .nil .nil) = leafC z32 .nil .nil := rfl
    simp [go_sem, cb_len, hk, hkk, cb_take hk, cb_take hkk, zd, ints_cb, q, q2, zlf, lft, zt, resV]
    refine post_same ?_ rfl
    intro c hc
    simp at hc
    rcases hc with rfl | rfl
    · exact .inr ⟨_, rfl, fun x hx => by
        unfold leafC at hx
        rcases List.mem_append.1 hx with h | h
        · exact cb_deep _ _ h
        · simp at h; subst h; trivial⟩
    · exact .inl trivial
set_option maxRecDepth 20000 in
set_option maxHeartbeats 8000000 in
theorem same_ok {inner x : List Nat} {ps : List (List Nat)} (hi : inner.length = 32) (hp32 : ∀ p, p ∈ ps → p.length = 32) (hps : ps.length ≤ 1000) (hxb : bytes x) :
    Rets Try.prog 12 [leafV inner ps x, leafV inner ps x] (fun r => r = .d (.bool true)) := by
  refine fn_of_awp Try.func12 (by kernel_rfl) rfl Try.ntmps12 (rs := [.tmp 4]) rfl (Nat.le_of_ble_eq_true rfl) (by
    intro v hv
    simp at hv
    subst hv
    exact leafC_deep _ _ _) ?_
  simp [go_sem, leafV, leafC, leaf33 hi, leaf32 hi, hs32, nb, hi, leaf_take hi, cb_takeA hi, ints_cb]
  refine cvS_nb x 5 hxb (by simp [go_sem]) (by simp [go_sem]) Try.underlying5 ?_
  simp [go_sem, leafC, leaf33 hi, hs32, nb]
  refine cvS_nb x 5 hxb (by simp [go_sem]) (by simp [go_sem]) Try.underlying5 ?_
  simp [go_sem]
  refine loop_of (fun k : Nat => ⟨[(2, .ptr 0 0 0 1), (3, .ptr 32 0 0 1), (5, .d (.int .i64 (k : Int)))], [(32, ⟨26, 34, [leafC inner (.d (hs32 ps)) (.d (nb x))]⟩), (0, ⟨26, 34, [leafC inner (.d (hs32 ps)) (.d (nb x))]⟩)], 9000⟩)
    (fun k => k ≤ ps.length) (fun k => ps.length - k) 0 (by omega) (by
      simp [Weak, slotOk, fv, lk, AV.low, AV.low1]
      exact ⟨rfl, leafC_low _ _ _ _ trivial trivial⟩) ?_
  intro k hk
  have w := next_i64 (k := k) (by omega)
  simp only [go_sem, Nat.reduceEqDiff, Nat.reduceAdd, Nat.reduceLT, ↓reduceIte]
  have hh : (List.drop 32 (leafC inner (.d (hs32 ps)) (.d (nb x)))).head? = some (.d (.ro 32 (ps.map cd))) := leaf_hd hi _ _
  simp only [hh]
  simp only [go_sem, Nat.reduceEqDiff, Nat.reduceAdd, Nat.reduceLT, ↓reduceIte]
  by_cases hlt : k < ps.length
  · refine ⟨fun _ => ?_, fun h => absurd (by simpa using hlt) h⟩
    have hp := List.getElem?_eq_getElem hlt
    generalize ps[k] = q at hp
    have hq : q.length = 32 := hp32 q (List.mem_of_getElem? hp)
    apply draw2 (0 :: 1 :: 2 :: 3 :: 4 :: 5 :: 6 :: 7 :: 8 :: 9 :: 10 :: []) ([]) 0 (k := 11) (by kernel_rfl) (by kernel_rfl) rfl
    case hz => repeat (first | exact Its.nil | apply Its.plain rfl | apply Its.guard rfl rfl)
    case hj => repeat (first | exact Jts.nil | exact Its.nil | apply Its.plain rfl | apply Its.guard rfl rfl | apply Jts.plain rfl | apply Jts.guard rfl rfl)
    intro G hG
    simp [go_sem, hh, hp, cd_len, hq, cd_map, cb_take hq, ints_cb]
    refine hG _ _ ?_
    simp [go_sem, w]
    refine next_of (k + 1) (by omega) (by omega) ?_
    simp [Weak, slotOk, fv, lk, AV.low, AV.low1]
    exact leafC_low _ _ _ _ trivial trivial
  · refine ⟨fun h => absurd (by simpa using h) hlt, fun _ => ?_⟩
    simp [go_sem, resV]
    exact post_same (by simp [AV.deep, AV.deep1]) rfl
end Go.Proofs.Ytgeabjjgeeakdaa
