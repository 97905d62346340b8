/-
  Controls, read.
-/
import Derived.Test.YtgeabjjgeeakdaaWpr
namespace Go.Proofs.Ytgeabjjgeeakdaa
open Go.Am Go.Sha
set_option linter.unusedSimpArgs false
set_option linter.unusedVariables false

set_option maxHeartbeats 1000000 in
theorem clone_fn (b : List Nat) (hl : b.length ≤ 100000000000) : Rets Try.prog 17 [.d (nb b)] (fun r => r = .d (nb b)) := by
  refine fn_of_awp Try.func17 (by kernel_rfl) rfl Try.ntmps17 (rs := [.tmp 2]) rfl (Nat.le_of_ble_eq_true rfl) (by simp [AV.deep, AV.deep1]) ?_
  simp only [go_sem, nb, Nat.reduceEqDiff, Nat.reduceAdd, Nat.reduceLT, ↓reduceIte]
  intro t hb
  cases t with
  | true =>
    have h0 : b = [] := List.eq_nil_of_length_eq_zero (by simpa using hb rfl)
    subst h0
    simp only [go_sem, Nat.reduceEqDiff, Nat.reduceAdd, Nat.reduceLT, ↓reduceIte]
    exact post_one (.inr ⟨_, rfl, .nil 1⟩) (by simp [AV.deep, AV.deep1]) rfl
  | false =>
    simp [go_sem, rb_of, rb_len]
    refine ⟨by omega, post_one (snap1_d (snap_full (L := b) rfl rfl trivial)) (by simp [AV.deep, AV.deep1]) rfl⟩
theorem leafC_low (n : Nat) (inner : List Nat) (a b : AV) (ha : a.low1 n) (hb : b.low1 n) : ∀ v, v ∈ leafC inner a b → v.low1 n := by
  intro v hv
  unfold leafC at hv
  rcases List.mem_append.1 hv with h | h
  · exact cb_low _ _ v h
  · simp at h
    rcases h with rfl | rfl
    · exact ha
    · exact hb
theorem flat_len32 : ∀ l : List (List Nat), (∀ p, p ∈ l → p.length = 32) → l.flatten.length = 32 * l.length
  | [], _ => rfl
  | a :: r, h => by rw [List.flatten_cons, List.length_append, flat_len32 r (fun p hp => h p (by simp [hp])), h a (by simp), List.length_cons]; omega
def pJ : Nat → AV
  | 0 => .nil
  | k + 1 => .own 9320 0 (k + 1) (k + 1)
def pH (inner x : List Nat) (ps : List (List Nat)) : Nat → Hp
  | 0 => [(1184, ⟨26, 34, [leafC inner .nil (.d (nb x))]⟩), (0, ⟨26, 34, [leafC z32 .nil .nil]⟩)]
  | k + 1 => [(9320, ⟨22, 32, (ps.take (k + 1)).map cb⟩), (1184, ⟨26, 34, [leafC inner (.own 9320 0 (k + 1) (k + 1)) (.d (nb x))]⟩), (0, ⟨26, 34, [leafC z32 .nil .nil]⟩)]
def pN : Nat → Nat
  | 0 => 9000
  | _ => 20000
theorem leaf_set {inner : List Nat} (hi : inner.length = 32) (a b c : AV) : (leafC inner a b).set 32 c = leafC inner c b := by
  have hl : (cb inner).length = 32 := by rw [cb_len, hi]
  unfold leafC
  rw [List.set_append_right _ _ (by omega), hl]
  rfl
theorem leaf_len {inner : List Nat} (hi : inner.length = 32) (a b : AV) : (leafC inner a b).length = 34 := by simp [leafC, cb_len, hi]
theorem rows_low (n : Nat) (l : List (List Nat)) : ∀ r, r ∈ l.map cb → ∀ v, v ∈ r → v.low1 n := by
  intro r hr v hv
  obtain ⟨p, _, rfl⟩ := List.mem_map.1 hr
  exact cb_low _ _ v hv
theorem leaf_take2 {inner : List Nat} (hi : inner.length = 32) (a b : AV) : List.take 34 (leafC inner a b) = leafC inner a b := List.take_of_length_le (by rw [leaf_len hi]; exact Nat.le_refl _)
theorem hs_map (ps : List (List Nat)) : (ps.map cd).map (fun r => r.map AV.d) = ps.map cb := by
  rw [List.map_map]
  exact List.map_congr_left fun p _ => cd_map p
theorem leaf_snapC {hp : Hp} {I : Nat → Prop} (inner : List Nat) {J S J' S' : AV} (h1 : Snap1 hp I J J') (h2 : Snap1 hp I S S') : SnapC hp I (leafC inner J S) (leafC inner J' S') := by
  refine ⟨by simp [leafC], fun i c c' hc hc' => ?_⟩
  unfold leafC at hc hc'
  rcases Nat.lt_or_ge i (cb inner).length with h | h
  · rw [List.getElem?_append_left h] at hc hc'
    rw [hc] at hc'
    injection hc' with e
    subst e
    exact .inl ⟨rfl, cb_deep _ _ (List.mem_of_getElem? hc)⟩
  · rw [List.getElem?_append_right h] at hc hc'
    generalize i - (cb inner).length = k at hc hc'
    match k, hc, hc' with
    | 0, hc, hc' => simp at hc hc'; subst hc hc'; exact h1
    | 1, hc, hc' => simp at hc hc'; subst hc hc'; exact h2
    | n + 2, hc, _ => simp at hc
theorem post_leaf {Q : AV → Prop} {st : St} {inner : List Nat} {J S : AV} {J' S' : DV} {b : Bool} {e : Int} (h1 : Snap1 st.hp (fun _ => True) J (.d J')) (h2 : Snap1 st.hp (fun _ => True) S (.d S')) (hq : Q (.tup [.agg (leafC inner (.d J') (.d S')), .d (.bool b), .d (.int .i64 e)])) : PostK Q (.tup [.agg (leafC inner J S), .d (.bool b), .d (.int .i64 e)]) st := by
  refine ⟨_, .tup (cs' := [.agg (leafC inner (.d J') (.d S')), .d (.bool b), .d (.int .i64 e)]) rfl fun i c c' hc hc' => ?_, ?_, hq⟩
  · match i, hc, hc' with
    | 0, hc, hc' => simp at hc hc'; subst hc hc'; exact .inr ⟨_, _, rfl, rfl, leaf_snapC inner h1 h2⟩
    | 1, hc, hc' => simp at hc hc'; subst hc hc'; exact .inl (snap1_same trivial)
    | 2, hc, hc' => simp at hc hc'; subst hc hc'; exact .inl (snap1_same trivial)
    | n + 3, hc, _ => simp at hc
  · intro c hc
    simp at hc
    rcases hc with rfl | rfl | rfl
    · refine .inr ⟨_, rfl, fun x hx => ?_⟩
      unfold leafC at hx
      rcases List.mem_append.1 hx with h | h
      · exact cb_deep _ _ h
      · simp at h; rcases h with rfl | rfl <;> trivial
    · exact .inl trivial
    · exact .inl trivial
theorem leaf_bld {inner : List Nat} (hi : inner.length = 32) (a b X : AV) : List.take 33 (List.take 32 (cb inner) ++ [a, b]) ++ X :: List.drop 34 (List.take 32 (cb inner) ++ [a, b]) = leafC inner a X := by
  have hl : (cb inner).length = 32 := by rw [cb_len, hi]
  rw [cb_take hi, List.take_append, List.take_of_length_le (by omega), List.drop_eq_nil_of_le (by simp [hl]), hl]
  simp [leafC]
theorem rows_low2 (n m : Nat) (l : List (List Nat)) (q : List Nat) : ∀ r, r ∈ List.take m (List.map cb l) ++ [cb q] → ∀ v, v ∈ r → v.low1 n := by
  intro r hr
  rcases List.mem_append.1 hr with h | h
  · exact rows_low _ _ r (List.mem_of_mem_take h)
  · simp at h; subst h; exact cb_low _ _
theorem leaf_at {inner : List Nat} (hi : inner.length = 32) (a b : AV) : (leafC inner a b)[32]? = some a := leaf32 hi a b
theorem leaf_hd {inner : List Nat} (hi : inner.length = 32) (a b : AV) : (List.drop 32 (leafC inner a b)).head? = some a := by
  have hl : (cb inner).length = 32 := by rw [cb_len, hi]
  unfold leafC
  rw [List.drop_append_of_le_length (by omega), List.drop_eq_nil_of_le (by omega)]
  rfl
set_option maxRecDepth 20000 in
set_option maxHeartbeats 8000000 in
theorem read_ok {inner x : List Nat} {ps : List (List Nat)} (o : Bool) (hi : inner.length = 32) (hp32 : ∀ p, p ∈ ps → p.length = 32) (hps : ps.length ≤ 8) (hx : x.length ≤ 1000) :
    Rets Try.prog 10 [.d (nb (ctl o inner ps)), .d (nb x)] (fun r => r = .tup [.agg (leafC inner (.d (hs32 ps)) (.d (nb x))), .d (.bool o), .d (.int .i64 0)]) := by
  refine fn_of_awp Try.func10 (by kernel_rfl) rfl Try.ntmps10 (rs := [.cell 4 26, .tmp 5, .tmp 6]) rfl (Nat.le_of_ble_eq_true rfl) (by simp [AV.deep, AV.deep1]) ?_
  have hfl := flat_len32 ps hp32
  have hcl : (ctl o inner ps).length = 33 + 32 * ps.length := by unfold ctl; rw [List.length_cons, List.length_append, hi]; omega
  have w1 : IntKind.i64.wrap (((ctl o inner ps).length : Int) - 33) = ((32 * ps.length : Nat) : Int) := by rw [IntWalk.i64_in _ (by omega)]; omega
  have i1 : ¬ (((32 * ps.length : Nat) : Int) < 0) := by omega
  have i2 : (((32 * ps.length : Nat) : Int)) % 32 = 0 := by omega
  have i2b : (((32 * ps.length : Nat) : Int)).tmod 32 = 0 := i2
  have i3 : ¬ (256 < ((32 * ps.length : Nat) : Int)) := by omega
  have i4 : ¬ (1000 < (x.length : Int)) := by omega
  generalize hN : 32 * ps.length = N at *
  have e2 : (List.map (fun (b : Nat) => [DV.int .u8 (b : Int)]) inner).flatten = cd inner := by
    clear hfl hcl hi w1
    induction inner with
    | nil => rfl
    | cons x r ih => simp only [List.map_cons, List.flatten_cons, ih]; rfl
  have zlf : (leafC z32 .nil .nil).length = 34 := rfl
  have lft : List.drop 34 (leafC z32 .nil .nil) = [] := rfl
  have lz : List.drop 32 (leafC z32 .nil .nil) = [.nil, .nil] := rfl
  cases o
  · have hc0 : (ctl false inner ps)[0]? = some 192 := rfl
    have hm : Go.bits .andNot .u8 192 1 = 192 := by decide
    have hb : Go.bits .and .u8 192 1 = 0 := by decide
    have e1 : List.take 32 (List.drop 1 (List.map (fun (b : Nat) => [DV.int .u8 (b : Int)]) (ctl false inner ps))) = List.map (fun (b : Nat) => [DV.int .u8 (b : Int)]) inner := by
      unfold ctl
      rw [List.map_cons, List.drop_succ_cons, List.drop_zero, List.map_append, List.take_left' (by simp [hi])]
    have e1b : (List.take 33 (List.map (fun (b : Nat) => [DV.int .u8 (b : Int)]) (ctl false inner ps))).tail = List.map (fun (b : Nat) => [DV.int .u8 (b : Int)]) inner := by
      unfold ctl
      rw [List.map_cons, List.take_succ_cons, List.tail_cons, List.map_append, List.take_left' (by simp [hi])]
    have i5 : (33 : Int) ≤ 33 + (N : Int) := by omega
    simp [go_sem, nb, w1, i1, i2, i2b, i3, i4, hc0, hm]
    apply draw3 (0 :: 1 :: 2 :: 3 :: 4 :: []) (5 :: 7 :: 8 :: []) (0 :: 1 :: 2 :: 3 :: 4 :: 6 :: []) (.alt (.step 5 (6 :: []) true (.step 7 ([]) true (.step 8 ([]) false .done))) (.step 7 ([]) true (.step 5 (6 :: []) true (.step 8 ([]) false .done)))) ⟨[(0, .d (nb (ctl false inner ps))), (4, .ptr 0 0 0 1), (8, .ptr 1184 0 0 1)], [(1184, ⟨26, 34, [leafC inner .nil (.d (nb x))]⟩), (0, ⟨26, 34, [leafC z32 .nil .nil]⟩)], 9000⟩ (k := 9) (by kernel_rfl) (by kernel_rfl) rfl
    case hz => repeat (first | exact Its.nil | apply Its.plain rfl | apply Its.guard rfl rfl)
    case hj => repeat (first | exact Tts.done | exact Its.nil | apply Tts.alt | apply Its.plain rfl | apply Its.guard rfl rfl | apply Tts.plain rfl | apply Tts.guard rfl rfl)
    case h3 =>
      intro G hG
      have hW : ∀ (fr : Fr) (hp : Hp), (fv 0 fr = .d (nb (ctl false inner ps)) ∧ fv 4 fr = .ptr 0 0 0 1 ∧ fv 8 fr = .ptr 1184 0 0 1 ∧ lk 1184 hp = some ⟨26, 34, [leafC inner .nil (.d (nb x))]⟩ ∧ lk 0 hp = some ⟨26, 34, [leafC z32 .nil .nil]⟩) → G fr hp := by
        rintro fr hp ⟨q0, q1, q2, q3, q4⟩
        refine hG _ _ (weak_wk ?_)
        simp only [Weak, slotOk]
        refine ⟨fun p hp => ?_, fun p hp => ?_, by simp⟩
        · simp only [List.mem_cons, List.mem_nil_iff, or_false] at hp
          rcases hp with rfl | rfl | rfl
          · exact ⟨.inl q0.symm, by simp [AV.low, AV.low1]⟩
          · exact ⟨.inl q1.symm, by simp [AV.low, AV.low1]⟩
          · exact ⟨.inl q2.symm, by simp [AV.low, AV.low1]⟩
        · simp only [List.mem_cons, List.mem_nil_iff, or_false] at hp
          rcases hp with rfl | rfl
          · exact ⟨.inl q3, by simp, by first | exact rows_low _ _ | exact rows_low2 _ _ _ _ | (intro r hr; simp only [List.mem_cons, List.mem_nil_iff, or_false] at hr; subst hr; exact (by first | exact cI_low _ _ | exact cb_low _ _ | exact leafC_low _ _ _ _ (by simp [AV.low1]) (by simp [AV.low1])))⟩
          · exact ⟨.inl q4, by simp, by first | exact rows_low _ _ | exact rows_low2 _ _ _ _ | (intro r hr; simp only [List.mem_cons, List.mem_nil_iff, or_false] at hr; subst hr; exact (by first | exact cI_low _ _ | exact cb_low _ _ | exact leafC_low _ _ _ _ (by simp [AV.low1]) (by simp [AV.low1])))⟩
      simp [go_sem, nb, e1, e1b, i5, e2, lz, leaf_bld hi, leaf_len hi, leaf_take2 hi, hi, hcl, cb_len, cd_len, cd_map, zlf, lft, -List.map_flatten, -List.length_flatten, SaW]
      repeat' first | exact hW _ _ ⟨rfl, rfl, rfl, rfl, rfl⟩ | (refine hW _ _ ?_; simp [fv, lk]; done) | refine cl_eq (clone_fn x (by omega)) (by simp [AV.deep, AV.deep1]) ?_ | apply And.intro | simp [go_sem, nb, e1, e1b, i5, e2, lz, leaf_bld hi, leaf_len hi, leaf_take2 hi, hi, hcl, cb_len, cd_len, cd_map, zlf, lft, -List.map_flatten, -List.length_flatten, SaW]
    case hq =>
      have e5 : List.drop 33 (List.map (fun (b : Nat) => [DV.int .u8 (b : Int)]) (ctl false inner ps)) = List.map (fun (b : Nat) => [DV.int .u8 (b : Int)]) ps.flatten := by
        unfold ctl
        rw [List.map_cons, List.drop_succ_cons, List.map_append, List.drop_left' (by simp [hi])]
      have hd0 : List.drop 0 ps = ps := rfl
      have e6 : List.take (33 + (N : Int)).toNat (List.map (fun (b : Nat) => [DV.int .u8 (b : Int)]) (ctl false inner ps)) = List.map (fun (b : Nat) => [DV.int .u8 (b : Int)]) (ctl false inner ps) := List.take_of_length_le (by rw [List.length_map, hcl]; omega)
      simp [go_sem, nb, e5, e6, hcl, -List.map_flatten, -List.length_flatten]
      refine ⟨by omega, ?_⟩
      refine loop_of (fun k : Nat => ⟨[(0, .d (nb (ctl false inner ps))), (4, .ptr 0 0 0 1), (8, .ptr 1184 0 0 1), (9, .d (nb (ps.drop k).flatten))], pH inner x ps k, pN k⟩)
        (fun k => k ≤ ps.length) (fun k => ps.length - k) 0 (by omega) (by
          simp [Weak, slotOk, fv, lk, AV.low, AV.low1, pH, pN, nb, -List.map_flatten]
          exact ⟨leafC_low _ _ _ _ trivial trivial, leafC_low _ _ _ _ trivial trivial⟩) ?_
      intro k hk
      simp only [go_sem, Nat.reduceEqDiff, Nat.reduceAdd, Nat.reduceLT, ↓reduceIte]
      have hfk := flat_len32 (ps.drop k) (fun p hp => hp32 p (List.mem_of_mem_drop hp))
      rw [List.length_drop] at hfk
      by_cases hlt : k < ps.length
      · have hpos : (0 : Int) < (((ps.drop k).flatten.length : Nat) : Int) := by omega
        have hp := List.getElem?_eq_getElem hlt
        have hdk : ps.drop k = ps[k] :: ps.drop (k + 1) := List.drop_eq_getElem_cons hlt
        have htk : ps.take (k + 1) = ps.take k ++ [ps[k]] := List.take_succ_eq_append_getElem hlt
        generalize ps[k] = q at hp hdk htk
        have hq : q.length = 32 := hp32 q (List.mem_of_getElem? hp)
        have g1 : List.take 32 (List.map (fun (b : Nat) => [DV.int .u8 (b : Int)]) (ps.drop k).flatten) = List.map (fun (b : Nat) => [DV.int .u8 (b : Int)]) q := by
          rw [hdk, List.flatten_cons, List.map_append, List.take_left' (by simp [hq])]
        have g2 : List.drop 32 (List.map (fun (b : Nat) => [DV.int .u8 (b : Int)]) (ps.drop k).flatten) = List.map (fun (b : Nat) => [DV.int .u8 (b : Int)]) (ps.drop (k + 1)).flatten := by
          rw [hdk, List.flatten_cons, List.map_append, List.drop_left' (by simp [hq])]
        have g3 : (List.map (fun (b : Nat) => [DV.int .u8 (b : Int)]) q).flatten = cd q := by
          clear hp hdk htk hq g1 g2
          induction q with
          | nil => rfl
          | cons x r ih => simp only [List.map_cons, List.flatten_cons, ih]; rfl
        have hf32 : 32 ≤ (ps.drop k).flatten.length := by omega
        cases k with
        | zero =>
          refine ⟨fun _ => ?_, fun h => absurd hpos (by simpa only [nb, List.length_map] using h)⟩
          simp only [List.drop_zero] at g1 g2 hf32
          have hf32i : (32 : Int) ≤ (ps.flatten.length : Int) := by omega
          have hmn : min 32 ps.flatten.length = 32 := by omega
          simp only [pH, pN]
          apply draw2 (0 :: 1 :: 2 :: 3 :: 4 :: 5 :: []) ((6, ([])) :: (7, (8 :: [])) :: (9, ([])) :: []) 2 (k := 10) (by kernel_rfl) (by kernel_rfl) rfl
          case hz => repeat (first | exact Its.nil | apply Its.plain rfl | apply Its.guard rfl rfl)
          case hj => repeat (first | exact Jts.nil | exact Its.nil | apply Its.plain rfl | apply Its.guard rfl rfl | apply Jts.plain rfl | apply Jts.guard rfl rfl)
          intro G hG
          simp [go_sem, nb, hf32, hf32i, hmn, g1, g2, g3, leaf_hd hi, leaf_set hi, leaf_len hi, cd_len, hq, cd_map, cb_take hq, cb_len, -List.map_flatten, -List.length_flatten]
          refine hG _ _ ?_
          have hN' : ps.flatten.length = 32 * (ps.length - 0) := by simpa using hfk
          have e7 : List.take ps.flatten.length (List.map (fun (b : Nat) => [DV.int .u8 (b : Int)]) ps.flatten) = List.map (fun (b : Nat) => [DV.int .u8 (b : Int)]) ps.flatten := List.take_of_length_le (by rw [List.length_map]; omega)
          simp [go_sem, nb, hf32, hf32i, e7, g2, -List.map_flatten, -List.length_flatten]
          refine next_of (0 + 1) (by omega) (by omega) ?_
          have hc1 : (ps.take (0 + 1)).map cb = (ps.take 0).map cb ++ [cb q] := by rw [htk]; simp
          simp [Weak, slotOk, fv, lk, AV.low, AV.low1, pH, pN, nb, -List.map_flatten, -List.length_flatten, -List.map_take, -List.map_drop]
          have hc2 : List.take 1 (List.map cb ps) = [cb q] := by rw [← List.map_take]; exact hc1
          rw [hc2]
          refine ⟨⟨rfl, fun r hr => ?_⟩, leafC_low _ _ _ _ (by simp [AV.low1]) trivial, leafC_low _ _ _ _ trivial trivial⟩
          simp at hr
          subst hr
          exact cb_low _ _
        | succ k =>
          refine ⟨fun _ => ?_, fun h => absurd hpos (by simpa only [nb, List.length_map] using h)⟩
          have hf32i : (32 : Int) ≤ ((ps.drop (k + 1)).flatten.length : Int) := by omega
          have hlk : min (k + 1) ps.length = k + 1 := by omega
          have hle : k + 1 ≤ ps.length := by omega
          have hbig : (k + 1 + 1) * 32 ≤ 140737488355328 := by omega
          have hlt2 : k < ps.length := by omega
          have hmn : min 32 (ps.drop (k + 1)).flatten.length = 32 := by omega
          simp only [pH, pN]
          apply draw3 (0 :: 1 :: 2 :: 3 :: 4 :: 5 :: []) (6 :: 7 :: 8 :: 9 :: []) (0 :: 1 :: 2 :: 3 :: 4 :: 5 :: []) (.step 6 ([]) true (.step 7 ([]) false (.step 8 ([]) false (.step 9 ([]) false .done)))) ⟨[(0, .d (nb (ctl false inner ps))), (4, .ptr 0 0 0 1), (8, .ptr 1184 0 0 1), (9, .d (nb (ps.drop (k + 1)).flatten))], [(9320, ⟨22, 32, List.take (k + 1) (List.map cb ps) ++ [cb q]⟩), (1184, ⟨26, 34, [leafC inner (.own 9320 0 (k + 1 + 1) (k + 1 + 1)) (.d (nb x))]⟩), (0, ⟨26, 34, [leafC z32 .nil .nil]⟩)], 21000⟩ (k := 10) (by kernel_rfl) (by kernel_rfl) rfl
          case hz => repeat (first | exact Its.nil | apply Its.plain rfl | apply Its.guard rfl rfl)
          case hj => repeat (first | exact Tts.done | exact Its.nil | apply Tts.alt | apply Its.plain rfl | apply Its.guard rfl rfl | apply Tts.plain rfl | apply Tts.guard rfl rfl)
          case h3 =>
            intro G hG
            have hW : ∀ (fr : Fr) (hp : Hp), (fv 0 fr = .d (nb (ctl false inner ps)) ∧ fv 4 fr = .ptr 0 0 0 1 ∧ fv 8 fr = .ptr 1184 0 0 1 ∧ fv 9 fr = .d (nb (ps.drop (k + 1)).flatten) ∧ lk 9320 hp = some ⟨22, 32, List.take (k + 1) (List.map cb ps) ++ [cb q]⟩ ∧ lk 1184 hp = some ⟨26, 34, [leafC inner (.own 9320 0 (k + 1 + 1) (k + 1 + 1)) (.d (nb x))]⟩ ∧ lk 0 hp = some ⟨26, 34, [leafC z32 .nil .nil]⟩) → G fr hp := by
              rintro fr hp ⟨q0, q1, q2, q3, q4, q5, q6⟩
              refine hG _ _ (weak_wk ?_)
              simp only [Weak, slotOk]
              refine ⟨fun p hp => ?_, fun p hp => ?_, by simp⟩
              · simp only [List.mem_cons, List.mem_nil_iff, or_false] at hp
                rcases hp with rfl | rfl | rfl | rfl
                · exact ⟨.inl q0.symm, by simp [AV.low, AV.low1]⟩
                · exact ⟨.inl q1.symm, by simp [AV.low, AV.low1]⟩
                · exact ⟨.inl q2.symm, by simp [AV.low, AV.low1]⟩
                · exact ⟨.inl q3.symm, by simp [AV.low, AV.low1]⟩
              · simp only [List.mem_cons, List.mem_nil_iff, or_false] at hp
                rcases hp with rfl | rfl | rfl
                · exact ⟨.inl q4, by simp, by first | exact rows_low _ _ | exact rows_low2 _ _ _ _ | (intro r hr; simp only [List.mem_cons, List.mem_nil_iff, or_false] at hr; subst hr; exact (by first | exact cI_low _ _ | exact cb_low _ _ | exact leafC_low _ _ _ _ (by simp [AV.low1]) (by simp [AV.low1])))⟩
                · exact ⟨.inl q5, by simp, by first | exact rows_low _ _ | exact rows_low2 _ _ _ _ | (intro r hr; simp only [List.mem_cons, List.mem_nil_iff, or_false] at hr; subst hr; exact (by first | exact cI_low _ _ | exact cb_low _ _ | exact leafC_low _ _ _ _ (by simp [AV.low1]) (by simp [AV.low1])))⟩
                · exact ⟨.inl q6, by simp, by first | exact rows_low _ _ | exact rows_low2 _ _ _ _ | (intro r hr; simp only [List.mem_cons, List.mem_nil_iff, or_false] at hr; subst hr; exact (by first | exact cI_low _ _ | exact cb_low _ _ | exact leafC_low _ _ _ _ (by simp [AV.low1]) (by simp [AV.low1])))⟩
            simp [go_sem, nb, hbig, hf32, hf32i, hmn, hlk, hle, hlt2, g1, g2, g3, leaf_hd hi, leaf_set hi, leaf_len hi, cd_len, hq, cd_map, cb_take hq, cb_len, -List.map_flatten, -List.length_flatten, SaW]
            repeat' first | exact hW _ _ ⟨rfl, rfl, rfl, rfl, rfl, rfl, rfl⟩ | (refine hW _ _ ?_; simp [fv, lk]; done) | fail | apply And.intro | simp [go_sem, nb, hbig, hf32, hf32i, hmn, hlk, hle, hlt2, g1, g2, g3, leaf_hd hi, leaf_set hi, leaf_len hi, cd_len, hq, cd_map, cb_take hq, cb_len, -List.map_flatten, -List.length_flatten, SaW]
          case hq =>
            have hN' : (ps.drop (k + 1)).flatten.length = 32 * (ps.length - (k + 1)) := by simpa using hfk
            have e7 : List.take (ps.drop (k + 1)).flatten.length (List.map (fun (b : Nat) => [DV.int .u8 (b : Int)]) (ps.drop (k + 1)).flatten) = List.map (fun (b : Nat) => [DV.int .u8 (b : Int)]) (ps.drop (k + 1)).flatten := List.take_of_length_le (by rw [List.length_map]; omega)
            simp [go_sem, nb, hf32, hf32i, e7, g2, -List.map_flatten, -List.length_flatten]
            refine next_of ((k + 1) + 1) (by omega) (by omega) ?_
            have hc1 : (ps.take ((k + 1) + 1)).map cb = (ps.take (k + 1)).map cb ++ [cb q] := by rw [htk]; simp
            simp [Weak, slotOk, fv, lk, AV.low, AV.low1, pH, pN, nb, -List.map_flatten, -List.length_flatten, -List.map_take, -List.map_drop]
            refine ⟨⟨?_, fun r hr => ?_⟩, leafC_low _ _ _ _ (by simp [AV.low1]) trivial, leafC_low _ _ _ _ trivial trivial⟩
            · rw [← List.map_take, ← List.map_take]; exact hc1.symm
            · exact rows_low _ ps r (List.mem_of_mem_take hr)
      · have hkn : k = ps.length := by omega
        have hz : ¬ ((0 : Int) < (((ps.drop k).flatten.length : Nat) : Int)) := by omega
        refine ⟨fun h => absurd (by simpa only [nb, List.length_map] using h) hz, fun _ => ?_⟩
        cases k with
        | zero =>
          have hps0 : ps = [] := List.eq_nil_of_length_eq_zero hkn.symm
          subst hps0
          simp only [pH, pN]
          apply draw3 (0 :: []) (1 :: 2 :: 3 :: 4 :: 5 :: 6 :: 7 :: 8 :: []) (0 :: []) (.alt (.step 1 ([]) true (.alt (.step 2 ([]) true (.alt (.step 3 ([]) true (.alt (.step 4 ([]) true (.alt (.step 5 ([]) true (.step 6 ([]) false (.step 7 ([]) false (.step 8 ([]) false .done)))) (.step 6 ([]) false (.step 5 ([]) false (.step 7 ([]) false (.step 8 ([]) false .done)))))) (.step 6 ([]) false (.step 4 ([]) false (.step 5 ([]) false (.step 7 ([]) false (.step 8 ([]) false .done))))))) (.step 6 ([]) false (.step 3 ([]) false (.step 4 ([]) false (.step 5 ([]) false (.step 7 ([]) false (.step 8 ([]) false .done)))))))) (.step 6 ([]) false (.step 2 ([]) false (.step 3 ([]) false (.step 4 ([]) false (.step 5 ([]) false (.step 7 ([]) false (.step 8 ([]) false .done))))))))) (.step 6 ([]) false (.step 1 ([]) false (.step 2 ([]) false (.step 3 ([]) false (.step 4 ([]) false (.step 5 ([]) false (.step 7 ([]) false (.step 8 ([]) false .done))))))))) ⟨[(4, .ptr 0 0 0 1), (5, .d (.bool false)), (6, .d (.int .i64 0))], [(0, ⟨26, 34, [leafC inner .nil (.d (nb x))]⟩)], 30000⟩ (k := 9) (by kernel_rfl) (by kernel_rfl) rfl
          case hz => repeat (first | exact Its.nil | apply Its.plain rfl | apply Its.guard rfl rfl)
          case hj => repeat (first | exact Tts.done | exact Its.nil | apply Tts.alt | apply Its.plain rfl | apply Its.guard rfl rfl | apply Tts.plain rfl | apply Tts.guard rfl rfl)
          case h3 =>
            intro G hG
            have hW : ∀ (fr : Fr) (hp : Hp), (fv 4 fr = .ptr 0 0 0 1 ∧ fv 5 fr = .d (.bool false) ∧ fv 6 fr = .d (.int .i64 0) ∧ lk 0 hp = some ⟨26, 34, [leafC inner .nil (.d (nb x))]⟩) → G fr hp := by
              rintro fr hp ⟨q0, q1, q2, q3⟩
              refine hG _ _ (weak_wk ?_)
              simp only [Weak, slotOk]
              refine ⟨fun p hp => ?_, fun p hp => ?_, by simp⟩
              · simp only [List.mem_cons, List.mem_nil_iff, or_false] at hp
                rcases hp with rfl | rfl | rfl
                · exact ⟨.inl q0.symm, by simp [AV.low, AV.low1]⟩
                · exact ⟨.inl q1.symm, by simp [AV.low, AV.low1]⟩
                · exact ⟨.inl q2.symm, by simp [AV.low, AV.low1]⟩
              · simp only [List.mem_cons, List.mem_nil_iff, or_false] at hp
                rcases hp with rfl
                · exact ⟨.inl q3, by simp, by first | exact rows_low _ _ | exact rows_low2 _ _ _ _ | (intro r hr; simp only [List.mem_cons, List.mem_nil_iff, or_false] at hr; subst hr; exact (by first | exact cI_low _ _ | exact cb_low _ _ | exact leafC_low _ _ _ _ (by simp [AV.low1]) (by simp [AV.low1])))⟩
            simp [go_sem, nb, hc0, hb, leaf_len hi, leaf_take2 hi, zlf, lft, -List.map_flatten, -List.length_flatten, SaW]
            repeat' first | exact hW _ _ ⟨rfl, rfl, rfl, rfl⟩ | (refine hW _ _ ?_; simp [fv, lk]; done) | fail | apply And.intro | simp [go_sem, nb, hc0, hb, leaf_len hi, leaf_take2 hi, zlf, lft, -List.map_flatten, -List.length_flatten, SaW]
          case hq =>
            simp [go_sem, leaf_len hi, leaf_take2 hi, resV]
            exact post_leaf (.inr ⟨_, rfl, .nil 32⟩) (.inl ⟨rfl, trivial⟩) rfl
        | succ k =>
          have htl : ps.take (k + 1) = ps := List.take_of_length_le (by omega)
          simp only [pH, pN, htl]
          apply draw3 (0 :: []) (1 :: 2 :: 3 :: 4 :: 5 :: 6 :: 7 :: 8 :: []) (0 :: []) (.alt (.step 1 ([]) true (.alt (.step 2 ([]) true (.alt (.step 3 ([]) true (.alt (.step 4 ([]) true (.alt (.step 5 ([]) true (.step 6 ([]) false (.step 7 ([]) false (.step 8 ([]) false .done)))) (.step 6 ([]) false (.step 5 ([]) false (.step 7 ([]) false (.step 8 ([]) false .done)))))) (.step 6 ([]) false (.step 4 ([]) false (.step 5 ([]) false (.step 7 ([]) false (.step 8 ([]) false .done))))))) (.step 6 ([]) false (.step 3 ([]) false (.step 4 ([]) false (.step 5 ([]) false (.step 7 ([]) false (.step 8 ([]) false .done)))))))) (.step 6 ([]) false (.step 2 ([]) false (.step 3 ([]) false (.step 4 ([]) false (.step 5 ([]) false (.step 7 ([]) false (.step 8 ([]) false .done))))))))) (.step 6 ([]) false (.step 1 ([]) false (.step 2 ([]) false (.step 3 ([]) false (.step 4 ([]) false (.step 5 ([]) false (.step 7 ([]) false (.step 8 ([]) false .done))))))))) ⟨[(4, .ptr 0 0 0 1), (5, .d (.bool false)), (6, .d (.int .i64 0))], [(9320, ⟨22, 32, ps.map cb⟩), (0, ⟨26, 34, [leafC inner (.own 9320 0 (k + 1) (k + 1)) (.d (nb x))]⟩)], 30000⟩ (k := 9) (by kernel_rfl) (by kernel_rfl) rfl
          case hz => repeat (first | exact Its.nil | apply Its.plain rfl | apply Its.guard rfl rfl)
          case hj => repeat (first | exact Tts.done | exact Its.nil | apply Tts.alt | apply Its.plain rfl | apply Its.guard rfl rfl | apply Tts.plain rfl | apply Tts.guard rfl rfl)
          case h3 =>
            intro G hG
            have hW : ∀ (fr : Fr) (hp : Hp), (fv 4 fr = .ptr 0 0 0 1 ∧ fv 5 fr = .d (.bool false) ∧ fv 6 fr = .d (.int .i64 0) ∧ lk 9320 hp = some ⟨22, 32, ps.map cb⟩ ∧ lk 0 hp = some ⟨26, 34, [leafC inner (.own 9320 0 (k + 1) (k + 1)) (.d (nb x))]⟩) → G fr hp := by
              rintro fr hp ⟨q0, q1, q2, q3, q4⟩
              refine hG _ _ (weak_wk ?_)
              simp only [Weak, slotOk]
              refine ⟨fun p hp => ?_, fun p hp => ?_, by simp⟩
              · simp only [List.mem_cons, List.mem_nil_iff, or_false] at hp
                rcases hp with rfl | rfl | rfl
                · exact ⟨.inl q0.symm, by simp [AV.low, AV.low1]⟩
                · exact ⟨.inl q1.symm, by simp [AV.low, AV.low1]⟩
                · exact ⟨.inl q2.symm, by simp [AV.low, AV.low1]⟩
              · simp only [List.mem_cons, List.mem_nil_iff, or_false] at hp
                rcases hp with rfl | rfl
                · exact ⟨.inl q3, by simp, by first | exact rows_low _ _ | exact rows_low2 _ _ _ _ | (intro r hr; simp only [List.mem_cons, List.mem_nil_iff, or_false] at hr; subst hr; exact (by first | exact cI_low _ _ | exact cb_low _ _ | exact leafC_low _ _ _ _ (by simp [AV.low1]) (by simp [AV.low1])))⟩
                · exact ⟨.inl q4, by simp, by first | exact rows_low _ _ | exact rows_low2 _ _ _ _ | (intro r hr; simp only [List.mem_cons, List.mem_nil_iff, or_false] at hr; subst hr; exact (by first | exact cI_low _ _ | exact cb_low _ _ | exact leafC_low _ _ _ _ (by simp [AV.low1]) (by simp [AV.low1])))⟩
            simp [go_sem, nb, hc0, hb, leaf_len hi, leaf_take2 hi, zlf, lft, -List.map_flatten, -List.length_flatten, SaW]
            repeat' first | exact hW _ _ ⟨rfl, rfl, rfl, rfl, rfl⟩ | (refine hW _ _ ?_; simp [fv, lk]; done) | fail | apply And.intro | simp [go_sem, nb, hc0, hb, leaf_len hi, leaf_take2 hi, zlf, lft, -List.map_flatten, -List.length_flatten, SaW]
          case hq =>
            simp [go_sem, leaf_len hi, leaf_take2 hi, resV]
            exact post_leaf (.inr ⟨_, rfl, own_of (rows := ps.map cb) rfl trivial (by simp [hkn]) (by rw [List.drop_zero, List.take_of_length_le (by simp [hkn]), ← hs_map ps]; exact rows_map _) (by simp [hkn]) (by intro r hr; simp at hr; obtain ⟨p, hp, rfl⟩ := hr; rw [cd_len]; exact hp32 p hp)⟩) (.inl ⟨rfl, trivial⟩) rfl
  · have hc0 : (ctl true inner ps)[0]? = some 193 := rfl
    have hm : Go.bits .andNot .u8 193 1 = 192 := by decide
    have hb : Go.bits .and .u8 193 1 = 1 := by decide
    have e1 : List.take 32 (List.drop 1 (List.map (fun (b : Nat) => [DV.int .u8 (b : Int)]) (ctl true inner ps))) = List.map (fun (b : Nat) => [DV.int .u8 (b : Int)]) inner := by
      unfold ctl
      rw [List.map_cons, List.drop_succ_cons, List.drop_zero, List.map_append, List.take_left' (by simp [hi])]
    have e1b : (List.take 33 (List.map (fun (b : Nat) => [DV.int .u8 (b : Int)]) (ctl true inner ps))).tail = List.map (fun (b : Nat) => [DV.int .u8 (b : Int)]) inner := by
      unfold ctl
      rw [List.map_cons, List.take_succ_cons, List.tail_cons, List.map_append, List.take_left' (by simp [hi])]
    have i5 : (33 : Int) ≤ 33 + (N : Int) := by omega
    simp [go_sem, nb, w1, i1, i2, i2b, i3, i4, hc0, hm]
    apply draw3 (0 :: 1 :: 2 :: 3 :: 4 :: []) (5 :: 7 :: 8 :: []) (0 :: 1 :: 2 :: 3 :: 4 :: 6 :: []) (.alt (.step 5 (6 :: []) true (.step 7 ([]) true (.step 8 ([]) false .done))) (.step 7 ([]) true (.step 5 (6 :: []) true (.step 8 ([]) false .done)))) ⟨[(0, .d (nb (ctl true inner ps))), (4, .ptr 0 0 0 1), (8, .ptr 1184 0 0 1)], [(1184, ⟨26, 34, [leafC inner .nil (.d (nb x))]⟩), (0, ⟨26, 34, [leafC z32 .nil .nil]⟩)], 9000⟩ (k := 9) (by kernel_rfl) (by kernel_rfl) rfl
    case hz => repeat (first | exact Its.nil | apply Its.plain rfl | apply Its.guard rfl rfl)
    case hj => repeat (first | exact Tts.done | exact Its.nil | apply Tts.alt | apply Its.plain rfl | apply Its.guard rfl rfl | apply Tts.plain rfl | apply Tts.guard rfl rfl)
    case h3 =>
      intro G hG
      have hW : ∀ (fr : Fr) (hp : Hp), (fv 0 fr = .d (nb (ctl true inner ps)) ∧ fv 4 fr = .ptr 0 0 0 1 ∧ fv 8 fr = .ptr 1184 0 0 1 ∧ lk 1184 hp = some ⟨26, 34, [leafC inner .nil (.d (nb x))]⟩ ∧ lk 0 hp = some ⟨26, 34, [leafC z32 .nil .nil]⟩) → G fr hp := by
        rintro fr hp ⟨q0, q1, q2, q3, q4⟩
        refine hG _ _ (weak_wk ?_)
        simp only [Weak, slotOk]
        refine ⟨fun p hp => ?_, fun p hp => ?_, by simp⟩
        · simp only [List.mem_cons, List.mem_nil_iff, or_false] at hp
          rcases hp with rfl | rfl | rfl
          · exact ⟨.inl q0.symm, by simp [AV.low, AV.low1]⟩
          · exact ⟨.inl q1.symm, by simp [AV.low, AV.low1]⟩
          · exact ⟨.inl q2.symm, by simp [AV.low, AV.low1]⟩
        · simp only [List.mem_cons, List.mem_nil_iff, or_false] at hp
          rcases hp with rfl | rfl
          · exact ⟨.inl q3, by simp, by first | exact rows_low _ _ | exact rows_low2 _ _ _ _ | (intro r hr; simp only [List.mem_cons, List.mem_nil_iff, or_false] at hr; subst hr; exact (by first | exact cI_low _ _ | exact cb_low _ _ | exact leafC_low _ _ _ _ (by simp [AV.low1]) (by simp [AV.low1])))⟩
          · exact ⟨.inl q4, by simp, by first | exact rows_low _ _ | exact rows_low2 _ _ _ _ | (intro r hr; simp only [List.mem_cons, List.mem_nil_iff, or_false] at hr; subst hr; exact (by first | exact cI_low _ _ | exact cb_low _ _ | exact leafC_low _ _ _ _ (by simp [AV.low1]) (by simp [AV.low1])))⟩
      simp [go_sem, nb, e1, e1b, i5, e2, lz, leaf_bld hi, leaf_len hi, leaf_take2 hi, hi, hcl, cb_len, cd_len, cd_map, zlf, lft, -List.map_flatten, -List.length_flatten, SaW]
      repeat' first | exact hW _ _ ⟨rfl, rfl, rfl, rfl, rfl⟩ | (refine hW _ _ ?_; simp [fv, lk]; done) | refine cl_eq (clone_fn x (by omega)) (by simp [AV.deep, AV.deep1]) ?_ | apply And.intro | simp [go_sem, nb, e1, e1b, i5, e2, lz, leaf_bld hi, leaf_len hi, leaf_take2 hi, hi, hcl, cb_len, cd_len, cd_map, zlf, lft, -List.map_flatten, -List.length_flatten, SaW]
    case hq =>
      have e5 : List.drop 33 (List.map (fun (b : Nat) => [DV.int .u8 (b : Int)]) (ctl true inner ps)) = List.map (fun (b : Nat) => [DV.int .u8 (b : Int)]) ps.flatten := by
        unfold ctl
        rw [List.map_cons, List.drop_succ_cons, List.map_append, List.drop_left' (by simp [hi])]
      have hd0 : List.drop 0 ps = ps := rfl
      have e6 : List.take (33 + (N : Int)).toNat (List.map (fun (b : Nat) => [DV.int .u8 (b : Int)]) (ctl true inner ps)) = List.map (fun (b : Nat) => [DV.int .u8 (b : Int)]) (ctl true inner ps) := List.take_of_length_le (by rw [List.length_map, hcl]; omega)
      simp [go_sem, nb, e5, e6, hcl, -List.map_flatten, -List.length_flatten]
      refine ⟨by omega, ?_⟩
      refine loop_of (fun k : Nat => ⟨[(0, .d (nb (ctl true inner ps))), (4, .ptr 0 0 0 1), (8, .ptr 1184 0 0 1), (9, .d (nb (ps.drop k).flatten))], pH inner x ps k, pN k⟩)
        (fun k => k ≤ ps.length) (fun k => ps.length - k) 0 (by omega) (by
          simp [Weak, slotOk, fv, lk, AV.low, AV.low1, pH, pN, nb, -List.map_flatten]
          exact ⟨leafC_low _ _ _ _ trivial trivial, leafC_low _ _ _ _ trivial trivial⟩) ?_
      intro k hk
      simp only [go_sem, Nat.reduceEqDiff, Nat.reduceAdd, Nat.reduceLT, ↓reduceIte]
      have hfk := flat_len32 (ps.drop k) (fun p hp => hp32 p (List.mem_of_mem_drop hp))
      rw [List.length_drop] at hfk
      by_cases hlt : k < ps.length
      · have hpos : (0 : Int) < (((ps.drop k).flatten.length : Nat) : Int) := by omega
        have hp := List.getElem?_eq_getElem hlt
        have hdk : ps.drop k = ps[k] :: ps.drop (k + 1) := List.drop_eq_getElem_cons hlt
        have htk : ps.take (k + 1) = ps.take k ++ [ps[k]] := List.take_succ_eq_append_getElem hlt
        generalize ps[k] = q at hp hdk htk
        have hq : q.length = 32 := hp32 q (List.mem_of_getElem? hp)
        have g1 : List.take 32 (List.map (fun (b : Nat) => [DV.int .u8 (b : Int)]) (ps.drop k).flatten) = List.map (fun (b : Nat) => [DV.int .u8 (b : Int)]) q := by
          rw [hdk, List.flatten_cons, List.map_append, List.take_left' (by simp [hq])]
        have g2 : List.drop 32 (List.map (fun (b : Nat) => [DV.int .u8 (b : Int)]) (ps.drop k).flatten) = List.map (fun (b : Nat) => [DV.int .u8 (b : Int)]) (ps.drop (k + 1)).flatten := by
          rw [hdk, List.flatten_cons, List.map_append, List.drop_left' (by simp [hq])]
        have g3 : (List.map (fun (b : Nat) => [DV.int .u8 (b : Int)]) q).flatten = cd q := by
          clear hp hdk htk hq g1 g2
          induction q with
          | nil => rfl
          | cons x r ih => simp only [List.map_cons, List.flatten_cons, ih]; rfl
        have hf32 : 32 ≤ (ps.drop k).flatten.length := by omega
        cases k with
        | zero =>
          refine ⟨fun _ => ?_, fun h => absurd hpos (by simpa only [nb, List.length_map] using h)⟩
          simp only [List.drop_zero] at g1 g2 hf32
          have hf32i : (32 : Int) ≤ (ps.flatten.length : Int) := by omega
          have hmn : min 32 ps.flatten.length = 32 := by omega
          simp only [pH, pN]
          apply draw2 (0 :: 1 :: 2 :: 3 :: 4 :: 5 :: []) ((6, ([])) :: (7, (8 :: [])) :: (9, ([])) :: []) 2 (k := 10) (by kernel_rfl) (by kernel_rfl) rfl
          case hz => repeat (first | exact Its.nil | apply Its.plain rfl | apply Its.guard rfl rfl)
          case hj => repeat (first | exact Jts.nil | exact Its.nil | apply Its.plain rfl | apply Its.guard rfl rfl | apply Jts.plain rfl | apply Jts.guard rfl rfl)
          intro G hG
          simp [go_sem, nb, hf32, hf32i, hmn, g1, g2, g3, leaf_hd hi, leaf_set hi, leaf_len hi, cd_len, hq, cd_map, cb_take hq, cb_len, -List.map_flatten, -List.length_flatten]
          refine hG _ _ ?_
          have hN' : ps.flatten.length = 32 * (ps.length - 0) := by simpa using hfk
          have e7 : List.take ps.flatten.length (List.map (fun (b : Nat) => [DV.int .u8 (b : Int)]) ps.flatten) = List.map (fun (b : Nat) => [DV.int .u8 (b : Int)]) ps.flatten := List.take_of_length_le (by rw [List.length_map]; omega)
          simp [go_sem, nb, hf32, hf32i, e7, g2, -List.map_flatten, -List.length_flatten]
          refine next_of (0 + 1) (by omega) (by omega) ?_
          have hc1 : (ps.take (0 + 1)).map cb = (ps.take 0).map cb ++ [cb q] := by rw [htk]; simp
          simp [Weak, slotOk, fv, lk, AV.low, AV.low1, pH, pN, nb, -List.map_flatten, -List.length_flatten, -List.map_take, -List.map_drop]
          have hc2 : List.take 1 (List.map cb ps) = [cb q] := by rw [← List.map_take]; exact hc1
          rw [hc2]
          refine ⟨⟨rfl, fun r hr => ?_⟩, leafC_low _ _ _ _ (by simp [AV.low1]) trivial, leafC_low _ _ _ _ trivial trivial⟩
          simp at hr
          subst hr
          exact cb_low _ _
        | succ k =>
          refine ⟨fun _ => ?_, fun h => absurd hpos (by simpa only [nb, List.length_map] using h)⟩
          have hf32i : (32 : Int) ≤ ((ps.drop (k + 1)).flatten.length : Int) := by omega
          have hlk : min (k + 1) ps.length = k + 1 := by omega
          have hle : k + 1 ≤ ps.length := by omega
          have hbig : (k + 1 + 1) * 32 ≤ 140737488355328 := by omega
          have hlt2 : k < ps.length := by omega
          have hmn : min 32 (ps.drop (k + 1)).flatten.length = 32 := by omega
          simp only [pH, pN]
          apply draw3 (0 :: 1 :: 2 :: 3 :: 4 :: 5 :: []) (6 :: 7 :: 8 :: 9 :: []) (0 :: 1 :: 2 :: 3 :: 4 :: 5 :: []) (.step 6 ([]) true (.step 7 ([]) false (.step 8 ([]) false (.step 9 ([]) false .done)))) ⟨[(0, .d (nb (ctl true inner ps))), (4, .ptr 0 0 0 1), (8, .ptr 1184 0 0 1), (9, .d (nb (ps.drop (k + 1)).flatten))], [(9320, ⟨22, 32, List.take (k + 1) (List.map cb ps) ++ [cb q]⟩), (1184, ⟨26, 34, [leafC inner (.own 9320 0 (k + 1 + 1) (k + 1 + 1)) (.d (nb x))]⟩), (0, ⟨26, 34, [leafC z32 .nil .nil]⟩)], 21000⟩ (k := 10) (by kernel_rfl) (by kernel_rfl) rfl
          case hz => repeat (first | exact Its.nil | apply Its.plain rfl | apply Its.guard rfl rfl)
          case hj => repeat (first | exact Tts.done | exact Its.nil | apply Tts.alt | apply Its.plain rfl | apply Its.guard rfl rfl | apply Tts.plain rfl | apply Tts.guard rfl rfl)
          case h3 =>
            intro G hG
            have hW : ∀ (fr : Fr) (hp : Hp), (fv 0 fr = .d (nb (ctl true inner ps)) ∧ fv 4 fr = .ptr 0 0 0 1 ∧ fv 8 fr = .ptr 1184 0 0 1 ∧ fv 9 fr = .d (nb (ps.drop (k + 1)).flatten) ∧ lk 9320 hp = some ⟨22, 32, List.take (k + 1) (List.map cb ps) ++ [cb q]⟩ ∧ lk 1184 hp = some ⟨26, 34, [leafC inner (.own 9320 0 (k + 1 + 1) (k + 1 + 1)) (.d (nb x))]⟩ ∧ lk 0 hp = some ⟨26, 34, [leafC z32 .nil .nil]⟩) → G fr hp := by
              rintro fr hp ⟨q0, q1, q2, q3, q4, q5, q6⟩
              refine hG _ _ (weak_wk ?_)
              simp only [Weak, slotOk]
              refine ⟨fun p hp => ?_, fun p hp => ?_, by simp⟩
              · simp only [List.mem_cons, List.mem_nil_iff, or_false] at hp
                rcases hp with rfl | rfl | rfl | rfl
                · exact ⟨.inl q0.symm, by simp [AV.low, AV.low1]⟩
                · exact ⟨.inl q1.symm, by simp [AV.low, AV.low1]⟩
                · exact ⟨.inl q2.symm, by simp [AV.low, AV.low1]⟩
                · exact ⟨.inl q3.symm, by simp [AV.low, AV.low1]⟩
              · simp only [List.mem_cons, List.mem_nil_iff, or_false] at hp
                rcases hp with rfl | rfl | rfl
                · exact ⟨.inl q4, by simp, by first | exact rows_low _ _ | exact rows_low2 _ _ _ _ | (intro r hr; simp only [List.mem_cons, List.mem_nil_iff, or_false] at hr; subst hr; exact (by first | exact cI_low _ _ | exact cb_low _ _ | exact leafC_low _ _ _ _ (by simp [AV.low1]) (by simp [AV.low1])))⟩
                · exact ⟨.inl q5, by simp, by first | exact rows_low _ _ | exact rows_low2 _ _ _ _ | (intro r hr; simp only [List.mem_cons, List.mem_nil_iff, or_false] at hr; subst hr; exact (by first | exact cI_low _ _ | exact cb_low _ _ | exact leafC_low _ _ _ _ (by simp [AV.low1]) (by simp [AV.low1])))⟩
                · exact ⟨.inl q6, by simp, by first | exact rows_low _ _ | exact rows_low2 _ _ _ _ | (intro r hr; simp only [List.mem_cons, List.mem_nil_iff, or_false] at hr; subst hr; exact (by first | exact cI_low _ _ | exact cb_low _ _ | exact leafC_low _ _ _ _ (by simp [AV.low1]) (by simp [AV.low1])))⟩
            simp [go_sem, nb, hbig, hf32, hf32i, hmn, hlk, hle, hlt2, g1, g2, g3, leaf_hd hi, leaf_set hi, leaf_len hi, cd_len, hq, cd_map, cb_take hq, cb_len, -List.map_flatten, -List.length_flatten, SaW]
            repeat' first | exact hW _ _ ⟨rfl, rfl, rfl, rfl, rfl, rfl, rfl⟩ | (refine hW _ _ ?_; simp [fv, lk]; done) | fail | apply And.intro | simp [go_sem, nb, hbig, hf32, hf32i, hmn, hlk, hle, hlt2, g1, g2, g3, leaf_hd hi, leaf_set hi, leaf_len hi, cd_len, hq, cd_map, cb_take hq, cb_len, -List.map_flatten, -List.length_flatten, SaW]
          case hq =>
            have hN' : (ps.drop (k + 1)).flatten.length = 32 * (ps.length - (k + 1)) := by simpa using hfk
            have e7 : List.take (ps.drop (k + 1)).flatten.length (List.map (fun (b : Nat) => [DV.int .u8 (b : Int)]) (ps.drop (k + 1)).flatten) = List.map (fun (b : Nat) => [DV.int .u8 (b : Int)]) (ps.drop (k + 1)).flatten := List.take_of_length_le (by rw [List.length_map]; omega)
            simp [go_sem, nb, hf32, hf32i, e7, g2, -List.map_flatten, -List.length_flatten]
            refine next_of ((k + 1) + 1) (by omega) (by omega) ?_
            have hc1 : (ps.take ((k + 1) + 1)).map cb = (ps.take (k + 1)).map cb ++ [cb q] := by rw [htk]; simp
            simp [Weak, slotOk, fv, lk, AV.low, AV.low1, pH, pN, nb, -List.map_flatten, -List.length_flatten, -List.map_take, -List.map_drop]
            refine ⟨⟨?_, fun r hr => ?_⟩, leafC_low _ _ _ _ (by simp [AV.low1]) trivial, leafC_low _ _ _ _ trivial trivial⟩
            · rw [← List.map_take, ← List.map_take]; exact hc1.symm
            · exact rows_low _ ps r (List.mem_of_mem_take hr)
      · have hkn : k = ps.length := by omega
        have hz : ¬ ((0 : Int) < (((ps.drop k).flatten.length : Nat) : Int)) := by omega
        refine ⟨fun h => absurd (by simpa only [nb, List.length_map] using h) hz, fun _ => ?_⟩
        cases k with
        | zero =>
          have hps0 : ps = [] := List.eq_nil_of_length_eq_zero hkn.symm
          subst hps0
          simp only [pH, pN]
          apply draw3 (0 :: []) (1 :: 2 :: 3 :: 4 :: 5 :: 6 :: 7 :: 8 :: []) (0 :: []) (.alt (.step 1 ([]) true (.alt (.step 2 ([]) true (.alt (.step 3 ([]) true (.alt (.step 4 ([]) true (.alt (.step 5 ([]) true (.step 6 ([]) false (.step 7 ([]) false (.step 8 ([]) false .done)))) (.step 6 ([]) false (.step 5 ([]) false (.step 7 ([]) false (.step 8 ([]) false .done)))))) (.step 6 ([]) false (.step 4 ([]) false (.step 5 ([]) false (.step 7 ([]) false (.step 8 ([]) false .done))))))) (.step 6 ([]) false (.step 3 ([]) false (.step 4 ([]) false (.step 5 ([]) false (.step 7 ([]) false (.step 8 ([]) false .done)))))))) (.step 6 ([]) false (.step 2 ([]) false (.step 3 ([]) false (.step 4 ([]) false (.step 5 ([]) false (.step 7 ([]) false (.step 8 ([]) false .done))))))))) (.step 6 ([]) false (.step 1 ([]) false (.step 2 ([]) false (.step 3 ([]) false (.step 4 ([]) false (.step 5 ([]) false (.step 7 ([]) false (.step 8 ([]) false .done))))))))) ⟨[(4, .ptr 0 0 0 1), (5, .d (.bool true)), (6, .d (.int .i64 0))], [(0, ⟨26, 34, [leafC inner .nil (.d (nb x))]⟩)], 30000⟩ (k := 9) (by kernel_rfl) (by kernel_rfl) rfl
          case hz => repeat (first | exact Its.nil | apply Its.plain rfl | apply Its.guard rfl rfl)
          case hj => repeat (first | exact Tts.done | exact Its.nil | apply Tts.alt | apply Its.plain rfl | apply Its.guard rfl rfl | apply Tts.plain rfl | apply Tts.guard rfl rfl)
          case h3 =>
            intro G hG
            have hW : ∀ (fr : Fr) (hp : Hp), (fv 4 fr = .ptr 0 0 0 1 ∧ fv 5 fr = .d (.bool true) ∧ fv 6 fr = .d (.int .i64 0) ∧ lk 0 hp = some ⟨26, 34, [leafC inner .nil (.d (nb x))]⟩) → G fr hp := by
              rintro fr hp ⟨q0, q1, q2, q3⟩
              refine hG _ _ (weak_wk ?_)
              simp only [Weak, slotOk]
              refine ⟨fun p hp => ?_, fun p hp => ?_, by simp⟩
              · simp only [List.mem_cons, List.mem_nil_iff, or_false] at hp
                rcases hp with rfl | rfl | rfl
                · exact ⟨.inl q0.symm, by simp [AV.low, AV.low1]⟩
                · exact ⟨.inl q1.symm, by simp [AV.low, AV.low1]⟩
                · exact ⟨.inl q2.symm, by simp [AV.low, AV.low1]⟩
              · simp only [List.mem_cons, List.mem_nil_iff, or_false] at hp
                rcases hp with rfl
                · exact ⟨.inl q3, by simp, by first | exact rows_low _ _ | exact rows_low2 _ _ _ _ | (intro r hr; simp only [List.mem_cons, List.mem_nil_iff, or_false] at hr; subst hr; exact (by first | exact cI_low _ _ | exact cb_low _ _ | exact leafC_low _ _ _ _ (by simp [AV.low1]) (by simp [AV.low1])))⟩
            simp [go_sem, nb, hc0, hb, leaf_len hi, leaf_take2 hi, zlf, lft, -List.map_flatten, -List.length_flatten, SaW]
            repeat' first | exact hW _ _ ⟨rfl, rfl, rfl, rfl⟩ | (refine hW _ _ ?_; simp [fv, lk]; done) | fail | apply And.intro | simp [go_sem, nb, hc0, hb, leaf_len hi, leaf_take2 hi, zlf, lft, -List.map_flatten, -List.length_flatten, SaW]
          case hq =>
            simp [go_sem, leaf_len hi, leaf_take2 hi, resV]
            exact post_leaf (.inr ⟨_, rfl, .nil 32⟩) (.inl ⟨rfl, trivial⟩) rfl
        | succ k =>
          have htl : ps.take (k + 1) = ps := List.take_of_length_le (by omega)
          simp only [pH, pN, htl]
          apply draw3 (0 :: []) (1 :: 2 :: 3 :: 4 :: 5 :: 6 :: 7 :: 8 :: []) (0 :: []) (.alt (.step 1 ([]) true (.alt (.step 2 ([]) true (.alt (.step 3 ([]) true (.alt (.step 4 ([]) true (.alt (.step 5 ([]) true (.step 6 ([]) false (.step 7 ([]) false (.step 8 ([]) false .done)))) (.step 6 ([]) false (.step 5 ([]) false (.step 7 ([]) false (.step 8 ([]) false .done)))))) (.step 6 ([]) false (.step 4 ([]) false (.step 5 ([]) false (.step 7 ([]) false (.step 8 ([]) false .done))))))) (.step 6 ([]) false (.step 3 ([]) false (.step 4 ([]) false (.step 5 ([]) false (.step 7 ([]) false (.step 8 ([]) false .done)))))))) (.step 6 ([]) false (.step 2 ([]) false (.step 3 ([]) false (.step 4 ([]) false (.step 5 ([]) false (.step 7 ([]) false (.step 8 ([]) false .done))))))))) (.step 6 ([]) false (.step 1 ([]) false (.step 2 ([]) false (.step 3 ([]) false (.step 4 ([]) false (.step 5 ([]) false (.step 7 ([]) false (.step 8 ([]) false .done))))))))) ⟨[(4, .ptr 0 0 0 1), (5, .d (.bool true)), (6, .d (.int .i64 0))], [(9320, ⟨22, 32, ps.map cb⟩), (0, ⟨26, 34, [leafC inner (.own 9320 0 (k + 1) (k + 1)) (.d (nb x))]⟩)], 30000⟩ (k := 9) (by kernel_rfl) (by kernel_rfl) rfl
          case hz => repeat (first | exact Its.nil | apply Its.plain rfl | apply Its.guard rfl rfl)
          case hj => repeat (first | exact Tts.done | exact Its.nil | apply Tts.alt | apply Its.plain rfl | apply Its.guard rfl rfl | apply Tts.plain rfl | apply Tts.guard rfl rfl)
          case h3 =>
            intro G hG
            have hW : ∀ (fr : Fr) (hp : Hp), (fv 4 fr = .ptr 0 0 0 1 ∧ fv 5 fr = .d (.bool true) ∧ fv 6 fr = .d (.int .i64 0) ∧ lk 9320 hp = some ⟨22, 32, ps.map cb⟩ ∧ lk 0 hp = some ⟨26, 34, [leafC inner (.own 9320 0 (k + 1) (k + 1)) (.d (nb x))]⟩) → G fr hp := by
              rintro fr hp ⟨q0, q1, q2, q3, q4⟩
              refine hG _ _ (weak_wk ?_)
              simp only [Weak, slotOk]
              refine ⟨fun p hp => ?_, fun p hp => ?_, by simp⟩
              · simp only [List.mem_cons, List.mem_nil_iff, or_false] at hp
                rcases hp with rfl | rfl | rfl
                · exact ⟨.inl q0.symm, by simp [AV.low, AV.low1]⟩
                · exact ⟨.inl q1.symm, by simp [AV.low, AV.low1]⟩
                · exact ⟨.inl q2.symm, by simp [AV.low, AV.low1]⟩
              · simp only [List.mem_cons, List.mem_nil_iff, or_false] at hp
                rcases hp with rfl | rfl
                · exact ⟨.inl q3, by simp, by first | exact rows_low _ _ | exact rows_low2 _ _ _ _ | (intro r hr; simp only [List.mem_cons, List.mem_nil_iff, or_false] at hr; subst hr; exact (by first | exact cI_low _ _ | exact cb_low _ _ | exact leafC_low _ _ _ _ (by simp [AV.low1]) (by simp [AV.low1])))⟩
                · exact ⟨.inl q4, by simp, by first | exact rows_low _ _ | exact rows_low2 _ _ _ _ | (intro r hr; simp only [List.mem_cons, List.mem_nil_iff, or_false] at hr; subst hr; exact (by first | exact cI_low _ _ | exact cb_low _ _ | exact leafC_low _ _ _ _ (by simp [AV.low1]) (by simp [AV.low1])))⟩
            simp [go_sem, nb, hc0, hb, leaf_len hi, leaf_take2 hi, zlf, lft, -List.map_flatten, -List.length_flatten, SaW]
            repeat' first | exact hW _ _ ⟨rfl, rfl, rfl, rfl, rfl⟩ | (refine hW _ _ ?_; simp [fv, lk]; done) | fail | apply And.intro | simp [go_sem, nb, hc0, hb, leaf_len hi, leaf_take2 hi, zlf, lft, -List.map_flatten, -List.length_flatten, SaW]
          case hq =>
            simp [go_sem, leaf_len hi, leaf_take2 hi, resV]
            exact post_leaf (.inr ⟨_, rfl, own_of (rows := ps.map cb) rfl trivial (by simp [hkn]) (by rw [List.drop_zero, List.take_of_length_le (by simp [hkn]), ← hs_map ps]; exact rows_map _) (by simp [hkn]) (by intro r hr; simp at hr; obtain ⟨p, hp, rfl⟩ := hr; rw [cd_len]; exact hp32 p hp)⟩) (.inl ⟨rfl, trivial⟩) rfl
end Go.Proofs.Ytgeabjjgeeakdaa
