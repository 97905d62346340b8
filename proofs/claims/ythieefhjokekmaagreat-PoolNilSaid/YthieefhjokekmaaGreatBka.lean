/-
  Two hashes' hash, and roots: by the program.
-/
import Derived.Test.YthieefhjokekmaaGreatRax
namespace Go.Sha
def dblB (b : List Nat) : List Nat := sumB (sumB b)
def pairB (a b : List Nat) : List Nat := dblB (a ++ b)
def upL : List (List Nat) → List (List Nat)
  | a :: b :: r => pairB a b :: upL r
  | [a] => [pairB a a]
  | [] => []
def alL : List (List Nat) → Bool
  | a :: b :: r => decide (a = b) || alL r
  | [_] => false
  | [] => false
theorem upL_len : ∀ ps : List (List Nat), (upL ps).length = (ps.length + 1) / 2
  | [] => rfl
  | [a] => by simp [upL]
  | a :: b :: r => by simp [upL, upL_len r]; omega
def rootL (ps : List (List Nat)) (d : Bool) : List Nat × Bool :=
  if 1 < ps.length then rootL (upL ps) (d || alL ps) else (ps.headD (List.replicate 32 0), if ps.length = 0 then false else d)
termination_by ps.length
decreasing_by rw [upL_len]; omega
end Go.Sha
namespace Go.Proofs.YthieefhjokekmaaGreat
open Go.Am Go.Sha
set_option linter.unusedSimpArgs false
set_option linter.unusedVariables false

def Ws (ps : List (List Nat)) : Prop := ∀ p, p ∈ ps → p.length = 32 ∧ bytes p
theorem dblB_len (b : List Nat) : (dblB b).length = 32 := sumB_len _
theorem dblB_by (b : List Nat) : bytes (dblB b) := sumB_bytes _
theorem upL_ws : ∀ {ps : List (List Nat)}, Ws ps → Ws (upL ps)
  | [], _ => fun p h => by simp [upL] at h
  | [a], _ => fun p h => by
    simp [upL] at h; subst h; exact ⟨dblB_len _, dblB_by _⟩
  | a :: b :: r, h => fun p hp => by
    simp only [upL, List.mem_cons] at hp
    rcases hp with rfl | hp
    · exact ⟨dblB_len _, dblB_by _⟩
    · exact upL_ws (ps := r) (fun q hq => h q (by simp [hq])) p hp
theorem rootL_len : ∀ (n : Nat) (ps : List (List Nat)) (d : Bool), ps.length ≤ n → Ws ps → (rootL ps d).1.length = 32
  | 0, ps, d, hn, h => by
    match ps, hn with
    | [], _ => rw [rootL]; rfl
  | n + 1, ps, d, hn, h => by
    rw [rootL]
    split
    · exact rootL_len n (upL ps) _ (by rw [upL_len]; omega) (upL_ws h)
    · match ps, h with
      | [], _ => rfl
      | p :: r, h => exact (h p (by simp)).1

theorem double_fn (b : List Nat) (hb : b.length ≤ 1000000) : Rets Tryz.prog 99 [.d (nb b)] (fun r => r = .agg (cb (dblB b))) := by
  refine fn_of_awp Tryz.func99 (by kernel_rfl) rfl Tryz.ntmps99 (rs := [.cell 2 27]) rfl (Nat.le_of_ble_eq_true rfl) (by simp [AV.deep, AV.deep1]) ?_
  simp [go_sem]
  refine cl_eq (shasum_fn b (by omega)) (by simp [AV.deep, AV.deep1]) ?_
  have hl := sumB_len b
  unfold dblB
  generalize sumB b = s at *
  have hz : (cb z32).drop 32 = [] := rfl
  simp [go_sem, cb_len, hl, hz]
  refine cl_froz [96] (shasum_fn s (by omega)) rfl (snap_cons (.one (snap1_d (snap_arr rfl (by simp) hl))) snap_nil) ?_
  have hl2 := sumB_len s
  generalize sumB s = s2 at *
  have ht : (cb s2).take 32 = cb s2 := List.take_of_length_le (by rw [cb_len]; omega)
  simp [go_sem, dropH, cb_len, hl2, hz, ht, resV]
  exact post_same (cb_deepA _) rfl

@[go_sem] theorem zz64 : tzO Tryz.prog 369 = some (cb z64) := by kernel_rfl
theorem cb_rows {b : List Nat} (hb : b.length = 32) : (List.range 32).map (fun k => ((cb b).drop k).take 1) = rb b := by
  rw [arr_rows hb, rb_of]
theorem rb_flat (b : List Nat) : (rb b).flatten = cb b := by
  induction b with
  | nil => rfl
  | cons x r ih => simp [rb, cb] at ih ⊢; exact ih
theorem cb_app (a b : List Nat) : cb a ++ cb b = cb (a ++ b) := by simp [cb]
theorem two_cb (a b : List Nat) : ∀ v, v ∈ [AV.agg (cb a), AV.agg (cb b)] → v.deep := by
  intro v hv; simp at hv; rcases hv with rfl | rfl <;> exact cb_deepA _

theorem rb_ones (b : List Nat) : List.map List.length (rb b) = List.replicate b.length 1 := by
  refine List.ext_getElem? fun i => ?_
  simp [rb, List.getElem?_replicate]
  by_cases h : i < b.length
  · simp [h]
  · simp [h]
theorem rb_sum {b : List Nat} {n : Nat} (h : b.length ≤ n) : (List.take n (List.map List.length (rb b))).sum = b.length := by
  rw [rb_ones, List.take_of_length_le (by simpa using h)]
  simp
theorem rb_take {b : List Nat} {n : Nat} (h : b.length ≤ n) : List.take n (rb b) = rb b := List.take_of_length_le (by rw [rb_len]; exact h)
theorem snap_arr64 {hp : Hp} {I : Nat → Prop} {id : Nat} {ty : TypeId} {l : List Nat} (hb : lk id hp = some ⟨ty, 64, [cb l]⟩) (hI : I id) (hl : l.length = 64) : SnapD hp I (.sub id 0 0 1 64 64 1) (nb l) := by
  refine .sub (es := l.map fun (x : Nat) => [.int .u8 (x : Int)]) hI hb rfl rfl (by omega) (by simp [hl]) (fun r hr => by
    rw [List.mem_map] at hr
    obtain ⟨c, _, rfl⟩ := hr
    rfl) fun k j c r y hc hr hy => ?_
  simp only [Nat.zero_add, Nat.mul_one, List.getElem?_map, Option.map_eq_some_iff] at hc hr
  obtain ⟨x, hx, rfl⟩ := hr
  cases j with
  | succ j => simp at hy
  | zero =>
    simp at hy
    subst hy
    rw [Nat.add_zero, cb_get, hx] at hc
    simp at hc
    subst hc
    exact .d _
theorem pair_fn (a b : List Nat) (ha : a.length = 32) (hb : b.length = 32) : Rets Tryz.prog 271 [.agg (cb a), .agg (cb b)] (fun r => r = .agg (cb (pairB a b))) := by
  refine fn_of_awp Tryz.func271 (by kernel_rfl) rfl Tryz.ntmps271 (rs := [.cell 4 27]) rfl (Nat.le_of_ble_eq_true rfl) (two_cb _ _) ?_
  have za : List.drop 32 (cb a) = [] := cb_drop ha
  have zb : List.drop 32 (cb b) = [] := cb_drop hb
  simp [go_sem, cb_len, ha, hb, cb_take ha, cb_take hb, za, zb]
  have hra := cb_rows ha
  have hrb := cb_rows hb
  simp [go_sem] at hra hrb
  have e1 : cb a ++ List.drop 32 (cb z64) = cb (a ++ z32) := by rw [← cb_app]; rfl
  have e2 : List.take 32 (cb (a ++ z32)) = cb a := by rw [← cb_app, List.take_append_of_le_length (by rw [cb_len]; omega), cb_take ha]
  have e3 : List.drop 64 (cb (a ++ z32)) = [] := List.drop_eq_nil_of_le (by rw [cb_len]; simp [ha, z32])
  have e4 : (a ++ z32).length = 64 := by simp [ha, z32]
  apply draw2 (0 :: 1 :: []) ((2, ([])) :: []) 0 (k := 3) (by kernel_rfl) (by kernel_rfl) rfl
  case hz => repeat (first | exact Its.nil | apply Its.plain rfl | apply Its.guard rfl rfl)
  case hj => repeat (first | exact Jts.nil | exact Its.nil | apply Its.plain rfl | apply Its.guard rfl rfl | apply Jts.plain rfl | apply Jts.guard rfl rfl)
  intro G hG
  simp [go_sem, cb_len, ha, hb, hra, hrb, rb_len, rb_sum (b := a) (n := 64) (by omega), rb_take (b := a) (n := 64) (by omega), rb_flat, e1]
  refine hG _ _ ?_
  clear hG G
  simp only [r_sq_n, r_seq]
  apply draw2 (0 :: 1 :: []) ((2, ([])) :: []) 0 (k := 3) (by kernel_rfl) (by kernel_rfl) rfl
  case hz => repeat (first | exact Its.nil | apply Its.plain rfl | apply Its.guard rfl rfl)
  case hj => repeat (first | exact Jts.nil | exact Its.nil | apply Its.plain rfl | apply Its.guard rfl rfl | apply Jts.plain rfl | apply Jts.guard rfl rfl)
  intro G hG
  simp [go_sem, cb_len, ha, hb, hra, hrb, rb_len, rb_sum (b := b) (n := 32) (by omega), rb_take (b := b) (n := 32) (by omega), rb_flat, e2, e3, e4]
  refine hG _ _ ?_
  clear hG G hra hrb
  simp [go_sem, cb_app]
  have h64 : (a ++ b).length = 64 := by simp [ha, hb]
  refine cl_froz [96] (double_fn (a ++ b) (by omega)) rfl (snap_cons (.one (snap1_d (snap_arr64 rfl (by simp) h64))) snap_nil) ?_
  have hl := dblB_len (a ++ b)
  unfold pairB
  generalize dblB (a ++ b) = s at *
  simp [go_sem, dropH, cb_len, hl, cb_take hl, z32_drop, resV]
  exact post_same (cb_deepA _) rfl

theorem lens_cb (ps : List (List Nat)) : (ps.map cb).length = ps.length := by simp
theorem snap_hs {hp : Hp} {I : Nat → Prop} {id n : Nat} {ps : List (List Nat)} (hn : ps.length = n) (hw : Ws ps) (hb : lk id hp = some ⟨27, 32, ps.map cb⟩) (hI : I id) : SnapD hp I (.own id 0 n n) (hs32 ps) :=
  snap_row (ty := 27) (e := 32) (es := ps.map cd) (by rw [hb, List.map_map]; congr 3; funext p; exact (cd_map p).symm) hI (by simp [hn]) (fun r hr => by
    rw [List.mem_map] at hr
    obtain ⟨p, hp, rfl⟩ := hr
    rw [cd_len]; exact (hw p hp).1)
theorem hs_low (n : Nat) (ps : List (List Nat)) : ∀ r, r ∈ ps.map cb → ∀ v, v ∈ r → v.low1 n := by
  intro r hr v hv
  rw [List.mem_map] at hr
  obtain ⟨p, _, rfl⟩ := hr
  exact cb_low _ _ _ hv
theorem post_hs {Q : AV → Prop} {st : St} {id n : Nat} {ps : List (List Nat)} {b : Bool} (hn : ps.length = n) (hw : Ws ps) (hb : lk id st.hp = some ⟨27, 32, ps.map cb⟩) (hq : Q (.tup [.d (hs32 ps), .d (.bool b)])) : PostK Q (.tup [.own id 0 n n, .d (.bool b)]) st :=
  post_tup (cs' := [.d (hs32 ps), .d (.bool b)]) (fun i c c' h1 h2 => by
    match i with
    | 0 => simp at h1 h2; subst h1 h2; exact snap1_d (snap_hs hn hw hb trivial)
    | 1 => simp at h1 h2; subst h1 h2; exact snap1_same trivial
    | n + 2 => simp at h1) rfl (by intro c hc; simp at hc; rcases hc with rfl | rfl <;> exact .inl trivial) hq
set_option maxHeartbeats 2000000 in
theorem lift_fn (ps : List (List Nat)) (hw : Ws ps) (hl : ps.length ≤ 1000) : Rets Tryz.prog 243 [.d (hs32 ps)] (fun r => r = .tup [.d (hs32 (upL ps)), .d (.bool (alL ps))]) := by
  refine fn_of_awp Tryz.func243 (by kernel_rfl) rfl Tryz.ntmps243 (rs := [.tmp 2, .tmp 3]) rfl (Nat.le_of_ble_eq_true rfl) (by simp [AV.deep, AV.deep1]) ?_
  have w1 : IntKind.i64.wrap ((IntKind.i64.wrap ((ps.length : Int) + 1)).tdiv 2) = (((ps.length + 1) / 2 : Nat) : Int) := by
    rw [IntWalk.i64_in ((ps.length : Int) + 1) (by omega), Int.tdiv_eq_ediv_of_nonneg (by omega), IntWalk.i64_in _ (by omega)]; omega
  simp [go_sem, hs32]
  rw [w1]
  refine ⟨by omega, by omega, by omega, by omega, ?_⟩
  refine loop_of (fun t : List (List Nat) × List (List Nat) × Bool => ⟨[(0, .d (.ro 32 (t.1.map cd))), (4, .own 192 0 t.2.1.length t.2.1.length), (5, .d (.bool t.2.2))], [(192, ⟨27, 32, t.2.1.map cb⟩)], 500⟩)
    (fun t => t.2.1 ++ upL t.1 = upL ps ∧ (t.2.2 || alL t.1) = alL ps ∧ Ws t.1 ∧ Ws t.2.1 ∧ t.1.length ≤ 1000 ∧ t.2.1.length ≤ 1000) (fun t => t.1.length) (ps, [], false) ⟨by simp, by simp, hw, by intro p h; simp at h, hl, by simp⟩ (by
      simp [Weak, slotOk, fv, lk, AV.low, AV.low1]) ?_
  rintro ⟨l, up, al⟩ ⟨hu, ha, hwl, hwu, hll, hlu⟩
  simp only at hu ha hwl hwu hll hlu
  simp only [go_sem, Nat.reduceEqDiff, Nat.reduceAdd, Nat.reduceLT, ↓reduceIte, Nat.reduceMul]
  match l, hu, ha, hwl, hll with
  | [], hu, ha, hwl, hll =>
    simp [go_sem, resV]
    simp [upL] at hu
    simp [alL] at ha
    subst hu ha
    exact post_hs rfl hwu rfl rfl
  | [a], hu, ha, hwl, hll =>
    have hla := (hwl a (by simp)).1
    have hpl : (pairB a a).length = 32 := dblB_len _
    refine ⟨fun h => absurd h (by simp), fun _ => ⟨fun _ => ?_, fun h => absurd rfl h⟩⟩
    apply draw2 (0 :: 1 :: 2 :: 3 :: 4 :: 5 :: 6 :: []) ((7, ([])) :: (8, ([])) :: (9, ([])) :: (10, ([])) :: []) 2 (k := 11) (by kernel_rfl) (by kernel_rfl) rfl
    case hz => repeat (first | exact Its.nil | apply Its.plain rfl | apply Its.guard rfl rfl)
    case hj => repeat (first | exact Jts.nil | exact Its.nil | apply Its.plain rfl | apply Its.guard rfl rfl | apply Jts.plain rfl | apply Jts.guard rfl rfl)
    intro G hG
    simp [go_sem, cd_len, cd_map, cb_take, hla]
    refine cl_eq (pair_fn a a hla hla) (two_cb _ _) ?_
    simp [go_sem, hpl, cb_len]
    refine ⟨by omega, ?_⟩
    refine hG _ _ ?_
    clear hG G
    simp [go_sem, resV]
    simp [upL] at hu
    simp [alL] at ha
    subst ha
    refine post_hs (ps := up ++ [pairB a a]) (by simp) ?_ (by simp; rfl) (by rw [hu]; rfl)
    intro p hp
    simp at hp
    rcases hp with hp | rfl
    · exact hwu p hp
    · exact ⟨hpl, dblB_by _⟩
  | a :: b :: r, hu, ha, hwl, hll =>
    have i1 : (1 : Int) < (r.length : Int) + 1 + 1 := by omega
    have hla := (hwl a (by simp)).1
    have hlb := (hwl b (by simp)).1
    refine ⟨fun h => ?_, fun h => absurd h (by simp; omega)⟩
    cases al
    · skip
      apply draw2 (0 :: 1 :: 2 :: 3 :: 4 :: 5 :: 6 :: 7 :: 8 :: 9 :: []) ((10, ([])) :: []) 0 (k := 11) (by kernel_rfl) (by kernel_rfl) rfl
      case hz => repeat (first | exact Its.nil | apply Its.plain rfl | apply Its.guard rfl rfl)
      case hj => repeat (first | exact Jts.nil | exact Its.nil | apply Its.plain rfl | apply Its.guard rfl rfl | apply Jts.plain rfl | apply Jts.guard rfl rfl)
      intro G hG
      simp [go_sem, cd_len, cd_map, cb_take, hla, hlb, ints_cb, natmap_inj, i1]
      refine hG _ _ ?_
      clear hG G
      apply draw2 (0 :: 1 :: 2 :: 3 :: 4 :: 5 :: 6 :: []) ((7, ([])) :: (8, ([])) :: (9, ([])) :: (10, ([])) :: []) 2 (k := 11) (by kernel_rfl) (by kernel_rfl) rfl
      case hz => repeat (first | exact Its.nil | apply Its.plain rfl | apply Its.guard rfl rfl)
      case hj => repeat (first | exact Jts.nil | exact Its.nil | apply Its.plain rfl | apply Its.guard rfl rfl | apply Jts.plain rfl | apply Jts.guard rfl rfl)
      intro G hG
      simp [go_sem, cd_len, cd_map, cb_take, hla, hlb]
      refine cl_eq (pair_fn a b hla hlb) (two_cb _ _) ?_
      have hpl : (pairB a b).length = 32 := dblB_len _
      simp [go_sem, hpl, cb_len]
      refine ⟨by omega, ?_⟩
      refine hG _ _ ?_
      clear hG G
      simp [go_sem, cd_len]
      refine ⟨by omega, ?_⟩
      have e1 : List.drop 2 (List.take ((r.length : Int) + 1 + 1).toNat (cd a :: cd b :: List.map cd r)) = List.map cd r := by
        rw [List.take_of_length_le (by simp; omega)]; rfl
      rw [e1]
      refine next_of (r, up ++ [pairB a b], decide (a = b)) ⟨by rw [← hu]; simp [upL], by rw [← ha]; simp [alL], fun p hp => hwl p (by simp [hp]), ?_, by simp at hll; simp; omega, ?_⟩ (by simp; omega) ?_
      · intro p hp
        simp at hp
        rcases hp with hp | rfl
        · exact hwu p hp
        · exact ⟨hpl, dblB_by _⟩
      · have hh := congrArg List.length hu
        simp [upL, upL_len] at hh
        simp; omega
      simp [Weak, slotOk, fv, lk, AV.low, AV.low1]
      rintro r (⟨p, _, rfl⟩ | rfl)
      · exact cb_low _ _
      · exact cb_low _ _
    · skip
      apply draw2 (0 :: 1 :: 2 :: 3 :: 4 :: 5 :: 6 :: 7 :: 8 :: 9 :: []) ((10, ([])) :: []) 0 (k := 11) (by kernel_rfl) (by kernel_rfl) rfl
      case hz => repeat (first | exact Its.nil | apply Its.plain rfl | apply Its.guard rfl rfl)
      case hj => repeat (first | exact Jts.nil | exact Its.nil | apply Its.plain rfl | apply Its.guard rfl rfl | apply Jts.plain rfl | apply Jts.guard rfl rfl)
      intro G hG
      simp [go_sem, cd_len, cd_map, cb_take, hla, hlb, ints_cb, natmap_inj, i1]
      refine hG _ _ ?_
      clear hG G
      apply draw2 (0 :: 1 :: 2 :: 3 :: 4 :: 5 :: 6 :: []) ((7, ([])) :: (8, ([])) :: (9, ([])) :: (10, ([])) :: []) 2 (k := 11) (by kernel_rfl) (by kernel_rfl) rfl
      case hz => repeat (first | exact Its.nil | apply Its.plain rfl | apply Its.guard rfl rfl)
      case hj => repeat (first | exact Jts.nil | exact Its.nil | apply Its.plain rfl | apply Its.guard rfl rfl | apply Jts.plain rfl | apply Jts.guard rfl rfl)
      intro G hG
      simp [go_sem, cd_len, cd_map, cb_take, hla, hlb]
      refine cl_eq (pair_fn a b hla hlb) (two_cb _ _) ?_
      have hpl : (pairB a b).length = 32 := dblB_len _
      simp [go_sem, hpl, cb_len]
      refine ⟨by omega, ?_⟩
      refine hG _ _ ?_
      clear hG G
      simp [go_sem, cd_len]
      refine ⟨by omega, ?_⟩
      have e1 : List.drop 2 (List.take ((r.length : Int) + 1 + 1).toNat (cd a :: cd b :: List.map cd r)) = List.map cd r := by
        rw [List.take_of_length_le (by simp; omega)]; rfl
      rw [e1]
      refine next_of (r, up ++ [pairB a b], true) ⟨by rw [← hu]; simp [upL], by rw [← ha]; simp [alL], fun p hp => hwl p (by simp [hp]), ?_, by simp at hll; simp; omega, ?_⟩ (by simp; omega) ?_
      · intro p hp
        simp at hp
        rcases hp with hp | rfl
        · exact hwu p hp
        · exact ⟨hpl, dblB_by _⟩
      · have hh := congrArg List.length hu
        simp [upL, upL_len] at hh
        simp; omega
      simp [Weak, slotOk, fv, lk, AV.low, AV.low1]
      rintro r (⟨p, _, rfl⟩ | rfl)
      · exact cb_low _ _
      · exact cb_low _ _
end Go.Proofs.YthieefhjokekmaaGreat
