/-
  Targets and headers' names: by the program.
-/
import Derived.Test.YtbkbcjhghmlphaaHwa
import Derived.Test.YtbkbcjhghmlphaaVrx
namespace Go.Sha
/-- A header. -/
structure Hd where
  ver : Nat
  prev : List Nat
  root : List Nat
  time : Nat
  bits : Nat
  nonce : Nat
def Hd.ok (h : Hd) : Prop := h.ver < 4294967296 ∧ h.prev.length = 32 ∧ h.root.length = 32 ∧ h.time < 4294967296 ∧ h.bits < 4294967296 ∧ h.nonce < 4294967296 ∧ (∀ x, x ∈ h.prev → x < 256) ∧ ∀ x, x ∈ h.root → x < 256
def headB (h : Hd) : List Nat := le h.ver 4 ++ h.prev ++ h.root ++ le h.time 4 ++ le h.bits 4 ++ le h.nonce 4
def dblB (b : List Nat) : List Nat := sumB (sumB b)
theorem headB_len {h : Hd} (hk : h.ok) : (headB h).length = 80 := by
  obtain ⟨_, h1, h2, _⟩ := hk
  simp [headB, le_len, h1, h2]
theorem le_lt : ∀ (x n : Nat), ∀ y, y ∈ le x n → y < 256
  | _, 0, y, h => by simp [le] at h
  | x, n + 1, y, h => by
    simp only [le, List.mem_append, List.mem_singleton] at h
    rcases h with h | rfl
    · exact le_lt x n y h
    · unfold t8; omega
theorem headB_by {h : Hd} (hk : h.ok) : ∀ x, x ∈ headB h → x < 256 := by
  obtain ⟨_, _, _, _, _, _, h1, h2⟩ := hk
  intro x hx
  simp only [headB, List.mem_append] at hx
  rcases hx with ((((hx | hx) | hx) | hx) | hx) | hx
  · exact le_lt _ _ _ hx
  · exact h1 x hx
  · exact h2 x hx
  · exact le_lt _ _ _ hx
  · exact le_lt _ _ _ hx
  · exact le_lt _ _ _ hx
/-- The words of a number below 2^24, shifted up by q words, s and h: as far as word k. -/
def stS (q k s h : Nat) : List Nat := (List.replicate q 0 ++ (if k ≤ q then [0, 0, 0, 0] else if k = q + 1 then [s, 0, 0, 0] else [s, h, 0, 0])).take 4
theorem stS_len (q k s h : Nat) : (stS q k s h).length = 4 := by
  have : 4 ≤ (if k ≤ q then [0, 0, 0, 0] else if k = q + 1 then [s, 0, 0, 0] else [s, h, 0, 0]).length := by
    split
    · simp
    · split <;> simp
  unfold stS
  rw [List.length_take, List.length_append]
  omega
end Go.Sha
namespace Go.Proofs.Ytbkbcjhghmlphaa
open Go.Am Go.Sha
set_option linter.unusedSimpArgs false
set_option linter.unusedVariables false

def eH (h : Hd) : List AV := .d (.int .u32 (h.ver : Int)) :: (cb h.prev ++ (cb h.root ++ [.d (.int .u32 (h.time : Int)), .d (.int .u32 (h.bits : Int)), .d (.int .u32 (h.nonce : Int))]))
theorem eH_len {h : Hd} (hp : h.prev.length = 32) (hr : h.root.length = 32) : (eH h).length = 68 := by simp [eH, cb_len, hp, hr]
theorem eH_deep (h : Hd) : (AV.agg (eH h)).deep := by
  intro c hc
  simp only [eH, List.mem_cons, List.mem_append, List.mem_nil_iff, or_false] at hc
  rcases hc with rfl | hc | hc | rfl | rfl | rfl
  · trivial
  · exact cb_deep _ _ hc
  · exact cb_deep _ _ hc
  · trivial
  · trivial
  · trivial
theorem eH_low (n : Nat) (h : Hd) : ∀ v, v ∈ eH h → v.low1 n := by
  intro c hc
  simp only [eH, List.mem_cons, List.mem_append, List.mem_nil_iff, or_false] at hc
  rcases hc with rfl | hc | hc | rfl | rfl | rfl
  · trivial
  · exact cb_low _ _ _ hc
  · exact cb_low _ _ _ hc
  · trivial
  · trivial
  · trivial
theorem eH_0 (h : Hd) : (eH h)[0]? = some (.d (.int .u32 (h.ver : Int))) := rfl
theorem eH_tail {h : Hd} (hp : h.prev.length = 32) (hr : h.root.length = 32) : (eH h).drop 65 = [.d (.int .u32 (h.time : Int)), .d (.int .u32 (h.bits : Int)), .d (.int .u32 (h.nonce : Int))] := by
  have e : eH h = (.d (.int .u32 (h.ver : Int)) :: (cb h.prev ++ cb h.root)) ++ [.d (.int .u32 (h.time : Int)), .d (.int .u32 (h.bits : Int)), .d (.int .u32 (h.nonce : Int))] := by simp [eH]
  rw [e, List.drop_append_of_le_length (by simp [cb_len, hp, hr]), List.drop_eq_nil_of_le (by simp [cb_len, hp, hr])]
  rfl
theorem eH_get {h : Hd} (hp : h.prev.length = 32) (hr : h.root.length = 32) (k : Nat) : (eH h)[65 + k]? = [AV.d (.int .u32 (h.time : Int)), .d (.int .u32 (h.bits : Int)), .d (.int .u32 (h.nonce : Int))][k]? := by
  rw [← eH_tail hp hr, List.getElem?_drop]
theorem eH_rows1 {h : Hd} (hp : h.prev.length = 32) : (List.range 32).map (fun k => ((eH h).drop (1 + k)).take 1) = rb h.prev := by
  refine List.ext_getElem? fun j => ?_
  by_cases hj : j < 32
  · rw [List.getElem?_map, List.getElem?_range hj, Option.map_some]
    obtain ⟨x, hx, _⟩ := drop_of (l := h.prev) (k := j) (by omega)
    have e : (eH h)[1 + j]? = some (.d (.int .u8 (x : Int))) := by
      rw [Nat.add_comm, eH, List.getElem?_cons_succ, List.getElem?_append_left (by rw [cb_len]; omega), cb_get, hx]; rfl
    obtain ⟨h1, h2⟩ := List.getElem?_eq_some_iff.1 e
    rw [List.drop_eq_getElem_cons h1, h2]
    simp [rb, hx]
  · rw [List.getElem?_eq_none (by simp; omega), List.getElem?_eq_none (by simp [rb]; omega)]
theorem eH_rows33 {h : Hd} (hp : h.prev.length = 32) (hr : h.root.length = 32) : (List.range 32).map (fun k => ((eH h).drop (33 + k)).take 1) = rb h.root := by
  refine List.ext_getElem? fun j => ?_
  by_cases hj : j < 32
  · rw [List.getElem?_map, List.getElem?_range hj, Option.map_some]
    obtain ⟨x, hx, _⟩ := drop_of (l := h.root) (k := j) (by omega)
    have e : (eH h)[33 + j]? = some (.d (.int .u8 (x : Int))) := by
      rw [show 33 + j = (32 + j) + 1 by omega, eH, List.getElem?_cons_succ, List.getElem?_append_right (by rw [cb_len]; omega), cb_len, hp, List.getElem?_append_left (by rw [cb_len]; omega), cb_get, show 32 + j - 32 = j by omega, hx]; rfl
    obtain ⟨h1, h2⟩ := List.getElem?_eq_some_iff.1 e
    rw [List.drop_eq_getElem_cons h1, h2]
    simp [rb, hx]
  · rw [List.getElem?_eq_none (by simp; omega), List.getElem?_eq_none (by simp [rb]; omega)]
theorem lenW_fn (m : Nat) (hm : m < 16777216) : Rets Try.prog 114 [.agg (cW [m, 0, 0, 0])] (fun r => ∃ n : Nat, r = .d (.int .i64 (n : Int)) ∧ lenK m n) := by
  refine fn_of_awp Try.func114 (by kernel_rfl) rfl Try.ntmps114 (rs := [.tmp 2]) rfl (Nat.le_of_ble_eq_true rfl) (by intro v hv; simp at hv; subst hv; exact cW_deep _) ?_
  simp [go_sem]
  refine loop_of (fun k : Nat => ⟨[(1, .ptr 0 0 0 1), (3, .d (.int .i64 (ixD k)))], [(0, ⟨114, 4, [cW [m, 0, 0, 0]]⟩)], 500⟩)
    (fun k => k ≤ 4 ∧ (k = 0 → m = 0)) (fun k => k) 4 ⟨by omega, by omega⟩ (by
      simp [Weak, slotOk, fv, lk, AV.low, AV.low1, cW_len, ixD]
      exact cW_low _ _) ?_
  rintro k ⟨hk, h0⟩
  have wm1 : IntKind.i64.wrap (-1) = ixD 0 := by rw [IntWalk.i64_in _ (by omega)]; rfl
  have w0 : IntKind.i64.wrap 0 = 0 := IntWalk.i64_in _ (by omega)
  have ix1 : ixD 1 = 0 := rfl
  match k, hk with
  | 0, _ =>
    have := h0 rfl
    subst this
    simp [go_sem, ixD_z, resV]
    exact post_same (by simp [AV.deep, AV.deep1]) ⟨0, rfl, by simp [lenK]⟩
  | 1, _ =>
    have hz0 : (cW [m, 0, 0, 0]).head? = some (.d (.int .u64 (m : Int))) := rfl
    by_cases hz : m = 0
    · subst hz
      have hz0 : (cW [0, 0, 0, 0]).head? = some (.d (.int .u64 0)) := rfl
      simp [go_sem, ix1, hz0, cW_len, wm1]
      refine next_of 0 (by simp) (by omega) ?_
      simp [Weak, slotOk, fv, lk, AV.low, AV.low1, cW_len]
      exact cW_low _ _
    · simp [go_sem, ix1, hz0, cW_len, hz, w0]
      refine cl_fn (lenq_fn m hm) (by simp [AV.deep, AV.deep1]) ?_
      rintro r ⟨n, rfl, hn⟩
      have hn24 : n ≤ 24 := by unfold lenK at hn; split at hn <;> (try split at hn) <;> (try split at hn) <;> omega
      have wn : IntKind.i64.wrap (n : Int) = (n : Int) := i64n (by omega)
      simp [go_sem, resV, wn]
      exact post_same (by simp [AV.deep, AV.deep1]) ⟨n, rfl, hn⟩
  | k + 2, _ =>
    have hz : (cW [m, 0, 0, 0])[k + 1]? = some (.d (.int .u64 0)) := by
      rw [cW_get]
      have : k = 0 ∨ k = 1 ∨ k = 2 := by omega
      rcases this with rfl | rfl | rfl <;> rfl
    have hw : IntKind.i64.wrap (k : Int) = (k : Int) := i64n (by omega)
    simp [go_sem, ixD_s, hz, cW_len, hw]
    refine ⟨fun _ => ⟨by omega, by omega, ?_⟩, fun h => absurd h (by omega)⟩
    refine next_of (k + 1) ⟨by omega, fun h => by omega⟩ (by omega) ?_
    simp [Weak, slotOk, fv, lk, AV.low, AV.low1, cW_len, ixD_s]
    exact cW_low _ _

theorem double_fn (b : List Nat) (hb : b.length ≤ 1000000) : Rets Try.prog 82 [.d (nb b)] (fun r => r = .agg (cb (dblB b))) := by
  refine fn_of_awp Try.func82 (by kernel_rfl) rfl Try.ntmps82 (rs := [.cell 2 22]) rfl (Nat.le_of_ble_eq_true rfl) (by simp [AV.deep, AV.deep1]) ?_
  simp [go_sem]
  refine cl_eq (shasum_fn b (by omega)) (by simp [AV.deep, AV.deep1]) ?_
  have hl := sumB_len b
  unfold dblB
  generalize sumB b = s at *
  have hz : (cb z32).drop 32 = [] := rfl
  simp [go_sem, cb_len, hl, hz]
  refine cl_froz [96] (shasum_fn s (by omega)) rfl (snap_cons (.one (snap1_d (snap_arr rfl (by simp) hl))) snap_nil) ?_
  have hl2 := sumB_len s
  generalize sumB s = s2 at *
  have ht : (cb s2).take 32 = cb s2 := List.take_of_length_le (by rw [cb_len]; omega)
  simp [go_sem, dropH, cb_len, hl2, hz, ht, resV]
  exact post_same (cb_deepA _) rfl

theorem putHeader_fn (h : Hd) (hk : h.ok) : Rets Try.prog 83 [.agg (eH h)] (fun r => r = .d (nb (headB h))) := by
  obtain ⟨hv, hp, hr, ht, hb, hn, _, _⟩ := hk
  refine fn_of_awp Try.func83 (by kernel_rfl) rfl Try.ntmps83 (rs := [.tmp 2]) rfl (Nat.le_of_ble_eq_true rfl) (by intro v hv; simp at hv; subst hv; exact eH_deep _) ?_
  have hl := eH_len hp hr
  have g0 : (eH h).head? = some (.d (.int .u32 (h.ver : Int))) := rfl
  simp [go_sem, hl, g0]
  refine cl_effz [] (put32_own [] h.ver (by simp) hv) rfl (snap_cons (.one (snap1_d (.nil 1))) (snap_cons (.deep (by simp [AV.deep, AV.deep1])) snap_nil)) (fun ρ => by simp [AV.renL, AV.ren]) ?_
  rintro r hp' ⟨I, rfl, h0⟩
  refine ⟨[(I, 0)], by simp [newsB, prsB], ?_⟩
  have hxp := eH_rows1 hp
  have hxr := eH_rows33 hp hr
  simp [go_sem] at hxp hxr
  have g65 := eH_get hp hr 0
  have g66 := eH_get hp hr 1
  have g67 := eH_get hp hr 2
  simp at g65 g66 g67
  have hA : (le h.ver 4 ++ h.prev ++ h.root).length = 68 := by simp [le_len, hp, hr]
  simp [go_sem, outH, outP, h0, Blk.ren, renR, rb_ren, AV.renL, AV.ren, rho, dropH, hxp, hxr, rb_len, rb_app, le_len, g65]
  refine ⟨by omega, by omega, ?_⟩
  have hL1 : (le h.ver 4 ++ (h.prev ++ h.root)).length = 4 + h.prev.length + h.root.length := by simp [le_len]; omega
  have hF : headB h = le h.ver 4 ++ (h.prev ++ h.root) ++ le h.time 4 ++ le h.bits 4 ++ le h.nonce 4 := by simp [headB]
  generalize headB h = F at *
  generalize le h.ver 4 ++ (h.prev ++ h.root) = B1 at *
  refine cl_effz [128] (put32_own B1 h.time (by omega) ht) rfl (snap_cons (.one (snap1_d (snap_full hL1 rfl (by simp)))) (snap_cons (.deep (by simp [AV.deep, AV.deep1])) snap_nil)) (fun ρ => by simp [AV.renL, AV.ren]) ?_
  rintro r hp' ⟨J, rfl, h1⟩
  refine ⟨[(J, 0)], by simp [newsB, prsB], ?_⟩
  have hL2 : (B1 ++ le h.time 4).length = B1.length + 4 := by rw [List.length_append, le_len]
  generalize B1 ++ le h.time 4 = B2 at *
  simp [go_sem, outH, outP, h1, Blk.ren, renR, rb_ren, AV.renL, AV.ren, rho, dropH, rb_len, g66]
  refine cl_effz [608] (put32_own B2 h.bits (by omega) hb) rfl (snap_cons (.one (snap1_d (snap_full rfl rfl (by simp)))) (snap_cons (.deep (by simp [AV.deep, AV.deep1])) snap_nil)) (fun ρ => by simp [AV.renL, AV.ren]) ?_
  rintro r hp' ⟨K, rfl, h2⟩
  refine ⟨[(K, 0)], by simp [newsB, prsB], ?_⟩
  have hL3 : (B2 ++ le h.bits 4).length = B2.length + 4 := by rw [List.length_append, le_len]
  generalize B2 ++ le h.bits 4 = B3 at *
  simp [go_sem, outH, outP, h2, Blk.ren, renR, rb_ren, AV.renL, AV.ren, rho, dropH, rb_len, g67]
  rw [hF]
  refine cl_froz [768] (put32_fn B3 h.nonce (by omega) hn) rfl (snap_cons (.one (snap1_d (snap_full rfl rfl (by simp)))) (snap_cons (.deep (by simp [AV.deep, AV.deep1])) snap_nil)) ?_
  simp [go_sem, resV]
  exact post_same (by simp [AV.deep, AV.deep1]) rfl

theorem name_fn (h : Hd) (hk : h.ok) : Rets Try.prog 44 [.agg (eH h)] (fun r => r = .agg (cb (dblB (headB h)))) := by
  refine fn_of_awp Try.func44 (by kernel_rfl) rfl Try.ntmps44 (rs := [.cell 2 22]) rfl (Nat.le_of_ble_eq_true rfl) (by intro v hv; simp at hv; subst hv; exact eH_deep _) ?_
  have hl := eH_len hk.2.1 hk.2.2.1
  have ht : (eH h).take 68 = eH h := List.take_of_length_le (by omega)
  simp [go_sem, hl, ht]
  refine cl_eq (putHeader_fn h hk) (by intro v hv; simp at hv; subst hv; exact eH_deep _) ?_
  simp [go_sem]
  refine cl_eq (double_fn (headB h) (by rw [headB_len hk]; omega)) (by simp [AV.deep, AV.deep1]) ?_
  have hl2 : (dblB (headB h)).length = 32 := sumB_len _
  generalize dblB (headB h) = s2 at *
  have hz : (cb z32).drop 32 = [] := rfl
  have ht : (cb s2).take 32 = cb s2 := List.take_of_length_le (by rw [cb_len]; omega)
  simp [go_sem, cb_len, hl2, hz, ht, resV]
  exact post_same (cb_deepA _) rfl

set_option maxHeartbeats 8000000 in
theorem shl_fn (m q r : Nat) (hm : m < 16777216) (hq : q ≤ 4) (hr : r < 64) (h4 : q = 4 → r = 0) :
    Rets Try.prog 115 [.agg (cW [m, 0, 0, 0]), .d (.int .i64 ((64 * q + r : Nat) : Int))] (fun x => x = .agg (cW (stS q 4 (m * 2 ^ r % 18446744073709551616) (m / 2 ^ (64 - r))))) := by
  refine fn_of_awp Try.func115 (by kernel_rfl) rfl Try.ntmps115 (rs := [.cell 4 114]) rfl (Nat.le_of_ble_eq_true rfl) (by intro v hv; simp at hv; rcases hv with rfl | rfl <;> first | exact cW_deep _ | trivial) ?_
  obtain ⟨n, hn⟩ : ∃ n, n = 64 * q + r := ⟨_, rfl⟩
  rw [← hn]
  have i1 : ¬ ((n : Int) < 0) := by omega
  have i2 : ¬ ((256 : Int) < (n : Int)) := by omega
  have q1 : IntKind.i64.wrap ((n : Int) / 64) = (q : Int) := by rw [IntWalk.i64_in _ (by omega)]; omega
  have q2 : Int.tmod (n : Int) 64 = (r : Int) := by rw [show Int.tmod (n : Int) 64 = ((n % 64 : Nat) : Int) from rfl]; omega
  obtain ⟨s, hs⟩ : ∃ s, s = m * 2 ^ r % 18446744073709551616 := ⟨_, rfl⟩
  obtain ⟨g, hg⟩ : ∃ g, g = m / 2 ^ (64 - r) := ⟨_, rfl⟩
  rw [← hs, ← hg]
  simp [go_sem, i1, i2, q1, q2]
  have wz : IntKind.i64.wrap 0 = 0 := IntWalk.i64_in _ (by omega)
  have w1 : IntKind.i64.wrap 1 = 1 := IntWalk.i64_in _ (by omega)
  have w2 : IntKind.i64.wrap 2 = 2 := IntWalk.i64_in _ (by omega)
  have w3 : IntKind.i64.wrap 3 = 3 := IntWalk.i64_in _ (by omega)
  have w4 : IntKind.i64.wrap 4 = 4 := IntWalk.i64_in _ (by omega)
  have uz : IntKind.u64.wrap 0 = 0 := by rw [u64w]; rfl
  have hmn : min r 64 = r := by omega
  have w64 : IntKind.i64.wrap (64 - (r : Int)) = ((64 - r : Nat) : Int) := by rw [IntWalk.i64_in _ (by omega)]; omega
  have hmn2 : min (64 - r) 64 = 64 - r := by omega
  have us : IntKind.u64.wrap ((m : Int) * 2 ^ r) = (s : Int) := by
    rw [u64w, show (2 : Int) ^ r = ((2 ^ r : Nat) : Int) by rw [Int.natCast_pow]; rfl, ← Int.natCast_mul, hs]
    omega
  have dg : Int.fdiv (m : Int) (2 ^ (64 - r)) = (g : Int) := by rw [d_r, hg]; rfl
  have hg64 : g < 18446744073709551616 := by
    rw [hg]
    exact Nat.lt_of_le_of_lt (Nat.div_le_self _ _) (by omega)
  have or0 : Go.bits .or .u64 0 (g : Int) = (g : Int) := by
    have := or64 0 g (by omega) hg64
    rw [Nat.zero_or] at this
    exact this
  have or00 : Go.bits .or .u64 0 0 = 0 := by
    have := or64 0 0 (by omega) (by omega)
    exact this
  have f0 : ∀ x : Int, Int.fdiv 0 x = 0 := Int.zero_fdiv
  have hr0 : r = 0 → g = 0 := fun h => by rw [hg, h]; exact Nat.div_eq_of_lt (by omega)
  generalize 64 - r = t at *
  refine loop_of (fun u : Nat × List Nat => ⟨[(2, .ptr 0 0 0 1), (4, .ptr 32 0 0 1), (5, .ptr 192 0 0 1), (6, .d (.int .i64 (q : Int))), (7, .d (.int .i64 (r : Int))), (8, .d (.int .i64 (u.1 : Int)))], [(192, ⟨114, 4, [cW u.2]⟩), (32, ⟨114, 4, [cW [0, 0, 0, 0]]⟩), (0, ⟨114, 4, [cW [m, 0, 0, 0]]⟩)], 1000⟩)
    (fun u => q ≤ u.1 ∧ u.1 ≤ 4 ∧ u.2 = stS q u.1 s g) (fun u => 4 - u.1) (q, [0, 0, 0, 0]) ⟨by simp, by simpa using hq, by
      have : q = 0 ∨ q = 1 ∨ q = 2 ∨ q = 3 ∨ q = 4 := by omega
      rcases this with rfl | rfl | rfl | rfl | rfl <;> rfl⟩ (by
      simp [Weak, slotOk, fv, lk, AV.low, AV.low1, cW_len]
      repeat' apply And.intro
      all_goals first | rfl | exact cW_low _ _) ?_
  rintro ⟨k, L⟩ ⟨hk1, hk2, hL⟩
  simp only at hk1 hk2 hL
  by_cases hk4 : k = 4
  · subst hk4
    have hlen : L.length = 4 := by rw [hL]; exact stS_len _ _ _ _
    have htk : (cW L).take 4 = cW L := List.take_of_length_le (by rw [cW_len]; omega)
    simp [go_sem, cW_len, hlen, htk, resV]
    rw [hL]
    exact post_same (cW_deep _) rfl
  · have hqk : (q = 0 ∧ (k = 0 ∨ k = 1 ∨ k = 2 ∨ k = 3)) ∨ (q = 1 ∧ (k = 1 ∨ k = 2 ∨ k = 3)) ∨ (q = 2 ∧ (k = 2 ∨ k = 3)) ∨ (q = 3 ∧ k = 3) := by omega
    rcases hqk with ⟨rfl, rfl | rfl | rfl | rfl⟩ | ⟨rfl, rfl | rfl | rfl⟩ | ⟨rfl, rfl | rfl⟩ | ⟨rfl, rfl⟩
    · obtain rfl : L = [0, 0, 0, 0] := hL
      simp [go_sem, cW, wz, w1, w2, w3, w4, uz, hmn, hmn2, us, dg, or0, or00, f0, w64, IntKind.bits]
      refine next_of (1, [s, 0, 0, 0]) (by simp [stS]) (by simp) ?_
      simp [Weak, slotOk, fv, lk, AV.low, AV.low1, cW]
    · obtain rfl : L = [s, 0, 0, 0] := hL
      by_cases hr1 : r = 0
      · have hg0 := hr0 hr1
        subst hr1
        subst hg0
        simp [go_sem, cW, wz, w1, w2, w3, w4, uz, hmn, hmn2, us, dg, or0, or00, f0, w64, IntKind.bits]
        refine next_of (2, [s, 0, 0, 0]) (by simp [stS]) (by simp) ?_
        simp [Weak, slotOk, fv, lk, AV.low, AV.low1, cW]
      · have hr2 : 0 < r := by omega
        simp [go_sem, cW, wz, w1, w2, w3, w4, uz, hmn, hmn2, us, dg, or0, or00, f0, w64, IntKind.bits, hr1, hr2]
        apply draw2 (0 :: 1 :: 2 :: 3 :: 4 :: 5 :: 6 :: 7 :: 8 :: 9 :: 10 :: 11 :: 12 :: 13 :: []) ((14, ([])) :: []) 0 (k := 15) (by kernel_rfl) (by kernel_rfl) rfl
        case hz => repeat (first | exact Its.nil | apply Its.plain rfl | apply Its.guard rfl rfl)
        case hj => repeat (first | exact Jts.nil | exact Its.nil | apply Its.plain rfl | apply Its.guard rfl rfl | apply Jts.plain rfl | apply Jts.guard rfl rfl)
        intro G hG
        simp [go_sem, cW, wz, w1, w2, w3, w4, uz, hmn, hmn2, us, dg, or0, or00, f0, w64, IntKind.bits, hr1, hr2]
        refine hG _ _ ?_
        simp [go_sem, cW, wz, w1, w2, w3, w4, uz, hmn, hmn2, us, dg, or0, or00, f0, w64, IntKind.bits, hr1, hr2]
        refine next_of (2, [s, g, 0, 0]) (by simp [stS]) (by simp) ?_
        simp [Weak, slotOk, fv, lk, AV.low, AV.low1, cW]
    · obtain rfl : L = [s, g, 0, 0] := hL
      by_cases hr1 : r = 0
      · have hg0 := hr0 hr1
        subst hr1
        subst hg0
        simp [go_sem, cW, wz, w1, w2, w3, w4, uz, hmn, hmn2, us, dg, or0, or00, f0, w64, IntKind.bits]
        refine next_of (3, [s, 0, 0, 0]) (by simp [stS]) (by simp) ?_
        simp [Weak, slotOk, fv, lk, AV.low, AV.low1, cW]
      · have hr2 : 0 < r := by omega
        simp [go_sem, cW, wz, w1, w2, w3, w4, uz, hmn, hmn2, us, dg, or0, or00, f0, w64, IntKind.bits, hr1, hr2]
        apply draw2 (0 :: 1 :: 2 :: 3 :: 4 :: 5 :: 6 :: 7 :: 8 :: 9 :: 10 :: 11 :: 12 :: 13 :: []) ((14, ([])) :: []) 0 (k := 15) (by kernel_rfl) (by kernel_rfl) rfl
        case hz => repeat (first | exact Its.nil | apply Its.plain rfl | apply Its.guard rfl rfl)
        case hj => repeat (first | exact Jts.nil | exact Its.nil | apply Its.plain rfl | apply Its.guard rfl rfl | apply Jts.plain rfl | apply Jts.guard rfl rfl)
        intro G hG
        simp [go_sem, cW, wz, w1, w2, w3, w4, uz, hmn, hmn2, us, dg, or0, or00, f0, w64, IntKind.bits, hr1, hr2]
        refine hG _ _ ?_
        simp [go_sem, cW, wz, w1, w2, w3, w4, uz, hmn, hmn2, us, dg, or0, or00, f0, w64, IntKind.bits, hr1, hr2]
        refine next_of (3, [s, g, 0, 0]) (by simp [stS]) (by simp) ?_
        simp [Weak, slotOk, fv, lk, AV.low, AV.low1, cW]
    · obtain rfl : L = [s, g, 0, 0] := hL
      by_cases hr1 : r = 0
      · have hg0 := hr0 hr1
        subst hr1
        subst hg0
        simp [go_sem, cW, wz, w1, w2, w3, w4, uz, hmn, hmn2, us, dg, or0, or00, f0, w64, IntKind.bits]
        refine next_of (4, [s, 0, 0, 0]) (by simp [stS]) (by simp) ?_
        simp [Weak, slotOk, fv, lk, AV.low, AV.low1, cW]
      · have hr2 : 0 < r := by omega
        simp [go_sem, cW, wz, w1, w2, w3, w4, uz, hmn, hmn2, us, dg, or0, or00, f0, w64, IntKind.bits, hr1, hr2]
        apply draw2 (0 :: 1 :: 2 :: 3 :: 4 :: 5 :: 6 :: 7 :: 8 :: 9 :: 10 :: 11 :: 12 :: 13 :: []) ((14, ([])) :: []) 0 (k := 15) (by kernel_rfl) (by kernel_rfl) rfl
        case hz => repeat (first | exact Its.nil | apply Its.plain rfl | apply Its.guard rfl rfl)
        case hj => repeat (first | exact Jts.nil | exact Its.nil | apply Its.plain rfl | apply Its.guard rfl rfl | apply Jts.plain rfl | apply Jts.guard rfl rfl)
        intro G hG
        simp [go_sem, cW, wz, w1, w2, w3, w4, uz, hmn, hmn2, us, dg, or0, or00, f0, w64, IntKind.bits, hr1, hr2]
        refine hG _ _ ?_
        simp [go_sem, cW, wz, w1, w2, w3, w4, uz, hmn, hmn2, us, dg, or0, or00, f0, w64, IntKind.bits, hr1, hr2]
        refine next_of (4, [s, g, 0, 0]) (by simp [stS]) (by simp) ?_
        simp [Weak, slotOk, fv, lk, AV.low, AV.low1, cW]
    · obtain rfl : L = [0, 0, 0, 0] := hL
      simp [go_sem, cW, wz, w1, w2, w3, w4, uz, hmn, hmn2, us, dg, or0, or00, f0, w64, IntKind.bits]
      refine next_of (2, [0, s, 0, 0]) (by simp [stS]) (by simp) ?_
      simp [Weak, slotOk, fv, lk, AV.low, AV.low1, cW]
    · obtain rfl : L = [0, s, 0, 0] := hL
      by_cases hr1 : r = 0
      · have hg0 := hr0 hr1
        subst hr1
        subst hg0
        simp [go_sem, cW, wz, w1, w2, w3, w4, uz, hmn, hmn2, us, dg, or0, or00, f0, w64, IntKind.bits]
        refine next_of (3, [0, s, 0, 0]) (by simp [stS]) (by simp) ?_
        simp [Weak, slotOk, fv, lk, AV.low, AV.low1, cW]
      · have hr2 : 0 < r := by omega
        simp [go_sem, cW, wz, w1, w2, w3, w4, uz, hmn, hmn2, us, dg, or0, or00, f0, w64, IntKind.bits, hr1, hr2]
        apply draw2 (0 :: 1 :: 2 :: 3 :: 4 :: 5 :: 6 :: 7 :: 8 :: 9 :: 10 :: 11 :: 12 :: 13 :: []) ((14, ([])) :: []) 0 (k := 15) (by kernel_rfl) (by kernel_rfl) rfl
        case hz => repeat (first | exact Its.nil | apply Its.plain rfl | apply Its.guard rfl rfl)
        case hj => repeat (first | exact Jts.nil | exact Its.nil | apply Its.plain rfl | apply Its.guard rfl rfl | apply Jts.plain rfl | apply Jts.guard rfl rfl)
        intro G hG
        simp [go_sem, cW, wz, w1, w2, w3, w4, uz, hmn, hmn2, us, dg, or0, or00, f0, w64, IntKind.bits, hr1, hr2]
        refine hG _ _ ?_
        simp [go_sem, cW, wz, w1, w2, w3, w4, uz, hmn, hmn2, us, dg, or0, or00, f0, w64, IntKind.bits, hr1, hr2]
        refine next_of (3, [0, s, g, 0]) (by simp [stS]) (by simp) ?_
        simp [Weak, slotOk, fv, lk, AV.low, AV.low1, cW]
    · obtain rfl : L = [0, s, g, 0] := hL
      by_cases hr1 : r = 0
      · have hg0 := hr0 hr1
        subst hr1
        subst hg0
        simp [go_sem, cW, wz, w1, w2, w3, w4, uz, hmn, hmn2, us, dg, or0, or00, f0, w64, IntKind.bits]
        refine next_of (4, [0, s, 0, 0]) (by simp [stS]) (by simp) ?_
        simp [Weak, slotOk, fv, lk, AV.low, AV.low1, cW]
      · have hr2 : 0 < r := by omega
        simp [go_sem, cW, wz, w1, w2, w3, w4, uz, hmn, hmn2, us, dg, or0, or00, f0, w64, IntKind.bits, hr1, hr2]
        apply draw2 (0 :: 1 :: 2 :: 3 :: 4 :: 5 :: 6 :: 7 :: 8 :: 9 :: 10 :: 11 :: 12 :: 13 :: []) ((14, ([])) :: []) 0 (k := 15) (by kernel_rfl) (by kernel_rfl) rfl
        case hz => repeat (first | exact Its.nil | apply Its.plain rfl | apply Its.guard rfl rfl)
        case hj => repeat (first | exact Jts.nil | exact Its.nil | apply Its.plain rfl | apply Its.guard rfl rfl | apply Jts.plain rfl | apply Jts.guard rfl rfl)
        intro G hG
        simp [go_sem, cW, wz, w1, w2, w3, w4, uz, hmn, hmn2, us, dg, or0, or00, f0, w64, IntKind.bits, hr1, hr2]
        refine hG _ _ ?_
        simp [go_sem, cW, wz, w1, w2, w3, w4, uz, hmn, hmn2, us, dg, or0, or00, f0, w64, IntKind.bits, hr1, hr2]
        refine next_of (4, [0, s, g, 0]) (by simp [stS]) (by simp) ?_
        simp [Weak, slotOk, fv, lk, AV.low, AV.low1, cW]
    · obtain rfl : L = [0, 0, 0, 0] := hL
      simp [go_sem, cW, wz, w1, w2, w3, w4, uz, hmn, hmn2, us, dg, or0, or00, f0, w64, IntKind.bits]
      refine next_of (3, [0, 0, s, 0]) (by simp [stS]) (by simp) ?_
      simp [Weak, slotOk, fv, lk, AV.low, AV.low1, cW]
    · obtain rfl : L = [0, 0, s, 0] := hL
      by_cases hr1 : r = 0
      · have hg0 := hr0 hr1
        subst hr1
        subst hg0
        simp [go_sem, cW, wz, w1, w2, w3, w4, uz, hmn, hmn2, us, dg, or0, or00, f0, w64, IntKind.bits]
        refine next_of (4, [0, 0, s, 0]) (by simp [stS]) (by simp) ?_
        simp [Weak, slotOk, fv, lk, AV.low, AV.low1, cW]
      · have hr2 : 0 < r := by omega
        simp [go_sem, cW, wz, w1, w2, w3, w4, uz, hmn, hmn2, us, dg, or0, or00, f0, w64, IntKind.bits, hr1, hr2]
        apply draw2 (0 :: 1 :: 2 :: 3 :: 4 :: 5 :: 6 :: 7 :: 8 :: 9 :: 10 :: 11 :: 12 :: 13 :: []) ((14, ([])) :: []) 0 (k := 15) (by kernel_rfl) (by kernel_rfl) rfl
        case hz => repeat (first | exact Its.nil | apply Its.plain rfl | apply Its.guard rfl rfl)
        case hj => repeat (first | exact Jts.nil | exact Its.nil | apply Its.plain rfl | apply Its.guard rfl rfl | apply Jts.plain rfl | apply Jts.guard rfl rfl)
        intro G hG
        simp [go_sem, cW, wz, w1, w2, w3, w4, uz, hmn, hmn2, us, dg, or0, or00, f0, w64, IntKind.bits, hr1, hr2]
        refine hG _ _ ?_
        simp [go_sem, cW, wz, w1, w2, w3, w4, uz, hmn, hmn2, us, dg, or0, or00, f0, w64, IntKind.bits, hr1, hr2]
        refine next_of (4, [0, 0, s, g]) (by simp [stS]) (by simp) ?_
        simp [Weak, slotOk, fv, lk, AV.low, AV.low1, cW]
    · obtain rfl : L = [0, 0, 0, 0] := hL
      simp [go_sem, cW, wz, w1, w2, w3, w4, uz, hmn, hmn2, us, dg, or0, or00, f0, w64, IntKind.bits]
      refine next_of (4, [0, 0, 0, s]) (by simp [stS]) (by simp) ?_
      simp [Weak, slotOk, fv, lk, AV.low, AV.low1, cW]
end Go.Proofs.Ytbkbcjhghmlphaa
