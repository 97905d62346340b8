/-
  Blocks' bytes, roots and weights: by the program.
-/
import Derived.Test.YthieefhjokekmaaGreatBkc
namespace Go.Proofs.YthieefhjokekmaaGreat
open Go.Am Go.Sha
set_option linter.unusedSimpArgs false
set_option linter.unusedVariables false

def eTd (t : Tn) : List DV := [.int .u32 (t.ver : Int), .ro 35 (t.ins.map eI), .ro 2 (t.outs.map eO), .int .u32 (t.lock : Int)]
theorem eTd_map (t : Tn) : (eTd t).map AV.d = eT t := rfl
theorem eTd_len (t : Tn) : (eTd t).length = 4 := rfl
theorem eT_len (t : Tn) : (eT t).length = 4 := rfl
theorem eT_take (t : Tn) : (eT t).take 4 = eT t := rfl
theorem eT_low (n : Nat) (t : Tn) : ∀ v, v ∈ eT t → v.low1 n := by
  intro v hv
  simp [eT] at hv
  rcases hv with rfl | rfl | rfl | rfl <;> trivial
theorem ztx : tzO Tryz.prog 26 = some [.d (.int .u32 0), .nil, .nil, .d (.int .u32 0)] := by kernel_rfl
attribute [go_sem] ztx
def txsD (ts : List Tn) : DV := .ro 4 (ts.map eTd)
def eB (h : Hd) (ts : List Tn) : List AV := eH h ++ [.d (.ro 4 (ts.map eTd))]
theorem eB_take {h : Hd} (hk : h.ok) (ts : List Tn) : (eB h ts).take 68 = eH h := by
  unfold eB
  rw [List.take_append_of_le_length (by rw [eH_len hk.2.1 hk.2.2.1]; omega), List.take_of_length_le (by rw [eH_len hk.2.1 hk.2.2.1]; omega)]
theorem eB_drop {h : Hd} (hk : h.ok) (ts : List Tn) : (eB h ts).drop 68 = [.d (.ro 4 (ts.map eTd))] := by
  unfold eB
  rw [List.drop_append_of_le_length (by rw [eH_len hk.2.1 hk.2.2.1]; omega), List.drop_eq_nil_of_le (by rw [eH_len hk.2.1 hk.2.2.1]; omega)]
  rfl
theorem eB_get {h : Hd} (hk : h.ok) (ts : List Tn) : (eB h ts)[68]? = some (.d (.ro 4 (ts.map eTd))) := by
  have := List.getElem?_drop (xs := eB h ts) (i := 68) (j := 0)
  rw [eB_drop hk] at this
  exact this.symm
theorem eB_len {h : Hd} (hk : h.ok) (ts : List Tn) : (eB h ts).length = 69 := by
  unfold eB
  rw [List.length_append, eH_len hk.2.1 hk.2.2.1]; rfl
theorem eB_g {h : Hd} (hk : h.ok) (ts : List Tn) (hh : 68 < (eB h ts).length) : (eB h ts)[68] = .d (.ro 4 (ts.map eTd)) := (List.getElem?_eq_some_iff.1 (eB_get hk ts)).2
theorem eB_all {h : Hd} (hk : h.ok) (ts : List Tn) : (eB h ts).take 69 = eB h ts := List.take_of_length_le (by rw [eB_len hk]; omega)
theorem eB_low (n : Nat) (h : Hd) (ts : List Tn) : ∀ v, v ∈ eB h ts → v.low1 n := by
  intro v hv
  unfold eB at hv
  rcases List.mem_append.1 hv with hv | hv
  · exact eH_low n h v hv
  · simp at hv; subst hv; trivial
theorem eB_deep (h : Hd) (ts : List Tn) : (AV.agg (eB h ts)).deep := by
  intro v hv
  unfold eB at hv
  rcases List.mem_append.1 hv with hv | hv
  · exact eH_deep h v hv
  · simp at hv; subst hv; trivial
theorem one_eB (h : Hd) (ts : List Tn) : ∀ v, v ∈ [AV.agg (eB h ts)] → v.deep := by intro v hv; simp at hv; subst hv; exact eB_deep h ts

/-- Transactions that may be asked about. -/
def Bs (ts : List Tn) : Prop := ts.length ≤ 8 ∧ ∀ t, t ∈ ts → Sm t ∧ Byt t
def fitT (t : Tn) : Bool := decide (checkT t = 0)
def encB (h : Hd) (ts : List Tn) : List Nat := headB h ++ putSize ts.length ++ (ts.map wholeB).flatten
def checkB (h : Hd) (ts : List Tn) : Int := if ts.all fitT = false then 4 else if 40000 < (encB h ts).length then 4 else 0
theorem fit_len {t : Tn} (h : checkT t = 0) : (wholeB t).length ≤ 12000 := by
  have hc : checkT t = if 12000 < (wholeB t).length then 4 else 0 := rfl
  rw [hc] at h
  split at h
  · exact absurd h (by decide)
  · omega
theorem fit_step {l : List Tn} {k : Nat} {t : Tn} {b : Bool} (hd : l.drop k = t :: l.drop (k + 1)) (h : (l.drop k).all fitT = b) (h0 : checkT t = 0) : (l.drop (k + 1)).all fitT = b := by
  rw [hd] at h
  simpa [fitT, h0] using h

set_option maxRecDepth 20000 in
set_option maxHeartbeats 4000000 in
theorem encode_fn (h : Hd) (ts : List Tn) (hk : h.ok) (hs : Bs ts) : Rets Tryz.prog 88 [.agg (eB h ts)] (fun r => ∃ b, r = .tup [.d (nb b), .d (.int .i64 (checkB h ts))]) := by
  refine fn_of_awp Tryz.func88 (by kernel_rfl) rfl Tryz.ntmps88 (rs := [.tmp 2, .tmp 3]) rfl (Nat.le_of_ble_eq_true rfl) (one_eB h ts) ?_
  obtain ⟨hn, hts⟩ := hs
  have w1 : IntKind.u64.wrap (ts.length : Int) = (ts.length : Int) := by rw [u64w]; omega
  have i1 : ¬ (30 : Int) < (ts.length : Int) := by omega
  simp [go_sem, eB_len hk, eB_all hk, eB_get hk, eB_g hk, i1]
  apply draw2 (0 :: 1 :: 3 :: 4 :: 5 :: 6 :: []) ((2, ([])) :: (7, (8 :: [])) :: []) 2 (k := 9) (by kernel_rfl) (by kernel_rfl) rfl
  case hz => repeat (first | exact Its.nil | apply Its.plain rfl | apply Its.guard rfl rfl)
  case hj => repeat (first | exact Jts.nil | exact Its.nil | apply Its.plain rfl | apply Its.guard rfl rfl | apply Jts.plain rfl | apply Jts.guard rfl rfl)
  intro G hG
  simp [go_sem, eB_len hk, eB_take hk, eB_get hk, eB_g hk, w1]
  refine cl_eq (putHeader_fn h hk) (one_eH h) ?_
  simp [go_sem, eB_len hk, eB_take hk, eB_get hk, eB_g hk, w1]
  refine cl_eff [] (putSize_own (headB h) ts.length (by rw [headB_len hk]; omega) (by omega)) rfl (by simp) (by simp) (by simp) (by simp [AV.renL, AV.ren]) ?_
  rintro r hp' ⟨I, rfl, h0⟩
  refine ⟨[(I, 0)], by simp [newsB, prsB], ?_⟩
  have hB0 : (headB h ++ putSize ts.length).length ≤ 85 := by rw [List.length_append, headB_len hk]; have := putSize_len ts.length; omega
  have hR0 : (headB h ++ putSize ts.length) ++ tailB wholeB ts 0 = encB h ts := rfl
  generalize headB h ++ putSize ts.length = B0 at *
  simp [go_sem, outH, outP, h0, Blk.ren, renR, rb_ren, AV.renL, AV.ren, rho]
  refine hG _ _ ?_
  clear hG G
  simp [go_sem, eB_len hk, eB_take hk, eB_get hk, eB_g hk, w1]
  refine loop_of (fun u : Nat × List Nat => ⟨[(1, .ptr 0 0 0 1), (4, .own 448 0 u.2.length u.2.length), (20, .d (.ro 4 (ts.map eTd))), (21, .d (.int .i64 (ts.length : Int))), (22, .d (.int .i64 (u.1 : Int)))], [(448, ⟨5, 1, rb u.2⟩), (0, ⟨52, 69, [eB h ts]⟩)], 2000⟩)
    (fun u => u.1 ≤ ts.length ∧ u.2.length ≤ 85 + 12000 * u.1 ∧ u.2 ++ tailB wholeB ts u.1 = encB h ts ∧ (ts.drop u.1).all fitT = ts.all fitT) (fun u => ts.length - u.1) (0, B0) ⟨by simp, by simp; omega, hR0, rfl⟩ (by
      simp [Weak, slotOk, fv, lk, AV.low, AV.low1]
      exact ⟨rb_low _ _, eB_low _ _ _⟩) ?_
  rintro ⟨k, B⟩ ⟨hk2, hBl, hR, hF⟩
  simp only at hk2 hBl hR hF
  simp only [go_sem, Nat.reduceEqDiff, Nat.reduceAdd, Nat.reduceLT, ↓reduceIte, Nat.reduceMul]
  refine ⟨fun hh => ?_, fun hh => ?_⟩
  · obtain ⟨t, ht1, hd⟩ := drop_of (l := ts) (k := k) (by omega)
    obtain ⟨hsm, hby⟩ := hts t (List.mem_of_getElem? ht1)
    have w3 := next_i64 (k := k) (by omega)
    simp [go_sem, ht1, eTd_map, eTd_len, eT_len, eT_take]
    refine cl_eq (checkT_fn t hsm) (one_eT t) ?_
    by_cases h0 : checkT t = 0
    · have hwl := fit_len h0
      simp [go_sem, h0, eT_len, eT_take]
      refine cl_eq (wholeT_fn t hsm h0) (one_eT t) ?_
      simp [go_sem, nb, rb_of, eT_len, eT_take, w3, rb_len, rb_app]
      have hl2 : (B ++ wholeB t).length = B.length + (wholeB t).length := List.length_append
      refine ⟨by omega, ?_⟩
      refine next_of (k + 1, B ++ wholeB t) ⟨by simp only; omega, by simp only; omega, rest_step hd hR, fit_step hd hF h0⟩ (by simp only; omega) ?_
      simp [Weak, slotOk, fv, lk, AV.low, AV.low1]
      exact ⟨rb_low _ _, eB_low _ _ _⟩
    · simp [go_sem, h0, resV]
      refine post_bld0 ⟨[], ?_⟩
      have : ts.all fitT = false := by rw [← hF, hd]; simp [fitT, h0]
      simp [checkB, this]
  · have hkl : k = ts.length := by omega
    subst hkl
    have := rest_done hR
    subst this
    rw [List.drop_length] at hF
    simp only [List.all_nil] at hF
    simp [go_sem, resV]
    refine ⟨fun hh => ?_, fun hh => ?_⟩
    · refine post_bld0 ⟨[], ?_⟩
      have e : checkB h ts = 4 := by unfold checkB; rw [← hF, if_neg (by simp), if_pos (by omega)]
      rw [e]
    · have e : checkB h ts = 0 := by unfold checkB; rw [← hF, if_neg (by simp), if_neg (by omega)]
      rw [e]
      exact post_bld rfl ⟨_, rfl⟩

theorem checkBk_fn (h : Hd) (ts : List Tn) (hk : h.ok) (hs : Bs ts) : Rets Tryz.prog 85 [.agg (eB h ts)] (fun r => r = .d (.int .i64 (checkB h ts))) := by
  refine fn_of_awp Tryz.func85 (by kernel_rfl) rfl Tryz.ntmps85 (rs := [.tmp 2]) rfl (Nat.le_of_ble_eq_true rfl) (one_eB h ts) ?_
  simp [go_sem, eB_len hk, eB_all hk]
  refine cl_fn (encode_fn h ts hk hs) (one_eB h ts) ?_
  rintro r ⟨b, rfl⟩
  simp [go_sem, resV]
  exact post_same (by simp [AV.deep, AV.deep1]) rfl

theorem names_ws (ts : List Tn) : Ws (ts.map nameT) := by
  intro p hp
  rw [List.mem_map] at hp
  obtain ⟨t, _, rfl⟩ := hp
  exact ⟨nameT_len t, nameT_by t⟩
set_option maxHeartbeats 2000000 in
theorem rootBk_fn (ts : List Tn) (hs : Bs ts) : Rets Tryz.prog 135 [.d (txsD ts)] (fun r => r = .tup [.agg (cb (rootL (ts.map nameT) false).1), .d (.bool (rootL (ts.map nameT) false).2)]) := by
  refine fn_of_awp Tryz.func135 (by kernel_rfl) rfl Tryz.ntmps135 (rs := [.cell 2 27, .tmp 3]) rfl (Nat.le_of_ble_eq_true rfl) (by simp [AV.deep, AV.deep1]) ?_
  obtain ⟨hn, hts⟩ := hs
  have i1 : ¬ ((ts.length : Int) < 0) := by omega
  have hrl := rootL_len (ts.map nameT).length (ts.map nameT) false (by omega) (names_ws ts)
  simp [go_sem, txsD]
  refine ⟨by omega, by omega, by omega, ?_⟩
  refine loop_of (fun k : Nat => ⟨[(2, .ptr 0 0 0 1), (4, .own 128 0 k k), (10, .d (.ro 4 (ts.map eTd))), (11, .d (.int .i64 (ts.length : Int))), (12, .d (.int .i64 (k : Int)))], [(128, ⟨27, 32, ((ts.map nameT).take k).map cb⟩), (0, ⟨27, 32, [cb z32]⟩)], 1000⟩)
    (fun k => k ≤ ts.length) (fun k => ts.length - k) 0 (by omega) (by
      simp [Weak, slotOk, fv, lk, AV.low, AV.low1]
      exact cb_low _ _) ?_
  intro k hk
  simp only [go_sem, Nat.reduceEqDiff, Nat.reduceAdd, Nat.reduceLT, ↓reduceIte, Nat.reduceMul]
  refine ⟨fun hh => ?_, fun hh => ?_⟩
  · obtain ⟨t, ht1, hd⟩ := drop_of (l := ts) (k := k) (by omega)
    obtain ⟨hsm, hby⟩ := hts t (List.mem_of_getElem? ht1)
    have w3 := next_i64 (k := k) (by omega)
    have htk : (ts.map nameT).take k ++ [nameT t] = (ts.map nameT).take (k + 1) := take_snoc (by simp [ht1])
    have htl : ((ts.map nameT).take k).length = k := by rw [List.length_take, List.length_map]; omega
    have hrow : List.map cb ((ts.map nameT).take k) ++ [cb (nameT t)] = List.map cb ((ts.map nameT).take (k + 1)) := by rw [← htk]; simp
    have hlow : ∀ r, r ∈ List.map cb ((ts.map nameT).take (k + 1)) → ∀ v, v ∈ r → v.low1 1000 := hs_low _ _
    generalize hL' : List.map cb ((ts.map nameT).take (k + 1)) = L' at *
    have hlk : (List.map cb ((ts.map nameT).take k)).length = k := by simpa using htl
    generalize List.map cb ((ts.map nameT).take k) = L at *
    simp [go_sem, ht1, eTd_map, eTd_len, eT_len, eT_take]
    refine cl_eq (nameT_fn t hsm) (one_eT t) ?_
    have hnl := nameT_len t
    simp [go_sem, hnl, cb_len, hlk, hrow, w3, List.take_of_length_le]
    refine ⟨by omega, ?_⟩
    refine next_of (k + 1) (by omega) (by omega) ?_
    simp [Weak, slotOk, fv, lk, AV.low]
    have e : List.take (k + 1) (List.map (cb ∘ nameT) ts) = L' := by rw [← hL']; simp
    rw [e]
    exact ⟨⟨by simp [AV.low1], by simp [AV.low1], trivial, trivial, trivial⟩, ⟨rfl, hlow⟩, cb_low _ _⟩
  · have hkl : k = ts.length := by omega
    subst hkl
    simp [go_sem]
    refine cl_froz [128] (mroot_fn (ts.map nameT) (names_ws ts) (by simp; omega)) rfl (snap_cons (.one (snap1_d (snap_hs (ps := ts.map nameT) (by simp) (names_ws ts) (by simp [lk, List.take_of_length_le]) (by simp)))) snap_nil) ?_
    generalize rootL (ts.map nameT) false = R at *
    simp [go_sem, dropH, cb_len, hrl, cb_take hrl, z32_drop, resV]
    exact post_root rfl
def sumW (ts : List Tn) : Nat := (ts.map weightT).sum
theorem weightT_le {t : Tn} (ht : Sm t) : weightT t ≤ 24000 := by
  unfold weightT
  split
  · omega
  · rename_i h
    have := fit_len (t := t) (by simpa using h)
    have := bareB_len ht
    omega
theorem sumW_snoc {ts : List Tn} {k : Nat} {t : Tn} (h : ts[k]? = some t) : sumW (ts.take (k + 1)) = sumW (ts.take k) + weightT t := by
  rw [List.take_add_one, h]
  simp [sumW]
theorem sumW_le : ∀ (ts : List Tn), (∀ t, t ∈ ts → Sm t) → sumW ts ≤ 24000 * ts.length
  | [], _ => by simp [sumW]
  | t :: r, h => by
    have h1 := weightT_le (h t (by simp))
    have h2 := sumW_le r (fun x hx => h x (by simp [hx]))
    simp only [sumW, List.map_cons, List.sum_cons, List.length_cons] at h2 ⊢
    omega
theorem weightBk_fn (ts : List Tn) (hs : Bs ts) : Rets Tryz.prog 84 [.d (txsD ts)] (fun r => r = .d (.int .i64 (sumW ts : Int))) := by
  refine fn_of_awp Tryz.func84 (by kernel_rfl) rfl Tryz.ntmps84 (rs := [.tmp 2]) rfl (Nat.le_of_ble_eq_true rfl) (by simp [AV.deep, AV.deep1]) ?_
  obtain ⟨hn, hts⟩ := hs
  simp [go_sem, txsD]
  refine loop_of (fun k : Nat => ⟨[(3, .d (.int .i64 (sumW (ts.take k) : Int))), (6, .d (.ro 4 (ts.map eTd))), (7, .d (.int .i64 (ts.length : Int))), (8, .d (.int .i64 (k : Int)))], [], 1000⟩)
    (fun k => k ≤ ts.length) (fun k => ts.length - k) 0 (by omega) (by
      simp [Weak, slotOk, fv, lk, AV.low, AV.low1, sumW]) ?_
  intro k hk
  simp only [go_sem, Nat.reduceEqDiff, Nat.reduceAdd, Nat.reduceLT, ↓reduceIte, Nat.reduceMul]
  refine ⟨fun hh => ?_, fun hh => ?_⟩
  · obtain ⟨t, ht1, hd⟩ := drop_of (l := ts) (k := k) (by omega)
    obtain ⟨hsm, hby⟩ := hts t (List.mem_of_getElem? ht1)
    have w3 := next_i64 (k := k) (by omega)
    have hsn := sumW_snoc ht1
    have hle := sumW_le (ts.take (k + 1)) (fun x hx => (hts x (List.mem_of_mem_take hx)).1)
    have htl : (ts.take (k + 1)).length ≤ 8 := by rw [List.length_take]; omega
    have w4 : IntKind.i64.wrap ((sumW (ts.take k) : Int) + (weightT t : Int)) = (sumW (ts.take (k + 1)) : Int) := by rw [IntWalk.i64_in _ (by omega)]; omega
    generalize sumW (ts.take k) = S at *
    generalize hS' : sumW (ts.take (k + 1)) = S' at *
    simp [go_sem, ht1, eTd_map, eTd_len, eT_len, eT_take]
    refine cl_eq (weightT_fn t hsm) (one_eT t) ?_
    simp [go_sem, w3, w4]
    refine next_of (k + 1) (by omega) (by omega) ?_
    simp [Weak, slotOk, fv, lk, AV.low, AV.low1, hS']
  · have hkl : k = ts.length := by omega
    subst hkl
    simp [go_sem, resV]
    exact post_same (by simp [AV.deep, AV.deep1]) rfl
end Go.Proofs.YthieefhjokekmaaGreat
