/-
  Fees of coins, and whether inputs wait: by the program and by the other text.
-/
import Derived.Test.YthieefhjokekmaaGreatRca
namespace Go.Proofs.YthieefhjokekmaaGreat
open Go.Am Go.Sha
set_option linter.unusedSimpArgs false
set_option linter.unusedVariables false

def eC (c : Co) : List DV := cd c.hash ++ [.int .u32 (c.idx : Int), .int .u64 (c.amt : Int), nb c.scr, .int .u32 (c.height : Int), .bool c.first]
def cC (c : Co) : List AV := cb c.hash ++ [.d (.int .u32 (c.idx : Int)), .d (.int .u64 (c.amt : Int)), .d (nb c.scr), .d (.int .u32 (c.height : Int)), .d (.bool c.first)]
theorem eC_cC (c : Co) : (eC c).map AV.d = cC c := by simp [eC, cC, cd_map]
theorem eC_len {c : Co} (h : c.hash.length = 32) : (eC c).length = 37 := by simp [eC, cd_len, h]
theorem cC_len {c : Co} (h : c.hash.length = 32) : (cC c).length = 37 := by simp [cC, cb_len, h]
theorem eC33 {c : Co} (h : c.hash.length = 32) : (eC c).drop 33 = [.int .u64 (c.amt : Int), nb c.scr, .int .u32 (c.height : Int), .bool c.first] := by
  unfold eC
  rw [List.drop_append, List.drop_eq_nil_of_le (by rw [cd_len]; omega), cd_len, h]; rfl
theorem eC35 {c : Co} (h : c.hash.length = 32) : (eC c).drop 35 = [.int .u32 (c.height : Int), .bool c.first] := by
  unfold eC
  rw [List.drop_append, List.drop_eq_nil_of_le (by rw [cd_len]; omega), cd_len, h]; rfl
theorem eC36 {c : Co} (h : c.hash.length = 32) : (eC c).drop 36 = [.bool c.first] := by
  unfold eC
  rw [List.drop_append, List.drop_eq_nil_of_le (by rw [cd_len]; omega), cd_len, h]; rfl
theorem cC33 {c : Co} (h : c.hash.length = 32) : (cC c).drop 33 = [.d (.int .u64 (c.amt : Int)), .d (nb c.scr), .d (.int .u32 (c.height : Int)), .d (.bool c.first)] := by
  unfold cC
  rw [List.drop_append, List.drop_eq_nil_of_le (by rw [cb_len]; omega), cb_len, h]; rfl
theorem cC35 {c : Co} (h : c.hash.length = 32) : (cC c).drop 35 = [.d (.int .u32 (c.height : Int)), .d (.bool c.first)] := by
  unfold cC
  rw [List.drop_append, List.drop_eq_nil_of_le (by rw [cb_len]; omega), cb_len, h]; rfl
theorem cC35g {c : Co} (h : c.hash.length = 32) (hl : 35 < (cC c).length) : (cC c)[35] = .d (.int .u32 (c.height : Int)) := by
  have : (cC c)[35]? = some (.d (.int .u32 (c.height : Int))) := by rw [cC, List.getElem?_append_right (by rw [cb_len]; omega), cb_len, h]; rfl
  rw [List.getElem?_eq_getElem hl] at this
  exact Option.some.inj this
theorem cC36g {c : Co} (h : c.hash.length = 32) (hl : 36 < (cC c).length) : (cC c)[36] = .d (.bool c.first) := by
  have : (cC c)[36]? = some (.d (.bool c.first)) := by rw [cC, List.getElem?_append_right (by rw [cb_len]; omega), cb_len, h]; rfl
  rw [List.getElem?_eq_getElem hl] at this
  exact Option.some.inj this
theorem cC_take {c : Co} (h : c.hash.length = 32) : (cC c).take 37 = cC c := List.take_of_length_le (by rw [cC_len h]; omega)
theorem cC_deep (c : Co) : (AV.agg (cC c)).deep := by
  intro v hv
  simp only [cC, List.mem_append, List.mem_cons, List.mem_nil_iff, or_false] at hv
  rcases hv with hv | rfl | rfl | rfl | rfl | rfl
  · exact cb_deep _ _ hv
  all_goals trivial
theorem zcoin : tzO Tryz.prog 206 = some (cb z32 ++ [.d (.int .u32 0), .d (.int .u64 0), .nil, .d (.int .u32 0), .d (.bool false)]) := by kernel_rfl
attribute [go_sem] zcoin
theorem zcoin_drop : List.drop 37 (cb z32 ++ [AV.d (.int .u32 0), AV.d (.int .u64 0), AV.nil, AV.d (.int .u32 0), AV.d (.bool false)]) = [] := rfl

set_option maxHeartbeats 2000000 in
theorem fee1_fn (c : Co) (h : Nat) (hc : c.ok) (hh : h < 4294967296) : Rets Tryz.prog 213 [.agg (cC c), .rop [.int .u32 (h : Int)]] (fun r => r = .d (.bool (c.first && decide (h < c.height + 4)))) := by
  obtain ⟨h32, _, _, hht⟩ := hc
  refine fn_of_awp Tryz.func213 (by kernel_rfl) rfl Tryz.ntmps213 (rs := [.tmp 3]) rfl (Nat.le_of_ble_eq_true rfl) (by
    intro v hv
    simp only [List.mem_cons, List.mem_nil_iff, or_false] at hv
    rcases hv with rfl | rfl
    · exact cC_deep c
    · trivial) ?_
  have hcl := cC_len h32
  have w1 : IntKind.u64.wrap (c.height : Int) = (c.height : Int) := by rw [u64w]; omega
  have w2 : IntKind.u64.wrap ((c.height : Int) + 4) = (c.height : Int) + 4 := by rw [u64w]; omega
  have w3 : IntKind.u64.wrap (h : Int) = (h : Int) := by rw [u64w]; omega
  have e : ((h : Int) < (c.height : Int) + 4) ↔ h < c.height + 4 := by omega
  cases hf : c.first
  · simp [go_sem, hcl, cC36g h32, cC35g h32, hf, w1, w2, w3]
    exact post_same (by simp [AV.deep, AV.deep1]) rfl
  · simp [go_sem, hcl, cC36g h32, cC35g h32, hf, w1, w2, w3, e]
    exact post_same (by simp [AV.deep, AV.deep1]) rfl

set_option maxHeartbeats 2000000 in
theorem indexC_fn (cs : List Co) (h : Nat) (hl : cs.length ≤ 1000000) (hc : ∀ c, c ∈ cs → c.ok) (hh : h < 4294967296) : Rets Tryz.prog 216 [.d (.ro 37 (cs.map eC)), .fn 213 [.rop [.int .u32 (h : Int)]]] (fun r => ∃ n : Int, r = .d (.int .i64 n) ∧ decide (0 ≤ n) = !ripe h cs) := by
  refine fn_of_awp Tryz.func216 (by kernel_rfl) rfl Tryz.ntmps216 (rs := [.tmp 4]) rfl (Nat.le_of_ble_eq_true rfl) (by simp [AV.deep, AV.deep1]) ?_
  simp [go_sem]
  refine loop_of (fun k : Nat => ⟨[(0, .d (.ro 37 (cs.map eC))), (1, .fn 213 [.rop [.int .u32 (h : Int)]]), (7, .d (.int .i64 (cs.length : Int))), (8, .d (.int .i64 (k : Int)))], [], 1000⟩)
    (fun k => k ≤ cs.length ∧ ripe h (cs.drop k) = ripe h cs) (fun k => cs.length - k) 0 ⟨by omega, rfl⟩ (by
      simp [Weak, slotOk, fv, lk, AV.low, AV.low1]) ?_
  rintro k ⟨hk, ho⟩
  simp only [go_sem, Nat.reduceEqDiff, Nat.reduceAdd, Nat.reduceLT, ↓reduceIte, Nat.reduceMul]
  refine ⟨fun hlt => ?_, fun hge => ?_⟩
  · obtain ⟨x, hx1, hd⟩ := drop_of (l := cs) (k := k) (by omega)
    have hxo := hc x (List.mem_of_getElem? hx1)
    have w3 := next_i64 (k := k) (by omega)
    have hel := eC_len hxo.1
    simp [go_sem, hx1, hel, eC_cC, cC_take hxo.1]
    refine cl_eq (fee1_fn x h hxo hh) (by
      intro v hv
      simp only [List.mem_cons, List.mem_nil_iff, or_false] at hv
      rcases hv with rfl | rfl
      · exact cC_deep x
      · trivial) ?_
    cases hx : (x.first && decide (h < x.height + 4))
    · simp [go_sem, w3]
      refine next_of (k + 1) ⟨by omega, all_step hd ho (by rw [hx]; rfl)⟩ (by omega) ?_
      simp [Weak, slotOk, fv, lk, AV.low, AV.low1]
    · have := all_stop hd ho (by rw [hx]; rfl)
      simp [go_sem]
      exact post_same (by simp [AV.deep, AV.deep1]) ⟨_, rfl, by rw [show ripe h cs = false from this]; simp⟩
  · have hkl : k = cs.length := by omega
    subst hkl
    have hI : ripe h cs = true := all_done ho
    simp [go_sem]
    exact post_same (by simp [AV.deep, AV.deep1]) ⟨_, rfl, by rw [hI]; rfl⟩
theorem containsC_fn (cs : List Co) (h : Nat) (hl : cs.length ≤ 1000000) (hc : ∀ c, c ∈ cs → c.ok) (hh : h < 4294967296) : Rets Tryz.prog 163 [.d (.ro 37 (cs.map eC)), .fn 213 [.rop [.int .u32 (h : Int)]]] (fun r => r = .d (.bool (!ripe h cs))) := by
  refine fn_of_awp Tryz.func163 (by kernel_rfl) rfl Tryz.ntmps163 (rs := [.tmp 4]) rfl (Nat.le_of_ble_eq_true rfl) (by simp [AV.deep, AV.deep1]) ?_
  simp [go_sem]
  refine cl_fn (indexC_fn cs h hl hc hh) (by simp [AV.deep, AV.deep1]) ?_
  rintro r ⟨n, rfl, hn⟩
  rw [← hn]
  simp [go_sem]
  exact post_same (by simp [AV.deep, AV.deep1]) rfl

def paysOf (cs : List Co) : List (Nat × List Nat) := cs.map payOf
theorem paysOf_get {cs : List Co} {k : Nat} {c : Co} (h : cs[k]? = some c) : (paysOf cs).take k ++ [payOf c] = (paysOf cs).take (k + 1) := take_snoc (by simp [paysOf, h])
def payR (os : List (Nat × List Nat)) : List (List AV) := os.map fun o => (eO o).map AV.d
theorem payR_len (os : List (Nat × List Nat)) : (payR os).length = os.length := by simp [payR]
theorem payR_snoc (os : List (Nat × List Nat)) (o : Nat × List Nat) : payR os ++ [[AV.d (.int .u64 (o.1 : Int)), AV.d (nb o.2)]] = payR (os ++ [o]) := by simp [payR, eO]
theorem snap_pay {hp : Hp} {I : Nat → Prop} {id n : Nat} {os : List (Nat × List Nat)} (hl : os.length = n) (hb : lk id hp = some ⟨75, 2, payR os⟩) (hI : I id) : SnapD hp I (.own id 0 n n) (.ro 2 (os.map eO)) :=
  snap_row (ty := 75) (e := 2) (es := os.map eO) (by rw [hb, List.map_map]; rfl) hI (by simp [hl]) (fun r hr => by
    rw [List.mem_map] at hr
    obtain ⟨w, _, rfl⟩ := hr
    rfl)
theorem pay_low (n : Nat) (os : List (Nat × List Nat)) : ∀ r, r ∈ payR os → ∀ v, v ∈ r → v.low1 n := by
  intro r hr v hv
  unfold payR at hr
  rw [List.mem_map] at hr
  obtain ⟨o, _, rfl⟩ := hr
  simp [eO] at hv
  rcases hv with rfl | rfl <;> trivial

set_option maxHeartbeats 2000000 in
theorem outsOf_fn (cs : List Co) (hl : cs.length ≤ 1000) (hc : ∀ c, c ∈ cs → c.ok) : Rets Tryz.prog 160 [.d (.ro 37 (cs.map eC))] (fun r => r = .d (.ro 2 ((paysOf cs).map eO))) := by
  refine fn_of_awp Tryz.func160 (by kernel_rfl) rfl Tryz.ntmps160 (rs := [.tmp 2]) rfl (Nat.le_of_ble_eq_true rfl) (by simp [AV.deep, AV.deep1]) ?_
  simp [go_sem]
  refine loop_of (fun k : Nat => ⟨[(3, .own 1000 0 k k), (6, .d (.ro 37 (cs.map eC))), (7, .d (.int .i64 (cs.length : Int))), (8, .d (.int .i64 (k : Int)))], [(1000, ⟨75, 2, payR ((paysOf cs).take k)⟩)], 2000⟩)
    (fun k => k ≤ cs.length) (fun k => cs.length - k) 0 (by simp) (by
      simp [Weak, slotOk, fv, lk, AV.low, AV.low1, payR]) ?_
  intro k hk
  simp only [go_sem, Nat.reduceEqDiff, Nat.reduceAdd, Nat.reduceLT, ↓reduceIte, Nat.reduceMul]
  refine ⟨fun h => ?_, fun h => ?_⟩
  · obtain ⟨c, hc1, hd⟩ := drop_of (l := cs) (k := k) (by omega)
    have hco := hc c (List.mem_of_getElem? hc1)
    have w3 := next_i64 (k := k) (by omega)
    have hel := eC_len hco.1
    have hcl := cC_len hco.1
    have htl : ((paysOf cs).take k).length = k := take_len (by simpa [paysOf] using hk)
    have hts := paysOf_get hc1
    have hrow := payR_snoc ((paysOf cs).take k) (payOf c)
    rw [hts] at hrow
    simp only [payOf] at hrow
    generalize (paysOf cs).take k = L at *
    simp [go_sem, hc1, hel, eC_cC, hcl, cC_take hco.1, zcoin_drop, cC33 hco.1, payR_len, htl, hrow, w3]
    refine ⟨by omega, ?_⟩
    refine next_of (k + 1) (by omega) (by omega) ?_
    simp [Weak, slotOk, fv, lk, AV.low, AV.low1]
    exact pay_low _ _
  · have hkl : k = cs.length := by omega
    subst hkl
    simp [go_sem]
    rw [List.take_of_length_le (by simp [paysOf])]
    exact post_one (snap1_d (snap_pay (by simp [paysOf]) rfl trivial)) (by simp [AV.deep, AV.deep1]) rfl
end Go.Proofs.YthieefhjokekmaaGreat
