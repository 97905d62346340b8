/-
  Whether inputs wait; the law RulesCoins.
-/
import Derived.Test.YthieefhjokekmaaGreatRcc
namespace Go.Proofs.YthieefhjokekmaaGreat
open Go.Am Go.Sha
set_option linter.unusedSimpArgs false
set_option linter.unusedVariables false

/-- Whether inputs wait long enough, from place k on. -/
def waitsL (h : Nat) (cs : List Co) : Nat → List Ip → Int
  | _, [] => 0
  | k, i :: r => if 2147483648 ≤ i.seq then waitsL h cs (k + 1) r else if i.seq / 4194304 % 2 = 1 then 22 else if h < i.seq % 65536 + ((cs[k]?.map Co.height).getD 0) then 22 else waitsL h cs (k + 1) r
def waitsV (t : Tn) (cs : List Co) (h : Nat) : Int := if cs.length ≠ t.ins.length then 1 else if t.ver < 2 then 0 else waitsL h cs 0 t.ins
theorem b_31 (x : Nat) (h : x < 4294967296) : bits .and .u32 (x : Int) 2147483648 = ((if 2147483648 ≤ x then 2147483648 else 0 : Nat) : Int) := by
  have := w_and x 2147483648
  unfold n32 at this
  rw [and31 x h] at this
  rw [show (2147483648 : Int) = ((2147483648 : Nat) : Int) from rfl, this]
  split <;> rfl
theorem b_22 (x : Nat) : bits .and .u32 (x : Int) 4194304 = ((if x / 4194304 % 2 = 1 then 4194304 else 0 : Nat) : Int) := by
  have := w_and x 4194304
  unfold n32 at this
  rw [and22 x] at this
  rw [show (4194304 : Int) = ((4194304 : Nat) : Int) from rfl, this]
  split <;> rfl
theorem b_16 (x : Nat) : bits .and .u32 (x : Int) 65535 = ((x % 65536 : Nat) : Int) := by
  have := w_and x 65535
  unfold n32 at this
  rw [and16 x] at this
  rw [show (65535 : Int) = ((65535 : Nat) : Int) from rfl, this]
  congr 1
  omega

set_option maxHeartbeats 4000000 in
theorem waits_fn (t : Tn) (cs : List Co) (h : Nat) (ht : t.ok) (hl : cs.length ≤ 1000) (hc : ∀ c, c ∈ cs → c.ok) (hh : h < 4294967296) :
    Rets Tryz.prog 157 [.agg (eT t), .d (.ro 37 (cs.map eC)), .d (.int .u32 (h : Int))] (fun r => r = .d (.int .i64 (waitsV t cs h))) := by
  obtain ⟨_, _, hi, _⟩ := ht
  refine fn_of_awp Tryz.func157 (by kernel_rfl) rfl Tryz.ntmps157 (rs := [.tmp 6]) rfl (Nat.le_of_ble_eq_true rfl) (by simp [AV.deep, AV.deep1, eT]) ?_
  generalize hF : waitsV t cs h = F
  unfold waitsV at hF
  by_cases c1 : cs.length = t.ins.length
  · have i1 : (cs.length : Int) = (t.ins.length : Int) := by omega
    rw [if_neg (by simpa using c1)] at hF
    by_cases c2 : t.ver < 2
    · have i2 : (t.ver : Int) < 2 := by omega
      rw [if_pos c2] at hF
      subst hF
      simp [go_sem, eT, i1, i2, c2]
      exact post_same (by simp [AV.deep, AV.deep1]) rfl
    · have i2 : ¬ (t.ver : Int) < 2 := by omega
      rw [if_neg c2] at hF
      simp [go_sem, eT, i1, i2, c2]
      refine loop_of (fun k : Nat => ⟨[(1, .d (.ro 37 (cs.map eC))), (2, .d (.int .u32 (h : Int))), (22, .d (.ro 35 (t.ins.map eI))), (23, .d (.int .i64 (t.ins.length : Int))), (24, .d (.int .i64 (k : Int)))], [], 2000⟩)
        (fun k => k ≤ t.ins.length ∧ waitsL h cs k (t.ins.drop k) = F) (fun k => t.ins.length - k) 0 ⟨by simp, by simpa using hF⟩ (by
          simp [Weak, slotOk, fv, lk, AV.low, AV.low1]) ?_
      rintro k ⟨hk, hq⟩
      simp only [go_sem, Nat.reduceEqDiff, Nat.reduceAdd, Nat.reduceLT, ↓reduceIte, Nat.reduceMul]
      refine ⟨fun hlt => ?_, fun hge => ?_⟩
      · obtain ⟨i, hi1, hd⟩ := drop_of (l := t.ins) (k := k) (by omega)
        obtain ⟨hi32, hidx, hseq⟩ := hi i (List.mem_of_getElem? hi1)
        obtain ⟨c, hc1, _⟩ := drop_of (l := cs) (k := k) (by omega)
        have hco := hc c (List.mem_of_getElem? hc1)
        have hht := hco.2.2.2
        have w3 := next_i64 (k := k) (by omega)
        have hel := eI_len hi32
        have hcl := cI_len hi32
        have b1 := b_31 i.seq hseq
        have b2 := b_22 i.seq
        have b3 := b_16 i.seq
        have v1 : IntKind.u64.wrap (c.height : Int) = (c.height : Int) := by rw [u64w]; omega
        have v2 : IntKind.u64.wrap ((i.seq % 65536 : Nat) : Int) = ((i.seq % 65536 : Nat) : Int) := by rw [u64w]; omega
        have v3 : IntKind.u64.wrap (h : Int) = (h : Int) := by rw [u64w]; omega
        have v4 : IntKind.u64.wrap (((i.seq % 65536 : Nat) : Int) + (c.height : Int)) = ((i.seq % 65536 + c.height : Nat) : Int) := by rw [u64w]; omega
        rw [hd] at hq
        simp only [waitsL, hc1, Option.map_some, Option.getD_some] at hq
        generalize i.seq % 65536 = m at *
        by_cases q1 : 2147483648 ≤ i.seq
        · rw [if_pos q1] at hq
          rw [if_pos q1] at b1
          simp [go_sem, hi1, hel, eI_cI, hcl, cI_take hi32, zin_drop, cI33g hi32, b1, w3]
          refine next_of (k + 1) ⟨by omega, hq⟩ (by omega) ?_
          simp [Weak, slotOk, fv, lk, AV.low, AV.low1]
        · rw [if_neg q1] at hq
          rw [if_neg q1] at b1
          by_cases q2 : i.seq / 4194304 % 2 = 1
          · rw [if_pos q2] at hq b2
            subst hq
            simp [go_sem, hi1, hel, eI_cI, hcl, cI_take hi32, zin_drop, cI33g hi32, b1, b2]
            exact post_same (by simp [AV.deep, AV.deep1]) rfl
          · rw [if_neg q2] at hq b2
            by_cases q3 : h < m + c.height
            · have q3' : (h : Int) < ((m + c.height : Nat) : Int) := by omega
              rw [if_pos q3] at hq
              subst hq
              simp [go_sem, hi1, hel, eI_cI, hcl, cI_take hi32, zin_drop, cI33g hi32, b1, b2, b3, hc1, eC35 hco.1, v1, v2, v3, v4, q3']
              exact ⟨fun _ => post_same (by simp [AV.deep, AV.deep1]) rfl, fun e => by omega⟩
            · have q3' : ¬ (h : Int) < ((m + c.height : Nat) : Int) := by omega
              rw [if_neg q3] at hq
              simp [go_sem, hi1, hel, eI_cI, hcl, cI_take hi32, zin_drop, cI33g hi32, b1, b2, b3, hc1, eC35 hco.1, v1, v2, v3, v4, q3', w3]
              refine ⟨fun e => by omega, fun _ => ?_⟩
              refine next_of (k + 1) ⟨by omega, hq⟩ (by omega) ?_
              simp [Weak, slotOk, fv, lk, AV.low, AV.low1]
      · have hkl : k = t.ins.length := by omega
        subst hkl
        rw [List.drop_length] at hq
        simp only [waitsL] at hq
        subst hq
        simp [go_sem]
        exact post_same (by simp [AV.deep, AV.deep1]) rfl
  · have i1 : ¬ (cs.length : Int) = (t.ins.length : Int) := by omega
    rw [if_pos c1] at hF
    subst hF
    simp [go_sem, eT, i1]
    exact post_same (by simp [AV.deep, AV.deep1]) rfl

theorem sub31_fn : Rets Tryz.prog 81 [.d (.int .u32 31)] (fun r => r = .d (.int .u64 5000000000)) := by
  refine fn_of_awp Tryz.func81 (by kernel_rfl) rfl Tryz.ntmps81 (rs := [.tmp 2]) rfl (Nat.le_of_ble_eq_true rfl) (by simp [AV.deep, AV.deep1]) ?_
  simp [go_sem, IntKind.wrap, IntKind.bits, IntKind.signed]
  exact post_same (by simp [AV.deep, AV.deep1]) rfl
theorem sub32_fn : Rets Tryz.prog 81 [.d (.int .u32 32)] (fun r => r = .d (.int .u64 2500000000)) := by
  refine fn_of_awp Tryz.func81 (by kernel_rfl) rfl Tryz.ntmps81 (rs := [.tmp 2]) rfl (Nat.le_of_ble_eq_true rfl) (by simp [AV.deep, AV.deep1]) ?_
  simp [go_sem, IntKind.wrap, IntKind.bits, IntKind.signed]
  exact post_same (by simp [AV.deep, AV.deep1]) rfl
def t0 : Tn := ⟨0, [], [], 0⟩
theorem sm0 : Sm t0 := ⟨⟨by simp [t0], by simp [t0], by simp [t0], by simp [t0]⟩, by simp [t0], by simp [t0], by simp [t0], by simp [t0]⟩
theorem check0 : checkT t0 = 0 := by
  have h := bareB_len sm0
  have e : wholeB t0 = bareB t0 := by simp [wholeB, witsB, t0]
  unfold checkT
  rw [e, if_neg (by omega)]
theorem checkNil_fn : Rets Tryz.prog 104 [.agg (eT t0), .d (.bool false)] (fun r => r = .d (.int .i64 30)) := by
  refine fn_of_awp Tryz.func104 (by kernel_rfl) rfl Tryz.ntmps104 (rs := [.tmp 4]) rfl (Nat.le_of_ble_eq_true rfl) (by simp [AV.deep, AV.deep1, eT]) ?_
  simp [go_sem, eT, t0]
  refine cl_eq (checkT_fn t0 sm0) (by simp [AV.deep, AV.deep1, eT]) ?_
  rw [check0]
  simp [go_sem]
  exact post_same (by simp [AV.deep, AV.deep1]) rfl
theorem finalNil_fn : Rets Tryz.prog 156 [.agg (eT t0), .d (.int .u32 0), .d (.int .u32 0)] (fun r => r = .d (.bool true)) := by
  refine fn_of_awp Tryz.func156 (by kernel_rfl) rfl Tryz.ntmps156 (rs := [.tmp 6]) rfl (Nat.le_of_ble_eq_true rfl) (by simp [AV.deep, AV.deep1, eT]) ?_
  simp [go_sem, eT, t0]
  exact post_same (by simp [AV.deep, AV.deep1]) rfl
theorem snap_t0 {hp : Hp} {I : Nat → Prop} : Snap hp I (.agg [.d (.int .u32 0), .nil, .nil, .d (.int .u32 0)]) (.agg (eT t0)) :=
  .agg ⟨rfl, snap1_cons (snap1_same trivial) (snap1_cons (snap1_d (.nil 35)) (snap1_cons (snap1_d (.nil 2)) (snap1_cons (snap1_same trivial) snap1_nil)))⟩

set_option maxRecDepth 100000
theorem ty_coin {n : Nat} {ds : List DV} (h : TyD Tryz.prog (n + 4) 206 ds) : ∃ c : Co, ds = eC c ∧ c.ok := by
  rw [TyD] at h
  simp only [Tryz.underlying206, List.map_cons, List.map_nil] at h
  obtain ⟨a, b, rfl, ha, ha2, a', b', rfl, hb, hb2, a3, b3, rfl, hc, hc2, a4, b4, rfl, hd, hd2, rfl⟩ := h
  rw [TyD] at ha2
  simp only [Tryz.underlying77, List.map_cons, List.map_nil] at ha2
  obtain ⟨c, d, rfl, hc1, hc3, c', d', rfl, hd', hd3, rfl⟩ := ha2
  obtain ⟨hash, rfl, h1, h2⟩ := ty_h32 hc3
  obtain ⟨x, rfl, hx⟩ := ty_u32 hd3
  obtain ⟨o, rfl, ho, _⟩ := ty_out hb2
  obtain ⟨y, rfl, hy⟩ := ty_u32 hc2
  rw [TyD] at hd2
  simp only [Tryz.underlying4] at hd2
  obtain ⟨f, rfl⟩ := hd2
  exact ⟨⟨hash, x, o.1, o.2, y, f⟩, by simp [eC, eO], h1, hx, ho, hy⟩
theorem ty_coins {n : Nat} {ds : List DV} (h : TyD Tryz.prog (n + 5) 81 ds) : ∃ cs : List Co, ds = [.ro 37 (cs.map eC)] ∧ ∀ c, c ∈ cs → c.ok := by
  rw [TyD] at h
  simp only [Tryz.underlying81] at h
  obtain ⟨es, rfl, hl, hr⟩ := h
  obtain ⟨os, rfl, hos⟩ := map_of (enc := eC) (R := fun c => c.ok) (es := es) (fun r hr' => by
    obtain ⟨h1, h2⟩ := hr r hr'
    obtain ⟨o, rfl, h3⟩ := ty_coin h1
    exact ⟨o, rfl, h3⟩)
  exact ⟨os, by rw [show Tryz.prog.cellsOf 206 = 37 by kernel_rfl], hos⟩
end Go.Proofs.YthieefhjokekmaaGreat
