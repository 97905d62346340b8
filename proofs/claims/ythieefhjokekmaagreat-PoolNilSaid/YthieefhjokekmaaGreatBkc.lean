/-
  Headers' bytes, transactions' names and weights, by both texts.
-/
import Derived.Test.YthieefhjokekmaaGreatRaq
import Derived.Test.YthieefhjokekmaaGreatBkb
namespace Go.Sha
/-- A header. -/
structure Hd where
  ver : Nat
  prev : List Nat
  root : List Nat
  time : Nat
  bits : Nat
  nonce : Nat
def Hd.ok (h : Hd) : Prop := h.ver < 4294967296 ∧ h.prev.length = 32 ∧ h.root.length = 32 ∧ h.time < 4294967296 ∧ h.bits < 4294967296 ∧ h.nonce < 4294967296 ∧ (∀ x, x ∈ h.prev → x < 256) ∧ ∀ x, x ∈ h.root → x < 256
def headB (h : Hd) : List Nat := le h.ver 4 ++ h.prev ++ h.root ++ le h.time 4 ++ le h.bits 4 ++ le h.nonce 4
theorem headB_len {h : Hd} (hk : h.ok) : (headB h).length = 80 := by
  obtain ⟨_, h1, h2, _⟩ := hk
  simp [headB, le_len, h1, h2]
end Go.Sha
namespace Go.Proofs.YthieefhjokekmaaGreat
open Go.Am Go.Sha
set_option linter.unusedSimpArgs false
set_option linter.unusedVariables false

def eH (h : Hd) : List AV := .d (.int .u32 (h.ver : Int)) :: (cb h.prev ++ (cb h.root ++ [.d (.int .u32 (h.time : Int)), .d (.int .u32 (h.bits : Int)), .d (.int .u32 (h.nonce : Int))]))
theorem eH_len {h : Hd} (hp : h.prev.length = 32) (hr : h.root.length = 32) : (eH h).length = 68 := by simp [eH, cb_len, hp, hr]
theorem eH_deep (h : Hd) : (AV.agg (eH h)).deep := by
  intro c hc
  simp only [eH, List.mem_cons, List.mem_append, List.mem_nil_iff, or_false] at hc
  rcases hc with rfl | hc | hc | rfl | rfl | rfl
  · trivial
  · exact cb_deep _ _ hc
  · exact cb_deep _ _ hc
  · trivial
  · trivial
  · trivial
theorem eH_low (n : Nat) (h : Hd) : ∀ v, v ∈ eH h → v.low1 n := by
  intro c hc
  simp only [eH, List.mem_cons, List.mem_append, List.mem_nil_iff, or_false] at hc
  rcases hc with rfl | hc | hc | rfl | rfl | rfl
  · trivial
  · exact cb_low _ _ _ hc
  · exact cb_low _ _ _ hc
  · trivial
  · trivial
  · trivial
theorem eH_0 (h : Hd) : (eH h)[0]? = some (.d (.int .u32 (h.ver : Int))) := rfl
theorem eH_tail {h : Hd} (hp : h.prev.length = 32) (hr : h.root.length = 32) : (eH h).drop 65 = [.d (.int .u32 (h.time : Int)), .d (.int .u32 (h.bits : Int)), .d (.int .u32 (h.nonce : Int))] := by
  have e : eH h = (.d (.int .u32 (h.ver : Int)) :: (cb h.prev ++ cb h.root)) ++ [.d (.int .u32 (h.time : Int)), .d (.int .u32 (h.bits : Int)), .d (.int .u32 (h.nonce : Int))] := by simp [eH]
  rw [e, List.drop_append_of_le_length (by simp [cb_len, hp, hr]), List.drop_eq_nil_of_le (by simp [cb_len, hp, hr])]
  rfl
theorem eH_get {h : Hd} (hp : h.prev.length = 32) (hr : h.root.length = 32) (k : Nat) : (eH h)[65 + k]? = [AV.d (.int .u32 (h.time : Int)), .d (.int .u32 (h.bits : Int)), .d (.int .u32 (h.nonce : Int))][k]? := by
  rw [← eH_tail hp hr, List.getElem?_drop]
theorem eH_rows1 {h : Hd} (hp : h.prev.length = 32) : (List.range 32).map (fun k => ((eH h).drop (1 + k)).take 1) = rb h.prev := by
  refine List.ext_getElem? fun j => ?_
  by_cases hj : j < 32
  · rw [List.getElem?_map, List.getElem?_range hj, Option.map_some]
    obtain ⟨x, hx, _⟩ := drop_of (l := h.prev) (k := j) (by omega)
    have e : (eH h)[1 + j]? = some (.d (.int .u8 (x : Int))) := by
      rw [Nat.add_comm, eH, List.getElem?_cons_succ, List.getElem?_append_left (by rw [cb_len]; omega), cb_get, hx]; rfl
    obtain ⟨h1, h2⟩ := List.getElem?_eq_some_iff.1 e
    rw [List.drop_eq_getElem_cons h1, h2]
    simp [rb, hx]
  · rw [List.getElem?_eq_none (by simp; omega), List.getElem?_eq_none (by simp [rb]; omega)]
theorem eH_rows33 {h : Hd} (hp : h.prev.length = 32) (hr : h.root.length = 32) : (List.range 32).map (fun k => ((eH h).drop (33 + k)).take 1) = rb h.root := by
  refine List.ext_getElem? fun j => ?_
  by_cases hj : j < 32
  · rw [List.getElem?_map, List.getElem?_range hj, Option.map_some]
    obtain ⟨x, hx, _⟩ := drop_of (l := h.root) (k := j) (by omega)
    have e : (eH h)[33 + j]? = some (.d (.int .u8 (x : Int))) := by
      rw [show 33 + j = (32 + j) + 1 by omega, eH, List.getElem?_cons_succ, List.getElem?_append_right (by rw [cb_len]; omega), cb_len, hp, List.getElem?_append_left (by rw [cb_len]; omega), cb_get, show 32 + j - 32 = j by omega, hx]; rfl
    obtain ⟨h1, h2⟩ := List.getElem?_eq_some_iff.1 e
    rw [List.drop_eq_getElem_cons h1, h2]
    simp [rb, hx]
  · rw [List.getElem?_eq_none (by simp; omega), List.getElem?_eq_none (by simp [rb]; omega)]
theorem putHeader_fn (h : Hd) (hk : h.ok) : Rets Tryz.prog 100 [.agg (eH h)] (fun r => r = .d (nb (headB h))) := by
  obtain ⟨hv, hp, hr, ht, hb, hn, _, _⟩ := hk
  refine fn_of_awp Tryz.func100 (by kernel_rfl) rfl Tryz.ntmps100 (rs := [.tmp 2]) rfl (Nat.le_of_ble_eq_true rfl) (by intro v hv; simp at hv; subst hv; exact eH_deep _) ?_
  have hl := eH_len hp hr
  have g0 : (eH h).head? = some (.d (.int .u32 (h.ver : Int))) := rfl
  simp [go_sem, hl, g0]
  refine cl_effz [] (put32_own [] h.ver (by simp) hv) rfl (snap_cons (.one (snap1_d (.nil 1))) (snap_cons (.deep (by simp [AV.deep, AV.deep1])) snap_nil)) (fun ρ => by simp [AV.renL, AV.ren]) ?_
  rintro r hp' ⟨I, rfl, h0⟩
  refine ⟨[(I, 0)], by simp [newsB, prsB], ?_⟩
  have hxp := eH_rows1 hp
  have hxr := eH_rows33 hp hr
  simp [go_sem] at hxp hxr
  have g65 := eH_get hp hr 0
  have g66 := eH_get hp hr 1
  have g67 := eH_get hp hr 2
  simp at g65 g66 g67
  have hA : (le h.ver 4 ++ h.prev ++ h.root).length = 68 := by simp [le_len, hp, hr]
  simp [go_sem, outH, outP, h0, Blk.ren, renR, rb_ren, AV.renL, AV.ren, rho, dropH, hxp, hxr, rb_len, rb_app, le_len, g65]
  refine ⟨by omega, by omega, ?_⟩
  have hL1 : (le h.ver 4 ++ (h.prev ++ h.root)).length = 4 + h.prev.length + h.root.length := by simp [le_len]; omega
  have hF : headB h = le h.ver 4 ++ (h.prev ++ h.root) ++ le h.time 4 ++ le h.bits 4 ++ le h.nonce 4 := by simp [headB]
  generalize headB h = F at *
  generalize le h.ver 4 ++ (h.prev ++ h.root) = B1 at *
  refine cl_effz [128] (put32_own B1 h.time (by omega) ht) rfl (snap_cons (.one (snap1_d (snap_full hL1 rfl (by simp)))) (snap_cons (.deep (by simp [AV.deep, AV.deep1])) snap_nil)) (fun ρ => by simp [AV.renL, AV.ren]) ?_
  rintro r hp' ⟨J, rfl, h1⟩
  refine ⟨[(J, 0)], by simp [newsB, prsB], ?_⟩
  have hL2 : (B1 ++ le h.time 4).length = B1.length + 4 := by rw [List.length_append, le_len]
  generalize B1 ++ le h.time 4 = B2 at *
  simp [go_sem, outH, outP, h1, Blk.ren, renR, rb_ren, AV.renL, AV.ren, rho, dropH, rb_len, g66]
  refine cl_effz [608] (put32_own B2 h.bits (by omega) hb) rfl (snap_cons (.one (snap1_d (snap_full rfl rfl (by simp)))) (snap_cons (.deep (by simp [AV.deep, AV.deep1])) snap_nil)) (fun ρ => by simp [AV.renL, AV.ren]) ?_
  rintro r hp' ⟨K, rfl, h2⟩
  refine ⟨[(K, 0)], by simp [newsB, prsB], ?_⟩
  have hL3 : (B2 ++ le h.bits 4).length = B2.length + 4 := by rw [List.length_append, le_len]
  generalize B2 ++ le h.bits 4 = B3 at *
  simp [go_sem, outH, outP, h2, Blk.ren, renR, rb_ren, AV.renL, AV.ren, rho, dropH, rb_len, g67]
  rw [hF]
  refine cl_froz [768] (put32_fn B3 h.nonce (by omega) hn) rfl (snap_cons (.one (snap1_d (snap_full rfl rfl (by simp)))) (snap_cons (.deep (by simp [AV.deep, AV.deep1])) snap_nil)) ?_
  simp [go_sem, resV]
  exact post_same (by simp [AV.deep, AV.deep1]) rfl
theorem one_eH (h : Hd) : ∀ v, v ∈ [AV.agg (eH h)] → v.deep := by intro v hv; simp at hv; subst hv; exact eH_deep h
set_option maxRecDepth 100000
theorem ty_hd {n : Nat} {ds : List DV} (h : TyD Tryz.prog (n + 4) 50 ds) : ∃ g : Hd, ds.map .d = eH g ∧ g.ok := by
  rw [TyD] at h
  simp only [Tryz.underlying50, List.map_cons, List.map_nil] at h
  obtain ⟨a, b, rfl, ha, ha2, a', b', rfl, hb, hb2, a3, b3, rfl, hc, hc2, a4, b4, rfl, hd, hd2, a5, b5, rfl, he, he2, a6, b6, rfl, hf, hf2, rfl⟩ := h
  obtain ⟨x, rfl, hx⟩ := ty_u32 ha2
  obtain ⟨p, rfl, hp1, hp2⟩ := ty_h32 hb2
  obtain ⟨r, rfl, hr1, hr2⟩ := ty_h32 hc2
  obtain ⟨t, rfl, ht⟩ := ty_u32 hd2
  obtain ⟨b, rfl, hb⟩ := ty_u32 he2
  obtain ⟨o, rfl, ho⟩ := ty_u32 hf2
  exact ⟨⟨x, p, r, t, b, o⟩, by simp [eH, cd_map], hx, hp1, hr1, ht, hb, ho, hp2, hr2⟩
theorem le_lt : ∀ (x n : Nat), ∀ y, y ∈ le x n → y < 256
  | _, 0, y, h => by simp [le] at h
  | x, n + 1, y, h => by
    simp only [le, List.mem_append, List.mem_singleton] at h
    rcases h with h | rfl
    · exact le_lt x n y h
    · unfold t8; omega
theorem putSize_by (n : Nat) : bytes (putSize n) := by
  intro x hx
  unfold putSize at hx
  split at hx
  · exact le_lt _ _ _ hx
  · split at hx
    · rcases List.mem_append.1 hx with hx | hx <;> exact le_lt _ _ _ hx
    · rcases List.mem_append.1 hx with hx | hx <;> exact le_lt _ _ _ hx
theorem bytes_flat {α : Type} {l : List α} {f : α → List Nat} (h : ∀ a, a ∈ l → bytes (f a)) : bytes (l.map f).flatten := by
  intro x hx
  rw [List.mem_flatten] at hx
  obtain ⟨y, hy, hx⟩ := hx
  rw [List.mem_map] at hy
  obtain ⟨a, ha, rfl⟩ := hy
  exact h a ha x hx
def Byt (t : Tn) : Prop := (∀ o, o ∈ t.outs → bytes o.2) ∧ ∀ i, i ∈ t.ins → bytes i.hash
theorem bareB_by {t : Tn} (h : Byt t) : bytes (bareB t) := by
  have hl : ∀ x n, bytes (le x n) := fun x n => le_lt x n
  refine bytes_app (hl _ _) (bytes_app (putSize_by _) (bytes_app (bytes_flat fun i hi => ?_) (bytes_app (putSize_by _) (bytes_app (bytes_flat fun o ho => ?_) (hl _ _)))))
  · exact bytes_app (h.2 i hi) (bytes_app (hl _ _) (hl _ _))
  · exact bytes_app (hl _ _) (bytes_app (putSize_by _) (h.1 o ho))
def nameT (t : Tn) : List Nat := if checkT t ≠ 0 then z32 else dblB (bareB t)
def weightT (t : Tn) : Nat := if checkT t ≠ 0 then 0 else 3 * (bareB t).length + (wholeB t).length
theorem nameT_len (t : Tn) : (nameT t).length = 32 := by
  unfold nameT
  split
  · rfl
  · exact dblB_len _
theorem nameT_by (t : Tn) : bytes (nameT t) := by
  unfold nameT
  split
  · intro x hx; rw [List.eq_of_mem_replicate hx]; omega
  · exact dblB_by _
theorem one_eT (t : Tn) : ∀ v, v ∈ [AV.agg (eT t)] → v.deep := by simp [AV.deep, AV.deep1, eT]
theorem wholeT_fn (t : Tn) (ht : Sm t) (h0 : checkT t = 0) : Rets Tryz.prog 77 [.agg (eT t)] (fun r => r = .d (nb (wholeB t))) := by
  refine fn_of_awp Tryz.func77 (by kernel_rfl) rfl Tryz.ntmps77 (rs := [.tmp 2]) rfl (Nat.le_of_ble_eq_true rfl) (one_eT t) ?_
  simp [go_sem, eT]
  refine cl_eq (checkT_fn t ht) (one_eT t) ?_
  rw [h0]
  simp [go_sem]
  refine cl_eq (whole_fn t ht) (one_eT t) ?_
  simp [go_sem, resV]
  exact post_same (by simp [AV.deep, AV.deep1]) rfl
theorem nameT_fn (t : Tn) (ht : Sm t) : Rets Tryz.prog 105 [.agg (eT t)] (fun r => r = .agg (cb (nameT t))) := by
  refine fn_of_awp Tryz.func105 (by kernel_rfl) rfl Tryz.ntmps105 (rs := [.cell 2 27]) rfl (Nat.le_of_ble_eq_true rfl) (one_eT t) ?_
  have hbl := bareB_len ht
  simp [go_sem, eT]
  refine cl_eq (checkT_fn t ht) (one_eT t) ?_
  unfold nameT
  by_cases h0 : checkT t = 0
  · rw [h0]
    simp [go_sem]
    refine cl_eq (bare_fn t ht) (one_eT t) ?_
    simp [go_sem]
    refine cl_eq (double_fn (bareB t) (by omega)) (by simp [AV.deep, AV.deep1]) ?_
    have hl := dblB_len (bareB t)
    generalize dblB (bareB t) = s at *
    simp [go_sem, cb_len, hl, cb_take hl, z32_drop, resV]
    exact post_same (cb_deepA _) rfl
  · simp [go_sem, h0, cb_len, z32_drop, cb_take (l := z32) rfl, resV]
    exact post_same (cb_deepA _) rfl
theorem weightT_fn (t : Tn) (ht : Sm t) : Rets Tryz.prog 73 [.agg (eT t)] (fun r => r = .d (.int .i64 (weightT t : Int))) := by
  refine fn_of_awp Tryz.func73 (by kernel_rfl) rfl Tryz.ntmps73 (rs := [.tmp 2]) rfl (Nat.le_of_ble_eq_true rfl) (one_eT t) ?_
  have hbl := bareB_len ht
  have hc : checkT t = if 12000 < (wholeB t).length then 4 else 0 := rfl
  simp [go_sem, eT]
  refine cl_eq (checkT_fn t ht) (one_eT t) ?_
  unfold weightT
  by_cases h0 : checkT t = 0
  · have hwl : (wholeB t).length ≤ 12000 := by
      rw [hc] at h0
      split at h0
      · exact absurd h0 (by decide)
      · omega
    rw [h0]
    simp [go_sem]
    have w1 : IntKind.i64.wrap (3 * ((bareB t).length : Int)) = 3 * ((bareB t).length : Int) := IntWalk.i64_in _ (by omega)
    have w2 : IntKind.i64.wrap (3 * ((bareB t).length : Int) + ((wholeB t).length : Int)) = 3 * ((bareB t).length : Int) + ((wholeB t).length : Int) := IntWalk.i64_in _ (by omega)
    apply draw2 (0 :: 4 :: []) ((1, (2 :: 3 :: [])) :: (5, (6 :: 7 :: 8 :: [])) :: []) 2 (k := 9) (by kernel_rfl) (by kernel_rfl) rfl
    case hz => repeat (first | exact Its.nil | apply Its.plain rfl | apply Its.guard rfl rfl)
    case hj => repeat (first | exact Jts.nil | exact Its.nil | apply Its.plain rfl | apply Its.guard rfl rfl | apply Jts.plain rfl | apply Jts.guard rfl rfl)
    intro G hG
    simp [go_sem, eT]
    refine cl_eq (bare_fn t ht) (one_eT t) ?_
    simp [go_sem, w1]
    refine cl_eq (whole_fn t ht) (one_eT t) ?_
    simp [go_sem, w1, w2]
    refine hG _ _ ?_
    simp [go_sem, resV]
    exact post_same (by simp [AV.deep, AV.deep1]) (by rw [w2])
  · simp [go_sem, h0, resV]
    exact post_same (by simp [AV.deep, AV.deep1]) rfl
end Go.Proofs.YthieefhjokekmaaGreat
