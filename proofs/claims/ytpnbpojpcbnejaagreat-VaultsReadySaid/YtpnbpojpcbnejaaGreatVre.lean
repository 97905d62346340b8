/-
  The law VaultsReady: its arguments.
-/
import Derived.Test.YtpnbpojpcbnejaaGreatVrd
namespace Go.Proofs.YtpnbpojpcbnejaaGreat
open Go.Am Go.Sha
set_option linter.unusedSimpArgs false
set_option linter.unusedVariables false
set_option maxRecDepth 100000

def zER : List AV := cb z32 ++ [.d (.int .u32 0), .d (.int .u64 0), .d (.int .i64 0), .d (.int .i64 0), .d (.int .u32 0)] ++ cb z32
theorem zER_z : tzO Tryz.prog 32 = some zER := by kernel_rfl
attribute [go_sem] zER_z
theorem zER_len : zER.length = 69 := rfl
theorem zER_drop : List.drop 69 zER = [] := rfl
theorem r_b_beqV {P : Program} {K : AV → Hp → Prop} {hp : Hp} (t : TypeId) (a b : Bool) : binW P .eql t (.d (.bool a)) (.d (.bool b)) K hp = (P.underlying t = some .bool ∧ K (.d (.bool (a == b))) hp) := rfl
theorem und_boolV : Tryz.prog.underlying 4 = some .bool := by kernel_rfl
attribute [go_sem] r_b_beqV und_boolV
theorem put_app (A Z : List AV) (n m : Nat) (hA : A.length = n) (hm : m = n + 1) (v : AV) : List.take n (A ++ List.drop n Z) ++ v :: List.drop m (A ++ List.drop n Z) = (A ++ [v]) ++ List.drop m Z := by
  subst hA; subst hm
  rw [List.take_left, List.drop_append]
  simp [List.drop_drop]
theorem fin_app (A B Z : List AV) (n m : Nat) (hA : A.length = n) (hZ : Z.length = m) (hm : n ≤ m) : List.take n (A ++ List.drop n Z) ++ (B ++ List.drop m (A ++ List.drop n Z)) = A ++ B := by
  subst hA; subst hZ
  have e : List.drop Z.length (A ++ List.drop A.length Z) = [] := List.drop_eq_nil_of_le (by simp; omega)
  rw [List.take_left, e, List.append_nil]
set_option maxHeartbeats 4000000 in
theorem ready_law (tx tpl inner trig rec : List Nat) (ix v pl st ht d h : Int) (h1 : tx.length = 32) (h2 : tpl.length = 32) (h3 : inner.length = 32) (h4 : trig.length = 32)
    (q1 : 0 ≤ ht ∧ ht < 4294967296) (q2 : 0 ≤ h ∧ h < 4294967296) :
    Rets Tryz.prog 3 [.agg (enC tx ix v pl st ht tpl), .agg (plC inner rec d trig), .d (.int .u32 h)] (fun r => r = .d (.bool true)) := by
  refine fn_of_awp Tryz.func3 (by kernel_rfl) rfl Tryz.ntmps3 (rs := [.tmp 6]) rfl (Nat.le_of_ble_eq_true rfl) (rdy_deep _ _ _ _ _ _ _ _ _ _ _ _) ?_
  have el := enC_len h1 h2 ix v pl st ht
  have et := enC_take h1 h2 ix v pl st ht
  have a33 := enC_33 (tpl := tpl) h1 ix v pl st ht
  have a37 := enC_37 (tpl := tpl) h1 ix v pl st ht
  have e33 := enC_e33 (tpl := tpl) h1 ix v pl st ht
  have e34 := enC_e34 (tpl := tpl) h1 ix v pl st ht
  have e35 := enC_e35 (tpl := tpl) h1 ix v pl st ht
  have e36 := enC_e36 (tpl := tpl) h1 ix v pl st ht
  have g33 := get_at e33
  have g34 := get_at e34
  have g35 := get_at e35
  have g36 := get_at e36
  have pl' := plC_len h3 h4 rec d
  have pt := plC_take h3 h4 rec d
  simp [go_sem, el, et, a33, a37, e33, e34, e35, e36, g33, g34, g35, g36, pl', pt, cb_len, h1, h2, cb_take h2, zER_len, zER_drop]
  have s0 : cb tx ++ AV.d (.int .u32 ix) :: List.drop 33 zER = (cb tx ++ [AV.d (.int .u32 ix)]) ++ List.drop 33 zER := by simp
  rw [s0, put_app _ _ 33 34 (by simp [cb_len, h1]) rfl, put_app _ _ 34 35 (by simp [cb_len, h1]) rfl, put_app _ _ 35 36 (by simp [cb_len, h1]) rfl, put_app _ _ 36 37 (by simp [cb_len, h1]) rfl, fin_app _ _ _ 37 69 (by simp [cb_len, h1]) zER_len (by omega)]
  have hE : cb tx ++ [AV.d (.int .u32 ix)] ++ [AV.d (.int .u64 v)] ++ [AV.d (.int .i64 pl)] ++ [AV.d (.int .i64 st)] ++ [AV.d (.int .u32 ht)] ++ cb tpl = enC tx ix v pl st ht tpl := by simp [enC]
  rw [hE]
  have r1 := rdy_fn rec ix v pl st ht d h h1 h2 h3 h4 q1 q2
  have r2 := rdyR_fn rec ix v pl st ht d h h1 h2 h3 h4 q1 q2
  have rd := rdy_deep tx ix v pl st ht tpl inner rec d trig h
  clear a33 a37 e33 e34 e35 e36 g33 g34 g35 g36
  generalize enC tx ix v pl st ht tpl = L at *
  generalize plC inner rec d trig = M at *
  apply draw2 ([]) ((0, (1 :: 2 :: 3 :: 4 :: 6 :: 7 :: 8 :: [])) :: (5, ([])) :: (9, (10 :: 11 :: 12 :: [])) :: []) 3 (k := 13) (by kernel_rfl) (by kernel_rfl) rfl
  case hz => repeat (first | exact Its.nil | apply Its.plain rfl | apply Its.guard rfl rfl)
  case hj => repeat (first | exact Jts.nil | exact Its.nil | apply Its.plain rfl | apply Its.guard rfl rfl | apply Jts.plain rfl | apply Jts.guard rfl rfl)
  intro G hG
  simp [go_sem, el, et, pl', pt]
  refine cl_eq alive31_fn (by simp) ?_
  simp [go_sem, el, et, pl', pt]
  refine cl_eq r1 rd ?_
  simp [go_sem, el, et, pl', pt]
  refine cl_eq r2 rd ?_
  simp [go_sem]
  refine hG _ _ ?_
  clear hG G
  simp [go_sem, resV]
  exact post_same (by simp [AV.deep, AV.deep1]) rfl
theorem ty_i64v {n : Nat} {ds : List DV} (h : TyD Tryz.prog (n + 1) 2 ds) : ∃ x : Int, ds = [.int .i64 x] ∧ -9223372036854775808 ≤ x ∧ x < 9223372036854775808 := by
  rw [TyD] at h
  simp only [Tryz.underlying2] at h
  obtain ⟨x, rfl, hx⟩ := h
  have hx' : -9223372036854775808 ≤ x ∧ x < 9223372036854775808 := by simp [IntKind.has, IntKind.min, IntKind.max, IntKind.signed, IntKind.bits] at hx; omega
  exact ⟨x, rfl, hx'⟩
theorem ty_intv {n : Nat} {ds : List DV} (h : TyD Tryz.prog (n + 1) 3 ds) : ∃ x : Int, ds = [.int .i64 x] ∧ -9223372036854775808 ≤ x ∧ x < 9223372036854775808 := by
  rw [TyD] at h
  simp only [Tryz.underlying3] at h
  obtain ⟨x, rfl, hx⟩ := h
  have hx' : -9223372036854775808 ≤ x ∧ x < 9223372036854775808 := by simp [IntKind.has, IntKind.min, IntKind.max, IntKind.signed, IntKind.bits] at hx; omega
  exact ⟨x, rfl, hx'⟩
theorem ty_ref {n : Nat} {ds : List DV} (h : TyD Tryz.prog (n + 3) 25 ds) : ∃ (p : List Nat) (x : Nat), ds = cd p ++ [.int .u32 (x : Int)] ∧ p.length = 32 ∧ bytes p ∧ x < 4294967296 := by
  rw [TyD] at h
  simp only [Tryz.underlying25, List.map_cons, List.map_nil] at h
  obtain ⟨c, d, rfl, hc, hc2, c', d', rfl, hd, hd2, rfl⟩ := h
  obtain ⟨p, rfl, hp1, hp2⟩ := ty_h32 hc2
  obtain ⟨x, rfl, hx⟩ := ty_u32 hd2
  exact ⟨p, x, by simp, hp1, hp2, hx⟩
theorem arg_entry {n : Nat} {a : AV} (h : ArgTy Tryz.prog (n + 4) 28 a) : ∃ (tx : List Nat) (ix v : Nat) (pl st : Int) (ht : Nat) (tpl : List Nat), a = .agg (enC tx ix v pl st ht tpl) ∧ tx.length = 32 ∧ bytes tx ∧ ix < 4294967296 ∧ v < 18446744073709551616 ∧ (-9223372036854775808 ≤ st ∧ st < 9223372036854775808) ∧ ht < 4294967296 ∧ tpl.length = 32 ∧ bytes tpl := by
  unfold ArgTy at h
  simp only [Tryz.underlying28] at h
  obtain ⟨ds, rfl, h⟩ := h
  rw [TyD] at h
  simp only [Tryz.underlying28, List.map_cons, List.map_nil] at h
  obtain ⟨a1, b1, rfl, _, h1, a2, b2, rfl, _, h2, a3, b3, rfl, _, h3, a4, b4, rfl, _, h4, a5, b5, rfl, _, h5, a6, b6, rfl, _, h6, rfl⟩ := h
  obtain ⟨tx, ix, rfl, q1, q2, q3⟩ := ty_ref h1
  obtain ⟨v, rfl, q4⟩ := ty_u64 h2
  obtain ⟨pl, rfl, q5⟩ := ty_intv h3
  obtain ⟨st, rfl, q6⟩ := ty_intv h4
  obtain ⟨ht, rfl, q7⟩ := ty_u32 h5
  obtain ⟨tpl, rfl, q8, q9⟩ := ty_h32 h6
  exact ⟨tx, ix, v, pl, st, ht, tpl, by simp [enC, cd_map], q1, q2, q3, q4, q6, q7, q8, q9⟩
theorem arg_planV {n : Nat} {a : AV} (h : ArgTy Tryz.prog (n + 4) 31 a) : ∃ (inner rec : List Nat) (d : Int) (trig : List Nat), a = .agg (plC inner rec d trig) ∧ inner.length = 32 ∧ bytes inner ∧ bytes rec ∧ (-9223372036854775808 ≤ d ∧ d < 9223372036854775808) ∧ trig.length = 32 ∧ bytes trig := by
  unfold ArgTy at h
  simp only [Tryz.underlying31] at h
  obtain ⟨ds, rfl, h⟩ := h
  rw [TyD] at h
  simp only [Tryz.underlying31, List.map_cons, List.map_nil] at h
  obtain ⟨a, b, rfl, ha, ha2, a', b', rfl, hb, hb2, a3, b3, rfl, hc, hc2, a4, b4, rfl, hd, hd2, rfl⟩ := h
  obtain ⟨inner, rfl, h1, h2⟩ := ty_h32 ha2
  rw [show Tryz.prog.cellsOf 29 = 1 by kernel_rfl] at hb
  obtain ⟨d, rfl, h3⟩ := ty_i64v hc2
  obtain ⟨trig, rfl, h5, h6⟩ := ty_h32 hd2
  match a', hb, hb2 with
  | [y], _, hb2 =>
    obtain ⟨rec, rfl, _, h4⟩ := ty_bytes hb2
    exact ⟨inner, rec, d, trig, by simp [plC, cd_map], h1, h2, h4, h3, h5, h6⟩
theorem ready_args (l : List AV) (h : ArgTys Tryz.prog 8 [28, 31, 23] l) : Rets Tryz.prog 3 l (fun r => r = .d (.bool true)) := by
  obtain ⟨a0, r0, rfl, h0, a1, r1, rfl, h1, a2, r2, rfl, h2, rfl⟩ := h
  obtain ⟨tx, ix, v, pl, st, ht, tpl, rfl, q1, q2, q3, q4, q5, q6, q7, q8⟩ := arg_entry h0
  obtain ⟨inner, rec, d, trig, rfl, p1, p2, p3, p4, p5, p6⟩ := arg_planV h1
  obtain ⟨d2, rfl, t2⟩ := arg_one Tryz.underlying23 (by simp) (by simp) h2
  obtain ⟨x, e, hx⟩ := ty_u32 t2
  obtain rfl : d2 = .int .u32 (x : Int) := by simpa using e
  exact ready_law tx tpl inner trig rec ix v pl st ht d x q1 q7 p1 p5 ⟨by omega, by omega⟩ ⟨by omega, by omega⟩
end Go.Proofs.YtpnbpojpcbnejaaGreat
