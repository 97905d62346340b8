/-
  Recovery hashes in both texts; claims owed and settled; the live question of layer 21.
-/
import Derived.Test.YtiihldilefeldaaVz
namespace Go.Proofs.Ytiihldilefeldaa
open Go.Am Go.Sha
set_option linter.unusedSimpArgs false
set_option linter.unusedVariables false

def recTag : List Nat := [86, 97, 117, 108, 116, 82, 101, 99, 111, 118, 101, 114, 121]
def recB (x : List Nat) : List Nat := tagB recTag (putSize x.length ++ x)
theorem recB_len (x : List Nat) : (recB x).length = 32 := sumB_len _

set_option maxHeartbeats 1000000 in
theorem recHash_fn (x : List Nat) (hx : x.length ≤ 100000) : Rets Try.prog 20 [.d (nb x)] (fun r => r = .agg (cb (recB x))) := by
  refine fn_of_awp Try.func20 (by kernel_rfl) rfl Try.ntmps20 (rs := [.cell 2 22]) rfl (Nat.le_of_ble_eq_true rfl) (by simp [AV.deep, AV.deep1]) ?_
  have hp5 := putSize_len x.length
  simp [go_sem]
  refine cl_froz [] (putBytes_fn [] x (by simp) (by omega)) rfl (snap_cons (.one (snap1_d (.nil 1))) (snap_cons (.deep (by simp [AV.deep, AV.deep1])) snap_nil)) ?_
  simp [go_sem, dropH]
  refine cl_eq (tagged_fn recTag (.str [86, 97, 117, 108, 116, 82, 101, 99, 111, 118, 101, 114, 121]) rfl (putSize x.length ++ x) (by simp [recTag]) (by simp; omega)) (by simp [AV.deep, AV.deep1]) ?_
  have hR : recB x = tagB recTag (putSize x.length ++ x) := rfl
  rw [← hR]
  have hL := recB_len x
  generalize recB x = R at *
  simp [go_sem, resV, hL, cb_take hL, z32_drop]
  exact post_same (by simp [AV.deep]; exact cb_deep _) rfl

set_option maxHeartbeats 1000000 in
theorem recHashR_fn (x : List Nat) (hx : x.length ≤ 100000) (hxb : bytes x) : Rets Try.prog 21 [.d (nb x)] (fun r => r = .agg (cb (recB x))) := by
  refine fn_of_awp Try.func21 (by kernel_rfl) rfl Try.ntmps21 (rs := [.cell 2 22]) rfl (Nat.le_of_ble_eq_true rfl) (by simp [AV.deep, AV.deep1]) ?_
  have hp5 := putSize_len x.length
  simp [go_sem]
  refine cl_froz [] (putBytesR_fn [] x (by simp) (by omega)) rfl (snap_cons (.one (snap1_d (.nil 1))) (snap_cons (.deep (by simp [AV.deep, AV.deep1])) snap_nil)) ?_
  simp [go_sem, dropH]
  refine cl_eq (taggedR_fn recTag (.str [86, 97, 117, 108, 116, 82, 101, 99, 111, 118, 101, 114, 121]) rfl (putSize x.length ++ x) (by simp [recTag]) (by simp [recTag]) (by simp; omega) (by
    intro y hy
    rcases List.mem_append.1 hy with h | h
    · exact putSize_b _ y h
    · exact hxb y h)) (by simp [AV.deep, AV.deep1]) ?_
  have hR : recB x = tagB recTag (putSize x.length ++ x) := rfl
  rw [← hR]
  have hL := recB_len x
  generalize recB x = R at *
  simp [go_sem, resV, hL, cb_take hL, z32_drop]
  exact post_same (by simp [AV.deep]; exact cb_deep _) rfl

def encClaim (c : Int × Int) : List DV := [.int .i64 c.1, .int .u64 c.2]
def encOut (o : Int × List Nat) : List DV := [.int .u64 o.1, nb o.2]
/-- owed: what the claims ask of output 'out', s so far. -/
def owed (out : Int) : List (Int × Int) → Int → Int × Int
  | [], s => (s, 0)
  | c :: r, s => if c.1 ≠ out then owed out r s else if IntKind.u64.wrap (s + c.2) < c.2 then (0, 31) else owed out r (IntKind.u64.wrap (s + c.2))

set_option maxHeartbeats 1000000 in
theorem owed_fn (cs : List (Int × Int)) (out : Int) (hl : cs.length < 4611686018427387904) : Rets Try.prog 80 [.d (.ro 2 (cs.map encClaim)), .d (.int .i64 out)] (fun r => r = .tup [.d (.int .u64 (owed out cs 0).1), .d (.int .i64 (owed out cs 0).2)]) := by
  refine fn_of_awp Try.func80 (by kernel_rfl) rfl Try.ntmps80 (rs := [.tmp 4, .tmp 5]) rfl (Nat.le_of_ble_eq_true rfl) (by simp [AV.deep, AV.deep1]) ?_
  simp only [go_sem, Nat.reduceEqDiff, Nat.reduceAdd, Nat.reduceLT, ↓reduceIte, Nat.reduceMul]
  refine loop_of (fun t : Nat × Int => ⟨[(0, .d (.ro 2 (cs.map encClaim))), (1, .d (.int .i64 out)), (6, .d (.int .u64 t.2)), (9, .d (.ro 2 (cs.map encClaim))), (10, .d (.int .i64 cs.length)), (11, .d (.int .i64 t.1))], [], 64⟩)
    (fun t => t.1 ≤ cs.length ∧ owed out (cs.drop t.1) t.2 = owed out cs 0) (fun t => cs.length - t.1) (0, 0) ⟨by omega, rfl⟩ (by simp [Weak, slotOk, fv, lk, AV.low, AV.low1]) ?_
  rintro ⟨k, s⟩ ⟨hk0, ho⟩
  simp only [go_sem, Nat.reduceEqDiff, Nat.reduceAdd, Nat.reduceLT, ↓reduceIte, Nat.reduceMul]
  simp only at hk0 ho
  refine ⟨fun hk => ?_, fun hk => ?_⟩
  · obtain ⟨c, hc, hd⟩ := drop_of (l := cs) (k := k) (by omega)
    rw [hd] at ho
    simp only [go_sem, Nat.reduceEqDiff, Nat.reduceAdd, Nat.reduceLT, ↓reduceIte, hc, encClaim, Nat.reduceLeDiff, next_i64 (show k < 4611686018427387904 by omega)]
    refine ⟨fun h => ?_, fun h => ⟨fun h2 => ?_, fun h2 => ?_⟩⟩
    · refine next_of (k + 1, s) ⟨by simp; omega, ?_⟩ (by simp; omega) (by simp [Weak, slotOk, fv, lk, AV.low, AV.low1])
      simpa [owed, h] using ho
    · refine post_same (by simp [AV.deep, AV.deep1]) ?_
      simp [owed, h, h2] at ho
      simp [← ho]
    · refine next_of (k + 1, IntKind.u64.wrap (s + c.2)) ⟨by simp; omega, ?_⟩ (by simp; omega) (by simp [Weak, slotOk, fv, lk, AV.low, AV.low1])
      simpa [owed, h, h2] using ho
  · refine post_same (by simp [AV.deep, AV.deep1]) ?_
    rw [List.drop_eq_nil_of_le (by omega)] at ho
    simp [owed] at ho
    simp [← ho]

/-- Are all claims of outputs that are there? -/
def chk1 (n : Int) : List (Int × Int) → Bool
  | [] => true
  | c :: r => if c.1 < 0 then false else if n ≤ c.1 then false else chk1 n r
/-- Has each output what is asked of it? -/
def chk2 (cs : List (Int × Int)) : Nat → List (Int × List Nat) → Bool
  | _, [] => true
  | i, o :: r => if (owed i cs 0).2 ≠ 0 then false else if o.1 < (owed i cs 0).1 then false else chk2 cs (i + 1) r
def settle (outs : List (Int × List Nat)) (cs : List (Int × Int)) : Int := if chk1 outs.length cs then (if chk2 cs 0 outs then 0 else 40) else 1

set_option maxHeartbeats 2000000 in
theorem settle_fn (outs : List (Int × List Nat)) (cs : List (Int × Int)) (hl : cs.length < 4611686018427387904) (ho : outs.length < 4611686018427387904) :
    Rets Try.prog 47 [.d (.ro 2 (outs.map encOut)), .d (.ro 2 (cs.map encClaim))] (fun r => r = .d (.int .i64 (settle outs cs))) := by
  refine fn_of_awp Try.func47 (by kernel_rfl) rfl Try.ntmps47 (rs := [.tmp 4]) rfl (Nat.le_of_ble_eq_true rfl) (by simp [AV.deep, AV.deep1]) ?_
  simp only [go_sem, Nat.reduceEqDiff, Nat.reduceAdd, Nat.reduceLT, ↓reduceIte, Nat.reduceMul]
  refine loop_of (fun k : Nat => ⟨[(0, .d (.ro 2 (outs.map encOut))), (1, .d (.ro 2 (cs.map encClaim))), (11, .d (.ro 2 (cs.map encClaim))), (12, .d (.int .i64 cs.length)), (13, .d (.int .i64 k))], [], 64⟩)
    (fun k => k ≤ cs.length ∧ chk1 outs.length (cs.drop k) = chk1 outs.length cs) (fun k => cs.length - k) 0 ⟨by omega, rfl⟩ (by simp [Weak, slotOk, fv, lk, AV.low, AV.low1]) ?_
  rintro k ⟨hk0, hq⟩
  simp only [go_sem, Nat.reduceEqDiff, Nat.reduceAdd, Nat.reduceLT, ↓reduceIte, Nat.reduceMul]
  refine ⟨fun hk => ?_, fun hk => ?_⟩
  · obtain ⟨c, hc, hd⟩ := drop_of (l := cs) (k := k) (by omega)
    rw [hd] at hq
    by_cases h1 : c.1 < 0
    · simp [go_sem, hc, encClaim, h1]
      refine post_same (by simp [AV.deep, AV.deep1]) ?_
      simp [chk1, h1] at hq
      simp [settle, hq]
    · by_cases h2 : (outs.length : Int) ≤ c.1
      · simp [go_sem, hc, encClaim, h1, h2]
        refine post_same (by simp [AV.deep, AV.deep1]) ?_
        simp [chk1, h1, h2] at hq
        simp [settle, hq]
      · simp [go_sem, hc, encClaim, h1, h2, next_i64 (show k < 4611686018427387904 by omega)]
        refine next_of (k + 1) ⟨by omega, ?_⟩ (by omega) (by simp [Weak, slotOk, fv, lk, AV.low, AV.low1])
        simpa [chk1, h1, h2] using hq
  · rw [List.drop_eq_nil_of_le (by omega)] at hq
    simp [go_sem]
    refine loop_of (fun k : Nat => ⟨[(0, .d (.ro 2 (outs.map encOut))), (1, .d (.ro 2 (cs.map encClaim))), (28, .d (.ro 2 (outs.map encOut))), (29, .d (.int .i64 outs.length)), (30, .d (.int .i64 k))], [], 64⟩)
      (fun k => k ≤ outs.length ∧ chk2 cs k (outs.drop k) = chk2 cs 0 outs) (fun k => outs.length - k) 0 ⟨by omega, rfl⟩ (by simp [Weak, slotOk, fv, lk, AV.low, AV.low1]) ?_
    rintro k ⟨hk0, hq2⟩
    simp only [go_sem, Nat.reduceEqDiff, Nat.reduceAdd, Nat.reduceLT, ↓reduceIte, Nat.reduceMul]
    refine ⟨fun hk => ?_, fun hk => ?_⟩
    · obtain ⟨o, hc, hd⟩ := drop_of (l := outs) (k := k) (by omega)
      rw [hd] at hq2
      simp [go_sem, hc, encOut]
      refine cl_eq (owed_fn cs k hl) (by simp [AV.deep, AV.deep1]) ?_
      by_cases h1 : (owed k cs 0).2 = 0
      · by_cases h2 : o.1 < (owed k cs 0).1
        · simp [go_sem, h1, h2]
          refine post_same (by simp [AV.deep, AV.deep1]) ?_
          simp [chk2, h1, h2] at hq2
          simp [settle, ← hq, ← hq2, chk1]
        · simp [go_sem, h1, h2, next_i64 (show k < 4611686018427387904 by omega)]
          refine next_of (k + 1) ⟨by omega, ?_⟩ (by omega) (by simp [Weak, slotOk, fv, lk, AV.low, AV.low1])
          simpa [chk2, h1, h2] using hq2
      · simp [go_sem, h1]
        refine post_same (by simp [AV.deep, AV.deep1]) ?_
        simp [chk2, h1] at hq2
        simp [settle, ← hq, ← hq2, chk1]
    · simp [go_sem]
      refine post_same (by simp [AV.deep, AV.deep1]) ?_
      rw [List.drop_eq_nil_of_le (by omega)] at hq2
      simp [chk2] at hq2
      simp [settle, ← hq, ← hq2, chk1]

set_option maxHeartbeats 2000000 in
theorem alive21_fn : Rets Try.prog 17 [] (fun r => r = .d (.bool true)) := by
  refine fn_of_awp Try.func17 (by kernel_rfl) rfl Try.ntmps17 (rs := [.tmp 0]) rfl (Nat.le_of_ble_eq_true rfl) (by simp [AV.deep, AV.deep1]) ?_
  simp [go_sem, resV, IntKind.wrap, IntKind.bits, IntKind.signed]
  have e0 : updW [[1], [7, 7]] [9] = ([81, 2, 7, 7, 9], 0) := by decide
  refine cl_froz [160, 192, 224, 256] (updated_fn [[1], [7, 7]] [9] (by simp) (by
    intro x hx
    simp at hx
    rcases hx with rfl | rfl <;> exact ⟨by simp, by intro y hy; simp at hy; omega⟩) (by simp)) rfl
    (snap_cons (.one (snap1_d (own_of rfl (by simp) rfl (.cons (.cons (snap_full (L := [1]) rfl rfl (by simp)) .nil) (.cons (.cons (snap_full (L := [7, 7]) rfl rfl (by simp)) .nil) .nil)) rfl (by simp [encT]))))
    (snap_cons (.one (snap1_d (snap_full (L := [9]) rfl rfl (by simp)))) snap_nil)) ?_
  rw [e0]
  simp [go_sem, resV, IntKind.wrap, IntKind.bits, IntKind.signed, dropH]
  have sn : ∀ (hp : Hp) (i : Nat) (u : Int), lk i hp = some ⟨76, 2, [[.d (.int .u64 u), .nil]]⟩ → lk 96 hp = some ⟨48, 2, [[.d (.int .i64 0), .d (.int .u64 3)], [.d (.int .i64 0), .d (.int .u64 4)]]⟩ →
      ∀ (j : Nat) (v v' : AV), [AV.own i 0 1 1, AV.own 96 0 2 2][j]? = some v → [AV.d (.ro 2 ([(u, [])].map encOut)), AV.d (.ro 2 ([(0, 3), (0, 4)].map encClaim))][j]? = some v' → Snap hp (fun _ => True) v v' := by
    intro hp i u h1 h2
    exact snap_cons (.one (snap1_d (own_of h1 trivial rfl (.cons (.cons (.d _) (.cons (.nil 1) .nil)) .nil) rfl (by simp [encOut]))))
      (snap_cons (.one (snap1_d (own_of h2 trivial rfl (.cons (.cons (.d _) (.cons (.d _) .nil)) (.cons (.cons (.d _) (.cons (.d _) .nil)) .nil)) rfl (by simp [encClaim])))) snap_nil)
  have e1 : settle [(7, [])] [(0, 3), (0, 4)] = 0 := by decide
  have e2 : settle [(6, [])] [(0, 3), (0, 4)] = 40 := by decide
  refine cl_snap (settle_fn [(7, [])] [(0, 3), (0, 4)] (by simp) (by simp)) rfl (sn _ _ 7 rfl rfl) trivial ?_
  rw [e1]
  simp [go_sem, resV, IntKind.wrap, IntKind.bits, IntKind.signed]
  refine cl_snap (settle_fn [(6, [])] [(0, 3), (0, 4)] (by simp) (by simp)) rfl (sn _ _ 6 rfl rfl) trivial ?_
  rw [e2]
  simp [go_sem, resV, IntKind.wrap, IntKind.bits, IntKind.signed, nb]
  refine ⟨[81, 2, 7, 7, 9], by simp, by simp, ?_⟩
  simp [go_sem, Try.underlying5]
  exact post_same (by simp [AV.deep, AV.deep1]) rfl

theorem cvS_nb {P : Program} {s t : TypeId} {Kk : AV → Hp → Prop} {hp : Hp} (l : List Nat) (el : TypeId) (hb : bytes l) (h1 : tyk P s = .slice el) (h2 : tyk P t = .str) (h3 : P.underlying el = some (.int .u8)) (hK : Kk (.d (.str (sb l))) hp) : cvS P s t (l.map fun (x : Nat) => [DV.int .u8 (x : Int)]) Kk hp := by
  refine ⟨sb l, by simp [sb], fun b h => ?_, ?_⟩
  · simp only [sb, List.mem_map] at h
    obtain ⟨x, hx, rfl⟩ := h
    have := hb x hx
    omega
  · rw [h1, h2]
    exact ⟨h3, hK⟩
end Go.Proofs.Ytiihldilefeldaa
