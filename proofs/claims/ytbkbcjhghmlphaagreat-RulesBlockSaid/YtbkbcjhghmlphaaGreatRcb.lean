/-
  Fees of coins, and whether inputs wait: by the program and by the other text.
-/
import Derived.Test.YtbkbcjhghmlphaaGreatRca
namespace Go.Proofs.YtbkbcjhghmlphaaGreat
open Go.Am Go.Sha
set_option linter.unusedSimpArgs false
set_option linter.unusedVariables false

def eC (c : Co) : List DV := cd c.hash ++ [.int .u32 (c.idx : Int), .int .u64 (c.amt : Int), nb c.scr, .int .u32 (c.height : Int), .bool c.first]
def cC (c : Co) : List AV := cb c.hash ++ [.d (.int .u32 (c.idx : Int)), .d (.int .u64 (c.amt : Int)), .d (nb c.scr), .d (.int .u32 (c.height : Int)), .d (.bool c.first)]
theorem eC_cC (c : Co) : (eC c).map AV.d = cC c := by simp [eC, cC, cd_map]
theorem eC_len {c : Co} (h : c.hash.length = 32) : (eC c).length = 37 := by simp [eC, cd_len, h]
theorem cC_len {c : Co} (h : c.hash.length = 32) : (cC c).length = 37 := by simp [cC, cb_len, h]
theorem eC33 {c : Co} (h : c.hash.length = 32) : (eC c).drop 33 = [.int .u64 (c.amt : Int), nb c.scr, .int .u32 (c.height : Int), .bool c.first] := by
  unfold eC
  rw [List.drop_append, List.drop_eq_nil_of_le (by rw [cd_len]; omega), cd_len, h]; rfl
theorem eC35 {c : Co} (h : c.hash.length = 32) : (eC c).drop 35 = [.int .u32 (c.height : Int), .bool c.first] := by
  unfold eC
  rw [List.drop_append, List.drop_eq_nil_of_le (by rw [cd_len]; omega), cd_len, h]; rfl
theorem eC36 {c : Co} (h : c.hash.length = 32) : (eC c).drop 36 = [.bool c.first] := by
  unfold eC
  rw [List.drop_append, List.drop_eq_nil_of_le (by rw [cd_len]; omega), cd_len, h]; rfl
theorem cC33 {c : Co} (h : c.hash.length = 32) : (cC c).drop 33 = [.d (.int .u64 (c.amt : Int)), .d (nb c.scr), .d (.int .u32 (c.height : Int)), .d (.bool c.first)] := by
  unfold cC
  rw [List.drop_append, List.drop_eq_nil_of_le (by rw [cb_len]; omega), cb_len, h]; rfl
theorem cC35 {c : Co} (h : c.hash.length = 32) : (cC c).drop 35 = [.d (.int .u32 (c.height : Int)), .d (.bool c.first)] := by
  unfold cC
  rw [List.drop_append, List.drop_eq_nil_of_le (by rw [cb_len]; omega), cb_len, h]; rfl
theorem cC35g {c : Co} (h : c.hash.length = 32) (hl : 35 < (cC c).length) : (cC c)[35] = .d (.int .u32 (c.height : Int)) := by
  have : (cC c)[35]? = some (.d (.int .u32 (c.height : Int))) := by rw [cC, List.getElem?_append_right (by rw [cb_len]; omega), cb_len, h]; rfl
  rw [List.getElem?_eq_getElem hl] at this
  exact Option.some.inj this
theorem cC36g {c : Co} (h : c.hash.length = 32) (hl : 36 < (cC c).length) : (cC c)[36] = .d (.bool c.first) := by
  have : (cC c)[36]? = some (.d (.bool c.first)) := by rw [cC, List.getElem?_append_right (by rw [cb_len]; omega), cb_len, h]; rfl
  rw [List.getElem?_eq_getElem hl] at this
  exact Option.some.inj this
theorem cC_take {c : Co} (h : c.hash.length = 32) : (cC c).take 37 = cC c := List.take_of_length_le (by rw [cC_len h]; omega)
theorem cC_deep (c : Co) : (AV.agg (cC c)).deep := by
  intro v hv
  simp only [cC, List.mem_append, List.mem_cons, List.mem_nil_iff, or_false] at hv
  rcases hv with hv | rfl | rfl | rfl | rfl | rfl
  · exact cb_deep _ _ hv
  all_goals trivial
theorem zcoin_drop : List.drop 37 (cb z32 ++ [AV.d (.int .u32 0), AV.d (.int .u64 0), AV.nil, AV.d (.int .u32 0), AV.d (.bool false)]) = [] := rfl

def paysOf (cs : List Co) : List (Nat × List Nat) := cs.map payOf
theorem paysOf_get {cs : List Co} {k : Nat} {c : Co} (h : cs[k]? = some c) : (paysOf cs).take k ++ [payOf c] = (paysOf cs).take (k + 1) := take_snoc (by simp [paysOf, h])
def payR (os : List (Nat × List Nat)) : List (List AV) := os.map fun o => (eO o).map AV.d
theorem payR_len (os : List (Nat × List Nat)) : (payR os).length = os.length := by simp [payR]
theorem payR_snoc (os : List (Nat × List Nat)) (o : Nat × List Nat) : payR os ++ [[AV.d (.int .u64 (o.1 : Int)), AV.d (nb o.2)]] = payR (os ++ [o]) := by simp [payR, eO]
theorem snap_pay {hp : Hp} {I : Nat → Prop} {id n : Nat} {os : List (Nat × List Nat)} (hl : os.length = n) (hb : lk id hp = some ⟨52, 2, payR os⟩) (hI : I id) : SnapD hp I (.own id 0 n n) (.ro 2 (os.map eO)) :=
  snap_row (ty := 52) (e := 2) (es := os.map eO) (by rw [hb, List.map_map]; rfl) hI (by simp [hl]) (fun r hr => by
    rw [List.mem_map] at hr
    obtain ⟨w, _, rfl⟩ := hr
    rfl)
theorem pay_low (n : Nat) (os : List (Nat × List Nat)) : ∀ r, r ∈ payR os → ∀ v, v ∈ r → v.low1 n := by
  intro r hr v hv
  unfold payR at hr
  rw [List.mem_map] at hr
  obtain ⟨o, _, rfl⟩ := hr
  simp [eO] at hv
  rcases hv with rfl | rfl <;> trivial

end Go.Proofs.YtbkbcjhghmlphaaGreat
