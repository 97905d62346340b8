/-
  SHA-256 in the program: what its functions reckon.
-/
import Derived.Test.YtiihldilefeldaaTyA
import Derived.Test.YtiihldilefeldaaSha
import Derived.Test.YtiihldilefeldaaAmLaw
namespace Go.Proofs.Ytiihldilefeldaa
open Go.Am Go.Sha
set_option linter.unusedSimpArgs false
set_option linter.unusedVariables false

def z64 : List Nat := List.replicate 64 0
theorem z64_len : z64.length = 64 := rfl
@[go_sem] theorem z64w : tzO Try.prog 153 = some (cw z64) := by kernel_rfl
attribute [go_sem] z64_len cw_len
/-- Bytes as cells. -/
def cb (l : List Nat) : List AV := l.map fun (x : Nat) => AV.d (.int .u8 (x : Int))
theorem cb_len (l : List Nat) : (cb l).length = l.length := by simp [cb]
theorem cb_get (l : List Nat) (i : Nat) : (cb l)[i]? = (l[i]?).map fun (x : Nat) => AV.d (.int .u8 (x : Int)) := by simp [cb]
theorem cb_set (l : List Nat) (i x : Nat) : (cb l).set i (.d (.int .u8 (x : Int))) = cb (l.set i x) := by simp [cb, List.map_set]
theorem cb_low (n : Nat) (l : List Nat) : ∀ v, v ∈ cb l → v.low1 n := by
  intro c hc
  simp only [cb, List.mem_map] at hc
  obtain ⟨x, _, rfl⟩ := hc
  trivial
theorem cb_deep (l : List Nat) : ∀ c, c ∈ cb l → c.deep1 := by
  intro c hc
  simp only [cb, List.mem_map] at hc
  obtain ⟨x, _, rfl⟩ := hc
  trivial
def z32 : List Nat := List.replicate 32 0
theorem z32_len : z32.length = 32 := rfl
@[go_sem] theorem zz32 : tzO Try.prog 22 = some (cb z32) := by kernel_rfl
attribute [go_sem] z32_len cb_len
theorem p_hash : isPtr Try.prog 104 = true := by kernel_rfl
attribute [go_sem] p_hash

theorem rot_fn (x s : Nat) (k : Int) (hs : bits .and .u64 (IntKind.u64.wrap k) 31 = (s : Int)) (h1 : s ≤ 31) :
    Rets Try.prog 127 [.d (.int .u32 (x : Int)), .d (.int .i64 k)] (fun r => r = .d (.int .u32 ((rol s x : Nat) : Int))) := by
  refine fn_of_awp Try.func127 (by kernel_rfl) rfl Try.ntmps127 (rs := [.tmp 4]) rfl (Nat.le_of_ble_eq_true rfl) (by simp [AV.deep, AV.deep1]) ?_
  have e1 : IntKind.u64.wrap (32 - (s : Int)) = ((32 - s : Nat) : Int) := by rw [u64w]; omega
  have e2 : min s 32 = s := by omega
  have e3 : min (32 - s) 32 = 32 - s := by omega
  simp [go_sem, hs, e1, e2, e3, IntKind.bits, resV]
  refine post_same (by simp [AV.deep, AV.deep1]) ?_
  rw [w_shl, d_r, w_or]
  rfl

theorem firsts_fn : Rets Try.prog 96 [] (fun r => r = .agg (cw H0.l)) := by
  refine fn_of_awp Try.func96 (by kernel_rfl) rfl Try.ntmps96 (rs := [.cell 0 125]) rfl (Nat.le_of_ble_eq_true rfl) (by simp [AV.deep, AV.deep1]) ?_
  simp [go_sem, resV, fillA]
  exact post_same (by simp [AV.deep, AV.deep1]) rfl

theorem fillO_of {cs : List AV} {o : Option (List AV)} {Kk : AV → Hp → Prop} {hp : Hp} (h : o = some cs) (hK : Kk (.agg cs) hp) : fillO o Kk hp := by rw [h]; exact hK
theorem cw_deep (l : List Nat) : ∀ c, c ∈ cw l → c.deep1 := by
  intro c hc
  simp only [cw, List.mem_map] at hc
  obtain ⟨x, _, rfl⟩ := hc
  trivial

set_option maxRecDepth 100000 in
theorem steps_fn : Rets Try.prog 126 [] (fun r => r = .agg (cw K)) := by
  refine fn_of_awp Try.func126 (by kernel_rfl) rfl Try.ntmps126 (rs := [.cell 0 153]) rfl (Nat.le_of_ble_eq_true rfl) (by simp [AV.deep, AV.deep1]) ?_
  have zz : tzO Try.prog 153 = some (List.replicate 64 (.d (.int .u32 0))) := by kernel_rfl
  simp [go_sem, resV, zz]
  exact post_same (by simp [AV.deep, AV.deep1]) rfl
end Go.Proofs.Ytiihldilefeldaa
