/-
  Whether an entry may be withdrawn, by both texts.
-/
import Derived.Test.YtpnbpojpcbnejaaGreatVna
namespace Go.Proofs.YtpnbpojpcbnejaaGreat
open Go.Am Go.Sha
set_option linter.unusedSimpArgs false
set_option linter.unusedVariables false

/-- An entry's cells, a plan's cells. -/
def enC (tx : List Nat) (ix v pl st ht : Int) (tpl : List Nat) : List AV := cb tx ++ ([.d (.int .u32 ix), .d (.int .u64 v), .d (.int .i64 pl), .d (.int .i64 st), .d (.int .u32 ht)] ++ cb tpl)
def plC (inner rec : List Nat) (d : Int) (trig : List Nat) : List AV := cb inner ++ ([.d (nb rec), .d (.int .i64 d)] ++ cb trig)
theorem plC_len {inner trig : List Nat} (hi : inner.length = 32) (ht : trig.length = 32) (rec : List Nat) (d : Int) : (plC inner rec d trig).length = 66 := by simp [plC, cb_len, hi, ht]
theorem plC_take {inner trig : List Nat} (hi : inner.length = 32) (ht : trig.length = 32) (rec : List Nat) (d : Int) : List.take 66 (plC inner rec d trig) = plC inner rec d trig := List.take_of_length_le (by rw [plC_len hi ht]; exact Nat.le_refl _)
theorem plC_33 {inner : List Nat} (hi : inner.length = 32) (rec : List Nat) (d : Int) (trig : List Nat) : (plC inner rec d trig)[33]? = some (.d (.int .i64 d)) := by
  unfold plC; rw [List.getElem?_append_right (by rw [cb_len]; omega), cb_len, hi]; rfl
theorem plC_33g {inner : List Nat} (hi : inner.length = 32) (rec : List Nat) (d : Int) (trig : List Nat) (hl : 33 < (plC inner rec d trig).length) : (plC inner rec d trig)[33] = .d (.int .i64 d) := by
  have := plC_33 hi rec d trig
  rw [List.getElem?_eq_getElem hl] at this
  exact Option.some.inj this
theorem plC_deep (inner rec : List Nat) (d : Int) (trig : List Nat) : (AV.agg (plC inner rec d trig)).deep := by
  intro c hc
  unfold plC at hc
  rcases List.mem_append.1 hc with h | h
  · exact cb_deep _ _ h
  · rcases List.mem_append.1 h with h | h
    · simp at h; rcases h with rfl | rfl <;> trivial
    · exact cb_deep _ _ h
section
variable {tx tpl : List Nat} (h1 : tx.length = 32) (h2 : tpl.length = 32) (ix v pl st ht : Int)
include h1 h2
theorem enC_len : (enC tx ix v pl st ht tpl).length = 69 := by simp [enC, cb_len, h1, h2]
theorem enC_take : List.take 69 (enC tx ix v pl st ht tpl) = enC tx ix v pl st ht tpl := List.take_of_length_le (by rw [enC_len h1 h2]; exact Nat.le_refl _)
omit h2
theorem enC_33 : List.take 33 (enC tx ix v pl st ht tpl) = cb tx ++ [.d (.int .u32 ix)] := by
  unfold enC
  rw [List.take_append, cb_len, h1, List.take_of_length_le (by rw [cb_len, h1]; omega)]; rfl
theorem enC_at (k : Nat) : (enC tx ix v pl st ht tpl)[32 + k]? = ([AV.d (.int .u32 ix), .d (.int .u64 v), .d (.int .i64 pl), .d (.int .i64 st), .d (.int .u32 ht)] ++ cb tpl)[k]? := by
  unfold enC; rw [List.getElem?_append_right (by rw [cb_len]; omega), cb_len, h1, show 32 + k - 32 = k by omega]
theorem enC_e33 : (enC tx ix v pl st ht tpl)[33]? = some (.d (.int .u64 v)) := enC_at h1 ix v pl st ht 1
theorem enC_e34 : (enC tx ix v pl st ht tpl)[34]? = some (.d (.int .i64 pl)) := enC_at h1 ix v pl st ht 2
theorem enC_e35 : (enC tx ix v pl st ht tpl)[35]? = some (.d (.int .i64 st)) := enC_at h1 ix v pl st ht 3
theorem enC_e36 : (enC tx ix v pl st ht tpl)[36]? = some (.d (.int .u32 ht)) := enC_at h1 ix v pl st ht 4
theorem enC_37 : List.drop 37 (enC tx ix v pl st ht tpl) = cb tpl := by
  unfold enC
  rw [List.drop_append, cb_len, h1, List.drop_eq_nil_of_le (by rw [cb_len, h1]; omega)]; rfl
end
theorem get_at {l : List AV} {n : Nat} {v : AV} (h : l[n]? = some v) (hl : n < l.length) : l[n] = v := by
  rw [List.getElem?_eq_getElem hl] at h
  exact Option.some.inj h
theorem enC_deep (tx : List Nat) (ix v pl st ht : Int) (tpl : List Nat) : (AV.agg (enC tx ix v pl st ht tpl)).deep := by
  intro c hc
  unfold enC at hc
  rcases List.mem_append.1 hc with h | h
  · exact cb_deep _ _ h
  · rcases List.mem_append.1 h with h | h
    · simp at h; rcases h with rfl | rfl | rfl | rfl | rfl <;> trivial
    · exact cb_deep _ _ h
theorem rdy_deep (tx : List Nat) (ix v pl st ht : Int) (tpl inner rec : List Nat) (d : Int) (trig : List Nat) (h : Int) : ∀ x, x ∈ [AV.agg (enC tx ix v pl st ht tpl), .agg (plC inner rec d trig), .d (.int .u32 h)] → x.deep := by
  intro x hx
  simp only [List.mem_cons, List.mem_nil_iff, or_false] at hx
  rcases hx with rfl | rfl | rfl
  · exact enC_deep _ _ _ _ _ _ _
  · exact plC_deep _ _ _ _
  · trivial
def rdyB (st ht d h : Int) : Bool := decide (st = 2 ∧ 0 ≤ d ∧ d ≤ h - ht)
theorem rdy_fn {tx tpl inner trig : List Nat} (rec : List Nat) (ix v pl st ht d h : Int) (h1 : tx.length = 32) (h2 : tpl.length = 32) (h3 : inner.length = 32) (h4 : trig.length = 32)
    (q1 : 0 ≤ ht ∧ ht < 4294967296) (q2 : 0 ≤ h ∧ h < 4294967296) :
    Rets Tryz.prog 9 [.agg (enC tx ix v pl st ht tpl), .agg (plC inner rec d trig), .d (.int .u32 h)] (fun r => r = .d (.bool (rdyB st ht d h))) := by
  refine fn_of_awp Tryz.func9 (by kernel_rfl) rfl Tryz.ntmps9 (rs := [.tmp 6]) rfl (Nat.le_of_ble_eq_true rfl) (rdy_deep _ _ _ _ _ _ _ _ _ _ _ _) ?_
  have w1 : IntKind.i64.wrap h = h := IntWalk.i64_in _ (by omega)
  have w2 : IntKind.i64.wrap ht = ht := IntWalk.i64_in _ (by omega)
  have w3 : IntKind.i64.wrap (h - ht) = h - ht := IntWalk.i64_in _ (by omega)
  have el := enC_len h1 h2 ix v pl st ht
  have e35 := enC_e35 (tpl := tpl) h1 ix v pl st ht
  have e36 := enC_e36 (tpl := tpl) h1 ix v pl st ht
  have g35 := get_at e35
  have g36 := get_at e36
  have pl' := plC_len h3 h4 rec d
  have p33 := plC_33 h3 rec d trig
  have g33 := plC_33g h3 rec d trig
  generalize enC tx ix v pl st ht tpl = L at *
  generalize plC inner rec d trig = M at *
  by_cases c1 : st = 2 <;> by_cases c2 : 0 ≤ d <;>
  · simp [go_sem, el, e35, e36, g35, g36, pl', p33, g33, w1, w2, w3, c1, c2, resV]
    exact post_same (by simp [AV.deep, AV.deep1]) (by simp [rdyB, c1, c2])
theorem rdyR_fn {tx tpl inner trig : List Nat} (rec : List Nat) (ix v pl st ht d h : Int) (h1 : tx.length = 32) (h2 : tpl.length = 32) (h3 : inner.length = 32) (h4 : trig.length = 32)
    (q1 : 0 ≤ ht ∧ ht < 4294967296) (q2 : 0 ≤ h ∧ h < 4294967296) :
    Rets Tryz.prog 10 [.agg (enC tx ix v pl st ht tpl), .agg (plC inner rec d trig), .d (.int .u32 h)] (fun r => r = .d (.bool (rdyB st ht d h))) := by
  refine fn_of_awp Tryz.func10 (by kernel_rfl) rfl Tryz.ntmps10 (rs := [.tmp 6]) rfl (Nat.le_of_ble_eq_true rfl) (rdy_deep _ _ _ _ _ _ _ _ _ _ _ _) ?_
  have w1 : IntKind.i64.wrap h = h := IntWalk.i64_in _ (by omega)
  have w2 : IntKind.i64.wrap ht = ht := IntWalk.i64_in _ (by omega)
  have el := enC_len h1 h2 ix v pl st ht
  have e35 := enC_e35 (tpl := tpl) h1 ix v pl st ht
  have e36 := enC_e36 (tpl := tpl) h1 ix v pl st ht
  have g35 := get_at e35
  have g36 := get_at e36
  have pl' := plC_len h3 h4 rec d
  have p33 := plC_33 h3 rec d trig
  have g33 := plC_33g h3 rec d trig
  generalize enC tx ix v pl st ht tpl = L at *
  generalize plC inner rec d trig = M at *
  by_cases c1 : st = 2
  · by_cases c2 : 0 ≤ d
    · by_cases c3 : d ≤ h
      · have w3 : IntKind.i64.wrap (h - d) = h - d := IntWalk.i64_in _ (by omega)
        simp [go_sem, el, e35, e36, g35, g36, pl', p33, g33, w1, w2, w3, c1, c2, c3, resV]
        exact post_same (by simp [AV.deep, AV.deep1]) (by simp [rdyB, c1, c2]; omega)
      · simp [go_sem, el, e35, e36, g35, g36, pl', p33, g33, w1, w2, c1, c2, c3, resV]
        exact post_same (by simp [AV.deep, AV.deep1]) (by simp [rdyB, c1, c2]; omega)
    · simp [go_sem, el, e35, e36, g35, g36, pl', p33, g33, w1, w2, c1, c2, resV]
      exact post_same (by simp [AV.deep, AV.deep1]) (by simp [rdyB, c1, c2])
  · simp [go_sem, el, e35, e36, g35, g36, pl', p33, g33, w1, w2, c1, resV]
    exact post_same (by simp [AV.deep, AV.deep1]) (by simp [rdyB, c1])
end Go.Proofs.YtpnbpojpcbnejaaGreat
