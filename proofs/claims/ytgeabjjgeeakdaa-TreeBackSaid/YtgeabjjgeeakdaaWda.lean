/-
  Numbers of 256 bits, only as far as that what is reckoned is a function of what it is reckoned of: sums, differences, products.
-/
import Derived.Test.YtgeabjjgeeakdaaHwa
import Derived.Laws.Externs
namespace Go.Sha
/-- A word of 64 bits. -/
def R64 (x : Int) : Prop := 0 ≤ x ∧ x < 18446744073709551616
/-- Words. -/
def Wn (n : Nat) (l : List Int) : Prop := l.length = n ∧ ∀ x, x ∈ l → R64 x
/-- What stands after so many rounds. -/
def itr {σ : Type} (f : Nat → σ → σ) (s : σ) : Nat → σ
  | 0 => s
  | k + 1 => f k (itr f s k)
theorem itr_inv {σ : Type} {f : Nat → σ → σ} {s : σ} {P : Nat → σ → Prop} (h0 : P 0 s) (hs : ∀ k s, P k s → P (k + 1) (f k s)) : ∀ k, P k (itr f s k)
  | 0 => h0
  | k + 1 => hs k _ (itr_inv h0 hs k)
/-- Where there is one for each, there is a function. -/
theorem pick {α β : Type} [Inhabited β] {A : α → Prop} {B : α → β → Prop} (h : ∀ x, A x → ∃ y, B x y) : ∃ F : α → β, ∀ x, A x → B x (F x) := by
  classical
  refine ⟨fun x => if hx : A x then (h x hx).choose else default, fun x hx => ?_⟩
  simp only [dif_pos hx]
  exact (h x hx).choose_spec
theorem R64_0 : R64 0 := ⟨by omega, by omega⟩
theorem u64R (x : Int) : R64 (IntKind.u64.wrap x) := by
  have : IntKind.u64.wrap x = x % 18446744073709551616 := by simp [IntKind.wrap, IntKind.bits, IntKind.signed]
  rw [this]
  exact ⟨Int.emod_nonneg _ (by omega), Int.emod_lt_of_pos _ (by omega)⟩
theorem Wn_set {n k : Nat} {l : List Int} {x : Int} (h : Wn n l) (hx : R64 x) : Wn n (l.set k x) := by
  refine ⟨by rw [List.length_set]; exact h.1, fun y hy => ?_⟩
  rcases List.mem_or_eq_of_mem_set hy with hy | rfl
  · exact h.2 y hy
  · exact hx
theorem Wn_z (n : Nat) : Wn n (List.replicate n 0) := ⟨by simp, fun x hx => by rw [List.eq_of_mem_replicate hx]; exact R64_0⟩
theorem Wn_get {n k : Nat} {l : List Int} (h : Wn n l) (hk : k < n) : ∃ x, l[k]? = some x ∧ R64 x := by
  obtain ⟨h1, h2⟩ := h
  refine ⟨l[k]'(by omega), List.getElem?_eq_getElem (by omega), h2 _ (List.getElem_mem _)⟩
def gI (l : List Int) (k : Nat) : Int := l.getD k 0
theorem Wn_getD {n k : Nat} {l : List Int} (h : Wn n l) : R64 (gI l k) := by
  unfold gI
  rw [List.getD_eq_getElem?_getD]
  by_cases hk : k < n
  · obtain ⟨x, e, hx⟩ := Wn_get h hk
    rw [e]; exact hx
  · rw [List.getElem?_eq_none (by rw [h.1]; omega)]; exact R64_0
theorem get_D {l : List Int} {k : Nat} (h : k < l.length) : l[k]? = some (gI l k) := by
  unfold gI
  rw [List.getD_eq_getElem?_getD, List.getElem?_eq_getElem h]; rfl
end Go.Sha
namespace Go.Proofs.Ytgeabjjgeeakdaa
open Go.Am Go.Sha
set_option linter.unusedSimpArgs false
set_option linter.unusedVariables false

def cI (l : List Int) : List AV := l.map fun x => AV.d (.int .u64 x)
theorem cI_len (l : List Int) : (cI l).length = l.length := by simp [cI]
theorem cI_get (l : List Int) (i : Nat) : (cI l)[i]? = (l[i]?).map fun x => AV.d (.int .u64 x) := by simp [cI]
theorem cI_set (l : List Int) (i : Nat) (x : Int) : (cI l).set i (.d (.int .u64 x)) = cI (l.set i x) := by simp [cI, List.map_set]
theorem cI_low (n : Nat) (l : List Int) : ∀ v, v ∈ cI l → v.low1 n := by
  intro v hv
  rw [cI, List.mem_map] at hv
  obtain ⟨x, _, rfl⟩ := hv
  trivial
theorem cI_deep (l : List Int) : ∀ c, c ∈ cI l → c.deep1 := by
  intro c hc
  rw [cI, List.mem_map] at hc
  obtain ⟨x, _, rfl⟩ := hc
  trivial
theorem cI_deepA (l : List Int) : (AV.agg (cI l)).deep := cI_deep l
theorem cI_take {l : List Int} {n : Nat} (h : l.length = n) : (cI l).take n = cI l := List.take_of_length_le (by rw [cI_len]; omega)
theorem cI_drop {l : List Int} {n : Nat} (h : l.length = n) : (cI l).drop n = [] := List.drop_eq_nil_of_le (by rw [cI_len]; omega)
theorem two_cI (a b : List Int) : ∀ v, v ∈ [AV.agg (cI a), AV.agg (cI b)] → v.deep := by
  intro v hv; simp at hv; rcases hv with rfl | rfl <;> exact cI_deepA _
theorem one_cI (a : List Int) : ∀ v, v ∈ [AV.agg (cI a)] → v.deep := by
  intro v hv; simp at hv; subst hv; exact cI_deepA _
def zI : List Int := [0, 0, 0, 0]
theorem zI_W : Wn 4 zI := Wn_z 4
end Go.Proofs.Ytgeabjjgeeakdaa

/-
  Sums, differences and products of words.
-/
namespace Go.Proofs.Ytgeabjjgeeakdaa
open Go.Am Go.Sha
set_option linter.unusedSimpArgs false
set_option linter.unusedVariables false

theorem run_num {w : World} {S : Nat → Prop} {σ : Nat → Option Nat} {hp : Hp} {U : Nat → Prop} {k : IntKind} {n : Int} {x : Value} (h : AIs w S σ hp U (.d (.int k n)) x) : x = .int k n := by
  cases h with
  | d h => cases h; rfl
/-- The model's entry for math/bits.Sub64. -/
def sub64E : Array Value → Sem Value := fun args => do
  let (x, y, b) ← Extern.MathBitsCarry.three "Sub64" args
  pure (Extern.MathBitsCarry.pair ((x + Extern.MathBitsCarry.m64 - y - b) % Extern.MathBitsCarry.m64) (if x < y + b then 1 else 0))
theorem run_sub64E {P : Program} (x y : Int) (k : Nat) (hk : k ≤ 1) (w : World) :
    (sub64E #[.int .u64 x, .int .u64 y, .int .u64 (k : Int)]).run P w =
      .ok (Extern.MathBitsCarry.pair ((x.toNat + Extern.MathBitsCarry.m64 - y.toNat - k) % Extern.MathBitsCarry.m64) (if x.toNat < y.toNat + k then 1 else 0)) w := by
  have : k = 0 ∨ k = 1 := by omega
  rcases this with rfl | rfl <;> rfl
def C1 (c : Int) : Prop := 0 ≤ c ∧ c ≤ 1
theorem C1_0 : C1 0 := ⟨by omega, by omega⟩
theorem C1_R {c : Int} (h : C1 c) : R64 c := ⟨h.1, by have := h.2; omega⟩
theorem tup2_is {w : World} {S : Nat → Prop} {σ : Nat → Option Nat} {hp : Hp} {U : Nat → Prop} {a b : Int} : AIs w S σ hp U (.tup [.d (.int .u64 a), .d (.int .u64 b)]) (.tuple #[.int .u64 a, .int .u64 b]) := by
  refine .tup _ #[.int .u64 a, .int .u64 b] rfl fun i c x hc hx => ?_
  match i with
  | 0 => simp at hc hx; subst hc hx; exact .d (.int _ _)
  | 1 => simp at hc hx; subst hc hx; exact .d (.int _ _)
  | n + 2 => simp at hc
theorem add64_ex (x y c : Int) (hx : R64 x) (hy : R64 y) (hc : C1 c) : ∃ s d : Int, R64 s ∧ C1 d ∧ ExtOk Try.prog 81 [.d (.int .u64 x), .d (.int .u64 y), .d (.int .u64 c)] (.tup [.d (.int .u64 s), .d (.int .u64 d)]) := by
  refine ⟨(x + y + c) % 18446744073709551616, (x + y + c) / 18446744073709551616, ⟨Int.emod_nonneg _ (by omega), Int.emod_lt_of_pos _ (by omega)⟩, ?_, ?_⟩
  · obtain ⟨h1, h2⟩ := hx
    obtain ⟨h3, h4⟩ := hy
    obtain ⟨h5, h6⟩ := hc
    exact ⟨by omega, by omega⟩
  · intro w S σ hp U vs hl hv
    match vs, hl with
    | [a, b, e], _ =>
      have ha := run_num (hv 0 _ a rfl rfl)
      have hb := run_num (hv 1 _ b rfl rfl)
      have he := run_num (hv 2 _ e rfl rfl)
      subst ha hb he
      refine ⟨_, ?_, tup2_is⟩
      rw [run_callFunc_extern Try.func81 (by kernel_rfl) (by kernel_rfl) (by kernel_rfl) (e := add64Entry) (by kernel_rfl), run_add64 x y c hx.1 hy.1 hc.1 hc.2]
      rfl
theorem sub64_ex (x y c : Int) (hx : R64 x) (hy : R64 y) (hc : C1 c) : ∃ s d : Int, R64 s ∧ C1 d ∧ ExtOk Try.prog 88 [.d (.int .u64 x), .d (.int .u64 y), .d (.int .u64 c)] (.tup [.d (.int .u64 s), .d (.int .u64 d)]) := by
  obtain ⟨k, rfl⟩ := Int.eq_ofNat_of_zero_le hc.1
  have hk : k ≤ 1 := by have := hc.2; omega
  refine ⟨((((x.toNat + Extern.MathBitsCarry.m64 - y.toNat - k) % Extern.MathBitsCarry.m64 : Nat)) : Int), (((if x.toNat < y.toNat + k then 1 else 0 : Nat)) : Int), ?_, ?_, ?_⟩
  · have hm : (x.toNat + Extern.MathBitsCarry.m64 - y.toNat - k) % Extern.MathBitsCarry.m64 < Extern.MathBitsCarry.m64 := Nat.mod_lt _ (by decide)
    have e : Extern.MathBitsCarry.m64 = 18446744073709551616 := by decide
    exact ⟨Int.natCast_nonneg _, by rw [e] at hm ⊢; omega⟩
  · split
    · exact ⟨by omega, by omega⟩
    · exact ⟨by omega, by omega⟩
  · intro w S σ hp U vs hl hv
    match vs, hl with
    | [a, b, e], _ =>
      have ha := run_num (hv 0 _ a rfl rfl)
      have hb := run_num (hv 1 _ b rfl rfl)
      have he := run_num (hv 2 _ e rfl rfl)
      subst ha hb he
      refine ⟨_, ?_, tup2_is⟩
      rw [run_callFunc_extern Try.func88 (by kernel_rfl) (by kernel_rfl) (by kernel_rfl) (e := sub64E) (by kernel_rfl), run_sub64E x y k hk]
      rfl
set_option maxHeartbeats 2000000 in
theorem mul64_ex (x y : Int) : ∃ s d : Int, R64 s ∧ R64 d ∧ Rets Try.prog 87 [.d (.int .u64 x), .d (.int .u64 y)] (fun r => r = .tup [.d (.int .u64 s), .d (.int .u64 d)]) := by
  exact ⟨_, _, u64R _, u64R _, by
    refine fn_of_awp Try.func87 (by kernel_rfl) rfl Try.ntmps87 (rs := [.tmp 4, .tmp 5]) rfl (Nat.le_of_ble_eq_true rfl) (by simp [AV.deep, AV.deep1]) ?_
    simp [go_sem, resV, IntKind.bits]
    exact post_same (by simp [AV.deep, AV.deep1]) rfl⟩
end Go.Proofs.Ytgeabjjgeeakdaa
