/-
  SHA-256 in the program: the sum of bytes, tagged sums.
-/
import Derived.Test.YtiihldilefeldaaShu
namespace Go.Sha
theorem eat_fuel : ∀ (k j : Nat) (s : S8) (b : List Nat), b.length ≤ k → b.length ≤ j → eat k s b = eat j s b
  | 0, j, s, b, h, _ => by
    have hb : b.length < 64 := by omega
    rw [Go.Proofs.Ytiihldilefeldaa.eat_none 0 s b hb, Go.Proofs.Ytiihldilefeldaa.eat_none j s b hb]
  | k + 1, j, s, b, h, h2 => by
    by_cases h64 : 64 ≤ b.length
    · rw [Go.Proofs.Ytiihldilefeldaa.eat_more h64 h, Go.Proofs.Ytiihldilefeldaa.eat_more h64 h2]
      exact eat_fuel k (j - 1) _ _ (by rw [List.length_drop]; omega) (by rw [List.length_drop]; omega)
    · rw [Go.Proofs.Ytiihldilefeldaa.eat_none _ s b (by omega), Go.Proofs.Ytiihldilefeldaa.eat_none _ s b (by omega)]
def E (s : S8) (b : List Nat) : S8 × List Nat := eat b.length s b
theorem E_none {s : S8} {b : List Nat} (h : b.length < 64) : E s b = (s, b) := Go.Proofs.Ytiihldilefeldaa.eat_none _ s b h
theorem E_more {s : S8} {b : List Nat} (h : 64 ≤ b.length) : E s b = E (Go.Sha.take s (b.take 64)) (b.drop 64) := by
  unfold E
  rw [Go.Proofs.Ytiihldilefeldaa.eat_more h (Nat.le_refl _)]
  exact eat_fuel _ _ _ _ (by rw [List.length_drop]; omega) (Nat.le_refl _)
theorem E_app (b : List Nat) : ∀ (n : Nat) (s : S8) (a : List Nat), a.length ≤ n → E s (a ++ b) = E (E s a).1 ((E s a).2 ++ b)
  | 0, s, a, h => by rw [E_none (b := a) (by omega)]
  | n + 1, s, a, h => by
    by_cases h64 : 64 ≤ a.length
    · rw [E_more (b := a) h64, E_more (b := a ++ b) (by rw [List.length_append]; omega)]
      rw [List.take_append_of_le_length h64, List.drop_append_of_le_length h64]
      exact E_app b n _ _ (by rw [List.length_drop]; omega)
    · rw [E_none (b := a) (by omega)]
theorem E_le : ∀ (n : Nat) (s : S8) (a : List Nat), a.length ≤ n → (E s a).2.length ≤ a.length
  | 0, s, a, h => by rw [E_none (by omega)]; exact Nat.le_refl _
  | n + 1, s, a, h => by
    by_cases h64 : 64 ≤ a.length
    · rw [E_more h64]
      have := E_le n (Go.Sha.take s (a.take 64)) (a.drop 64) (by rw [List.length_drop]; omega)
      rw [List.length_drop] at this
      omega
    · rw [E_none (by omega)]; exact Nat.le_refl _
/-- The end: what is left, and how many bytes there were. -/
def fin (p : S8 × List Nat) (n : Nat) : List Nat := dig (E p.1 (Go.Proofs.Ytiihldilefeldaa.lastOf p.2 n)).1
/-- The sum of bytes. -/
def sumB (b : List Nat) : List Nat := fin (E H0 b) b.length
def tagB (t b : List Nat) : List Nat := sumB (sumB t ++ (sumB t ++ b))
theorem sumB_len (b : List Nat) : (sumB b).length = 32 := pre_len _ 8
end Go.Sha
namespace Go.Proofs.Ytiihldilefeldaa
open Go.Am Go.Sha
set_option linter.unusedSimpArgs false
set_option linter.unusedVariables false

theorem wn (a b : Nat) (h : a + b < 18446744073709551616) : IntKind.u64.wrap ((a : Int) + IntKind.u64.wrap (b : Int)) = ((a + b : Nat) : Int) := by rw [u64w, u64w]; omega
theorem nb_ren (ρ : Nat → Nat) (b : List Nat) : (AV.d (nb b)).ren ρ = .d (nb b) := rfl

theorem cb_ren (ρ : Nat → Nat) : ∀ l : List Nat, AV.renL ρ (cb l) = cb l
  | [] => by simp [cb, AV.renL]
  | x :: r => by
    have := cb_ren ρ r
    simp only [cb] at this
    simp only [cb, List.map_cons, AV.renL, AV.ren, this]
theorem cb_take {l : List Nat} (h : l.length = 32) : List.take 32 (cb l) = cb l := List.take_of_length_le (by rw [cb_len]; omega)
theorem z32_drop : List.drop 32 (cb z32) = [] := rfl
theorem h_ren (ρ : Nat → Nat) (s : S8) (a b : AV) : AV.renL ρ (s8c s ++ [a, b]) = s8c s ++ [a.ren ρ, b.ren ρ] := by simp [s8c, AV.renL, AV.ren]

theorem w_fn (s : S8) (R : AV) (rest b : List Nat) (n : Nat) (hR : R = .d (nb rest) ∨ (R = .nil ∧ rest = [])) (hl : rest.length + b.length ≤ 1000000000000) (hn : n + b.length < 18446744073709551616) :
    RetsE Try.prog 74 1 [(0, ⟨128, 10, [s8c s ++ [R, .d (.int .u64 (n : Int))]]⟩)] [.ptr 0 0 0 1, .d (nb b)]
      (fun r hp' => r = .tup [] ∧ lk 0 hp' = some ⟨128, 10, [s8c (E s (rest ++ b)).1 ++ [.d (nb (E s (rest ++ b)).2), .d (.int .u64 ((n + b.length : Nat) : Int))]]⟩) := by
  have := write_fn s R rest b n hR hl
  rw [wn n b.length hn] at this
  exact this

set_option maxHeartbeats 1000000 in
theorem shasum_fn (b : List Nat) (hb : b.length ≤ 100000000000) : Rets Try.prog 72 [.d (nb b)] (fun r => r = .agg (cb (sumB b))) := by
  refine fn_of_awp Try.func72 (by kernel_rfl) rfl Try.ntmps72 (rs := [.cell 2 22]) rfl (Nat.le_of_ble_eq_true rfl) (by simp [AV.deep, AV.deep1]) ?_
  simp only [go_sem, Nat.reduceEqDiff, Nat.reduceAdd, Nat.reduceLT, ↓reduceIte, Nat.reduceMul]
  refine cl_eff [] new_fn rfl (by simp) (by simp) (by simp) (by simp [AV.renL]) ?_
  rintro r hp' ⟨rfl, h0⟩
  refine ⟨[(97, 0)], rfl, ?_⟩
  simp [go_sem, outH, outP, h0, Blk.ren, renR, h_ren, AV.ren, rho]
  refine cl_eff [(0, 32)] (w_fn H0 .nil [] b 0 (.inr ⟨rfl, rfl⟩) (by simp; omega) (by omega)) rfl (by simp) (by simp [lk]) (by simp [lk, Blk.ren, renR, h_ren, AV.ren, rho, swp]) (by simp [AV.renL, AV.ren, rho, swp, lk]) ?_
  rintro r hp' ⟨rfl, h0⟩
  refine ⟨[], rfl, ?_⟩
  simp [go_sem, outH, outP, h0, Blk.ren, renR, h_ren, nb_ren, AV.renL, AV.ren, rho]
  refine cl_eff [(0, 32)] (sum_fn (E H0 b).1 (.d (nb (E H0 b).2)) (E H0 b).2 b.length (.inl rfl) (by have := E_le _ H0 b (Nat.le_refl _); omega)) rfl (by simp) (by simp [lk]) (by simp [lk, Blk.ren, renR, h_ren, nb_ren, AV.ren, rho, swp]) (by simp [AV.renL, AV.ren, rho, swp, lk]) ?_
  rintro r hp' ⟨rfl, h0⟩
  refine ⟨[], rfl, ?_⟩
  have hf : dig (eat (lastOf (E H0 b).2 b.length).length (E H0 b).1 (lastOf (E H0 b).2 b.length)).1 = sumB b := rfl
  rw [hf] at *
  simp [go_sem, outH, outP, h0, Blk.ren, renR, h_ren, nb_ren, cb_ren, AV.ren, rho, resV, sumB_len, cb_take (sumB_len b), z32_drop]
  exact post_same (by simp [AV.deep]; exact cb_deep _) rfl

theorem snap_arr {hp : Hp} {I : Nat → Prop} {id : Nat} {ty : TypeId} {l : List Nat} (hb : lk id hp = some ⟨ty, 32, [cb l]⟩) (hI : I id) (hl : l.length = 32) : SnapD hp I (.sub id 0 0 1 32 32 1) (nb l) := by
  refine .sub (es := l.map fun (x : Nat) => [.int .u8 (x : Int)]) hI hb rfl rfl (by omega) (by simp [hl]) (fun r hr => by
    rw [List.mem_map] at hr
    obtain ⟨c, _, rfl⟩ := hr
    rfl) fun k j c r y hc hr hy => ?_
  simp only [Nat.zero_add, Nat.mul_one, List.getElem?_map, Option.map_eq_some_iff] at hc hr
  obtain ⟨x, hx, rfl⟩ := hr
  cases j with
  | succ j => simp at hy
  | zero =>
    simp at hy
    subst hy
    rw [Nat.add_zero, cb_get, hx] at hc
    simp at hc
    subst hc
    exact .d _

end Go.Proofs.Ytiihldilefeldaa
