/-
  SHA-256 in the program: the hash of what comes in parts.
-/
import Derived.Test.YtiihldilefeldaaShz
namespace Go.Proofs.Ytiihldilefeldaa
open Go.Am Go.Sha
set_option linter.unusedSimpArgs false
set_option linter.unusedVariables false

theorem new_fn : RetsE Try.prog 73 0 [] [] (fun r hp' => r = .ptr 97 0 0 1 ∧ lk 97 hp' = some ⟨128, 10, [s8c H0 ++ [.nil, .d (.int .u64 0)]]⟩) := by
  refine fnE_of_awp Try.func73 (by kernel_rfl) rfl Try.ntmps73 (rs := [.tmp 0]) rfl (Nat.le_of_ble_eq_true rfl) (by decide) ?_
  simp only [go_sem, Nat.reduceEqDiff, Nat.reduceAdd, Nat.reduceLT, ↓reduceIte, Nat.reduceMul]
  refine cl_eq firsts_fn (by simp [AV.deep, AV.deep1]) ?_
  simp [go_sem, resV, fillA, structPlace, ← s8c_cw, s8c]

theorem r_ap_rofm {β : Type} (f : β → List DV) (b : List β) {P : Program} {el : TypeId} {e : Nat} {es : List (List DV)} {nx : Nat} {Kk : AV → Hp → Prop} {hp : Hp} : appendW P el (.d (.rof e es)) (some (List.map ((fun r => List.map AV.d r) ∘ f) b)) nx Kk hp = (e = P.cellsOf el ∧ (tzO P el).isSome = true ∧ P.bytesOf el ≠ 0 ∧ (es.length + b.length) * P.bytesOf el ≤ 140737488355328 ∧ Kk (.d (.ro e (es ++ b.map f))) hp) := by
  have := r_ap_rof (P := P) (K := Kk) (hp := hp) (nx := nx) el e es (b.map f)
  rw [List.map_map, List.length_map] at this
  exact this
theorem tk_map {α β : Type} (f : α → β) (l : List α) : (l.map f).take l.length = l.map f := by
  rw [List.take_of_length_le (by simp)]

theorem eat_none (k : Nat) (s : S8) (b : List Nat) (h : b.length < 64) : eat k s b = (s, b) := by
  cases k with
  | zero => rfl
  | succ k => simp [eat]; omega
theorem eat_more {k : Nat} {s : S8} {b : List Nat} (h : 64 ≤ b.length) (hk : b.length ≤ k) : eat k s b = eat (k - 1) (Go.Sha.take s (b.take 64)) (b.drop 64) := by
  obtain ⟨j, rfl⟩ : ∃ j, k = j + 1 := ⟨k - 1, by omega⟩
  rw [eat, if_pos h]
  rfl

set_option maxHeartbeats 4000000 in
theorem write_fn (s : S8) (R : AV) (rest b : List Nat) (n : Int) (hR : R = .d (nb rest) ∨ (R = .nil ∧ rest = [])) (hl : rest.length + b.length ≤ 1000000000000) :
    RetsE Try.prog 74 1 [(0, ⟨128, 10, [s8c s ++ [R, .d (.int .u64 n)]]⟩)] [.ptr 0 0 0 1, .d (nb b)]
      (fun r hp' => r = .tup [] ∧ lk 0 hp' = some ⟨128, 10, [s8c (eat ((rest ++ b).length) s (rest ++ b)).1 ++ [.d (nb (eat ((rest ++ b).length) s (rest ++ b)).2), .d (.int .u64 (IntKind.u64.wrap (n + (IntKind.u64.wrap (b.length : Int)))))]]⟩) := by
  refine fnE_of_awp Try.func74 (by kernel_rfl) rfl Try.ntmps74 (rs := []) rfl (Nat.le_of_ble_eq_true rfl) (by decide) ?_
  generalize hn' : IntKind.u64.wrap (n + (IntKind.u64.wrap (b.length : Int))) = n'
  generalize hE0 : eat ((rest ++ b).length) s (rest ++ b) = E
  rcases hR with rfl | ⟨rfl, rfl⟩
  · simp [go_sem, nb, s8c, hn']
    apply draw2 (0 :: 1 :: 2 :: 3 :: 4 :: 5 :: 6 :: 7 :: 8 :: 9 :: 10 :: 11 :: 12 :: 13 :: 14 :: 15 :: 16 :: []) ((17, (18 :: 19 :: [])) :: (20, ([])) :: []) 1 (k := 21) (by kernel_rfl) (by kernel_rfl) rfl
    case hz => repeat (first | exact Its.nil | apply Its.plain rfl | apply Its.guard rfl rfl)
    case hj => repeat (first | exact Jts.nil | exact Its.nil | apply Its.plain rfl | apply Its.guard rfl rfl | apply Jts.plain rfl | apply Jts.guard rfl rfl)
    intro G hG
    simp [go_sem, tk_map, r_ap_rofm]
    refine ⟨by have := hl; simp only [List.length_append, List.length_nil] at *; omega, hG _ _ ?_⟩
    clear hG G
    refine loop_of (fun t : S8 × List Nat => ⟨[(0, .ptr 0 0 0 1)], [(0, ⟨128, 10, [s8c t.1 ++ [.d (nb t.2), .d (.int .u64 n')]]⟩)], 1090⟩)
      (fun t => t.2.length ≤ 1000000000000 ∧ ∃ k, t.2.length ≤ k ∧ eat k t.1 t.2 = E) (fun t => t.2.length) (s, rest ++ b) ⟨by have := hl; simp only [List.length_append, List.length_nil] at *; omega, _, Nat.le_refl _, hE0⟩ (by
        simp [Weak, slotOk, fv, lk, AV.low, AV.low1, nb, s8c]) ?_
    rintro ⟨s1, q⟩ ⟨hq, k, hk, hE⟩
    simp only at hq hk hE
    simp only [go_sem, Nat.reduceEqDiff, Nat.reduceAdd, Nat.reduceLT, ↓reduceIte, s8c, nb, List.length_map]
    refine ⟨fun h => ?_, fun h => ?_⟩
    · have h64 : 64 ≤ q.length := by omega
      rw [eat_more h64 hk] at hE
      apply draw2 (0 :: 1 :: 2 :: 3 :: 4 :: 5 :: 6 :: 7 :: []) ((8, ([])) :: []) 0 (k := 9) (by kernel_rfl) (by kernel_rfl) rfl
      case hz => repeat (first | exact Its.nil | apply Its.plain rfl | apply Its.guard rfl rfl)
      case hj => repeat (first | exact Jts.nil | exact Its.nil | apply Its.plain rfl | apply Its.guard rfl rfl | apply Jts.plain rfl | apply Jts.guard rfl rfl)
      intro G hG
      simp [go_sem]
      refine ⟨by omega, ?_⟩
      refine cl_eff [(0, 0)] (take_fn 128 10 s1 [.d (nb q), .d (.int .u64 n')] (q.take 64) (by simp; omega) (by simp [AV.low1])) rfl (by simp) (by simp [lk]) (by simp [lk, Blk.ren, renR, AV.renL, AV.ren, rho, swp, s8c, nb]) (by simp [AV.renL, AV.ren, rho, swp, lk, nb, List.map_take]) ?_
      rintro r hp' ⟨rfl, h0⟩
      refine ⟨[], rfl, ?_⟩
      simp [go_sem, outH, outP, h0, Blk.ren, renR, AV.renL, AV.ren, rho, s8c]
      refine hG _ _ ?_
      clear hG G
      simp [go_sem, nb]
      refine ⟨by omega, ?_⟩
      refine next_of (Go.Sha.take s1 (q.take 64), q.drop 64) ⟨by simp only [List.length_drop]; omega, k - 1, by simp only [List.length_drop]; omega, hE⟩ (by simp only [List.length_drop]; omega) ?_
      simp [Weak, slotOk, fv, lk, AV.low, AV.low1, nb, s8c, List.map_drop, tk_map]
    · rw [eat_none k s1 q (by omega)] at hE
      subst hE
      rfl
  · simp [go_sem, nb, s8c, hn']
    apply draw2 (0 :: 1 :: 2 :: 3 :: 4 :: 5 :: 6 :: 7 :: 8 :: 9 :: 10 :: 11 :: 12 :: 13 :: 14 :: 15 :: 16 :: []) ((17, (18 :: 19 :: [])) :: (20, ([])) :: []) 1 (k := 21) (by kernel_rfl) (by kernel_rfl) rfl
    case hz => repeat (first | exact Its.nil | apply Its.plain rfl | apply Its.guard rfl rfl)
    case hj => repeat (first | exact Jts.nil | exact Its.nil | apply Its.plain rfl | apply Its.guard rfl rfl | apply Jts.plain rfl | apply Jts.guard rfl rfl)
    intro G hG
    simp [go_sem, tk_map, r_ap_rofm]
    refine ⟨by have := hl; simp only [List.length_append, List.length_nil] at *; omega, hG _ _ ?_⟩
    clear hG G
    refine loop_of (fun t : S8 × List Nat => ⟨[(0, .ptr 0 0 0 1)], [(0, ⟨128, 10, [s8c t.1 ++ [.d (nb t.2), .d (.int .u64 n')]]⟩)], 1090⟩)
      (fun t => t.2.length ≤ 1000000000000 ∧ ∃ k, t.2.length ≤ k ∧ eat k t.1 t.2 = E) (fun t => t.2.length) (s, [] ++ b) ⟨by have := hl; simp only [List.length_append, List.length_nil] at *; omega, _, Nat.le_refl _, hE0⟩ (by
        simp [Weak, slotOk, fv, lk, AV.low, AV.low1, nb, s8c]) ?_
    rintro ⟨s1, q⟩ ⟨hq, k, hk, hE⟩
    simp only at hq hk hE
    simp only [go_sem, Nat.reduceEqDiff, Nat.reduceAdd, Nat.reduceLT, ↓reduceIte, s8c, nb, List.length_map]
    refine ⟨fun h => ?_, fun h => ?_⟩
    · have h64 : 64 ≤ q.length := by omega
      rw [eat_more h64 hk] at hE
      apply draw2 (0 :: 1 :: 2 :: 3 :: 4 :: 5 :: 6 :: 7 :: []) ((8, ([])) :: []) 0 (k := 9) (by kernel_rfl) (by kernel_rfl) rfl
      case hz => repeat (first | exact Its.nil | apply Its.plain rfl | apply Its.guard rfl rfl)
      case hj => repeat (first | exact Jts.nil | exact Its.nil | apply Its.plain rfl | apply Its.guard rfl rfl | apply Jts.plain rfl | apply Jts.guard rfl rfl)
      intro G hG
      simp [go_sem]
      refine ⟨by omega, ?_⟩
      refine cl_eff [(0, 0)] (take_fn 128 10 s1 [.d (nb q), .d (.int .u64 n')] (q.take 64) (by simp; omega) (by simp [AV.low1])) rfl (by simp) (by simp [lk]) (by simp [lk, Blk.ren, renR, AV.renL, AV.ren, rho, swp, s8c, nb]) (by simp [AV.renL, AV.ren, rho, swp, lk, nb, List.map_take]) ?_
      rintro r hp' ⟨rfl, h0⟩
      refine ⟨[], rfl, ?_⟩
      simp [go_sem, outH, outP, h0, Blk.ren, renR, AV.renL, AV.ren, rho, s8c]
      refine hG _ _ ?_
      clear hG G
      simp [go_sem, nb]
      refine ⟨by omega, ?_⟩
      refine next_of (Go.Sha.take s1 (q.take 64), q.drop 64) ⟨by simp only [List.length_drop]; omega, k - 1, by simp only [List.length_drop]; omega, hE⟩ (by simp only [List.length_drop]; omega) ?_
      simp [Weak, slotOk, fv, lk, AV.low, AV.low1, nb, s8c, List.map_drop, tk_map]
    · rw [eat_none k s1 q (by omega)] at hE
      subst hE
      rfl

/-- What Sum makes of what is left. -/
def padTo : Nat → List Nat → List Nat
  | 0, l => l
  | n + 1, l => if l.length % 64 = 56 then l else padTo n (l ++ [0])
theorem padTo_step {k : Nat} {l : List Nat} (h : l.length % 64 ≠ 56) (hk : 0 < k) : padTo k l = padTo (k - 1) (l ++ [0]) := by
  obtain ⟨j, rfl⟩ : ∃ j, k = j + 1 := ⟨k - 1, by omega⟩
  rw [padTo, if_neg h]
  rfl
theorem padTo_end {k : Nat} {l : List Nat} (h : l.length % 64 = 56) : padTo k l = l := by
  cases k with
  | zero => rfl
  | succ k => rw [padTo, if_pos h]
end Go.Proofs.Ytiihldilefeldaa
