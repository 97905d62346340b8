/-
  The other text's SHA-256: the sum, tagged sums.
-/
import Derived.Test.YtiihldilefeldaaRsc
namespace Go.Sha
theorem le_bytes (x : Nat) : t8 x < 256 := Nat.mod_lt _ (by decide)
theorem len8_bytes (m : Nat) : ∀ j x, x ∈ Go.Proofs.Ytiihldilefeldaa.len8 m j → x < 256
  | 0, x, h => by simp [Go.Proofs.Ytiihldilefeldaa.len8] at h
  | j + 1, x, h => by
    rcases List.mem_append.1 h with h | h
    · exact len8_bytes m j x h
    · rw [List.mem_singleton] at h; rw [h]; exact le_bytes _
theorem padTo_bytes : ∀ (n : Nat) (l : List Nat), (∀ x, x ∈ l → x < 256) → ∀ x, x ∈ Go.Proofs.Ytiihldilefeldaa.padTo n l → x < 256
  | 0, l, hl => hl
  | n + 1, l, hl => by
    unfold Go.Proofs.Ytiihldilefeldaa.padTo
    split
    · exact hl
    · refine padTo_bytes n _ fun x hx => ?_
      rcases List.mem_append.1 hx with h | h
      · exact hl x h
      · rw [List.mem_singleton] at h; omega
theorem lastOf_bytes {b : List Nat} (n : Nat) (hb : ∀ x, x ∈ b → x < 256) : ∀ x, x ∈ Go.Proofs.Ytiihldilefeldaa.lastOf b n → x < 256 := by
  intro x hx
  rcases List.mem_append.1 hx with h | h
  · refine padTo_bytes _ _ (fun y hy => ?_) x h
    rcases List.mem_append.1 hy with h | h
    · exact hb y h
    · rw [List.mem_singleton] at h; omega
  · exact len8_bytes _ _ x h
theorem padTo_mod : ∀ (n : Nat) (l : List Nat), (120 - l.length % 64) % 64 ≤ n → (Go.Proofs.Ytiihldilefeldaa.padTo n l).length % 64 = 56 ∧ (Go.Proofs.Ytiihldilefeldaa.padTo n l).length ≤ l.length + n
  | 0, l, h => by
    unfold Go.Proofs.Ytiihldilefeldaa.padTo
    omega
  | n + 1, l, h => by
    unfold Go.Proofs.Ytiihldilefeldaa.padTo
    split
    · omega
    · have := padTo_mod n (l ++ [0]) (by rw [List.length_append, List.length_singleton]; omega)
      rw [List.length_append, List.length_singleton] at this
      omega
theorem lastOf_mod (b : List Nat) (n : Nat) : (Go.Proofs.Ytiihldilefeldaa.lastOf b n).length % 64 = 0 ∧ (Go.Proofs.Ytiihldilefeldaa.lastOf b n).length ≤ b.length + 73 := by
  have := padTo_mod 64 (b ++ [128]) (by omega)
  rw [List.length_append, List.length_singleton] at this
  unfold Go.Proofs.Ytiihldilefeldaa.lastOf
  rw [List.length_append, Go.Proofs.Ytiihldilefeldaa.len8_len]
  omega
theorem pre_get (l : List Nat) : ∀ (n i : Nat), i < 4 * n → (pre l n)[i]? = some (t8 (r32 (24 - 8 * (i % 4)) (l.getD (i / 4) 0)))
  | 0, i, h => by omega
  | n + 1, i, h => by
    unfold pre
    by_cases hi : i < 4 * n
    · rw [List.getElem?_append_left (by rw [pre_len]; exact hi)]
      exact pre_get l n i hi
    · rw [List.getElem?_append_right (by rw [pre_len]; omega), pre_len]
      have h4 : i / 4 = n := by omega
      rw [h4]
      obtain ⟨j, rfl, hj⟩ : ∃ j, i = 4 * n + j ∧ j < 4 := ⟨i - 4 * n, by omega, by omega⟩
      rw [show 4 * n + j - 4 * n = j by omega, show (4 * n + j) % 4 = j by omega]
      rcases (by omega : j = 0 ∨ j = 1 ∨ j = 2 ∨ j = 3) with rfl | rfl | rfl | rfl <;> rfl
theorem pre_bytes (l : List Nat) : ∀ n x, x ∈ pre l n → x < 256
  | 0, x, h => by simp [pre] at h
  | n + 1, x, h => by
    rcases List.mem_append.1 h with h | h
    · exact pre_bytes l n x h
    · simp [wbk] at h
      rcases h with rfl | rfl | rfl | rfl <;> exact le_bytes _
theorem sumB_bytes (b : List Nat) : ∀ x, x ∈ sumB b → x < 256 := fun x h => pre_bytes _ 8 x h
theorem dig_len (s : S8) : (dig s).length = 32 := pre_len _ 8
end Go.Sha
namespace Go.Proofs.Ytiihldilefeldaa
open Go.Am Go.Sha
set_option linter.unusedSimpArgs false
set_option linter.unusedVariables false

theorem snap_full {hp : Hp} {I : Nat → Prop} {id n : Nat} {L : List Nat} (hl : L.length = n) (hb : lk id hp = some ⟨5, 1, rb L⟩) (hI : I id) : SnapD hp I (.own id 0 n n) (nb L) := by
  subst hl
  have h := snap_rb (i0 := 0) (n := L.length) (L := L) hb hI (by omega)
  rw [List.drop_zero, List.take_of_length_le (Nat.le_refl _)] at h
  exact h

/-- So many bytes of the sum, and noughts. -/
def outB (s : S8) (i : Nat) : List Nat := (dig s).take i ++ List.replicate (32 - i) 0
theorem outB_len (s : S8) {i : Nat} (h : i ≤ 32) : (outB s i).length = 32 := by
  unfold outB
  rw [List.length_append, List.length_take, dig_len, List.length_replicate]
  omega
theorem outB_end (s : S8) : outB s 32 = dig s := by
  unfold outB
  rw [List.take_of_length_le (by rw [dig_len]; omega)]
  simp
theorem outB_step (s : S8) {i : Nat} (h : i < 32) : (outB s i).set i (t8 (r32 (24 - 8 * (i % 4)) (s.l.getD (i / 4) 0))) = outB s (i + 1) := by
  have hg := pre_get s.l 8 i (by omega)
  unfold outB
  rw [List.set_append_right _ _ (by rw [List.length_take, dig_len]; omega), List.length_take, dig_len, show i - min i 32 = 0 by omega]
  obtain ⟨k, hk⟩ : ∃ k, 32 - i = k + 1 := ⟨31 - i, by omega⟩
  rw [hk, List.replicate_succ, List.set_cons_zero, show 32 - (i + 1) = k by omega]
  rw [List.take_add_one, show (dig s)[i]? = _ from hg]
  simp

set_option maxHeartbeats 2000000 in
theorem sumR_fn (b : List Nat) (hb : b.length ≤ 10000000000) (hby : ∀ x, x ∈ b → x < 256) : Rets Try.prog 77 [.d (nb b)] (fun r => r = .agg (cb (sumB b))) := by
  rw [sumB_whole]
  refine fn_of_awp Try.func77 (by kernel_rfl) rfl Try.ntmps77 (rs := [.cell 2 22]) rfl (Nat.le_of_ble_eq_true rfl) (by simp [AV.deep, AV.deep1]) ?_
  simp [go_sem]
  refine cl_eq stepsR_fn (by simp) ?_
  simp [go_sem]
  refine cl_eq (padded_fn b (by omega)) (by simp [AV.deep, AV.deep1]) ?_
  have hLb := lastOf_bytes b.length hby
  obtain ⟨hLm, hLl⟩ := lastOf_mod b b.length
  generalize lastOf b b.length = L at *
  simp [go_sem]
  generalize hP : E H0 L = P
  refine loopF_of (fun t : Nat × S8 => ⟨[(2, .ptr 0 0 0 1), (3, .d (nw t.2.l)), (4, .d (nw K)), (5, .d (nb L)), (6, .d (.int .i64 ((64 * t.1 : Nat) : Int)))], [(0, ⟨22, 32, [cb z32]⟩)], 288⟩)
    (fun t => 64 * t.1 ≤ L.length ∧ E t.2 (L.drop (64 * t.1)) = P) (fun t => L.length - 64 * t.1) (0, H0) ⟨by omega, hP⟩ [32] [(3, .d (nw H0.l))] (by
      intro p hp
      simp only [List.mem_singleton] at hp
      subst hp
      exact .one (snap1_d (snap_rw4 (L := H0.l) rfl (by simp)))) (by
      simp [Weak, slotOk, fv, lk, AV.low, AV.low1, dropH]
      exact cb_low _ _) ?_
  clear hP
  rintro ⟨j, s⟩ ⟨hj, hP⟩
  simp only at hj hP
  simp only [go_sem, Nat.reduceEqDiff, Nat.reduceAdd, Nat.reduceLT, ↓reduceIte, Nat.reduceMul]
  refine ⟨fun h => ?_, fun h => ?_⟩
  · have hlt : 64 * j < L.length := by simp only [nb, AV.slen, List.length_map] at h; omega
    have h64 : 64 ≤ (L.drop (64 * j)).length := by rw [List.length_drop]; omega
    rw [E_more h64, List.drop_drop] at hP
    have hbl : ((L.drop (64 * j)).take 64).length = 64 := by rw [List.length_take]; omega
    have hbb : ∀ x, x ∈ (L.drop (64 * j)).take 64 → x < 256 := fun x hx => hLb x (List.mem_of_mem_drop (List.mem_of_mem_take hx))
    have w1 : IntKind.i64.wrap (((64 * j : Nat) : Int) + 64) = ((64 * j + 64 : Nat) : Int) := by rw [IntWalk.i64_in _ (by omega)]; omega
    have hsl : ((L.map fun (b : Nat) => [DV.int .u8 (b : Int)]).take (64 * j + 64)).drop (64 * j) = ((L.drop (64 * j)).take 64).map fun (b : Nat) => [DV.int .u8 (b : Int)] := by
      rw [List.drop_take, show 64 * j + 64 - 64 * j = 64 by omega, List.map_take, List.map_drop]
    simp only [go_sem, Nat.reduceEqDiff, Nat.reduceAdd, Nat.reduceLT, ↓reduceIte, nb, w1, hsl]
    refine ⟨by omega, by omega, ?_⟩
    refine cl_eq (blockR_fn s ((L.drop (64 * j)).take 64) hbl hbb) (by simp [AV.deep, AV.deep1]) ?_
    simp only [go_sem, Nat.reduceEqDiff, Nat.reduceAdd, Nat.reduceLT, ↓reduceIte, w1]
    refine next_of (j + 1, Go.Sha.take s ((L.drop (64 * j)).take 64)) ⟨by simp only; omega, by simp only; exact hP⟩ (by simp only; omega) ?_
    simp [Weak, slotOk, fv, lk, AV.low, AV.low1, nb]
    exact ⟨by omega, cb_low _ _⟩
  · have hnil : L.drop (64 * j) = [] := List.drop_eq_nil_of_le (by simp only [nb, AV.slen, List.length_map] at h; omega)
    rw [hnil, E_none (by simp)] at hP
    have hs : P.1 = s := by rw [← hP]
    rw [hs]
    clear hP hs hnil h
    simp [go_sem]
    refine loop_of (fun i : Nat => ⟨[(2, .ptr 0 0 0 1), (3, .d (nw s.l)), (7, .ptr 448 0 0 1), (8, .d (.int .i64 (i : Int)))], [(0, ⟨22, 32, [cb z32]⟩), (448, ⟨22, 32, [cb (outB s i)]⟩)], 700⟩)
      (fun i => i ≤ 32) (fun i => 32 - i) 0 (by omega) (by
        simp [Weak, slotOk, fv, lk, AV.low, AV.low1]
        exact ⟨cb_low _ _, rfl, cb_low _ _⟩) ?_
    intro i hi
    have hol := outB_len s hi
    simp only [go_sem, Nat.reduceEqDiff, Nat.reduceAdd, Nat.reduceLT, ↓reduceIte, Nat.reduceMul]
    refine ⟨fun h2 => ?_, fun h2 => ?_⟩
    · have w1 : IntKind.i64.wrap (Int.tdiv (i : Int) 4) = ((i / 4 : Nat) : Int) := by
        have e : Int.tdiv (i : Int) 4 = ((i / 4 : Nat) : Int) := (Int.ofNat_tdiv i 4).symm
        rw [e, IntWalk.i64_in _ (by omega)]
      have w2 : Int.tmod (i : Int) 4 = ((i % 4 : Nat) : Int) := by have := Int.ofNat_tmod i 4; simpa using this.symm
      have w3 : IntKind.i64.wrap (8 * ((i % 4 : Nat) : Int)) = ((8 * (i % 4) : Nat) : Int) := by rw [IntWalk.i64_in _ (by omega)]; omega
      have w4 : IntKind.i64.wrap (24 - ((8 * (i % 4) : Nat) : Int)) = ((24 - 8 * (i % 4) : Nat) : Int) := by rw [IntWalk.i64_in _ (by omega)]; omega
      have w5 : IntKind.u64.wrap ((24 - 8 * (i % 4) : Nat) : Int) = ((24 - 8 * (i % 4) : Nat) : Int) := by rw [u64w]; omega
      have w6 : min (24 - 8 * (i % 4)) 32 = 24 - 8 * (i % 4) := by omega
      have w7 := next_i64 (k := i) (by omega)
      have hst := outB_step s (i := i) (by omega)
      have hg : s.l[i / 4]? = some (s.l.getD (i / 4) 0) := by
        have : i / 4 < s.l.length := by show i / 4 < 8; omega
        rw [List.getD_eq_getElem?_getD, List.getElem?_eq_getElem this]; rfl
      generalize s.l.getD (i / 4) 0 = x at *
      generalize hA : outB s i = A at *
      generalize s.l = sl at *
      simp only [go_sem, Nat.reduceEqDiff, Nat.reduceAdd, Nat.reduceLT, ↓reduceIte, nw, w1, w2, w3, w4, w5, w6, w7, hg, IntKind.bits, d_r, w8_nat, cb_set, hst]
      refine ⟨by decide, by decide, by omega, by omega, ?_⟩
      refine next_of (i + 1) (by omega) (by omega) ?_
      simp [Weak, slotOk, fv, lk, AV.low, AV.low1, hst]
      exact ⟨cb_low _ _, cb_low _ _⟩
    · have hi32 : i = 32 := by omega
      subst hi32
      rw [outB_end] at hol ⊢
      simp [go_sem, resV, hol, cb_take hol, z32_drop]
      exact post_same (by simp [AV.deep]; exact cb_deep _) rfl

set_option maxHeartbeats 1000000 in
theorem taggedR_fn (tag : List Nat) (ts : DV) (hts : ts = .str (tag.map fun (x : Nat) => (x : Int))) (b : List Nat) (ht : tag.length ≤ 1000) (htb : ∀ x, x ∈ tag → x < 256) (hb : b.length ≤ 1000000000) (hbb : ∀ x, x ∈ b → x < 256) : Rets Try.prog 44 [.d ts, .d (nb b)] (fun r => r = .agg (cb (tagB tag b))) := by
  subst hts
  refine fn_of_awp Try.func44 (by kernel_rfl) rfl Try.ntmps44 (rs := [.cell 4 22]) rfl (Nat.le_of_ble_eq_true rfl) (by simp [AV.deep, AV.deep1]) ?_
  simp [go_sem, Try.underlying5]
  refine cl_eq (sumR_fn tag (by omega) htb) (by simp [AV.deep, AV.deep1]) ?_
  have hD := sumB_len tag
  have hg : tagB tag b = sumB (sumB tag ++ (sumB tag ++ b)) := rfl
  rw [hg]
  have hDb := sumB_bytes tag
  generalize sumB tag = D at hD hDb
  have hx := arr_rows hD
  rw [rb_of] at hx
  simp [go_sem] at hx
  simp [go_sem, hD, z32_drop, hx, nb, rb_of, rb_len]
  refine ⟨by omega, ?_⟩
  have hl : (D ++ (D ++ b)).length = 64 + b.length := by simp [hD]; omega
  have hDb : ∀ x, x ∈ D → x < 256 := hDb
  refine cl_froz [192] (sumR_fn (D ++ (D ++ b)) (by omega) (fun x hx => by
    rcases List.mem_append.1 hx with h | h
    · exact hDb x h
    · rcases List.mem_append.1 h with h | h
      · exact hDb x h
      · exact hbb x h)) rfl (snap_cons (.one (snap1_d (snap_full hl (by simp [lk, ← rb_app]) (by simp)))) snap_nil) ?_
  have hR := sumB_len (D ++ (D ++ b))
  generalize sumB (D ++ (D ++ b)) = R at *
  simp [go_sem, dropH, resV, hR, cb_take hR, z32_drop]
  exact post_same (by simp [AV.deep]; exact cb_deep _) rfl
end Go.Proofs.Ytiihldilefeldaa
