/-
  The other text's compact and tree: numbers, sizes and strings laid; leaves', branches' and roots' hashes.
-/
import Derived.Test.YtiihldilefeldaaRsd
import Derived.Test.YtiihldilefeldaaLsr
namespace Go.Sha
theorem t8_t8 (a : Nat) : t8 (t8 a) = t8 a := by unfold t8; omega
theorem le_t8 (n : Nat) : le (t8 n) 1 = le n 1 := by simp [le, r32, t8_t8]
theorem le_t16 (n : Nat) : le (t16 n) 2 = le n 2 := by
  have e0 : t8 (r32 (8 * 0) (t16 n)) = t8 (r32 (8 * 0) n) := by simp only [t8, r32, t16]; omega
  have e1 : t8 (r32 (8 * 1) (t16 n)) = t8 (r32 (8 * 1) n) := by simp only [t8, r32, t16]; omega
  simp only [le, e0, e1]
theorem le_t32 (n : Nat) : le (t32 n) 4 = le n 4 := by
  have e0 : t8 (r32 (8 * 0) (t32 n)) = t8 (r32 (8 * 0) n) := by simp only [t8, r32, t32]; omega
  have e1 : t8 (r32 (8 * 1) (t32 n)) = t8 (r32 (8 * 1) n) := by simp only [t8, r32, t32]; omega
  have e2 : t8 (r32 (8 * 2) (t32 n)) = t8 (r32 (8 * 2) n) := by simp only [t8, r32, t32]; omega
  have e3 : t8 (r32 (8 * 3) (t32 n)) = t8 (r32 (8 * 3) n) := by simp only [t8, r32, t32]; omega
  simp only [le, e0, e1, e2, e3]
theorem le_b (x : Nat) : ∀ k y, y ∈ le x k → y < 256
  | 0, y, h => by simp [le] at h
  | k + 1, y, h => by
    rcases List.mem_append.1 h with h | h
    · exact le_b x k y h
    · rw [List.mem_singleton] at h; rw [h]; exact le_bytes _
theorem putSize_b (n : Nat) : ∀ y, y ∈ putSize n → y < 256 := by
  intro y h
  unfold putSize at h
  split at h
  · exact le_b _ _ y h
  · split at h
    · rcases List.mem_append.1 h with h | h <;> exact le_b _ _ y h
    · rcases List.mem_append.1 h with h | h <;> exact le_b _ _ y h
end Go.Sha
namespace Go.Proofs.Ytiihldilefeldaa
open Go.Am Go.Sha
set_option linter.unusedSimpArgs false
set_option linter.unusedVariables false

theorem post_words_b {Q : AV → Prop} {st : St} {id : Nat} {L : List Nat} (hb : lk id st.hp = some ⟨5, 1, rb L⟩) (hq : Q (.d (nb L))) : PostK Q (.own id 0 L.length L.length) st := post_bytes hb hq

set_option maxHeartbeats 1000000 in
theorem putR_own (b : List Nat) (x n : Nat) (m : Int) (hm : m = (n : Int)) (hb : b.length ≤ 10000000000) (hx : x < 18446744073709551616) (hn : n ≤ 8) : RetsE Try.prog 105 0 [] [.d (nb b), .d (.int .u64 (x : Int)), .d (.int .i64 m)] (fun r hp' => r = .own 33 0 (b ++ le x n).length (b ++ le x n).length ∧ lk 33 hp' = some ⟨5, 1, rb (b ++ le x n)⟩) := by
  subst hm
  refine fnE_of_awp Try.func105 (by kernel_rfl) rfl Try.ntmps105 (rs := [.tmp 6]) rfl (Nat.le_of_ble_eq_true rfl) (by decide) ?_
  simp [go_sem, nb, rb_of, rb_len]
  refine ⟨by omega, ?_⟩
  refine loop_of (fun k : Nat => ⟨[(1, .d (.int .u64 ((r32 (8 * k) x : Nat) : Int))), (2, .d (.int .i64 (n : Int))), (7, .own 33 0 (b ++ le x k).length (b ++ le x k).length), (8, .d (.int .i64 (k : Int)))], [(33, ⟨5, 1, rb (b ++ le x k)⟩)], 300⟩)
    (fun k => k ≤ n) (fun k => n - k) 0 (by omega) (by
      simp [Weak, slotOk, fv, lk, AV.low, AV.low1, le, r32]
      exact rb_low _ _) ?_
  intro k hk
  have hl : (b ++ le x k).length = b.length + k := by rw [List.length_append, le_len]
  have hs : rb (b ++ le x k) ++ [[AV.d (.int .u8 ((t8 (r32 (8 * k) x) : Nat) : Int))]] = rb (b ++ le x (k + 1)) := by rw [rb_snoc, List.append_assoc]; rfl
  have hxk : r32 (8 * k) x < 18446744073709551616 := Nat.lt_of_le_of_lt (Nat.div_le_self _ _) hx
  have hq : IntKind.u64.wrap (Int.tdiv ((r32 (8 * k) x : Nat) : Int) 256) = ((r32 (8 * (k + 1)) x : Nat) : Int) := by
    have e1 : Int.tdiv ((r32 (8 * k) x : Nat) : Int) 256 = ((r32 (8 * k) x / 256 : Nat) : Int) := (Int.ofNat_tdiv _ 256).symm
    have e2 : r32 (8 * k) x / 256 = r32 (8 * (k + 1)) x := by
      unfold r32
      rw [Nat.div_div_eq_div_mul, show 2 ^ (8 * k) * 256 = 2 ^ (8 * (k + 1)) by rw [show 8 * (k + 1) = 8 * k + 8 by omega, Nat.pow_add]]
    have h3 : r32 (8 * k) x / 256 ≤ r32 (8 * k) x := Nat.div_le_self _ _
    rw [e1, u64w, ← e2]
    omega
  have w5 := next_i64 (k := k) (by omega)
  simp only [go_sem, Nat.reduceEqDiff, Nat.reduceAdd, Nat.reduceLT, ↓reduceIte, Nat.reduceMul]
  refine ⟨fun h => ?_, fun h => ?_⟩
  · simp only [go_sem, Nat.reduceEqDiff, Nat.reduceAdd, Nat.reduceLT, ↓reduceIte, w8_nat, rb_len, hs, le_len, hq, w5]
    refine ⟨by omega, by omega, by decide, ?_⟩
    refine next_of (k + 1) (by omega) (by omega) ?_
    simp [Weak, slotOk, fv, lk, AV.low, AV.low1, le_len]
    exact ⟨by omega, rb_low _ _⟩
  · have hkn : k = n := by omega
    subst hkn
    simp [go_sem, resV]

/-- Bytes of the call's own, as a result. -/
def OwnB (L : List Nat) (r : AV) (hp' : Hp) : Prop := ∃ I, r = .own I 0 L.length L.length ∧ lk I hp' = some ⟨5, 1, rb L⟩
theorem own_deep {g : FuncId} {args : List AV} {L : List Nat} (h : RetsE Try.prog g 0 [] args (OwnB L)) (hd : ∀ v, v ∈ args → v.deep) : Rets Try.prog g args (fun r => r = .d (nb L)) :=
  rets_of_E h hd fun r hp' ⟨I, hr, hb⟩ => ⟨.d (nb L), by subst hr; exact .one (snap1_d (snap_full rfl hb trivial)), trivial, rfl⟩
theorem E_mono {g : FuncId} {k : Nat} {hp0 : Hp} {args : List AV} {Q Q' : AV → Hp → Prop} (h : RetsE Try.prog g k hp0 args Q) (hq : ∀ r hp', Q r hp' → Q' r hp') : RetsE Try.prog g k hp0 args Q' := by
  obtain ⟨h1, hk, h2⟩ := h
  refine ⟨h1, hk, fun w S σ vs a b c => (h2 w S σ vs a b c).mono fun e w' he => ?_⟩
  obtain ⟨x, r, hp', U', σ', e1, hQ, rest⟩ := he
  exact ⟨x, r, hp', U', σ', e1, hq r hp' hQ, rest⟩
theorem putR_fn (b : List Nat) (x n : Nat) (m : Int) (hm : m = (n : Int)) (hb : b.length ≤ 10000000000) (hx : x < 18446744073709551616) (hn : n ≤ 8) : Rets Try.prog 105 [.d (nb b), .d (.int .u64 (x : Int)), .d (.int .i64 m)] (fun r => r = .d (nb (b ++ le x n))) :=
  own_deep (E_mono (putR_own b x n m hm hb hx hn) fun r hp' h => ⟨33, h.1, h.2⟩) (by simp [AV.deep, AV.deep1])

set_option maxHeartbeats 1000000 in
theorem putSizeR_own (b : List Nat) (n : Nat) (hb : b.length ≤ 1000000) (hn : n < 4294967296) : RetsE Try.prog 78 0 [] [.d (nb b), .d (.int .u64 (n : Int))] (OwnB (b ++ putSize n)) := by
  refine fnE_of_awp Try.func78 (by kernel_rfl) rfl Try.ntmps78 (rs := [.tmp 4]) rfl (Nat.le_of_ble_eq_true rfl) (by decide) ?_
  by_cases h1 : n < 253
  · have e : putSize n = le n 1 := by unfold putSize; rw [if_pos h1, le_t8]
    rw [e]
    have i1 : (n : Int) < 253 := by omega
    simp [go_sem, i1]
    refine cl_eff [] (putR_own b n 1 1 rfl (by omega) (by omega) (by omega)) rfl (by simp) (by simp) (by simp) (by simp [AV.renL, AV.ren]) ?_
    rintro r hp' ⟨rfl, h0⟩
    refine ⟨[(33, 0)], rfl, ?_⟩
    simp [go_sem, outH, outP, h0, Blk.ren, renR, rb_ren, AV.renL, AV.ren, rho, resV, OwnB]
  · have i1 : ¬ (n : Int) < 253 := by omega
    by_cases h2 : n < 65536
    · have e : putSize n = le 253 1 ++ le n 2 := by unfold putSize; rw [if_neg h1, if_pos h2, le_t16]
      have i2 : (n : Int) < 65536 := by omega
      rw [e, ← List.append_assoc]
      simp [go_sem, i1, i2, -List.append_assoc]
      refine cl_eq (putR_fn b 253 1 1 rfl (by omega) (by omega) (by omega)) (by simp [AV.deep, AV.deep1]) ?_
      simp [go_sem, -List.append_assoc]
      refine cl_eff [] (putR_own (b ++ le 253 1) n 2 2 rfl (by rw [List.length_append, le_len]; omega) (by omega) (by omega)) rfl (by simp) (by simp) (by simp) (by simp [AV.renL, AV.ren]) ?_
      rintro r hp' ⟨rfl, h0⟩
      refine ⟨[(33, 0)], rfl, ?_⟩
      simp [go_sem, outH, outP, h0, Blk.ren, renR, rb_ren, AV.renL, AV.ren, rho, resV, OwnB, -List.append_assoc]
    · have e : putSize n = le 254 1 ++ le n 4 := by unfold putSize; rw [if_neg h1, if_neg h2, le_t32]
      have i2 : ¬ (n : Int) < 65536 := by omega
      have i3 : (n : Int) < 4294967296 := by omega
      rw [e, ← List.append_assoc]
      simp [go_sem, i1, i2, i3, -List.append_assoc]
      refine cl_eq (putR_fn b 254 1 1 rfl (by omega) (by omega) (by omega)) (by simp [AV.deep, AV.deep1]) ?_
      simp [go_sem, -List.append_assoc]
      refine cl_eff [] (putR_own (b ++ le 254 1) n 4 4 rfl (by rw [List.length_append, le_len]; omega) (by omega) (by omega)) rfl (by simp) (by simp) (by simp) (by simp [AV.renL, AV.ren]) ?_
      rintro r hp' ⟨rfl, h0⟩
      refine ⟨[(33, 0)], rfl, ?_⟩
      simp [go_sem, outH, outP, h0, Blk.ren, renR, rb_ren, AV.renL, AV.ren, rho, resV, OwnB, -List.append_assoc]

set_option maxHeartbeats 1000000 in
theorem putBytesR_own (b x : List Nat) (hb : b.length ≤ 1000000) (hx : x.length < 1000000) : RetsE Try.prog 45 0 [] [.d (nb b), .d (nb x)] (OwnB (b ++ putSize x.length ++ x)) := by
  refine fnE_of_awp Try.func45 (by kernel_rfl) rfl Try.ntmps45 (rs := [.tmp 4]) rfl (Nat.le_of_ble_eq_true rfl) (by decide) ?_
  have w : IntKind.u64.wrap (x.length : Int) = (x.length : Int) := by rw [u64w]; omega
  have hp5 := putSize_len x.length
  simp only [go_sem, Nat.reduceEqDiff, Nat.reduceAdd, Nat.reduceLT, ↓reduceIte, nb, List.length_map, w]
  refine cl_eff [] (putSizeR_own b x.length (by omega) (by omega)) rfl (by simp) (by simp) (by simp) (by simp [AV.renL, AV.ren, nb]) ?_
  rintro r hp' ⟨I, rfl, h0⟩
  refine ⟨[(I, 0)], by simp [newsB, prsB], ?_⟩
  simp [go_sem, outH, outP, h0, Blk.ren, renR, rb_ren, AV.renL, AV.ren, rho, rb_of, rb_len, resV]
  refine ⟨by omega, 161, ?_, ?_⟩
  · rw [show (b ++ (putSize x.length ++ x)).length = b.length + (putSize x.length).length + x.length by simp; omega]
  · simp [lk, ← rb_app]

theorem putBytesR_fn (b x : List Nat) (hb : b.length ≤ 1000000) (hx : x.length < 1000000) : Rets Try.prog 45 [.d (nb b), .d (nb x)] (fun r => r = .d (nb (b ++ (putSize x.length ++ x)))) := by
  rw [← List.append_assoc]
  exact own_deep (putBytesR_own b x hb hx) (by simp [AV.deep, AV.deep1])

set_option maxHeartbeats 1000000 in
theorem treeHashR_fn (x : List Nat) (hx : x.length ≤ 100000) (hxb : bytes x) : Rets Try.prog 12 [.d (nb x)] (fun r => r = .agg (cb (leafB x))) := by
  refine fn_of_awp Try.func12 (by kernel_rfl) rfl Try.ntmps12 (rs := [.cell 2 22]) rfl (Nat.le_of_ble_eq_true rfl) (by simp [AV.deep, AV.deep1]) ?_
  have hp5 := putSize_len x.length
  simp [go_sem]
  refine cl_froz [32] (putBytesR_fn [192] x (by simp) (by omega)) rfl (snap_cons (.one (snap1_d (snap_full rfl rfl (by simp)))) (snap_cons (.deep (by simp [AV.deep, AV.deep1])) snap_nil)) ?_
  simp [go_sem, dropH]
  refine cl_eq (taggedR_fn [84, 97, 112, 76, 101, 97, 102] (.str [84, 97, 112, 76, 101, 97, 102]) rfl (192 :: (putSize x.length ++ x)) (by simp) (by simp) (by simp; omega) (by
    intro y hy
    rcases List.mem_cons.1 hy with rfl | hy
    · omega
    · rcases List.mem_append.1 hy with h | h
      · exact putSize_b _ y h
      · exact hxb y h)) (by simp [AV.deep, AV.deep1]) ?_
  have hL : (tagB [84, 97, 112, 76, 101, 97, 102] (192 :: (putSize x.length ++ x))).length = 32 := sumB_len _
  have hR : leafB x = tagB [84, 97, 112, 76, 101, 97, 102] (192 :: (putSize x.length ++ x)) := rfl
  rw [hR]
  generalize tagB [84, 97, 112, 76, 101, 97, 102] (192 :: (putSize x.length ++ x)) = R at *
  simp [go_sem, resV, hL, cb_take hL, z32_drop]
  exact post_same (by simp [AV.deep]; exact cb_deep _) rfl
end Go.Proofs.Ytiihldilefeldaa
