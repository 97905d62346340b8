/-
  One tagged sum, evaluated: the numbers forced step by step, so that the kernel gets through.
-/
import Derived.Test.YtpnbpojpcbnejaaGreatShc
import Derived.Test.YtpnbpojpcbnejaaGreatCpx
import Derived.Test.YtpnbpojpcbnejaaGreatAmLaw
namespace Go.Sha
set_option linter.unusedSimpArgs false
set_option linter.unusedVariables false

def frc {α : Type} : Nat → (Nat → α) → α
  | 0, k => k 0
  | n + 1, k => k (n + 1)
theorem frc_eq {α : Type} (n : Nat) (k : Nat → α) : frc n k = k n := by cases n <;> rfl
def rdF {α : Type} (s : S8) (k w : Nat) (C : S8 → α) : α := frc (T1 s k w) fun t => frc (a32 t (T2 s)) fun x => frc (a32 s.d t) fun y => C ⟨x, s.a, s.b, s.c, y, s.e, s.f, s.g⟩
theorem rdF_eq {α : Type} (s : S8) (k w : Nat) (C : S8 → α) : rdF s k w C = C (rd s k w) := by simp only [rdF, frc_eq, rd]
def foldF {α : Type} : List Nat → List Nat → S8 → (S8 → α) → α
  | k :: ks, w :: ws, s, C => rdF s k w fun s' => foldF ks ws s' C
  | _, _, s, C => C s
theorem foldF_eq {α : Type} : ∀ (ks ws : List Nat) (s : S8) (C : S8 → α), foldF ks ws s C = C ((ks.zip ws).foldl rdp s)
  | [], _, s, C => by simp [foldF]
  | k :: ks, [], s, C => by simp [foldF]
  | k :: ks, w :: ws, s, C => by simp only [foldF, rdF_eq, foldF_eq ks ws, List.zip_cons_cons, List.foldl_cons]; rfl
def listF {α : Type} : List Nat → (List Nat → α) → α
  | [], C => C []
  | x :: r, C => frc x fun y => listF r fun q => C (y :: q)
theorem listF_eq {α : Type} : ∀ (l : List Nat) (C : List Nat → α), listF l C = C l
  | [], C => rfl
  | x :: r, C => by simp only [listF, frc_eq, listF_eq r]
/-- The next word, of the words in the other order. -/
def wxR (l : List Nat) : Nat :=
  a32 (a32 (a32 (l.getD 15 0) (x32 (x32 (rol 25 (l.getD 14 0)) (rol 14 (l.getD 14 0))) (r32 3 (l.getD 14 0)))) (l.getD 6 0)) (x32 (x32 (rol 15 (l.getD 1 0)) (rol 13 (l.getD 1 0))) (r32 10 (l.getD 1 0)))
theorem getD_rev (w : List Nat) (i : Nat) (h : i < w.length) : w.reverse.getD i 0 = w.getD (w.length - 1 - i) 0 := by
  rw [List.getD_eq_getElem?_getD, List.getD_eq_getElem?_getD, List.getElem?_reverse h]
theorem wxR_eq (w : List Nat) (h : 16 ≤ w.length) : wxR w.reverse = wx w := by
  unfold wxR wx
  rw [getD_rev w 15 (by omega), getD_rev w 14 (by omega), getD_rev w 6 (by omega), getD_rev w 1 (by omega)]
  rw [show w.length - 1 - 15 = w.length - 16 by omega, show w.length - 1 - 14 = w.length - 15 by omega, show w.length - 1 - 6 = w.length - 7 by omega, show w.length - 1 - 1 = w.length - 2 by omega]
def schF {α : Type} : Nat → List Nat → (List Nat → α) → α
  | 0, l, C => C l
  | n + 1, l, C => frc (wxR l) fun x => schF n (x :: l) C
theorem schF_eq {α : Type} (b : List Nat) : ∀ (n m : Nat) (C : List Nat → α), schF n (wmore b m).reverse C = C (wmore b (m + n)).reverse
  | 0, m, C => rfl
  | n + 1, m, C => by
    have h : wxR (wmore b m).reverse :: (wmore b m).reverse = (wmore b (m + 1)).reverse := by
      rw [wxR_eq _ (by rw [wmore_len]; omega)]
      simp [wmore]
    simp only [schF, frc_eq, h]
    rw [schF_eq b n (m + 1) C, show m + 1 + n = m + (n + 1) by omega]
def takeF {α : Type} (s : S8) (b : List Nat) (C : S8 → α) : α :=
  listF (wfirst b 16) fun q => schF 48 q.reverse fun l => foldF K l.reverse s fun v => C (s8add s v)
theorem takeF_eq {α : Type} (s : S8) (b : List Nat) (C : S8 → α) : takeF s b C = C (take s b) := by
  unfold takeF
  rw [listF_eq]
  have := schF_eq b 48 0 (fun l => foldF K l.reverse s fun v => C (s8add s v))
  simp only [wmore, Nat.zero_add] at this
  rw [this, List.reverse_reverse, foldF_eq]
  rfl
def blkA : List Nat := (84 :: 97 :: 112 :: 76 :: 101 :: 97 :: 102 :: 128 :: 0 :: 0 :: 0 :: 0 :: 0 :: 0 :: 0 :: 0 :: 0 :: 0 :: 0 :: 0 :: 0 :: 0 :: 0 :: 0 :: 0 :: 0 :: 0 :: 0 :: 0 :: 0 :: 0 :: 0 :: 0 :: 0 :: 0 :: 0 :: 0 :: 0 :: 0 :: 0 :: 0 :: 0 :: 0 :: 0 :: 0 :: 0 :: 0 :: 0 :: 0 :: 0 :: 0 :: 0 :: 0 :: 0 :: 0 :: 0 :: 0 :: 0 :: 0 :: 0 :: 0 :: 0 :: 0 :: 56 :: [])
def blkB : List Nat := (174 :: 234 :: 143 :: 220 :: 66 :: 8 :: 152 :: 49 :: 5 :: 115 :: 75 :: 88 :: 8 :: 29 :: 30 :: 38 :: 56 :: 211 :: 95 :: 28 :: 181 :: 64 :: 8 :: 212 :: 211 :: 87 :: 202 :: 3 :: 190 :: 120 :: 233 :: 238 :: 174 :: 234 :: 143 :: 220 :: 66 :: 8 :: 152 :: 49 :: 5 :: 115 :: 75 :: 88 :: 8 :: 29 :: 30 :: 38 :: 56 :: 211 :: 95 :: 28 :: 181 :: 64 :: 8 :: 212 :: 211 :: 87 :: 202 :: 3 :: 190 :: 120 :: 233 :: 238 :: [])
def blkC : List Nat := (192 :: 1 :: 81 :: 128 :: 0 :: 0 :: 0 :: 0 :: 0 :: 0 :: 0 :: 0 :: 0 :: 0 :: 0 :: 0 :: 0 :: 0 :: 0 :: 0 :: 0 :: 0 :: 0 :: 0 :: 0 :: 0 :: 0 :: 0 :: 0 :: 0 :: 0 :: 0 :: 0 :: 0 :: 0 :: 0 :: 0 :: 0 :: 0 :: 0 :: 0 :: 0 :: 0 :: 0 :: 0 :: 0 :: 0 :: 0 :: 0 :: 0 :: 0 :: 0 :: 0 :: 0 :: 0 :: 0 :: 0 :: 0 :: 0 :: 0 :: 0 :: 0 :: 2 :: 24 :: [])
def stA : S8 := ⟨2934607836, 1107859505, 91442008, 136125990, 953376540, 3040872660, 3545745923, 3195595246⟩
def stB : S8 := ⟨2631984358, 2081516601, 951306994, 3272560777, 3555955564, 1197698656, 2108899050, 3720802505⟩
def stC : S8 := ⟨2824544519, 4153520746, 2229753964, 684640203, 1629499091, 3491316952, 844107574, 931321461⟩
def digA : List Nat := (174 :: 234 :: 143 :: 220 :: 66 :: 8 :: 152 :: 49 :: 5 :: 115 :: 75 :: 88 :: 8 :: 29 :: 30 :: 38 :: 56 :: 211 :: 95 :: 28 :: 181 :: 64 :: 8 :: 212 :: 211 :: 87 :: 202 :: 3 :: 190 :: 120 :: 233 :: 238 :: [])
def digC : List Nat := (168 :: 91 :: 33 :: 7 :: 247 :: 145 :: 178 :: 106 :: 132 :: 231 :: 88 :: 108 :: 40 :: 206 :: 199 :: 203 :: 97 :: 32 :: 46 :: 211 :: 208 :: 25 :: 68 :: 216 :: 50 :: 80 :: 15 :: 54 :: 55 :: 130 :: 214 :: 117 :: [])
theorem stepA : take H0 blkA = stA := by
  have h : takeF H0 blkA id = stA := by kernel_rfl
  rw [takeF_eq] at h
  exact h
theorem stepB : take H0 blkB = stB := by
  have h : takeF H0 blkB id = stB := by kernel_rfl
  rw [takeF_eq] at h
  exact h
theorem stepC : take stB blkC = stC := by
  have h : takeF stB blkC id = stC := by kernel_rfl
  rw [takeF_eq] at h
  exact h
theorem E_blk {s : S8} {b : List Nat} (h : b.length = 64) : E s b = (take s b, []) := by
  rw [E_more (by omega), List.take_of_length_le (by omega), List.drop_eq_nil_of_le (by omega), E_none (by decide)]
theorem sumA : sumB (84 :: 97 :: 112 :: 76 :: 101 :: 97 :: 102 :: []) = digA := by
  have hl : Go.Proofs.YtpnbpojpcbnejaaGreat.lastOf (84 :: 97 :: 112 :: 76 :: 101 :: 97 :: 102 :: []) 7 = blkA := by kernel_rfl
  have hE : E H0 (84 :: 97 :: 112 :: 76 :: 101 :: 97 :: 102 :: []) = (H0, (84 :: 97 :: 112 :: 76 :: 101 :: 97 :: 102 :: [])) := E_none (by decide)
  unfold sumB fin
  rw [hE]
  show dig (E H0 (Go.Proofs.YtpnbpojpcbnejaaGreat.lastOf (84 :: 97 :: 112 :: 76 :: 101 :: 97 :: 102 :: []) 7)).1 = _
  rw [hl, E_blk (by kernel_rfl), stepA]
  kernel_rfl
theorem sumC : tagB (84 :: 97 :: 112 :: 76 :: 101 :: 97 :: 102 :: []) (192 :: 1 :: 81 :: []) = digC := by
  have hb : digA ++ (digA ++ (192 :: 1 :: 81 :: [])) = blkB ++ (192 :: 1 :: 81 :: []) := by kernel_rfl
  have hl : Go.Proofs.YtpnbpojpcbnejaaGreat.lastOf (192 :: 1 :: 81 :: []) 67 = blkC := by kernel_rfl
  have hE : E H0 (blkB ++ (192 :: 1 :: 81 :: [])) = (stB, (192 :: 1 :: 81 :: [])) := by
    have h1 : E H0 blkB = (stB, []) := by rw [E_blk (by kernel_rfl), stepB]
    have h2 : E stB (192 :: 1 :: 81 :: []) = (stB, (192 :: 1 :: 81 :: [])) := E_none (by decide)
    rw [E_app _ _ _ _ (Nat.le_refl _), h1]
    exact h2
  unfold tagB
  rw [sumA, hb]
  unfold sumB fin
  rw [hE]
  show dig (E stB (Go.Proofs.YtpnbpojpcbnejaaGreat.lastOf (192 :: 1 :: 81 :: []) 67)).1 = _
  rw [hl, E_blk (by kernel_rfl), stepC]
  kernel_rfl
end Go.Sha

/-
  The live question of layer 16.
-/
namespace Go.Proofs.YtpnbpojpcbnejaaGreat
open Go.Am Go.Sha
set_option linter.unusedSimpArgs false
set_option linter.unusedVariables false

theorem leafB81 : leafB [81] = digC := by
  have e : putSize [81].length ++ [81] = (1 :: 81 :: []) := by kernel_rfl
  unfold leafB
  rw [e]
  exact sumC

theorem ints_cb (l : List Nat) : intsOf .u8 (cb l) = some (l.map fun (x : Nat) => (x : Int)) := by
  have := ints_map .u8 (l.map fun (x : Nat) => (x : Int))
  rw [List.map_map] at this
  exact this
theorem natmap_inj {a b : List Nat} : (a.map fun (x : Nat) => (x : Int)) = b.map (fun (x : Nat) => (x : Int)) ↔ a = b := by
  constructor
  · intro h
    have := congrArg (List.map Int.toNat) h
    simpa [List.map_map, Function.comp_def] using this
  · rintro rfl; rfl
theorem snap1_app {hp : Hp} {I : Nat → Prop} {a a' : List AV} : ∀ (l : List AV), (∀ c, c ∈ l → c.deep1) → (∀ (i : Nat) (c c' : AV), a[i]? = some c → a'[i]? = some c' → Snap1 hp I c c') → ∀ (i : Nat) (c c' : AV), (l ++ a)[i]? = some c → (l ++ a')[i]? = some c' → Snap1 hp I c c'
  | [], _, h => h
  | x :: l, hl, h => snap1_cons (snap1_same (hl x (List.mem_cons_self ..))) (snap1_app l (fun c hc => hl c (List.mem_cons_of_mem _ hc)) h)
theorem leaf_snap {hp : Hp} {I : Nat → Prop} {inner : List Nat} {a b a' b' : AV} (ha : Snap1 hp I a a') (hb : Snap1 hp I b b') : Snap hp I (.agg (leafC inner a b)) (.agg (leafC inner a' b')) :=
  .agg ⟨by simp [leafC], snap1_app _ (cb_deep _) (snap1_cons ha (snap1_cons hb snap1_nil))⟩
theorem cb_flat (l : List Nat) : ∀ c, c ∈ cb l → c.flat1 := by
  intro c hc
  simp only [cb, List.mem_map] at hc
  obtain ⟨x, _, rfl⟩ := hc
  trivial

end Go.Proofs.YtpnbpojpcbnejaaGreat

/-
  The law TreeSorted.
-/
namespace Go.Proofs.YtpnbpojpcbnejaaGreat
open Go.Am Go.Sha
set_option linter.unusedSimpArgs false
set_option linter.unusedVariables false

theorem cmp_anti : ∀ (x y : List UInt8), (0 < Lib.compareBytes x y ↔ Lib.compareBytes y x < 0) ∧ (Lib.compareBytes x y = 0 → x = y)
  | [], [] => by simp [Lib.compareBytes]
  | [], _ :: _ => by simp [Lib.compareBytes]
  | _ :: _, [] => by simp [Lib.compareBytes]
  | a :: x, b :: y => by
    have ih := cmp_anti x y
    simp only [Lib.compareBytes]
    by_cases h1 : a < b
    · have h2 : ¬ b < a := fun h => by
        have := UInt8.lt_iff_toNat_lt.1 h
        have := UInt8.lt_iff_toNat_lt.1 h1
        omega
      simp [h1, h2]
    · by_cases h2 : b < a
      · simp [h1, h2]
      · have : a = b := UInt8.toNat_inj.1 (by
          have e1 : ¬ a.toNat < b.toNat := fun h => h1 (UInt8.lt_iff_toNat_lt.2 h)
          have e2 : ¬ b.toNat < a.toNat := fun h => h2 (UInt8.lt_iff_toNat_lt.2 h)
          omega)
        subst this
        simp only [h1, if_false]
        exact ⟨ih.1, fun h => by rw [ih.2 h]⟩
def bytes (l : List Nat) : Prop := ∀ x, x ∈ l → x < 256
theorem u8s_inj : ∀ {a b : List Nat}, bytes a → bytes b → u8s a = u8s b → a = b
  | [], [], _, _, _ => rfl
  | [], _ :: _, _, _, h => by simp [u8s, Lib.bytesOf] at h
  | _ :: _, [], _, _, h => by simp [u8s, Lib.bytesOf] at h
  | x :: a, y :: b, ha, hb, h => by
    have hx := ha x (List.mem_cons_self ..)
    have hy := hb y (List.mem_cons_self ..)
    simp [u8s, Lib.bytesOf] at h
    obtain ⟨h1, h2⟩ := h
    have := u8s_inj (fun z hz => ha z (List.mem_cons_of_mem _ hz)) (fun z hz => hb z (List.mem_cons_of_mem _ hz)) (by simpa [u8s, Lib.bytesOf] using h2)
    have e : x = y := by
      have := congrArg UInt8.toNat h1
      rw [UInt8.toNat_ofNat', UInt8.toNat_ofNat', Nat.mod_eq_of_lt (by omega), Nat.mod_eq_of_lt (by omega)] at this
      exact this
    rw [this, e]
theorem branchB_comm {a b : List Nat} (ha : bytes a) (hb : bytes b) : branchB a b = branchB b a := by
  unfold branchB
  obtain ⟨h1, h2⟩ := cmp_anti (u8s a) (u8s b)
  obtain ⟨h3, h4⟩ := cmp_anti (u8s b) (u8s a)
  by_cases c1 : 0 < Lib.compareBytes (u8s a) (u8s b)
  · have c2 : ¬ 0 < Lib.compareBytes (u8s b) (u8s a) := by have := h1.1 c1; omega
    rw [if_pos c1, if_neg c2]
  · by_cases c2 : 0 < Lib.compareBytes (u8s b) (u8s a)
    · rw [if_neg c1, if_pos c2]
    · have h0 : Lib.compareBytes (u8s a) (u8s b) = 0 := by
        have : ¬ Lib.compareBytes (u8s a) (u8s b) < 0 := fun h => c2 (h3.2 h)
        omega
      have := u8s_inj ha hb (h2 h0)
      subst this
      rfl

theorem leaf_deep {inner : List Nat} {a b : AV} (ha : a.deep1) (hb : b.deep1) : (AV.agg (leafC inner a b)).deep := by
  intro c hc
  simp only [leafC, List.mem_append, List.mem_cons, List.mem_nil_iff, or_false] at hc
  rcases hc with hc | rfl | rfl
  · exact cb_deep _ _ hc
  · exact ha
  · exact hb
theorem leafset {inner : List Nat} (hi : inner.length = 32) (a b w : AV) (r : List AV) : (cb inner ++ a :: b :: r).set 32 w = cb inner ++ w :: b :: r := by
  rw [List.set_append_right _ _ (by rw [cb_len]; omega), cb_len, hi]; rfl
theorem zleaf_drop : List.drop 34 (cb z32 ++ [AV.nil, AV.nil]) = [] := rfl
theorem rootB_len : ∀ (ps : List (List Nat)) {h : List Nat}, h.length = 32 → (rootB ps h).length = 32
  | [], h, hh => hh
  | p :: r, h, _ => rootB_len r (branchB_len h p)
theorem cb_deepA (l : List Nat) : (AV.agg (cb l)).deep := cb_deep l

set_option maxRecDepth 100000
/-- 32 bytes, as an argument. -/
theorem tyfs_rep {n : Nat} : ∀ (m : Nat) {ds : List DV}, TyFs (TyD Tryz.prog (n + 1)) Tryz.prog.cellsOf (List.replicate m 5) ds → ∃ l : List Nat, ds = cd l ∧ l.length = m ∧ bytes l
  | 0, ds, h => ⟨[], by simpa [TyFs, cd] using h, rfl, fun _ h => by simp at h⟩
  | m + 1, ds, h => by
    rw [List.replicate_succ] at h
    obtain ⟨a, b, rfl, _, h2, h3⟩ := h
    simp only [TyD, Tryz.underlying5] at h2
    obtain ⟨x, rfl, hx⟩ := h2
    obtain ⟨l, rfl, hl, hb⟩ := tyfs_rep m h3
    have hx' : 0 ≤ x ∧ x < 256 := by simp [IntKind.has, IntKind.min, IntKind.max, IntKind.signed, IntKind.bits] at hx; omega
    refine ⟨x.toNat :: l, ?_, by simp [hl], fun y hy => ?_⟩
    · simp only [cd, List.map_cons, List.cons_append, List.nil_append]
      rw [show ((x.toNat : Nat) : Int) = x by omega]
    · rcases List.mem_cons.1 hy with rfl | hy
      · omega
      · exact hb y hy
theorem ty_h32 {n : Nat} {ds : List DV} (h : TyD Tryz.prog (n + 2) 22 ds) : ∃ l : List Nat, ds = cd l ∧ l.length = 32 ∧ bytes l := by
  rw [TyD] at h
  simp only [Tryz.underlying22] at h
  exact tyfs_rep 32 h
theorem arg_h32 {n : Nat} {a : AV} (h : ArgTy Tryz.prog (n + 2) 22 a) : ∃ l : List Nat, a = .agg (cb l) ∧ l.length = 32 ∧ bytes l := by
  unfold ArgTy at h
  simp only [Tryz.underlying22] at h
  obtain ⟨ds, rfl, h⟩ := h
  obtain ⟨l, rfl, h1, h2⟩ := ty_h32 h
  exact ⟨l, by rw [cd_map], h1, h2⟩
theorem ty_bytes {n : Nat} {d : DV} (h : TyD Tryz.prog (n + 2) 29 [d]) : ∃ bs : List Nat, d = nb bs ∧ bs.length ≤ maxLen ∧ bytes bs := by
  simp only [TyD, Tryz.underlying29, List.cons.injEq, and_true] at h
  obtain ⟨es, rfl, hl, hr⟩ := h
  obtain ⟨bs, rfl, hbs⟩ := map_of (enc := fun b : Nat => [DV.int .u8 (b : Int)]) (R := fun b => b < 256) (es := es) (fun r hr' => by
    obtain ⟨h1, h2⟩ := hr r hr'
    simp only [Tryz.underlying5] at h1
    obtain ⟨x, rfl, hx⟩ := h1
    have hx' : 0 ≤ x ∧ x < 256 := by simp [IntKind.has, IntKind.min, IntKind.max, IntKind.signed, IntKind.bits] at hx; omega
    exact ⟨x.toNat, by rw [show ((x.toNat : Nat) : Int) = x by omega], by omega⟩)
  exact ⟨bs, by rw [show Tryz.prog.cellsOf 5 = 1 by kernel_rfl]; rfl, by simpa using hl, hbs⟩
theorem ty_hs32 {n : Nat} {d : DV} (h : TyD Tryz.prog (n + 3) 74 [d]) : ∃ ps : List (List Nat), d = hs32 ps ∧ ∀ p, p ∈ ps → p.length = 32 ∧ bytes p := by
  rw [TyD] at h
  simp only [Tryz.underlying74, List.cons.injEq, and_true] at h
  obtain ⟨es, rfl, hl, hr⟩ := h
  obtain ⟨ps, rfl, hps⟩ := map_of (enc := cd) (R := fun p => p.length = 32 ∧ bytes p) (es := es) (fun r hr' => by
    obtain ⟨l, rfl, h1, h2⟩ := ty_h32 (hr r hr').1
    exact ⟨l, rfl, h1, h2⟩)
  exact ⟨ps, by rw [show Tryz.prog.cellsOf 22 = 32 by kernel_rfl]; rfl, hps⟩
theorem arg_leaf {n : Nat} {a : AV} (h : ArgTy Tryz.prog (n + 4) 76 a) : ∃ (inner : List Nat) (ps : List (List Nat)) (x : List Nat), a = .agg (leafC inner (.d (hs32 ps)) (.d (nb x))) ∧ inner.length = 32 ∧ bytes inner ∧ (∀ p, p ∈ ps → p.length = 32 ∧ bytes p) ∧ x.length ≤ maxLen ∧ bytes x := by
  unfold ArgTy at h
  simp only [Tryz.underlying76] at h
  obtain ⟨ds, rfl, h⟩ := h
  rw [TyD] at h
  simp only [Tryz.underlying76, List.map_cons, List.map_nil] at h
  obtain ⟨a, b, rfl, ha, ha2, a', b', rfl, hb, hb2, a3, b3, rfl, hc, hc2, rfl⟩ := h
  obtain ⟨inner, rfl, h1, h2⟩ := ty_h32 ha2
  rw [show Tryz.prog.cellsOf 74 = 1 by kernel_rfl] at hb
  rw [show Tryz.prog.cellsOf 29 = 1 by kernel_rfl] at hc
  match a', hb, hb2, a3, hc, hc2 with
  | [y], _, hb2, [z], _, hc2 =>
    obtain ⟨ps, rfl, h3⟩ := ty_hs32 hb2
    obtain ⟨x, rfl, h4, h5⟩ := ty_bytes hc2
    exact ⟨inner, ps, x, by simp [leafC, cd_map], h1, h2, h3, h4, h5⟩

end Go.Proofs.YtpnbpojpcbnejaaGreat

/-
  SHA-256: the other text's way to reckon, and that it comes to the same. No program in sight.
-/
namespace Go.Sha
open Go.Am
set_option linter.unusedSimpArgs false
set_option linter.unusedVariables false

/-- turned to the right -/
def ror (n x : Nat) : Nat := o32 (r32 n x) (s32 (32 - n) x)
theorem ror_rol {n x : Nat} (h : n ≤ 32) : ror n x = rol (32 - n) x := by
  unfold ror rol o32
  rw [Nat.or_comm, show 32 - (32 - n) = n by omega]
theorem a32_comm (a b : Nat) : a32 a b = a32 b a := by unfold a32; rw [Nat.add_comm]
theorem x32_c (e : Nat) : x32 e 4294967295 = c32 e := by unfold x32 c32; rw [Nat.xor_comm]

theorem or_lt {x i c : Nat} (h : c < 2 ^ i) : x * 2 ^ i ||| c = x * 2 ^ i + c := by
  rw [← Nat.shiftLeft_eq, Nat.shiftLeft_add_eq_or_of_lt h]
def word4 (a b c d : Nat) : Nat := o32 (o32 (o32 (s32 24 (t32 a)) (s32 16 (t32 b))) (s32 8 (t32 c))) (t32 d)
theorem o32_lt {x i c : Nat} (hx : x * 2 ^ i + c < 4294967296) (h : c < 2 ^ i) : o32 (x * 2 ^ i) c = x * 2 ^ i + c := by
  unfold o32
  rw [or_lt h, Nat.mod_eq_of_lt hx]
theorem t32_lt {x : Nat} (h : x < 4294967296) : t32 x = x := Nat.mod_eq_of_lt h
theorem s32_lt {x i : Nat} (h : x * 2 ^ i < 4294967296) : s32 i x = x * 2 ^ i := Nat.mod_eq_of_lt h
theorem o8 {x y : Nat} (hx : x < 16777216) (hy : y < 256) : o32 (s32 8 x) (t32 y) = x * 256 + y := by
  rw [t32_lt (by omega), s32_lt (by omega), o32_lt (by omega) (by omega)]
theorem word4_eq {a b c d : Nat} (ha : a < 256) (hb : b < 256) (hc : c < 256) (hd : d < 256) : word4 a b c d = word [a, b, c, d] := by
  have r : word [a, b, c, d] = ((a * 256 + b) * 256 + c) * 256 + d := by
    unfold word
    simp only [List.foldl_cons, List.foldl_nil]
    rw [o8 (by omega) ha, o8 (by omega) hb, o8 (by omega) hc, o8 (by omega) hd]
    omega
  rw [r]
  unfold word4
  rw [t32_lt (by omega : a < 4294967296), t32_lt (by omega : b < 4294967296), t32_lt (by omega : c < 4294967296), t32_lt (by omega : d < 4294967296), s32_lt (by omega), s32_lt (by omega), s32_lt (by omega)]
  rw [o32_lt (by omega) (by omega)]
  rw [show a * 2 ^ 24 + b * 2 ^ 16 = (a * 2 ^ 8 + b) * 2 ^ 16 by omega]
  rw [o32_lt (by omega) (by omega)]
  rw [show (a * 2 ^ 8 + b) * 2 ^ 16 + c * 2 ^ 8 = ((a * 2 ^ 8 + b) * 2 ^ 8 + c) * 2 ^ 8 by omega]
  rw [o32_lt (by omega) (by omega)]

/-- The next word, summed in the other order. -/
def wx2 (w : List Nat) : Nat :=
  let t := w.length
  let x := w.getD (t - 15) 0
  let y := w.getD (t - 2) 0
  let s0 := x32 (x32 (ror 7 x) (ror 18 x)) (r32 3 x)
  let s1 := x32 (x32 (ror 17 y) (ror 19 y)) (r32 10 y)
  a32 (a32 (a32 s1 (w.getD (t - 7) 0)) s0) (w.getD (t - 16) 0)
theorem wx2_eq (w : List Nat) : wx2 w = wx w := by
  unfold wx2 wx
  simp only [ror_rol (show 7 ≤ 32 by omega), ror_rol (show 18 ≤ 32 by omega), ror_rol (show 17 ≤ 32 by omega), ror_rol (show 19 ≤ 32 by omega)]
  generalize x32 (x32 (rol (32 - 7) (w.getD (w.length - 15) 0)) (rol (32 - 18) (w.getD (w.length - 15) 0))) (r32 3 (w.getD (w.length - 15) 0)) = s0
  generalize x32 (x32 (rol (32 - 17) (w.getD (w.length - 2) 0)) (rol (32 - 19) (w.getD (w.length - 2) 0))) (r32 10 (w.getD (w.length - 2) 0)) = s1
  unfold a32
  omega
/-- So many words of a block. -/
def wds (b : List Nat) (t : Nat) : List Nat := if t ≤ 16 then wfirst b t else wmore b (t - 16)
theorem wds_len (b : List Nat) (t : Nat) : (wds b t).length = t := by
  unfold wds
  split
  · exact wfirst_len b t
  · rw [wmore_len]; omega
theorem wds_lo {b : List Nat} {t : Nat} (h : t < 16) : wds b (t + 1) = wds b t ++ [word ((b.take (4 * t + 4)).drop (4 * t))] := by
  unfold wds
  rw [if_pos (by omega), if_pos (by omega)]
  rfl
theorem wds_hi {b : List Nat} {t : Nat} (h : 16 ≤ t) : wds b (t + 1) = wds b t ++ [wx (wds b t)] := by
  have e : wds b t = wmore b (t - 16) := by
    unfold wds
    split
    · have : t = 16 := by omega
      subst this
      rfl
    · rfl
  rw [e]
  unfold wds
  rw [if_neg (by omega), show t + 1 - 16 = (t - 16) + 1 by omega]
  rfl
theorem wds_end (b : List Nat) : wds b 64 = sched b := rfl

/-- What is hashed, padded as a whole. -/
theorem padTo_app {a : List Nat} (ha : a.length % 64 = 0) : ∀ (n : Nat) (l : List Nat), Go.Proofs.YtpnbpojpcbnejaaGreat.padTo n (a ++ l) = a ++ Go.Proofs.YtpnbpojpcbnejaaGreat.padTo n l
  | 0, l => rfl
  | n + 1, l => by
    unfold Go.Proofs.YtpnbpojpcbnejaaGreat.padTo
    have : (a ++ l).length % 64 = l.length % 64 := by rw [List.length_append]; omega
    rw [this]
    split
    · rfl
    · rw [List.append_assoc]
      exact padTo_app ha n (l ++ [0])
theorem lastOf_app {a l : List Nat} (ha : a.length % 64 = 0) (n : Nat) : Go.Proofs.YtpnbpojpcbnejaaGreat.lastOf (a ++ l) n = a ++ Go.Proofs.YtpnbpojpcbnejaaGreat.lastOf l n := by
  unfold Go.Proofs.YtpnbpojpcbnejaaGreat.lastOf
  rw [List.append_assoc, padTo_app ha, List.append_assoc]
theorem E_last (n : Nat) : ∀ (k : Nat) (s : S8) (b : List Nat), b.length ≤ k → E s (Go.Proofs.YtpnbpojpcbnejaaGreat.lastOf b n) = E (E s b).1 (Go.Proofs.YtpnbpojpcbnejaaGreat.lastOf (E s b).2 n)
  | 0, s, b, h => by rw [E_none (b := b) (by omega)]
  | k + 1, s, b, h => by
    by_cases h64 : 64 ≤ b.length
    · rw [E_more (b := b) h64]
      have e : Go.Proofs.YtpnbpojpcbnejaaGreat.lastOf b n = b.take 64 ++ Go.Proofs.YtpnbpojpcbnejaaGreat.lastOf (b.drop 64) n := by
        rw [← lastOf_app (by rw [List.length_take]; omega), List.take_append_drop]
      have h3 : 64 ≤ (b.take 64 ++ Go.Proofs.YtpnbpojpcbnejaaGreat.lastOf (b.drop 64) n).length := by simp; omega
      rw [e, E_more h3]
      have hl : (b.take 64).length = 64 := by rw [List.length_take]; omega
      rw [List.take_append_of_le_length (by omega), List.drop_append_of_le_length (by omega), List.take_of_length_le (by omega : (b.take 64).length ≤ 64), List.drop_eq_nil_of_le (by omega), List.nil_append]
      exact E_last n k _ _ (by rw [List.length_drop]; omega)
    · rw [E_none (b := b) (by omega)]
theorem sumB_whole (b : List Nat) : sumB b = dig (E H0 (Go.Proofs.YtpnbpojpcbnejaaGreat.lastOf b b.length)).1 := by
  unfold sumB fin
  rw [E_last b.length b.length H0 b (Nat.le_refl _)]
/-- One sum of numbers behind another. -/
def addL (h : List Nat) : Nat → List Nat → List Nat
  | 0, v => v
  | i + 1, v => (addL h i v).set i (a32 ((addL h i v).getD i 0) (h.getD i 0))
theorem addL_len (h : List Nat) (v : List Nat) : ∀ i, (addL h i v).length = v.length
  | 0 => rfl
  | i + 1 => by simp [addL, addL_len h v i]
theorem addL_end (s v : S8) : addL s.l 8 v.l = (s8add s v).l := by
  simp [addL, S8.l, s8add, a32_comm]
end Go.Sha

/-
  The other text's SHA-256: turned words, the numbers of the steps, padded bytes.
-/
namespace Go.Proofs.YtpnbpojpcbnejaaGreat
open Go.Am Go.Sha
set_option linter.unusedSimpArgs false
set_option linter.unusedVariables false

/-- Words, as what is read-only. -/
def nw (l : List Nat) : DV := .ro 1 (l.map fun (x : Nat) => [.int .u32 (x : Int)])
/-- Words as rows. -/
def rw4 (l : List Nat) : List (List AV) := l.map fun (x : Nat) => [.d (.int .u32 (x : Int))]
theorem rw4_len (l : List Nat) : (rw4 l).length = l.length := by simp [rw4]
theorem rw4_low (n : Nat) (l : List Nat) : ∀ r, r ∈ rw4 l → ∀ v, v ∈ r → v.low1 n := by
  intro r hr v hv
  simp only [rw4, List.mem_map] at hr
  obtain ⟨x, _, rfl⟩ := hr
  simp at hv
  subst hv
  trivial
theorem rw4_snoc (a : List Nat) (x : Nat) : rw4 a ++ [[AV.d (.int .u32 (x : Int))]] = rw4 (a ++ [x]) := by simp [rw4]
theorem rw4_of (a : List Nat) : List.map ((fun r => List.map AV.d r) ∘ fun (x : Nat) => [DV.int .u32 (x : Int)]) a = rw4 a := by simp [rw4]
theorem rw4_get (l : List Nat) (i : Nat) : (rw4 l)[i]? = (l[i]?).map fun (x : Nat) => [AV.d (.int .u32 (x : Int))] := by simp [rw4]
theorem rw4_set (l : List Nat) (i x : Nat) : (rw4 l).set i [.d (.int .u32 (x : Int))] = rw4 (l.set i x) := by simp [rw4, List.map_set]
theorem rw4_row (l : List Nat) : rw4 l = (l.map fun (x : Nat) => [DV.int .u32 (x : Int)]).map fun r => r.map .d := by simp [rw4]
theorem snap_rw4 {hp : Hp} {I : Nat → Prop} {id : Nat} {L : List Nat} (hb : lk id hp = some ⟨23, 1, rw4 L⟩) (hI : I id) : SnapD hp I (.own id 0 L.length L.length) (nw L) := by
  rw [rw4_row] at hb
  exact snap_row hb hI (by simp) (fun r hr => by
    rw [List.mem_map] at hr
    obtain ⟨x, _, rfl⟩ := hr
    rfl)
theorem post_words {Q : AV → Prop} {st : St} {id : Nat} {L : List Nat} (hb : lk id st.hp = some ⟨23, 1, rw4 L⟩) (hq : Q (.d (nw L))) : PostK Q (.own id 0 L.length L.length) st :=
  post_one (snap1_d (snap_rw4 hb trivial)) trivial hq

theorem turn_fn (x n : Nat) (m : Int) (hm : m = (n : Int)) (h : n ≤ 32) : Rets Tryz.prog 234 [.d (.int .u32 (x : Int)), .d (.int .u64 m)] (fun r => r = .d (.int .u32 ((ror n x : Nat) : Int))) := by
  subst hm
  refine fn_of_awp Tryz.func234 (by kernel_rfl) rfl Tryz.ntmps234 (rs := [.tmp 4]) rfl (Nat.le_of_ble_eq_true rfl) (by simp [AV.deep, AV.deep1]) ?_
  have w1 : IntKind.u64.wrap (32 - (n : Int)) = ((32 - n : Nat) : Int) := by rw [u64w]; omega
  have m1 : min n 32 = n := by omega
  have m2 : min (32 - n) 32 = 32 - n := by omega
  simp [go_sem, w1, IntKind.bits, m1, m2, d_r, w_shl, w_or, resV]
  exact post_same (by simp [AV.deep, AV.deep1]) rfl

set_option maxRecDepth 100000 in
theorem stepsR_fn : Rets Tryz.prog 212 [] (fun r => r = .d (nw K)) := by
  refine fn_of_awp Tryz.func212 (by kernel_rfl) rfl Tryz.ntmps212 (rs := [.tmp 0]) rfl (Nat.le_of_ble_eq_true rfl) (by simp) ?_
  simp [go_sem, resV]
  exact post_words (L := K) (by kernel_rfl) rfl

set_option maxHeartbeats 1000000 in
theorem padded_fn (b : List Nat) (hb : b.length ≤ 100000000000) : Rets Tryz.prog 213 [.d (nb b)] (fun r => r = .d (nb (lastOf b b.length))) := by
  refine fn_of_awp Tryz.func213 (by kernel_rfl) rfl Tryz.ntmps213 (rs := [.tmp 2]) rfl (Nat.le_of_ble_eq_true rfl) (by simp [AV.deep, AV.deep1]) ?_
  simp [go_sem, nb, rb_of, rb_snoc128, rb_len]
  refine ⟨by omega, by omega, ?_⟩
  refine loop_of (fun l : List Nat => ⟨[(0, .d (nb b)), (3, .own 32 0 l.length l.length)], [(32, ⟨5, 1, rb l⟩)], 288⟩)
    (fun l => l.length ≤ 100000000000 + 65 ∧ ∃ k, (120 - l.length % 64) % 64 ≤ k ∧ (k + l.length ≤ 100000000000 + 65) ∧ padTo k l = padTo 64 (b ++ [128])) (fun l => (120 - l.length % 64) % 64) (b ++ [128]) ⟨by simp; omega, 64, by omega, by simp; omega, rfl⟩ (by
      simp [Weak, slotOk, fv, lk, AV.low, AV.low1, nb]
      exact rb_low _ _) ?_
  rintro l ⟨hl1, k, hk, hk2, hP⟩
  have em : Int.tmod (l.length : Int) 64 = ((l.length % 64 : Nat) : Int) := tmod64 _
  simp only [go_sem, Nat.reduceEqDiff, Nat.reduceAdd, Nat.reduceLT, ↓reduceIte, em]
  refine ⟨by decide, fun h => ?_, fun h => ?_⟩
  · have h56 : l.length % 64 ≠ 56 := by omega
    rw [padTo_step h56 (by omega)] at hP
    refine ⟨by decide, rb_len l, by omega, ?_⟩
    rw [rb_snoc0]
    refine next_of (l ++ [0]) ⟨by simp; omega, k - 1, by simp; omega, by simp; omega, hP⟩ (by simp; omega) ?_
    simp [Weak, slotOk, fv, lk, AV.low, AV.low1, nb]
    exact rb_low _ _
  · have h56 : l.length % 64 = 56 := by omega
    rw [padTo_end h56] at hP
    have hm8 : IntKind.u64.wrap (IntKind.u64.wrap (b.length : Int) * 8) = ((b.length * 8 % 18446744073709551616 : Nat) : Int) := by rw [u64w, u64w]; omega
    simp only [go_sem, Nat.reduceEqDiff, Nat.reduceAdd, Nat.reduceLT, ↓reduceIte, nb, hm8]
    have hm : lastOf b b.length = l ++ len8 (b.length * 8 % 18446744073709551616) 8 := by unfold lastOf; rw [← hP]
    rw [hm]
    generalize b.length * 8 % 18446744073709551616 = m
    clear hm hm8 hP hk hk2
    refine loop_of (fun j : Nat => ⟨[(3, .own 32 0 (l ++ len8 m j).length (l ++ len8 m j).length), (4, .d (.int .u64 (m : Int))), (5, .d (.int .i64 (j : Int)))], [(32, ⟨5, 1, rb (l ++ len8 m j)⟩)], 800⟩)
      (fun j => j ≤ 8) (fun j => 8 - j) 0 (by omega) (by
        simp [Weak, slotOk, fv, lk, AV.low, AV.low1, len8]
        exact rb_low _ _) ?_
    intro j hj
    have hll : (l ++ len8 m j).length = l.length + j := by rw [List.length_append, len8_len]
    simp only [go_sem, Nat.reduceEqDiff, Nat.reduceAdd, Nat.reduceLT, ↓reduceIte]
    refine ⟨fun h => ?_, fun h => ?_⟩
    · have hj7 : j ≤ 7 := by omega
      have w1 : IntKind.i64.wrap (8 * (j : Int)) = ((8 * j : Nat) : Int) := by rw [IntWalk.i64_in _ (by omega)]; omega
      have w2 : IntKind.i64.wrap (56 - ((8 * j : Nat) : Int)) = ((56 - 8 * j : Nat) : Int) := by rw [IntWalk.i64_in _ (by omega)]; omega
      have w3 : IntKind.u64.wrap ((56 - 8 * j : Nat) : Int) = ((56 - 8 * j : Nat) : Int) := by rw [u64w]; omega
      have w4 : min (56 - 8 * j) 64 = 56 - 8 * j := by omega
      have w5 := next_i64 (k := j) (by omega)
      have es : rb (l ++ len8 m j) ++ [[AV.d (.int .u8 ((t8 (r32 (56 - 8 * j) m) : Nat) : Int))]] = rb (l ++ len8 m (j + 1)) := by rw [rb_snoc, List.append_assoc]; rfl
      simp only [go_sem, Nat.reduceEqDiff, Nat.reduceAdd, Nat.reduceLT, ↓reduceIte, IntKind.bits, w1, w2, w3, w4, d_r, w8_nat, es, rb_len, w5]
      refine ⟨by omega, by have := len8_len m j; omega, ?_⟩
      refine next_of (j + 1) (by omega) (by omega) ?_
      have hl8 : (len8 m (j + 1)).length = (len8 m j).length + 1 := by rw [len8_len, len8_len]
      simp [Weak, slotOk, fv, lk, AV.low, AV.low1, hl8]
      exact ⟨by omega, rb_low _ _⟩
    · have hj8 : j = 8 := by omega
      subst hj8
      rw [← List.length_append]
      exact post_bytes (id := 32) (L := l ++ len8 m 8) rfl rfl
end Go.Proofs.YtpnbpojpcbnejaaGreat

/-
  The other text's SHA-256: a block.
-/
namespace Go.Proofs.YtpnbpojpcbnejaaGreat
open Go.Am Go.Sha
set_option linter.unusedSimpArgs false
set_option linter.unusedVariables false

theorem w_s16 (a : Nat) : IntKind.u32.wrap ((a : Int) * 65536) = ((s32 16 a : Nat) : Int) := w_mul a 65536
theorem w_s24 (a : Nat) : IntKind.u32.wrap ((a : Int) * 16777216) = ((s32 24 a : Nat) : Int) := w_mul a 16777216
theorem w_xorc (a : Nat) : bits .xor .u32 (a : Int) 4294967295 = ((c32 a : Nat) : Int) := (w_xor a 4294967295).trans (by rw [x32_c])
theorem rw4_ren (ρ : Nat → Nat) (L : List Nat) : List.map (AV.renL ρ) (rw4 L) = rw4 L := by
  simp [rw4, AV.renL, AV.ren]
theorem four {b : List Nat} {k : Nat} (h : k + 4 ≤ b.length) : ∃ x0 x1 x2 x3, b[k]? = some x0 ∧ b[k + 1]? = some x1 ∧ b[k + 2]? = some x2 ∧ b[k + 3]? = some x3 ∧ (b.take (k + 4)).drop k = [x0, x1, x2, x3] := by
  refine ⟨b[k], b[k + 1], b[k + 2], b[k + 3], List.getElem?_eq_getElem _, List.getElem?_eq_getElem _, List.getElem?_eq_getElem _, List.getElem?_eq_getElem _, ?_⟩
  rw [List.drop_take, show k + 4 - k = 4 by omega, List.drop_eq_getElem_cons (by omega : k < b.length), List.drop_eq_getElem_cons (by omega : k + 1 < b.length), List.drop_eq_getElem_cons (by omega : k + 1 + 1 < b.length), List.drop_eq_getElem_cons (by omega : k + 1 + 1 + 1 < b.length)]
  rfl

set_option maxHeartbeats 4000000 in
theorem blockR_fn (s : S8) (b : List Nat) (hb : b.length = 64) (hby : ∀ x, x ∈ b → x < 256) : Rets Tryz.prog 214 [.d (nw s.l), .d (nw K), .d (nb b)] (fun r => r = .d (nw (Go.Sha.take s b).l)) := by
  refine fn_of_awp Tryz.func214 (by kernel_rfl) rfl Tryz.ntmps214 (rs := [.tmp 6]) rfl (Nat.le_of_ble_eq_true rfl) (by simp [AV.deep, AV.deep1]) ?_
  simp only [go_sem, Nat.reduceEqDiff, Nat.reduceAdd, Nat.reduceLT, ↓reduceIte, Nat.reduceMul]
  refine ⟨by omega, ?_⟩
  refine loop_of (fun t : Nat => ⟨[(0, .d (nw s.l)), (1, .d (nw K)), (2, .d (nb b)), (7, .own 32 0 t t), (8, .d (.int .i64 (t : Int)))], [(32, ⟨23, 1, rw4 (wds b t)⟩)], 128⟩)
    (fun t => t ≤ 64) (fun t => 64 - t) 0 (by omega) (by
      simp [Weak, slotOk, fv, lk, AV.low, AV.low1, nw, nb]
      exact ⟨rfl, rw4_low _ _⟩) ?_
  intro t ht
  have hwl := wds_len b t
  simp only [go_sem, Nat.reduceEqDiff, Nat.reduceAdd, Nat.reduceLT, ↓reduceIte, Nat.reduceMul]
  refine ⟨fun h => ?_, fun h => ?_⟩
  · by_cases h16 : t < 16
    · have i16 : (t : Int) < 16 := by omega
      obtain ⟨x0, x1, x2, x3, g0, g1, g2, g3, g4⟩ := four (b := b) (k := 4 * t) (by omega)
      have hw4 := word4_eq (hby x0 (List.mem_of_getElem? g0)) (hby x1 (List.mem_of_getElem? g1)) (hby x2 (List.mem_of_getElem? g2)) (hby x3 (List.mem_of_getElem? g3))
      rw [← g4] at hw4
      have hst := wds_lo (b := b) h16
      rw [← hw4] at hst
      unfold word4 at hst
      have w1 : IntKind.i64.wrap (4 * (t : Int)) = ((4 * t : Nat) : Int) := by rw [IntWalk.i64_in _ (by omega)]; omega
      have w2 : IntKind.i64.wrap (((4 * t : Nat) : Int) + 1) = ((4 * t + 1 : Nat) : Int) := by rw [IntWalk.i64_in _ (by omega)]; omega
      have w3 : IntKind.i64.wrap (((4 * t : Nat) : Int) + 2) = ((4 * t + 2 : Nat) : Int) := by rw [IntWalk.i64_in _ (by omega)]; omega
      have w4 : IntKind.i64.wrap (((4 * t : Nat) : Int) + 3) = ((4 * t + 3 : Nat) : Int) := by rw [IntWalk.i64_in _ (by omega)]; omega
      generalize 4 * t = q at *
      generalize q + 1 = q1 at g1 w2
      generalize q + 2 = q2 at g2 w3
      generalize q + 3 = q3 at g3 w4
      simp [go_sem, i16]
      apply draw2 (0 :: 1 :: 2 :: 3 :: 4 :: 5 :: 6 :: 7 :: 8 :: 9 :: 10 :: 11 :: 12 :: 13 :: 14 :: 15 :: 16 :: 17 :: 18 :: 19 :: 20 :: 21 :: 22 :: 23 :: 24 :: 25 :: 26 :: 27 :: 28 :: 29 :: 30 :: 31 :: 32 :: 33 :: []) ((34, ([])) :: (35, ([])) :: (36, ([])) :: []) 1 (k := 37) (by kernel_rfl) (by kernel_rfl) rfl
      case hz => repeat (first | exact Its.nil | apply Its.plain rfl | apply Its.guard rfl rfl)
      case hj => repeat (first | exact Jts.nil | exact Its.nil | apply Its.plain rfl | apply Its.guard rfl rfl | apply Jts.plain rfl | apply Jts.guard rfl rfl)
      intro G hG
      simp [go_sem, nb, w1, w2, w3, w4, g0, g1, g2, g3, IntKind.bits, w_nat, w_s8, w_s16, w_s24, w_or]
      rw [rw4_snoc, ← hst]
      refine ⟨rw4_len _ ▸ hwl, by omega, hG _ _ ?_⟩
      clear hG G
      have w5 := next_i64 (k := t) (by omega)
      simp [go_sem, w5]
      refine next_of (t + 1) (by omega) (by omega) ?_
      simp [Weak, slotOk, fv, lk, AV.low, AV.low1, nw, nb]
      exact rw4_low _ _
    · have i16 : ¬ (t : Int) < 16 := by omega
      have w1 : IntKind.i64.wrap ((t : Int) - 15) = ((t - 15 : Nat) : Int) := by rw [IntWalk.i64_in _ (by omega)]; omega
      have w2 : IntKind.i64.wrap ((t : Int) - 2) = ((t - 2 : Nat) : Int) := by rw [IntWalk.i64_in _ (by omega)]; omega
      have w3 : IntKind.i64.wrap ((t : Int) - 7) = ((t - 7 : Nat) : Int) := by rw [IntWalk.i64_in _ (by omega)]; omega
      have w4 : IntKind.i64.wrap ((t : Int) - 16) = ((t - 16 : Nat) : Int) := by rw [IntWalk.i64_in _ (by omega)]; omega
      have hst := wds_hi (b := b) (t := t) (by omega)
      have hx2 : wx2 (wds b t) = a32 (a32 (a32 (x32 (x32 (ror 17 ((wds b t).getD (t - 2) 0)) (ror 19 ((wds b t).getD (t - 2) 0))) (r32 10 ((wds b t).getD (t - 2) 0))) ((wds b t).getD (t - 7) 0)) (x32 (x32 (ror 7 ((wds b t).getD (t - 15) 0)) (ror 18 ((wds b t).getD (t - 15) 0))) (r32 3 ((wds b t).getD (t - 15) 0)))) ((wds b t).getD (t - 16) 0) := by
        unfold wx2
        rw [hwl]
      rw [← wx2_eq, hx2] at hst
      clear hx2
      have gg : ∀ i, i < t → (wds b t)[i]? = some ((wds b t).getD i 0) := fun i hi => by
        rw [List.getD_eq_getElem?_getD, List.getElem?_eq_getElem (by omega)]; rfl
      have g15 := gg (t - 15) (by omega)
      have g2 := gg (t - 2) (by omega)
      have g7 := gg (t - 7) (by omega)
      have g16 := gg (t - 16) (by omega)
      clear gg
      generalize (wds b t).getD (t - 15) 0 = x at g15 hst
      generalize (wds b t).getD (t - 2) 0 = y at g2 hst
      generalize (wds b t).getD (t - 7) 0 = u at g7 hst
      generalize (wds b t).getD (t - 16) 0 = v at g16 hst
      have o15 : ((t - 15 : Nat) : Int) < (t : Int) := by omega
      have o2 : ((t - 2 : Nat) : Int) < (t : Int) := by omega
      have o7 : ((t - 7 : Nat) : Int) < (t : Int) := by omega
      have o16 : ((t - 16 : Nat) : Int) < (t : Int) := by omega
      generalize t - 15 = t15 at *
      generalize t - 2 = t2 at *
      generalize t - 7 = t7 at *
      generalize t - 16 = t16 at *
      simp [go_sem, i16]
      apply draw2 (0 :: 1 :: 2 :: 3 :: 4 :: 5 :: 6 :: 7 :: 8 :: 9 :: 10 :: 11 :: []) ([]) 0 (k := 12) (by kernel_rfl) (by kernel_rfl) rfl
      case hz => repeat (first | exact Its.nil | apply Its.plain rfl | apply Its.guard rfl rfl)
      case hj => repeat (first | exact Jts.nil | exact Its.nil | apply Its.plain rfl | apply Its.guard rfl rfl | apply Jts.plain rfl | apply Jts.guard rfl rfl)
      intro G hG
      simp [go_sem, w1, w2, rw4_get, rw4_len, hwl, g15, g2]
      refine ⟨by omega, by omega, hG _ _ ?_⟩
      clear hG G
      simp [go_sem]
      refine cl_eq (turn_fn x 7 7 rfl (by omega)) (by simp [AV.deep, AV.deep1]) ?_
      simp [go_sem]
      refine cl_eq (turn_fn x 18 18 rfl (by omega)) (by simp [AV.deep, AV.deep1]) ?_
      simp [go_sem, w_xor, IntKind.bits, d_r3]
      refine cl_eq (turn_fn y 17 17 rfl (by omega)) (by simp [AV.deep, AV.deep1]) ?_
      simp [go_sem]
      refine cl_eq (turn_fn y 19 19 rfl (by omega)) (by simp [AV.deep, AV.deep1]) ?_
      simp [go_sem, w_xor, IntKind.bits, d_r10]
      apply draw2 (0 :: 1 :: 2 :: 3 :: 4 :: 5 :: 6 :: 7 :: 8 :: 9 :: 10 :: 11 :: 12 :: 13 :: 14 :: 15 :: []) ((16, ([])) :: (17, ([])) :: (18, ([])) :: []) 1 (k := 19) (by kernel_rfl) (by kernel_rfl) rfl
      case hz => repeat (first | exact Its.nil | apply Its.plain rfl | apply Its.guard rfl rfl)
      case hj => repeat (first | exact Jts.nil | exact Its.nil | apply Its.plain rfl | apply Its.guard rfl rfl | apply Jts.plain rfl | apply Jts.guard rfl rfl)
      intro G hG
      simp [go_sem, w3, w4, rw4_get, rw4_len, hwl, g7, g16, w_add]
      rw [rw4_snoc, ← hst]
      refine ⟨by omega, by omega, by omega, hG _ _ ?_⟩
      clear hG G
      have w5 := next_i64 (k := t) (by omega)
      simp [go_sem, w5]
      refine next_of (t + 1) (by omega) (by omega) ?_
      simp [Weak, slotOk, fv, lk, AV.low, AV.low1, nw, nb]
      exact rw4_low _ _
  · have ht64 : t = 64 := by omega
    subst ht64
    rw [wds_end] at *
    unfold Go.Sha.take rounds
    generalize hR : restG rdp 0 (K.zip (sched b)) s = R
    have hzl : (K.zip (sched b)).length = 64 := by rw [List.length_zip, sched_len, K_len]; rfl
    generalize sched b = ws at *
    simp [go_sem, nw, rw4_of]
    refine ⟨by simp [rw4_len, S8.l], ?_⟩
    refine loop_of (fun t : Nat × S8 => ⟨[(0, .d (nw s.l)), (1, .d (nw K)), (7, .own 32 0 64 64), (13, .own 192 0 8 8), (14, .d (.int .i64 (t.1 : Int)))], [(32, ⟨23, 1, rw4 ws⟩), (192, ⟨23, 1, rw4 t.2.l⟩)], 3000⟩)
      (fun t => t.1 ≤ 64 ∧ restG rdp t.1 (K.zip ws) t.2 = R) (fun t => 64 - t.1) (0, s) ⟨by omega, hR⟩ (by
        simp [Weak, slotOk, fv, lk, AV.low, AV.low1, nw]
        exact ⟨rfl, rw4_low _ _, rw4_low _ _⟩) ?_
    clear hR
    rintro ⟨t, v⟩ ⟨ht, hR⟩
    simp only at ht hR
    simp only [go_sem, Nat.reduceEqDiff, Nat.reduceAdd, Nat.reduceLT, ↓reduceIte, Nat.reduceMul]
    refine ⟨fun h => ?_, fun h => ?_⟩
    · obtain ⟨k, hk, _⟩ := drop_of (l := K) (k := t) (by rw [K_len]; omega)
      obtain ⟨w, hw, _⟩ := drop_of (l := ws) (k := t) (by omega)
      have hz : (K.zip ws)[t]? = some (k, w) := by rw [List.getElem?_zip_eq_some]; exact ⟨hk, hw⟩
      rw [restG_step rdp hz] at hR
      apply draw2 (0 :: 1 :: 2 :: 3 :: 4 :: 5 :: 6 :: 7 :: 8 :: 9 :: 10 :: 11 :: []) ([]) 0 (k := 12) (by kernel_rfl) (by kernel_rfl) rfl
      case hz => repeat (first | exact Its.nil | apply Its.plain rfl | apply Its.guard rfl rfl)
      case hj => repeat (first | exact Jts.nil | exact Its.nil | apply Its.plain rfl | apply Its.guard rfl rfl | apply Jts.plain rfl | apply Jts.guard rfl rfl)
      intro G hG
      simp [go_sem, rw4, S8.l]
      refine hG _ _ ?_
      clear hG G
      simp [go_sem]
      apply draw2 (0 :: 1 :: 2 :: 3 :: 5 :: 8 :: 12 :: 13 :: 14 :: 15 :: 16 :: 17 :: 18 :: 19 :: 20 :: 21 :: 22 :: 23 :: 25 :: 26 :: 27 :: 28 :: 30 :: 31 :: 32 :: 33 :: []) ((4, ([])) :: (6, (7 :: [])) :: (9, (10 :: 11 :: 24 :: 29 :: 34 :: 35 :: [])) :: []) 3 (k := 36) (by kernel_rfl) (by kernel_rfl) rfl
      case hz => repeat (first | exact Its.nil | apply Its.plain rfl | apply Its.guard rfl rfl)
      case hj => repeat (first | exact Jts.nil | exact Its.nil | apply Its.plain rfl | apply Its.guard rfl rfl | apply Jts.plain rfl | apply Jts.guard rfl rfl)
      intro G hG
      simp [go_sem, nw, hk, hw, w_xor, w_and, w_xorc, w_add]
      refine ⟨by omega, hwl, ?_⟩
      refine cl_eq (turn_fn v.e 6 6 rfl (by omega)) (by simp [AV.deep, AV.deep1]) ?_
      simp [go_sem, w_xor, w_and, w_add]
      refine cl_eq (turn_fn v.e 11 11 rfl (by omega)) (by simp [AV.deep, AV.deep1]) ?_
      simp [go_sem, w_xor, w_and, w_add]
      refine cl_eq (turn_fn v.e 25 25 rfl (by omega)) (by simp [AV.deep, AV.deep1]) ?_
      simp [go_sem, w_xor, w_and, w_add]
      have hT1 : a32 (a32 (a32 (a32 v.h (x32 (x32 (ror 6 v.e) (ror 11 v.e)) (ror 25 v.e))) (x32 (n32 v.e v.f) (n32 (c32 v.e) v.g))) k) w = T1 v k w := by
        rw [ror_rol (by omega), ror_rol (by omega), ror_rol (by omega)]
        unfold T1; with_reducible rfl
      rw [hT1]
      refine hG _ _ ?_
      clear hG G
      simp [go_sem]
      apply draw2 (0 :: 2 :: 5 :: 8 :: 9 :: 10 :: 11 :: 12 :: 13 :: 14 :: 15 :: 16 :: 17 :: 18 :: 19 :: 20 :: 21 :: 22 :: []) ((1, ([])) :: (3, (4 :: [])) :: (6, (7 :: 23 :: 24 :: [])) :: []) 3 (k := 25) (by kernel_rfl) (by kernel_rfl) rfl
      case hz => repeat (first | exact Its.nil | apply Its.plain rfl | apply Its.guard rfl rfl)
      case hj => repeat (first | exact Jts.nil | exact Its.nil | apply Its.plain rfl | apply Its.guard rfl rfl | apply Jts.plain rfl | apply Jts.guard rfl rfl)
      intro G hG
      simp [go_sem, w_xor, w_and, w_add]
      refine cl_eq (turn_fn v.a 2 2 rfl (by omega)) (by simp [AV.deep, AV.deep1]) ?_
      simp [go_sem, w_xor, w_and, w_add]
      refine cl_eq (turn_fn v.a 13 13 rfl (by omega)) (by simp [AV.deep, AV.deep1]) ?_
      simp [go_sem, w_xor, w_and, w_add]
      refine cl_eq (turn_fn v.a 22 22 rfl (by omega)) (by simp [AV.deep, AV.deep1]) ?_
      simp [go_sem, w_xor, w_and, w_add]
      have hT2 : a32 (x32 (x32 (ror 2 v.a) (ror 13 v.a)) (ror 22 v.a)) (x32 (x32 (n32 v.a v.b) (n32 v.a v.c)) (n32 v.b v.c)) = T2 v := by
        rw [ror_rol (by omega), ror_rol (by omega), ror_rol (by omega)]
        unfold T2; with_reducible rfl
      rw [hT2]
      refine hG _ _ ?_
      clear hG G
      simp [go_sem]
      apply draw2 (0 :: 1 :: 2 :: 3 :: 4 :: 5 :: 6 :: 7 :: 8 :: 9 :: 10 :: 11 :: 12 :: 13 :: 14 :: 15 :: 16 :: 17 :: 18 :: 19 :: 20 :: 21 :: 22 :: 23 :: 24 :: 25 :: []) ((26, ([])) :: (27, ([])) :: []) 0 (k := 28) (by kernel_rfl) (by kernel_rfl) rfl
      case hz => repeat (first | exact Its.nil | apply Its.plain rfl | apply Its.guard rfl rfl)
      case hj => repeat (first | exact Jts.nil | exact Its.nil | apply Its.plain rfl | apply Its.guard rfl rfl | apply Jts.plain rfl | apply Jts.guard rfl rfl)
      intro G hG
      simp [go_sem, w_add]
      refine hG _ _ ?_
      clear hG G
      have w3 := next_i64 (k := t) (by omega)
      simp [go_sem, w3]
      refine nextR_of (t + 1, rdp v (k, w)) ⟨by simp only; omega, hR⟩ (by simp only; omega) [(32, 32), (6232, 192)] 2000 (by decide) (by decide) (by decide) (by decide) ?_
      simp [renF, renH, rho, AV.ren, Blk.ren, renR, Weak, slotOk, fv, lk, AV.low, AV.low1, nw, AV.renL, rdp, rd, rw4, S8.l]
    · have ht64 : t = 64 := by omega
      subst ht64
      rw [restG_end rdp (by omega)] at hR
      subst hR
      rw [show (s8add s v).l = addL s.l 8 v.l from (addL_end s v).symm]
      have hsl : s.l.length = 8 := rfl
      have hvl : v.l.length = 8 := rfl
      generalize s.l = sl at *
      generalize v.l = vl at *
      refine loop_of (fun i : Nat => ⟨[(0, .d (nw sl)), (13, .own 192 0 8 8), (20, .d (.int .i64 (i : Int)))], [(192, ⟨23, 1, rw4 (addL sl i vl)⟩)], 3200⟩)
        (fun i => i ≤ 8) (fun i => 8 - i) 0 (by omega) (by
          simp [Weak, slotOk, fv, lk, AV.low, AV.low1, nw, addL]
          exact rw4_low _ _) ?_
      intro i hi
      have hal := addL_len sl vl i
      simp only [go_sem, Nat.reduceEqDiff, Nat.reduceAdd, Nat.reduceLT, ↓reduceIte, Nat.reduceMul]
      refine ⟨fun h => ?_, fun h => ?_⟩
      · have e1 : (addL sl i vl)[i]? = some ((addL sl i vl).getD i 0) := by rw [List.getD_eq_getElem?_getD, List.getElem?_eq_getElem (by omega)]; rfl
        have e2 : sl[i]? = some (sl.getD i 0) := by rw [List.getD_eq_getElem?_getD, List.getElem?_eq_getElem (by omega)]; rfl
        have e3 : addL sl (i + 1) vl = (addL sl i vl).set i (a32 ((addL sl i vl).getD i 0) (sl.getD i 0)) := rfl
        generalize (addL sl i vl).getD i 0 = x at *
        generalize sl.getD i 0 = y at *
        generalize addL sl i vl = A at *
        apply draw2 (0 :: 1 :: 2 :: 3 :: 4 :: 5 :: 6 :: 7 :: 8 :: 9 :: 10 :: 11 :: []) ((12, ([])) :: []) 0 (k := 13) (by kernel_rfl) (by kernel_rfl) rfl
        case hz => repeat (first | exact Its.nil | apply Its.plain rfl | apply Its.guard rfl rfl)
        case hj => repeat (first | exact Jts.nil | exact Its.nil | apply Its.plain rfl | apply Its.guard rfl rfl | apply Jts.plain rfl | apply Jts.guard rfl rfl)
        intro G hG
        simp [go_sem, nw, rw4_get, e1, e2, w_add, rw4_len, rw4_set]
        refine ⟨by omega, by omega, by omega, by omega, hG _ _ ?_⟩
        clear hG G
        have w5 := next_i64 (k := i) (by omega)
        simp [go_sem, w5]
        refine next_of (i + 1) (by omega) (by omega) ?_
        simp [Weak, slotOk, fv, lk, AV.low, AV.low1, nw, e3]
        exact rw4_low _ _
      · have hi8 : i = 8 := by omega
        subst hi8
        simp [go_sem, resV]
        have := post_words (id := 192) (L := addL sl 8 vl) (Q := fun r => r = AV.d (nw (addL sl 8 vl))) (st := ⟨[], [(192, ⟨23, 1, rw4 (addL sl 8 vl)⟩)], 0⟩) rfl rfl
        rw [hal, hvl] at this
        exact this
end Go.Proofs.YtpnbpojpcbnejaaGreat

/-
  The other text's SHA-256: the sum, tagged sums.
-/
namespace Go.Sha
theorem le_bytes (x : Nat) : t8 x < 256 := Nat.mod_lt _ (by decide)
theorem len8_bytes (m : Nat) : ∀ j x, x ∈ Go.Proofs.YtpnbpojpcbnejaaGreat.len8 m j → x < 256
  | 0, x, h => by simp [Go.Proofs.YtpnbpojpcbnejaaGreat.len8] at h
  | j + 1, x, h => by
    rcases List.mem_append.1 h with h | h
    · exact len8_bytes m j x h
    · rw [List.mem_singleton] at h; rw [h]; exact le_bytes _
theorem padTo_bytes : ∀ (n : Nat) (l : List Nat), (∀ x, x ∈ l → x < 256) → ∀ x, x ∈ Go.Proofs.YtpnbpojpcbnejaaGreat.padTo n l → x < 256
  | 0, l, hl => hl
  | n + 1, l, hl => by
    unfold Go.Proofs.YtpnbpojpcbnejaaGreat.padTo
    split
    · exact hl
    · refine padTo_bytes n _ fun x hx => ?_
      rcases List.mem_append.1 hx with h | h
      · exact hl x h
      · rw [List.mem_singleton] at h; omega
theorem lastOf_bytes {b : List Nat} (n : Nat) (hb : ∀ x, x ∈ b → x < 256) : ∀ x, x ∈ Go.Proofs.YtpnbpojpcbnejaaGreat.lastOf b n → x < 256 := by
  intro x hx
  rcases List.mem_append.1 hx with h | h
  · refine padTo_bytes _ _ (fun y hy => ?_) x h
    rcases List.mem_append.1 hy with h | h
    · exact hb y h
    · rw [List.mem_singleton] at h; omega
  · exact len8_bytes _ _ x h
theorem padTo_mod : ∀ (n : Nat) (l : List Nat), (120 - l.length % 64) % 64 ≤ n → (Go.Proofs.YtpnbpojpcbnejaaGreat.padTo n l).length % 64 = 56 ∧ (Go.Proofs.YtpnbpojpcbnejaaGreat.padTo n l).length ≤ l.length + n
  | 0, l, h => by
    unfold Go.Proofs.YtpnbpojpcbnejaaGreat.padTo
    omega
  | n + 1, l, h => by
    unfold Go.Proofs.YtpnbpojpcbnejaaGreat.padTo
    split
    · omega
    · have := padTo_mod n (l ++ [0]) (by rw [List.length_append, List.length_singleton]; omega)
      rw [List.length_append, List.length_singleton] at this
      omega
theorem lastOf_mod (b : List Nat) (n : Nat) : (Go.Proofs.YtpnbpojpcbnejaaGreat.lastOf b n).length % 64 = 0 ∧ (Go.Proofs.YtpnbpojpcbnejaaGreat.lastOf b n).length ≤ b.length + 73 := by
  have := padTo_mod 64 (b ++ [128]) (by omega)
  rw [List.length_append, List.length_singleton] at this
  unfold Go.Proofs.YtpnbpojpcbnejaaGreat.lastOf
  rw [List.length_append, Go.Proofs.YtpnbpojpcbnejaaGreat.len8_len]
  omega
theorem pre_get (l : List Nat) : ∀ (n i : Nat), i < 4 * n → (pre l n)[i]? = some (t8 (r32 (24 - 8 * (i % 4)) (l.getD (i / 4) 0)))
  | 0, i, h => by omega
  | n + 1, i, h => by
    unfold pre
    by_cases hi : i < 4 * n
    · rw [List.getElem?_append_left (by rw [pre_len]; exact hi)]
      exact pre_get l n i hi
    · rw [List.getElem?_append_right (by rw [pre_len]; omega), pre_len]
      have h4 : i / 4 = n := by omega
      rw [h4]
      obtain ⟨j, rfl, hj⟩ : ∃ j, i = 4 * n + j ∧ j < 4 := ⟨i - 4 * n, by omega, by omega⟩
      rw [show 4 * n + j - 4 * n = j by omega, show (4 * n + j) % 4 = j by omega]
      rcases (by omega : j = 0 ∨ j = 1 ∨ j = 2 ∨ j = 3) with rfl | rfl | rfl | rfl <;> rfl
theorem pre_bytes (l : List Nat) : ∀ n x, x ∈ pre l n → x < 256
  | 0, x, h => by simp [pre] at h
  | n + 1, x, h => by
    rcases List.mem_append.1 h with h | h
    · exact pre_bytes l n x h
    · simp [wbk] at h
      rcases h with rfl | rfl | rfl | rfl <;> exact le_bytes _
theorem sumB_bytes (b : List Nat) : ∀ x, x ∈ sumB b → x < 256 := fun x h => pre_bytes _ 8 x h
theorem dig_len (s : S8) : (dig s).length = 32 := pre_len _ 8
end Go.Sha
namespace Go.Proofs.YtpnbpojpcbnejaaGreat
open Go.Am Go.Sha
set_option linter.unusedSimpArgs false
set_option linter.unusedVariables false

theorem snap_full {hp : Hp} {I : Nat → Prop} {id n : Nat} {L : List Nat} (hl : L.length = n) (hb : lk id hp = some ⟨5, 1, rb L⟩) (hI : I id) : SnapD hp I (.own id 0 n n) (nb L) := by
  subst hl
  have h := snap_rb (i0 := 0) (n := L.length) (L := L) hb hI (by omega)
  rw [List.drop_zero, List.take_of_length_le (Nat.le_refl _)] at h
  exact h

/-- So many bytes of the sum, and noughts. -/
def outB (s : S8) (i : Nat) : List Nat := (dig s).take i ++ List.replicate (32 - i) 0
theorem outB_len (s : S8) {i : Nat} (h : i ≤ 32) : (outB s i).length = 32 := by
  unfold outB
  rw [List.length_append, List.length_take, dig_len, List.length_replicate]
  omega
theorem outB_end (s : S8) : outB s 32 = dig s := by
  unfold outB
  rw [List.take_of_length_le (by rw [dig_len]; omega)]
  simp
theorem outB_step (s : S8) {i : Nat} (h : i < 32) : (outB s i).set i (t8 (r32 (24 - 8 * (i % 4)) (s.l.getD (i / 4) 0))) = outB s (i + 1) := by
  have hg := pre_get s.l 8 i (by omega)
  unfold outB
  rw [List.set_append_right _ _ (by rw [List.length_take, dig_len]; omega), List.length_take, dig_len, show i - min i 32 = 0 by omega]
  obtain ⟨k, hk⟩ : ∃ k, 32 - i = k + 1 := ⟨31 - i, by omega⟩
  rw [hk, List.replicate_succ, List.set_cons_zero, show 32 - (i + 1) = k by omega]
  rw [List.take_add_one, show (dig s)[i]? = _ from hg]
  simp

set_option maxHeartbeats 2000000 in
theorem sumR_fn (b : List Nat) (hb : b.length ≤ 10000000000) (hby : ∀ x, x ∈ b → x < 256) : Rets Tryz.prog 172 [.d (nb b)] (fun r => r = .agg (cb (sumB b))) := by
  rw [sumB_whole]
  refine fn_of_awp Tryz.func172 (by kernel_rfl) rfl Tryz.ntmps172 (rs := [.cell 2 22]) rfl (Nat.le_of_ble_eq_true rfl) (by simp [AV.deep, AV.deep1]) ?_
  simp [go_sem]
  refine cl_eq stepsR_fn (by simp) ?_
  simp [go_sem]
  refine cl_eq (padded_fn b (by omega)) (by simp [AV.deep, AV.deep1]) ?_
  have hLb := lastOf_bytes b.length hby
  obtain ⟨hLm, hLl⟩ := lastOf_mod b b.length
  generalize lastOf b b.length = L at *
  simp [go_sem]
  generalize hP : E H0 L = P
  refine loopF_of (fun t : Nat × S8 => ⟨[(2, .ptr 0 0 0 1), (3, .d (nw t.2.l)), (4, .d (nw K)), (5, .d (nb L)), (6, .d (.int .i64 ((64 * t.1 : Nat) : Int)))], [(0, ⟨22, 32, [cb z32]⟩)], 288⟩)
    (fun t => 64 * t.1 ≤ L.length ∧ E t.2 (L.drop (64 * t.1)) = P) (fun t => L.length - 64 * t.1) (0, H0) ⟨by omega, hP⟩ [32] [(3, .d (nw H0.l))] (by
      intro p hp
      simp only [List.mem_singleton] at hp
      subst hp
      exact .one (snap1_d (snap_rw4 (L := H0.l) rfl (by simp)))) (by
      simp [Weak, slotOk, fv, lk, AV.low, AV.low1, dropH]
      exact cb_low _ _) ?_
  clear hP
  rintro ⟨j, s⟩ ⟨hj, hP⟩
  simp only at hj hP
  simp only [go_sem, Nat.reduceEqDiff, Nat.reduceAdd, Nat.reduceLT, ↓reduceIte, Nat.reduceMul]
  refine ⟨fun h => ?_, fun h => ?_⟩
  · have hlt : 64 * j < L.length := by simp only [nb, AV.slen, List.length_map] at h; omega
    have h64 : 64 ≤ (L.drop (64 * j)).length := by rw [List.length_drop]; omega
    rw [E_more h64, List.drop_drop] at hP
    have hbl : ((L.drop (64 * j)).take 64).length = 64 := by rw [List.length_take]; omega
    have hbb : ∀ x, x ∈ (L.drop (64 * j)).take 64 → x < 256 := fun x hx => hLb x (List.mem_of_mem_drop (List.mem_of_mem_take hx))
    have w1 : IntKind.i64.wrap (((64 * j : Nat) : Int) + 64) = ((64 * j + 64 : Nat) : Int) := by rw [IntWalk.i64_in _ (by omega)]; omega
    have hsl : ((L.map fun (b : Nat) => [DV.int .u8 (b : Int)]).take (64 * j + 64)).drop (64 * j) = ((L.drop (64 * j)).take 64).map fun (b : Nat) => [DV.int .u8 (b : Int)] := by
      rw [List.drop_take, show 64 * j + 64 - 64 * j = 64 by omega, List.map_take, List.map_drop]
    simp only [go_sem, Nat.reduceEqDiff, Nat.reduceAdd, Nat.reduceLT, ↓reduceIte, nb, w1, hsl]
    refine ⟨by omega, by omega, ?_⟩
    refine cl_eq (blockR_fn s ((L.drop (64 * j)).take 64) hbl hbb) (by simp [AV.deep, AV.deep1]) ?_
    simp only [go_sem, Nat.reduceEqDiff, Nat.reduceAdd, Nat.reduceLT, ↓reduceIte, w1]
    refine next_of (j + 1, Go.Sha.take s ((L.drop (64 * j)).take 64)) ⟨by simp only; omega, by simp only; exact hP⟩ (by simp only; omega) ?_
    simp [Weak, slotOk, fv, lk, AV.low, AV.low1, nb]
    exact ⟨by omega, cb_low _ _⟩
  · have hnil : L.drop (64 * j) = [] := List.drop_eq_nil_of_le (by simp only [nb, AV.slen, List.length_map] at h; omega)
    rw [hnil, E_none (by simp)] at hP
    have hs : P.1 = s := by rw [← hP]
    rw [hs]
    clear hP hs hnil h
    simp [go_sem]
    refine loop_of (fun i : Nat => ⟨[(2, .ptr 0 0 0 1), (3, .d (nw s.l)), (7, .ptr 448 0 0 1), (8, .d (.int .i64 (i : Int)))], [(0, ⟨22, 32, [cb z32]⟩), (448, ⟨22, 32, [cb (outB s i)]⟩)], 700⟩)
      (fun i => i ≤ 32) (fun i => 32 - i) 0 (by omega) (by
        simp [Weak, slotOk, fv, lk, AV.low, AV.low1]
        exact ⟨cb_low _ _, rfl, cb_low _ _⟩) ?_
    intro i hi
    have hol := outB_len s hi
    simp only [go_sem, Nat.reduceEqDiff, Nat.reduceAdd, Nat.reduceLT, ↓reduceIte, Nat.reduceMul]
    refine ⟨fun h2 => ?_, fun h2 => ?_⟩
    · have w1 : IntKind.i64.wrap (Int.tdiv (i : Int) 4) = ((i / 4 : Nat) : Int) := by
        have e : Int.tdiv (i : Int) 4 = ((i / 4 : Nat) : Int) := (Int.ofNat_tdiv i 4).symm
        rw [e, IntWalk.i64_in _ (by omega)]
      have w2 : Int.tmod (i : Int) 4 = ((i % 4 : Nat) : Int) := by have := Int.ofNat_tmod i 4; simpa using this.symm
      have w3 : IntKind.i64.wrap (8 * ((i % 4 : Nat) : Int)) = ((8 * (i % 4) : Nat) : Int) := by rw [IntWalk.i64_in _ (by omega)]; omega
      have w4 : IntKind.i64.wrap (24 - ((8 * (i % 4) : Nat) : Int)) = ((24 - 8 * (i % 4) : Nat) : Int) := by rw [IntWalk.i64_in _ (by omega)]; omega
      have w5 : IntKind.u64.wrap ((24 - 8 * (i % 4) : Nat) : Int) = ((24 - 8 * (i % 4) : Nat) : Int) := by rw [u64w]; omega
      have w6 : min (24 - 8 * (i % 4)) 32 = 24 - 8 * (i % 4) := by omega
      have w7 := next_i64 (k := i) (by omega)
      have hst := outB_step s (i := i) (by omega)
      have hg : s.l[i / 4]? = some (s.l.getD (i / 4) 0) := by
        have : i / 4 < s.l.length := by show i / 4 < 8; omega
        rw [List.getD_eq_getElem?_getD, List.getElem?_eq_getElem this]; rfl
      generalize s.l.getD (i / 4) 0 = x at *
      generalize hA : outB s i = A at *
      generalize s.l = sl at *
      simp only [go_sem, Nat.reduceEqDiff, Nat.reduceAdd, Nat.reduceLT, ↓reduceIte, nw, w1, w2, w3, w4, w5, w6, w7, hg, IntKind.bits, d_r, w8_nat, cb_set, hst]
      refine ⟨by decide, by decide, by omega, by omega, ?_⟩
      refine next_of (i + 1) (by omega) (by omega) ?_
      simp [Weak, slotOk, fv, lk, AV.low, AV.low1, hst]
      exact ⟨cb_low _ _, cb_low _ _⟩
    · have hi32 : i = 32 := by omega
      subst hi32
      rw [outB_end] at hol ⊢
      simp [go_sem, resV, hol, cb_take hol, z32_drop]
      exact post_same (by simp [AV.deep]; exact cb_deep _) rfl

set_option maxHeartbeats 1000000 in
theorem taggedR_fn (tag : List Nat) (ts : DV) (hts : ts = .str (tag.map fun (x : Nat) => (x : Int))) (b : List Nat) (ht : tag.length ≤ 1000) (htb : ∀ x, x ∈ tag → x < 256) (hb : b.length ≤ 1000000000) (hbb : ∀ x, x ∈ b → x < 256) : Rets Tryz.prog 194 [.d ts, .d (nb b)] (fun r => r = .agg (cb (tagB tag b))) := by
  subst hts
  refine fn_of_awp Tryz.func194 (by kernel_rfl) rfl Tryz.ntmps194 (rs := [.cell 4 22]) rfl (Nat.le_of_ble_eq_true rfl) (by simp [AV.deep, AV.deep1]) ?_
  simp [go_sem, Tryz.underlying5]
  refine cl_eq (sumR_fn tag (by omega) htb) (by simp [AV.deep, AV.deep1]) ?_
  have hD := sumB_len tag
  have hg : tagB tag b = sumB (sumB tag ++ (sumB tag ++ b)) := rfl
  rw [hg]
  have hDb := sumB_bytes tag
  generalize sumB tag = D at hD hDb
  have hx := arr_rows hD
  rw [rb_of] at hx
  simp [go_sem] at hx
  simp [go_sem, hD, z32_drop, hx, nb, rb_of, rb_len]
  refine ⟨by omega, ?_⟩
  have hl : (D ++ (D ++ b)).length = 64 + b.length := by simp [hD]; omega
  have hDb : ∀ x, x ∈ D → x < 256 := hDb
  refine cl_froz [192] (sumR_fn (D ++ (D ++ b)) (by omega) (fun x hx => by
    rcases List.mem_append.1 hx with h | h
    · exact hDb x h
    · rcases List.mem_append.1 h with h | h
      · exact hDb x h
      · exact hbb x h)) rfl (snap_cons (.one (snap1_d (snap_full hl (by simp [lk, ← rb_app]) (by simp)))) snap_nil) ?_
  have hR := sumB_len (D ++ (D ++ b))
  generalize sumB (D ++ (D ++ b)) = R at *
  simp [go_sem, dropH, resV, hR, cb_take hR, z32_drop]
  exact post_same (by simp [AV.deep]; exact cb_deep _) rfl
end Go.Proofs.YtpnbpojpcbnejaaGreat

/-
  The other text's compact and tree: numbers, sizes and strings laid; leaves', branches' and roots' hashes.
-/
namespace Go.Sha
theorem t8_t8 (a : Nat) : t8 (t8 a) = t8 a := by unfold t8; omega
theorem le_t8 (n : Nat) : le (t8 n) 1 = le n 1 := by simp [le, r32, t8_t8]
theorem le_t16 (n : Nat) : le (t16 n) 2 = le n 2 := by
  have e0 : t8 (r32 (8 * 0) (t16 n)) = t8 (r32 (8 * 0) n) := by simp only [t8, r32, t16]; omega
  have e1 : t8 (r32 (8 * 1) (t16 n)) = t8 (r32 (8 * 1) n) := by simp only [t8, r32, t16]; omega
  simp only [le, e0, e1]
theorem le_t32 (n : Nat) : le (t32 n) 4 = le n 4 := by
  have e0 : t8 (r32 (8 * 0) (t32 n)) = t8 (r32 (8 * 0) n) := by simp only [t8, r32, t32]; omega
  have e1 : t8 (r32 (8 * 1) (t32 n)) = t8 (r32 (8 * 1) n) := by simp only [t8, r32, t32]; omega
  have e2 : t8 (r32 (8 * 2) (t32 n)) = t8 (r32 (8 * 2) n) := by simp only [t8, r32, t32]; omega
  have e3 : t8 (r32 (8 * 3) (t32 n)) = t8 (r32 (8 * 3) n) := by simp only [t8, r32, t32]; omega
  simp only [le, e0, e1, e2, e3]
theorem le_b (x : Nat) : ∀ k y, y ∈ le x k → y < 256
  | 0, y, h => by simp [le] at h
  | k + 1, y, h => by
    rcases List.mem_append.1 h with h | h
    · exact le_b x k y h
    · rw [List.mem_singleton] at h; rw [h]; exact le_bytes _
theorem putSize_b (n : Nat) : ∀ y, y ∈ putSize n → y < 256 := by
  intro y h
  unfold putSize at h
  split at h
  · exact le_b _ _ y h
  · split at h
    · rcases List.mem_append.1 h with h | h <;> exact le_b _ _ y h
    · rcases List.mem_append.1 h with h | h <;> exact le_b _ _ y h
end Go.Sha
namespace Go.Proofs.YtpnbpojpcbnejaaGreat
open Go.Am Go.Sha
set_option linter.unusedSimpArgs false
set_option linter.unusedVariables false

theorem post_words_b {Q : AV → Prop} {st : St} {id : Nat} {L : List Nat} (hb : lk id st.hp = some ⟨5, 1, rb L⟩) (hq : Q (.d (nb L))) : PostK Q (.own id 0 L.length L.length) st := post_bytes hb hq

set_option maxHeartbeats 1000000 in
theorem putR_own (b : List Nat) (x n : Nat) (m : Int) (hm : m = (n : Int)) (hb : b.length ≤ 10000000000) (hx : x < 18446744073709551616) (hn : n ≤ 8) : RetsE Tryz.prog 173 0 [] [.d (nb b), .d (.int .u64 (x : Int)), .d (.int .i64 m)] (fun r hp' => r = .own 33 0 (b ++ le x n).length (b ++ le x n).length ∧ lk 33 hp' = some ⟨5, 1, rb (b ++ le x n)⟩) := by
  subst hm
  refine fnE_of_awp Tryz.func173 (by kernel_rfl) rfl Tryz.ntmps173 (rs := [.tmp 6]) rfl (Nat.le_of_ble_eq_true rfl) (by decide) ?_
  simp [go_sem, nb, rb_of, rb_len]
  refine ⟨by omega, ?_⟩
  refine loop_of (fun k : Nat => ⟨[(1, .d (.int .u64 ((r32 (8 * k) x : Nat) : Int))), (2, .d (.int .i64 (n : Int))), (7, .own 33 0 (b ++ le x k).length (b ++ le x k).length), (8, .d (.int .i64 (k : Int)))], [(33, ⟨5, 1, rb (b ++ le x k)⟩)], 300⟩)
    (fun k => k ≤ n) (fun k => n - k) 0 (by omega) (by
      simp [Weak, slotOk, fv, lk, AV.low, AV.low1, le, r32]
      exact rb_low _ _) ?_
  intro k hk
  have hl : (b ++ le x k).length = b.length + k := by rw [List.length_append, le_len]
  have hs : rb (b ++ le x k) ++ [[AV.d (.int .u8 ((t8 (r32 (8 * k) x) : Nat) : Int))]] = rb (b ++ le x (k + 1)) := by rw [rb_snoc, List.append_assoc]; rfl
  have hxk : r32 (8 * k) x < 18446744073709551616 := Nat.lt_of_le_of_lt (Nat.div_le_self _ _) hx
  have hq : IntKind.u64.wrap (Int.tdiv ((r32 (8 * k) x : Nat) : Int) 256) = ((r32 (8 * (k + 1)) x : Nat) : Int) := by
    have e1 : Int.tdiv ((r32 (8 * k) x : Nat) : Int) 256 = ((r32 (8 * k) x / 256 : Nat) : Int) := (Int.ofNat_tdiv _ 256).symm
    have e2 : r32 (8 * k) x / 256 = r32 (8 * (k + 1)) x := by
      unfold r32
      rw [Nat.div_div_eq_div_mul, show 2 ^ (8 * k) * 256 = 2 ^ (8 * (k + 1)) by rw [show 8 * (k + 1) = 8 * k + 8 by omega, Nat.pow_add]]
    have h3 : r32 (8 * k) x / 256 ≤ r32 (8 * k) x := Nat.div_le_self _ _
    rw [e1, u64w, ← e2]
    omega
  have w5 := next_i64 (k := k) (by omega)
  simp only [go_sem, Nat.reduceEqDiff, Nat.reduceAdd, Nat.reduceLT, ↓reduceIte, Nat.reduceMul]
  refine ⟨fun h => ?_, fun h => ?_⟩
  · simp only [go_sem, Nat.reduceEqDiff, Nat.reduceAdd, Nat.reduceLT, ↓reduceIte, w8_nat, rb_len, hs, le_len, hq, w5]
    refine ⟨by omega, by omega, by decide, ?_⟩
    refine next_of (k + 1) (by omega) (by omega) ?_
    simp [Weak, slotOk, fv, lk, AV.low, AV.low1, le_len]
    exact ⟨by omega, rb_low _ _⟩
  · have hkn : k = n := by omega
    subst hkn
    simp [go_sem, resV]

/-- Bytes of the call's own, as a result. -/
def OwnB (L : List Nat) (r : AV) (hp' : Hp) : Prop := ∃ I, r = .own I 0 L.length L.length ∧ lk I hp' = some ⟨5, 1, rb L⟩
theorem own_deep {g : FuncId} {args : List AV} {L : List Nat} (h : RetsE Tryz.prog g 0 [] args (OwnB L)) (hd : ∀ v, v ∈ args → v.deep) : Rets Tryz.prog g args (fun r => r = .d (nb L)) :=
  rets_of_E h hd fun r hp' ⟨I, hr, hb⟩ => ⟨.d (nb L), by subst hr; exact .one (snap1_d (snap_full rfl hb trivial)), trivial, rfl⟩
theorem E_mono {g : FuncId} {k : Nat} {hp0 : Hp} {args : List AV} {Q Q' : AV → Hp → Prop} (h : RetsE Tryz.prog g k hp0 args Q) (hq : ∀ r hp', Q r hp' → Q' r hp') : RetsE Tryz.prog g k hp0 args Q' := by
  obtain ⟨h1, hk, h2⟩ := h
  refine ⟨h1, hk, fun w S σ vs a b c => (h2 w S σ vs a b c).mono fun e w' he => ?_⟩
  obtain ⟨x, r, hp', U', σ', e1, hQ, rest⟩ := he
  exact ⟨x, r, hp', U', σ', e1, hq r hp' hQ, rest⟩
theorem putR_fn (b : List Nat) (x n : Nat) (m : Int) (hm : m = (n : Int)) (hb : b.length ≤ 10000000000) (hx : x < 18446744073709551616) (hn : n ≤ 8) : Rets Tryz.prog 173 [.d (nb b), .d (.int .u64 (x : Int)), .d (.int .i64 m)] (fun r => r = .d (nb (b ++ le x n))) :=
  own_deep (E_mono (putR_own b x n m hm hb hx hn) fun r hp' h => ⟨33, h.1, h.2⟩) (by simp [AV.deep, AV.deep1])

set_option maxHeartbeats 1000000 in
theorem putSizeR_own (b : List Nat) (n : Nat) (hb : b.length ≤ 1000000) (hn : n < 4294967296) : RetsE Tryz.prog 174 0 [] [.d (nb b), .d (.int .u64 (n : Int))] (OwnB (b ++ putSize n)) := by
  refine fnE_of_awp Tryz.func174 (by kernel_rfl) rfl Tryz.ntmps174 (rs := [.tmp 4]) rfl (Nat.le_of_ble_eq_true rfl) (by decide) ?_
  by_cases h1 : n < 253
  · have e : putSize n = le n 1 := by unfold putSize; rw [if_pos h1, le_t8]
    rw [e]
    have i1 : (n : Int) < 253 := by omega
    simp [go_sem, i1]
    refine cl_eff [] (putR_own b n 1 1 rfl (by omega) (by omega) (by omega)) rfl (by simp) (by simp) (by simp) (by simp [AV.renL, AV.ren]) ?_
    rintro r hp' ⟨rfl, h0⟩
    refine ⟨[(33, 0)], rfl, ?_⟩
    simp [go_sem, outH, outP, h0, Blk.ren, renR, rb_ren, AV.renL, AV.ren, rho, resV, OwnB]
  · have i1 : ¬ (n : Int) < 253 := by omega
    by_cases h2 : n < 65536
    · have e : putSize n = le 253 1 ++ le n 2 := by unfold putSize; rw [if_neg h1, if_pos h2, le_t16]
      have i2 : (n : Int) < 65536 := by omega
      rw [e, ← List.append_assoc]
      simp [go_sem, i1, i2, -List.append_assoc]
      refine cl_eq (putR_fn b 253 1 1 rfl (by omega) (by omega) (by omega)) (by simp [AV.deep, AV.deep1]) ?_
      simp [go_sem, -List.append_assoc]
      refine cl_eff [] (putR_own (b ++ le 253 1) n 2 2 rfl (by rw [List.length_append, le_len]; omega) (by omega) (by omega)) rfl (by simp) (by simp) (by simp) (by simp [AV.renL, AV.ren]) ?_
      rintro r hp' ⟨rfl, h0⟩
      refine ⟨[(33, 0)], rfl, ?_⟩
      simp [go_sem, outH, outP, h0, Blk.ren, renR, rb_ren, AV.renL, AV.ren, rho, resV, OwnB, -List.append_assoc]
    · have e : putSize n = le 254 1 ++ le n 4 := by unfold putSize; rw [if_neg h1, if_neg h2, le_t32]
      have i2 : ¬ (n : Int) < 65536 := by omega
      have i3 : (n : Int) < 4294967296 := by omega
      rw [e, ← List.append_assoc]
      simp [go_sem, i1, i2, i3, -List.append_assoc]
      refine cl_eq (putR_fn b 254 1 1 rfl (by omega) (by omega) (by omega)) (by simp [AV.deep, AV.deep1]) ?_
      simp [go_sem, -List.append_assoc]
      refine cl_eff [] (putR_own (b ++ le 254 1) n 4 4 rfl (by rw [List.length_append, le_len]; omega) (by omega) (by omega)) rfl (by simp) (by simp) (by simp) (by simp [AV.renL, AV.ren]) ?_
      rintro r hp' ⟨rfl, h0⟩
      refine ⟨[(33, 0)], rfl, ?_⟩
      simp [go_sem, outH, outP, h0, Blk.ren, renR, rb_ren, AV.renL, AV.ren, rho, resV, OwnB, -List.append_assoc]

set_option maxHeartbeats 1000000 in
theorem putBytesR_own (b x : List Nat) (hb : b.length ≤ 1000000) (hx : x.length < 1000000) : RetsE Tryz.prog 175 0 [] [.d (nb b), .d (nb x)] (OwnB (b ++ putSize x.length ++ x)) := by
  refine fnE_of_awp Tryz.func175 (by kernel_rfl) rfl Tryz.ntmps175 (rs := [.tmp 4]) rfl (Nat.le_of_ble_eq_true rfl) (by decide) ?_
  have w : IntKind.u64.wrap (x.length : Int) = (x.length : Int) := by rw [u64w]; omega
  have hp5 := putSize_len x.length
  simp only [go_sem, Nat.reduceEqDiff, Nat.reduceAdd, Nat.reduceLT, ↓reduceIte, nb, List.length_map, w]
  refine cl_eff [] (putSizeR_own b x.length (by omega) (by omega)) rfl (by simp) (by simp) (by simp) (by simp [AV.renL, AV.ren, nb]) ?_
  rintro r hp' ⟨I, rfl, h0⟩
  refine ⟨[(I, 0)], by simp [newsB, prsB], ?_⟩
  simp [go_sem, outH, outP, h0, Blk.ren, renR, rb_ren, AV.renL, AV.ren, rho, rb_of, rb_len, resV]
  refine ⟨by omega, 161, ?_, ?_⟩
  · rw [show (b ++ (putSize x.length ++ x)).length = b.length + (putSize x.length).length + x.length by simp; omega]
  · simp [lk, ← rb_app]

theorem putBytesR_fn (b x : List Nat) (hb : b.length ≤ 1000000) (hx : x.length < 1000000) : Rets Tryz.prog 175 [.d (nb b), .d (nb x)] (fun r => r = .d (nb (b ++ (putSize x.length ++ x)))) := by
  rw [← List.append_assoc]
  exact own_deep (putBytesR_own b x hb hx) (by simp [AV.deep, AV.deep1])

set_option maxHeartbeats 1000000 in
theorem treeHashR_fn (x : List Nat) (hx : x.length ≤ 100000) (hxb : bytes x) : Rets Tryz.prog 158 [.d (nb x)] (fun r => r = .agg (cb (leafB x))) := by
  refine fn_of_awp Tryz.func158 (by kernel_rfl) rfl Tryz.ntmps158 (rs := [.cell 2 22]) rfl (Nat.le_of_ble_eq_true rfl) (by simp [AV.deep, AV.deep1]) ?_
  have hp5 := putSize_len x.length
  simp [go_sem]
  refine cl_froz [32] (putBytesR_fn [192] x (by simp) (by omega)) rfl (snap_cons (.one (snap1_d (snap_full rfl rfl (by simp)))) (snap_cons (.deep (by simp [AV.deep, AV.deep1])) snap_nil)) ?_
  simp [go_sem, dropH]
  refine cl_eq (taggedR_fn [84, 97, 112, 76, 101, 97, 102] (.str [84, 97, 112, 76, 101, 97, 102]) rfl (192 :: (putSize x.length ++ x)) (by simp) (by simp) (by simp; omega) (by
    intro y hy
    rcases List.mem_cons.1 hy with rfl | hy
    · omega
    · rcases List.mem_append.1 hy with h | h
      · exact putSize_b _ y h
      · exact hxb y h)) (by simp [AV.deep, AV.deep1]) ?_
  have hL : (tagB [84, 97, 112, 76, 101, 97, 102] (192 :: (putSize x.length ++ x))).length = 32 := sumB_len _
  have hR : leafB x = tagB [84, 97, 112, 76, 101, 97, 102] (192 :: (putSize x.length ++ x)) := rfl
  rw [hR]
  generalize tagB [84, 97, 112, 76, 101, 97, 102] (192 :: (putSize x.length ++ x)) = R at *
  simp [go_sem, resV, hL, cb_take hL, z32_drop]
  exact post_same (by simp [AV.deep]; exact cb_deep _) rfl
end Go.Proofs.YtpnbpojpcbnejaaGreat

/-
  The other text's tree: branches' and roots' hashes.
-/
namespace Go.Proofs.YtpnbpojpcbnejaaGreat
open Go.Am Go.Sha
set_option linter.unusedSimpArgs false
set_option linter.unusedVariables false

/-- Bytes as a string's. -/
def sb (l : List Nat) : List Int := l.map fun (x : Nat) => (x : Int)
theorem sb_len (l : List Nat) : (sb l).length = l.length := by simp [sb]
theorem sb_inj {a b : List Nat} : sb a = sb b ↔ a = b := natmap_inj
theorem cvO_rb {P : Program} {s t : TypeId} {Kk : AV → Hp → Prop} {hp : Hp} (l : List Nat) (el : TypeId) (hb : bytes l) (h1 : tyk P s = .slice el) (h2 : tyk P t = .str) (h3 : P.underlying el = some (.int .u8)) (hK : Kk (.d (.str (sb l))) hp) : cvO P s t (some (rb l)) Kk hp := by
  refine ⟨sb l, by simp [rb, sb], fun b h => ?_, ?_⟩
  · simp only [sb, List.mem_map] at h
    obtain ⟨x, hx, rfl⟩ := h
    have := hb x hx
    omega
  · rw [h1, h2]
    exact ⟨h3, hK⟩
theorem cmp_less : ∀ (x y : List UInt8), Lib.compareBytes x y < 0 ↔ Op.bytesLess x y = true
  | [], [] => by simp [Lib.compareBytes, Op.bytesLess]
  | [], _ :: _ => by simp [Lib.compareBytes, Op.bytesLess]
  | _ :: _, [] => by simp [Lib.compareBytes, Op.bytesLess]
  | a :: x, b :: y => by
    have ih := cmp_less x y
    simp only [Lib.compareBytes, Op.bytesLess]
    by_cases h1 : a < b
    · simp [h1]
    · by_cases h2 : b < a
      · have : a ≠ b := fun e => by subst e; exact h1 h2
        simp [h1, h2, this]
      · have : a = b := UInt8.toNat_inj.1 (by
          have e1 : ¬ a.toNat < b.toNat := fun h => h1 (UInt8.lt_iff_toNat_lt.2 h)
          have e2 : ¬ b.toNat < a.toNat := fun h => h2 (UInt8.lt_iff_toNat_lt.2 h)
          omega)
        subst this
        simp only [h1, if_false, decide_false, Bool.false_or, beq_self_eq_true, Bool.true_and]
        exact ih
theorem u8s_sb {a : List Nat} (h : bytes a) : (u8s a).map (fun c => (c.toNat : Int)) = sb a := by
  unfold u8s Lib.bytesOf sb
  rw [List.map_map, List.map_map]
  apply List.map_congr_left
  intro x hx
  have := h x hx
  simp only [Function.comp_apply, Int.toNat_natCast]
  rw [UInt8.toNat_ofNat', Nat.mod_eq_of_lt (by omega)]
theorem str_gt {a b : List Nat} (ha : bytes a) (hb : bytes b) : (!(strLess (sb a) (sb b) || decide (sb a = sb b))) = decide (0 < Lib.compareBytes (u8s a) (u8s b)) := by
  have h1 := cmp_less (u8s a) (u8s b)
  rw [less_map, u8s_sb ha, u8s_sb hb] at h1
  obtain ⟨h3, h4⟩ := cmp_anti (u8s a) (u8s b)
  by_cases e : a = b
  · subst e
    have h0 : ¬ 0 < Lib.compareBytes (u8s a) (u8s a) := fun h => by have := h3.1 h; omega
    simp [h0]
  · have hne : sb a ≠ sb b := fun h => e (sb_inj.1 h)
    have h0 : Lib.compareBytes (u8s a) (u8s b) ≠ 0 := fun h => e (u8s_inj ha hb (h4 h))
    cases hl : strLess (sb a) (sb b) with
    | true =>
      have := h1.2 hl
      have h5 : ¬ 0 < Lib.compareBytes (u8s a) (u8s b) := by omega
      simp [h5]
    | false =>
      have h6 : ¬ Lib.compareBytes (u8s a) (u8s b) < 0 := fun h => by rw [h1.1 h] at hl; cases hl
      have h5 : 0 < Lib.compareBytes (u8s a) (u8s b) := by omega
      simp [h5, hne]

set_option maxHeartbeats 2000000 in
theorem branchR_fn (a b : List Nat) (ha : a.length = 32) (hb : b.length = 32) (hab : bytes a) (hbb : bytes b) : Rets Tryz.prog 159 [.agg (cb a), .agg (cb b)] (fun r => r = .agg (cb (branchB a b))) := by
  refine fn_of_awp Tryz.func159 (by kernel_rfl) rfl Tryz.ntmps159 (rs := [.cell 4 22]) rfl (Nat.le_of_ble_eq_true rfl) (by simp [AV.deep]; exact ⟨cb_deep _, cb_deep _⟩) ?_
  have hx1 := arr_rows ha
  have hx2 := arr_rows hb
  rw [rb_of] at hx1 hx2
  simp [go_sem] at hx1 hx2
  simp [go_sem, ha, hb]
  apply draw2 (0 :: 1 :: 2 :: 3 :: []) ([]) 0 (k := 4) (by kernel_rfl) (by kernel_rfl) rfl
  case hz => repeat (first | exact Its.nil | apply Its.plain rfl | apply Its.guard rfl rfl)
  case hj => repeat (first | exact Jts.nil | exact Its.nil | apply Its.plain rfl | apply Its.guard rfl rfl | apply Jts.plain rfl | apply Jts.guard rfl rfl)
  intro G hG
  simp [go_sem]
  refine hG _ _ ?_
  clear hG G
  simp [go_sem, hx1, hx2]
  refine cvO_rb a 5 hab (by simp [go_sem]) (by simp [go_sem]) Tryz.underlying5 ?_
  simp [go_sem, hx1, hx2]
  refine cvO_rb b 5 hbb (by simp [go_sem]) (by simp [go_sem]) Tryz.underlying5 ?_
  by_cases hc : 0 < Lib.compareBytes (u8s a) (u8s b)
  · simp [go_sem, str_gt hab hbb, hc, hx1, hx2, rb_len, ha, hb]
    have hl : (b ++ a).length = 64 := by rw [List.length_append]; omega
    refine cl_froz [512] (taggedR_fn branchTag (.str [84, 97, 112, 66, 114, 97, 110, 99, 104]) rfl (b ++ a) (by simp [branchTag]) (by simp [branchTag]) (by omega) (fun z hz => by
      rcases List.mem_append.1 hz with h | h
      · exact hbb z h
      · exact hab z h)) rfl (snap_cons (.deep (by simp [AV.deep, AV.deep1])) (snap_cons (.one (snap1_d (snap_full hl (by simp [lk, ← rb_app]) (by simp)))) snap_nil)) ?_
    have hR : branchB a b = tagB branchTag (b ++ a) := by unfold branchB; rw [if_pos hc]
    rw [hR]
    have hL : (tagB branchTag (b ++ a)).length = 32 := sumB_len _
    generalize tagB branchTag (b ++ a) = R at *
    simp [go_sem, dropH, hL, resV, cb_take hL, z32_drop]
    exact post_same (by simp [AV.deep]; exact cb_deep _) rfl
  · simp [go_sem, str_gt hab hbb, hc, hx1, hx2, rb_len, ha, hb]
    have hl : (a ++ b).length = 64 := by rw [List.length_append]; omega
    refine cl_froz [384] (taggedR_fn branchTag (.str [84, 97, 112, 66, 114, 97, 110, 99, 104]) rfl (a ++ b) (by simp [branchTag]) (by simp [branchTag]) (by omega) (fun z hz => by
      rcases List.mem_append.1 hz with h | h
      · exact hab z h
      · exact hbb z h)) rfl (snap_cons (.deep (by simp [AV.deep, AV.deep1])) (snap_cons (.one (snap1_d (snap_full hl (by simp [lk, ← rb_app]) (by simp)))) snap_nil)) ?_
    have hR : branchB a b = tagB branchTag (a ++ b) := by unfold branchB; rw [if_neg hc]
    rw [hR]
    have hL : (tagB branchTag (a ++ b)).length = 32 := sumB_len _
    generalize tagB branchTag (a ++ b) = R at *
    simp [go_sem, dropH, hL, resV, cb_take hL, z32_drop]
    exact post_same (by simp [AV.deep]; exact cb_deep _) rfl
end Go.Proofs.YtpnbpojpcbnejaaGreat

/-
  The other text's tree: roots; the law TreeHashes.
-/
namespace Go.Proofs.YtpnbpojpcbnejaaGreat
open Go.Am Go.Sha
set_option linter.unusedSimpArgs false
set_option linter.unusedVariables false

set_option maxHeartbeats 2000000 in
theorem rootR_fn (inner : List Nat) (ps : List (List Nat)) (x : List Nat) (hi : inner.length = 32) (hp32 : ∀ p, p ∈ ps → p.length = 32 ∧ bytes p) (hps : ps.length ≤ 1000) (hx : x.length ≤ 100000) (hxb : bytes x) :
    Rets Tryz.prog 129 [.agg (leafC inner (.d (hs32 ps)) (.d (nb x)))] (fun r => r = .agg (cb (rootB ps (leafB x)))) := by
  have hleaf : (AV.agg (leafC inner (.d (hs32 ps)) (.d (nb x)))).deep := leaf_deep trivial trivial
  refine fn_of_awp Tryz.func129 (by kernel_rfl) rfl Tryz.ntmps129 (rs := [.cell 2 22]) rfl (Nat.le_of_ble_eq_true rfl) (by intro v hv; simp at hv; subst hv; exact hleaf) ?_
  simp [go_sem, leafC, leaf33 hi]
  refine cl_eq (treeHashR_fn x hx hxb) (by simp [AV.deep, AV.deep1]) ?_
  have hL : (leafB x).length = 32 := leafB_len x
  have hLb : bytes (leafB x) := sumB_bytes _
  have hR : rootB ps (leafB x) = rootB (ps.drop 0) (leafB x) := by rw [List.drop_zero]
  rw [hR]
  generalize leafB x = R at *
  generalize hT : rootB (ps.drop 0) R = T
  clear hR
  simp [go_sem, hL, cb_take hL, z32_drop, hi]
  refine loop_of (fun t : Nat × List Nat => ⟨[(1, .ptr 0 0 0 1), (2, .ptr 32 0 0 1), (3, .ptr 160 0 0 1), (4, .d (.int .i64 (t.1 : Int)))], [(0, ⟨76, 34, [leafC inner (.d (hs32 ps)) (.d (nb x))]⟩), (32, ⟨22, 32, [cb z32]⟩), (160, ⟨22, 32, [cb t.2]⟩)], 256⟩)
    (fun t => t.1 ≤ ps.length ∧ t.2.length = 32 ∧ bytes t.2 ∧ rootB (ps.drop t.1) t.2 = T) (fun t => ps.length - t.1) (0, R) ⟨by omega, hL, hLb, hT⟩ (by
      simp [Weak, slotOk, fv, lk, AV.low, AV.low1, leafC]
      refine ⟨fun v hv => ?_, cb_low _ _, cb_low _ _⟩
      rcases hv with hv | rfl | rfl
      · exact cb_low _ _ v hv
      · trivial
      · trivial) ?_
  clear hT hL hLb
  rintro ⟨k, h⟩ ⟨hk, hh, hhb, hT'⟩
  simp only at hk hh hhb hT'
  simp only [go_sem, Nat.reduceEqDiff, Nat.reduceAdd, Nat.reduceLT, ↓reduceIte]
  simp [go_sem, leafC, leaf32 hi, hs32]
  refine ⟨fun hlt => ?_, fun hge => ?_⟩
  · have hlt' : k < ps.length := by omega
    have hp := List.getElem?_eq_getElem hlt'
    generalize ps[k] = p at hp
    obtain ⟨hpl, hpb⟩ := hp32 p (List.mem_of_getElem? hp)
    rw [rootB_step hp] at hT'
    apply draw2 (0 :: 1 :: 2 :: 3 :: 4 :: 5 :: []) ((6, ([])) :: (7, ([])) :: []) 0 (k := 8) (by kernel_rfl) (by kernel_rfl) rfl
    case hz => repeat (first | exact Its.nil | apply Its.plain rfl | apply Its.guard rfl rfl)
    case hj => repeat (first | exact Jts.nil | exact Its.nil | apply Its.plain rfl | apply Its.guard rfl rfl | apply Jts.plain rfl | apply Jts.guard rfl rfl)
    intro G hG
    simp [go_sem, leafC, leaf32 hi, hs32, hp, cd_len, hpl, cd_map, cb_take hpl, cb_len, hh, cb_take hh, z32_drop]
    refine cl_eq (branchR_fn h p hh hpl hhb hpb) (by simp [AV.deep]; exact ⟨cb_deep _, cb_deep _⟩) ?_
    have hB := branchB_len h p
    have hBb : bytes (branchB h p) := sumB_bytes _
    generalize branchB h p = B at *
    simp [go_sem, cb_len, hB, hh, cb_take hB, cb_drop hh]
    refine hG _ _ ?_
    clear hG G
    have w := next_i64 (k := k) (by omega)
    simp [go_sem, w]
    refine next_of (k + 1, B) ⟨by omega, hB, hBb, hT'⟩ (by simp only; omega) ?_
    simp [Weak, slotOk, fv, lk, AV.low, AV.low1, leafC, hs32]
    refine ⟨fun v hv => ?_, cb_low _ _, cb_low _ _⟩
    rcases hv with hv | rfl | rfl
    · exact cb_low _ _ v hv
    · trivial
    · trivial
  · have hkn : k = ps.length := by omega
    subst hkn
    have : T = h := by rw [← hT', List.drop_length]; rfl
    subst this
    simp [go_sem, resV, hh, cb_take hh, z32_drop]
    exact post_same (by simp [AV.deep]; exact cb_deep _) rfl

end Go.Proofs.YtpnbpojpcbnejaaGreat
