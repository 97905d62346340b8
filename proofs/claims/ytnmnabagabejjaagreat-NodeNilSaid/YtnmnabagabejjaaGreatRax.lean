/-
  One tagged sum, evaluated: the numbers forced step by step, so that the kernel gets through.
-/
import Derived.Test.YtnmnabagabejjaaGreatShc
import Derived.Test.YtnmnabagabejjaaGreatCpx
import Derived.Test.YtnmnabagabejjaaGreatAmLaw
namespace Go.Sha
set_option linter.unusedSimpArgs false
set_option linter.unusedVariables false

def frc {α : Type} : Nat → (Nat → α) → α
  | 0, k => k 0
  | n + 1, k => k (n + 1)
theorem frc_eq {α : Type} (n : Nat) (k : Nat → α) : frc n k = k n := by cases n <;> rfl
def rdF {α : Type} (s : S8) (k w : Nat) (C : S8 → α) : α := frc (T1 s k w) fun t => frc (a32 t (T2 s)) fun x => frc (a32 s.d t) fun y => C ⟨x, s.a, s.b, s.c, y, s.e, s.f, s.g⟩
theorem rdF_eq {α : Type} (s : S8) (k w : Nat) (C : S8 → α) : rdF s k w C = C (rd s k w) := by simp only [rdF, frc_eq, rd]
def foldF {α : Type} : List Nat → List Nat → S8 → (S8 → α) → α
  | k :: ks, w :: ws, s, C => rdF s k w fun s' => foldF ks ws s' C
  | _, _, s, C => C s
theorem foldF_eq {α : Type} : ∀ (ks ws : List Nat) (s : S8) (C : S8 → α), foldF ks ws s C = C ((ks.zip ws).foldl rdp s)
  | [], _, s, C => by simp [foldF]
  | k :: ks, [], s, C => by simp [foldF]
  | k :: ks, w :: ws, s, C => by simp only [foldF, rdF_eq, foldF_eq ks ws, List.zip_cons_cons, List.foldl_cons]; rfl
def listF {α : Type} : List Nat → (List Nat → α) → α
  | [], C => C []
  | x :: r, C => frc x fun y => listF r fun q => C (y :: q)
theorem listF_eq {α : Type} : ∀ (l : List Nat) (C : List Nat → α), listF l C = C l
  | [], C => rfl
  | x :: r, C => by simp only [listF, frc_eq, listF_eq r]
/-- The next word, of the words in the other order. -/
def wxR (l : List Nat) : Nat :=
  a32 (a32 (a32 (l.getD 15 0) (x32 (x32 (rol 25 (l.getD 14 0)) (rol 14 (l.getD 14 0))) (r32 3 (l.getD 14 0)))) (l.getD 6 0)) (x32 (x32 (rol 15 (l.getD 1 0)) (rol 13 (l.getD 1 0))) (r32 10 (l.getD 1 0)))
theorem getD_rev (w : List Nat) (i : Nat) (h : i < w.length) : w.reverse.getD i 0 = w.getD (w.length - 1 - i) 0 := by
  rw [List.getD_eq_getElem?_getD, List.getD_eq_getElem?_getD, List.getElem?_reverse h]
theorem wxR_eq (w : List Nat) (h : 16 ≤ w.length) : wxR w.reverse = wx w := by
  unfold wxR wx
  rw [getD_rev w 15 (by omega), getD_rev w 14 (by omega), getD_rev w 6 (by omega), getD_rev w 1 (by omega)]
  rw [show w.length - 1 - 15 = w.length - 16 by omega, show w.length - 1 - 14 = w.length - 15 by omega, show w.length - 1 - 6 = w.length - 7 by omega, show w.length - 1 - 1 = w.length - 2 by omega]
def schF {α : Type} : Nat → List Nat → (List Nat → α) → α
  | 0, l, C => C l
  | n + 1, l, C => frc (wxR l) fun x => schF n (x :: l) C
theorem schF_eq {α : Type} (b : List Nat) : ∀ (n m : Nat) (C : List Nat → α), schF n (wmore b m).reverse C = C (wmore b (m + n)).reverse
  | 0, m, C => rfl
  | n + 1, m, C => by
    have h : wxR (wmore b m).reverse :: (wmore b m).reverse = (wmore b (m + 1)).reverse := by
      rw [wxR_eq _ (by rw [wmore_len]; omega)]
      simp [wmore]
    simp only [schF, frc_eq, h]
    rw [schF_eq b n (m + 1) C, show m + 1 + n = m + (n + 1) by omega]
def takeF {α : Type} (s : S8) (b : List Nat) (C : S8 → α) : α :=
  listF (wfirst b 16) fun q => schF 48 q.reverse fun l => foldF K l.reverse s fun v => C (s8add s v)
theorem takeF_eq {α : Type} (s : S8) (b : List Nat) (C : S8 → α) : takeF s b C = C (take s b) := by
  unfold takeF
  rw [listF_eq]
  have := schF_eq b 48 0 (fun l => foldF K l.reverse s fun v => C (s8add s v))
  simp only [wmore, Nat.zero_add] at this
  rw [this, List.reverse_reverse, foldF_eq]
  rfl
def blkA : List Nat := (84 :: 97 :: 112 :: 76 :: 101 :: 97 :: 102 :: 128 :: 0 :: 0 :: 0 :: 0 :: 0 :: 0 :: 0 :: 0 :: 0 :: 0 :: 0 :: 0 :: 0 :: 0 :: 0 :: 0 :: 0 :: 0 :: 0 :: 0 :: 0 :: 0 :: 0 :: 0 :: 0 :: 0 :: 0 :: 0 :: 0 :: 0 :: 0 :: 0 :: 0 :: 0 :: 0 :: 0 :: 0 :: 0 :: 0 :: 0 :: 0 :: 0 :: 0 :: 0 :: 0 :: 0 :: 0 :: 0 :: 0 :: 0 :: 0 :: 0 :: 0 :: 0 :: 0 :: 56 :: [])
def blkB : List Nat := (174 :: 234 :: 143 :: 220 :: 66 :: 8 :: 152 :: 49 :: 5 :: 115 :: 75 :: 88 :: 8 :: 29 :: 30 :: 38 :: 56 :: 211 :: 95 :: 28 :: 181 :: 64 :: 8 :: 212 :: 211 :: 87 :: 202 :: 3 :: 190 :: 120 :: 233 :: 238 :: 174 :: 234 :: 143 :: 220 :: 66 :: 8 :: 152 :: 49 :: 5 :: 115 :: 75 :: 88 :: 8 :: 29 :: 30 :: 38 :: 56 :: 211 :: 95 :: 28 :: 181 :: 64 :: 8 :: 212 :: 211 :: 87 :: 202 :: 3 :: 190 :: 120 :: 233 :: 238 :: [])
def blkC : List Nat := (192 :: 1 :: 81 :: 128 :: 0 :: 0 :: 0 :: 0 :: 0 :: 0 :: 0 :: 0 :: 0 :: 0 :: 0 :: 0 :: 0 :: 0 :: 0 :: 0 :: 0 :: 0 :: 0 :: 0 :: 0 :: 0 :: 0 :: 0 :: 0 :: 0 :: 0 :: 0 :: 0 :: 0 :: 0 :: 0 :: 0 :: 0 :: 0 :: 0 :: 0 :: 0 :: 0 :: 0 :: 0 :: 0 :: 0 :: 0 :: 0 :: 0 :: 0 :: 0 :: 0 :: 0 :: 0 :: 0 :: 0 :: 0 :: 0 :: 0 :: 0 :: 0 :: 2 :: 24 :: [])
def stA : S8 := ⟨2934607836, 1107859505, 91442008, 136125990, 953376540, 3040872660, 3545745923, 3195595246⟩
def stB : S8 := ⟨2631984358, 2081516601, 951306994, 3272560777, 3555955564, 1197698656, 2108899050, 3720802505⟩
def stC : S8 := ⟨2824544519, 4153520746, 2229753964, 684640203, 1629499091, 3491316952, 844107574, 931321461⟩
def digA : List Nat := (174 :: 234 :: 143 :: 220 :: 66 :: 8 :: 152 :: 49 :: 5 :: 115 :: 75 :: 88 :: 8 :: 29 :: 30 :: 38 :: 56 :: 211 :: 95 :: 28 :: 181 :: 64 :: 8 :: 212 :: 211 :: 87 :: 202 :: 3 :: 190 :: 120 :: 233 :: 238 :: [])
def digC : List Nat := (168 :: 91 :: 33 :: 7 :: 247 :: 145 :: 178 :: 106 :: 132 :: 231 :: 88 :: 108 :: 40 :: 206 :: 199 :: 203 :: 97 :: 32 :: 46 :: 211 :: 208 :: 25 :: 68 :: 216 :: 50 :: 80 :: 15 :: 54 :: 55 :: 130 :: 214 :: 117 :: [])
theorem stepA : take H0 blkA = stA := by
  have h : takeF H0 blkA id = stA := by kernel_rfl
  rw [takeF_eq] at h
  exact h
theorem stepB : take H0 blkB = stB := by
  have h : takeF H0 blkB id = stB := by kernel_rfl
  rw [takeF_eq] at h
  exact h
theorem stepC : take stB blkC = stC := by
  have h : takeF stB blkC id = stC := by kernel_rfl
  rw [takeF_eq] at h
  exact h
theorem E_blk {s : S8} {b : List Nat} (h : b.length = 64) : E s b = (take s b, []) := by
  rw [E_more (by omega), List.take_of_length_le (by omega), List.drop_eq_nil_of_le (by omega), E_none (by decide)]
theorem sumA : sumB (84 :: 97 :: 112 :: 76 :: 101 :: 97 :: 102 :: []) = digA := by
  have hl : Go.Proofs.YtnmnabagabejjaaGreat.lastOf (84 :: 97 :: 112 :: 76 :: 101 :: 97 :: 102 :: []) 7 = blkA := by kernel_rfl
  have hE : E H0 (84 :: 97 :: 112 :: 76 :: 101 :: 97 :: 102 :: []) = (H0, (84 :: 97 :: 112 :: 76 :: 101 :: 97 :: 102 :: [])) := E_none (by decide)
  unfold sumB fin
  rw [hE]
  show dig (E H0 (Go.Proofs.YtnmnabagabejjaaGreat.lastOf (84 :: 97 :: 112 :: 76 :: 101 :: 97 :: 102 :: []) 7)).1 = _
  rw [hl, E_blk (by kernel_rfl), stepA]
  kernel_rfl
theorem sumC : tagB (84 :: 97 :: 112 :: 76 :: 101 :: 97 :: 102 :: []) (192 :: 1 :: 81 :: []) = digC := by
  have hb : digA ++ (digA ++ (192 :: 1 :: 81 :: [])) = blkB ++ (192 :: 1 :: 81 :: []) := by kernel_rfl
  have hl : Go.Proofs.YtnmnabagabejjaaGreat.lastOf (192 :: 1 :: 81 :: []) 67 = blkC := by kernel_rfl
  have hE : E H0 (blkB ++ (192 :: 1 :: 81 :: [])) = (stB, (192 :: 1 :: 81 :: [])) := by
    have h1 : E H0 blkB = (stB, []) := by rw [E_blk (by kernel_rfl), stepB]
    have h2 : E stB (192 :: 1 :: 81 :: []) = (stB, (192 :: 1 :: 81 :: [])) := E_none (by decide)
    rw [E_app _ _ _ _ (Nat.le_refl _), h1]
    exact h2
  unfold tagB
  rw [sumA, hb]
  unfold sumB fin
  rw [hE]
  show dig (E stB (Go.Proofs.YtnmnabagabejjaaGreat.lastOf (192 :: 1 :: 81 :: []) 67)).1 = _
  rw [hl, E_blk (by kernel_rfl), stepC]
  kernel_rfl
end Go.Sha

/-
  The live question of layer 16.
-/
namespace Go.Proofs.YtnmnabagabejjaaGreat
open Go.Am Go.Sha
set_option linter.unusedSimpArgs false
set_option linter.unusedVariables false

theorem leafB81 : leafB [81] = digC := by
  have e : putSize [81].length ++ [81] = (1 :: 81 :: []) := by kernel_rfl
  unfold leafB
  rw [e]
  exact sumC

theorem ints_cb (l : List Nat) : intsOf .u8 (cb l) = some (l.map fun (x : Nat) => (x : Int)) := by
  have := ints_map .u8 (l.map fun (x : Nat) => (x : Int))
  rw [List.map_map] at this
  exact this
theorem natmap_inj {a b : List Nat} : (a.map fun (x : Nat) => (x : Int)) = b.map (fun (x : Nat) => (x : Int)) ↔ a = b := by
  constructor
  · intro h
    have := congrArg (List.map Int.toNat) h
    simpa [List.map_map, Function.comp_def] using this
  · rintro rfl; rfl
theorem snap1_app {hp : Hp} {I : Nat → Prop} {a a' : List AV} : ∀ (l : List AV), (∀ c, c ∈ l → c.deep1) → (∀ (i : Nat) (c c' : AV), a[i]? = some c → a'[i]? = some c' → Snap1 hp I c c') → ∀ (i : Nat) (c c' : AV), (l ++ a)[i]? = some c → (l ++ a')[i]? = some c' → Snap1 hp I c c'
  | [], _, h => h
  | x :: l, hl, h => snap1_cons (snap1_same (hl x (List.mem_cons_self ..))) (snap1_app l (fun c hc => hl c (List.mem_cons_of_mem _ hc)) h)
theorem leaf_snap {hp : Hp} {I : Nat → Prop} {inner : List Nat} {a b a' b' : AV} (ha : Snap1 hp I a a') (hb : Snap1 hp I b b') : Snap hp I (.agg (leafC inner a b)) (.agg (leafC inner a' b')) :=
  .agg ⟨by simp [leafC], snap1_app _ (cb_deep _) (snap1_cons ha (snap1_cons hb snap1_nil))⟩
theorem cb_flat (l : List Nat) : ∀ c, c ∈ cb l → c.flat1 := by
  intro c hc
  simp only [cb, List.mem_map] at hc
  obtain ⟨x, _, rfl⟩ := hc
  trivial

end Go.Proofs.YtnmnabagabejjaaGreat

/-
  The law TreeSorted.
-/
namespace Go.Proofs.YtnmnabagabejjaaGreat
open Go.Am Go.Sha
set_option linter.unusedSimpArgs false
set_option linter.unusedVariables false

theorem cmp_anti : ∀ (x y : List UInt8), (0 < Lib.compareBytes x y ↔ Lib.compareBytes y x < 0) ∧ (Lib.compareBytes x y = 0 → x = y)
  | [], [] => by simp [Lib.compareBytes]
  | [], _ :: _ => by simp [Lib.compareBytes]
  | _ :: _, [] => by simp [Lib.compareBytes]
  | a :: x, b :: y => by
    have ih := cmp_anti x y
    simp only [Lib.compareBytes]
    by_cases h1 : a < b
    · have h2 : ¬ b < a := fun h => by
        have := UInt8.lt_iff_toNat_lt.1 h
        have := UInt8.lt_iff_toNat_lt.1 h1
        omega
      simp [h1, h2]
    · by_cases h2 : b < a
      · simp [h1, h2]
      · have : a = b := UInt8.toNat_inj.1 (by
          have e1 : ¬ a.toNat < b.toNat := fun h => h1 (UInt8.lt_iff_toNat_lt.2 h)
          have e2 : ¬ b.toNat < a.toNat := fun h => h2 (UInt8.lt_iff_toNat_lt.2 h)
          omega)
        subst this
        simp only [h1, if_false]
        exact ⟨ih.1, fun h => by rw [ih.2 h]⟩
def bytes (l : List Nat) : Prop := ∀ x, x ∈ l → x < 256
theorem u8s_inj : ∀ {a b : List Nat}, bytes a → bytes b → u8s a = u8s b → a = b
  | [], [], _, _, _ => rfl
  | [], _ :: _, _, _, h => by simp [u8s, Lib.bytesOf] at h
  | _ :: _, [], _, _, h => by simp [u8s, Lib.bytesOf] at h
  | x :: a, y :: b, ha, hb, h => by
    have hx := ha x (List.mem_cons_self ..)
    have hy := hb y (List.mem_cons_self ..)
    simp [u8s, Lib.bytesOf] at h
    obtain ⟨h1, h2⟩ := h
    have := u8s_inj (fun z hz => ha z (List.mem_cons_of_mem _ hz)) (fun z hz => hb z (List.mem_cons_of_mem _ hz)) (by simpa [u8s, Lib.bytesOf] using h2)
    have e : x = y := by
      have := congrArg UInt8.toNat h1
      rw [UInt8.toNat_ofNat', UInt8.toNat_ofNat', Nat.mod_eq_of_lt (by omega), Nat.mod_eq_of_lt (by omega)] at this
      exact this
    rw [this, e]
theorem branchB_comm {a b : List Nat} (ha : bytes a) (hb : bytes b) : branchB a b = branchB b a := by
  unfold branchB
  obtain ⟨h1, h2⟩ := cmp_anti (u8s a) (u8s b)
  obtain ⟨h3, h4⟩ := cmp_anti (u8s b) (u8s a)
  by_cases c1 : 0 < Lib.compareBytes (u8s a) (u8s b)
  · have c2 : ¬ 0 < Lib.compareBytes (u8s b) (u8s a) := by have := h1.1 c1; omega
    rw [if_pos c1, if_neg c2]
  · by_cases c2 : 0 < Lib.compareBytes (u8s b) (u8s a)
    · rw [if_neg c1, if_pos c2]
    · have h0 : Lib.compareBytes (u8s a) (u8s b) = 0 := by
        have : ¬ Lib.compareBytes (u8s a) (u8s b) < 0 := fun h => c2 (h3.2 h)
        omega
      have := u8s_inj ha hb (h2 h0)
      subst this
      rfl

theorem leaf_deep {inner : List Nat} {a b : AV} (ha : a.deep1) (hb : b.deep1) : (AV.agg (leafC inner a b)).deep := by
  intro c hc
  simp only [leafC, List.mem_append, List.mem_cons, List.mem_nil_iff, or_false] at hc
  rcases hc with hc | rfl | rfl
  · exact cb_deep _ _ hc
  · exact ha
  · exact hb
theorem leafset {inner : List Nat} (hi : inner.length = 32) (a b w : AV) (r : List AV) : (cb inner ++ a :: b :: r).set 32 w = cb inner ++ w :: b :: r := by
  rw [List.set_append_right _ _ (by rw [cb_len]; omega), cb_len, hi]; rfl
theorem zleaf_drop : List.drop 34 (cb z32 ++ [AV.nil, AV.nil]) = [] := rfl
theorem rootB_len : ∀ (ps : List (List Nat)) {h : List Nat}, h.length = 32 → (rootB ps h).length = 32
  | [], h, hh => hh
  | p :: r, h, _ => rootB_len r (branchB_len h p)
theorem cb_deepA (l : List Nat) : (AV.agg (cb l)).deep := cb_deep l

set_option maxRecDepth 100000
/-- 32 bytes, as an argument. -/
theorem tyfs_rep {n : Nat} : ∀ (m : Nat) {ds : List DV}, TyFs (TyD Tryz.prog (n + 1)) Tryz.prog.cellsOf (List.replicate m 5) ds → ∃ l : List Nat, ds = cd l ∧ l.length = m ∧ bytes l
  | 0, ds, h => ⟨[], by simpa [TyFs, cd] using h, rfl, fun _ h => by simp at h⟩
  | m + 1, ds, h => by
    rw [List.replicate_succ] at h
    obtain ⟨a, b, rfl, _, h2, h3⟩ := h
    simp only [TyD, Tryz.underlying5] at h2
    obtain ⟨x, rfl, hx⟩ := h2
    obtain ⟨l, rfl, hl, hb⟩ := tyfs_rep m h3
    have hx' : 0 ≤ x ∧ x < 256 := by simp [IntKind.has, IntKind.min, IntKind.max, IntKind.signed, IntKind.bits] at hx; omega
    refine ⟨x.toNat :: l, ?_, by simp [hl], fun y hy => ?_⟩
    · simp only [cd, List.map_cons, List.cons_append, List.nil_append]
      rw [show ((x.toNat : Nat) : Int) = x by omega]
    · rcases List.mem_cons.1 hy with rfl | hy
      · omega
      · exact hb y hy
theorem ty_h32 {n : Nat} {ds : List DV} (h : TyD Tryz.prog (n + 2) 61 ds) : ∃ l : List Nat, ds = cd l ∧ l.length = 32 ∧ bytes l := by
  rw [TyD] at h
  simp only [Tryz.underlying61] at h
  exact tyfs_rep 32 h
theorem arg_h32 {n : Nat} {a : AV} (h : ArgTy Tryz.prog (n + 2) 61 a) : ∃ l : List Nat, a = .agg (cb l) ∧ l.length = 32 ∧ bytes l := by
  unfold ArgTy at h
  simp only [Tryz.underlying61] at h
  obtain ⟨ds, rfl, h⟩ := h
  obtain ⟨l, rfl, h1, h2⟩ := ty_h32 h
  exact ⟨l, by rw [cd_map], h1, h2⟩
theorem ty_bytes {n : Nat} {d : DV} (h : TyD Tryz.prog (n + 2) 22 [d]) : ∃ bs : List Nat, d = nb bs ∧ bs.length ≤ maxLen ∧ bytes bs := by
  simp only [TyD, Tryz.underlying22, List.cons.injEq, and_true] at h
  obtain ⟨es, rfl, hl, hr⟩ := h
  obtain ⟨bs, rfl, hbs⟩ := map_of (enc := fun b : Nat => [DV.int .u8 (b : Int)]) (R := fun b => b < 256) (es := es) (fun r hr' => by
    obtain ⟨h1, h2⟩ := hr r hr'
    simp only [Tryz.underlying5] at h1
    obtain ⟨x, rfl, hx⟩ := h1
    have hx' : 0 ≤ x ∧ x < 256 := by simp [IntKind.has, IntKind.min, IntKind.max, IntKind.signed, IntKind.bits] at hx; omega
    exact ⟨x.toNat, by rw [show ((x.toNat : Nat) : Int) = x by omega], by omega⟩)
  exact ⟨bs, by rw [show Tryz.prog.cellsOf 5 = 1 by kernel_rfl]; rfl, by simpa using hl, hbs⟩
theorem ty_hs32 {n : Nat} {d : DV} (h : TyD Tryz.prog (n + 3) 66 [d]) : ∃ ps : List (List Nat), d = hs32 ps ∧ ∀ p, p ∈ ps → p.length = 32 ∧ bytes p := by
  rw [TyD] at h
  simp only [Tryz.underlying66, List.cons.injEq, and_true] at h
  obtain ⟨es, rfl, hl, hr⟩ := h
  obtain ⟨ps, rfl, hps⟩ := map_of (enc := cd) (R := fun p => p.length = 32 ∧ bytes p) (es := es) (fun r hr' => by
    obtain ⟨l, rfl, h1, h2⟩ := ty_h32 (hr r hr').1
    exact ⟨l, rfl, h1, h2⟩)
  exact ⟨ps, by rw [show Tryz.prog.cellsOf 61 = 32 by kernel_rfl]; rfl, hps⟩
theorem arg_leaf {n : Nat} {a : AV} (h : ArgTy Tryz.prog (n + 4) 147 a) : ∃ (inner : List Nat) (ps : List (List Nat)) (x : List Nat), a = .agg (leafC inner (.d (hs32 ps)) (.d (nb x))) ∧ inner.length = 32 ∧ bytes inner ∧ (∀ p, p ∈ ps → p.length = 32 ∧ bytes p) ∧ x.length ≤ maxLen ∧ bytes x := by
  unfold ArgTy at h
  simp only [Tryz.underlying147] at h
  obtain ⟨ds, rfl, h⟩ := h
  rw [TyD] at h
  simp only [Tryz.underlying147, List.map_cons, List.map_nil] at h
  obtain ⟨a, b, rfl, ha, ha2, a', b', rfl, hb, hb2, a3, b3, rfl, hc, hc2, rfl⟩ := h
  obtain ⟨inner, rfl, h1, h2⟩ := ty_h32 ha2
  rw [show Tryz.prog.cellsOf 66 = 1 by kernel_rfl] at hb
  rw [show Tryz.prog.cellsOf 22 = 1 by kernel_rfl] at hc
  match a', hb, hb2, a3, hc, hc2 with
  | [y], _, hb2, [z], _, hc2 =>
    obtain ⟨ps, rfl, h3⟩ := ty_hs32 hb2
    obtain ⟨x, rfl, h4, h5⟩ := ty_bytes hc2
    exact ⟨inner, ps, x, by simp [leafC, cd_map], h1, h2, h3, h4, h5⟩

end Go.Proofs.YtnmnabagabejjaaGreat

/-
  SHA-256: the other text's way to reckon, and that it comes to the same. No program in sight.
-/
namespace Go.Sha
open Go.Am
set_option linter.unusedSimpArgs false
set_option linter.unusedVariables false

/-- turned to the right -/
def ror (n x : Nat) : Nat := o32 (r32 n x) (s32 (32 - n) x)
theorem ror_rol {n x : Nat} (h : n ≤ 32) : ror n x = rol (32 - n) x := by
  unfold ror rol o32
  rw [Nat.or_comm, show 32 - (32 - n) = n by omega]
theorem a32_comm (a b : Nat) : a32 a b = a32 b a := by unfold a32; rw [Nat.add_comm]
theorem x32_c (e : Nat) : x32 e 4294967295 = c32 e := by unfold x32 c32; rw [Nat.xor_comm]

theorem or_lt {x i c : Nat} (h : c < 2 ^ i) : x * 2 ^ i ||| c = x * 2 ^ i + c := by
  rw [← Nat.shiftLeft_eq, Nat.shiftLeft_add_eq_or_of_lt h]
def word4 (a b c d : Nat) : Nat := o32 (o32 (o32 (s32 24 (t32 a)) (s32 16 (t32 b))) (s32 8 (t32 c))) (t32 d)
theorem o32_lt {x i c : Nat} (hx : x * 2 ^ i + c < 4294967296) (h : c < 2 ^ i) : o32 (x * 2 ^ i) c = x * 2 ^ i + c := by
  unfold o32
  rw [or_lt h, Nat.mod_eq_of_lt hx]
theorem t32_lt {x : Nat} (h : x < 4294967296) : t32 x = x := Nat.mod_eq_of_lt h
theorem s32_lt {x i : Nat} (h : x * 2 ^ i < 4294967296) : s32 i x = x * 2 ^ i := Nat.mod_eq_of_lt h
theorem o8 {x y : Nat} (hx : x < 16777216) (hy : y < 256) : o32 (s32 8 x) (t32 y) = x * 256 + y := by
  rw [t32_lt (by omega), s32_lt (by omega), o32_lt (by omega) (by omega)]
theorem word4_eq {a b c d : Nat} (ha : a < 256) (hb : b < 256) (hc : c < 256) (hd : d < 256) : word4 a b c d = word [a, b, c, d] := by
  have r : word [a, b, c, d] = ((a * 256 + b) * 256 + c) * 256 + d := by
    unfold word
    simp only [List.foldl_cons, List.foldl_nil]
    rw [o8 (by omega) ha, o8 (by omega) hb, o8 (by omega) hc, o8 (by omega) hd]
    omega
  rw [r]
  unfold word4
  rw [t32_lt (by omega : a < 4294967296), t32_lt (by omega : b < 4294967296), t32_lt (by omega : c < 4294967296), t32_lt (by omega : d < 4294967296), s32_lt (by omega), s32_lt (by omega), s32_lt (by omega)]
  rw [o32_lt (by omega) (by omega)]
  rw [show a * 2 ^ 24 + b * 2 ^ 16 = (a * 2 ^ 8 + b) * 2 ^ 16 by omega]
  rw [o32_lt (by omega) (by omega)]
  rw [show (a * 2 ^ 8 + b) * 2 ^ 16 + c * 2 ^ 8 = ((a * 2 ^ 8 + b) * 2 ^ 8 + c) * 2 ^ 8 by omega]
  rw [o32_lt (by omega) (by omega)]

/-- The next word, summed in the other order. -/
def wx2 (w : List Nat) : Nat :=
  let t := w.length
  let x := w.getD (t - 15) 0
  let y := w.getD (t - 2) 0
  let s0 := x32 (x32 (ror 7 x) (ror 18 x)) (r32 3 x)
  let s1 := x32 (x32 (ror 17 y) (ror 19 y)) (r32 10 y)
  a32 (a32 (a32 s1 (w.getD (t - 7) 0)) s0) (w.getD (t - 16) 0)
theorem wx2_eq (w : List Nat) : wx2 w = wx w := by
  unfold wx2 wx
  simp only [ror_rol (show 7 ≤ 32 by omega), ror_rol (show 18 ≤ 32 by omega), ror_rol (show 17 ≤ 32 by omega), ror_rol (show 19 ≤ 32 by omega)]
  generalize x32 (x32 (rol (32 - 7) (w.getD (w.length - 15) 0)) (rol (32 - 18) (w.getD (w.length - 15) 0))) (r32 3 (w.getD (w.length - 15) 0)) = s0
  generalize x32 (x32 (rol (32 - 17) (w.getD (w.length - 2) 0)) (rol (32 - 19) (w.getD (w.length - 2) 0))) (r32 10 (w.getD (w.length - 2) 0)) = s1
  unfold a32
  omega
/-- So many words of a block. -/
def wds (b : List Nat) (t : Nat) : List Nat := if t ≤ 16 then wfirst b t else wmore b (t - 16)
theorem wds_len (b : List Nat) (t : Nat) : (wds b t).length = t := by
  unfold wds
  split
  · exact wfirst_len b t
  · rw [wmore_len]; omega
theorem wds_lo {b : List Nat} {t : Nat} (h : t < 16) : wds b (t + 1) = wds b t ++ [word ((b.take (4 * t + 4)).drop (4 * t))] := by
  unfold wds
  rw [if_pos (by omega), if_pos (by omega)]
  rfl
theorem wds_hi {b : List Nat} {t : Nat} (h : 16 ≤ t) : wds b (t + 1) = wds b t ++ [wx (wds b t)] := by
  have e : wds b t = wmore b (t - 16) := by
    unfold wds
    split
    · have : t = 16 := by omega
      subst this
      rfl
    · rfl
  rw [e]
  unfold wds
  rw [if_neg (by omega), show t + 1 - 16 = (t - 16) + 1 by omega]
  rfl
theorem wds_end (b : List Nat) : wds b 64 = sched b := rfl

/-- What is hashed, padded as a whole. -/
theorem padTo_app {a : List Nat} (ha : a.length % 64 = 0) : ∀ (n : Nat) (l : List Nat), Go.Proofs.YtnmnabagabejjaaGreat.padTo n (a ++ l) = a ++ Go.Proofs.YtnmnabagabejjaaGreat.padTo n l
  | 0, l => rfl
  | n + 1, l => by
    unfold Go.Proofs.YtnmnabagabejjaaGreat.padTo
    have : (a ++ l).length % 64 = l.length % 64 := by rw [List.length_append]; omega
    rw [this]
    split
    · rfl
    · rw [List.append_assoc]
      exact padTo_app ha n (l ++ [0])
theorem lastOf_app {a l : List Nat} (ha : a.length % 64 = 0) (n : Nat) : Go.Proofs.YtnmnabagabejjaaGreat.lastOf (a ++ l) n = a ++ Go.Proofs.YtnmnabagabejjaaGreat.lastOf l n := by
  unfold Go.Proofs.YtnmnabagabejjaaGreat.lastOf
  rw [List.append_assoc, padTo_app ha, List.append_assoc]
theorem E_last (n : Nat) : ∀ (k : Nat) (s : S8) (b : List Nat), b.length ≤ k → E s (Go.Proofs.YtnmnabagabejjaaGreat.lastOf b n) = E (E s b).1 (Go.Proofs.YtnmnabagabejjaaGreat.lastOf (E s b).2 n)
  | 0, s, b, h => by rw [E_none (b := b) (by omega)]
  | k + 1, s, b, h => by
    by_cases h64 : 64 ≤ b.length
    · rw [E_more (b := b) h64]
      have e : Go.Proofs.YtnmnabagabejjaaGreat.lastOf b n = b.take 64 ++ Go.Proofs.YtnmnabagabejjaaGreat.lastOf (b.drop 64) n := by
        rw [← lastOf_app (by rw [List.length_take]; omega), List.take_append_drop]
      have h3 : 64 ≤ (b.take 64 ++ Go.Proofs.YtnmnabagabejjaaGreat.lastOf (b.drop 64) n).length := by simp; omega
      rw [e, E_more h3]
      have hl : (b.take 64).length = 64 := by rw [List.length_take]; omega
      rw [List.take_append_of_le_length (by omega), List.drop_append_of_le_length (by omega), List.take_of_length_le (by omega : (b.take 64).length ≤ 64), List.drop_eq_nil_of_le (by omega), List.nil_append]
      exact E_last n k _ _ (by rw [List.length_drop]; omega)
    · rw [E_none (b := b) (by omega)]
theorem sumB_whole (b : List Nat) : sumB b = dig (E H0 (Go.Proofs.YtnmnabagabejjaaGreat.lastOf b b.length)).1 := by
  unfold sumB fin
  rw [E_last b.length b.length H0 b (Nat.le_refl _)]
/-- One sum of numbers behind another. -/
def addL (h : List Nat) : Nat → List Nat → List Nat
  | 0, v => v
  | i + 1, v => (addL h i v).set i (a32 ((addL h i v).getD i 0) (h.getD i 0))
theorem addL_len (h : List Nat) (v : List Nat) : ∀ i, (addL h i v).length = v.length
  | 0 => rfl
  | i + 1 => by simp [addL, addL_len h v i]
theorem addL_end (s v : S8) : addL s.l 8 v.l = (s8add s v).l := by
  simp [addL, S8.l, s8add, a32_comm]
end Go.Sha

/-
  The other text's SHA-256: turned words, the numbers of the steps, padded bytes.
-/
namespace Go.Proofs.YtnmnabagabejjaaGreat
open Go.Am Go.Sha
set_option linter.unusedSimpArgs false
set_option linter.unusedVariables false

/-- Words, as what is read-only. -/
def nw (l : List Nat) : DV := .ro 1 (l.map fun (x : Nat) => [.int .u32 (x : Int)])
/-- Words as rows. -/
def rw4 (l : List Nat) : List (List AV) := l.map fun (x : Nat) => [.d (.int .u32 (x : Int))]
theorem rw4_len (l : List Nat) : (rw4 l).length = l.length := by simp [rw4]
theorem rw4_low (n : Nat) (l : List Nat) : ∀ r, r ∈ rw4 l → ∀ v, v ∈ r → v.low1 n := by
  intro r hr v hv
  simp only [rw4, List.mem_map] at hr
  obtain ⟨x, _, rfl⟩ := hr
  simp at hv
  subst hv
  trivial
theorem rw4_snoc (a : List Nat) (x : Nat) : rw4 a ++ [[AV.d (.int .u32 (x : Int))]] = rw4 (a ++ [x]) := by simp [rw4]
theorem rw4_of (a : List Nat) : List.map ((fun r => List.map AV.d r) ∘ fun (x : Nat) => [DV.int .u32 (x : Int)]) a = rw4 a := by simp [rw4]
theorem rw4_get (l : List Nat) (i : Nat) : (rw4 l)[i]? = (l[i]?).map fun (x : Nat) => [AV.d (.int .u32 (x : Int))] := by simp [rw4]
theorem rw4_set (l : List Nat) (i x : Nat) : (rw4 l).set i [.d (.int .u32 (x : Int))] = rw4 (l.set i x) := by simp [rw4, List.map_set]
theorem rw4_row (l : List Nat) : rw4 l = (l.map fun (x : Nat) => [DV.int .u32 (x : Int)]).map fun r => r.map .d := by simp [rw4]
theorem snap_rw4 {hp : Hp} {I : Nat → Prop} {id : Nat} {L : List Nat} (hb : lk id hp = some ⟨50, 1, rw4 L⟩) (hI : I id) : SnapD hp I (.own id 0 L.length L.length) (nw L) := by
  rw [rw4_row] at hb
  exact snap_row hb hI (by simp) (fun r hr => by
    rw [List.mem_map] at hr
    obtain ⟨x, _, rfl⟩ := hr
    rfl)
theorem post_words {Q : AV → Prop} {st : St} {id : Nat} {L : List Nat} (hb : lk id st.hp = some ⟨50, 1, rw4 L⟩) (hq : Q (.d (nw L))) : PostK Q (.own id 0 L.length L.length) st :=
  post_one (snap1_d (snap_rw4 hb trivial)) trivial hq

end Go.Proofs.YtnmnabagabejjaaGreat

/-
  The other text's SHA-256: a block.
-/
namespace Go.Proofs.YtnmnabagabejjaaGreat
open Go.Am Go.Sha
set_option linter.unusedSimpArgs false
set_option linter.unusedVariables false

theorem w_s16 (a : Nat) : IntKind.u32.wrap ((a : Int) * 65536) = ((s32 16 a : Nat) : Int) := w_mul a 65536
theorem w_s24 (a : Nat) : IntKind.u32.wrap ((a : Int) * 16777216) = ((s32 24 a : Nat) : Int) := w_mul a 16777216
theorem w_xorc (a : Nat) : bits .xor .u32 (a : Int) 4294967295 = ((c32 a : Nat) : Int) := (w_xor a 4294967295).trans (by rw [x32_c])
theorem rw4_ren (ρ : Nat → Nat) (L : List Nat) : List.map (AV.renL ρ) (rw4 L) = rw4 L := by
  simp [rw4, AV.renL, AV.ren]
theorem four {b : List Nat} {k : Nat} (h : k + 4 ≤ b.length) : ∃ x0 x1 x2 x3, b[k]? = some x0 ∧ b[k + 1]? = some x1 ∧ b[k + 2]? = some x2 ∧ b[k + 3]? = some x3 ∧ (b.take (k + 4)).drop k = [x0, x1, x2, x3] := by
  refine ⟨b[k], b[k + 1], b[k + 2], b[k + 3], List.getElem?_eq_getElem _, List.getElem?_eq_getElem _, List.getElem?_eq_getElem _, List.getElem?_eq_getElem _, ?_⟩
  rw [List.drop_take, show k + 4 - k = 4 by omega, List.drop_eq_getElem_cons (by omega : k < b.length), List.drop_eq_getElem_cons (by omega : k + 1 < b.length), List.drop_eq_getElem_cons (by omega : k + 1 + 1 < b.length), List.drop_eq_getElem_cons (by omega : k + 1 + 1 + 1 < b.length)]
  rfl

end Go.Proofs.YtnmnabagabejjaaGreat

/-
  The other text's SHA-256: the sum, tagged sums.
-/
namespace Go.Sha
theorem le_bytes (x : Nat) : t8 x < 256 := Nat.mod_lt _ (by decide)
theorem len8_bytes (m : Nat) : ∀ j x, x ∈ Go.Proofs.YtnmnabagabejjaaGreat.len8 m j → x < 256
  | 0, x, h => by simp [Go.Proofs.YtnmnabagabejjaaGreat.len8] at h
  | j + 1, x, h => by
    rcases List.mem_append.1 h with h | h
    · exact len8_bytes m j x h
    · rw [List.mem_singleton] at h; rw [h]; exact le_bytes _
theorem padTo_bytes : ∀ (n : Nat) (l : List Nat), (∀ x, x ∈ l → x < 256) → ∀ x, x ∈ Go.Proofs.YtnmnabagabejjaaGreat.padTo n l → x < 256
  | 0, l, hl => hl
  | n + 1, l, hl => by
    unfold Go.Proofs.YtnmnabagabejjaaGreat.padTo
    split
    · exact hl
    · refine padTo_bytes n _ fun x hx => ?_
      rcases List.mem_append.1 hx with h | h
      · exact hl x h
      · rw [List.mem_singleton] at h; omega
theorem lastOf_bytes {b : List Nat} (n : Nat) (hb : ∀ x, x ∈ b → x < 256) : ∀ x, x ∈ Go.Proofs.YtnmnabagabejjaaGreat.lastOf b n → x < 256 := by
  intro x hx
  rcases List.mem_append.1 hx with h | h
  · refine padTo_bytes _ _ (fun y hy => ?_) x h
    rcases List.mem_append.1 hy with h | h
    · exact hb y h
    · rw [List.mem_singleton] at h; omega
  · exact len8_bytes _ _ x h
theorem padTo_mod : ∀ (n : Nat) (l : List Nat), (120 - l.length % 64) % 64 ≤ n → (Go.Proofs.YtnmnabagabejjaaGreat.padTo n l).length % 64 = 56 ∧ (Go.Proofs.YtnmnabagabejjaaGreat.padTo n l).length ≤ l.length + n
  | 0, l, h => by
    unfold Go.Proofs.YtnmnabagabejjaaGreat.padTo
    omega
  | n + 1, l, h => by
    unfold Go.Proofs.YtnmnabagabejjaaGreat.padTo
    split
    · omega
    · have := padTo_mod n (l ++ [0]) (by rw [List.length_append, List.length_singleton]; omega)
      rw [List.length_append, List.length_singleton] at this
      omega
theorem lastOf_mod (b : List Nat) (n : Nat) : (Go.Proofs.YtnmnabagabejjaaGreat.lastOf b n).length % 64 = 0 ∧ (Go.Proofs.YtnmnabagabejjaaGreat.lastOf b n).length ≤ b.length + 73 := by
  have := padTo_mod 64 (b ++ [128]) (by omega)
  rw [List.length_append, List.length_singleton] at this
  unfold Go.Proofs.YtnmnabagabejjaaGreat.lastOf
  rw [List.length_append, Go.Proofs.YtnmnabagabejjaaGreat.len8_len]
  omega
theorem pre_get (l : List Nat) : ∀ (n i : Nat), i < 4 * n → (pre l n)[i]? = some (t8 (r32 (24 - 8 * (i % 4)) (l.getD (i / 4) 0)))
  | 0, i, h => by omega
  | n + 1, i, h => by
    unfold pre
    by_cases hi : i < 4 * n
    · rw [List.getElem?_append_left (by rw [pre_len]; exact hi)]
      exact pre_get l n i hi
    · rw [List.getElem?_append_right (by rw [pre_len]; omega), pre_len]
      have h4 : i / 4 = n := by omega
      rw [h4]
      obtain ⟨j, rfl, hj⟩ : ∃ j, i = 4 * n + j ∧ j < 4 := ⟨i - 4 * n, by omega, by omega⟩
      rw [show 4 * n + j - 4 * n = j by omega, show (4 * n + j) % 4 = j by omega]
      rcases (by omega : j = 0 ∨ j = 1 ∨ j = 2 ∨ j = 3) with rfl | rfl | rfl | rfl <;> rfl
theorem pre_bytes (l : List Nat) : ∀ n x, x ∈ pre l n → x < 256
  | 0, x, h => by simp [pre] at h
  | n + 1, x, h => by
    rcases List.mem_append.1 h with h | h
    · exact pre_bytes l n x h
    · simp [wbk] at h
      rcases h with rfl | rfl | rfl | rfl <;> exact le_bytes _
theorem sumB_bytes (b : List Nat) : ∀ x, x ∈ sumB b → x < 256 := fun x h => pre_bytes _ 8 x h
theorem dig_len (s : S8) : (dig s).length = 32 := pre_len _ 8
end Go.Sha
namespace Go.Proofs.YtnmnabagabejjaaGreat
open Go.Am Go.Sha
set_option linter.unusedSimpArgs false
set_option linter.unusedVariables false

theorem snap_full {hp : Hp} {I : Nat → Prop} {id n : Nat} {L : List Nat} (hl : L.length = n) (hb : lk id hp = some ⟨5, 1, rb L⟩) (hI : I id) : SnapD hp I (.own id 0 n n) (nb L) := by
  subst hl
  have h := snap_rb (i0 := 0) (n := L.length) (L := L) hb hI (by omega)
  rw [List.drop_zero, List.take_of_length_le (Nat.le_refl _)] at h
  exact h

/-- So many bytes of the sum, and noughts. -/
def outB (s : S8) (i : Nat) : List Nat := (dig s).take i ++ List.replicate (32 - i) 0
theorem outB_len (s : S8) {i : Nat} (h : i ≤ 32) : (outB s i).length = 32 := by
  unfold outB
  rw [List.length_append, List.length_take, dig_len, List.length_replicate]
  omega
theorem outB_end (s : S8) : outB s 32 = dig s := by
  unfold outB
  rw [List.take_of_length_le (by rw [dig_len]; omega)]
  simp
theorem outB_step (s : S8) {i : Nat} (h : i < 32) : (outB s i).set i (t8 (r32 (24 - 8 * (i % 4)) (s.l.getD (i / 4) 0))) = outB s (i + 1) := by
  have hg := pre_get s.l 8 i (by omega)
  unfold outB
  rw [List.set_append_right _ _ (by rw [List.length_take, dig_len]; omega), List.length_take, dig_len, show i - min i 32 = 0 by omega]
  obtain ⟨k, hk⟩ : ∃ k, 32 - i = k + 1 := ⟨31 - i, by omega⟩
  rw [hk, List.replicate_succ, List.set_cons_zero, show 32 - (i + 1) = k by omega]
  rw [List.take_add_one, show (dig s)[i]? = _ from hg]
  simp

end Go.Proofs.YtnmnabagabejjaaGreat

/-
  The other text's compact and tree: numbers, sizes and strings laid; leaves', branches' and roots' hashes.
-/
namespace Go.Sha
theorem t8_t8 (a : Nat) : t8 (t8 a) = t8 a := by unfold t8; omega
theorem le_t8 (n : Nat) : le (t8 n) 1 = le n 1 := by simp [le, r32, t8_t8]
theorem le_t16 (n : Nat) : le (t16 n) 2 = le n 2 := by
  have e0 : t8 (r32 (8 * 0) (t16 n)) = t8 (r32 (8 * 0) n) := by simp only [t8, r32, t16]; omega
  have e1 : t8 (r32 (8 * 1) (t16 n)) = t8 (r32 (8 * 1) n) := by simp only [t8, r32, t16]; omega
  simp only [le, e0, e1]
theorem le_t32 (n : Nat) : le (t32 n) 4 = le n 4 := by
  have e0 : t8 (r32 (8 * 0) (t32 n)) = t8 (r32 (8 * 0) n) := by simp only [t8, r32, t32]; omega
  have e1 : t8 (r32 (8 * 1) (t32 n)) = t8 (r32 (8 * 1) n) := by simp only [t8, r32, t32]; omega
  have e2 : t8 (r32 (8 * 2) (t32 n)) = t8 (r32 (8 * 2) n) := by simp only [t8, r32, t32]; omega
  have e3 : t8 (r32 (8 * 3) (t32 n)) = t8 (r32 (8 * 3) n) := by simp only [t8, r32, t32]; omega
  simp only [le, e0, e1, e2, e3]
theorem le_b (x : Nat) : ∀ k y, y ∈ le x k → y < 256
  | 0, y, h => by simp [le] at h
  | k + 1, y, h => by
    rcases List.mem_append.1 h with h | h
    · exact le_b x k y h
    · rw [List.mem_singleton] at h; rw [h]; exact le_bytes _
theorem putSize_b (n : Nat) : ∀ y, y ∈ putSize n → y < 256 := by
  intro y h
  unfold putSize at h
  split at h
  · exact le_b _ _ y h
  · split at h
    · rcases List.mem_append.1 h with h | h <;> exact le_b _ _ y h
    · rcases List.mem_append.1 h with h | h <;> exact le_b _ _ y h
end Go.Sha
namespace Go.Proofs.YtnmnabagabejjaaGreat
open Go.Am Go.Sha
set_option linter.unusedSimpArgs false
set_option linter.unusedVariables false

theorem post_words_b {Q : AV → Prop} {st : St} {id : Nat} {L : List Nat} (hb : lk id st.hp = some ⟨5, 1, rb L⟩) (hq : Q (.d (nb L))) : PostK Q (.own id 0 L.length L.length) st := post_bytes hb hq

/-- Bytes of the call's own, as a result. -/
def OwnB (L : List Nat) (r : AV) (hp' : Hp) : Prop := ∃ I, r = .own I 0 L.length L.length ∧ lk I hp' = some ⟨5, 1, rb L⟩
theorem own_deep {g : FuncId} {args : List AV} {L : List Nat} (h : RetsE Tryz.prog g 0 [] args (OwnB L)) (hd : ∀ v, v ∈ args → v.deep) : Rets Tryz.prog g args (fun r => r = .d (nb L)) :=
  rets_of_E h hd fun r hp' ⟨I, hr, hb⟩ => ⟨.d (nb L), by subst hr; exact .one (snap1_d (snap_full rfl hb trivial)), trivial, rfl⟩
theorem E_mono {g : FuncId} {k : Nat} {hp0 : Hp} {args : List AV} {Q Q' : AV → Hp → Prop} (h : RetsE Tryz.prog g k hp0 args Q) (hq : ∀ r hp', Q r hp' → Q' r hp') : RetsE Tryz.prog g k hp0 args Q' := by
  obtain ⟨h1, hk, h2⟩ := h
  refine ⟨h1, hk, fun w S σ vs a b c => (h2 w S σ vs a b c).mono fun e w' he => ?_⟩
  obtain ⟨x, r, hp', U', σ', e1, hQ, rest⟩ := he
  exact ⟨x, r, hp', U', σ', e1, hq r hp' hQ, rest⟩
end Go.Proofs.YtnmnabagabejjaaGreat

/-
  The other text's tree: branches' and roots' hashes.
-/
namespace Go.Proofs.YtnmnabagabejjaaGreat
open Go.Am Go.Sha
set_option linter.unusedSimpArgs false
set_option linter.unusedVariables false

/-- Bytes as a string's. -/
def sb (l : List Nat) : List Int := l.map fun (x : Nat) => (x : Int)
theorem sb_len (l : List Nat) : (sb l).length = l.length := by simp [sb]
theorem sb_inj {a b : List Nat} : sb a = sb b ↔ a = b := natmap_inj
theorem cvO_rb {P : Program} {s t : TypeId} {Kk : AV → Hp → Prop} {hp : Hp} (l : List Nat) (el : TypeId) (hb : bytes l) (h1 : tyk P s = .slice el) (h2 : tyk P t = .str) (h3 : P.underlying el = some (.int .u8)) (hK : Kk (.d (.str (sb l))) hp) : cvO P s t (some (rb l)) Kk hp := by
  refine ⟨sb l, by simp [rb, sb], fun b h => ?_, ?_⟩
  · simp only [sb, List.mem_map] at h
    obtain ⟨x, hx, rfl⟩ := h
    have := hb x hx
    omega
  · rw [h1, h2]
    exact ⟨h3, hK⟩
theorem cmp_less : ∀ (x y : List UInt8), Lib.compareBytes x y < 0 ↔ Op.bytesLess x y = true
  | [], [] => by simp [Lib.compareBytes, Op.bytesLess]
  | [], _ :: _ => by simp [Lib.compareBytes, Op.bytesLess]
  | _ :: _, [] => by simp [Lib.compareBytes, Op.bytesLess]
  | a :: x, b :: y => by
    have ih := cmp_less x y
    simp only [Lib.compareBytes, Op.bytesLess]
    by_cases h1 : a < b
    · simp [h1]
    · by_cases h2 : b < a
      · have : a ≠ b := fun e => by subst e; exact h1 h2
        simp [h1, h2, this]
      · have : a = b := UInt8.toNat_inj.1 (by
          have e1 : ¬ a.toNat < b.toNat := fun h => h1 (UInt8.lt_iff_toNat_lt.2 h)
          have e2 : ¬ b.toNat < a.toNat := fun h => h2 (UInt8.lt_iff_toNat_lt.2 h)
          omega)
        subst this
        simp only [h1, if_false, decide_false, Bool.false_or, beq_self_eq_true, Bool.true_and]
        exact ih
theorem u8s_sb {a : List Nat} (h : bytes a) : (u8s a).map (fun c => (c.toNat : Int)) = sb a := by
  unfold u8s Lib.bytesOf sb
  rw [List.map_map, List.map_map]
  apply List.map_congr_left
  intro x hx
  have := h x hx
  simp only [Function.comp_apply, Int.toNat_natCast]
  rw [UInt8.toNat_ofNat', Nat.mod_eq_of_lt (by omega)]
theorem str_gt {a b : List Nat} (ha : bytes a) (hb : bytes b) : (!(strLess (sb a) (sb b) || decide (sb a = sb b))) = decide (0 < Lib.compareBytes (u8s a) (u8s b)) := by
  have h1 := cmp_less (u8s a) (u8s b)
  rw [less_map, u8s_sb ha, u8s_sb hb] at h1
  obtain ⟨h3, h4⟩ := cmp_anti (u8s a) (u8s b)
  by_cases e : a = b
  · subst e
    have h0 : ¬ 0 < Lib.compareBytes (u8s a) (u8s a) := fun h => by have := h3.1 h; omega
    simp [h0]
  · have hne : sb a ≠ sb b := fun h => e (sb_inj.1 h)
    have h0 : Lib.compareBytes (u8s a) (u8s b) ≠ 0 := fun h => e (u8s_inj ha hb (h4 h))
    cases hl : strLess (sb a) (sb b) with
    | true =>
      have := h1.2 hl
      have h5 : ¬ 0 < Lib.compareBytes (u8s a) (u8s b) := by omega
      simp [h5]
    | false =>
      have h6 : ¬ Lib.compareBytes (u8s a) (u8s b) < 0 := fun h => by rw [h1.1 h] at hl; cases hl
      have h5 : 0 < Lib.compareBytes (u8s a) (u8s b) := by omega
      simp [h5, hne]

end Go.Proofs.YtnmnabagabejjaaGreat

/-
  The other text's tree: roots; the law TreeHashes.
-/
namespace Go.Proofs.YtnmnabagabejjaaGreat
open Go.Am Go.Sha
set_option linter.unusedSimpArgs false
set_option linter.unusedVariables false

end Go.Proofs.YtnmnabagabejjaaGreat
