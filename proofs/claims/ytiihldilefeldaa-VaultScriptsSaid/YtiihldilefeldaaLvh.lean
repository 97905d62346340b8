/-
  The live question of layer 16.
-/
import Derived.Test.YtiihldilefeldaaRoo
import Derived.Test.YtiihldilefeldaaSev
namespace Go.Proofs.Ytiihldilefeldaa
open Go.Am Go.Sha
set_option linter.unusedSimpArgs false
set_option linter.unusedVariables false

theorem leafB81 : leafB [81] = digC := by
  have e : putSize [81].length ++ [81] = (1 :: 81 :: []) := by kernel_rfl
  unfold leafB
  rw [e]
  exact sumC

theorem ints_cb (l : List Nat) : intsOf .u8 (cb l) = some (l.map fun (x : Nat) => (x : Int)) := by
  have := ints_map .u8 (l.map fun (x : Nat) => (x : Int))
  rw [List.map_map] at this
  exact this
theorem natmap_inj {a b : List Nat} : (a.map fun (x : Nat) => (x : Int)) = b.map (fun (x : Nat) => (x : Int)) ↔ a = b := by
  constructor
  · intro h
    have := congrArg (List.map Int.toNat) h
    simpa [List.map_map, Function.comp_def] using this
  · rintro rfl; rfl
theorem snap1_app {hp : Hp} {I : Nat → Prop} {a a' : List AV} : ∀ (l : List AV), (∀ c, c ∈ l → c.deep1) → (∀ (i : Nat) (c c' : AV), a[i]? = some c → a'[i]? = some c' → Snap1 hp I c c') → ∀ (i : Nat) (c c' : AV), (l ++ a)[i]? = some c → (l ++ a')[i]? = some c' → Snap1 hp I c c'
  | [], _, h => h
  | x :: l, hl, h => snap1_cons (snap1_same (hl x (List.mem_cons_self ..))) (snap1_app l (fun c hc => hl c (List.mem_cons_of_mem _ hc)) h)
theorem leaf_snap {hp : Hp} {I : Nat → Prop} {inner : List Nat} {a b a' b' : AV} (ha : Snap1 hp I a a') (hb : Snap1 hp I b b') : Snap hp I (.agg (leafC inner a b)) (.agg (leafC inner a' b')) :=
  .agg ⟨by simp [leafC], snap1_app _ (cb_deep _) (snap1_cons ha (snap1_cons hb snap1_nil))⟩
theorem cb_flat (l : List Nat) : ∀ c, c ∈ cb l → c.flat1 := by
  intro c hc
  simp only [cb, List.mem_map] at hc
  obtain ⟨x, _, rfl⟩ := hc
  trivial

set_option maxHeartbeats 4000000 in
theorem alive16_fn : Rets Try.prog 10 [] (fun r => r = .d (.bool true)) := by
  refine fn_of_awp Try.func10 (by kernel_rfl) rfl Try.ntmps10 (rs := [.tmp 0]) rfl (Nat.le_of_ble_eq_true rfl) (by simp) ?_
  simp [go_sem]
  refine cl_froz [96] (keyOf_fn z32 rfl) rfl (snap_cons (.one (snap1_d (snap_rb (i0 := 0) (n := 34) (L := 81 :: 32 :: z32) (by kernel_rfl) (by simp) (by decide)))) snap_nil) ?_
  simp [go_sem, dropH, cb_len, cb_take (l := z32) rfl, z32_drop]
  have hs : ∀ hp : Hp, lk 32 hp = some ⟨5, 1, [[AV.d (DV.int IntKind.u8 81)]]⟩ → SnapD hp (fun _ => True) (.own 32 0 1 1) (nb [81]) := fun hp h => 
    snap_rb (i0 := 0) (n := 1) (L := [81]) h trivial (by decide)
  have hzl : (leafC z32 .nil .nil).length = 34 := rfl
  have hzt : List.take 34 (leafC z32 .nil .nil) = leafC z32 .nil .nil := rfl
  have hzd : List.drop 34 (leafC z32 .nil .nil) = [] := rfl
  have hflat : ∀ c, c ∈ leafC z32 .nil .nil → c.flat1 := by
    intro c hc
    rcases List.mem_append.1 hc with hc | hc
    · simp only [cb, List.mem_map] at hc
      obtain ⟨x, _, rfl⟩ := hc
      trivial
    · simp at hc
      subst hc
      trivial
  refine cl_snap (readNil_fn [81]) rfl (snap_cons (.deep (by simp [AV.deep, AV.deep1])) (snap_cons (.one (snap1_d (hs _ rfl))) snap_nil)) (by
    simp [AV.flat, AV.flat1, DV.flat]
    exact hflat) ?_
  simp [go_sem, hzl, hzt, hzd]
  rw [show List.take 33 (leafC z32 .nil .nil) ++ [AV.own 32 0 1 1] = leafC z32 .nil (.own 32 0 1 1) from rfl]
  refine cl_snap (root_fn z32 [] [81] rfl (by simp) (by simp) (by simp)) rfl (snap_cons (leaf_snap (snap1_d (.nil 32)) (snap1_d (hs _ rfl))) snap_nil) (cb_flat _) ?_
  simp [go_sem]
  refine cl_snap (treeHash_fn [81] (by simp)) rfl (snap_cons (.one (snap1_d (hs _ rfl))) snap_nil) (cb_flat _) ?_
  have hH : tagB [84, 97, 112, 76, 101, 97, 102] (192 :: (putSize [81].length ++ [81])) = digC := leafB81
  have hR : rootB [] (leafB [81]) = digC := leafB81
  have hne : digC ≠ z32 := by decide
  have hl : digC.length = 32 := by decide
  have hzl : z32.length = 32 := rfl
  rw [hH, hR]
  generalize digC = D at *
  simp [go_sem, ints_cb, natmap_inj, hl, cb_take (l := z32) rfl, hzl]
  refine cl_snap (treeHash_fn [81] (by simp)) rfl (snap_cons (.one (snap1_d (hs _ rfl))) snap_nil) (cb_flat _) ?_
  rw [hH]
  simp [go_sem, ints_cb, natmap_inj, hl, cb_take (l := z32) rfl, hzl, hne, resV]
  exact post_same (by simp [AV.deep, AV.deep1]) rfl
end Go.Proofs.Ytiihldilefeldaa
