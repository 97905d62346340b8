/-
  The law NodeNil, walked.
-/
import Derived.Test.YtnmnabagabejjaaGreatNdf
namespace Go.Proofs.YtnmnabagabejjaaGreat
open Go.Am Go.Sha
set_option linter.unusedSimpArgs false
set_option linter.unusedVariables false

set_option maxHeartbeats 2000000 in
theorem do4_fn : RetsE Tryz.prog 5 2 [(0, ndB (.ptr 2 0 0 1) (.ptr 1 0 0 1) (.ptr 2 0 0 1) (.ptr 2 0 0 1)), (1, chB 2)] [.ptr 0 0 0 1, .d (.int .u8 4), .d (nb [1])]
    (fun r hp' => r = .tup [.d (nb (1 :: 0 :: ansL)), .d (.int .i64 0)] ∧ lk 0 hp' = some (ndB (.ptr 418 0 0 1) (.ptr 1 0 0 1) (.ptr 418 0 0 1) (.ptr 418 0 0 1)) ∧ lk 1 hp' = some (chB 418)) := by
  refine fnE_of_awp Tryz.func5 (by kernel_rfl) rfl Tryz.ntmps5 (rs := [.tmp 6, .tmp 7]) rfl (Nat.le_of_ble_eq_true rfl) (by decide) ?_
  have hf : isFn Tryz.prog 55 = true := by kernel_rfl
  simp [go_sem, ndB]
  refine cl_eff [(0, 0), (1, 1)] doer4_fn rfl (by simp) (by simp [lk, ndB, chB, hf, resV]) (by simp [lk, Blk.ren, renR, AV.ren, AV.renL, rho, swp, ndB, chB, hf, resV]) (by simp [AV.renL, AV.ren, rho, swp, lk, ndB, chB, hf, resV]) ?_
  rintro r hp' ⟨rfl, h0, h1⟩
  refine ⟨[], rfl, ?_⟩
  simp [go_sem, outH, outP, h0, h1, Blk.ren, renR, AV.ren, AV.renL, rho, lk, ndB, chB, hf, resV]
  clear h0 h1 hp'
  refine cl_eff [(0, 0), (1, 1)] ask_fn rfl (by simp) (by simp [lk, ndB, chB, resV]) (by simp [lk, Blk.ren, renR, AV.ren, AV.renL, rho, swp, ndB, chB, resV]) (by simp [AV.renL, AV.ren, rho, swp, lk, ndB, chB, resV]) ?_
  rintro r hp' ⟨rfl, h0, h1⟩
  refine ⟨[], rfl, ?_⟩
  simp [go_sem, outH, outP, h0, h1, Blk.ren, renR, AV.ren, AV.renL, rho, lk, ndB, chB, resV]
set_option maxHeartbeats 2000000 in
theorem do6_fn : RetsE Tryz.prog 5 2 [(0, ndB (.ptr 2 0 0 1) (.ptr 1 0 0 1) (.ptr 2 0 0 1) (.ptr 2 0 0 1)), (1, chB 2)] [.ptr 0 0 0 1, .d (.int .u8 6), .nil]
    (fun r hp' => r = .tup [.nil, .d (.int .i64 56)] ∧ lk 0 hp' = some (ndB (.ptr 226 0 0 1) (.ptr 1 0 0 1) (.ptr 226 0 0 1) (.ptr 226 0 0 1)) ∧ lk 1 hp' = some (chB 226)) := by
  refine fnE_of_awp Tryz.func5 (by kernel_rfl) rfl Tryz.ntmps5 (rs := [.tmp 6, .tmp 7]) rfl (Nat.le_of_ble_eq_true rfl) (by decide) ?_
  have hf : isFn Tryz.prog 55 = true := by kernel_rfl
  simp [go_sem, ndB]
  refine cl_eff [(0, 0), (1, 1)] doer6_fn rfl (by simp) (by simp [lk, ndB, chB, hf, resV]) (by simp [lk, Blk.ren, renR, AV.ren, AV.renL, rho, swp, ndB, chB, hf, resV]) (by simp [AV.renL, AV.ren, rho, swp, lk, ndB, chB, hf, resV]) ?_
  rintro r hp' ⟨rfl, h0, h1⟩
  refine ⟨[], rfl, ?_⟩
  simp [go_sem, outH, outP, h0, h1, Blk.ren, renR, AV.ren, AV.renL, rho, lk, ndB, chB, hf, resV]
set_option maxHeartbeats 2000000 in
theorem do5_fn : RetsE Tryz.prog 5 2 [(0, ndB (.ptr 2 0 0 1) (.ptr 1 0 0 1) (.ptr 2 0 0 1) (.ptr 2 0 0 1)), (1, chB 2)] [.ptr 0 0 0 1, .d (.int .u8 5), .d (nb [1, 0, 0, 0])]
    (fun r hp' => r = .tup [.nil, .d (.int .i64 0)] ∧ lk 0 hp' = some (nd1 418) ∧ lk 1 hp' = some (chB 226)) := by
  refine fnE_of_awp Tryz.func5 (by kernel_rfl) rfl Tryz.ntmps5 (rs := [.tmp 6, .tmp 7]) rfl (Nat.le_of_ble_eq_true rfl) (by decide) ?_
  have hf : isFn Tryz.prog 55 = true := by kernel_rfl
  simp [go_sem, ndB]
  refine cl_eff [(0, 0), (1, 1)] doer5_fn rfl (by simp) (by simp [lk, ndB, chB, hf, resV]) (by simp [lk, Blk.ren, renR, AV.ren, AV.renL, rho, swp, ndB, chB, hf, resV]) (by simp [AV.renL, AV.ren, rho, swp, lk, ndB, chB, hf, resV]) ?_
  rintro r hp' ⟨rfl, h0, h1⟩
  refine ⟨[], rfl, ?_⟩
  simp [go_sem, outH, outP, h0, h1, Blk.ren, renR, AV.ren, AV.renL, rho, lk, ndB, chB, hf, resV]
  clear h0 h1 hp'
  refine cl_eff [(0, 0)] tick_fn rfl (by simp) (by simp [lk, ndB, chB, resV, nd1]) (by simp [lk, Blk.ren, renR, AV.ren, AV.renL, rho, swp, ndB, chB, resV, nd1]) (by simp [AV.renL, AV.ren, rho, swp, lk, ndB, chB, resV, nd1]) ?_
  rintro r hp' ⟨rfl, h0⟩
  refine ⟨[], rfl, ?_⟩
  simp [go_sem, outH, outP, h0, Blk.ren, renR, AV.ren, AV.renL, rho, lk, ndB, chB, resV, nd1]
theorem doN_fn (c : Int) (b : List Nat) : Rets Tryz.prog 5 [.d .nilp, .d (.int .u8 c), .d (nb b)] (fun r => r = .tup [.nil, .d (.int .i64 1)]) := by
  refine fn_of_awp Tryz.func5 (by kernel_rfl) rfl Tryz.ntmps5 (rs := [.tmp 6, .tmp 7]) rfl (Nat.le_of_ble_eq_true rfl) (by simp [AV.deep, AV.deep1]) ?_
  simp [go_sem, resV]
  exact post_same (by simp [AV.deep, AV.deep1]) rfl
theorem feedN_fn (b : List Nat) : Rets Tryz.prog 7 [.d .nilp, .d (nb b)] (fun r => r = .nil) := by
  refine fn_of_awp Tryz.func7 (by kernel_rfl) rfl Tryz.ntmps7 (rs := [.tmp 4]) rfl (Nat.le_of_ble_eq_true rfl) (by simp [AV.deep, AV.deep1]) ?_
  simp [go_sem, resV]
  exact post_same (by simp [AV.deep, AV.deep1]) rfl
theorem coinsN_fn : Rets Tryz.prog 8 [.d .nilp] (fun r => r = .d .nilp) := by
  refine fn_of_awp Tryz.func8 (by kernel_rfl) rfl Tryz.ntmps8 (rs := [.tmp 2]) rfl (Nat.le_of_ble_eq_true rfl) (by simp [AV.deep, AV.deep1]) ?_
  simp [go_sem, resV]
  exact post_same (by simp [AV.deep, AV.deep1]) rfl
theorem blocksN_fn : Rets Tryz.prog 9 [.d .nilp] (fun r => r = .nil) := by
  refine fn_of_awp Tryz.func9 (by kernel_rfl) rfl Tryz.ntmps9 (rs := [.tmp 2]) rfl (Nat.le_of_ble_eq_true rfl) (by simp [AV.deep, AV.deep1]) ?_
  simp [go_sem, resV]
  exact post_same (by simp [AV.deep, AV.deep1]) rfl
theorem poolN_fn : Rets Tryz.prog 10 [.d .nilp] (fun r => r = .nil) := by
  refine fn_of_awp Tryz.func10 (by kernel_rfl) rfl Tryz.ntmps10 (rs := [.tmp 2]) rfl (Nat.le_of_ble_eq_true rfl) (by simp [AV.deep, AV.deep1]) ?_
  simp [go_sem, resV]
  exact post_same (by simp [AV.deep, AV.deep1]) rfl
theorem entriesN_fn : Rets Tryz.prog 11 [.d .nilp] (fun r => r = .nil) := by
  refine fn_of_awp Tryz.func11 (by kernel_rfl) rfl Tryz.ntmps11 (rs := [.tmp 2]) rfl (Nat.le_of_ble_eq_true rfl) (by simp [AV.deep, AV.deep1]) ?_
  simp [go_sem, resV]
  exact post_same (by simp [AV.deep, AV.deep1]) rfl
/-- A call that is handed own blocks, and own rows for good. -/
theorem cl_effd (ids : List Nat) (prs : List (Nat × Nat)) {P : Program} {g : FuncId} {k : Nat} {hp0 : Hp} {args args' args0 : List AV} {hp : Hp} {N : Nat} {K : AV → Hp → Prop} {Q : AV → Hp → Prop} (h : RetsE P g k hp0 args0 Q)
    (hl' : args.length = args'.length) (hs : ∀ (i : Nat) (v v' : AV), args[i]? = some v → args'[i]? = some v' → v' = v ∨ Snap hp (fun id => id ∈ ids) v v')
    (hprs : prsB prs = true) (hlt : ∀ p, p ∈ prs → p.1 < k) (hall : ∀ p, p ∈ prs → ∃ b, lk p.2 (dropH ids hp) = some b ∧ b.e ≠ 0)
    (hin : ∀ p, p ∈ hp0 → ∃ id b, lk p.1 prs = some id ∧ lk id (dropH ids hp) = some b ∧ p.2 = b.ren (rho (swp prs) k))
    (hargs : args0 = AV.renL (rho (swp prs) k) args')
    (hK : ∀ r hp', Q r hp' → ∃ news, newsB prs news = true ∧ K (r.ren (rho (outP prs news N) (N + 31))) (outH prs news N hp' (dropH ids hp))) : ClW P g args hp N K :=
  .inl (callsA_drop ids (callsA_eff prs h hprs hlt hall (fun i b0 hb => by
    obtain ⟨id, b, h1, h2, h3⟩ := hin _ (lk_mem hb)
    exact ⟨id, b, h1, h2, h3⟩) hargs hK) hl' hs)
theorem sn3 {hp : Hp} {I : Nat → Prop} {a b c c' : AV} (h : Snap hp I c c') : ∀ (i : Nat) (v v' : AV), [a, b, c][i]? = some v → [a, b, c'][i]? = some v' → v' = v ∨ Snap hp I v v' := by
  intro i v v' h1 h2
  match i with
  | 0 => simp at h1 h2; subst h1; subst h2; exact .inl rfl
  | 1 => simp at h1 h2; subst h1; subst h2; exact .inl rfl
  | 2 => simp at h1 h2; subst h1; subst h2; exact .inr h
  | i + 3 => simp at h1
theorem row_snap {hp : Hp} {I : Nat → Prop} {id n : Nat} {L : List Nat} (hb : lk id hp = some ⟨5, 1, rb L⟩) (hI : I id) (hn : L.length = n) : Snap hp I (.own id 0 n n) (.d (nb L)) := by
  subst hn
  have h := snap_rb (i0 := 0) (n := L.length) hb hI (by omega)
  rw [List.drop_zero, List.take_length] at h
  exact .one (snap1_d h)
set_option maxHeartbeats 8000000 in
theorem alive34_fn : Rets Tryz.prog 6 [] (fun r => r = .d (.bool true)) := by
  refine fn_of_awp Tryz.func6 (by kernel_rfl) rfl Tryz.ntmps6 (rs := [.tmp 0]) rfl (Nat.le_of_ble_eq_true rfl) (by simp [AV.deep, AV.deep1]) ?_
  simp [go_sem]
  refine cl_eff [] made_fn rfl (by simp) (by simp [lk, ndB, chB]) (by simp [lk, Blk.ren, renR, AV.ren, AV.renL, rho, swp, ndB, chB]) (by simp [AV.renL, AV.ren, rho, swp, lk, ndB, chB]) ?_
  rintro r hp' ⟨rfl, h0, h1⟩
  refine ⟨[(481, 0), (482, 1)], rfl, ?_⟩
  simp [go_sem, outH, outP, h0, h1, Blk.ren, renR, AV.ren, AV.renL, rho, lk, ndB, chB]
  clear h0 h1 hp'
  refine cl_effd [544] [(0, 64), (1, 65)] (args' := [.ptr 64 0 0 1, .d (.int .u8 4), .d (nb [1])]) do4_fn rfl (sn3 (row_snap (L := [1]) (by simp [lk, rb]) (by simp) rfl)) rfl (by simp) (by simp [lk, dropH, ndB, chB, zans, aA_len, aA_take, aA_d, aA_h, aA_1, aA_34]) (by simp [lk, dropH, Blk.ren, renR, AV.ren, AV.renL, rho, swp, ndB, chB, zans, aA_len, aA_take, aA_d, aA_h, aA_1, aA_34]) (by simp [AV.renL, AV.ren, rho, swp, lk, ndB, chB, zans, aA_len, aA_take, aA_d, aA_h, aA_1, aA_34]) ?_
  rintro r hp' ⟨rfl, h0, h1⟩
  refine ⟨[], rfl, ?_⟩
  simp [go_sem, outH, outP, dropH, h0, h1, Blk.ren, renR, AV.ren, AV.renL, rho, lk, ndB, chB, zans, aA_len, aA_take, aA_d, aA_h, aA_1, aA_34]
  clear h0 h1 hp'
  refine cl_eq takeA_fn (by simp [AV.deep, AV.deep1]) ?_
  simp [go_sem, zans, aA_len, aA_take, aA_d]
  refine cl_eff [(0, 64), (1, 65)] do6_fn rfl (by simp) (by simp [lk, ndB, chB, zans, aA_len, aA_take, aA_d, aA_h, aA_1, aA_34]) (by simp [lk, Blk.ren, renR, AV.ren, AV.renL, rho, swp, ndB, chB, zans, aA_len, aA_take, aA_d, aA_h, aA_1, aA_34]) (by simp [AV.renL, AV.ren, rho, swp, lk, ndB, chB, zans, aA_len, aA_take, aA_d, aA_h, aA_1, aA_34]) ?_
  rintro r hp' ⟨rfl, h0, h1⟩
  refine ⟨[], rfl, ?_⟩
  simp [go_sem, outH, outP, h0, h1, Blk.ren, renR, AV.ren, AV.renL, rho, lk, ndB, chB, zans, aA_len, aA_take, aA_d, aA_h, aA_1, aA_34]
  clear h0 h1 hp'
  refine cl_effd [1280] [(0, 64), (1, 65)] (args' := [.ptr 64 0 0 1, .d (.int .u8 5), .d (nb [1, 0, 0, 0])]) do5_fn rfl (sn3 (row_snap (L := [1, 0, 0, 0]) (by simp [lk, rb]) (by simp) rfl)) rfl (by simp) (by simp [lk, dropH, ndB, chB, zans, aA_len, aA_take, aA_d, aA_h, aA_1, aA_34, nd1, resV]) (by simp [lk, dropH, Blk.ren, renR, AV.ren, AV.renL, rho, swp, ndB, chB, zans, aA_len, aA_take, aA_d, aA_h, aA_1, aA_34, nd1, resV]) (by simp [AV.renL, AV.ren, rho, swp, lk, ndB, chB, zans, aA_len, aA_take, aA_d, aA_h, aA_1, aA_34, nd1, resV]) ?_
  rintro r hp' ⟨rfl, h0, h1⟩
  refine ⟨[], rfl, ?_⟩
  simp [go_sem, outH, outP, dropH, h0, h1, Blk.ren, renR, AV.ren, AV.renL, rho, lk, ndB, chB, zans, aA_len, aA_take, aA_d, aA_h, aA_1, aA_34, nd1, resV]
  clear h0 h1 hp'
  exact post_same (by simp [AV.deep, AV.deep1]) rfl
theorem node_law (c : Int) (b : List Nat) : Rets Tryz.prog 3 [.d (.int .u8 c), .d (nb b)] (fun r => r = .d (.bool true)) := by
  refine fn_of_awp Tryz.func3 (by kernel_rfl) rfl Tryz.ntmps3 (rs := [.tmp 4]) rfl (Nat.le_of_ble_eq_true rfl) (by simp [AV.deep, AV.deep1]) ?_
  simp [go_sem]
  refine cl_eq nopenN_fn (by simp [AV.deep, AV.deep1]) ?_
  simp [go_sem]
  refine cl_eq (doN_fn c b) (by simp [AV.deep, AV.deep1]) ?_
  simp [go_sem]
  refine cl_eq alive34_fn (by simp [AV.deep, AV.deep1]) ?_
  simp [go_sem]
  refine cl_eq (feedN_fn b) (by simp [AV.deep, AV.deep1]) ?_
  simp [go_sem]
  refine cl_eq coinsN_fn (by simp [AV.deep, AV.deep1]) ?_
  simp [go_sem]
  refine cl_eq blocksN_fn (by simp [AV.deep, AV.deep1]) ?_
  simp [go_sem]
  refine cl_eq poolN_fn (by simp [AV.deep, AV.deep1]) ?_
  simp [go_sem]
  refine cl_eq entriesN_fn (by simp [AV.deep, AV.deep1]) ?_
  simp [go_sem, resV]
  exact post_same (by simp [AV.deep, AV.deep1]) rfl
end Go.Proofs.YtnmnabagabejjaaGreat
