/-
  Questions and answers as bytes: the question of the tip, and its answer without a block.
-/
import Derived.Test.YtnmnabagabejjaaGreatNdc
namespace Go.Proofs.YtnmnabagabejjaaGreat
open Go.Am Go.Sha
set_option linter.unusedSimpArgs false
set_option linter.unusedVariables false

def w4Z : List AV := [.d (.int .u64 0), .d (.int .u64 0), .d (.int .u64 0), .d (.int .u64 0)]
def n5Z : List AV := [.d (.int .u32 0), .d (.int .u32 0), .d (.int .u32 0), .d (.int .u32 0), .d (.int .u32 0)]
/-- An answer's cells, of an op. -/
def aA (op : Int) : List AV := .d (.int .u8 op) :: .d (.int .i64 0) :: (cb z32 ++ .d (.int .u32 0) :: (w4Z ++ .d (.int .u64 0) :: .d (.bool false) :: .nil :: .nil :: (n5Z ++ [.nil])))
def qA (op : Int) : List AV := .d (.int .u8 op) :: (cb z32 ++ [.d (.int .u32 0), .d (.int .u32 0), .nil])
theorem zans : tzO Tryz.prog 68 = some (aA 0) := by kernel_rfl
theorem zque : tzO Tryz.prog 182 = some (qA 0) := by kernel_rfl
theorem zrd : tzO Tryz.prog 189 = some [.nil, .d (.bool false)] := by kernel_rfl
theorem zwr : tzO Tryz.prog 275 = some [.nil] := by kernel_rfl
theorem zw4 : tzO Tryz.prog 64 = some w4Z := by kernel_rfl
theorem isPtrR : isPtr Tryz.prog 187 = true := by kernel_rfl
theorem isPtrWr : isPtr Tryz.prog 273 = true := by kernel_rfl
attribute [go_sem] zrd zwr isPtrR isPtrWr
attribute [go_sem] r_mfm r_clm r_co_mth
theorem aA_h (op : Int) : (aA op).head? = some (.d (.int .u8 op)) := rfl
theorem qA_h (op : Int) : (qA op).head? = some (.d (.int .u8 op)) := rfl
theorem aA_t (op op2 : Int) : AV.d (.int .u8 op2) :: (aA op).tail = aA op2 := rfl
theorem qA_t (op op2 : Int) : AV.d (.int .u8 op2) :: (qA op).tail = qA op2 := rfl
theorem aA_d (op : Int) : (aA op).drop 49 = [] := rfl
theorem qA_d (op : Int) : (qA op).drop 36 = [] := rfl
theorem one_low {l : List AV} (h : ∀ n, ∀ v, v ∈ l → v.low1 n) (n : Nat) : ∀ r, r ∈ [l] → ∀ v, v ∈ r → v.low1 n := by
  intro r hr
  simp only [List.mem_cons, List.mem_nil_iff, or_false] at hr
  subst hr
  exact h n
theorem qA_low (op : Int) (n : Nat) : ∀ v, v ∈ qA op → v.low1 n := by
  intro v hv
  simp only [qA, List.mem_cons, List.mem_append, List.mem_nil_iff, or_false] at hv
  rcases hv with rfl | hv | rfl | rfl | rfl
  · trivial
  · exact cb_low n _ v hv
  all_goals trivial
theorem aA_low (op : Int) (n : Nat) : ∀ v, v ∈ aA op → v.low1 n := by
  intro v hv
  simp only [aA, w4Z, n5Z, List.mem_cons, List.mem_append, List.mem_nil_iff, or_false] at hv
  rcases hv with rfl | rfl | hv | rfl | (rfl | rfl | rfl | rfl) | rfl | rfl | rfl | rfl | (rfl | rfl | rfl | rfl | rfl) | rfl
  · trivial
  · trivial
  · exact cb_low n _ v hv
  all_goals trivial
theorem zfl1 : (List.map (List.length ∘ List.map AV.d ∘ fun (b : Nat) => [DV.int .u8 (b : Int)]) z32).sum = 32 := rfl
theorem zfl2 : (List.map (List.map AV.d ∘ fun (b : Nat) => [DV.int .u8 (b : Int)]) z32).flatten = cb z32 := rfl
theorem tupA {l : List AV} {v : DV} (h : ∀ x, x ∈ l → x.deep1) : (AV.tup [.agg l, .d v]).deep := by
  intro c hc
  simp only [List.mem_cons, List.mem_nil_iff, or_false] at hc
  rcases hc with rfl | rfl
  · exact .inr ⟨_, rfl, h⟩
  · exact .inl trivial
theorem qA_deep (op : Int) : ∀ v, v ∈ qA op → v.deep1 := by
  intro v hv
  simp only [qA, List.mem_cons, List.mem_append, List.mem_nil_iff, or_false] at hv
  rcases hv with rfl | hv | rfl | rfl | rfl
  · trivial
  · exact cb_deep _ v hv
  all_goals trivial
theorem aA_deep (op : Int) : ∀ v, v ∈ aA op → v.deep1 := by
  intro v hv
  simp only [aA, w4Z, n5Z, List.mem_cons, List.mem_append, List.mem_nil_iff, or_false] at hv
  rcases hv with rfl | rfl | hv | rfl | (rfl | rfl | rfl | rfl) | rfl | rfl | rfl | rfl | (rfl | rfl | rfl | rfl | rfl) | rfl
  · trivial
  · trivial
  · exact cb_deep _ v hv
  all_goals trivial
theorem aA_p1 (op : Int) : List.take 1 (aA op) ++ AV.d (.int .i64 0) :: List.drop 2 (aA op) = aA op := rfl
theorem aA_dh (op : Int) : ((aA op).drop 1).head? = some (.d (.int .i64 0)) := rfl
theorem aA_1g (op : Int) (h : 1 < (aA op).length) : (aA op)[1]'h = .d (.int .i64 0) := rfl
theorem aA_len (op : Int) : (aA op).length = 49 := rfl
theorem qA_len (op : Int) : (qA op).length = 36 := rfl
theorem aA_take (op : Int) : (aA op).take 49 = aA op := rfl
theorem qA_take (op : Int) : (qA op).take 36 = qA op := rfl
theorem aA_0 (op : Int) : (aA op)[0]? = some (.d (.int .u8 op)) := rfl
theorem aA_1 (op : Int) : (aA op)[1]? = some (.d (.int .i64 0)) := rfl
theorem aA_34 (op : Int) : (aA op)[34]? = some (.d (.int .u32 0)) := rfl
theorem qA_0 (op : Int) : (qA op)[0]? = some (.d (.int .u8 op)) := rfl
theorem aA_s0 (op op2 : Int) : (aA op).set 0 (.d (.int .u8 op2)) = aA op2 := rfl
theorem qA_s0 (op op2 : Int) : (qA op).set 0 (.d (.int .u8 op2)) = qA op2 := rfl
theorem aA_s34 (op : Int) : (aA op).set 34 (.d (.int .u32 0)) = aA op := rfl
theorem aA_name (op : Int) : ((aA op).drop 2).take 32 = cb z32 := rfl
theorem aA_work (op : Int) : ((aA op).drop 35).take 4 = w4Z := rfl
theorem aA_ren (ρ : Nat → Nat) (op : Int) : AV.renL ρ (aA op) = aA op := rfl
theorem qA_ren (ρ : Nat → Nat) (op : Int) : AV.renL ρ (qA op) = qA op := rfl
theorem w4Z_ren (ρ : Nat → Nat) : AV.renL ρ w4Z = w4Z := rfl
theorem w4Z_len : w4Z.length = 4 := rfl
theorem cz_len : (cb z32).length = 32 := rfl
theorem cz_take : (cb z32).take 32 = cb z32 := rfl

def rdB (l : List Nat) : Blk := ⟨189, 2, [[.d (nb l), .d (.bool false)]]⟩
theorem isOp_fn : Rets Tryz.prog 89 [.d (.int .u8 1)] (fun r => r = .d (.bool true)) := by
  refine fn_of_awp Tryz.func89 (by kernel_rfl) rfl Tryz.ntmps89 (rs := [.tmp 2]) rfl (Nat.le_of_ble_eq_true rfl) (by simp [AV.deep, AV.deep1]) ?_
  simp [go_sem, resV]
  exact post_same (by simp [AV.deep, AV.deep1]) rfl
theorem took_fn (l m : List Nat) : RetsE Tryz.prog 260 1 [(0, rdB l)] [.ptr 0 0 0 1, .d (nb m), .d (.int .i64 0)]
    (fun r hp' => r = .d (.bool true) ∧ lk 0 hp' = some (rdB m)) := by
  refine fnE_of_awp Tryz.func260 (by kernel_rfl) rfl Tryz.ntmps260 (rs := [.tmp 6]) rfl (Nat.le_of_ble_eq_true rfl) (by decide) ?_
  simp [go_sem, resV, lk, rdB]
set_option maxHeartbeats 2000000 in
theorem rname_fn (m : List Nat) (ty e off : Nat) (row : List AV) (hm : m.length ≤ 1000) (he : row.length = e) (ho : off + 32 ≤ e) (hs : row.take off ++ (cb z32 ++ row.drop (off + 32)) = row) (hr : ∀ ρ, AV.renL ρ row = row) : RetsE Tryz.prog 160 2 [(0, rdB (z32 ++ m)), (1, ⟨ty, e, [row]⟩)] [.ptr 0 0 0 1, .ptr 1 0 off 1]
    (fun r hp' => r = .tup [] ∧ lk 0 hp' = some (rdB m) ∧ lk 1 hp' = some ⟨ty, e, [row]⟩) := by
  refine fnE_of_awp Tryz.func160 (by kernel_rfl) rfl Tryz.ntmps160 (rs := []) rfl (Nat.le_of_ble_eq_true rfl) (by decide) ?_
  have hz : (z32 ++ m).take 32 = z32 := by simp [z32]
  have hd : (z32 ++ m).drop 32 = m := by simp [z32]
  have hzl : z32.length = 32 := rfl
  simp [go_sem, rdB]
  refine cl_froz [] (takec_fn (z32 ++ m) 32 (by simp [z32]) (by simp [z32]; omega)) rfl (snap_cons (.deep (by simp [AV.deep, AV.deep1])) (snap_cons (.deep (by simp [AV.deep, AV.deep1])) snap_nil)) ?_
  rw [hz, hd]
  simp [go_sem, dropH]
  refine cl_eff [(0, 0)] (took_fn (z32 ++ m) m) rfl (by simp) (by simp [lk, rdB]) (by simp [lk, Blk.ren, renR, AV.ren, AV.renL, rho, swp, rdB]) (by simp [AV.renL, AV.ren, rho, swp, lk, rdB]) ?_
  rintro r hp' ⟨rfl, h0⟩
  refine ⟨[], rfl, ?_⟩
  simp [go_sem, outH, outP, h0, Blk.ren, renR, AV.ren, AV.renL, rho, lk, rdB]
  clear h0 hp'
  simp [go_sem, nb, hzl, zfl1, zfl2, cz_take, cz_len, he, ho, hs, resV, lk]
set_option maxHeartbeats 2000000 in
theorem rshort_fn (m : List Nat) (ty e off : Nat) (row : List AV) (hm : m.length ≤ 1000) (he : row.length = e) (ho : off < e) (hs : row.set off (.d (.int .u32 0)) = row) (hr : ∀ ρ, AV.renL ρ row = row) : RetsE Tryz.prog 161 2 [(0, rdB (0 :: 0 :: 0 :: 0 :: m)), (1, ⟨ty, e, [row]⟩)] [.ptr 0 0 0 1, .ptr 1 0 off 1]
    (fun r hp' => r = .tup [] ∧ lk 0 hp' = some (rdB m) ∧ lk 1 hp' = some ⟨ty, e, [row]⟩) := by
  refine fnE_of_awp Tryz.func161 (by kernel_rfl) rfl Tryz.ntmps161 (rs := []) rfl (Nat.le_of_ble_eq_true rfl) (by decide) ?_
  simp [go_sem, rdB]
  refine cl_froz [] (take32_fn 0 m (by omega) hm) rfl (snap_cons (.deep (by simp [AV.deep, AV.deep1])) snap_nil) ?_
  simp [go_sem, dropH]
  refine cl_eff [(0, 0)] (took_fn (0 :: 0 :: 0 :: 0 :: m) m) rfl (by simp) (by simp [lk, rdB]) (by simp [lk, Blk.ren, renR, AV.ren, AV.renL, rho, swp, rdB]) (by simp [AV.renL, AV.ren, rho, swp, lk, rdB]) ?_
  rintro r hp' ⟨rfl, h0⟩
  refine ⟨[], rfl, ?_⟩
  simp [go_sem, outH, outP, h0, Blk.ren, renR, AV.ren, AV.renL, rho, lk, rdB]
  clear h0 hp'
  simp [go_sem, resV, lk, hs, he, ho]
theorem rd0_is : cW (mulW z32 32) = w4Z := by kernel_rfl
set_option maxHeartbeats 2000000 in
theorem rwork_fn (ty e off : Nat) (row : List AV) (he : row.length = e) (ho : off + 4 ≤ e) (hs : row.take off ++ (w4Z ++ row.drop (off + 4)) = row) (hr : ∀ ρ, AV.renL ρ row = row) : RetsE Tryz.prog 164 2 [(0, rdB z32), (1, ⟨ty, e, [row]⟩)] [.ptr 0 0 0 1, .ptr 1 0 off 1]
    (fun r hp' => r = .tup [] ∧ lk 0 hp' = some (rdB []) ∧ lk 1 hp' = some ⟨ty, e, [row]⟩) := by
  refine fnE_of_awp Tryz.func164 (by kernel_rfl) rfl Tryz.ntmps164 (rs := []) rfl (Nat.le_of_ble_eq_true rfl) (by decide) ?_
  have hz : z32 ++ [] = z32 := List.append_nil _
  simp [go_sem]
  refine cl_eff [(0, 0), (1, 3)] (hz ▸ rname_fn [] 61 32 0 (cb z32) (by simp) rfl (by omega) rfl (fun ρ => cb_ren ρ _)) rfl (by simp) (by simp [lk, rdB, cb_ren, cz_len, cz_take]) (by simp [lk, Blk.ren, renR, AV.ren, AV.renL, rho, swp, rdB, cb_ren, cz_len, cz_take]) (by simp [AV.renL, AV.ren, rho, swp, lk, rdB, cb_ren, cz_len, cz_take]) ?_
  rintro r hp' ⟨rfl, h0, h1⟩
  refine ⟨[], rfl, ?_⟩
  simp [go_sem, outH, outP, h0, h1, Blk.ren, renR, AV.ren, AV.renL, rho, lk, rdB, cb_ren, cz_len, cz_take]
  clear h0 h1 hp'
  refine cl_eq (read_fn z32 rfl (by intro x hx; simp [z32] at hx; omega)) (by intro v hv; simp at hv; subst hv; exact cb_deepA _) ?_
  rw [rd0_is]
  simp [go_sem, resV, lk, hs, he, ho, w4Z_len]
def rdP : List AV := [.mth 160 [.ptr 0 0 0 1], .mth 161 [.ptr 0 0 0 1], .mth 162 [.ptr 0 0 0 1], .mth 163 [.ptr 0 0 0 1], .mth 164 [.ptr 0 0 0 1], .mth 165 [.ptr 0 0 0 1], .mth 166 [.ptr 0 0 0 1], .mth 167 [.ptr 0 0 0 1]]
def wrP : List AV := [.mth 249 [.ptr 0 0 0 1], .mth 250 [.ptr 0 0 0 1], .mth 251 [.ptr 0 0 0 1], .mth 252 [.ptr 0 0 0 1], .mth 253 [.ptr 0 0 0 1], .mth 254 [.ptr 0 0 0 1], .mth 255 [.ptr 0 0 0 1], .mth 256 [.ptr 0 0 0 1]]
theorem taking_fn (l : List Nat) : RetsE Tryz.prog 90 1 [(0, rdB l)] [.ptr 0 0 0 1]
    (fun r hp' => r = .agg rdP ∧ lk 0 hp' = some (rdB l)) := by
  refine fnE_of_awp Tryz.func90 (by kernel_rfl) rfl Tryz.ntmps90 (rs := [.cell 2 198]) rfl (Nat.le_of_ble_eq_true rfl) (by decide) ?_
  simp [go_sem, resV, lk, rdB, rdP]
theorem quest_fn : RetsE Tryz.prog 238 2 [(0, rdB []), (1, ⟨182, 36, [qA 1]⟩)] [.agg rdP, .ptr 1 0 0 1]
    (fun r hp' => r = .tup [] ∧ lk 0 hp' = some (rdB []) ∧ lk 1 hp' = some ⟨182, 36, [qA 1]⟩) := by
  refine fnE_of_awp Tryz.func238 (by kernel_rfl) rfl Tryz.ntmps238 (rs := []) rfl (Nat.le_of_ble_eq_true rfl) (by decide) ?_
  simp [go_sem, resV, lk, rdB, rdP, qA_h, qA_len]
set_option maxHeartbeats 2000000 in
theorem readQ_fn : Rets Tryz.prog 142 [.d (nb [1])] (fun r => r = .tup [.agg (qA 1), .d (.bool true)]) := by
  refine fn_of_awp Tryz.func142 (by kernel_rfl) rfl Tryz.ntmps142 (rs := [.cell 2 182, .tmp 3]) rfl (Nat.le_of_ble_eq_true rfl) (by simp [AV.deep, AV.deep1]) ?_
  simp [go_sem, nb, zque, qA_len, qA_take, qA_h, qA_t, qA_d]
  refine cl_eq isOp_fn (by simp [AV.deep, AV.deep1]) ?_
  simp [go_sem, zque, qA_len, qA_take, qA_t, qA_d]
  refine cl_eff [(0, 480)] (taking_fn []) rfl (by simp) (by simp [lk, rdB, rdP, nb]) (by simp [lk, Blk.ren, renR, AV.ren, AV.renL, rho, swp, rdB, rdP, nb]) (by simp [AV.renL, AV.ren, rho, swp, lk, rdB, rdP, nb]) ?_
  rintro r hp' ⟨rfl, h0⟩
  refine ⟨[], rfl, ?_⟩
  simp [go_sem, outH, outP, h0, Blk.ren, renR, AV.ren, AV.renL, rho, lk, rdB, rdP, nb]
  clear h0 hp'
  refine cl_eff [(0, 480), (1, 672)] quest_fn rfl (by simp) (by simp [lk, rdB, rdP, nb, qA_ren]) (by simp [lk, Blk.ren, renR, AV.ren, AV.renL, rho, swp, rdB, rdP, nb, qA_ren]) (by simp [AV.renL, AV.ren, rho, swp, lk, rdB, rdP, nb, qA_ren]) ?_
  rintro r hp' ⟨rfl, h0, h1⟩
  refine ⟨[], rfl, ?_⟩
  simp [go_sem, outH, outP, h0, h1, Blk.ren, renR, AV.ren, AV.renL, rho, lk, rdB, rdP, nb, qA_ren]
  clear h0 h1 hp'
  apply draw3 (0 :: 1 :: []) (2 :: 3 :: 4 :: 5 :: 8 :: 9 :: 10 :: 11 :: 12 :: 13 :: 14 :: []) (0 :: 1 :: 6 :: 7 :: 15 :: []) (.step 2 ([]) true (.step 3 ([]) true (.step 4 ([]) true (.step 5 (6 :: 7 :: []) true (.alt (.step 8 ([]) true (.alt (.step 9 ([]) true (.alt (.step 10 ([]) true (.alt (.step 11 ([]) true (.alt (.step 12 ([]) true (.alt (.step 13 ([]) true (.step 14 (15 :: []) false .done)) (.step 14 ([]) false (.step 13 (15 :: []) false .done)))) (.step 14 ([]) false (.step 12 ([]) false (.step 13 (15 :: []) false .done))))) (.step 14 ([]) false (.step 11 ([]) false (.step 12 ([]) false (.step 13 (15 :: []) false .done)))))) (.step 14 ([]) false (.step 10 ([]) false (.step 11 ([]) false (.step 12 ([]) false (.step 13 (15 :: []) false .done))))))) (.step 14 ([]) false (.step 9 ([]) false (.step 10 ([]) false (.step 11 ([]) false (.step 12 ([]) false (.step 13 (15 :: []) false .done)))))))) (.step 14 ([]) false (.step 8 ([]) false (.step 9 ([]) false (.step 10 ([]) false (.step 11 ([]) false (.step 12 ([]) false (.step 13 (15 :: []) false .done)))))))))))) ⟨[(2, .ptr 0 0 0 1), (3, .d (.bool true))], [(0, ⟨182, 36, [qA 1]⟩)], 9000⟩ (k := 16) (by kernel_rfl) (by kernel_rfl) rfl
  case hz => repeat (first | exact Its.nil | apply Its.plain rfl | apply Its.guard rfl rfl)
  case hj => repeat (first | exact Tts.done | exact Its.nil | apply Tts.alt | apply Its.plain rfl | apply Its.guard rfl rfl | apply Tts.plain rfl | apply Tts.guard rfl rfl)
  case h3 =>
    intro G hG
    have hW : ∀ (fr : Fr) (hp : Hp), (fv 2 fr = .ptr 0 0 0 1 ∧ fv 3 fr = .d (.bool true) ∧ lk 0 hp = some ⟨182, 36, [qA 1]⟩) → G fr hp := by
      rintro fr hp ⟨q0, q1, q2⟩
      refine hG _ _ (weak_wk ⟨?_, ?_, by simp⟩)
      · simp [slotOk, AV.low, AV.low1, q0, q1]
      · intro q hq
        simp only [List.mem_cons, List.mem_nil_iff, or_false] at hq
        rcases hq with rfl
        · exact ⟨.inl q2, by simp, one_low (qA_low 1) _⟩
    simp [go_sem, qA_len, qA_take, qA_d]
    repeat' first | exact hW _ _ ⟨by simp [fv, lk, qA_len, qA_take, qA_d]⟩ | apply And.intro | (refine hW _ _ ?_; simp [fv, lk, qA_len, qA_take, qA_d])
  case hq =>
    simp [go_sem, resV, lk, qA_len, qA_take, qA_d]
    exact post_same (tupA (qA_deep 1)) rfl
theorem takeQ_fn : Rets Tryz.prog 86 [.d (nb [1])] (fun r => r = .tup [.agg (qA 1), .d (.int .i64 0)]) := by
  refine fn_of_awp Tryz.func86 (by kernel_rfl) rfl Tryz.ntmps86 (rs := [.cell 2 182, .tmp 3]) rfl (Nat.le_of_ble_eq_true rfl) (by simp [AV.deep, AV.deep1]) ?_
  simp [go_sem, zque, qA_len, qA_take, qA_d]
  refine cl_eq readQ_fn (by simp [AV.deep, AV.deep1]) ?_
  simp [go_sem, zque, qA_len, qA_take, qA_d, resV]
  exact post_same (tupA (qA_deep 1)) rfl
set_option maxHeartbeats 2000000 in
theorem rans_fn : RetsE Tryz.prog 91 2 [(0, rdB (z32 ++ 0 :: 0 :: 0 :: 0 :: z32)), (1, ⟨68, 49, [aA 1]⟩)] [.agg rdP, .ptr 1 0 0 1]
    (fun r hp' => r = .tup [] ∧ lk 0 hp' = some (rdB []) ∧ lk 1 hp' = some ⟨68, 49, [aA 1]⟩) := by
  refine fnE_of_awp Tryz.func91 (by kernel_rfl) rfl Tryz.ntmps91 (rs := []) rfl (Nat.le_of_ble_eq_true rfl) (by decide) ?_
  simp [go_sem, resV, lk, rdB, rdP, aA_h, aA_len]
  apply draw2 (0 :: 1 :: 2 :: 3 :: 4 :: []) ((5, ([])) :: []) 0 (k := 6) (by kernel_rfl) (by kernel_rfl) rfl
  case hz => repeat (first | exact Its.nil | apply Its.plain rfl | apply Its.guard rfl rfl)
  case hj => repeat (first | exact Jts.nil | exact Its.nil | apply Its.plain rfl | apply Its.guard rfl rfl | apply Jts.plain rfl | apply Jts.guard rfl rfl)
  intro G hG
  simp [go_sem]
  refine cl_eff [(0, 0), (1, 1)] (rname_fn (0 :: 0 :: 0 :: 0 :: z32) 68 49 2 (aA 1) (by decide) rfl (by omega) rfl (fun ρ => rfl)) rfl (by simp) (by simp [lk, rdB, rdP, aA_ren]) (by simp [lk, Blk.ren, renR, AV.ren, AV.renL, rho, swp, rdB, rdP, aA_ren]) (by simp [AV.renL, AV.ren, rho, swp, lk, rdB, rdP, aA_ren]) ?_
  rintro r hp' ⟨rfl, h0, h1⟩
  refine ⟨[], rfl, ?_⟩
  simp [go_sem, outH, outP, h0, h1, Blk.ren, renR, AV.ren, AV.renL, rho, lk, rdB, rdP, aA_ren]
  clear h0 h1 hp'
  refine hG _ _ ?_
  clear hG G
  simp [go_sem]
  apply draw2 (0 :: 1 :: 2 :: 3 :: 4 :: []) ((5, ([])) :: []) 0 (k := 6) (by kernel_rfl) (by kernel_rfl) rfl
  case hz => repeat (first | exact Its.nil | apply Its.plain rfl | apply Its.guard rfl rfl)
  case hj => repeat (first | exact Jts.nil | exact Its.nil | apply Its.plain rfl | apply Its.guard rfl rfl | apply Jts.plain rfl | apply Jts.guard rfl rfl)
  intro G hG
  simp [go_sem]
  refine cl_eff [(0, 0), (1, 1)] (rshort_fn z32 68 49 34 (aA 1) (by decide) rfl (by omega) rfl (fun ρ => rfl)) rfl (by simp) (by simp [lk, rdB, rdP, aA_ren]) (by simp [lk, Blk.ren, renR, AV.ren, AV.renL, rho, swp, rdB, rdP, aA_ren]) (by simp [AV.renL, AV.ren, rho, swp, lk, rdB, rdP, aA_ren]) ?_
  rintro r hp' ⟨rfl, h0, h1⟩
  refine ⟨[], rfl, ?_⟩
  simp [go_sem, outH, outP, h0, h1, Blk.ren, renR, AV.ren, AV.renL, rho, lk, rdB, rdP, aA_ren]
  clear h0 h1 hp'
  refine hG _ _ ?_
  clear hG G
  simp [go_sem]
  apply draw2 (0 :: 1 :: 2 :: 3 :: 4 :: []) ((5, ([])) :: []) 0 (k := 6) (by kernel_rfl) (by kernel_rfl) rfl
  case hz => repeat (first | exact Its.nil | apply Its.plain rfl | apply Its.guard rfl rfl)
  case hj => repeat (first | exact Jts.nil | exact Its.nil | apply Its.plain rfl | apply Its.guard rfl rfl | apply Jts.plain rfl | apply Jts.guard rfl rfl)
  intro G hG
  simp [go_sem]
  refine cl_eff [(0, 0), (1, 1)] (rwork_fn 68 49 35 (aA 1) rfl (by omega) rfl (fun ρ => rfl)) rfl (by simp) (by simp [lk, rdB, rdP, aA_ren]) (by simp [lk, Blk.ren, renR, AV.ren, AV.renL, rho, swp, rdB, rdP, aA_ren]) (by simp [AV.renL, AV.ren, rho, swp, lk, rdB, rdP, aA_ren]) ?_
  rintro r hp' ⟨rfl, h0, h1⟩
  refine ⟨[], rfl, ?_⟩
  simp [go_sem, outH, outP, h0, h1, Blk.ren, renR, AV.ren, AV.renL, rho, lk, rdB, rdP, aA_ren]
  clear h0 h1 hp'
  refine hG _ _ ?_
  clear hG G
  simp [go_sem]
def ansL : List Nat := z32 ++ 0 :: 0 :: 0 :: 0 :: z32
theorem ansL_len : ansL.length = 68 := rfl
theorem ansL_tk : (ansL.map fun (b : Nat) => [DV.int .u8 (b : Int)]).take 68 = ansL.map fun (b : Nat) => [DV.int .u8 (b : Int)] := List.take_of_length_le (by simp [ansL_len])
theorem ransL : RetsE Tryz.prog 91 2 [(0, rdB ansL), (1, ⟨68, 49, [aA 1]⟩)] [.agg rdP, .ptr 1 0 0 1] (fun r hp' => r = .tup [] ∧ lk 0 hp' = some (rdB []) ∧ lk 1 hp' = some ⟨68, 49, [aA 1]⟩) := rans_fn
set_option maxHeartbeats 4000000 in
theorem readA_fn : Rets Tryz.prog 48 [.d (nb (1 :: 0 :: ansL))] (fun r => r = .tup [.agg (aA 1), .d (.bool true)]) := by
  refine fn_of_awp Tryz.func48 (by kernel_rfl) rfl Tryz.ntmps48 (rs := [.cell 2 68, .tmp 3]) rfl (Nat.le_of_ble_eq_true rfl) (by simp [AV.deep, AV.deep1]) ?_
  have v0 : IntKind.i64.wrap 0 = 0 := by decide
  have v2 : ¬ ((68 : Nat) : Int) + 1 + 1 < 2 := by omega
  simp [go_sem, nb, zans, aA_len, aA_take, aA_h, aA_t, aA_d, ansL_len]
  refine cl_eq isOp_fn (by simp [AV.deep, AV.deep1]) ?_
  simp [go_sem, zans, aA_len, aA_take, aA_t, aA_d, ansL_len, ansL_tk]
  apply draw3 (0 :: 1 :: 2 :: 3 :: 4 :: 5 :: 6 :: 7 :: []) (8 :: 9 :: []) (0 :: 1 :: 2 :: 3 :: 4 :: 5 :: 6 :: 7 :: []) (.step 8 ([]) true (.step 9 ([]) false .done)) ⟨[(2, .ptr 0 0 0 1), (4, .ptr 672 0 0 1), (5, .ptr 992 0 0 1)], [(0, ⟨68, 49, [aA 0]⟩), (672, (rdB ansL)), (992, ⟨68, 49, [aA 1]⟩)], 9000⟩ (k := 10) (by kernel_rfl) (by kernel_rfl) rfl
  case hz => repeat (first | exact Its.nil | apply Its.plain rfl | apply Its.guard rfl rfl)
  case hj => repeat (first | exact Tts.done | exact Its.nil | apply Tts.alt | apply Its.plain rfl | apply Its.guard rfl rfl | apply Tts.plain rfl | apply Tts.guard rfl rfl)
  case h3 =>
    intro G hG
    have hW : ∀ (fr : Fr) (hp : Hp), (fv 2 fr = .ptr 0 0 0 1 ∧ fv 4 fr = .ptr 672 0 0 1 ∧ fv 5 fr = .ptr 992 0 0 1 ∧ lk 0 hp = some ⟨68, 49, [aA 0]⟩ ∧ lk 672 hp = some (rdB ansL) ∧ lk 992 hp = some ⟨68, 49, [aA 1]⟩) → G fr hp := by
      rintro fr hp ⟨q0, q1, q2, q3, q4, q5⟩
      refine hG _ _ (weak_wk ⟨?_, ?_, by simp⟩)
      · simp [slotOk, AV.low, AV.low1, q0, q1, q2]
      · intro q hq
        simp only [List.mem_cons, List.mem_nil_iff, or_false] at hq
        rcases hq with rfl | rfl | rfl
        · exact ⟨.inl q3, by simp, one_low (aA_low 0) _⟩
        · exact ⟨.inl q4, by simp, by simp [rdB, AV.low1]⟩
        · exact ⟨.inl q5, by simp, one_low (aA_low 1) _⟩
    simp [go_sem, rdB, nb, zans, aA_len, aA_take, aA_h, aA_t, aA_d, aA_p1, ansL_len, v0]
    repeat' first | exact hW _ _ ⟨by simp [fv, lk, rdB, nb, zans, aA_len, aA_take, aA_h, aA_t, aA_d, aA_p1, ansL_len, v0]⟩ | apply And.intro | (refine hW _ _ ?_; simp [fv, lk, rdB, nb, zans, aA_len, aA_take, aA_h, aA_t, aA_d, aA_p1, ansL_len, v0])
  case hq =>
    simp [go_sem, aA_len, aA_1, aA_1g, aA_dh]
    refine cl_eff [(0, 672)] (taking_fn ansL) rfl (by simp) (by simp [lk, rdB, rdP, nb]) (by simp [lk, Blk.ren, renR, AV.ren, AV.renL, rho, swp, rdB, rdP, nb]) (by simp [AV.renL, AV.ren, rho, swp, lk, rdB, rdP, nb]) ?_
    rintro r hp' ⟨rfl, h0⟩
    refine ⟨[], rfl, ?_⟩
    simp [go_sem, outH, outP, h0, Blk.ren, renR, AV.ren, AV.renL, rho, lk, rdB, rdP, nb]
    clear h0 hp'
    refine cl_eff [(0, 672), (1, 992)] ransL rfl (by simp) (by simp [lk, rdB, rdP, nb, aA_ren]) (by simp [lk, Blk.ren, renR, AV.ren, AV.renL, rho, swp, rdB, rdP, nb, aA_ren]) (by simp [AV.renL, AV.ren, rho, swp, lk, rdB, rdP, nb, aA_ren]) ?_
    rintro r hp' ⟨rfl, h0, h1⟩
    refine ⟨[], rfl, ?_⟩
    simp [go_sem, outH, outP, h0, h1, Blk.ren, renR, AV.ren, AV.renL, rho, lk, rdB, rdP, nb, aA_ren]
    clear h0 h1 hp'
    apply draw3 (0 :: 1 :: []) (2 :: 3 :: 4 :: 5 :: 8 :: 9 :: 10 :: 11 :: 12 :: 13 :: 14 :: []) (0 :: 1 :: 6 :: 7 :: 15 :: []) (.step 2 ([]) true (.step 3 ([]) true (.step 4 ([]) true (.step 5 (6 :: 7 :: []) true (.alt (.step 8 ([]) true (.alt (.step 9 ([]) true (.alt (.step 10 ([]) true (.alt (.step 11 ([]) true (.alt (.step 12 ([]) true (.alt (.step 13 ([]) true (.step 14 (15 :: []) false .done)) (.step 14 ([]) false (.step 13 (15 :: []) false .done)))) (.step 14 ([]) false (.step 12 ([]) false (.step 13 (15 :: []) false .done))))) (.step 14 ([]) false (.step 11 ([]) false (.step 12 ([]) false (.step 13 (15 :: []) false .done)))))) (.step 14 ([]) false (.step 10 ([]) false (.step 11 ([]) false (.step 12 ([]) false (.step 13 (15 :: []) false .done))))))) (.step 14 ([]) false (.step 9 ([]) false (.step 10 ([]) false (.step 11 ([]) false (.step 12 ([]) false (.step 13 (15 :: []) false .done)))))))) (.step 14 ([]) false (.step 8 ([]) false (.step 9 ([]) false (.step 10 ([]) false (.step 11 ([]) false (.step 12 ([]) false (.step 13 (15 :: []) false .done)))))))))))) ⟨[(2, .ptr 0 0 0 1), (3, .d (.bool true))], [(0, ⟨68, 49, [aA 1]⟩)], 9000⟩ (k := 16) (by kernel_rfl) (by kernel_rfl) rfl
    case hz => repeat (first | exact Its.nil | apply Its.plain rfl | apply Its.guard rfl rfl)
    case hj => repeat (first | exact Tts.done | exact Its.nil | apply Tts.alt | apply Its.plain rfl | apply Its.guard rfl rfl | apply Tts.plain rfl | apply Tts.guard rfl rfl)
    case h3 =>
      intro G hG
      have hW : ∀ (fr : Fr) (hp : Hp), (fv 2 fr = .ptr 0 0 0 1 ∧ fv 3 fr = .d (.bool true) ∧ lk 0 hp = some ⟨68, 49, [aA 1]⟩) → G fr hp := by
        rintro fr hp ⟨q0, q1, q2⟩
        refine hG _ _ (weak_wk ⟨?_, ?_, by simp⟩)
        · simp [slotOk, AV.low, AV.low1, q0, q1]
        · intro q hq
          simp only [List.mem_cons, List.mem_nil_iff, or_false] at hq
          rcases hq with rfl
          · exact ⟨.inl q2, by simp, one_low (aA_low 1) _⟩
      simp [go_sem, aA_len, aA_take, aA_d]
      repeat' first | exact hW _ _ ⟨by simp [fv, lk, aA_len, aA_take, aA_d]⟩ | apply And.intro | (refine hW _ _ ?_; simp [fv, lk, aA_len, aA_take, aA_d])
    case hq =>
      simp [go_sem, resV, lk, aA_len, aA_take, aA_d]
      exact post_same (tupA (aA_deep 1)) rfl
theorem takeA_fn : Rets Tryz.prog 18 [.d (nb (1 :: 0 :: ansL))] (fun r => r = .tup [.agg (aA 1), .d (.int .i64 0)]) := by
  refine fn_of_awp Tryz.func18 (by kernel_rfl) rfl Tryz.ntmps18 (rs := [.cell 2 68, .tmp 3]) rfl (Nat.le_of_ble_eq_true rfl) (by simp [AV.deep, AV.deep1]) ?_
  simp [go_sem, zans, aA_len, aA_take, aA_d]
  refine cl_eq readA_fn (by simp [AV.deep, AV.deep1]) ?_
  simp [go_sem, zans, aA_len, aA_take, aA_d, resV]
  exact post_same (tupA (aA_deep 1)) rfl
end Go.Proofs.YtnmnabagabejjaaGreat
