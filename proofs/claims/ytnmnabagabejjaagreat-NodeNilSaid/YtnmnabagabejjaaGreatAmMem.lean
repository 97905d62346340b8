/-
  AM, part 6: operations that reckon addresses, make blocks, store.
-/
import Derived.Test.YtnmnabagabejjaaGreatAmOp
namespace Go.Am
set_option linter.unusedVariables false

section
variable {P : Program} {c : Ctx} {K : AV → Hp → Prop} {fr : Fr} {hp : Hp} {U : Nat → Prop} {N : Nat} {σ : Nat → Option Nat} {w : World} {a : Act} {o : Oper}

theorem run_indexAt_sl {t e : TypeId} {ad : Addr} {len cap : Nat} {k : IntKind} {n : Int} (hu : P.underlying t = some (.slice e)) (hz : P.cellsOf e ≠ 0) (h0 : 0 ≤ n) (h1 : n < len) :
    (Instr.indexAt t (.slice (some ad) len cap) (.int k n)).run P w = .ok (.pointer (some (ad.add (n.toNat * P.cellsOf e)))) w := by
  simp [Instr.indexAt, run_underlying hu, asIntOf, h0, h1, run_sizeOf_ne hz]

theorem run_indexAt_arr {t e : TypeId} {ad : Addr} {len : Nat} {k : IntKind} {n : Int} (hu : P.underlying t = some (.array len e)) (hz : P.cellsOf e ≠ 0) (h0 : 0 ≤ n) (h1 : n < len) :
    (Instr.indexAt t (.pointer (some ad)) (.int k n)).run P w = .ok (.pointer (some (ad.add (n.toNat * P.cellsOf e)))) w := by
  simp [Instr.indexAt, run_underlying hu, asIntOf, h0, h1, run_sizeOf_ne hz, Instr.sureAddr]

theorem s_indexAddr (hr : Rel c hp U σ w) (E : ∀ x, AIs w (Sof c w σ hp) σ hp U (ev fr x) (a.eval x)) {t : TypeId} {x ix : Operand} (hop : o.op = .indexAddr t x ix) (h : opW P fr hp N (.indexAddr t x ix) K) :
    OpOk P c K hp U N σ w ((execOp a.eval o).run P w) := by
  simp only [opW] at h
  split at h
  · rename_i k n hi
    have hi' := is_int (hi ▸ E ix)
    have run : ∀ v, (Instr.indexAt t (a.eval x) (.int k n)).run P w = .ok v w → (execOp a.eval o).run P w = .ok (.value v) w := by
      intro v hv
      simp only [execOp, hop, hi', Sem.run_bind, hv, Result.andThen_ok, Sem.run_pure]
    split at h
    · rename_i e es el hx ht
      obtain ⟨h0, he, hz, h⟩ := h
      have hx' := E x
      rw [hx] at hx'
      generalize hv : a.eval x = v at hx' run
      split at h
      · rename_i cs hcs
        cases hx' with
        | d hx' =>
          cases hx' with
          | ro _ _ A cap vs hc hel hA hv1 hd =>
            have hmem := List.mem_of_getElem? hcs
            have hlt : n.toNat < es.length := (List.getElem?_eq_some_iff.1 hcs).1
            obtain ⟨ad, rfl, hS⟩ := hA cs hmem
            refine OpOk.val (run _ (run_indexAt_sl (tyk_slice ht) hz h0 (by omega))) (Good.same hr h (.rop cs _ (vs n.toNat) (by rw [add_block]; exact hS) (fun j y hy => ?_) (fun j y hy => hd _ _ _ _ hcs hy)))
            grind [add_add]
      · exact h.elim
    · rename_i id i0 len tot el hx ht
      obtain ⟨h0, h1, h⟩ := h
      have hx' := E x
      rw [hx] at hx'
      generalize hv : a.eval x = v at hx' run
      split at h
      · rename_i b hb
        obtain ⟨htot, he, hz, h⟩ := h
        cases hx' with
        | own _ _ _ _ A cap hN hl hA0 h' =>
          obtain ⟨h2, h3⟩ := h' b hb
          obtain ⟨h4, _, h5⟩ := h3 htot
          obtain ⟨g, hg, rfl, _⟩ := h5 (by omega)
          refine OpOk.val (run _ (run_indexAt_sl (tyk_slice ht) hz h0 h1)) (Good.same hr h (.ptr _ _ _ _ _ hN fun b' hb' => ?_))
          simp_all [add_mk, Nat.add_zero, Nat.add_mul]
      · exact h.elim
    · rename_i id i off e len cap tot el hx ht
      obtain ⟨h0, h1, h⟩ := h
      have hx' := E x
      rw [hx] at hx'
      generalize hv : a.eval x = v at hx' run
      split at h
      · rename_i b hb
        obtain ⟨htot, he, hz, h⟩ := h
        cases hx' with
        | sub _ _ _ _ _ _ _ A hN hl hA0 h' =>
          obtain ⟨h2, h3⟩ := h' b hb
          obtain ⟨h4, h5, h6⟩ := h3 htot
          obtain ⟨g, hg, rfl⟩ := h6 (by omega)
          refine OpOk.val (run _ (run_indexAt_sl (tyk_slice ht) hz h0 h1)) (Good.same hr h (.ptr _ _ _ _ _ hN fun b' hb' => ?_))
          grind [add_mk, Nat.add_assoc]
      · exact h.elim
    · rename_i id i off tot len el hx ht
      obtain ⟨h0, h1, hz, h⟩ := h
      have hx' := E x
      rw [hx] at hx'
      generalize hv : a.eval x = v at hx' run
      cases hx' with
      | ptr _ _ _ _ ad hN h' =>
        refine OpOk.val (run _ (run_indexAt_arr (tyk_arr ht) hz h0 h1)) (Good.same hr h (.ptr _ _ _ _ _ hN fun b hb => ?_))
        grind [add_mk, Nat.add_assoc]
    · rename_i cs len el hx ht
      obtain ⟨h0, h1, hz, h⟩ := h
      have hx' := E x
      rw [hx] at hx'
      generalize hv : a.eval x = v at hx' run
      cases hx' with
      | rop _ ad vs hS h2 h3 =>
        refine OpOk.val (run _ (run_indexAt_arr (tyk_arr ht) hz h0 h1)) (Good.same hr h (.rop _ _ (fun j => vs (n.toNat * P.cellsOf el + j)) (by rw [add_block]; exact hS) (fun j y hy => ?_) (fun j y hy => ?_)))
        · grind [add_add]
        grind
    · exact h.elim
  · exact h.elim

/-- A block of one element is made of cells that are known. -/
theorem new_one (hr : Rel c hp U σ w) (hN : Free U N) {t : TypeId} {ccs : Array Value} {cs : List AV} (hl : cs.length = ccs.size)
    (h1 : ∀ (i : Nat) (x : Value), ccs[i]? = some x → x.oneCell' = true)
    (h2 : ∀ (i : Nat) (y : AV) (v : Value), cs[i]? = some y → ccs[i]? = some v → AIs w (Sof c w σ hp) σ hp U y v)
    (hK : K (.ptr N 0 0 1) ((N, ⟨t, cs.length, [cs]⟩) :: hp)) :
    Good c K hp U N σ w (.pointer (some ⟨w.heap.size, 0, none⟩)) (w.alloc (.cells ccs t)) := by
  obtain ⟨r1, r2⟩ := new_blk hr hN ccs ⟨t, cs.length, [cs]⟩ h1 (by simp) (by simp; omega) (by
    intro i j x y v a1 a2 a3
    cases i with
    | zero =>
      grind
    | succ i => simp at a1)
  refine ⟨_, _, _, hK, r1, r2, .ptr _ _ _ _ _ unite_N fun b hb => ?_⟩
  grind [lk_cons]

theorem one_of {v : AV} {x : Value} {S : Nat → Prop} (h : AIs w S σ hp U v x) (h1 : v ≠ .any) (h2 : ∀ vs, v ≠ .tup vs) (h3 : ∀ cs, v ≠ .agg cs) : x.oneCell' = true ∧ x.cells = #[x] := by
  cases h with
  | any => exact absurd rfl h1
  | tup cs xs _ _ => exact absurd rfl (h2 cs)
  | agg cs xs _ _ _ => exact absurd rfl (h3 cs)
  | d h => cases h <;> exact ⟨rfl, rfl⟩
  | own => exact ⟨rfl, rfl⟩
  | sub => exact ⟨rfl, rfl⟩
  | ptr => exact ⟨rfl, rfl⟩
  | rop => exact ⟨rfl, rfl⟩
  | fn => exact ⟨rfl, rfl⟩
  | mth => exact ⟨rfl, rfl⟩
  | nil => exact ⟨rfl, rfl⟩
  | mp => exact ⟨rfl, rfl⟩

theorem s_box (hr : Rel c hp U σ w) (E : ∀ x, AIs w (Sof c w σ hp) σ hp U (ev fr x) (a.eval x)) (hN : Free U N) {t : TypeId} {x : Operand} (hop : o.op = .box t x) (h : opW P fr hp N (.box t x) K) :
    OpOk P c K hp U N σ w ((execOp a.eval o).run P w) := by
  simp only [opW] at h
  have hrun : (execOp a.eval o).run P w = .ok (.value (.pointer (some ⟨w.heap.size, 0, none⟩))) (w.alloc (.cells (a.eval x).cells t)) := by
    simp [execOp, hop, Instr.box, newVar, newRow]
  rw [hrun]
  split at h
  · rename_i cs hx
    have hx' := E x
    rw [hx] at hx'
    generalize hv : a.eval x = v at hx'
    cases hx' with
    | agg _ xs hl h1 h2 => exact new_one hr hN hl h1 h2 h
  · exact h.elim
  · exact h.elim
  · rename_i v n1 n2 n3
    obtain ⟨h1, h2⟩ := one_of (E x) n2 n3 n1
    rw [h2]
    refine new_one (cs := [ev fr x]) hr hN rfl (fun i y hy => ?_) (fun i y z hy hz => ?_) h
    · grind
    grind

theorem s_store (hr : Rel c hp U σ w) (E : ∀ x, AIs w (Sof c w σ hp) σ hp U (ev fr x) (a.eval x)) {t : TypeId} {x v : Operand} (hop : o.op = .store t x v) (h : opW P fr hp N (.store t x v) K) :
    OpOk P c K hp U N σ w ((execOp a.eval o).run P w) := by
  simp only [opW] at h
  split at h
  · rename_i id i off tot hx
    have hx' := E x
    rw [hx] at hx'
    split at h
    · rename_i b hb
      split at h
      · rename_i row hrow
        obtain ⟨ht, h⟩ := h
        obtain ⟨g, ccs, hg, hxv, hheap, hone, hrl, hle, hcell⟩ := row_cells hr hx' hb hrow ht
        have hilt : i < b.es.length := (List.getElem?_eq_some_iff.1 hrow).1
        -- what storing cells does
        have go : ∀ (us : List Value) (cs : List AV), (a.eval v).cells = us.toArray → cs.length = us.length → us.length = P.cellsOf t → P.cellsOf t ≠ 0 → off + us.length ≤ row.length →
            (∀ u ∈ us, u.oneCell' = true) → (∀ (j : Nat) (y : AV) (u : Value), cs[j]? = some y → us[j]? = some u → AIs w (Sof c w σ hp) σ hp U y u) →
            K .any (setH id ⟨b.ty, b.e, b.es.set i (row.take off ++ (cs ++ row.drop (off + cs.length)))⟩ hp) → OpOk P c K hp U N σ w ((execOp a.eval o).run P w) := by
          intro us cs hcells hcl hul hz hfit h1 h2 hK
          have hsto := run_storeCells_at P g (i * b.e + off) b.ty us 0 ccs w hheap (by omega) h1
          have hrun : (execOp a.eval o).run P w = .ok .skip (w.setRow g (ccs.toList.take (i * b.e + off) ++ us ++ ccs.toList.drop (i * b.e + off + us.length)).toArray) := by
            simp only [Nat.add_zero] at hsto
            simp [execOp, hop, hxv, Instr.storeAt, Instr.sureAddr, storeVar, hcells, run_sizeOf_ne hz, hul, hsto]
          rw [hrun]
          have hnl : (row.take off ++ (cs ++ row.drop (off + cs.length))).length = b.e := by simp; omega
          have hnth : ∀ m, (ccs.toList.take (i * b.e + off) ++ us ++ ccs.toList.drop (i * b.e + off + us.length)).toArray[m]? =
              if m < i * b.e + off then ccs[m]? else if m < i * b.e + off + us.length then us[m - (i * b.e + off)]? else ccs[m]? := by
            intro m
            simp only [List.getElem?_toArray, List.append_assoc]
            rw [List.getElem?_append]
            have hlt : (ccs.toList.take (i * b.e + off)).length = i * b.e + off := by simp; omega
            rw [hlt]
            by_cases hm : m < i * b.e + off
            · simp [hm]
            · rw [if_neg hm, if_neg hm, List.getElem?_append]
              by_cases hm2 : m < i * b.e + off + us.length
              · rw [if_pos (by omega), if_pos hm2]
              · rw [if_neg (by omega), if_neg hm2, List.getElem?_drop, Array.getElem?_toList]
                congr 1
                omega
          have hrowth : ∀ m, (row.take off ++ (cs ++ row.drop (off + cs.length)))[m]? = if m < off then row[m]? else if m < off + cs.length then cs[m - off]? else row[m]? := by
            intro m
            rw [List.getElem?_append]
            have hlt : (row.take off).length = off := by simp; omega
            rw [hlt]
            by_cases hm : m < off
            · simp [hm]
            · rw [if_neg hm, if_neg hm, List.getElem?_append]
              by_cases hm2 : m < off + cs.length
              · grind
              · rw [if_neg (by omega), if_neg hm2, List.getElem?_drop]
                congr 1
                omega
          obtain ⟨r1, r2⟩ := set_blk hr (b' := ⟨b.ty, b.e, b.es.set i (row.take off ++ (cs ++ row.drop (off + cs.length)))⟩) hb hg rfl rfl (by simp) ccs (ccs.toList.take (i * b.e + off) ++ us ++ ccs.toList.drop (i * b.e + off + us.length)).toArray hheap (by simp; omega)
            (fun m y hy => by
              rw [hnth] at hy
              split at hy
              · exact hone m y hy
              · split at hy
                · grind
                · exact hone m y hy)
            (fun y hy => by
              rcases List.mem_or_eq_of_mem_set hy with h' | rfl
              · obtain ⟨_, _, _, h3, _⟩ := hr.at hb hg
                exact h3 y h'
              · exact hnl)
            (fun k j r y u a1 a2 a3 => by
              obtain ⟨cc, k1, _, k3, k4, k5⟩ := hr.at hb hg
              rw [hheap] at k1
              injection k1 with k1
              injection k1 with k1
              subst k1
              rw [hnth] at a3
              simp only [List.getElem?_set] at a1
              by_cases hk : i = k
              · subst hk
                simp only [if_true, hilt] at a1
                injection a1 with a1
                subst a1
                rw [hrowth] at a2
                by_cases q1 : j < off
                · grind
                · rw [if_neg q1] at a2
                  rw [if_neg (by omega)] at a3
                  by_cases q2 : j < off + cs.length
                  · grind
                  grind
              · rw [if_neg hk] at a1
                have hj : j < b.e := by
                  grind
                have hout : ¬ (i * b.e ≤ k * b.e + j ∧ k * b.e + j < i * b.e + b.e) := by
                  rintro ⟨p1, p2⟩
                  rcases Nat.lt_or_gt_of_ne hk with h' | h'
                  · have : (i + 1) * b.e ≤ k * b.e := Nat.mul_le_mul_right _ (by omega)
                    grind
                  · have : (k + 1) * b.e ≤ i * b.e := Nat.mul_le_mul_right _ (by omega)
                    grind
                have a3' : ccs[k * b.e + j]? = some u := by
                  grind
                exact k5 k j r y u a1 a2 a3')
          exact ⟨.any, _, σ, hK, r1.more, r2.trans Step.more, .any _⟩
        split at h
        · rename_i cs hv
          obtain ⟨h1, hz, h2, h3⟩ := h
          have hv' := E v
          rw [hv] at hv'
          generalize hvv : a.eval v = vv at hv' go
          cases hv' with
          | agg _ xs hl h4 h5 =>
            exact go xs.toList cs (by simp [Value.cells]) (by simpa using hl) (by simp; omega) hz (by simp; omega) (fun u hu => by
                obtain ⟨j, hj⟩ := List.getElem?_of_mem hu
                exact h4 j u (by simpa using hj)) (fun j y u hy hu => h5 j y u hy (by simpa using hu)) h3
        · exact h.elim
        · exact h.elim
        · rename_i u n1 n2 n3
          obtain ⟨h1, h2, h3⟩ := h
          obtain ⟨h4, h5⟩ := one_of (E v) n2 n3 n1
          refine go [a.eval v] [ev fr v] h5 rfl (by simp [h1]) (by omega) (by simp; omega) (by simpa using h4) (fun j y u hy hu => ?_) ?_
          · grind
          grind [List.set_eq_take_append_cons_drop]
      · exact h.elim
    · exact h.elim
  · exact h.elim

theorem s_len (hr : Rel c hp U σ w) (E : ∀ x, AIs w (Sof c w σ hp) σ hp U (ev fr x) (a.eval x)) {t : TypeId} {x : Operand} {cl : Call} (hop : o.op = .call cl) (hc : cl.callee = .builtin .len) (ha : cl.args.toList = [x]) (ht : cl.argTypes.toList = [t])
    (h : biW P fr hp N .len [x] [t] K) : OpOk P c K hp U N σ w ((execOp a.eval o).run P w) := by
  simp only [biW] at h
  have ha' : cl.args = #[x] := by rw [← Array.toArray_toList (xs := cl.args), ha]
  have ht' : cl.argTypes = #[t] := by rw [← Array.toArray_toList (xs := cl.argTypes), ht]
  have run : ∀ n : Nat, (Builtin.len_ #[t] o.type #[a.eval x]).run P w = .ok (goInt n) w → (execOp a.eval o).run P w = .ok (.value (.int .i64 n)) w := by
    intro n hn
    simp [execOp, hop, resolve, hc, ha', ht', invoke, builtin, hn, goInt]
  split at h
  · rename_i bs hx ht
    have hx' := E x
    rw [hx] at hx'
    generalize hv : a.eval x = v at hx' run
    cases hx' with
    | d hx' =>
      cases hx' with
      | str s =>
        refine OpOk.val (run s.size ?_) (Good.same hr h (by simpa using .d (.int _ _)))
        simp [Builtin.len_, run_underlying (tyk_str ht)]
  · refine OpOk.val (run _ ?_) (Good.same hr h (.d (.int _ _)))
    simp [Builtin.len_, run_underlying (tyk_arr ‹tyk P t = .arr _ _›)]
  · have hts := tyk_slice ‹tyk P t = .slice _›
    split at h
    · rename_i n hn
      have hx' := E x
      generalize hv : a.eval x = v at hx' run
      generalize ev fr x = u at hx' hn
      have fin : ∀ A len cap, v = .slice A len cap → len = n → OpOk P c K hp U N σ w ((execOp a.eval o).run P w) := by
        intro A len cap hv' hlen
        subst hlen
        refine OpOk.val (run len ?_) (Good.same hr h (.d (.int _ _)))
        rw [hv']
        simp [Builtin.len_, run_underlying hts]
      cases u <;> simp [AV.slen] at hn
      case d dv =>
        cases hx' with
        | d hx' => cases dv <;> simp at hn <;> cases hx' <;> exact fin _ _ _ rfl hn
      case own => cases hx' with | own => exact fin _ _ _ rfl hn
      case nil => cases hx' with | nil => exact fin _ _ _ rfl hn
      case sub => cases hx' with | sub => exact fin _ _ _ rfl hn
    · exact h.elim
  · exact h.elim

theorem run_callFunc {g : FuncId} {fn : Func} (h1 : P.funcs[g]? = some fn) (h2 : (fn.name == "runtime.NumGoroutine") = false) (h3 : fn.body.isNone = false) (args : Array Value) : (callFunc g args).run P w = .ok (.enter g args) w := by
  unfold callFunc
  simp only [Sem.run_bind, run_program, Result.andThen_ok, h1, h2, h3, Bool.false_eq_true, if_false, Sem.run_pure]

theorem s_call (hr : Rel c hp U σ w) (E : ∀ x, AIs w (Sof c w σ hp) σ hp U (ev fr x) (a.eval x)) (hN : Free U N) {cl : Call} {f : Operand} (hop : o.op = .call cl) (hc : cl.callee = .value f) {g : FuncId} {caps : List AV} (hf : ev fr f = .fn g caps)
    (h : CallsA P g (cl.args.toList.map (ev fr) ++ caps) hp N K ∨ ExtW P g (cl.args.toList.map (ev fr) ++ caps) hp K) : OpOk P c K hp U N σ w ((execOp a.eval o).run P w) := by
  have hf' := E f
  rw [hf] at hf'
  generalize hv : a.eval f = v at hf'
  cases hf' with
  | fn _ _ xs hl hx =>
    have hargs : ∀ (i : Nat) (u : AV) (x : Value), (cl.args.toList.map (ev fr) ++ caps)[i]? = some u → ((cl.args.map a.eval).toList ++ xs.toList)[i]? = some x → AIs w (Sof c w σ hp) σ hp U u x := ?_
    · rcases h with h | h
      · obtain ⟨⟨fn, h1, h2, h3⟩, h⟩ := h
        have hrun : (execOp a.eval o).run P w = .ok (.enter g ((cl.args.map a.eval).toList ++ xs.toList).toArray) w := by
          simp [execOp, hop, resolve, hc, hv, Deferred.ofValue, invoke, run_callFunc h1 h2 h3]
        rw [hrun]
        exact ⟨rfl, h c U σ w _ hr hN (by simp [hl]) hargs⟩
      · obtain ⟨r, h1, h2⟩ := h
        obtain ⟨y, hy, hy2⟩ := h1 w (Sof c w σ hp) σ hp U _ (by simp [hl]) hargs
        refine OpOk.val (x := y) ?_ (Good.same hr h2 hy2)
        simp [execOp, hop, resolve, hc, hv, Deferred.ofValue, invoke]
        rw [← hy]
        congr 2
        simp
    grind

theorem s_callm (hr : Rel c hp U σ w) (E : ∀ x, AIs w (Sof c w σ hp) σ hp U (ev fr x) (a.eval x)) (hN : Free U N) {cl : Call} {f : Operand} (hop : o.op = .call cl) (hc : cl.callee = .value f) {g : FuncId} {caps : List AV} (hf : ev fr f = .mth g caps)
    (h : CallsA P g (caps ++ cl.args.toList.map (ev fr)) hp N K ∨ ExtW P g (caps ++ cl.args.toList.map (ev fr)) hp K) : OpOk P c K hp U N σ w ((execOp a.eval o).run P w) := by
  have hf' := E f
  rw [hf] at hf'
  generalize hv : a.eval f = v at hf'
  cases hf' with
  | mth _ _ xs hl hx =>
    have hargs : ∀ (i : Nat) (u : AV) (x : Value), (caps ++ cl.args.toList.map (ev fr))[i]? = some u → (xs.toList ++ (cl.args.map a.eval).toList)[i]? = some x → AIs w (Sof c w σ hp) σ hp U u x := ?_
    · rcases h with h | h
      · obtain ⟨⟨fn, h1, h2, h3⟩, h⟩ := h
        have hrun : (execOp a.eval o).run P w = .ok (.enter g (xs.toList ++ (cl.args.map a.eval).toList).toArray) w := by
          simp [execOp, hop, resolve, hc, hv, Deferred.ofValue, invoke, run_callFunc h1 h2 h3]
        rw [hrun]
        exact ⟨rfl, h c U σ w _ hr hN (by simp [hl]) hargs⟩
      · obtain ⟨r, h1, h2⟩ := h
        obtain ⟨y, hy, hy2⟩ := h1 w (Sof c w σ hp) σ hp U _ (by simp [hl]) hargs
        refine OpOk.val (x := y) ?_ (Good.same hr h2 hy2)
        simp [execOp, hop, resolve, hc, hv, Deferred.ofValue, invoke]
        rw [← hy]
        congr 2
        simp
    grind

end
end Go.Am
