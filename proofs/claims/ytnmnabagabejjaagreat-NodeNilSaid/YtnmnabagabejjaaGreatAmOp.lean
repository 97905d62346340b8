/-
  AM, part 5: each operation of the model, by its abstract one.
-/
import Derived.Test.YtnmnabagabejjaaGreatAmEqs
import Derived.ChangeKeysEq
namespace Go.Am
set_option linter.unusedVariables false

section
variable {P : Program} {c : Ctx} {K : AV → Hp → Prop} {fr : Fr} {hp : Hp} {U : Nat → Prop} {N : Nat} {σ : Nat → Option Nat} {w : World} {a : Act} {o : Oper}

theorem s_move (hr : Rel c hp U σ w) (E : ∀ x, AIs w (Sof c w σ hp) σ hp U (ev fr x) (a.eval x)) {x : Operand} (hop : o.op = .move x ∨ o.op = .assign x) (hK : K (ev fr x) hp) :
    OpOk P c K hp U N σ w ((execOp a.eval o).run P w) := by
  rcases hop with hop | hop <;> exact OpOk.val (by simp [execOp, hop]) (Good.same hr hK (E x))

theorem s_pick (hr : Rel c hp U σ w) (E : ∀ x, AIs w (Sof c w σ hp) σ hp U (ev fr x) (a.eval x)) {x y z : Operand} (hop : o.op = .pick x y z) (h : opW P fr hp N (.pick x y z) K) :
    OpOk P c K hp U N σ w ((execOp a.eval o).run P w) := by
  simp only [opW] at h
  split at h
  · rename_i t ht
    have h1 := is_bool (ht ▸ E x)
    have hrun : (execOp a.eval o).run P w = .ok (.value (if t then a.eval y else a.eval z)) w := by
      simp [execOp, hop, h1, asBool]
    grind [is_bool, OpOk.val, Good.same]
  · exact h.elim

theorem is_str {bs : List Int} {v : Value} {S : Nat → Prop} (h : AIs w S σ hp U (.d (.str bs)) v) : ∃ s : ByteArray, v = .string s ∧ bs = s.data.toList.map fun c => (c.toNat : Int) := by
  cases h with | d h => cases h; exact ⟨_, rfl, rfl⟩

theorem bytes_inj {x y : ByteArray} : (x.toList == y.toList) = decide ((x.data.toList.map fun c => (c.toNat : Int)) = y.data.toList.map fun c => (c.toNat : Int)) := by
  rw [ByteArray.toList_eq, ByteArray.toList_eq]
  rw [Bool.eq_iff_iff]
  simp only [beq_iff_eq, decide_eq_true_eq]
  constructor
  · intro h; rw [h]
  · intro h
    have inj : ∀ a b : UInt8, ((a.toNat : Int) = (b.toNat : Int)) → a = b := fun a b h => UInt8.toNat_inj.1 (by omega)
    exact (List.map_inj_right inj).1 h

/-- A slice against nil. -/
theorem run_equalIn_nil (d : Nat) {t e : TypeId} (hu : P.underlying t = some (.slice e)) (A : Option Addr) (n k : Nat) : (Op.equalIn (d + 1) t (.slice A n k) (.slice none 0 0)).run P w = .ok A.isNone w := by
  rw [Op.equalIn, Sem.run_bind, run_underlying hu]
  cases A <;> rfl

theorem run_binOp_nil {op : BinOp} {t e : TypeId} (hu : P.underlying t = some (.slice e)) (A : Option Addr) (n k : Nat) (hop : op = .eql ∨ op = .neq) :
    (binOp op t (.slice A n k) (.slice none 0 0)).run P w = .ok (.bool (if op = .eql then A.isNone else !A.isNone)) w := by
  have he : (Op.equal t (.slice A n k) (.slice none 0 0)).run P w = .ok A.isNone w := run_equalIn_nil 9999 hu A n k
  rcases hop with rfl | rfl
  · simp only [binOp, Sem.run_bind, he, Result.andThen_ok, Sem.run_pure, if_true]
  · simp only [binOp, Sem.run_bind, he, Result.andThen_ok, Sem.run_pure]
    rfl

theorem slen_is {v : AV} {x : Value} {n : Nat} {S : Nat → Prop} (h : AIs w S σ hp U v x) (hv : v.slen = some n) : ∃ A k, x = .slice A n k ∧ (A = none → n = 0) := by
  cases h <;> simp [AV.slen] at hv
  case d h =>
    rename_i d
    cases h <;> simp at hv
    case ro e es A c vs hc he hA hv1 hd =>
      subst hv
      refine ⟨A, c, rfl, fun hA0 => ?_⟩
      rcases es with _ | ⟨y, es⟩
      · rfl
      · obtain ⟨ad, h1, _⟩ := hA y (by simp)
        grind
    case rof e es A vs he hA hv1 hd =>
      subst hv
      refine ⟨A, _, rfl, fun hA0 => ?_⟩
      rcases es with _ | ⟨y, es⟩
      · rfl
      · obtain ⟨ad, h1, _⟩ := hA y (by simp)
        grind
  case own A cap hN hl h0 h => subst hv; exact ⟨A, cap, rfl, h0⟩
  case sub A hN hl h0 h => subst hv; exact ⟨A, _, rfl, h0⟩
  case nil => subst hv; exact ⟨none, 0, rfl, fun _ => rfl⟩

theorem run_equalIn_bool (d : Nat) {t : TypeId} (hu : P.underlying t = some .bool) (p q : Bool) : (Op.equalIn (d + 1) t (.bool p) (.bool q)).run P w = .ok (p == q) w := by
  rw [Op.equalIn, Sem.run_bind, run_underlying hu]
  rfl

theorem run_binOp_bool {op : BinOp} {t : TypeId} (hu : P.underlying t = some .bool) (p q : Bool) (hop : op = .eql ∨ op = .neq) :
    (binOp op t (.bool p) (.bool q)).run P w = .ok (.bool (if op = .eql then p == q else p != q)) w := by
  have he : (Op.equal t (.bool p) (.bool q)).run P w = .ok (p == q) w := run_equalIn_bool 9999 hu p q
  rcases hop with rfl | rfl
  · simp only [binOp, Sem.run_bind, he, Result.andThen_ok, Sem.run_pure, if_true]
  · simp only [binOp, Sem.run_bind, he, Result.andThen_ok, Sem.run_pure]
    rfl

theorem less_map : ∀ (x y : List UInt8), Op.bytesLess x y = strLess (x.map fun c => (c.toNat : Int)) (y.map fun c => (c.toNat : Int))
  | _, [] => by simp [Op.bytesLess, strLess]
  | [], _ :: _ => by simp [Op.bytesLess, strLess]
  | a :: x, b :: y => by
    have h1 : (a == b) = decide ((a.toNat : Int) = (b.toNat : Int)) := by
      by_cases h : a = b
      · subst h; simp
      · have : ¬ ((a.toNat : Int) = (b.toNat : Int)) := fun e => h (UInt8.toNat_inj.1 (by omega))
        simp [h, this]
    have h2 : decide (a < b) = decide ((a.toNat : Int) < (b.toNat : Int)) := by
      congr 1
      rw [UInt8.lt_iff_toNat_lt]
      exact propext (by omega)
    simp only [Op.bytesLess, List.map_cons, strLess, less_map x y, h1, h2]
theorem bytesLess_str (x y : ByteArray) : Op.bytesLess x.toList y.toList = strLess (x.data.toList.map fun c => (c.toNat : Int)) (y.data.toList.map fun c => (c.toNat : Int)) := by
  rw [less_map, ByteArray.toList_eq, ByteArray.toList_eq]

theorem s_bin0 (hr : Rel c hp U σ w) (E : ∀ x, AIs w (Sof c w σ hp) σ hp U (ev fr x) (a.eval x)) {op : BinOp} {t t' : TypeId} {x y : Operand} (hop : o.op = .binOp op t x y t') (h : binW0 P op t (ev fr x) (ev fr y) K hp) :
    OpOk P c K hp U N σ w ((execOp a.eval o).run P w) := by
  simp only [binW0] at h
  split at h
  · rename_i k p k' q hx hy
    have h1 := is_int (hx ▸ E x)
    have h2 := is_int (hy ▸ E y)
    have guard : ∀ v w', (binOp op t (.int k p) (.int k' q)).run P w = .ok v w' → (execOp a.eval o).run P w = .ok (.value v) w' := by
      intro v w' hv
      have hg : (eqGuard op t x y (.int k p) (.int k' q)).run P w = .ok () w := by
        unfold eqGuard
        cases op <;> rfl
      simp only [execOp, hop, h1, h2, Sem.run_bind, hg, hv, Result.andThen_ok, Sem.run_pure]
    obtain ⟨hk, h⟩ := h
    obtain ⟨d, v, hK, hv, hd⟩ := run_ibin (P := P) (w := w) (S := Sof c w σ hp) op k k' p q h hk t
    exact OpOk.val (guard v w hv) (Good.same hr hK (.d hd))
  · rename_i p q hx hy
    have h1 := is_bool (hx ▸ E x)
    have h2 := is_bool (hy ▸ E y)
    have hg : (eqGuard op t x y (.bool p) (.bool q)).run P w = .ok () w := by
      unfold eqGuard
      cases op <;> rfl
    split at h
    · obtain ⟨hu, h⟩ := h
      refine OpOk.val (x := .bool (p == q)) ?_ (Good.same hr h (.d (.bool _)))
      simp only [execOp, hop, h1, h2, Sem.run_bind, hg, run_binOp_bool hu p q (.inl rfl), Result.andThen_ok, Sem.run_pure, if_true]
    · obtain ⟨hu, h⟩ := h
      refine OpOk.val (x := .bool (p != q)) ?_ (Good.same hr h (.d (.bool _)))
      simp only [execOp, hop, h1, h2, Sem.run_bind, hg, run_binOp_bool hu p q (.inr rfl), Result.andThen_ok, Sem.run_pure]
      rfl
    · exact h.elim
  · rename_i p q hx hy
    obtain ⟨s1, h1, e1⟩ := is_str (hx ▸ E x)
    obtain ⟨s2, h2, e2⟩ := is_str (hy ▸ E y)
    have hg : (eqGuard op t x y (.string s1) (.string s2)).run P w = .ok () w := by
      unfold eqGuard
      cases op <;> rfl
    split at h
    · refine OpOk.val (x := .bool (decide (p = q))) ?_ (Good.same hr h (.d (.bool _)))
      simp only [execOp, hop, h1, h2, Sem.run_bind, hg, binOp, Op.stringOp, Result.andThen_ok, Sem.run_pure, bytes_inj, e1, e2]
    · refine OpOk.val (x := .bool (!decide (p = q))) ?_ (Good.same hr h (.d (.bool _)))
      simp only [execOp, hop, h1, h2, Sem.run_bind, hg, binOp, Op.stringOp, Result.andThen_ok, Sem.run_pure, bytes_inj, e1, e2]
    · refine OpOk.val (x := .bool (strLess p q)) ?_ (Good.same hr h (.d (.bool _)))
      simp only [execOp, hop, h1, h2, Sem.run_bind, hg, binOp, Op.stringOp, Result.andThen_ok, Sem.run_pure, bytesLess_str, e1, e2]
    · refine OpOk.val (x := .bool (strLess p q || decide (p = q))) ?_ (Good.same hr h (.d (.bool _)))
      simp only [execOp, hop, h1, h2, Sem.run_bind, hg, binOp, Op.stringOp, Result.andThen_ok, Sem.run_pure, bytes_inj, bytesLess_str, e1, e2]
    · refine OpOk.val (x := .bool (!(strLess p q || decide (p = q)))) ?_ (Good.same hr h (.d (.bool _)))
      simp only [execOp, hop, h1, h2, Sem.run_bind, hg, binOp, Op.stringOp, Result.andThen_ok, Sem.run_pure, bytes_inj, bytesLess_str, e1, e2]
    · refine OpOk.val (x := .bool (!strLess p q)) ?_ (Good.same hr h (.d (.bool _)))
      simp only [execOp, hop, h1, h2, Sem.run_bind, hg, binOp, Op.stringOp, Result.andThen_ok, Sem.run_pure, bytesLess_str, e1, e2]
    · obtain ⟨hl, h⟩ := h
      have hsz : ¬ (((s1.size + s2.size : Nat) : Int) > IntKind.i64.max) := by
        have a1 : s1.size = p.length := by rw [e1, List.length_map]; rfl
        have a2 : s2.size = q.length := by rw [e2, List.length_map]; rfl
        have : IntKind.i64.max = 9223372036854775807 := by decide
        omega
      refine OpOk.val (x := .string (s1 ++ s2)) ?_ (Good.same hr h ?_)
      · simp only [execOp, hop, h1, h2, Sem.run_bind, hg, binOp, Op.stringOp, if_neg hsz, Result.andThen_ok, Sem.run_pure]
      · have : p ++ q = ((s1 ++ s2).data.toList.map fun c => (c.toNat : Int)) := by
          simp_all
        rw [this]
        exact .d (.str _)
    · exact h.elim
  · rename_i hy
    have hy' := E y
    rw [hy] at hy'
    generalize hvy : a.eval y = vy at hy'
    cases hy' with
    | nil =>
      have hx' := E x
      generalize hvx : a.eval x = vx at hx'
      have go : ∀ A n k e, vx = .slice A n k → P.underlying t = some (.slice e) → (op = .eql ∨ op = .neq) → (execOp a.eval o).run P w = .ok (.value (.bool (if op = .eql then A.isNone else !A.isNone))) w := by
        intro A n k e hv hu hopp
        have hg : (eqGuard op t x y (.slice A n k) (.slice none 0 0)).run P w = .ok () w := by
          unfold eqGuard
          cases op <;> rfl
        simp only [execOp, hop, hvx, hvy, hv, Sem.run_bind, hg, run_binOp_nil hu A n k hopp, Result.andThen_ok, Sem.run_pure]
      split at h
      · rename_i e hxx ht
        rw [hxx] at hx'
        cases hx' with
        | nil => exact OpOk.val (go none 0 0 _ rfl (tyk_slice ht) (.inl rfl)) (Good.same hr h (.d (.bool _)))
      · rename_i e hxx ht
        rw [hxx] at hx'
        cases hx' with
        | nil => exact OpOk.val (go none 0 0 _ rfl (tyk_slice ht) (.inr rfl)) (Good.same hr h (.d (.bool _)))
      · split at h
        · rename_i n hn
          obtain ⟨A, k, rfl, hA⟩ := slen_is hx' hn
          refine OpOk.val (go A n k _ rfl (tyk_slice ‹tyk P t = .slice _›) (.inl rfl)) (Good.same hr (h A.isNone fun hb => hA (by simpa using hb)) (.d (.bool _)))
        · exact h.elim
      · split at h
        · rename_i n hn
          obtain ⟨A, k, rfl, hA⟩ := slen_is hx' hn
          refine OpOk.val (go A n k _ rfl (tyk_slice ‹tyk P t = .slice _›) (.inr rfl)) (Good.same hr (h (!A.isNone) fun hb => hA (by simpa using hb)) (.d (.bool _)))
        · exact h.elim
      · exact h.elim
  · exact h.elim

theorem s_un (hr : Rel c hp U σ w) (E : ∀ x, AIs w (Sof c w σ hp) σ hp U (ev fr x) (a.eval x)) {op : UnOp} {t : TypeId} {x : Operand} (hop : o.op = .unOp op t x) (h : opW P fr hp N (.unOp op t x) K) :
    OpOk P c K hp U N σ w ((execOp a.eval o).run P w) := by
  cases op
  case neg =>
    simp only [opW] at h
    split at h
    · rename_i k n hx
      refine OpOk.val ?_ (Good.same hr h (.d (.int _ _)))
      simp [execOp, hop, is_int (hx ▸ E x), Op.unary, Op.intArith]
    · exact h.elim
  case not =>
    simp only [opW] at h
    split at h
    · rename_i b hx
      refine OpOk.val ?_ (Good.same hr h (.d (.bool _)))
      simp [execOp, hop, is_bool (hx ▸ E x), Op.unary]
    · exact h.elim
  case xor =>
    simp only [opW] at h
    split at h
    · rename_i k n hx
      refine OpOk.val ?_ (Good.same hr h (.d (.int _ _)))
      simp [execOp, hop, is_int (hx ▸ E x), Op.unary, intBits_xor]
    · exact h.elim
  case plus => exact h.elim

theorem s_nilCheck (hr : Rel c hp U σ w) (E : ∀ x, AIs w (Sof c w σ hp) σ hp U (ev fr x) (a.eval x)) {x : Operand} (hop : o.op = .nilCheck x) (h : opW P fr hp N (.nilCheck x) K) :
    OpOk P c K hp U N σ w ((execOp a.eval o).run P w) := by
  simp only [opW] at h
  split at h
  · rename_i id i off tot hx
    have hx' := E x
    rw [hx] at hx'
    generalize hv : a.eval x = v at hx'
    have hx2 := hx'
    cases hx' with
    | ptr _ _ _ _ ad hN h' =>
      exact OpOk.val (by simp [execOp, hop, hv]) (Good.same hr h hx2)
  · rename_i cs hx
    have hx' := E x
    rw [hx] at hx'
    generalize hv : a.eval x = v at hx'
    have hx2 := hx'
    cases hx' with
    | rop _ ad vs hS h1 h2 =>
      exact OpOk.val (by simp [execOp, hop, hv]) (Good.same hr h hx2)
  · rename_i f cs hx
    have hx' := E x
    rw [hx] at hx'
    generalize hv : a.eval x = v at hx'
    have hx2 := hx'
    cases hx' with
    | fn _ _ xs hl h1 =>
      exact OpOk.val (by simp [execOp, hop, hv]) (Good.same hr h hx2)
  · rename_i f cs hx
    have hx' := E x
    rw [hx] at hx'
    generalize hv : a.eval x = v at hx'
    have hx2 := hx'
    cases hx' with
    | mth _ _ xs hl h1 =>
      exact OpOk.val (by simp [execOp, hop, hv]) (Good.same hr h hx2)
  · exact h.elim

theorem s_extract (hr : Rel c hp U σ w) (E : ∀ x, AIs w (Sof c w σ hp) σ hp U (ev fr x) (a.eval x)) {x : Operand} {i : Nat} (hop : o.op = .extract x i) (h : opW P fr hp N (.extract x i) K) :
    OpOk P c K hp U N σ w ((execOp a.eval o).run P w) := by
  simp only [opW] at h
  split at h
  · rename_i vs hx
    have hx' := E x
    rw [hx] at hx'
    generalize hv : a.eval x = v at hx'
    split at h
    · rename_i u hu
      cases hx' with
      | tup _ xs hl h1 =>
        have hi : i < vs.length := (List.getElem?_eq_some_iff.1 hu).1
        have hxi : xs[i]? = some (xs[i]'(by omega)) := Array.getElem?_eq_getElem (by omega)
        refine OpOk.val (x := xs[i]'(by omega)) ?_ (Good.same hr h (h1 i u _ hu hxi))
        simp only [execOp, hop, hv, Instr.extract, hxi, Sem.run_bind, Sem.run_pure, Result.andThen_ok]
    · exact h.elim
  · exact h.elim

theorem push_fold (ns : List Int) (h : ∀ b, b ∈ ns → 0 ≤ b ∧ b < 256) : ∀ s : ByteArray, ((ns.foldl (fun r n => r.push (UInt8.ofNat n.toNat)) s).data.toList.map fun c => (c.toNat : Int)) = (s.data.toList.map fun c => (c.toNat : Int)) ++ ns := by
  induction ns with
  | nil => intro s; simp
  | cons n r ih =>
    intro s
    simp only [List.foldl_cons]
    rw [ih (fun b hb => h b (List.mem_cons_of_mem _ hb))]
    obtain ⟨h1, h2⟩ := h n (List.mem_cons_self ..)
    have e : (s.push (UInt8.ofNat n.toNat)).data.toList = s.data.toList ++ [UInt8.ofNat n.toNat] := by
      simp_all
    have e2 : ((UInt8.ofNat n.toNat).toNat : Int) = n := by
      rw [UInt8.toNat_ofNat']
      omega
    grind

theorem run_items {el : TypeId} {k : IntKind} (hz : P.cellsOf el = 1) (hu : P.underlying el = some (.int k)) (us vs : List Int) (xs ys : Array Value) (d : Nat) (hx : ∀ (i : Nat) (m : Int), us[i]? = some m → xs[i]? = some (.int k m)) (hy : ∀ (i : Nat) (m : Int), vs[i]? = some m → ys[i]? = some (.int k m)) :
    ∀ (n i : Nat), i + n ≤ us.length → i + n ≤ vs.length → (Op.eqItems (d + 1) el (P.cellsOf el) xs ys (List.range' i n)).run P w = .ok (decide ((us.drop i).take n = (vs.drop i).take n)) w
  | 0, i, _, _ => by simp [Op.eqItems]
  | n + 1, i, h1, h2 => by
    have ih := run_items hz hu us vs xs ys d hx hy n (i + 1) (by omega) (by omega)
    have a1 : us[i]? = some us[i] := List.getElem?_eq_getElem (by omega)
    have a2 : vs[i]? = some vs[i] := List.getElem?_eq_getElem (by omega)
    have p1 : (part el xs (i * P.cellsOf el)).run P w = .ok (.int k us[i]) w := by
      simp [part, run_isAgg_u hu, isA, hz, hx i _ a1]
    have p2 : (part el ys (i * P.cellsOf el)).run P w = .ok (.int k vs[i]) w := by
      simp [part, run_isAgg_u hu, isA, hz, hy i _ a2]
    have e1 : us.drop i = us[i] :: us.drop (i + 1) := List.drop_eq_getElem_cons (by omega)
    have e2 : vs.drop i = vs[i] :: vs.drop (i + 1) := List.drop_eq_getElem_cons (by omega)
    rw [List.range'_succ]
    simp only [Op.eqItems, Sem.run_bind, p1, p2, Result.andThen_ok, run_equalIn_int w d el k k us[i] vs[i] hu]
    rw [e1, e2]
    simp only [List.take_succ_cons, List.cons.injEq]
    by_cases he : us[i] = vs[i]
    · simp [he, ih]
    · simp [he]

theorem ints_is {k : IntKind} : ∀ {cs : List AV} {us : List Int}, intsOf k cs = some us → cs.length = us.length ∧ ∀ (i : Nat) (m : Int), us[i]? = some m → cs[i]? = some (.d (.int k m))
  | [], us, h => by simp [intsOf] at h; subst h; simp
  | a :: r, us, h => by
    match a, h with
    | .d (.int k' n), h =>
      simp only [intsOf] at h
      split at h
      · rename_i hk
        subst hk
        cases hr : intsOf k' r with
        | none => rw [hr] at h; simp at h
        | some vs =>
          rw [hr] at h
          simp only [Option.map_some, Option.some.injEq] at h
          subst h
          obtain ⟨h1, h2⟩ := ints_is hr
          refine ⟨by simp [h1], fun i m hi => ?_⟩
          cases i with
          | zero => simp at hi; subst hi; rfl
          | succ i => simpa using h2 i m (by simpa using hi)
      · cases h
    | .any, h => simp [intsOf] at h
    | .agg _, h => simp [intsOf] at h
    | .tup _, h => simp [intsOf] at h
    | .own .., h => simp [intsOf] at h
    | .sub .., h => simp [intsOf] at h
    | .ptr .., h => simp [intsOf] at h
    | .rop _, h => simp [intsOf] at h
    | .fn .., h => simp [intsOf] at h
    | .mth .., h => simp [intsOf] at h
    | .nil, h => simp [intsOf] at h
    | .d (.bool _), h => simp [intsOf] at h
    | .d (.str _), h => simp [intsOf] at h
    | .d (.ro ..), h => simp [intsOf] at h
    | .d (.rof ..), h => simp [intsOf] at h
    | .d (.box _), h => simp [intsOf] at h
    | .d .nilp, h => simp [intsOf] at h
    | .d .nilf, h => simp [intsOf] at h

theorem isPtr_u {t : TypeId} (h : isPtr P t = true) : P.underlying t = some (.pointer (P.pointee t)) := by
  unfold isPtr at h
  unfold Program.pointee
  grind

theorem lits_is {w : World} {S : Nat → Prop} {σ : Nat → Option Nat} {hp : Hp} {U : Nat → Prop} : ∀ {cs : List AV} {us : List L1} {xs : Array Value}, litsOf cs = some us → cs.length = xs.size → (∀ (i : Nat) (c : AV) (x : Value), cs[i]? = some c → xs[i]? = some x → AIs w S σ hp U c x) → xs = (us.map L1.v).toArray := by
  have go : ∀ (cs : List AV) (us : List L1) (xs : List Value), litsOf cs = some us → cs.length = xs.length → (∀ (i : Nat) (c : AV) (x : Value), cs[i]? = some c → xs[i]? = some x → AIs w S σ hp U c x) → xs = us.map L1.v := by
    intro cs
    induction cs with
    | nil =>
      grind [litsOf, Option.some.injEq]
    | cons c r ih =>
      intro us xs h hl hA
      match xs, hl with
      | x :: xr, hl =>
        have hx := hA 0 c x rfl rfl
        have hr := fun (i : Nat) (c : AV) (x : Value) (h1 : r[i]? = some c) (h2 : xr[i]? = some x) => hA (i + 1) c x (by simpa using h1) (by simpa using h2)
        have hl' : r.length = xr.length := by simpa using hl
        unfold litsOf at h
        split at h
        · cases ‹_ :: _ = []›
        · rename_i k n r' e
          injection e with e1 e2
          subst e1
          subst e2
          simp only [Option.map_eq_some_iff] at h
          obtain ⟨us', h, rfl⟩ := h
          rw [ih us' xr h hl' hr, is_int hx]
          rfl
        · rename_i v r' e
          injection e with e1 e2
          subst e1
          subst e2
          simp only [Option.map_eq_some_iff] at h
          obtain ⟨us', h, rfl⟩ := h
          rw [ih us' xr h hl' hr, is_bool hx]
          rfl
        · cases h
  intro cs us xs h hl hA
  have := go cs us xs.toList h (by simpa using hl) (fun i c x h1 h2 => hA i c x h1 (by simpa using h2))
  rw [← this]

theorem run_equal_fn {t : TypeId} (h : isFn P t = true) {x : Value} {v : Bool} (hx : x = .nilFunc ∧ v = true ∨ (∃ f a b, x = .func f a b) ∧ v = false) : (Op.equal t x .nilFunc).run P w = .ok v w := by
  unfold isFn at h
  split at h
  · rename_i hu
    rcases hx with ⟨rfl, rfl⟩ | ⟨⟨f, a, b, rfl⟩, rfl⟩ <;>
    · show (Op.equalIn (9999 + 1) t _ _).run P w = _
      rw [Op.equalIn, Sem.run_bind, run_underlying hu]
      rfl
  · cases h

theorem s_bin (hr : Rel c hp U σ w) (E : ∀ x, AIs w (Sof c w σ hp) σ hp U (ev fr x) (a.eval x)) {op : BinOp} {t t' : TypeId} {x y : Operand} (hop : o.op = .binOp op t x y t') (h : opW P fr hp N (.binOp op t x y t') K) :
    OpOk P c K hp U N σ w ((execOp a.eval o).run P w) := by
  simp only [opW] at h
  unfold binW at h
  have ptr : ∀ (p : Option Addr), a.eval x = .pointer p → a.eval y = .pointer none → pnW P op t p.isNone K hp → OpOk P c K hp U N σ w ((execOp a.eval o).run P w) := by
    intro p h1 h2 h
    obtain ⟨hu, h⟩ := h
    have hg : (eqGuard op t x y (.pointer p) (.pointer none)).run P w = .ok () w := by
      unfold eqGuard
      cases op <;> rfl
    split at h
    · refine OpOk.val (x := .bool p.isNone) ?_ (Good.same hr h (.d (.bool _)))
      simp only [execOp, hop, h1, h2, Sem.run_bind, hg, run_eql_pointer_nil w t p (isPtr_u hu), Result.andThen_ok, Sem.run_pure]
    · refine OpOk.val (x := .bool (!p.isNone)) ?_ (Good.same hr h (.d (.bool _)))
      simp only [execOp, hop, h1, h2, Sem.run_bind, hg, run_neq_pointer_nil w t p (isPtr_u hu), Result.andThen_ok, Sem.run_pure]
    · exact h.elim
  have nilp : ∀ {z : Operand}, ev fr z = .d .nilp → a.eval z = .pointer none := by
    intro z hz
    have := E z
    rw [hz] at this
    generalize a.eval z = v at this
    cases this with
    | d h => cases h; rfl
  have fnn : ∀ (v : Bool) (u : Value), a.eval x = u → ev fr y = .d .nilf → (u = .nilFunc ∧ v = true ∨ (∃ f a b, u = .func f a b) ∧ v = false) → fnW P op t v K hp → OpOk P c K hp U N σ w ((execOp a.eval o).run P w) := by
    intro v u h1 hy hu h
    have h2 : a.eval y = .nilFunc := by
      have := E y
      rw [hy] at this
      generalize a.eval y = v at this
      cases this with
      | d h => cases h; rfl
    obtain ⟨hf, h⟩ := h
    have hg : (eqGuard op t x y u .nilFunc).run P w = .ok () w := by
      unfold eqGuard
      cases op <;> rcases hu with ⟨rfl, _⟩ | ⟨⟨f, a, b, rfl⟩, _⟩ <;> rfl
    split at h
    · refine OpOk.val (x := .bool v) ?_ (Good.same hr h (.d (.bool _)))
      simp only [execOp, hop, h1, h2, Sem.run_bind, hg, binOp, run_equal_fn hf hu, Result.andThen_ok, Sem.run_pure]
    · refine OpOk.val (x := .bool (!v)) ?_ (Good.same hr h (.d (.bool _)))
      simp only [execOp, hop, h1, h2, Sem.run_bind, hg, binOp, run_equal_fn hf hu, Result.andThen_ok, Sem.run_pure]
    · exact h.elim
  split at h
  · rename_i hx hy
    have hx' := E x
    rw [hx] at hx'
    generalize hv : a.eval x = v at hx'
    cases hx' with
    | ptr _ _ _ _ ad _ _ => exact ptr (some ad) hv (nilp hy) h
  · rename_i hx hy
    have hx' := E x
    rw [hx] at hx'
    generalize hv : a.eval x = v at hx'
    cases hx' with
    | rop _ ad _ _ _ _ => exact ptr (some ad) hv (nilp hy) h
  · grind
  · rename_i hx hy
    have hx' := E x
    rw [hx] at hx'
    generalize hv : a.eval x = v at hx'
    cases hx' with
    | fn f cs xs _ _ => exact fnn false _ hv hy (.inr ⟨⟨_, _, _, rfl⟩, rfl⟩) h
  · rename_i hx hy
    have hx' := E x
    rw [hx] at hx'
    generalize hv : a.eval x = v at hx'
    cases hx' with
    | mth f cs xs _ _ => exact fnn false _ hv hy (.inr ⟨⟨_, _, _, rfl⟩, rfl⟩) h
  · rename_i hx hy
    have hx' := E x
    rw [hx] at hx'
    generalize hv : a.eval x = v at hx'
    cases hx' with
    | d hx' => cases hx'; exact fnn true _ hv hy (.inl ⟨rfl, rfl⟩) h
  · rename_i as bs hx hy
    split at h
    · rename_i n el ht
      unfold agW at h
      split at h
      · rename_i k hk
        split at h
        · rename_i us vs hus hvs
          obtain ⟨hl1, hl2, hz, hg, h⟩ := h
          have hx' := E x
          have hy' := E y
          rw [hx] at hx'
          rw [hy] at hy'
          generalize hvx : a.eval x = vx at hx'
          generalize hvy : a.eval y = vy at hy'
          cases hx' with
          | agg _ xs hxl hx1 hxs =>
            cases hy' with
            | agg _ ys hyl hy1 hys =>
              have hu : P.underlying el = some (.int k) := by
                grind [ikind]
              obtain ⟨i, hi⟩ := info_of_underlying hu
              obtain ⟨q1, q2⟩ := ints_is hus
              obtain ⟨q3, q4⟩ := ints_is hvs
              have val : ∀ {cs : List AV} {zs : Array Value} {ws : List Int}, cs.length = zs.size → (∀ (i : Nat) (c0 : AV) (x : Value), cs[i]? = some c0 → zs[i]? = some x → AIs w (Sof c w σ hp) σ hp U c0 x) → (∀ (i : Nat) (m : Int), ws[i]? = some m → cs[i]? = some (.d (.int k m))) → ∀ (i : Nat) (m : Int), ws[i]? = some m → zs[i]? = some (.int k m) := by
                grind [List.getElem?_eq_some_iff, Array.getElem?_eq_getElem, is_int]
              have heq : (Op.equal t (.agg xs) (.agg ys)).run P w = .ok (decide (us = vs)) w := by
                have h1 := run_equalIn_array w 9999 xs ys (tyk_arr ht) hi
                have h2 := run_items (P := P) (w := w) hz hu us vs xs ys 9998 (val hxl hxs q2) (val hyl hys q4) n 0 (by omega) (by omega)
                rw [List.range_eq_range', h2] at h1
                simp only [List.drop_zero] at h1
                rw [List.take_of_length_le (by omega), List.take_of_length_le (by omega)] at h1
                exact h1
              have hgd : (op = .eql ∨ op = .neq) → (eqGuard op t x y (.agg xs) (.agg ys)).run P w = .ok () w := by
                rintro (rfl | rfl) <;> simp [eqGuard, hg]
              split at h
              · refine OpOk.val (x := .bool (decide (us = vs))) ?_ (Good.same hr h (.d (.bool _)))
                simp only [execOp, hop, hvx, hvy, Sem.run_bind, hgd (.inl rfl), Result.andThen_ok, binOp, heq, Sem.run_pure]
              · refine OpOk.val (x := .bool (!decide (us = vs))) ?_ (Good.same hr h (.d (.bool _)))
                simp only [execOp, hop, hvx, hvy, Sem.run_bind, hgd (.inr rfl), Result.andThen_ok, binOp, heq, Sem.run_pure]
              · exact h.elim
        · exact h.elim
      · exact h.elim
    · rename_i fs0 ht
      unfold sgW at h
      split at h
      · rename_i us vs hus hvs
        obtain ⟨hg, hk1, hk2, h⟩ := h
        have hx' := E x
        have hy' := E y
        rw [hx] at hx'
        rw [hy] at hy'
        generalize hvx : a.eval x = vx at hx'
        generalize hvy : a.eval y = vy at hy'
        cases hx' with
        | agg _ xs hxl hx1 hxs =>
          cases hy' with
          | agg _ ys hyl hy1 hys =>
            obtain ⟨F, hu, _⟩ := tyk_struct ht
            have ex := lits_is hus hxl hxs
            have ey := lits_is hvs hyl hys
            have hv : ∀ l : List L1, valT P t l = .agg (l.map L1.v).toArray := fun l => by unfold valT; rw [hu]; rfl
            have heq : (Op.equal t (.agg xs) (.agg ys)).run P w = .ok (decide (us = vs)) w := by
              have := eqs_at 8 t _ hk1 w 9992 us vs rfl (by rw [hk1] at hk2; injection hk2 with hk2; exact hk2.symm)
              rw [hv, hv, ← ex, ← ey] at this
              exact this
            have hgd : (op = .eql ∨ op = .neq) → (eqGuard op t x y (.agg xs) (.agg ys)).run P w = .ok () w := by
              rintro (rfl | rfl) <;> simp [eqGuard, hg]
            split at h
            · refine OpOk.val (x := .bool (decide (us = vs))) ?_ (Good.same hr h (.d (.bool _)))
              simp only [execOp, hop, hvx, hvy, Sem.run_bind, hgd (.inl rfl), Result.andThen_ok, binOp, heq, Sem.run_pure]
            · refine OpOk.val (x := .bool (!decide (us = vs))) ?_ (Good.same hr h (.d (.bool _)))
              simp only [execOp, hop, hvx, hvy, Sem.run_bind, hgd (.inr rfl), Result.andThen_ok, binOp, heq, Sem.run_pure]
            · exact h.elim
      · exact h.elim
    · exact h.elim
  · exact s_bin0 hr E hop h

theorem s_convert (hr : Rel c hp U σ w) (E : ∀ x, AIs w (Sof c w σ hp) σ hp U (ev fr x) (a.eval x)) {s t : TypeId} {x : Operand} (hop : o.op = .convert s t x) (hstr : ∀ bs el, ev fr x = .d (.str bs) → tyk P s = .str → tyk P t = .slice el → P.underlying el = some (.int .u8) → K (.d (.ro 1 (bs.map fun b => [.int .u8 b]))) hp → OpOk P c K hp U N σ w ((execOp a.eval o).run P w)) (hown : ∀ bs el, rowsOf hp 1 (ev fr x) = some (bs.map fun b => [.d (.int .u8 b)]) → (∀ b, b ∈ bs → 0 ≤ b ∧ b < 256) → tyk P s = .slice el → tyk P t = .str → P.underlying el = some (.int .u8) → K (.d (.str bs)) hp → OpOk P c K hp U N σ w ((execOp a.eval o).run P w)) (h : opW P fr hp N (.convert s t x) K) :
    OpOk P c K hp U N σ w ((execOp a.eval o).run P w) := by
  simp only [opW] at h
  split at h
  · rename_i es hx
    obtain ⟨bs, rfl, hb, h⟩ := h
    split at h
    · rename_i el hs ht
      obtain ⟨hel, h⟩ := h
      have hx' := E x
      rw [hx] at hx'
      generalize hv : a.eval x = v at hx'
      cases hx' with
      | d hx' =>
        cases hx' with
        | ro _ _ A cap vs hc he hA hv1 hd =>
          have hlen : (bs.map fun b => [DV.int .u8 b]).length = bs.length := by simp
          have hrun : ∃ s : ByteArray, (Conv.bytesToString (.slice A (bs.map fun b => [DV.int .u8 b]).length cap)).run P w = .ok (.string s) w ∧ (s.data.toList.map fun c => (c.toNat : Int)) = bs := by
            rcases bs with _ | ⟨b0, bs'⟩
            · cases A with
              | none => exact ⟨.empty, by simp [Conv.bytesToString], rfl⟩
              | some ad =>
                refine ⟨.empty, ?_, rfl⟩
                exact run_bytesToString (P := P) w ad 0 cap [] (by simp [loadCells, loadCellsFrom])
            · obtain ⟨ad, rfl, _⟩ := hA [.int .u8 b0] (by simp)
              have hcell := run_loadCells_list (P := P) w ad ((b0 :: bs').map (Value.int .u8)) (fun j u hj => by
                simp only [List.getElem?_map, Option.map_eq_some_iff] at hj
                obtain ⟨b, hb', rfl⟩ := hj
                have h1 : ((b0 :: bs').map fun b => [DV.int .u8 b])[j]? = some [.int .u8 b] := by rw [List.getElem?_map, hb']; rfl
                have h2 := hv1 ad rfl j 0 _ _ h1 rfl
                have h3 := hd j 0 _ _ h1 rfl
                rw [Nat.mul_one, Nat.add_zero] at h2
                rw [h2]
                generalize vs j 0 = u at h3
                cases h3
                rfl)
              rw [List.length_map] at hcell
              have := run_bytesToString (P := P) w ad (b0 :: bs').length cap (b0 :: bs') hcell
              refine ⟨_, by rw [hlen]; exact this, ?_⟩
              rw [push_fold _ hb]
              rfl
          obtain ⟨s', h1, h2⟩ := hrun
          refine OpOk.val (x := .string s') ?_ (Good.same hr h (by rw [← h2]; exact .d (.str s')))
          have hconv := run_convert_bytes_string (P := P) w s t el A (bs.map fun b => [DV.int .u8 b]).length cap (tyk_slice hs) hel (tyk_str ht)
          simp only [execOp, hop, hv, Sem.run_bind, hconv, h1, Result.andThen_ok, Sem.run_pure]
    · exact h.elim
  · rename_i k n hx
    split at h
    · rename_i ds k' hs ht
      refine OpOk.val ?_ (Good.same hr h (.d (.int _ _)))
      have : (convert s t (.int k n)).run P w = .ok (.int k' (k'.wrap n)) w := by
        simp [convert, run_underlying hs, run_underlying ht, Conv.intToInt]
      simp [execOp, hop, is_int (hx ▸ E x), this]
    · exact h.elim
  · grind
  grind

theorem s_load (hr : Rel c hp U σ w) (E : ∀ x, AIs w (Sof c w σ hp) σ hp U (ev fr x) (a.eval x)) {t : TypeId} {x : Operand} (hop : o.op = .load t x) (h : opW P fr hp N (.load t x) K) :
    OpOk P c K hp U N σ w ((execOp a.eval o).run P w) := by
  simp only [opW] at h
  split at h
  · rename_i id i off tot hx
    have hx' := E x
    rw [hx] at hx'
    split at h
    · rename_i b hb
      split at h
      · rename_i row hrow
        obtain ⟨ht, h⟩ := h
        split at h
        · rename_i v hv
          obtain ⟨g, ccs, hg, hxv, hheap, hone, hrl, hle, hcell⟩ := row_cells hr hx' hb hrow ht
          have hat : ∀ (j : Nat) (y : AV), (row.drop off)[j]? = some y → ∃ u, ccs[i * b.e + off + j]? = some u ∧ AIs w (Sof c w σ hp) σ hp U y u := by
            grind
          obtain ⟨u, hu1, hu2⟩ := run_loadVar_cells (P := P) (w := w) (S := Sof c w σ hp) (σ := σ) (hp := hp) (U := U) (ad := ⟨g, i * b.e + off, none⟩) (vs := fun j => ccs.getD (i * b.e + off + j) undef) hv
            (fun j y hy => by
              obtain ⟨u, h1, h2⟩ := hat j y hy
              rw [add_mk, cell_of_row w _ _ ccs _ _ hheap, h1]
              simp [Array.getD_eq_getD_getElem?, h1])
            (fun j y hy => by
              obtain ⟨u, h1, h2⟩ := hat j y hy
              simp only [Array.getD_eq_getD_getElem?, h1, Option.getD_some]
              exact hone _ u h1)
            (fun j y hy => by
              obtain ⟨u, h1, h2⟩ := hat j y hy
              simp only [Array.getD_eq_getD_getElem?, h1, Option.getD_some]
              exact h2)
          refine OpOk.val (x := u) ?_ (Good.same hr h hu2)
          simp [execOp, hop, hxv, Instr.loadAt, Instr.sureAddr, hu1]
        · exact h.elim
      · exact h.elim
    · exact h.elim
  · rename_i cs hx
    have hx' := E x
    rw [hx] at hx'
    generalize hv' : a.eval x = xv at hx'
    split at h
    · rename_i v hv
      cases hx' with
      | rop _ ad vs hS h1 h2 =>
        have hat : ∀ (j : Nat) (y : AV), (cs.map AV.d)[j]? = some y → ∃ d, y = .d d ∧ cs[j]? = some d := by
          grind
        obtain ⟨u, hu1, hu2⟩ := run_loadVar_cells (P := P) (w := w) (S := Sof c w σ hp) (σ := σ) (hp := hp) (U := U) (ad := ad) (vs := vs) hv
          (fun j y hy => by obtain ⟨d, rfl, h3⟩ := hat j y hy; exact h1 j d h3)
          (fun j y hy => by obtain ⟨d, rfl, h3⟩ := hat j y hy; exact dis_one (h2 j d h3))
          (fun j y hy => by obtain ⟨d, rfl, h3⟩ := hat j y hy; exact .d (h2 j d h3))
        refine OpOk.val (x := u) ?_ (Good.same hr h hu2)
        simp [execOp, hop, hv', Instr.loadAt, Instr.sureAddr, hu1]
    · exact h.elim
  · exact h.elim

theorem fieldOff_of {t : TypeId} {i o : Nat} {ft : TypeId} (h : fieldOff P t i = some (o, ft)) : ∃ F f, P.underlying t = some (.struct F) ∧ F[i]? = some f ∧ f.offset = o ∧ f.type = ft := by
  unfold fieldOff at h
  grind [tyk_struct, Option.map_eq_some_iff]

theorem s_fieldAddr (hr : Rel c hp U σ w) (E : ∀ x, AIs w (Sof c w σ hp) σ hp U (ev fr x) (a.eval x)) {t : TypeId} {x : Operand} {i : Nat} (hop : o.op = .fieldAddr t x i) (h : opW P fr hp N (.fieldAddr t x i) K) :
    OpOk P c K hp U N σ w ((execOp a.eval o).run P w) := by
  simp only [opW] at h
  have run : ∀ off ft ad, fieldOff P t i = some (off, ft) → P.cellsOf ft ≠ 0 → a.eval x = .pointer (some ad) → (execOp a.eval o).run P w = .ok (.value (.pointer (some (ad.add off)))) w := by
    intro off ft ad hf hz hx
    obtain ⟨F, f, hu, hF, rfl, rfl⟩ := fieldOff_of hf
    simp [execOp, hop, hx, Instr.fieldAt, run_underlying hu, hF, Instr.sureAddr, fieldPlace, run_sizeOf_ne hz, hz]
  split at h
  · rename_i id j off tot o' ft hx hf
    have hx' := E x
    rw [hx] at hx'
    generalize hv : a.eval x = v at hx'
    cases hx' with
    | ptr _ _ _ _ ad hN h' =>
      refine OpOk.val (run o' ft ad hf h.1 hv) (Good.same hr h.2 (.ptr _ _ _ _ _ hN fun b hb => ?_))
      grind [add_mk, Nat.add_assoc]
  · rename_i cs o' ft hx hf
    have hx' := E x
    rw [hx] at hx'
    generalize hv : a.eval x = v at hx'
    cases hx' with
    | rop _ ad vs hS h1 h2 =>
      refine OpOk.val (run o' ft ad hf h.1 hv) (Good.same hr h.2 (.rop _ _ (fun j => vs (o' + j)) (by rw [add_block]; exact hS) (fun j y hy => ?_) (fun j y hy => ?_)))
      · grind [add_add]
      grind
  · exact h.elim
end
end Go.Am
