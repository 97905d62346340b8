/-
  AM, part 2c: whether structs and arrays of numbers and truths are equal.
-/
import Derived.Test.YtnmnabagabejjaaGreatAmSnd
import Derived.ChangeKeysEq
import Derived.Laws.StructEq
namespace Go.Am
set_option linter.unusedVariables false

/-- The value of a type that has these cells. -/
def valT (P : Program) (t : TypeId) (l : List L1) : Value :=
  match P.underlying t with
  | some d => if isA d = true then .agg (l.map L1.v).toArray else (l.map L1.v).headD default
  | none => default

section
variable {P : Program} {w : World}

theorem kinds_one {m : Nat} {t : TypeId} {ks : List (Option IntKind)} (h : kindsOf P m t = some ks) : ∃ d, P.underlying t = some d ∧ (isA d = false → ks.length = 1) := by
  cases m with
  | zero => simp [kindsOf] at h
  | succ m =>
    simp only [kindsOf] at h
    cases hu : P.underlying t with
    | none => rw [hu] at h; cases h
    | some d =>
      grind [isA]

theorem run_partT {m : Nat} {e : TypeId} {a : List (Option IntKind)} (hk : kindsOf P m e = some a) (hc : P.cellsOf e = a.length) (l : List L1) (off : Nat) (h : off + a.length ≤ l.length) :
    (part e (l.map L1.v).toArray off).run P w = .ok (valT P e ((l.drop off).take a.length)) w := by
  obtain ⟨d, hu, h1⟩ := kinds_one hk
  obtain ⟨i, hi⟩ := info_of_underlying hu
  unfold part valT
  rw [hu]
  simp only [Sem.run_bind, run_isAgg_u hu, Result.andThen_ok]
  cases hd : isA d with
  | true =>
    simp only [if_true, Sem.run_bind, run_sizeOf w hi, Result.andThen_ok, Sem.run_pure, hc]
    grind [Array.ext', List.map_take, List.map_drop]
  | false =>
    have h2 := h1 hd
    rw [h2] at h ⊢
    have h3 : l[off]? = some l[off] := List.getElem?_eq_getElem (by omega)
    have h4 : (l.map L1.v).toArray[off]? = some (l[off]).v := by simp [h3]
    simp only [h4, Bool.false_eq_true, if_false, Sem.run_pure]
    grind [List.drop_eq_getElem_cons]

/-- What equality of a type's values comes to. -/
def EqsAt (P : Program) (m : Nat) (t : TypeId) (ks : List (Option IntKind)) : Prop :=
  ∀ (w : World) (d : Nat) (lx ly : List L1), lx.map L1.k = ks → ly.map L1.k = ks → (Op.equalIn (d + m) t (valT P t lx) (valT P t ly)).run P w = .ok (decide (lx = ly)) w

theorem cut_map {α β : Type} {f : α → β} {l : List α} {a b c : List β} (h : l.map f = a ++ b ++ c) : ((l.drop a.length).take b.length).map f = b := by
  simp_all

theorem eqs_items {m : Nat} {e : TypeId} {a : List (Option IntKind)} (hk : kindsOf P m e = some a) (hc : P.cellsOf e = a.length) (ih : EqsAt P m e a) (d N : Nat) (lx ly : List L1) (hx : lx.map L1.k = (List.replicate N a).flatten) (hy : ly.map L1.k = (List.replicate N a).flatten) :
    ∀ (n i : Nat), i + n ≤ N → (Op.eqItems (d + m) e (P.cellsOf e) (lx.map L1.v).toArray (ly.map L1.v).toArray (List.range' i n)).run P w = .ok (decide ((lx.drop (i * a.length)).take (n * a.length) = (ly.drop (i * a.length)).take (n * a.length))) w
  | 0, i, _ => by simp [Op.eqItems]
  | n + 1, i, h => by
    have ihn := eqs_items hk hc ih d N lx ly hx hy n (i + 1) (by omega)
    have hlx : lx.length = N * a.length := by have := congrArg List.length hx; simpa using this
    have hly : ly.length = N * a.length := by have := congrArg List.length hy; simpa using this
    have hb : i * a.length + a.length ≤ N * a.length := by
      have : (i + 1) * a.length ≤ N * a.length := Nat.mul_le_mul_right _ (by omega)
      rw [Nat.add_mul, Nat.one_mul] at this
      exact this
    have p1 := run_partT (P := P) (w := w) hk hc lx (i * a.length) (by omega)
    have p2 := run_partT (P := P) (w := w) hk hc ly (i * a.length) (by omega)
    have cut : ∀ {l : List L1}, l.map L1.k = (List.replicate N a).flatten → ((l.drop (i * a.length)).take a.length).map L1.k = a := by
      intro l hl
      have e : (List.replicate N a).flatten = (List.replicate i a).flatten ++ a ++ (List.replicate (N - i - 1) a).flatten := by
        rw [show N = i + (1 + (N - i - 1)) by omega, ← List.replicate_append_replicate, ← List.replicate_append_replicate, List.flatten_append, List.flatten_append]
        simp
      rw [e] at hl
      have := cut_map hl
      simpa using this
    rw [List.range'_succ]
    simp only [Op.eqItems, Sem.run_bind, hc, p1, p2, Result.andThen_ok, ih w d _ _ (cut hx) (cut hy)]
    rw [hc] at ihn
    have sp : ∀ l : List L1, (l.drop (i * a.length)).take ((n + 1) * a.length) = (l.drop (i * a.length)).take a.length ++ (l.drop ((i + 1) * a.length)).take (n * a.length) := by
      intro l
      rw [Nat.add_mul, Nat.one_mul, Nat.add_comm (n * a.length), List.take_add, List.drop_drop, Nat.add_mul, Nat.one_mul]
    rw [sp lx, sp ly]
    have hl1 : ((lx.drop (i * a.length)).take a.length).length = ((ly.drop (i * a.length)).take a.length).length := by
      simp only [List.length_take, List.length_drop]; omega
    by_cases he : (lx.drop (i * a.length)).take a.length = (ly.drop (i * a.length)).take a.length
    · rw [he]
      simp [ihn]
    · have hne : ¬ ((lx.drop (i * a.length)).take a.length ++ (lx.drop ((i + 1) * a.length)).take (n * a.length) = (ly.drop (i * a.length)).take a.length ++ (ly.drop ((i + 1) * a.length)).take (n * a.length)) := fun h => he (List.append_inj_left h hl1)
      simp [he, hne]

theorem eqs_fields {m : Nat} (ih : ∀ e a, kindsOf P m e = some a → EqsAt P m e a) (d : Nat) (lx ly : List L1) : ∀ (fs : List Field) (off : Nat) (ks : List (Option IntKind)), kindsF P (kindsOf P m) off fs = some ks → (lx.drop off).map L1.k = ks → (ly.drop off).map L1.k = ks → off ≤ lx.length → off ≤ ly.length →
    (Op.eqFields (d + m) (lx.map L1.v).toArray (ly.map L1.v).toArray fs).run P w = .ok (decide (lx.drop off = ly.drop off)) w
  | [], off, ks, hk, hx, hy, _, _ => by
    simp only [kindsF, Option.some.injEq] at hk
    subst hk
    simp at hx hy
    have e1 : lx.drop off = [] := List.drop_eq_nil_of_le hx
    have e2 : ly.drop off = [] := List.drop_eq_nil_of_le hy
    simp [Op.eqFields, e1, e2]
  | f :: r, off, ks, hk, hx, hy, ho1, ho2 => by
    simp only [kindsF] at hk
    split at hk
    · rename_i hn
      split at hk
      · rename_i a ha
        split at hk
        · rename_i hc
          simp only [Option.map_eq_some_iff] at hk
          obtain ⟨ks', hk', rfl⟩ := hk
          have hl1 : (lx.drop off).length = a.length + ks'.length := by have := congrArg List.length hx; simpa using this
          have hl2 : (ly.drop off).length = a.length + ks'.length := by have := congrArg List.length hy; simpa using this
          rw [List.length_drop] at hl1 hl2
          have p1 := run_partT (P := P) (w := w) ha hc lx off (by omega)
          have p2 := run_partT (P := P) (w := w) ha hc ly off (by omega)
          have c1 : ((lx.drop off).take a.length).map L1.k = a := by rw [List.map_take, hx, List.take_left]
          have c2 : ((ly.drop off).take a.length).map L1.k = a := by rw [List.map_take, hy, List.take_left]
          have d1 : (lx.drop (off + a.length)).map L1.k = ks' := by rw [← List.drop_drop, List.map_drop, hx, List.drop_left]
          have d2 : (ly.drop (off + a.length)).map L1.k = ks' := by rw [← List.drop_drop, List.map_drop, hy, List.drop_left]
          have ihr := eqs_fields ih d lx ly r (off + a.length) ks' hk' d1 d2 (by omega) (by omega)
          have hoff : f.offset = off := hn.2
          simp only [Op.eqFields, hn.1, ne_eq, not_false_eq_true, if_true, Sem.run_bind, hoff, p1, p2, Result.andThen_ok, ih f.type a ha w d _ _ c1 c2]
          have sp : ∀ l : List L1, l.drop off = (l.drop off).take a.length ++ l.drop (off + a.length) := by
            intro l
            rw [← List.drop_drop, List.take_append_drop]
          have hd : decide (lx.drop off = ly.drop off) = decide ((lx.drop off).take a.length ++ lx.drop (off + a.length) = (ly.drop off).take a.length ++ ly.drop (off + a.length)) := by rw [← sp lx, ← sp ly]
          rw [hd]
          have hll : ((lx.drop off).take a.length).length = ((ly.drop off).take a.length).length := by simp only [List.length_take, List.length_drop]; omega
          generalize (lx.drop off).take a.length = A1 at *
          generalize (ly.drop off).take a.length = A2 at *
          by_cases he : A1 = A2
          · simp [he, ihr]
          · have hne : ¬ (A1 ++ lx.drop (off + a.length) = A2 ++ ly.drop (off + a.length)) := fun h => he (List.append_inj_left h hll)
            simp [he, hne]
        · cases hk
      · cases hk
    · cases hk

theorem eqs_at : ∀ (m : Nat) (t : TypeId) (ks : List (Option IntKind)), kindsOf P m t = some ks → EqsAt P m t ks
  | 0, t, ks, h => by simp [kindsOf] at h
  | m + 1, t, ks, h => by
    intro w d lx ly hx hy
    simp only [kindsOf] at h
    cases hu : P.underlying t with
    | none => rw [hu] at h; cases h
    | some td =>
      rw [hu] at h
      unfold valT
      rw [hu]
      cases td with
      | int k =>
        simp only [Option.some.injEq] at h
        subst h
        match lx, ly, hx, hy with
        | [.i k1 a], [.i k2 b], hx, hy =>
          simp [L1.k] at hx hy
          subst hx
          subst hy
          show (Op.equalIn (d + m + 1) t (.int _ a) (.int _ b)).run P w = _
          rw [run_equalIn_int w (d + m) t _ _ a b hu]
          congr 1
          by_cases e : a = b <;> simp [e]
      | bool =>
        simp only [Option.some.injEq] at h
        subst h
        match lx, ly, hx, hy with
        | [.b a], [.b b], hx, hy =>
          show (Op.equalIn (d + m + 1) t (.bool a) (.bool b)).run P w = _
          rw [run_equalIn_bool w (d + m) t a b hu]
          congr 1
          cases a <;> cases b <;> rfl
      | array n e =>
        simp only at h
        split at h
        · rename_i a ha
          split at h
          · rename_i hc
            simp only [Option.some.injEq] at h
            subst h
            obtain ⟨i, hi⟩ := (kinds_one ha).elim fun d h => info_of_underlying h.1
            have h1 := run_equalIn_array (P := P) w (d + m) (lx.map L1.v).toArray (ly.map L1.v).toArray hu hi
            have h2 := eqs_items (w := w) ha hc (eqs_at m e a ha) d n lx ly hx hy n 0 (by omega)
            rw [List.range_eq_range', h2] at h1
            simp only [Nat.zero_mul, List.drop_zero] at h1
            have l1 : lx.length = n * a.length := by have := congrArg List.length hx; simpa using this
            have l2 : ly.length = n * a.length := by have := congrArg List.length hy; simpa using this
            rw [List.take_of_length_le (by omega), List.take_of_length_le (by omega)] at h1
            exact h1
          · cases h
        · cases h
      | struct fs =>
        simp only at h
        split at h
        · cases h
        · rename_i hs
          have hfs : P.fieldsOf t = fs := by simp [Program.fieldsOf, hu]
          have h1 := run_equalIn_struct (P := P) w (d + m) t (lx.map L1.v).toArray (ly.map L1.v).toArray (by rw [hfs]; exact hu) (by simpa using hs)
          have h2 := eqs_fields (w := w) (eqs_at m) d lx ly fs.toList 0 ks h (by simpa using hx) (by simpa using hy) (by omega) (by omega)
          rw [hfs] at h1
          simp only [List.drop_zero] at h2
          exact h1.trans h2
      | _ => simp at h
end
end Go.Am
