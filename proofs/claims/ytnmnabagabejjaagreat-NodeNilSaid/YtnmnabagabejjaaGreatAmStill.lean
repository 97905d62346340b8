/-
  AM, part 6e: operations that only read: what they yield stays; an operation looks at its operands alone.
-/
import Derived.Test.YtnmnabagabejjaaGreatAmMore
namespace Go.Am
set_option linter.unusedVariables false
set_option linter.unusedSimpArgs false

section
variable {P : Program} {fr fr' : Fr} {hp hp' : Hp} {N N' : Nat} {K K' : AV → Hp → Prop}

theorem bnd_congr {d : Int} {x : Option Operand} (h : ∀ y, x = some y → ev fr y = ev fr' y) : bnd fr d x = bnd fr' d x := by
  cases x with
  | none => rfl
  | some y => simp only [bnd, h y rfl]

theorem map_congr_ev {l : List (Nat × Operand)} (h : ∀ p, p ∈ l → ev fr p.2 = ev fr' p.2) : (l.map fun p => (p.1, ev fr p.2)) = l.map fun p => (p.1, ev fr' p.2) := by
  apply List.map_congr_left
  intro p hp
  rw [h p hp]

/-- An operation looks at its operands alone. -/
theorem opW_congr {op : Op} (h : ∀ x, x ∈ op.operands → ev fr x = ev fr' x) : opW P fr hp N op K = opW P fr' hp N op K := by
  cases op with
  | build t parts =>
    simp only [opW]
    rw [map_congr_ev (fr := fr) (fr' := fr') fun p hp => h p.2 (by simp only [Op.operands, List.mem_toArray, List.mem_map]; exact ⟨p, hp, rfl⟩)]
  | buildSlice t n parts =>
    simp only [opW]
    rw [map_congr_ev (fr := fr) (fr' := fr') fun p hp => h p.2 (by simp only [Op.operands, List.mem_toArray, List.mem_map]; exact ⟨p, hp, rfl⟩)]
  | slice t x lo hi m =>
    cases m with
    | some m =>
      have ho : bndO fr hi = bndO fr' hi := by
        cases hi with
        | none => rfl
        | some y => simp only [bndO]; rw [h y (by simp [Op.operands])]
      simp only [opW]
      rw [h x (by simp [Op.operands]), bnd_congr (fr := fr) (fr' := fr') (x := lo) fun y hy => h y (by subst hy; simp [Op.operands]), ho, h m (by simp [Op.operands])]
    | none =>
      simp only [opW]
      rw [h x (by simp [Op.operands]), bnd_congr (fr := fr) (fr' := fr') (x := lo) fun y hy => h y (by subst hy; simp [Op.operands]), bnd_congr (fr := fr) (fr' := fr') (x := hi) fun y hy => h y (by subst hy; simp [Op.operands])]
  | call cl =>
    have ha : ∀ x, x ∈ cl.args.toList → ev fr x = ev fr' x := fun x hx => h x (by
      obtain ⟨callee, args, ats⟩ := cl
      cases callee <;> simp_all [Op.operands, Call.operands])
    simp only [opW]
    cases hc : cl.callee with
    | builtin b =>
      simp only
      generalize cl.args.toList = as at ha
      generalize cl.argTypes.toList = ts
      cases b with
      | len =>
        match as, ts, ha with
        | [], _, _ => rfl
        | [x], [], _ => rfl
        | [x], [t], ha => simp only [biW]; rw [ha x (by simp)]
        | [x], _ :: _ :: _, _ => rfl
        | _ :: _ :: _, _, _ => rfl
      | append =>
        match as, ts, ha with
        | [], _, _ => rfl
        | [s], _, _ => rfl
        | [s, x], [], _ => rfl
        | [s, x], [_], _ => rfl
        | [s, x], [t, u], ha => simp only [biW]; rw [ha x (by simp), ha s (by simp)]
        | [s, x], _ :: _ :: _ :: _, _ => rfl
        | _ :: _ :: _ :: _, _, _ => rfl
      | copy =>
        match as, ts, ha with
        | [], _, _ => rfl
        | [s], _, _ => rfl
        | [s, x], [], _ => rfl
        | [s, x], [_], _ => rfl
        | [s, x], [t, u], ha => simp only [biW]; rw [ha x (by simp), ha s (by simp)]
        | [s, x], _ :: _ :: _ :: _, _ => rfl
        | _ :: _ :: _ :: _, _, _ => rfl
      | max =>
        match as, ts, ha with
        | [], _, _ => rfl
        | [s], _, _ => rfl
        | [s, x], [], _ => rfl
        | [s, x], [_], _ => rfl
        | [s, x], [t, u], ha => simp only [biW]; rw [ha x (by simp), ha s (by simp)]
        | [s, x], _ :: _ :: _ :: _, _ => rfl
        | _ :: _ :: _ :: _, _, _ => rfl
      | min =>
        match as, ts, ha with
        | [], _, _ => rfl
        | [s], _, _ => rfl
        | [s, x], [], _ => rfl
        | [s, x], [_], _ => rfl
        | [s, x], [t, u], ha => simp only [biW]; rw [ha x (by simp), ha s (by simp)]
        | [s, x], _ :: _ :: _ :: _, _ => rfl
        | _ :: _ :: _ :: _, _, _ => rfl
      | _ => rfl
    | value f =>
      simp only
      have hf : ev fr f = ev fr' f := h f (by
        obtain ⟨callee, args, ats⟩ := cl
        simp only at hc
        subst hc
        simp [Op.operands, Call.operands])
      have hm : cl.args.toList.map (ev fr) = cl.args.toList.map (ev fr') := List.map_congr_left ha
      rw [hf, hm]
    | invoke _ _ => rfl
  | move x => simp only [opW]; rw [h x (by simp [Op.operands])]
  | assign x => simp only [opW]; rw [h x (by simp [Op.operands])]
  | pick x y z => simp only [opW]; rw [h x (by simp [Op.operands]), h y (by simp [Op.operands]), h z (by simp [Op.operands])]
  | binOp op t x y t' => simp only [opW]; rw [h x (by simp [Op.operands]), h y (by simp [Op.operands])]
  | unOp op t x =>
    have hx := h x (by simp [Op.operands])
    cases op <;> simp only [opW] <;> rw [hx]
  | nilCheck x => simp only [opW]; rw [h x (by simp [Op.operands])]
  | extract x i => simp only [opW]; rw [h x (by simp [Op.operands])]
  | convert s t x => simp only [opW]; rw [h x (by simp [Op.operands])]
  | load t x => simp only [opW]; rw [h x (by simp [Op.operands])]
  | fieldAddr t x i => simp only [opW]; rw [h x (by simp [Op.operands])]
  | indexAddr t x ix => simp only [opW]; rw [h x (by simp [Op.operands]), h ix (by simp [Op.operands])]
  | box t x => simp only [opW]; rw [h x (by simp [Op.operands])]
  | index t x i => simp only [opW]; rw [h x (by simp [Op.operands]), h i (by simp [Op.operands])]
  | field t x i => simp only [opW]; rw [h x (by simp [Op.operands])]
  | makeFunc fn first caps =>
    cases fn with
    | func f =>
      simp only [opW]
      have hm : caps.toList.map (ev fr) = caps.toList.map (ev fr') := List.map_congr_left fun x hx => h x (by simp [Op.operands]; exact .inr (by simpa using hx))
      have hf : first.toList.map (ev fr) = first.toList.map (ev fr') := List.map_congr_left fun x hx => h x (by simp [Op.operands]; exact .inl (by simpa using hx))
      rw [hm, hf]
    | _ => rfl
  | makeSlice t l m => simp only [opW]; rw [h l (by simp [Op.operands]), h m (by simp [Op.operands])]
  | sliceToArrayPointer t x => simp only [opW]; rw [h x (by simp [Op.operands])]
  | store t x v => simp only [opW]; rw [h x (by simp [Op.operands]), h v (by simp [Op.operands])]
  | lookup t m x ok => cases ok <;> first | rfl | (simp only [opW]; rw [h m (by simp [Op.operands]), h x (by simp [Op.operands])])
  | mapUpdate t m x v => simp only [opW]; rw [h m (by simp [Op.operands]), h x (by simp [Op.operands]), h v (by simp [Op.operands])]
  | makeMap t r => cases r <;> rfl
  | _ => rfl

/-- The blocks of hp are there in hp', the same. -/
def Agree (hp hp' : Hp) : Prop := ∀ id b, lk id hp = some b → lk id hp' = some b

theorem rows_agree {hp hp' : Hp} {sz : Nat} {v : AV} {xs : List (List AV)} (ha : Agree hp hp') (h : rowsOf hp sz v = some xs) : rowsOf hp' sz v = some xs := by
  cases v with
  | own id i0 len tot =>
    simp only [rowsOf] at h ⊢
    cases hb : lk id hp with
    | none => rw [hb] at h; cases h
    | some b => rw [hb] at h; rw [ha _ _ hb]; exact h
  | sub id i off e len cap tot =>
    simp only [rowsOf] at h ⊢
    cases hb : lk id hp with
    | none => rw [hb] at h; cases h
    | some b => rw [hb] at h; rw [ha _ _ hb]; exact h
  | d v => cases v <;> exact h
  | _ => exact h

def stillKind (P : Program) : Op → Bool
  | .move _ => true
  | .assign _ => true
  | .pick .. => true
  | .binOp _ t _ _ _ => match tyk P t with
    | .slice _ => false
    | _ => true
  | .unOp .. => true
  | .nilCheck _ => true
  | .extract .. => true
  | .convert _ t _ => match tyk P t with
    | .slice _ => false
    | _ => true
  | .sliceToArrayPointer .. => true
  | .load .. => true
  | .fieldAddr .. => true
  | .indexAddr .. => true
  | .index .. => true
  | .field .. => true
  | .build .. => true
  | .slice .. => true
  | .call cl => match cl.callee with
    | .builtin .len => true
    | _ => false
  | _ => false

def Still (P : Program) (fr : Fr) (hp : Hp) (op : Op) (v : AV) : Prop := ∀ hp' N' K', Agree hp hp' → K' v hp' → opW P fr hp' N' op K'

theorem ibin_still {op : BinOp} {k : IntKind} {x y : Int} (h : ibin op k x y K hp) : ∃ v, K v hp ∧ ∀ hp' (K' : AV → Hp → Prop), K' v hp' → ibin op k x y K' hp' := by
  cases op <;> simp only [ibin] at h ⊢
  case quo => exact ⟨_, h.2, fun _ _ q => ⟨h.1, q⟩⟩
  case rem => exact ⟨_, h.2, fun _ _ q => ⟨h.1, q⟩⟩
  case shl => exact ⟨_, h.2, fun _ _ q => ⟨h.1, q⟩⟩
  case shr => exact ⟨_, h.2, fun _ _ q => ⟨h.1, q⟩⟩
  all_goals exact ⟨_, h, fun _ _ q => q⟩

theorem bin_still0 {op : BinOp} {t : TypeId} {x y : AV} (hs : (∀ e, tyk P t ≠ .slice e) ∨ (op ≠ .eql ∧ op ≠ .neq)) (h : binW0 P op t x y K hp) : ∃ v, K v hp ∧ ∀ hp' (K' : AV → Hp → Prop), K' v hp' → binW0 P op t x y K' hp' := by
  unfold binW0 at h
  split at h
  · obtain ⟨h1, h2⟩ := h
    obtain ⟨v, q1, q2⟩ := ibin_still h2
    exact ⟨v, q1, fun hp' K' q => by simp only [binW0]; exact ⟨h1, q2 hp' K' q⟩⟩
  · split at h
    · exact ⟨_, h.2, fun hp' K' q => by simp only [binW0]; exact ⟨h.1, q⟩⟩
    · exact ⟨_, h.2, fun hp' K' q => by simp only [binW0]; exact ⟨h.1, q⟩⟩
    · exact h.elim
  · split at h
    · exact ⟨_, h, fun hp' K' q => by simp only [binW0]; exact q⟩
    · exact ⟨_, h, fun hp' K' q => by simp only [binW0]; exact q⟩
    · exact ⟨_, h, fun hp' K' q => by simp only [binW0]; exact q⟩
    · exact ⟨_, h, fun hp' K' q => by simp only [binW0]; exact q⟩
    · exact ⟨_, h, fun hp' K' q => by simp only [binW0]; exact q⟩
    · exact ⟨_, h, fun hp' K' q => by simp only [binW0]; exact q⟩
    · exact ⟨_, h.2, fun hp' K' q => by simp only [binW0]; exact ⟨h.1, q⟩⟩
    · exact h.elim
  · split at h
    all_goals first | exact h.elim | exact absurd ‹tyk P t = _› (hs.elim (fun h => h _) fun h => absurd rfl h.1) | exact absurd ‹tyk P t = _› (hs.elim (fun h => h _) fun h => absurd rfl h.2)
  · exact h.elim

theorem pn_still {op : BinOp} {t : TypeId} {b : Bool} (h : pnW P op t b K hp) : ∃ v, K v hp ∧ ∀ hp' (K' : AV → Hp → Prop), K' v hp' → pnW P op t b K' hp' := by
  obtain ⟨h1, h⟩ := h
  split at h
  · exact ⟨_, h, fun hp' K' q => ⟨h1, q⟩⟩
  · exact ⟨_, h, fun hp' K' q => ⟨h1, q⟩⟩
  · exact h.elim
theorem fnw_still {op : BinOp} {t : TypeId} {b : Bool} (h : fnW P op t b K hp) : ∃ v, K v hp ∧ ∀ hp' (K' : AV → Hp → Prop), K' v hp' → fnW P op t b K' hp' := by
  obtain ⟨h1, h⟩ := h
  split at h
  · exact ⟨_, h, fun hp' K' q => ⟨h1, q⟩⟩
  · exact ⟨_, h, fun hp' K' q => ⟨h1, q⟩⟩
  · exact h.elim
theorem ag_still {op : BinOp} {t : TypeId} {n : Nat} {el : TypeId} {k : Option IntKind} {a b : List AV} (h : agW P op t n el k a b K hp) : ∃ v, K v hp ∧ ∀ hp' (K' : AV → Hp → Prop), K' v hp' → agW P op t n el k a b K' hp' := by
  unfold agW at h ⊢
  split at h
  · split at h
    · obtain ⟨h1, h2, h3, h4, h⟩ := h
      split at h
      · exact ⟨_, h, fun hp' K' q => ⟨h1, h2, h3, h4, q⟩⟩
      · exact ⟨_, h, fun hp' K' q => ⟨h1, h2, h3, h4, q⟩⟩
      · exact h.elim
    · exact h.elim
  · exact h.elim
theorem sg_still {op : BinOp} {t : TypeId} {a b : List AV} (h : sgW P op t a b K hp) : ∃ v, K v hp ∧ ∀ hp' (K' : AV → Hp → Prop), K' v hp' → sgW P op t a b K' hp' := by
  unfold sgW at h ⊢
  split at h
  · obtain ⟨h1, h2, h3, h⟩ := h
    split at h
    · exact ⟨_, h, fun hp' K' q => ⟨h1, h2, h3, q⟩⟩
    · exact ⟨_, h, fun hp' K' q => ⟨h1, h2, h3, q⟩⟩
    · exact h.elim
  · exact h.elim
theorem bin_still {op : BinOp} {t : TypeId} {x y : AV} (hs : (∀ e, tyk P t ≠ .slice e) ∨ (op ≠ .eql ∧ op ≠ .neq)) (h : binW P op t x y K hp) : ∃ v, K v hp ∧ ∀ hp' (K' : AV → Hp → Prop), K' v hp' → binW P op t x y K' hp' := by
  unfold binW at h ⊢
  split at h
  · exact pn_still h
  · exact pn_still h
  · exact pn_still h
  · exact fnw_still h
  · exact fnw_still h
  · exact fnw_still h
  · split at h
    · exact ag_still h
    · exact sg_still h
    · exact h.elim
  · exact bin_still0 hs h

theorem still_snd {op : Op} (hk : stillKind P op = true) (h : opW P fr hp N op K) : ∃ v, K v hp ∧ Still P fr hp op v := by
  unfold Still
  cases op with
  | move x => exact ⟨_, h, fun _ _ _ _ q => q⟩
  | assign x => exact ⟨_, h, fun _ _ _ _ q => q⟩
  | pick c a b =>
    simp only [opW] at h ⊢
    split at h
    · rename_i t ht
      split at h
      · rename_i x y hx hy
        exact ⟨_, h, fun hp' N' K' ha q => q⟩
      · rename_i hn
        cases t with
        | true =>
          refine ⟨_, h.1 rfl, fun hp' N' K' ha q => ?_⟩
          exact ⟨fun _ => q, fun h => by cases h⟩
        | false =>
          refine ⟨_, h.2 rfl, fun hp' N' K' ha q => ?_⟩
          exact ⟨fun h => (by cases h), fun _ => q⟩
    · exact h.elim
  | binOp op t x y t' =>
    have hs : ∀ e, tyk P t ≠ .slice e := by
      intro e he
      simp [stillKind, he] at hk
    obtain ⟨v, h1, h2⟩ := bin_still (.inl hs) h
    exact ⟨v, h1, fun hp' N' K' _ q => h2 hp' K' q⟩
  | unOp op t x =>
    cases op with
    | not =>
      simp only [opW] at h ⊢
      split at h
      · exact ⟨_, h, fun hp' N' K' ha q => q⟩
      · exact h.elim
    | neg =>
      simp only [opW] at h ⊢
      split at h
      · exact ⟨_, h, fun hp' N' K' ha q => q⟩
      · exact h.elim
    | xor =>
      simp only [opW] at h ⊢
      split at h
      · exact ⟨_, h, fun hp' N' K' ha q => q⟩
      · exact h.elim
    | _ => exact h.elim
  | nilCheck x =>
    simp only [opW] at h ⊢
    split at h
    all_goals first | exact ⟨_, h, fun hp' N' K' ha q => q⟩ | exact h.elim
  | extract x i =>
    simp only [opW] at h ⊢
    split at h
    · split at h
      · exact ⟨_, h, fun hp' N' K' ha q => q⟩
      · exact h.elim
    · exact h.elim
  | convert s t x =>
    simp only [opW] at h ⊢
    split at h
    · obtain ⟨bs, h1, h2, h3⟩ := h
      split at h3
      · exact ⟨_, h3.2, fun hp' N' K' ha q => ⟨bs, h1, h2, h3.1, q⟩⟩
      · exact h3.elim
    · split at h
      · exact ⟨_, h, fun hp' N' K' ha q => q⟩
      · exact h.elim
    · split at h
      · rename_i el _ ht
        simp [stillKind, ht] at hk
      · exact h.elim
    · rename_i v n1 n2 n3
      obtain ⟨bs, h1, h2, h3⟩ := h
      split at h3
      · refine ⟨_, h3.2, fun hp' N' K' ha q => ⟨bs, rows_agree ha h1, h2, h3.1, q⟩⟩
      · exact h3.elim
  | sliceToArrayPointer t x =>
    simp only [opW] at h ⊢
    unfold arrW at h ⊢
    split at h
    · exact ⟨_, h.2.2, fun hp' N' K' ha q => ⟨h.1, h.2.1, q⟩⟩
    · split at h
      · rename_i b hb
        refine ⟨_, h.2.2.2, fun hp' N' K' ha q => ?_⟩
        simp only [ha _ _ hb]
        exact ⟨h.1, h.2.1, h.2.2.1, q⟩
      · exact h.elim
    · exact h.elim
  | load t x =>
    simp only [opW] at h ⊢
    split at h
    · split at h
      · rename_i b hb
        split at h
        · rename_i row hrow
          obtain ⟨ht, h⟩ := h
          split at h
          · rename_i v hv
            refine ⟨v, h, fun hp' N' K' ha q => ?_⟩
            rw [ha _ _ hb]
            simp only [hrow, hv]
            exact ⟨ht, q⟩
          · exact h.elim
        · exact h.elim
      · exact h.elim
    · split at h
      · exact ⟨_, h, fun hp' N' K' ha q => q⟩
      · exact h.elim
    · exact h.elim
  | fieldAddr t x i =>
    simp only [opW] at h ⊢
    split at h
    · exact ⟨_, h.2, fun hp' N' K' ha q => ⟨h.1, q⟩⟩
    · exact ⟨_, h.2, fun hp' N' K' ha q => ⟨h.1, q⟩⟩
    · exact h.elim
  | indexAddr t x ix =>
    simp only [opW] at h ⊢
    split at h
    · split at h
      · obtain ⟨h0, h1, h2, h⟩ := h
        split at h
        · exact ⟨_, h, fun hp' N' K' ha q => ⟨h0, h1, h2, q⟩⟩
        · exact h.elim
      · obtain ⟨h0, h1, h⟩ := h
        split at h
        · rename_i b hb
          obtain ⟨k1, k2, k3, h⟩ := h
          refine ⟨_, h, fun hp' N' K' ha q => ?_⟩
          rw [ha _ _ hb]
          exact ⟨h0, h1, k1, k2, k3, q⟩
        · exact h.elim
      · obtain ⟨h0, h1, h⟩ := h
        split at h
        · rename_i b hb
          obtain ⟨k1, k2, k3, h⟩ := h
          refine ⟨_, h, fun hp' N' K' ha q => ?_⟩
          rw [ha _ _ hb]
          exact ⟨h0, h1, k1, k2, k3, q⟩
        · exact h.elim
      · exact ⟨_, h.2.2.2, fun hp' N' K' ha q => ⟨h.1, h.2.1, h.2.2.1, q⟩⟩
      · exact ⟨_, h.2.2.2, fun hp' N' K' ha q => ⟨h.1, h.2.1, h.2.2.1, q⟩⟩
      · exact h.elim
    · exact h.elim
  | field t x i =>
    simp only [opW] at h ⊢
    split at h
    · split at h
      · exact ⟨_, h, fun hp' N' K' ha q => q⟩
      · exact h.elim
    · exact h.elim
  | index t x i =>
    simp only [opW] at h ⊢
    split at h
    · obtain ⟨h0, h1, h⟩ := h
      split at h
      · obtain ⟨h2, h⟩ := h
        split at h
        · exact ⟨_, h, fun hp' N' K' ha q => ⟨h0, h1, h2, q⟩⟩
        · exact h.elim
      · obtain ⟨h2, h⟩ := h
        split at h
        · exact ⟨_, h, fun hp' N' K' ha q => ⟨h0, h1, h2, q⟩⟩
        · exact h.elim
      · obtain ⟨h2, h⟩ := h
        split at h
        · exact ⟨_, h, fun hp' N' K' ha q => ⟨h0, h1, h2, q⟩⟩
        · exact h.elim
      · exact h.elim
    · obtain ⟨h0, h⟩ := h
      split at h
      · exact ⟨_, h, fun hp' N' K' ha q => ⟨h0, q⟩⟩
      · exact h.elim
    · exact h.elim
  | build t parts =>
    simp only [opW] at h ⊢
    split at h
    · unfold buildW at h ⊢
      split at h
      · obtain ⟨h1, h⟩ := h
        split at h
        · exact ⟨_, h, fun hp' N' K' ha q => ⟨h1, q⟩⟩
        · exact h.elim
      · obtain ⟨h1, h⟩ := h
        split at h
        · exact ⟨_, h, fun hp' N' K' ha q => ⟨h1, q⟩⟩
        · exact h.elim
      · exact h.elim
    · exact h.elim
  | slice t x lo hi m =>
    cases m with
    | some m =>
      simp only [opW] at h ⊢
      unfold slice3W at h ⊢
      split at h
      · exact ⟨_, h.2.2.2.2.2.2, fun hp' N' K' ha q => ⟨h.1, h.2.1, h.2.2.1, h.2.2.2.1, h.2.2.2.2.1, h.2.2.2.2.2.1, q⟩⟩
      · exact ⟨_, h.2.2.2.2, fun hp' N' K' ha q => ⟨h.1, h.2.1, h.2.2.1, h.2.2.2.1, q⟩⟩
      · exact ⟨_, h.2.2.2.2, fun hp' N' K' ha q => ⟨h.1, h.2.1, h.2.2.1, h.2.2.2.1, q⟩⟩
      · exact h.elim
    | none =>
      simp only [opW] at h ⊢
      generalize ev fr x = xa at h ⊢
      generalize tyk P t = k at h ⊢
      generalize bnd fr 0 lo = bl at h ⊢
      generalize bnd fr (AV.topLen k xa) hi = bh at h ⊢
      unfold sliceW at h
      split at h
      · obtain ⟨q1, q2, q3, h⟩ := h
        exact ⟨_, h, fun hp' N' K' ha q => ⟨q1, q2, q3, q⟩⟩
      · obtain ⟨q1, q2, q3, q4, q5, h⟩ := h
        exact ⟨_, h, fun hp' N' K' ha q => ⟨q1, q2, q3, q4, q5, q⟩⟩
      · split at h
        · rename_i b hb
          obtain ⟨q1, q2, q3, q4, q5, h⟩ := h
          refine ⟨_, h, fun hp' N' K' ha q => ?_⟩
          simp only [sliceW]
          rw [ha _ _ hb]
          exact ⟨q1, q2, q3, q4, q5, q⟩
        · exact h.elim
      · obtain ⟨q1, q2, q3, q4, q5, h⟩ := h
        exact ⟨_, h, fun hp' N' K' ha q => ⟨q1, q2, q3, q4, q5, q⟩⟩
      · split at h
        · rename_i b hb
          obtain ⟨q1, q2, q3, q4, q5, q6, h⟩ := h
          refine ⟨_, h, fun hp' N' K' ha q => ?_⟩
          simp only [sliceW]
          rw [ha _ _ hb]
          exact ⟨q1, q2, q3, q4, q5, q6, q⟩
        · exact h.elim
      · obtain ⟨q1, q2, q3, q4, q5, h⟩ := h
        exact ⟨_, h, fun hp' N' K' ha q => ⟨q1, q2, q3, q4, q5, q⟩⟩
      · obtain ⟨q1, q2, q3, h⟩ := h
        exact ⟨_, h, fun hp' N' K' ha q => ⟨q1, q2, q3, q⟩⟩
      · exact h.elim
  | call cl =>
    simp only [opW] at h ⊢
    cases hc : cl.callee with
    | builtin b =>
      simp only [hc] at h
      generalize cl.args.toList = as at h
      generalize cl.argTypes.toList = ts at h
      cases b with
      | len =>
        simp only
        match as, ts, h with
        | [x], [t], h =>
          simp only [biW] at h ⊢
          split at h
          · exact ⟨_, h, fun hp' N' K' ha q => q⟩
          · exact ⟨_, h, fun hp' N' K' ha q => q⟩
          · split at h
            · exact ⟨_, h, fun hp' N' K' ha q => q⟩
            · exact h.elim
          · exact h.elim
      | _ => simp [stillKind, hc] at hk
    | _ => simp [stillKind, hc] at hk
  | _ => simp [stillKind] at hk
/-- Operations that look at temporaries alone. -/
def nmOp : Op → Bool
  | .move _ => true
  | .assign _ => true
  | .binOp op _ _ _ _ => match op with
    | .eql => false
    | .neq => false
    | _ => true
  | _ => false
theorem nm_free {hp0 : Hp} {fr : Fr} {op : Op} {v : AV} (hk : nmOp op = true) (hs : Still P fr hp0 op v) (hp' : Hp) (N' : Nat) (K' : AV → Hp → Prop) (q : K' v hp') : opW P fr hp' N' op K' := by
  have h := hs hp0 0 (fun r _ => r = v) (fun _ _ h => h) rfl
  cases op with
  | move x => simp only [opW] at h ⊢; rw [h]; exact q
  | assign x => simp only [opW] at h ⊢; rw [h]; exact q
  | binOp op t x y t' =>
    simp only [opW] at h ⊢
    obtain ⟨v', h1, h2⟩ := bin_still (.inr (by cases op <;> simp [nmOp] at hk ⊢)) h
    subst h1
    exact h2 hp' K' q
  | _ => simp [nmOp] at hk
end
end Go.Am
