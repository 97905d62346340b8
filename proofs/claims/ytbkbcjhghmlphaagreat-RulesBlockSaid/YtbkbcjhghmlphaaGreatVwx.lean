/-
  Words: bytes.Clone, Push, in both texts.
-/
import Derived.Test.YtbkbcjhghmlphaaGreatRax
import Derived.Test.YtbkbcjhghmlphaaGreatAmLaw
namespace Go.Sha
/-- A word: its operation, what it pushes. -/
abbrev Wd := Nat × List Nat
def pushG (x : List Nat) : Wd := (if x.length ≤ 75 then x.length else if x.length ≤ 255 then 76 else 77, x)
def pushW (x : List Nat) : Wd :=
  match x with
  | [c] => if 1 ≤ c ∧ c ≤ 16 then (80 + c, []) else if c = 129 then (79, []) else pushG [c]
  | x => pushG x
theorem pushW_long {x : List Nat} (h : x.length ≠ 1) : pushW x = pushG x := by
  match x, h with
  | [], _ => rfl
  | [c], h => exact absurd rfl h
  | _ :: _ :: _, _ => rfl
theorem t8_lt {x : Nat} (h : x < 256) : t8 x = x := Nat.mod_eq_of_lt h
end Go.Sha
namespace Go.Proofs.YtbkbcjhghmlphaaGreat
open Go.Am Go.Sha
set_option linter.unusedSimpArgs false
set_option linter.unusedVariables false

def encW (w : Wd) : List DV := [.int .u8 (w.1 : Int), nb w.2]
def wcs (w : Wd) : List AV := [.d (.int .u8 (w.1 : Int)), .d (nb w.2)]

end Go.Proofs.YtbkbcjhghmlphaaGreat

/-
  Words laid and built, in both texts.
-/
namespace Go.Sha
set_option linter.unusedSimpArgs false
/-- A word's bytes, and whether it may be. -/
def layW (w : Wd) : List Nat × Bool :=
  if 0 < w.1 ∧ w.1 ≤ 75 then (w.1 :: w.2, decide (w.2.length = w.1))
  else if w.1 = 76 then (76 :: t8 w.2.length :: w.2, decide (w.2.length ≤ 255))
  else if w.1 = 77 then (77 :: t8 w.2.length :: t8 (r32 8 w.2.length) :: w.2, decide (w.2.length ≤ 65535))
  else ([w.1], decide (w.2.length = 0))
theorem layW_len (w : Wd) : (layW w).1.length ≤ w.2.length + 3 := by
  unfold layW
  split
  · simp
  · split
    · simp
    · split
      · simp
      · simp
/-- Words built behind so many bytes. -/
def bldW : List Nat → List Wd → List Nat × Int
  | out, [] => (out, 0)
  | out, w :: r => if (layW w).2 = true then bldW (out ++ (layW w).1) r else ([], 1)
/-- The other text's. -/
def refW (w : Wd) : List Nat := [w.1] ++ (if w.1 = 76 ∨ w.1 = 77 then [t8 w.2.length] else []) ++ (if w.1 = 77 then [t8 (r32 8 w.2.length)] else []) ++ w.2
theorem refW_eq {w : Wd} (h : (layW w).2 = true) : refW w = (layW w).1 := by
  unfold layW at h ⊢
  unfold refW
  by_cases h1 : 0 < w.1 ∧ w.1 ≤ 75
  · have n1 : ¬ (w.1 = 76 ∨ w.1 = 77) := by omega
    have n2 : ¬ w.1 = 77 := by omega
    rw [if_pos h1, if_neg n1, if_neg n2]
    simp
  · by_cases h2 : w.1 = 76
    · simp [h1, h2]
    · by_cases h3 : w.1 = 77
      · simp [h1, h2, h3]
      · rw [if_neg h1, if_neg h2, if_neg h3] at h
        have : w.2 = [] := by simpa using h
        simp [h1, h2, h3, this]
end Go.Sha
namespace Go.Proofs.YtbkbcjhghmlphaaGreat
open Go.Am Go.Sha
set_option linter.unusedSimpArgs false
set_option linter.unusedVariables false

theorem wcs_deep (w : Wd) : ∀ c, c ∈ wcs w → c.deep1 := by
  intro c hc
  simp [wcs] at hc
  rcases hc with rfl | rfl <;> trivial
theorem post_lay {Q : AV → Prop} {st : St} {id n : Nat} {b : Bool} {L : List Nat} (hl : L.length = n) (hb : lk id st.hp = some ⟨5, 1, rb L⟩) (hq : Q (.tup [.d (nb L), .d (.bool b)])) : PostK Q (.tup [.own id 0 n n, .d (.bool b)]) st :=
  post_tup (snap1_cons (snap1_d (snap_full hl hb trivial)) (snap1_cons (snap1_same trivial) snap1_nil)) rfl (by simp [AV.deep, AV.deep1]) hq

end Go.Proofs.YtbkbcjhghmlphaaGreat

/-
  Words: Build in both texts; a vault's updated script in both texts.
-/
namespace Go.Sha
def bldR : List Nat → List Wd → List Nat × Int
  | out, [] => (out, 0)
  | out, w :: r => if (layW w).2 = true then bldR (out ++ refW w) r else ([], 1)
theorem bldR_eq : ∀ (ws : List Wd) (out : List Nat), bldR out ws = bldW out ws
  | [], out => rfl
  | w :: r, out => by
    simp only [bldR, bldW]
    split
    · rename_i h
      rw [refW_eq h]
      exact bldR_eq r _
    · rfl
theorem refW_len (w : Wd) : (refW w).length ≤ w.2.length + 3 := by
  unfold refW
  simp only [List.length_append]
  split <;> split <;> simp <;> omega
/-- The updated script: of things, behind so many bytes. -/
def updL : List Nat → List (List Nat) → Option (List Nat)
  | out, [] => some out
  | out, x :: r => if 1000 < x.length then none else updL (out ++ (layW (pushW x)).1) r
def updW (things : List (List Nat)) (body : List Nat) : List Nat × Int :=
  match updL [] things with
  | none => ([], 4)
  | some out => if 1000 < (out ++ body).length then ([], 4) else (out ++ body, 0)
theorem push_ok {x : List Nat} (h : x.length ≤ 1000) : (layW (pushW x)).2 = true := by
  have g : (layW (pushG x)).2 = true := by
    unfold pushG layW
    by_cases h1 : x.length ≤ 75
    · by_cases h0 : x.length = 0
      · have : x = [] := List.eq_nil_of_length_eq_zero h0
        subst this
        rfl
      · have : 0 < x.length ∧ x.length ≤ 75 := by omega
        simp [h1, this]
    · by_cases h2 : x.length ≤ 255
      · simp [h1, h2]
      · simp [h1, h2]
        omega
  match x, g with
  | [], g => exact g
  | [c], g =>
    show (layW (if 1 ≤ c ∧ c ≤ 16 then (80 + c, []) else if c = 129 then (79, []) else pushG [c])).2 = true
    by_cases hA : 1 ≤ c ∧ c ≤ 16
    · rw [if_pos hA]
      unfold layW
      have n1 : ¬ (0 < 80 + c ∧ 80 + c ≤ 75) := by omega
      have n2 : ¬ 80 + c = 76 := by omega
      have n3 : ¬ 80 + c = 77 := by omega
      simp [n1, n2, n3]
    · rw [if_neg hA]
      by_cases hB : c = 129
      · rw [if_pos hB]; rfl
      · rw [if_neg hB]; exact g
  | _ :: _ :: _, g => exact g
end Go.Sha
namespace Go.Sha
theorem pushW_len (x : List Nat) : (pushW x).2.length ≤ x.length := by
  match x with
  | [] => exact Nat.le_refl _
  | [c] =>
    show (if 1 ≤ c ∧ c ≤ 16 then (80 + c, []) else if c = 129 then (79, []) else pushG [c]).2.length ≤ 1
    split
    · simp
    · split
      · simp
      · exact Nat.le_refl _
  | _ :: _ :: _ => exact Nat.le_refl _
end Go.Sha
namespace Go.Proofs.YtbkbcjhghmlphaaGreat
open Go.Am Go.Sha
set_option linter.unusedSimpArgs false
set_option linter.unusedVariables false

/-- A word such as these texts speak of. -/
def WdOk (w : Wd) : Prop := w.2.length ≤ 60000 ∧ w.1 < 256
theorem post_bld {Q : AV → Prop} {st : St} {id : Nat} {e : Int} {L : List Nat} (hb : lk id st.hp = some ⟨5, 1, rb L⟩) (hq : Q (.tup [.d (nb L), .d (.int .i64 e)])) : PostK Q (.tup [.own id 0 L.length L.length, .d (.int .i64 e)]) st :=
  post_tup (snap1_cons (snap1_d (snap_full rfl hb trivial)) (snap1_cons (snap1_same trivial) snap1_nil)) rfl (by simp [AV.deep, AV.deep1]) hq
theorem post_bld0 {Q : AV → Prop} {st : St} {e : Int} (hq : Q (.tup [.d (nb []), .d (.int .i64 e)])) : PostK Q (.tup [.nil, .d (.int .i64 e)]) st :=
  post_tup (snap1_cons (snap1_d (.nil 1)) (snap1_cons (snap1_same trivial) snap1_nil)) rfl (by simp [AV.deep, AV.deep1]) hq

def encT (x : List Nat) : List DV := [nb x]
theorem encT_row {things : List (List Nat)} {k : Nat} {x : List Nat} (h : things[k]? = some x) : (things.map encT)[k]? = some [nb x] := by rw [List.getElem?_map, h]; rfl
theorem pushW_ok {x : List Nat} (h : x.length ≤ 60000) (hb : bytes x) : WdOk (pushW x) := by
  have g : WdOk (pushG x) := by
    unfold pushG
    refine ⟨h, ?_⟩
    simp only
    split
    · omega
    · split <;> omega
  match x, hb, g with
  | [], _, g => exact g
  | [c], hb, g =>
    show WdOk (if 1 ≤ c ∧ c ≤ 16 then (80 + c, []) else if c = 129 then (79, []) else pushG [c])
    by_cases hA : 1 ≤ c ∧ c ≤ 16
    · rw [if_pos hA]; exact ⟨by simp, by simp only; omega⟩
    · rw [if_neg hA]
      by_cases hB : c = 129
      · rw [if_pos hB]; exact ⟨by simp, by simp⟩
      · rw [if_neg hB]; exact g
  | _ :: _ :: _, _, g => exact g
end Go.Proofs.YtbkbcjhghmlphaaGreat

/-
  The other text's words built; its updated script.
-/
namespace Go.Proofs.YtbkbcjhghmlphaaGreat
open Go.Am Go.Sha
set_option linter.unusedSimpArgs false
set_option linter.unusedVariables false

theorem int_dec {a b : Nat} : decide ((a : Int) = (b : Int)) = decide (a = b) := by congr 1; exact propext (by omega)

def catR (ws : List Wd) : List Nat := (ws.map refW).flatten
/-- The words of things, so many of them. -/
def wdsT (things : List (List Nat)) : List Wd := things.map pushW
theorem updL_cat : ∀ (things : List (List Nat)) (out : List Nat), (∀ x, x ∈ things → x.length ≤ 1000) → updL out things = some (out ++ catR (wdsT things))
  | [], out, _ => by simp [updL, catR, wdsT]
  | x :: r, out, h => by
    have hx := h x (List.mem_cons_self ..)
    simp only [updL]
    rw [if_neg (by omega), updL_cat r _ (fun y hy => h y (List.mem_cons_of_mem _ hy)), ← refW_eq (push_ok hx)]
    simp [catR, wdsT]
theorem updL_none : ∀ (things : List (List Nat)) (out : List Nat) (k : Nat) (x : List Nat), things[k]? = some x → 1000 < x.length → updL out things = none
  | [], out, k, x, h, _ => by simp at h
  | y :: r, out, 0, x, h, hl => by
    simp at h
    subst h
    simp only [updL]
    rw [if_pos hl]
  | y :: r, out, k + 1, x, h, hl => by
    simp only [updL]
    split
    · rfl
    · exact updL_none r _ k x (by simpa using h) hl

theorem catR_len : ∀ (things : List (List Nat)), (∀ x, x ∈ things → x.length ≤ 1000) → (catR (wdsT things)).length ≤ 1003 * things.length
  | [], _ => by simp [catR, wdsT]
  | x :: r, h => by
    have ih := catR_len r fun y hy => h y (List.mem_cons_of_mem _ hy)
    have hx := h x (List.mem_cons_self ..)
    have h1 := refW_len (pushW x)
    have h2 := pushW_len x
    have e : (catR (wdsT (x :: r))).length = (refW (pushW x)).length + (catR (wdsT r)).length := by simp [catR, wdsT]
    rw [e, List.length_cons]
    omega
end Go.Proofs.YtbkbcjhghmlphaaGreat

/-
  Recovery hashes in both texts; claims owed and settled; the live question of layer 21.
-/
namespace Go.Proofs.YtbkbcjhghmlphaaGreat
open Go.Am Go.Sha
set_option linter.unusedSimpArgs false
set_option linter.unusedVariables false

def recTag : List Nat := [86, 97, 117, 108, 116, 82, 101, 99, 111, 118, 101, 114, 121]
def recB (x : List Nat) : List Nat := tagB recTag (putSize x.length ++ x)
theorem recB_len (x : List Nat) : (recB x).length = 32 := sumB_len _

def encClaim (c : Int × Int) : List DV := [.int .i64 c.1, .int .u64 c.2]
def encOut (o : Int × List Nat) : List DV := [.int .u64 o.1, nb o.2]
/-- owed: what the claims ask of output 'out', s so far. -/
def owed (out : Int) : List (Int × Int) → Int → Int × Int
  | [], s => (s, 0)
  | c :: r, s => if c.1 ≠ out then owed out r s else if IntKind.u64.wrap (s + c.2) < c.2 then (0, 31) else owed out r (IntKind.u64.wrap (s + c.2))

/-- Are all claims of outputs that are there? -/
def chk1 (n : Int) : List (Int × Int) → Bool
  | [] => true
  | c :: r => if c.1 < 0 then false else if n ≤ c.1 then false else chk1 n r
/-- Has each output what is asked of it? -/
def chk2 (cs : List (Int × Int)) : Nat → List (Int × List Nat) → Bool
  | _, [] => true
  | i, o :: r => if (owed i cs 0).2 ≠ 0 then false else if o.1 < (owed i cs 0).1 then false else chk2 cs (i + 1) r
def settle (outs : List (Int × List Nat)) (cs : List (Int × Int)) : Int := if chk1 outs.length cs then (if chk2 cs 0 outs then 0 else 40) else 1

theorem cvS_nb {P : Program} {s t : TypeId} {Kk : AV → Hp → Prop} {hp : Hp} (l : List Nat) (el : TypeId) (hb : bytes l) (h1 : tyk P s = .slice el) (h2 : tyk P t = .str) (h3 : P.underlying el = some (.int .u8)) (hK : Kk (.d (.str (sb l))) hp) : cvS P s t (l.map fun (x : Nat) => [DV.int .u8 (x : Int)]) Kk hp := by
  refine ⟨sb l, by simp [sb], fun b h => ?_, ?_⟩
  · simp only [sb, List.mem_map] at h
    obtain ⟨x, hx, rfl⟩ := h
    have := hb x hx
    omega
  · rw [h1, h2]
    exact ⟨h3, hK⟩
end Go.Proofs.YtbkbcjhghmlphaaGreat

/-
  The law VaultScripts.
-/
namespace Go.Proofs.YtbkbcjhghmlphaaGreat
open Go.Am Go.Sha
set_option linter.unusedSimpArgs false
set_option linter.unusedVariables false

theorem layW_bytes {w : Wd} (h8 : w.1 < 256) (hp : bytes w.2) : bytes (layW w).1 := by
  unfold layW
  split
  · intro y hy
    rcases List.mem_cons.1 hy with rfl | hy
    · exact h8
    · exact hp y hy
  · split
    · intro y hy
      simp only [List.mem_cons] at hy
      rcases hy with rfl | rfl | hy
      · omega
      · exact le_bytes _
      · exact hp y hy
    · split
      · intro y hy
        simp only [List.mem_cons] at hy
        rcases hy with rfl | rfl | rfl | hy
        · omega
        · exact le_bytes _
        · exact le_bytes _
        · exact hp y hy
      · intro y hy
        simp only [List.mem_singleton] at hy
        rw [hy]; exact h8
theorem pushW_bytes {x : List Nat} (hb : bytes x) : bytes (pushW x).2 := by
  match x, hb with
  | [], hb => exact hb
  | [c], hb =>
    show bytes (if 1 ≤ c ∧ c ≤ 16 then (80 + c, []) else if c = 129 then (79, []) else pushG [c]).2
    split
    · intro y hy; simp at hy
    · split
      · intro y hy; simp at hy
      · exact hb
  | _ :: _ :: _, hb => exact hb
theorem bytes_app {a b : List Nat} (ha : bytes a) (hb : bytes b) : bytes (a ++ b) := fun y hy => (List.mem_append.1 hy).elim (ha y) (hb y)
theorem updL_bytes : ∀ (things : List (List Nat)) (out o : List Nat), bytes out → (∀ x, x ∈ things → x.length ≤ 60000 ∧ bytes x) → updL out things = some o → bytes o
  | [], out, o, h, _, e => by simp only [updL, Option.some.injEq] at e; subst e; exact h
  | x :: r, out, o, h, ht, e => by
    obtain ⟨q1, q2⟩ := ht x (List.mem_cons_self ..)
    simp only [updL] at e
    split at e
    · cases e
    · exact updL_bytes r _ o (bytes_app h (layW_bytes (pushW_ok q1 q2).2 (pushW_bytes q2))) (fun y hy => ht y (List.mem_cons_of_mem _ hy)) e
theorem updW_bytes {things : List (List Nat)} {body : List Nat} (hb : bytes body) (ht : ∀ x, x ∈ things → x.length ≤ 60000 ∧ bytes x) : bytes (updW things body).1 := by
  unfold updW
  cases h : updL [] things with
  | none => intro y hy; simp at hy
  | some o =>
    have := updL_bytes things [] o (by intro y hy; simp at hy) ht h
    simp only
    split
    · intro y hy; simp at hy
    · exact bytes_app this hb

set_option maxRecDepth 100000
theorem arg_one {n : Nat} {t : TypeId} {a : AV} {k : TypeDesc} (hu : Tryz.prog.underlying t = some k) (hk : ∀ fs, k ≠ .struct fs) (hk2 : ∀ m e, k ≠ .array m e) (h : ArgTy Tryz.prog n t a) : ∃ d, a = .d d ∧ TyD Tryz.prog n t [d] := by
  unfold ArgTy at h
  rw [hu] at h
  cases k <;> first | exact h | exact absurd rfl (hk _) | exact absurd rfl (hk2 _ _)
theorem ty_things {n : Nat} {d : DV} (h : TyD Tryz.prog (n + 3) 55 [d]) : ∃ xs : List (List Nat), d = .ro 1 (xs.map encT) ∧ ∀ x, x ∈ xs → bytes x := by
  rw [TyD] at h
  simp only [Tryz.underlying55, List.cons.injEq, and_true] at h
  obtain ⟨es, rfl, hl, hr⟩ := h
  obtain ⟨xs, rfl, hxs⟩ := map_of (enc := encT) (R := fun x => bytes x) (es := es) (fun r hr' => by
    obtain ⟨h1, h2⟩ := hr r hr'
    rw [show Tryz.prog.cellsOf 48 = 1 by kernel_rfl] at h2
    match r, h1, h2 with
    | [y], h1, _ =>
      obtain ⟨x, rfl, _, hb⟩ := ty_bytes h1
      exact ⟨x, rfl, hb⟩)
  exact ⟨xs, by rw [show Tryz.prog.cellsOf 48 = 1 by kernel_rfl], hxs⟩
end Go.Proofs.YtbkbcjhghmlphaaGreat
