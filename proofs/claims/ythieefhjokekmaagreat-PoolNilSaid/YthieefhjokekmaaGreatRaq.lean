/-
  rules.checkRefs, which keeps a map of what inputs name: no two name the same, and none names nothing.
-/
import Derived.Test.YthieefhjokekmaaGreatRap
import Derived.DeepKeys4
namespace Go.Proofs.YthieefhjokekmaaGreat
open Go.Am Go.Sha
set_option linter.unusedSimpArgs false
set_option linter.unusedVariables false

/-- What an input names, as a map's key. -/
def kI (i : Ip) : List (IntKind × Int) := i.hash.map (fun (x : Nat) => (IntKind.u8, (x : Int))) ++ [(IntKind.u32, (i.idx : Int))]
theorem mapR_low (n : Nat) (ks : List (List (IntKind × Int))) : ∀ r, r ∈ mapR ks → ∀ v, v ∈ r → v.low1 n := by
  intro r hr v hv
  simp only [mapR, List.mem_cons, List.mem_map] at hr
  rcases hr with rfl | ⟨u, _, rfl⟩
  · simp at hv; subst hv; trivial
  · simp only [keyR, List.mem_map] at hv
    obtain ⟨p, _, rfl⟩ := hv
    trivial
theorem kI_row (i : Ip) : keyR (kI i) = cR i.hash i.idx := by
  unfold kI keyR cR cb
  rw [List.map_append, List.map_map]
  rfl
theorem nat_inj : ∀ {a b : List Nat}, a.map (fun (x : Nat) => (IntKind.u8, (x : Int))) = b.map (fun (x : Nat) => (IntKind.u8, (x : Int))) → a = b
  | [], [], _ => rfl
  | [], _ :: _, h => by simp at h
  | _ :: _, [], h => by simp at h
  | x :: a, y :: b, h => by
    simp only [List.map_cons, List.cons.injEq, Prod.mk.injEq, true_and] at h
    rw [nat_inj h.2, show x = y by omega]
theorem kI_eq {x y : Ip} (hx : x.hash.length = 32) (hy : y.hash.length = 32) : kI x = kI y ↔ sameI x y = true := by
  unfold kI sameI
  rw [decide_eq_true_eq]
  constructor
  · intro h
    obtain ⟨h1, h2⟩ := List.append_inj h (by simp [hx, hy])
    simp only [List.cons.injEq, Prod.mk.injEq, true_and, and_true] at h2
    exact ⟨nat_inj h1, by omega⟩
  · rintro ⟨h1, h2⟩
    rw [h1, h2]
theorem kI_mem {x : Ip} {l : List Ip} (hx : x.hash.length = 32) (hl : ∀ y, y ∈ l → y.hash.length = 32) : decide (kI x ∈ l.map kI) = l.any (sameI x) := by
  rw [Bool.eq_iff_iff, decide_eq_true_eq, List.any_eq_true, List.mem_map]
  constructor
  · rintro ⟨y, hy, e⟩
    exact ⟨y, hy, (kI_eq hx (hl y hy)).1 e.symm⟩
  · rintro ⟨y, hy, e⟩
    exact ⟨y, hy, ((kI_eq hx (hl y hy)).2 e).symm⟩
theorem mapM_there {α β : Type} (f : α → Option β) : ∀ l : List α, (∀ x, x ∈ l → ∃ y, f x = some y) → ∃ ys, l.mapM f = some ys
  | [], _ => ⟨[], rfl⟩
  | x :: l, h => by
    obtain ⟨y, hy⟩ := h x (by simp)
    obtain ⟨ys, hys⟩ := mapM_there f l fun z hz => h z (by simp [hz])
    exact ⟨y :: ys, by rw [List.mapM_cons, hy, hys]; rfl⟩
theorem kl_arr {P : Program} {d n : Nat} {t e : TypeId} {cs : List Value} (hu : P.underlying t = some (.array n e)) : P.keyLits (d + 1) t cs = if cs.length = P.cellsOf t then ((List.range n).mapM fun i => P.keyLits d e ((cs.drop (i * P.cellsOf e)).take (P.cellsOf e))).map List.flatten else none := by
  conv => lhs; unfold Program.keyLits
  rw [hu]
theorem kl_struct {P : Program} {d : Nat} {t : TypeId} {fs : Array Field} {cs : List Value} (hu : P.underlying t = some (.struct fs)) : P.keyLits (d + 1) t cs = if cs.length = P.cellsOf t ∧ fs.all (·.name != "_") = true then (fs.toList.mapM fun f => P.keyLits d f.type ((cs.drop f.offset).take (P.cellsOf f.type))).map List.flatten else none := by
  conv => lhs; unfold Program.keyLits
  rw [hu]
theorem laid9 : laidOutB Tryz.prog = true := by kernel_rfl
theorem refKeyed : Go.Maps.Keyed Tryz.prog 77 := Go.Maps.Keyed.of_law (deep_law_laid laid9 (m := 3) (by omega) (of_decide_eq_true (by kernel_rfl)) (by kernel_rfl) (by kernel_rfl))
theorem refKey (i : Ip) (hi : i.ok) (hb : bytes i.hash) : ∃ l, keyOf Tryz.prog 77 (keyV (kI i)) = some l := by
  have hsz : Tryz.prog.types.size + 1 = (Tryz.prog.types.size - 2) + 1 + 1 + 1 := by kernel_rfl
  have hlen : (kI i).length = 33 := by simp [kI, hi.1]
  have hkt : Tryz.prog.keyType 77 = true := by kernel_rfl
  have hc : Tryz.prog.cellsOf 77 = 33 := by kernel_rfl
  have hc1 : Tryz.prog.cellsOf 27 = 32 := by kernel_rfl
  have hc2 : Tryz.prog.cellsOf 22 = 1 := by kernel_rfl
  have hc3 : Tryz.prog.cellsOf 5 = 1 := by kernel_rfl
  have hfm : (keyV (kI i)).formed Tryz.prog 77 = true := by
    unfold keyV Value.formed
    rw [Tryz.underlying77]
    simp [hlen, hc]
  have hv : (keyV (kI i)).cells.toList = i.hash.map (fun (x : Nat) => Value.int .u8 (x : Int)) ++ [Value.int .u32 (i.idx : Int)] := by
    simp [keyV, Value.cells, kI]
  unfold keyOf
  rw [Tryz.underlying77]
  simp only [hkt, hfm, Bool.and_self, if_true]
  rw [hv, hsz]
  generalize Tryz.prog.types.size - 2 = m
  have h8 : ∀ (x : Nat), x < 256 → Tryz.prog.keyLits (m + 1) 5 [Value.int .u8 (x : Int)] = some [Lit.int .u8 (x : Int)] := by
    intro x hx
    simp only [Program.keyLits, Tryz.underlying5]
    have : (Lit.int .u8 (x : Int)).wf = true := by simp [Lit.wf, IntKind.min, IntKind.max, IntKind.bits, IntKind.signed]; omega
    simp [this]
  have h32 : Tryz.prog.keyLits (m + 1 + 1) 22 [Value.int .u32 (i.idx : Int)] = some [Lit.int .u32 (i.idx : Int)] := by
    simp only [Program.keyLits, Tryz.underlying22]
    have := hi.2.1
    have : (Lit.int .u32 (i.idx : Int)).wf = true := by simp [Lit.wf, IntKind.min, IntKind.max, IntKind.bits, IntKind.signed]; omega
    simp [this]
  have ha : ∃ l, Tryz.prog.keyLits (m + 1 + 1) 27 (i.hash.map fun (x : Nat) => Value.int .u8 (x : Int)) = some l := by
    rw [kl_arr Tryz.underlying27]
    obtain ⟨ys, hys⟩ := mapM_there (fun j => Tryz.prog.keyLits (m + 1) 5 (((i.hash.map fun (x : Nat) => Value.int .u8 (x : Int)).drop (j * 1)).take 1)) (List.range 32) (fun j hj => by
      rw [List.mem_range] at hj
      have hjl : j < i.hash.length := by rw [hi.1]; exact hj
      have : ((i.hash.map fun (x : Nat) => Value.int .u8 (x : Int)).drop (j * 1)).take 1 = [Value.int .u8 (i.hash[j] : Int)] := by
        rw [Nat.mul_one, List.drop_eq_getElem_cons (by simpa using hjl)]
        simp
      rw [this]
      exact ⟨_, h8 _ (hb _ (List.getElem_mem hjl))⟩)
    refine ⟨ys.flatten, ?_⟩
    rw [List.length_map, hi.1, hc1, hc3, if_pos rfl, hys]
    rfl
  obtain ⟨la, hla⟩ := ha
  rw [kl_struct Tryz.underlying77]
  have e1 : (i.hash.map fun (x : Nat) => Value.int .u8 (x : Int)).take 32 = i.hash.map fun (x : Nat) => Value.int .u8 (x : Int) := List.take_of_length_le (by simp [hi.1])
  have e2 : (i.hash.map fun (x : Nat) => Value.int .u8 (x : Int)).drop 32 = [] := List.drop_eq_nil_of_le (by simp [hi.1])
  have hla2 : Tryz.prog.keyLits (m + 2) 27 (i.hash.map fun (x : Nat) => Value.int .u8 (x : Int)) = some la := hla
  have h322 : Tryz.prog.keyLits (m + 2) 22 [Value.int .u32 (i.idx : Int)] = some [Lit.int .u32 (i.idx : Int)] := h32
  simp [hi.1, hc, hc1, hc2, hla2, h322, List.take_append, List.drop_append, e1, e2]
theorem zero4 : ∃ i, Tryz.prog.info? 4 = some i ∧ i.zero = some (.bool false) := by
  have h : (Tryz.prog.info? 4).bind (·.zero) = some (.bool false) := by kernel_rfl
  cases hi : Tryz.prog.info? 4 with
  | none => rw [hi] at h; cases h
  | some i => rw [hi] at h; exact ⟨i, rfl, h⟩
theorem refTy (us : List Ip) (h : ∀ i, i ∈ us → i.ok ∧ bytes i.hash) : MapTy Tryz.prog 271 (us.map kI) := by
  refine ⟨77, 4, Tryz.underlying271, refKeyed, fun w => by obtain ⟨i, h1, h2⟩ := zero4; exact run_zero h1 h2, fun u hu => ?_⟩
  obtain ⟨i, hi, rfl⟩ := List.mem_map.1 hu
  exact refKey i (h i hi).1 (h i hi).2
theorem eI33_row {i : Ip} (h : i.hash.length = 32) : List.take 33 (cI i) = cR i.hash i.idx := by
  rw [cI, List.take_append, cb_len, h, List.take_of_length_le (by rw [cb_len]; omega)]; rfl

set_option maxRecDepth 20000 in
set_option maxHeartbeats 4000000 in
theorem refs_ok : RefsOk := by
  intro t ht hby
  obtain ⟨⟨_, _, hi, _⟩, n1, _, _, _⟩ := ht
  refine fn_of_awp Tryz.func150 (by kernel_rfl) rfl Tryz.ntmps150 (rs := [.tmp 2]) rfl (Nat.le_of_ble_eq_true rfl) (by simp [AV.deep, AV.deep1, eT]) ?_
  generalize hF : refsGo t.ins [] false = F
  simp [go_sem, eT]
  intro g
  have hln : t.ins.length ≤ 6 := n1
  refine loop_of (fun u : Nat × Bool => ⟨[(3, .d (.int .i64 (if u.2 then 38 else 0))), (4, .mp 96), (9, .d (.ro 35 (t.ins.map eI))), (10, .d (.int .i64 (t.ins.length : Int))), (11, .d (.int .i64 (u.1 : Int)))], [(96, ⟨g, 0, mapR ((t.ins.map kI).take u.1)⟩)], 1000⟩)
    (fun u => u.1 ≤ t.ins.length ∧ refsGo (t.ins.drop u.1) (t.ins.take u.1) u.2 = F) (fun u => t.ins.length - u.1) (0, false) ⟨by simp, by simpa using hF⟩ (by
      simp [Weak, slotOk, fv, lk, AV.low, AV.low1, mapR]) ?_
  rintro ⟨k, b⟩ ⟨hk, hq⟩
  simp only at hk hq
  simp only [go_sem, Nat.reduceEqDiff, Nat.reduceAdd, Nat.reduceLT, ↓reduceIte, Nat.reduceMul]
  refine ⟨fun h => ?_, fun h => ?_⟩
  · obtain ⟨x, hx, hd⟩ := drop_of (l := t.ins) (k := k) (by omega)
    have hxo := hi x (List.mem_of_getElem? hx)
    have h32 := hxo.1
    have hcl := cI_len hxo.1
    have w3 := next_i64 (k := k) (by omega)
    have e33 := eI33_row h32
    rw [hd] at hq
    simp only [refsGo] at hq
    have hsub : ∀ i, i ∈ t.ins.take k → i ∈ t.ins := fun i hi => List.mem_of_mem_take hi
    have hmem := kI_mem h32 (l := t.ins.take k) fun y hy => (hi y (hsub y hy)).1
    have hty := refTy (x :: t.ins.take k) (by
      intro i hi'
      rcases List.mem_cons.1 hi' with rfl | h'
      · exact ⟨hxo, hby _ (List.mem_of_getElem? hx)⟩
      · exact ⟨hi i (hsub i h'), hby i (hsub i h')⟩)
    have hz33 : (cb z32 ++ [AV.d (DV.int IntKind.u32 0), AV.d (DV.int IntKind.u32 0), AV.nil]).length = 35 := by rw [List.length_append, cb_len]; rfl
    simp only [List.map_cons, List.map_take] at hmem hty
    have hz33d : (cb z32 ++ [AV.d (DV.int IntKind.u32 0), AV.d (DV.int IntKind.u32 0), AV.nil]).drop 35 = [] := List.drop_eq_nil_of_le (by omega)
    have hel := eI_len h32
    have hcR := cR_len h32 x.idx
    simp [hx, eI_cI, hcl, hel, List.take_of_length_le, hz33d, e33]
    refine ⟨_, _, kI x, rfl, rfl, rfl, (kI_row x).symm, hty, ?_⟩
    rw [hmem]
    rw [take_snoc hx] at hq
    have hsn : (t.ins.map kI).take k ++ [kI x] = (t.ins.map kI).take (k + 1) := take_snoc (by simp [hx])
    cases hs : (t.ins.take k).any (sameI x)
    · rw [hs] at hq
      simp only [Bool.false_eq_true, if_false] at hq
      simp [go_sem, hcl, e33]
      refine ⟨_, _, kI x, rfl, rfl, rfl, (kI_row x).symm, hty, by simp, ?_⟩
      rw [hsn]
      simp [go_sem, hcl, e33]
      refine cl_eq (isNull_fn x.hash x.idx h32) (by
        intro v hv
        simp only [List.mem_cons, List.mem_nil_iff, or_false] at hv
        subst hv
        intro c hc
        simp only [cR, List.mem_append, List.mem_cons, List.mem_nil_iff, or_false] at hc
        rcases hc with hc | rfl
        · exact cb_deep _ _ hc
        · trivial) ?_
      have hnull : decide (x.hash = z32 ∧ x.idx = 4294967295) = nullI x := rfl
      rw [hnull]
      cases hn : nullI x
      · rw [hn] at hq
        simp [go_sem, w3]
        refine next_of (k + 1, b) ⟨by simp only; omega, by simpa using hq⟩ (by simp only; omega) ?_
        simp [Weak, slotOk, fv, lk, AV.low, AV.low1]
        exact fun a ha v hv => mapR_low 1000 _ a ha v hv
      · rw [hn] at hq
        simp [go_sem, w3]
        refine next_of (k + 1, true) ⟨by simp only; omega, by simpa using hq⟩ (by simp only; omega) ?_
        simp [Weak, slotOk, fv, lk, AV.low, AV.low1]
        exact fun a ha v hv => mapR_low 1000 _ a ha v hv
    · rw [hs] at hq
      simp at hq
      subst hq
      simp [go_sem, resV]
      exact post_same (by simp [AV.deep, AV.deep1]) rfl
  · have hkl : k = t.ins.length := by omega
    subst hkl
    rw [List.drop_length] at hq
    simp only [refsGo] at hq
    subst hq
    simp [go_sem, resV]
    exact post_same (by simp [AV.deep, AV.deep1]) rfl

set_option maxRecDepth 100000
theorem ty_words {n : Nat} {d : DV} (h : TyD Tryz.prog (n + 2) 148 [d]) : ∃ l : List Nat, d = nw l := by
  simp only [TyD, Tryz.underlying148, List.cons.injEq, and_true] at h
  obtain ⟨es, rfl, hl, hr⟩ := h
  obtain ⟨bs, rfl, hbs⟩ := map_of (enc := fun b : Nat => [DV.int .u32 (b : Int)]) (R := fun b => b < 4294967296) (es := es) (fun r hr' => by
    obtain ⟨h1, h2⟩ := hr r hr'
    simp only [Tryz.underlying22] at h1
    obtain ⟨x, rfl, hx⟩ := h1
    have hx' : 0 ≤ x ∧ x < 4294967296 := by simp [IntKind.has, IntKind.min, IntKind.max, IntKind.signed, IntKind.bits] at hx; omega
    exact ⟨x.toNat, by rw [show ((x.toNat : Nat) : Int) = x by omega], by omega⟩)
  exact ⟨bs, by rw [show Tryz.prog.cellsOf 22 = 1 by kernel_rfl]; rfl⟩
theorem tyfs_w {n : Nat} : ∀ (m : Nat) {ds : List DV}, TyFs (TyD Tryz.prog (n + 1)) Tryz.prog.cellsOf (List.replicate m 22) ds → ∃ l : List Nat, ds = l.map (fun (x : Nat) => DV.int .u32 (x : Int)) ∧ l.length = m ∧ ∀ x, x ∈ l → x < 4294967296
  | 0, ds, h => ⟨[], by simpa [TyFs] using h, rfl, fun _ h => by simp at h⟩
  | m + 1, ds, h => by
    rw [List.replicate_succ] at h
    obtain ⟨a, b, rfl, _, h2, h3⟩ := h
    obtain ⟨x, rfl, hx⟩ := ty_u32 h2
    obtain ⟨l, rfl, hl, hb⟩ := tyfs_w m h3
    refine ⟨x :: l, by simp, by simp [hl], fun y hy => ?_⟩
    rcases List.mem_cons.1 hy with rfl | hy
    · exact hx
    · exact hb y hy
end Go.Proofs.YthieefhjokekmaaGreat
