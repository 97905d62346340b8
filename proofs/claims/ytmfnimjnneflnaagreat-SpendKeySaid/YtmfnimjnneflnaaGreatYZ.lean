/-
 The statement SpendKey, proved: for every spending, every secret and both annexes the law answers true, and what was handed in reads as it did. No condition.
-/
import Derived.Test.YtmfnimjnneflnaaGreatY14
import Derived.Test.YtmfnimjnneflnaaGreatRows
namespace Go.Proofs.YtmfnimjnneflnaaGreat
open Go.ChangeShapes Go.WideShapes Go.ChangeAt Go.RowKit Go.Am Go.Sha

theorem Tryz.own : ownKnob Tryz.prog.godebug = none := by kernel_rfl
theorem Tryz.laidOut : laidOutB Tryz.prog = true := by kernel_rfl
set_option maxRecDepth 100000
theorem IN{n : Nat}{ds : List DV}(h : fD Tryz.prog (n + 4) 68 ds) : ∃i : Ip, ds = eI i ∧ i.ok ∧ ∀x, x∈i.wit → bytes x := by
 rw[fD]at h;simp only[Tryz.underlying68, List.map_cons, List.map_nil]at h;obtain⟨a, b, rfl, ha, ha2, a', b', rfl, hb, hb2, a3, b3, rfl, hc, hc2, rfl⟩ := h;rw[fD]at ha2;simp only[Tryz.underlying66, List.map_cons, List.map_nil]at ha2;obtain⟨c, d, rfl, hc1, hc3, c', d', rfl, hd, hd2, rfl⟩ := ha2;obtain⟨hash, rfl, h1, h2⟩ := Hh hc3;obtain⟨x, rfl, hx⟩ := ql hd2;obtain⟨y, rfl, hy⟩ := ql hb2;rw[show Tryz.prog.cellsOf 34 = 1 by kernel_rfl]at hc
 match a3, hc, hc2 with
 |[z], _, hc2 =>
  obtain⟨xs, rfl, h5⟩ := xN hc2;exact⟨⟨hash, x, y, xs⟩, by simp[eI], ⟨h1, hx, hy⟩, h5⟩
theorem IOa{n : Nat}{ds : List DV}(h : fD Tryz.prog (n + 6) 26 ds) : ∃t : Tn, ds.map .d = eT t ∧ t.ok ∧ (∀o, o∈t.outs → bytes o.2) ∧ ∀i, i∈t.ins → ∀x, x∈i.wit → bytes x := by
 rw[fD]at h;simp only[Tryz.underlying26, List.map_cons, List.map_nil]at h;obtain⟨a, b, rfl, ha, ha2, a', b', rfl, hb, hb2, a3, b3, rfl, hc, hc2, a4, b4, rfl, hd, hd2, rfl⟩ := h;obtain⟨v, rfl, hv⟩ := ql ha2
 have hins : ∃is : List Ip, a' = [.ro 35 (is.map eI)] ∧ ∀i, i∈is → i.ok ∧ ∀x, x∈i.wit → bytes x := by
  rw[fD]at hb2;simp only[Tryz.underlying23]at hb2;obtain⟨es, rfl, hl, hr⟩ := hb2
  obtain⟨os, rfl, hos⟩ := nf (enc := eI) (R := fun i => i.ok ∧ ∀x, x∈i.wit → bytes x) (es := es) (fun r hr' => by
   obtain⟨h1, h2⟩ := hr r hr';obtain⟨o, rfl, h3⟩ := IN h1
   exact⟨o, rfl, h3⟩)
  exact⟨os, by rw[show Tryz.prog.cellsOf 68 = 35 by kernel_rfl], hos⟩
 obtain⟨is, rfl, his⟩ := hins;obtain⟨os, rfl, hos⟩ := vP hc2;obtain⟨l, rfl, hl⟩ := ql hd2;exact⟨⟨v, is, os, l⟩, rfl, ⟨hv, hl, fun i hi => (his i hi).1, fun o ho => (hos o ho).1⟩, fun o ho => (hos o ho).2, fun i hi => (his i hi).2⟩
theorem E1{n : Nat}{a : AV}(h : jT Tryz.prog (n + 8) 28 a) : ∃(t : Tn)(m : Int)(coins : List (Nat×List Nat)), a = .agg (eS t m coins) ∧ t.ok ∧ (∀o, o∈t.outs → bytes o.2) ∧ (∀i, i∈t.ins → ∀x, x∈i.wit → bytes x) ∧ ∀o, o∈coins → o.1 < 18446744073709551616 ∧ bytes o.2 := by
 unfold jT at h;simp only[Tryz.underlying28]at h;obtain⟨ds, rfl, h⟩ := h;rw[fD]at h;simp only[Tryz.underlying28, List.map_cons, List.map_nil]at h;obtain⟨a, b, rfl, ha, ha2, a', b', rfl, hb, hb2, a3, b3, rfl, hc, hc2, rfl⟩ := h;obtain⟨t, h1, h2, h3, h4⟩ := IOa ha2;rw[fD]at hb2;simp only[Tryz.underlying3]at hb2;obtain⟨m, rfl, _⟩ := hb2;obtain⟨os, rfl, hos⟩ := vP hc2;refine⟨t, m, os, ?_, h2, h3, h4, hos⟩;rw[List.map_append, h1];rfl
theorem BV{n : Nat} : ∀(m : Nat){ds : List DV}, rO (fD Tryz.prog (n + 1)) Tryz.prog.cellsOf (List.replicate m 53) ds → ∃l : List Int, ds.map .d = cI l ∧ Wn m l
 |0, ds, h => ⟨[], by simpa[rO, cI]using h, rfl, fun _ h => by simp at h⟩
 | m + 1, ds, h => by
  rw[List.replicate_succ]at h;obtain⟨a, b, rfl, _, h2, h3⟩ := h;simp only[fD, Tryz.underlying53]at h2;obtain⟨x, rfl, hx⟩ := h2;obtain⟨l, h4, hl, hb⟩ := BV m h3;have hx' : 0 ≤ x ∧ x < 18446744073709551616 := by simp[IntKind.has, IntKind.min, IntKind.max, IntKind.signed, IntKind.bits]at hx; omega
  refine⟨x::l, ?_, by simp[hl], fun y hy => ?_⟩
  ·rw[List.map_append, h4];rfl
  ·rcases d_.1 hy with rfl|hy
   ·exact hx'
   ·exact hb y hy
theorem BW{n : Nat}{a : AV}(h : jT Tryz.prog (n + 2) 96 a) : ∃l : List Int, a = .agg (cI l) ∧ Wn 4 l := by
 unfold jT at h;simp only[Tryz.underlying96]at h;obtain⟨ds, rfl, h⟩ := h;rw[fD]at h;simp only[Tryz.underlying96]at h;obtain⟨l, h1, h2⟩ := BV 4 h;exact⟨l, by rw[h1], h2⟩
theorem BX{n : Nat}{a : AV}(h : jT Tryz.prog (n + 1) 4 a) : ∃b : Bool, a = .d (.bool b) := by
 obtain⟨d, rfl, h4⟩ := DX Tryz.underlying4 aw aw h;simp only[fD, Tryz.underlying4]at h4;obtain⟨b, h3⟩ := h4;rw[List.cons.injEq]at h3;obtain⟨rfl, _⟩ := h3;exact⟨b, rfl⟩
theorem yu(l : List AV)(h : qa Tryz.prog 9 [28, 96, 4] l) : au Tryz.prog 11 l (fun r => r = .d (.bool true)) := by
 obtain⟨a0, r0, rfl, h0, a1, r1, rfl, h1, a2, r2, rfl, h2, rfl⟩ := h;obtain⟨t, m, os, rfl, q1, q2, q3, q4⟩ := E1 (n := 1) h0;obtain⟨sec, rfl, q5⟩ := BW (n := 7) h1;obtain⟨b, rfl⟩ := BX (n := 8) h2;exact E0 t m os sec b q1 q3 q2 q4 q5
theorem s6(os : Os)(started : os.Started)(H : Type)(enc : TypeId×Value → H) :
  ReturnsInHanded {} Tryz.checked os 11 .any (Rows.spendKeySpec.pre6 enc Tryz.prog Tryz.f11 Rows.spendKeyRow.domain false) (Rows.spendKeySpec.post enc Tryz.prog Tryz.f11 false true false false) := by
 refine returnsInHanded_of_change (C := Tryz.checked) Tryz.own started (by kernel_rfl) Tryz.func11
  (ChangeSpec.witness6 (enc := enc) (C := Tryz.checked) false ⟨#[], #[.agg #[.int .u32 0, .slice none 0 0, .slice none 0 0, .int .u32 0, .int .i64 0, .slice none 0 0], .agg (Array.replicate 4 (.int .u64 0)), .bool false], []⟩ 8 (by kernel_rfl) (by kernel_rfl) (by kernel_rfl) (by kernel_rfl)) ?_
 intro W base args ds gs before hval0 hW hcnd _
 exact DJ (P := Tryz.prog) (n := 9) Tryz.laidOut rfl Tryz.underlying4 rfl (by kernel_rfl) (by kernel_rfl) hval0 hW
  (fun ds hd => by
   match ds, hd with
   |[a, b, c], _ => rfl) (by rw[Tryz.params11]; exact yu)

theorem skey_holds : Rows.SpendKeySaid :=
 OpenClaim.holds_of_wide 11 Tryz.f11 rfl rfl rfl rfl rfl rfl rfl ⟨rfl, rfl, rfl, rfl, rfl⟩ rfl rfl rfl rfl rfl (by kernel_rfl) Tryz.func11 (by kernel_rfl)
  (of_decide_eq_true (by kernel_rfl)) (by unfold Func.isWrapper; first|(rw[if_pos (by decide +kernel)]; kernel_rfl)|(rw[if_neg (by decide +kernel)]; exact⟨rfl, rfl⟩))
  (fun os started H enc _ => s6 os started H enc)

end Go.Proofs.YtmfnimjnneflnaaGreat
