/-
 The statement SpendTogether, proved: for every transaction and every coins the law answers true, and what was handed in reads as it did. No condition.
-/
import Derived.Test.YtmfnimjnneflnaaGreatW13
import Derived.Test.YtmfnimjnneflnaaGreatRows
namespace Go.Proofs.YtmfnimjnneflnaaGreat
open Go.ChangeShapes Go.WideShapes Go.ChangeAt Go.RowKit Go.Am Go.Sha

theorem Tryz.own : ownKnob Tryz.prog.godebug = none := by kernel_rfl
theorem Tryz.laidOut : laidOutB Tryz.prog = true := by kernel_rfl
set_option maxRecDepth 100000
theorem UJ{n : Nat}{ds : List DV}(h : jY Tryz.prog (n + 4) 68 ds) : ∃i : Ip, ds = eI i ∧ i.ok ∧ ∀x, x∈i.wit → bytes x := by
 rw[jY]at h;simp only[Tryz.underlying68, List.map_cons, List.map_nil]at h;obtain⟨a, b, rfl, ha, ha2, a', b', rfl, hb, hb2, a3, b3, rfl, hc, hc2, rfl⟩ := h;rw[jY]at ha2;simp only[Tryz.underlying66, List.map_cons, List.map_nil]at ha2;obtain⟨c, d, rfl, hc1, hc3, c', d', rfl, hd, hd2, rfl⟩ := ha2;obtain⟨hash, rfl, h1, h2⟩ := RY hc3;obtain⟨x, rfl, hx⟩ := xT hd2;obtain⟨y, rfl, hy⟩ := xT hb2;rw[show Tryz.prog.cellsOf 34 = 1 by kernel_rfl]at hc
 match a3, hc, hc2 with
 |[z], _, hc2 =>
  obtain⟨xs, rfl, h5⟩ := Gq hc2;exact⟨⟨hash, x, y, xs⟩, by simp[eI], ⟨h1, hx, hy⟩, h5⟩
theorem UK{n : Nat}{ds : List DV}(h : jY Tryz.prog (n + 6) 26 ds) : ∃t : Tn, ds.map .d = eT t ∧ t.ok ∧ (∀o, o∈t.outs → bytes o.2) ∧ ∀i, i∈t.ins → ∀x, x∈i.wit → bytes x := by
 rw[jY]at h;simp only[Tryz.underlying26, List.map_cons, List.map_nil]at h;obtain⟨a, b, rfl, ha, ha2, a', b', rfl, hb, hb2, a3, b3, rfl, hc, hc2, a4, b4, rfl, hd, hd2, rfl⟩ := h;obtain⟨v, rfl, hv⟩ := xT ha2
 have hins : ∃is : List Ip, a' = [.ro 35 (is.map eI)] ∧ ∀i, i∈is → i.ok ∧ ∀x, x∈i.wit → bytes x := by
  rw[jY]at hb2;simp only[Tryz.underlying23]at hb2;obtain⟨es, rfl, hl, hr⟩ := hb2
  obtain⟨os, rfl, hos⟩ := tw (enc := eI) (R := fun i => i.ok ∧ ∀x, x∈i.wit → bytes x) (es := es) (fun r hr' => by
   obtain⟨h1, h2⟩ := hr r hr';obtain⟨o, rfl, h3⟩ := UJ h1
   exact⟨o, rfl, h3⟩)
  exact⟨os, by rw[show Tryz.prog.cellsOf 68 = 35 by kernel_rfl], hos⟩
 obtain⟨is, rfl, his⟩ := hins;obtain⟨os, rfl, hos⟩ := Ej hc2;obtain⟨l, rfl, hl⟩ := xT hd2;exact⟨⟨v, is, os, l⟩, rfl, ⟨hv, hl, fun i hi => (his i hi).1, fun o ho => (hos o ho).1⟩, fun o ho => (hos o ho).2, fun i hi => (his i hi).2⟩
theorem LN{n : Nat}{a : AV}(h : rW Tryz.prog (n + 8) 26 a) : ∃t : Tn, a = .agg (eT t) ∧ t.ok ∧ (∀o, o∈t.outs → bytes o.2) ∧ (∀i, i∈t.ins → ∀x, x∈i.wit → bytes x) := by
 unfold rW at h;simp only[Tryz.underlying26]at h;obtain⟨ds, rfl, h⟩ := h;obtain⟨t, h1, h2, h3, h4⟩ := UK h;exact⟨t, by rw[h1], h2, h3, h4⟩
theorem Du{n : Nat}{a : AV}(h : rW Tryz.prog (n + 8) 24 a) : ∃os : List (Nat×List Nat), a = .d (.ro 2 (os.map eO)) ∧ ∀o, o∈os → o.1 < 18446744073709551616 ∧ bytes o.2 := by
 obtain⟨d, rfl, t⟩ := NM Tryz.underlying24 aw aw h;obtain⟨os, h1, h2⟩ := Ej t;rw[List.cons.injEq]at h1;obtain⟨rfl, _⟩ := h1;exact⟨os, rfl, h2⟩
theorem vi(l : List AV)(h : xA Tryz.prog 9 [26, 24] l) : au Tryz.prog 10 l (fun r => r = .d (.bool true)) := by
 obtain⟨a0, r0, rfl, h0, a1, r1, rfl, h1, rfl⟩ := h;obtain⟨t, rfl, q1, q2, q3⟩ := LN (n := 1) h0;obtain⟨os, rfl, q4⟩ := Du (n := 1) h1;exact yS t os q1 q3 q2 q4
theorem sG(os : Os)(started : os.Started)(H : Type)(enc : TypeId×Value → H) :
  ReturnsInHanded {} Tryz.checked os 10 .any (Rows.spendTogetherSpec.pre6 enc Tryz.prog Tryz.f10 Rows.spendTogetherRow.domain false) (Rows.spendTogetherSpec.post enc Tryz.prog Tryz.f10 false true false false) := by
 refine returnsInHanded_of_change (C := Tryz.checked) Tryz.own started (by kernel_rfl) Tryz.func10
  (ChangeSpec.witness6 (enc := enc) (C := Tryz.checked) false ⟨#[], #[.agg #[.int .u32 0, .slice none 0 0, .slice none 0 0, .int .u32 0], .slice none 0 0], []⟩ 8 (by kernel_rfl) (by kernel_rfl) (by kernel_rfl) (by kernel_rfl)) ?_
 intro W base args ds gs before hval0 hW hcnd _
 exact Nz (P := Tryz.prog) (n := 9) Tryz.laidOut rfl Tryz.underlying4 rfl (by kernel_rfl) (by kernel_rfl) hval0 hW
  (fun ds hd => by
   match ds, hd with
   |[a, b], _ => rfl) (by rw[Tryz.params10]; exact vi)

theorem together_holds : Rows.SpendTogetherSaid :=
 OpenClaim.holds_of_wide 10 Tryz.f10 rfl rfl rfl rfl rfl rfl rfl ⟨rfl, rfl, rfl, rfl, rfl⟩ rfl rfl rfl rfl rfl (by kernel_rfl) Tryz.func10 (by kernel_rfl)
  (of_decide_eq_true (by kernel_rfl)) (by unfold Func.isWrapper; first|(rw[if_pos (by decide +kernel)]; kernel_rfl)|(rw[if_neg (by decide +kernel)]; exact⟨rfl, rfl⟩))
  (fun os started H enc _ => sG os started H enc)

end Go.Proofs.YtmfnimjnneflnaaGreat
