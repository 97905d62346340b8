/-
  Bytes compared: the function without code, and bytes.Compare.
-/
import Derived.Test.YtiihldilefeldaaCpu
import Derived.Lib.BytesEntry
namespace Go.Proofs.Ytiihldilefeldaa
open Go.Am Go.Sha
set_option linter.unusedSimpArgs false
set_option linter.unusedVariables false

def u8s (a : List Nat) : List UInt8 := Lib.bytesOf (a.map fun (x : Nat) => (x : Int))

theorem run_bytes {P : Program} {w : World} {S : Nat → Prop} {σ : Nat → Option Nat} {hp : Hp} {U : Nat → Prop} {a : List Nat} {x : Value} (h : AIs w S σ hp U (.d (nb a)) x) : (Extern.Bytes.bytesOf x).run P w = .ok ⟨(u8s a).toArray⟩ w := by
  cases h with
  | d h =>
    unfold nb at h
    generalize hes : (a.map fun (b : Nat) => [DV.int .u8 (b : Int)]) = es at h
    cases h with
    | ro _ _ A c vs hc he hA hv hd =>
      have hlen : es.length = a.length := by rw [← hes, List.length_map]
      cases A with
      | none =>
        have : a = [] := by
          cases a with
          | nil => rfl
          | cons y r =>
            obtain ⟨ad, h1, _⟩ := hA [DV.int .u8 (y : Int)] (by rw [← hes]; simp)
            cases h1
        subst this
        simp [Extern.Bytes.bytesOf, u8s, Lib.bytesOf]
        rfl
      | some ad =>
        have hl := Lib.run_loadBytesX (P := P) w (a.map fun (x : Nat) => (x : Int)) ad .empty (fun j y hj => by
          simp only [List.getElem?_map, Option.map_eq_some_iff] at hj
          obtain ⟨z, hz, rfl⟩ := hj
          have h1 : es[j]? = some [DV.int .u8 (z : Int)] := by rw [← hes, List.getElem?_map, hz]; rfl
          have h2 := hv ad rfl j 0 _ _ h1 rfl
          have h3 := hd j 0 _ _ h1 rfl
          rw [Nat.mul_one, Nat.add_zero] at h2
          rw [h2]
          generalize vs j 0 = u at h3
          cases h3
          rfl)
        rw [List.length_map] at hl
        show (Extern.Bytes.loadBytes ad es.length .empty).run P w = _
        rw [hlen, hl]
        congr 2
        simp [u8s]

theorem cmp_ext (a b : List Nat) : ExtOk Try.prog 79 [.d (nb a), .d (nb b)] (.d (.int .i64 (Lib.compareBytes (u8s a) (u8s b)))) := by
  intro w S σ hp U vs hl hv
  match vs, hl with
  | [x, y], _ =>
    have hx := run_bytes (P := Try.prog) (hv 0 _ x rfl rfl)
    have hy := run_bytes (P := Try.prog) (hv 1 _ y rfl rfl)
    refine ⟨.int .i64 (Lib.compareBytes (u8s a) (u8s b)), ?_, .d (.int _ _)⟩
    have hc : (Extern.BytealgCompare.compare #[x, y]).run Try.prog w = .ok (.int .i64 (Lib.compareBytes (u8s a) (u8s b))) w := by
      change Sem.run Try.prog (do pure (goInt (Extern.BytealgCompare.cmp (← Extern.Bytes.bytesOf x) (← Extern.Bytes.bytesOf y)))) w = _
      simp only [Sem.run_bind, hx, hy, Result.andThen_ok, Sem.run_pure, Lib.cmp_eq]
      rfl
    rw [run_callFunc_extern Try.func79 (by kernel_rfl) (by kernel_rfl) (by kernel_rfl) (e := Extern.BytealgCompare.compare) (by kernel_rfl), hc]
    rfl

theorem compare_fn (a b : List Nat) : Rets Try.prog 46 [.d (nb a), .d (nb b)] (fun r => r = .d (.int .i64 (Lib.compareBytes (u8s a) (u8s b)))) := by
  refine fn_of_awp Try.func46 (by kernel_rfl) rfl Try.ntmps46 (rs := [.tmp 4]) rfl (Nat.le_of_ble_eq_true rfl) (by simp [AV.deep, AV.deep1]) ?_
  simp only [go_sem, Nat.reduceEqDiff, Nat.reduceAdd, Nat.reduceLT, ↓reduceIte]
  refine cl_ext (cmp_ext a b) ?_
  simp [go_sem, resV]
  exact post_same (by simp [AV.deep, AV.deep1]) rfl
end Go.Proofs.Ytiihldilefeldaa
