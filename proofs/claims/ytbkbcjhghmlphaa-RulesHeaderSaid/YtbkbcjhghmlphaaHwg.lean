/-
  The other text's target is the program's: pure law.
-/
import Derived.Test.YtbkbcjhghmlphaaHwc
namespace Go.Sha
set_option linter.unusedVariables false
set_option linter.unusedSimpArgs false
theorem mulW_32 (x0 x1 x2 x3 x4 x5 x6 x7 x8 x9 x10 x11 x12 x13 x14 x15 x16 x17 x18 x19 x20 x21 x22 x23 x24 x25 x26 x27 x28 x29 x30 x31 : Nat) : mulW (x0 :: x1 :: x2 :: x3 :: x4 :: x5 :: x6 :: x7 :: x8 :: x9 :: x10 :: x11 :: x12 :: x13 :: x14 :: x15 :: x16 :: x17 :: x18 :: x19 :: x20 :: x21 :: x22 :: x23 :: x24 :: x25 :: x26 :: x27 :: x28 :: x29 :: x30 :: x31 :: []) 32 = [beN (x24 :: x25 :: x26 :: x27 :: x28 :: x29 :: x30 :: x31 :: []), beN (x16 :: x17 :: x18 :: x19 :: x20 :: x21 :: x22 :: x23 :: []), beN (x8 :: x9 :: x10 :: x11 :: x12 :: x13 :: x14 :: x15 :: []), beN (x0 :: x1 :: x2 :: x3 :: x4 :: x5 :: x6 :: x7 :: [])] := rfl
theorem stS_0 (s h : Nat) : stS 0 4 s h = [s, h, 0, 0] := rfl
theorem stS_1 (s h : Nat) : stS 1 4 s h = [0, s, h, 0] := rfl
theorem stS_2 (s h : Nat) : stS 2 4 s h = [0, 0, s, h] := rfl
theorem stS_3 (s h : Nat) : stS 3 4 s h = [0, 0, 0, s] := rfl
theorem stS_4 (s h : Nat) : stS 4 4 s h = [0, 0, 0, 0] := rfl
theorem ex_0 (a b c : Nat) (ha : a < 128) (hb : b < 256) (hc : c < 256)  : mulW (0 :: 0 :: 0 :: 0 :: 0 :: 0 :: 0 :: 0 :: 0 :: 0 :: 0 :: 0 :: 0 :: 0 :: 0 :: 0 :: 0 :: 0 :: 0 :: 0 :: 0 :: 0 :: 0 :: 0 :: 0 :: 0 :: 0 :: 0 :: 0 :: 0 :: 0 :: 0 :: []) 32 = [r32 24 (a * 65536 + b * 256 + c), 0, 0, 0] := by
  rw [mulW_32]
  simp only [beN, r32, List.foldl, Nat.reducePow, Nat.reduceMul, Nat.reduceSub, List.cons.injEq, and_true, true_and]
  omega
theorem ex_1 (a b c : Nat) (ha : a < 128) (hb : b < 256) (hc : c < 256)  : mulW (0 :: 0 :: 0 :: 0 :: 0 :: 0 :: 0 :: 0 :: 0 :: 0 :: 0 :: 0 :: 0 :: 0 :: 0 :: 0 :: 0 :: 0 :: 0 :: 0 :: 0 :: 0 :: 0 :: 0 :: 0 :: 0 :: 0 :: 0 :: 0 :: 0 :: 0 :: a :: []) 32 = [r32 16 (a * 65536 + b * 256 + c), 0, 0, 0] := by
  rw [mulW_32]
  simp only [beN, r32, List.foldl, Nat.reducePow, Nat.reduceMul, Nat.reduceSub, List.cons.injEq, and_true, true_and]
  omega
theorem ex_2 (a b c : Nat) (ha : a < 128) (hb : b < 256) (hc : c < 256)  : mulW (0 :: 0 :: 0 :: 0 :: 0 :: 0 :: 0 :: 0 :: 0 :: 0 :: 0 :: 0 :: 0 :: 0 :: 0 :: 0 :: 0 :: 0 :: 0 :: 0 :: 0 :: 0 :: 0 :: 0 :: 0 :: 0 :: 0 :: 0 :: 0 :: 0 :: a :: b :: []) 32 = [r32 8 (a * 65536 + b * 256 + c), 0, 0, 0] := by
  rw [mulW_32]
  simp only [beN, r32, List.foldl, Nat.reducePow, Nat.reduceMul, Nat.reduceSub, List.cons.injEq, and_true, true_and]
  omega
theorem ex_3 (a b c : Nat) (ha : a < 128) (hb : b < 256) (hc : c < 256)  : mulW (0 :: 0 :: 0 :: 0 :: 0 :: 0 :: 0 :: 0 :: 0 :: 0 :: 0 :: 0 :: 0 :: 0 :: 0 :: 0 :: 0 :: 0 :: 0 :: 0 :: 0 :: 0 :: 0 :: 0 :: 0 :: 0 :: 0 :: 0 :: 0 :: a :: b :: c :: []) 32 = shlV (a * 65536 + b * 256 + c) 0 := by
  rw [mulW_32]
  simp only [beN, shlV, List.foldl, Nat.reducePow, Nat.reduceMul, Nat.reduceSub, Nat.reduceDiv, Nat.reduceMod, stS_0, stS_1, stS_2, stS_3, stS_4, List.cons.injEq, and_true, true_and]
  omega
theorem ex_4 (a b c : Nat) (ha : a < 128) (hb : b < 256) (hc : c < 256)  : mulW (0 :: 0 :: 0 :: 0 :: 0 :: 0 :: 0 :: 0 :: 0 :: 0 :: 0 :: 0 :: 0 :: 0 :: 0 :: 0 :: 0 :: 0 :: 0 :: 0 :: 0 :: 0 :: 0 :: 0 :: 0 :: 0 :: 0 :: 0 :: a :: b :: c :: 0 :: []) 32 = shlV (a * 65536 + b * 256 + c) 8 := by
  rw [mulW_32]
  simp only [beN, shlV, List.foldl, Nat.reducePow, Nat.reduceMul, Nat.reduceSub, Nat.reduceDiv, Nat.reduceMod, stS_0, stS_1, stS_2, stS_3, stS_4, List.cons.injEq, and_true, true_and]
  omega
theorem ex_5 (a b c : Nat) (ha : a < 128) (hb : b < 256) (hc : c < 256)  : mulW (0 :: 0 :: 0 :: 0 :: 0 :: 0 :: 0 :: 0 :: 0 :: 0 :: 0 :: 0 :: 0 :: 0 :: 0 :: 0 :: 0 :: 0 :: 0 :: 0 :: 0 :: 0 :: 0 :: 0 :: 0 :: 0 :: 0 :: a :: b :: c :: 0 :: 0 :: []) 32 = shlV (a * 65536 + b * 256 + c) 16 := by
  rw [mulW_32]
  simp only [beN, shlV, List.foldl, Nat.reducePow, Nat.reduceMul, Nat.reduceSub, Nat.reduceDiv, Nat.reduceMod, stS_0, stS_1, stS_2, stS_3, stS_4, List.cons.injEq, and_true, true_and]
  omega
theorem ex_6 (a b c : Nat) (ha : a < 128) (hb : b < 256) (hc : c < 256)  : mulW (0 :: 0 :: 0 :: 0 :: 0 :: 0 :: 0 :: 0 :: 0 :: 0 :: 0 :: 0 :: 0 :: 0 :: 0 :: 0 :: 0 :: 0 :: 0 :: 0 :: 0 :: 0 :: 0 :: 0 :: 0 :: 0 :: a :: b :: c :: 0 :: 0 :: 0 :: []) 32 = shlV (a * 65536 + b * 256 + c) 24 := by
  rw [mulW_32]
  simp only [beN, shlV, List.foldl, Nat.reducePow, Nat.reduceMul, Nat.reduceSub, Nat.reduceDiv, Nat.reduceMod, stS_0, stS_1, stS_2, stS_3, stS_4, List.cons.injEq, and_true, true_and]
  omega
theorem ex_7 (a b c : Nat) (ha : a < 128) (hb : b < 256) (hc : c < 256)  : mulW (0 :: 0 :: 0 :: 0 :: 0 :: 0 :: 0 :: 0 :: 0 :: 0 :: 0 :: 0 :: 0 :: 0 :: 0 :: 0 :: 0 :: 0 :: 0 :: 0 :: 0 :: 0 :: 0 :: 0 :: 0 :: a :: b :: c :: 0 :: 0 :: 0 :: 0 :: []) 32 = shlV (a * 65536 + b * 256 + c) 32 := by
  rw [mulW_32]
  simp only [beN, shlV, List.foldl, Nat.reducePow, Nat.reduceMul, Nat.reduceSub, Nat.reduceDiv, Nat.reduceMod, stS_0, stS_1, stS_2, stS_3, stS_4, List.cons.injEq, and_true, true_and]
  omega
theorem ex_8 (a b c : Nat) (ha : a < 128) (hb : b < 256) (hc : c < 256)  : mulW (0 :: 0 :: 0 :: 0 :: 0 :: 0 :: 0 :: 0 :: 0 :: 0 :: 0 :: 0 :: 0 :: 0 :: 0 :: 0 :: 0 :: 0 :: 0 :: 0 :: 0 :: 0 :: 0 :: 0 :: a :: b :: c :: 0 :: 0 :: 0 :: 0 :: 0 :: []) 32 = shlV (a * 65536 + b * 256 + c) 40 := by
  rw [mulW_32]
  simp only [beN, shlV, List.foldl, Nat.reducePow, Nat.reduceMul, Nat.reduceSub, Nat.reduceDiv, Nat.reduceMod, stS_0, stS_1, stS_2, stS_3, stS_4, List.cons.injEq, and_true, true_and]
  omega
theorem ex_9 (a b c : Nat) (ha : a < 128) (hb : b < 256) (hc : c < 256)  : mulW (0 :: 0 :: 0 :: 0 :: 0 :: 0 :: 0 :: 0 :: 0 :: 0 :: 0 :: 0 :: 0 :: 0 :: 0 :: 0 :: 0 :: 0 :: 0 :: 0 :: 0 :: 0 :: 0 :: a :: b :: c :: 0 :: 0 :: 0 :: 0 :: 0 :: 0 :: []) 32 = shlV (a * 65536 + b * 256 + c) 48 := by
  rw [mulW_32]
  simp only [beN, shlV, List.foldl, Nat.reducePow, Nat.reduceMul, Nat.reduceSub, Nat.reduceDiv, Nat.reduceMod, stS_0, stS_1, stS_2, stS_3, stS_4, List.cons.injEq, and_true, true_and]
  omega
theorem ex_10 (a b c : Nat) (ha : a < 128) (hb : b < 256) (hc : c < 256)  : mulW (0 :: 0 :: 0 :: 0 :: 0 :: 0 :: 0 :: 0 :: 0 :: 0 :: 0 :: 0 :: 0 :: 0 :: 0 :: 0 :: 0 :: 0 :: 0 :: 0 :: 0 :: 0 :: a :: b :: c :: 0 :: 0 :: 0 :: 0 :: 0 :: 0 :: 0 :: []) 32 = shlV (a * 65536 + b * 256 + c) 56 := by
  rw [mulW_32]
  simp only [beN, shlV, List.foldl, Nat.reducePow, Nat.reduceMul, Nat.reduceSub, Nat.reduceDiv, Nat.reduceMod, stS_0, stS_1, stS_2, stS_3, stS_4, List.cons.injEq, and_true, true_and]
  omega
theorem ex_11 (a b c : Nat) (ha : a < 128) (hb : b < 256) (hc : c < 256)  : mulW (0 :: 0 :: 0 :: 0 :: 0 :: 0 :: 0 :: 0 :: 0 :: 0 :: 0 :: 0 :: 0 :: 0 :: 0 :: 0 :: 0 :: 0 :: 0 :: 0 :: 0 :: a :: b :: c :: 0 :: 0 :: 0 :: 0 :: 0 :: 0 :: 0 :: 0 :: []) 32 = shlV (a * 65536 + b * 256 + c) 64 := by
  rw [mulW_32]
  simp only [beN, shlV, List.foldl, Nat.reducePow, Nat.reduceMul, Nat.reduceSub, Nat.reduceDiv, Nat.reduceMod, stS_0, stS_1, stS_2, stS_3, stS_4, List.cons.injEq, and_true, true_and]
  omega
theorem ex_12 (a b c : Nat) (ha : a < 128) (hb : b < 256) (hc : c < 256)  : mulW (0 :: 0 :: 0 :: 0 :: 0 :: 0 :: 0 :: 0 :: 0 :: 0 :: 0 :: 0 :: 0 :: 0 :: 0 :: 0 :: 0 :: 0 :: 0 :: 0 :: a :: b :: c :: 0 :: 0 :: 0 :: 0 :: 0 :: 0 :: 0 :: 0 :: 0 :: []) 32 = shlV (a * 65536 + b * 256 + c) 72 := by
  rw [mulW_32]
  simp only [beN, shlV, List.foldl, Nat.reducePow, Nat.reduceMul, Nat.reduceSub, Nat.reduceDiv, Nat.reduceMod, stS_0, stS_1, stS_2, stS_3, stS_4, List.cons.injEq, and_true, true_and]
  omega
theorem ex_13 (a b c : Nat) (ha : a < 128) (hb : b < 256) (hc : c < 256)  : mulW (0 :: 0 :: 0 :: 0 :: 0 :: 0 :: 0 :: 0 :: 0 :: 0 :: 0 :: 0 :: 0 :: 0 :: 0 :: 0 :: 0 :: 0 :: 0 :: a :: b :: c :: 0 :: 0 :: 0 :: 0 :: 0 :: 0 :: 0 :: 0 :: 0 :: 0 :: []) 32 = shlV (a * 65536 + b * 256 + c) 80 := by
  rw [mulW_32]
  simp only [beN, shlV, List.foldl, Nat.reducePow, Nat.reduceMul, Nat.reduceSub, Nat.reduceDiv, Nat.reduceMod, stS_0, stS_1, stS_2, stS_3, stS_4, List.cons.injEq, and_true, true_and]
  omega
theorem ex_14 (a b c : Nat) (ha : a < 128) (hb : b < 256) (hc : c < 256)  : mulW (0 :: 0 :: 0 :: 0 :: 0 :: 0 :: 0 :: 0 :: 0 :: 0 :: 0 :: 0 :: 0 :: 0 :: 0 :: 0 :: 0 :: 0 :: a :: b :: c :: 0 :: 0 :: 0 :: 0 :: 0 :: 0 :: 0 :: 0 :: 0 :: 0 :: 0 :: []) 32 = shlV (a * 65536 + b * 256 + c) 88 := by
  rw [mulW_32]
  simp only [beN, shlV, List.foldl, Nat.reducePow, Nat.reduceMul, Nat.reduceSub, Nat.reduceDiv, Nat.reduceMod, stS_0, stS_1, stS_2, stS_3, stS_4, List.cons.injEq, and_true, true_and]
  omega
theorem ex_15 (a b c : Nat) (ha : a < 128) (hb : b < 256) (hc : c < 256)  : mulW (0 :: 0 :: 0 :: 0 :: 0 :: 0 :: 0 :: 0 :: 0 :: 0 :: 0 :: 0 :: 0 :: 0 :: 0 :: 0 :: 0 :: a :: b :: c :: 0 :: 0 :: 0 :: 0 :: 0 :: 0 :: 0 :: 0 :: 0 :: 0 :: 0 :: 0 :: []) 32 = shlV (a * 65536 + b * 256 + c) 96 := by
  rw [mulW_32]
  simp only [beN, shlV, List.foldl, Nat.reducePow, Nat.reduceMul, Nat.reduceSub, Nat.reduceDiv, Nat.reduceMod, stS_0, stS_1, stS_2, stS_3, stS_4, List.cons.injEq, and_true, true_and]
  omega
theorem ex_16 (a b c : Nat) (ha : a < 128) (hb : b < 256) (hc : c < 256)  : mulW (0 :: 0 :: 0 :: 0 :: 0 :: 0 :: 0 :: 0 :: 0 :: 0 :: 0 :: 0 :: 0 :: 0 :: 0 :: 0 :: a :: b :: c :: 0 :: 0 :: 0 :: 0 :: 0 :: 0 :: 0 :: 0 :: 0 :: 0 :: 0 :: 0 :: 0 :: []) 32 = shlV (a * 65536 + b * 256 + c) 104 := by
  rw [mulW_32]
  simp only [beN, shlV, List.foldl, Nat.reducePow, Nat.reduceMul, Nat.reduceSub, Nat.reduceDiv, Nat.reduceMod, stS_0, stS_1, stS_2, stS_3, stS_4, List.cons.injEq, and_true, true_and]
  omega
theorem ex_17 (a b c : Nat) (ha : a < 128) (hb : b < 256) (hc : c < 256)  : mulW (0 :: 0 :: 0 :: 0 :: 0 :: 0 :: 0 :: 0 :: 0 :: 0 :: 0 :: 0 :: 0 :: 0 :: 0 :: a :: b :: c :: 0 :: 0 :: 0 :: 0 :: 0 :: 0 :: 0 :: 0 :: 0 :: 0 :: 0 :: 0 :: 0 :: 0 :: []) 32 = shlV (a * 65536 + b * 256 + c) 112 := by
  rw [mulW_32]
  simp only [beN, shlV, List.foldl, Nat.reducePow, Nat.reduceMul, Nat.reduceSub, Nat.reduceDiv, Nat.reduceMod, stS_0, stS_1, stS_2, stS_3, stS_4, List.cons.injEq, and_true, true_and]
  omega
theorem ex_18 (a b c : Nat) (ha : a < 128) (hb : b < 256) (hc : c < 256)  : mulW (0 :: 0 :: 0 :: 0 :: 0 :: 0 :: 0 :: 0 :: 0 :: 0 :: 0 :: 0 :: 0 :: 0 :: a :: b :: c :: 0 :: 0 :: 0 :: 0 :: 0 :: 0 :: 0 :: 0 :: 0 :: 0 :: 0 :: 0 :: 0 :: 0 :: 0 :: []) 32 = shlV (a * 65536 + b * 256 + c) 120 := by
  rw [mulW_32]
  simp only [beN, shlV, List.foldl, Nat.reducePow, Nat.reduceMul, Nat.reduceSub, Nat.reduceDiv, Nat.reduceMod, stS_0, stS_1, stS_2, stS_3, stS_4, List.cons.injEq, and_true, true_and]
  omega
theorem ex_19 (a b c : Nat) (ha : a < 128) (hb : b < 256) (hc : c < 256)  : mulW (0 :: 0 :: 0 :: 0 :: 0 :: 0 :: 0 :: 0 :: 0 :: 0 :: 0 :: 0 :: 0 :: a :: b :: c :: 0 :: 0 :: 0 :: 0 :: 0 :: 0 :: 0 :: 0 :: 0 :: 0 :: 0 :: 0 :: 0 :: 0 :: 0 :: 0 :: []) 32 = shlV (a * 65536 + b * 256 + c) 128 := by
  rw [mulW_32]
  simp only [beN, shlV, List.foldl, Nat.reducePow, Nat.reduceMul, Nat.reduceSub, Nat.reduceDiv, Nat.reduceMod, stS_0, stS_1, stS_2, stS_3, stS_4, List.cons.injEq, and_true, true_and]
  omega
theorem ex_20 (a b c : Nat) (ha : a < 128) (hb : b < 256) (hc : c < 256)  : mulW (0 :: 0 :: 0 :: 0 :: 0 :: 0 :: 0 :: 0 :: 0 :: 0 :: 0 :: 0 :: a :: b :: c :: 0 :: 0 :: 0 :: 0 :: 0 :: 0 :: 0 :: 0 :: 0 :: 0 :: 0 :: 0 :: 0 :: 0 :: 0 :: 0 :: 0 :: []) 32 = shlV (a * 65536 + b * 256 + c) 136 := by
  rw [mulW_32]
  simp only [beN, shlV, List.foldl, Nat.reducePow, Nat.reduceMul, Nat.reduceSub, Nat.reduceDiv, Nat.reduceMod, stS_0, stS_1, stS_2, stS_3, stS_4, List.cons.injEq, and_true, true_and]
  omega
theorem ex_21 (a b c : Nat) (ha : a < 128) (hb : b < 256) (hc : c < 256)  : mulW (0 :: 0 :: 0 :: 0 :: 0 :: 0 :: 0 :: 0 :: 0 :: 0 :: 0 :: a :: b :: c :: 0 :: 0 :: 0 :: 0 :: 0 :: 0 :: 0 :: 0 :: 0 :: 0 :: 0 :: 0 :: 0 :: 0 :: 0 :: 0 :: 0 :: 0 :: []) 32 = shlV (a * 65536 + b * 256 + c) 144 := by
  rw [mulW_32]
  simp only [beN, shlV, List.foldl, Nat.reducePow, Nat.reduceMul, Nat.reduceSub, Nat.reduceDiv, Nat.reduceMod, stS_0, stS_1, stS_2, stS_3, stS_4, List.cons.injEq, and_true, true_and]
  omega
theorem ex_22 (a b c : Nat) (ha : a < 128) (hb : b < 256) (hc : c < 256)  : mulW (0 :: 0 :: 0 :: 0 :: 0 :: 0 :: 0 :: 0 :: 0 :: 0 :: a :: b :: c :: 0 :: 0 :: 0 :: 0 :: 0 :: 0 :: 0 :: 0 :: 0 :: 0 :: 0 :: 0 :: 0 :: 0 :: 0 :: 0 :: 0 :: 0 :: 0 :: []) 32 = shlV (a * 65536 + b * 256 + c) 152 := by
  rw [mulW_32]
  simp only [beN, shlV, List.foldl, Nat.reducePow, Nat.reduceMul, Nat.reduceSub, Nat.reduceDiv, Nat.reduceMod, stS_0, stS_1, stS_2, stS_3, stS_4, List.cons.injEq, and_true, true_and]
  omega
theorem ex_23 (a b c : Nat) (ha : a < 128) (hb : b < 256) (hc : c < 256)  : mulW (0 :: 0 :: 0 :: 0 :: 0 :: 0 :: 0 :: 0 :: 0 :: a :: b :: c :: 0 :: 0 :: 0 :: 0 :: 0 :: 0 :: 0 :: 0 :: 0 :: 0 :: 0 :: 0 :: 0 :: 0 :: 0 :: 0 :: 0 :: 0 :: 0 :: 0 :: []) 32 = shlV (a * 65536 + b * 256 + c) 160 := by
  rw [mulW_32]
  simp only [beN, shlV, List.foldl, Nat.reducePow, Nat.reduceMul, Nat.reduceSub, Nat.reduceDiv, Nat.reduceMod, stS_0, stS_1, stS_2, stS_3, stS_4, List.cons.injEq, and_true, true_and]
  omega
theorem ex_24 (a b c : Nat) (ha : a < 128) (hb : b < 256) (hc : c < 256)  : mulW (0 :: 0 :: 0 :: 0 :: 0 :: 0 :: 0 :: 0 :: a :: b :: c :: 0 :: 0 :: 0 :: 0 :: 0 :: 0 :: 0 :: 0 :: 0 :: 0 :: 0 :: 0 :: 0 :: 0 :: 0 :: 0 :: 0 :: 0 :: 0 :: 0 :: 0 :: []) 32 = shlV (a * 65536 + b * 256 + c) 168 := by
  rw [mulW_32]
  simp only [beN, shlV, List.foldl, Nat.reducePow, Nat.reduceMul, Nat.reduceSub, Nat.reduceDiv, Nat.reduceMod, stS_0, stS_1, stS_2, stS_3, stS_4, List.cons.injEq, and_true, true_and]
  omega
theorem ex_25 (a b c : Nat) (ha : a < 128) (hb : b < 256) (hc : c < 256)  : mulW (0 :: 0 :: 0 :: 0 :: 0 :: 0 :: 0 :: a :: b :: c :: 0 :: 0 :: 0 :: 0 :: 0 :: 0 :: 0 :: 0 :: 0 :: 0 :: 0 :: 0 :: 0 :: 0 :: 0 :: 0 :: 0 :: 0 :: 0 :: 0 :: 0 :: 0 :: []) 32 = shlV (a * 65536 + b * 256 + c) 176 := by
  rw [mulW_32]
  simp only [beN, shlV, List.foldl, Nat.reducePow, Nat.reduceMul, Nat.reduceSub, Nat.reduceDiv, Nat.reduceMod, stS_0, stS_1, stS_2, stS_3, stS_4, List.cons.injEq, and_true, true_and]
  omega
theorem ex_26 (a b c : Nat) (ha : a < 128) (hb : b < 256) (hc : c < 256)  : mulW (0 :: 0 :: 0 :: 0 :: 0 :: 0 :: a :: b :: c :: 0 :: 0 :: 0 :: 0 :: 0 :: 0 :: 0 :: 0 :: 0 :: 0 :: 0 :: 0 :: 0 :: 0 :: 0 :: 0 :: 0 :: 0 :: 0 :: 0 :: 0 :: 0 :: 0 :: []) 32 = shlV (a * 65536 + b * 256 + c) 184 := by
  rw [mulW_32]
  simp only [beN, shlV, List.foldl, Nat.reducePow, Nat.reduceMul, Nat.reduceSub, Nat.reduceDiv, Nat.reduceMod, stS_0, stS_1, stS_2, stS_3, stS_4, List.cons.injEq, and_true, true_and]
  omega
theorem ex_27 (a b c : Nat) (ha : a < 128) (hb : b < 256) (hc : c < 256)  : mulW (0 :: 0 :: 0 :: 0 :: 0 :: a :: b :: c :: 0 :: 0 :: 0 :: 0 :: 0 :: 0 :: 0 :: 0 :: 0 :: 0 :: 0 :: 0 :: 0 :: 0 :: 0 :: 0 :: 0 :: 0 :: 0 :: 0 :: 0 :: 0 :: 0 :: 0 :: []) 32 = shlV (a * 65536 + b * 256 + c) 192 := by
  rw [mulW_32]
  simp only [beN, shlV, List.foldl, Nat.reducePow, Nat.reduceMul, Nat.reduceSub, Nat.reduceDiv, Nat.reduceMod, stS_0, stS_1, stS_2, stS_3, stS_4, List.cons.injEq, and_true, true_and]
  omega
theorem ex_28 (a b c : Nat) (ha : a < 128) (hb : b < 256) (hc : c < 256)  : mulW (0 :: 0 :: 0 :: 0 :: a :: b :: c :: 0 :: 0 :: 0 :: 0 :: 0 :: 0 :: 0 :: 0 :: 0 :: 0 :: 0 :: 0 :: 0 :: 0 :: 0 :: 0 :: 0 :: 0 :: 0 :: 0 :: 0 :: 0 :: 0 :: 0 :: 0 :: []) 32 = shlV (a * 65536 + b * 256 + c) 200 := by
  rw [mulW_32]
  simp only [beN, shlV, List.foldl, Nat.reducePow, Nat.reduceMul, Nat.reduceSub, Nat.reduceDiv, Nat.reduceMod, stS_0, stS_1, stS_2, stS_3, stS_4, List.cons.injEq, and_true, true_and]
  omega
theorem ex_29 (a b c : Nat) (ha : a < 128) (hb : b < 256) (hc : c < 256)  : mulW (0 :: 0 :: 0 :: a :: b :: c :: 0 :: 0 :: 0 :: 0 :: 0 :: 0 :: 0 :: 0 :: 0 :: 0 :: 0 :: 0 :: 0 :: 0 :: 0 :: 0 :: 0 :: 0 :: 0 :: 0 :: 0 :: 0 :: 0 :: 0 :: 0 :: 0 :: []) 32 = shlV (a * 65536 + b * 256 + c) 208 := by
  rw [mulW_32]
  simp only [beN, shlV, List.foldl, Nat.reducePow, Nat.reduceMul, Nat.reduceSub, Nat.reduceDiv, Nat.reduceMod, stS_0, stS_1, stS_2, stS_3, stS_4, List.cons.injEq, and_true, true_and]
  omega
theorem ex_30 (a b c : Nat) (ha : a < 128) (hb : b < 256) (hc : c < 256)  : mulW (0 :: 0 :: a :: b :: c :: 0 :: 0 :: 0 :: 0 :: 0 :: 0 :: 0 :: 0 :: 0 :: 0 :: 0 :: 0 :: 0 :: 0 :: 0 :: 0 :: 0 :: 0 :: 0 :: 0 :: 0 :: 0 :: 0 :: 0 :: 0 :: 0 :: 0 :: []) 32 = shlV (a * 65536 + b * 256 + c) 216 := by
  rw [mulW_32]
  simp only [beN, shlV, List.foldl, Nat.reducePow, Nat.reduceMul, Nat.reduceSub, Nat.reduceDiv, Nat.reduceMod, stS_0, stS_1, stS_2, stS_3, stS_4, List.cons.injEq, and_true, true_and]
  omega
theorem ex_31 (a b c : Nat) (ha : a < 128) (hb : b < 256) (hc : c < 256)  : mulW (0 :: a :: b :: c :: 0 :: 0 :: 0 :: 0 :: 0 :: 0 :: 0 :: 0 :: 0 :: 0 :: 0 :: 0 :: 0 :: 0 :: 0 :: 0 :: 0 :: 0 :: 0 :: 0 :: 0 :: 0 :: 0 :: 0 :: 0 :: 0 :: 0 :: 0 :: []) 32 = shlV (a * 65536 + b * 256 + c) 224 := by
  rw [mulW_32]
  simp only [beN, shlV, List.foldl, Nat.reducePow, Nat.reduceMul, Nat.reduceSub, Nat.reduceDiv, Nat.reduceMod, stS_0, stS_1, stS_2, stS_3, stS_4, List.cons.injEq, and_true, true_and]
  omega
theorem ex_32 (a b c : Nat) (ha : a < 128) (hb : b < 256) (hc : c < 256)  : mulW (a :: b :: c :: 0 :: 0 :: 0 :: 0 :: 0 :: 0 :: 0 :: 0 :: 0 :: 0 :: 0 :: 0 :: 0 :: 0 :: 0 :: 0 :: 0 :: 0 :: 0 :: 0 :: 0 :: 0 :: 0 :: 0 :: 0 :: 0 :: 0 :: 0 :: 0 :: []) 32 = shlV (a * 65536 + b * 256 + c) 232 := by
  rw [mulW_32]
  simp only [beN, shlV, List.foldl, Nat.reducePow, Nat.reduceMul, Nat.reduceSub, Nat.reduceDiv, Nat.reduceMod, stS_0, stS_1, stS_2, stS_3, stS_4, List.cons.injEq, and_true, true_and]
  omega
theorem ex_33 (a b c : Nat) (ha : a < 128) (hb : b < 256) (hc : c < 256) (ha : a = 0) : mulW (b :: c :: 0 :: 0 :: 0 :: 0 :: 0 :: 0 :: 0 :: 0 :: 0 :: 0 :: 0 :: 0 :: 0 :: 0 :: 0 :: 0 :: 0 :: 0 :: 0 :: 0 :: 0 :: 0 :: 0 :: 0 :: 0 :: 0 :: 0 :: 0 :: 0 :: 0 :: []) 32 = shlV (a * 65536 + b * 256 + c) 240 := by
  subst ha
  rw [mulW_32]
  simp only [beN, shlV, List.foldl, Nat.reducePow, Nat.reduceMul, Nat.reduceSub, Nat.reduceDiv, Nat.reduceMod, stS_0, stS_1, stS_2, stS_3, stS_4, List.cons.injEq, and_true, true_and]
  omega
theorem ex_34 (a b c : Nat) (ha : a < 128) (hb : b < 256) (hc : c < 256) (ha : a = 0) (hb : b = 0) : mulW (c :: 0 :: 0 :: 0 :: 0 :: 0 :: 0 :: 0 :: 0 :: 0 :: 0 :: 0 :: 0 :: 0 :: 0 :: 0 :: 0 :: 0 :: 0 :: 0 :: 0 :: 0 :: 0 :: 0 :: 0 :: 0 :: 0 :: 0 :: 0 :: 0 :: 0 :: 0 :: []) 32 = shlV (a * 65536 + b * 256 + c) 248 := by
  subst ha
  subst hb
  rw [mulW_32]
  simp only [beN, shlV, List.foldl, Nat.reducePow, Nat.reduceMul, Nat.reduceSub, Nat.reduceDiv, Nat.reduceMod, stS_0, stS_1, stS_2, stS_3, stS_4, List.cons.injEq, and_true, true_and]
  omega
theorem ex_35 (a b c : Nat) (ha : a < 128) (hb : b < 256) (hc : c < 256) (ha : a = 0) (hb : b = 0) (hc : c = 0) : mulW (0 :: 0 :: 0 :: 0 :: 0 :: 0 :: 0 :: 0 :: 0 :: 0 :: 0 :: 0 :: 0 :: 0 :: 0 :: 0 :: 0 :: 0 :: 0 :: 0 :: 0 :: 0 :: 0 :: 0 :: 0 :: 0 :: 0 :: 0 :: 0 :: 0 :: 0 :: 0 :: []) 32 = shlV (a * 65536 + b * 256 + c) 256 := by
  subst ha
  subst hb
  subst hc
  rw [mulW_32]
  simp only [beN, shlV, List.foldl, Nat.reducePow, Nat.reduceMul, Nat.reduceSub, Nat.reduceDiv, Nat.reduceMod, stS_0, stS_1, stS_2, stS_3, stS_4, List.cons.injEq, and_true, true_and]
/-- 32 noughts. -/
def zB : List Nat := List.replicate 32 0
theorem overE_iff (e m : Nat) : overE e m ↔ (m = 0 ∧ 35 < e) ∨ (m ≠ 0 ∧ m < 256 ∧ 35 ≤ e) ∨ (256 ≤ m ∧ m < 65536 ∧ 34 ≤ e) ∨ (65536 ≤ m ∧ 33 ≤ e) := by
  unfold overE
  split
  · omega
  · split
    · omega
    · split <;> omega
/-- The three bytes laid where they belong, by the other text: byte i and on. -/
def goR (e : Nat) : List Nat → Nat → List Nat → Bool → List Nat × Int
  | [], _, out, any => if any = true then (mulW out 32, 0) else ([0, 0, 0, 0], 3)
  | x :: r, i, out, any => if 32 + i < e ∧ x ≠ 0 then ([0, 0, 0, 0], 3) else if i < e ∧ e ≤ 32 + i then goR e r (i + 1) (out.set (31 - (e - 1 - i)) x) (any || decide (x ≠ 0)) else goR e r (i + 1) out any
def prgE (e m : Nat) : List Nat × Int :=
  if e < 3 then ([r32 (8 * (3 - e)) m, 0, 0, 0], toldV [r32 (8 * (3 - e)) m, 0, 0, 0])
  else if overE e m then ([0, 0, 0, 0], 3) else (shlV m (8 * (e - 3)), toldV (shlV m (8 * (e - 3))))
theorem fin_W {L W : List Nat} {p : Prop} [Decidable p] (h1 : mulW L 32 = W) (h2 : mulW L 32 = [0, 0, 0, 0] ↔ ¬ p) : (if p then (mulW L 32, (0 : Int)) else ([0, 0, 0, 0], 3)) = (W, toldV W) := by
  subst h1
  unfold toldV
  by_cases hp : p
  · rw [if_pos hp, if_neg fun e => h2.1 e hp]
  · rw [if_neg hp, if_pos (h2.2 hp), h2.2 hp]
theorem goR_mid (e a b c : Nat) (h3 : 3 ≤ e) (h32 : e ≤ 32) : goR e [a, b, c] 0 zB false = if a ≠ 0 ∨ b ≠ 0 ∨ c ≠ 0 then (mulW (((zB.set (31 - (e - 1 - 0)) a).set (31 - (e - 1 - 1)) b).set (31 - (e - 1 - 2)) c) 32, 0) else ([0, 0, 0, 0], 3) := by
  simp only [goR]
  rw [if_neg (by omega), if_pos (by omega), if_neg (by omega), if_pos (by omega), if_neg (by omega), if_pos (by omega)]
  simp [or_assoc]
theorem exz_0 (a b c : Nat) (ha : a < 128) (hb : b < 256) (hc : c < 256) : mulW (0 :: 0 :: 0 :: 0 :: 0 :: 0 :: 0 :: 0 :: 0 :: 0 :: 0 :: 0 :: 0 :: 0 :: 0 :: 0 :: 0 :: 0 :: 0 :: 0 :: 0 :: 0 :: 0 :: 0 :: 0 :: 0 :: 0 :: 0 :: 0 :: 0 :: 0 :: 0 :: []) 32 = [0, 0, 0, 0] ↔ ¬ (False) := by
  rw [mulW_32]
  simp only [beN, List.foldl, List.cons.injEq, and_true, true_and]
  simp
theorem exz_1 (a b c : Nat) (ha : a < 128) (hb : b < 256) (hc : c < 256) : mulW (0 :: 0 :: 0 :: 0 :: 0 :: 0 :: 0 :: 0 :: 0 :: 0 :: 0 :: 0 :: 0 :: 0 :: 0 :: 0 :: 0 :: 0 :: 0 :: 0 :: 0 :: 0 :: 0 :: 0 :: 0 :: 0 :: 0 :: 0 :: 0 :: 0 :: 0 :: a :: []) 32 = [0, 0, 0, 0] ↔ ¬ (a ≠ 0) := by
  rw [mulW_32]
  simp only [beN, List.foldl, List.cons.injEq, and_true, true_and]
  omega
theorem exz_2 (a b c : Nat) (ha : a < 128) (hb : b < 256) (hc : c < 256) : mulW (0 :: 0 :: 0 :: 0 :: 0 :: 0 :: 0 :: 0 :: 0 :: 0 :: 0 :: 0 :: 0 :: 0 :: 0 :: 0 :: 0 :: 0 :: 0 :: 0 :: 0 :: 0 :: 0 :: 0 :: 0 :: 0 :: 0 :: 0 :: 0 :: 0 :: a :: b :: []) 32 = [0, 0, 0, 0] ↔ ¬ (a ≠ 0 ∨ b ≠ 0) := by
  rw [mulW_32]
  simp only [beN, List.foldl, List.cons.injEq, and_true, true_and]
  omega
theorem exz_3 (a b c : Nat) (ha : a < 128) (hb : b < 256) (hc : c < 256) : mulW (0 :: 0 :: 0 :: 0 :: 0 :: 0 :: 0 :: 0 :: 0 :: 0 :: 0 :: 0 :: 0 :: 0 :: 0 :: 0 :: 0 :: 0 :: 0 :: 0 :: 0 :: 0 :: 0 :: 0 :: 0 :: 0 :: 0 :: 0 :: 0 :: a :: b :: c :: []) 32 = [0, 0, 0, 0] ↔ ¬ (a ≠ 0 ∨ b ≠ 0 ∨ c ≠ 0) := by
  rw [mulW_32]
  simp only [beN, List.foldl, List.cons.injEq, and_true, true_and]
  omega
theorem exz_4 (a b c : Nat) (ha : a < 128) (hb : b < 256) (hc : c < 256) : mulW (0 :: 0 :: 0 :: 0 :: 0 :: 0 :: 0 :: 0 :: 0 :: 0 :: 0 :: 0 :: 0 :: 0 :: 0 :: 0 :: 0 :: 0 :: 0 :: 0 :: 0 :: 0 :: 0 :: 0 :: 0 :: 0 :: 0 :: 0 :: a :: b :: c :: 0 :: []) 32 = [0, 0, 0, 0] ↔ ¬ (a ≠ 0 ∨ b ≠ 0 ∨ c ≠ 0) := by
  rw [mulW_32]
  simp only [beN, List.foldl, List.cons.injEq, and_true, true_and]
  omega
theorem exz_5 (a b c : Nat) (ha : a < 128) (hb : b < 256) (hc : c < 256) : mulW (0 :: 0 :: 0 :: 0 :: 0 :: 0 :: 0 :: 0 :: 0 :: 0 :: 0 :: 0 :: 0 :: 0 :: 0 :: 0 :: 0 :: 0 :: 0 :: 0 :: 0 :: 0 :: 0 :: 0 :: 0 :: 0 :: 0 :: a :: b :: c :: 0 :: 0 :: []) 32 = [0, 0, 0, 0] ↔ ¬ (a ≠ 0 ∨ b ≠ 0 ∨ c ≠ 0) := by
  rw [mulW_32]
  simp only [beN, List.foldl, List.cons.injEq, and_true, true_and]
  omega
theorem exz_6 (a b c : Nat) (ha : a < 128) (hb : b < 256) (hc : c < 256) : mulW (0 :: 0 :: 0 :: 0 :: 0 :: 0 :: 0 :: 0 :: 0 :: 0 :: 0 :: 0 :: 0 :: 0 :: 0 :: 0 :: 0 :: 0 :: 0 :: 0 :: 0 :: 0 :: 0 :: 0 :: 0 :: 0 :: a :: b :: c :: 0 :: 0 :: 0 :: []) 32 = [0, 0, 0, 0] ↔ ¬ (a ≠ 0 ∨ b ≠ 0 ∨ c ≠ 0) := by
  rw [mulW_32]
  simp only [beN, List.foldl, List.cons.injEq, and_true, true_and]
  omega
theorem exz_7 (a b c : Nat) (ha : a < 128) (hb : b < 256) (hc : c < 256) : mulW (0 :: 0 :: 0 :: 0 :: 0 :: 0 :: 0 :: 0 :: 0 :: 0 :: 0 :: 0 :: 0 :: 0 :: 0 :: 0 :: 0 :: 0 :: 0 :: 0 :: 0 :: 0 :: 0 :: 0 :: 0 :: a :: b :: c :: 0 :: 0 :: 0 :: 0 :: []) 32 = [0, 0, 0, 0] ↔ ¬ (a ≠ 0 ∨ b ≠ 0 ∨ c ≠ 0) := by
  rw [mulW_32]
  simp only [beN, List.foldl, List.cons.injEq, and_true, true_and]
  omega
theorem exz_8 (a b c : Nat) (ha : a < 128) (hb : b < 256) (hc : c < 256) : mulW (0 :: 0 :: 0 :: 0 :: 0 :: 0 :: 0 :: 0 :: 0 :: 0 :: 0 :: 0 :: 0 :: 0 :: 0 :: 0 :: 0 :: 0 :: 0 :: 0 :: 0 :: 0 :: 0 :: 0 :: a :: b :: c :: 0 :: 0 :: 0 :: 0 :: 0 :: []) 32 = [0, 0, 0, 0] ↔ ¬ (a ≠ 0 ∨ b ≠ 0 ∨ c ≠ 0) := by
  rw [mulW_32]
  simp only [beN, List.foldl, List.cons.injEq, and_true, true_and]
  omega
theorem exz_9 (a b c : Nat) (ha : a < 128) (hb : b < 256) (hc : c < 256) : mulW (0 :: 0 :: 0 :: 0 :: 0 :: 0 :: 0 :: 0 :: 0 :: 0 :: 0 :: 0 :: 0 :: 0 :: 0 :: 0 :: 0 :: 0 :: 0 :: 0 :: 0 :: 0 :: 0 :: a :: b :: c :: 0 :: 0 :: 0 :: 0 :: 0 :: 0 :: []) 32 = [0, 0, 0, 0] ↔ ¬ (a ≠ 0 ∨ b ≠ 0 ∨ c ≠ 0) := by
  rw [mulW_32]
  simp only [beN, List.foldl, List.cons.injEq, and_true, true_and]
  omega
theorem exz_10 (a b c : Nat) (ha : a < 128) (hb : b < 256) (hc : c < 256) : mulW (0 :: 0 :: 0 :: 0 :: 0 :: 0 :: 0 :: 0 :: 0 :: 0 :: 0 :: 0 :: 0 :: 0 :: 0 :: 0 :: 0 :: 0 :: 0 :: 0 :: 0 :: 0 :: a :: b :: c :: 0 :: 0 :: 0 :: 0 :: 0 :: 0 :: 0 :: []) 32 = [0, 0, 0, 0] ↔ ¬ (a ≠ 0 ∨ b ≠ 0 ∨ c ≠ 0) := by
  rw [mulW_32]
  simp only [beN, List.foldl, List.cons.injEq, and_true, true_and]
  omega
theorem exz_11 (a b c : Nat) (ha : a < 128) (hb : b < 256) (hc : c < 256) : mulW (0 :: 0 :: 0 :: 0 :: 0 :: 0 :: 0 :: 0 :: 0 :: 0 :: 0 :: 0 :: 0 :: 0 :: 0 :: 0 :: 0 :: 0 :: 0 :: 0 :: 0 :: a :: b :: c :: 0 :: 0 :: 0 :: 0 :: 0 :: 0 :: 0 :: 0 :: []) 32 = [0, 0, 0, 0] ↔ ¬ (a ≠ 0 ∨ b ≠ 0 ∨ c ≠ 0) := by
  rw [mulW_32]
  simp only [beN, List.foldl, List.cons.injEq, and_true, true_and]
  omega
theorem exz_12 (a b c : Nat) (ha : a < 128) (hb : b < 256) (hc : c < 256) : mulW (0 :: 0 :: 0 :: 0 :: 0 :: 0 :: 0 :: 0 :: 0 :: 0 :: 0 :: 0 :: 0 :: 0 :: 0 :: 0 :: 0 :: 0 :: 0 :: 0 :: a :: b :: c :: 0 :: 0 :: 0 :: 0 :: 0 :: 0 :: 0 :: 0 :: 0 :: []) 32 = [0, 0, 0, 0] ↔ ¬ (a ≠ 0 ∨ b ≠ 0 ∨ c ≠ 0) := by
  rw [mulW_32]
  simp only [beN, List.foldl, List.cons.injEq, and_true, true_and]
  omega
theorem exz_13 (a b c : Nat) (ha : a < 128) (hb : b < 256) (hc : c < 256) : mulW (0 :: 0 :: 0 :: 0 :: 0 :: 0 :: 0 :: 0 :: 0 :: 0 :: 0 :: 0 :: 0 :: 0 :: 0 :: 0 :: 0 :: 0 :: 0 :: a :: b :: c :: 0 :: 0 :: 0 :: 0 :: 0 :: 0 :: 0 :: 0 :: 0 :: 0 :: []) 32 = [0, 0, 0, 0] ↔ ¬ (a ≠ 0 ∨ b ≠ 0 ∨ c ≠ 0) := by
  rw [mulW_32]
  simp only [beN, List.foldl, List.cons.injEq, and_true, true_and]
  omega
theorem exz_14 (a b c : Nat) (ha : a < 128) (hb : b < 256) (hc : c < 256) : mulW (0 :: 0 :: 0 :: 0 :: 0 :: 0 :: 0 :: 0 :: 0 :: 0 :: 0 :: 0 :: 0 :: 0 :: 0 :: 0 :: 0 :: 0 :: a :: b :: c :: 0 :: 0 :: 0 :: 0 :: 0 :: 0 :: 0 :: 0 :: 0 :: 0 :: 0 :: []) 32 = [0, 0, 0, 0] ↔ ¬ (a ≠ 0 ∨ b ≠ 0 ∨ c ≠ 0) := by
  rw [mulW_32]
  simp only [beN, List.foldl, List.cons.injEq, and_true, true_and]
  omega
theorem exz_15 (a b c : Nat) (ha : a < 128) (hb : b < 256) (hc : c < 256) : mulW (0 :: 0 :: 0 :: 0 :: 0 :: 0 :: 0 :: 0 :: 0 :: 0 :: 0 :: 0 :: 0 :: 0 :: 0 :: 0 :: 0 :: a :: b :: c :: 0 :: 0 :: 0 :: 0 :: 0 :: 0 :: 0 :: 0 :: 0 :: 0 :: 0 :: 0 :: []) 32 = [0, 0, 0, 0] ↔ ¬ (a ≠ 0 ∨ b ≠ 0 ∨ c ≠ 0) := by
  rw [mulW_32]
  simp only [beN, List.foldl, List.cons.injEq, and_true, true_and]
  omega
theorem exz_16 (a b c : Nat) (ha : a < 128) (hb : b < 256) (hc : c < 256) : mulW (0 :: 0 :: 0 :: 0 :: 0 :: 0 :: 0 :: 0 :: 0 :: 0 :: 0 :: 0 :: 0 :: 0 :: 0 :: 0 :: a :: b :: c :: 0 :: 0 :: 0 :: 0 :: 0 :: 0 :: 0 :: 0 :: 0 :: 0 :: 0 :: 0 :: 0 :: []) 32 = [0, 0, 0, 0] ↔ ¬ (a ≠ 0 ∨ b ≠ 0 ∨ c ≠ 0) := by
  rw [mulW_32]
  simp only [beN, List.foldl, List.cons.injEq, and_true, true_and]
  omega
theorem exz_17 (a b c : Nat) (ha : a < 128) (hb : b < 256) (hc : c < 256) : mulW (0 :: 0 :: 0 :: 0 :: 0 :: 0 :: 0 :: 0 :: 0 :: 0 :: 0 :: 0 :: 0 :: 0 :: 0 :: a :: b :: c :: 0 :: 0 :: 0 :: 0 :: 0 :: 0 :: 0 :: 0 :: 0 :: 0 :: 0 :: 0 :: 0 :: 0 :: []) 32 = [0, 0, 0, 0] ↔ ¬ (a ≠ 0 ∨ b ≠ 0 ∨ c ≠ 0) := by
  rw [mulW_32]
  simp only [beN, List.foldl, List.cons.injEq, and_true, true_and]
  omega
theorem exz_18 (a b c : Nat) (ha : a < 128) (hb : b < 256) (hc : c < 256) : mulW (0 :: 0 :: 0 :: 0 :: 0 :: 0 :: 0 :: 0 :: 0 :: 0 :: 0 :: 0 :: 0 :: 0 :: a :: b :: c :: 0 :: 0 :: 0 :: 0 :: 0 :: 0 :: 0 :: 0 :: 0 :: 0 :: 0 :: 0 :: 0 :: 0 :: 0 :: []) 32 = [0, 0, 0, 0] ↔ ¬ (a ≠ 0 ∨ b ≠ 0 ∨ c ≠ 0) := by
  rw [mulW_32]
  simp only [beN, List.foldl, List.cons.injEq, and_true, true_and]
  omega
theorem exz_19 (a b c : Nat) (ha : a < 128) (hb : b < 256) (hc : c < 256) : mulW (0 :: 0 :: 0 :: 0 :: 0 :: 0 :: 0 :: 0 :: 0 :: 0 :: 0 :: 0 :: 0 :: a :: b :: c :: 0 :: 0 :: 0 :: 0 :: 0 :: 0 :: 0 :: 0 :: 0 :: 0 :: 0 :: 0 :: 0 :: 0 :: 0 :: 0 :: []) 32 = [0, 0, 0, 0] ↔ ¬ (a ≠ 0 ∨ b ≠ 0 ∨ c ≠ 0) := by
  rw [mulW_32]
  simp only [beN, List.foldl, List.cons.injEq, and_true, true_and]
  omega
theorem exz_20 (a b c : Nat) (ha : a < 128) (hb : b < 256) (hc : c < 256) : mulW (0 :: 0 :: 0 :: 0 :: 0 :: 0 :: 0 :: 0 :: 0 :: 0 :: 0 :: 0 :: a :: b :: c :: 0 :: 0 :: 0 :: 0 :: 0 :: 0 :: 0 :: 0 :: 0 :: 0 :: 0 :: 0 :: 0 :: 0 :: 0 :: 0 :: 0 :: []) 32 = [0, 0, 0, 0] ↔ ¬ (a ≠ 0 ∨ b ≠ 0 ∨ c ≠ 0) := by
  rw [mulW_32]
  simp only [beN, List.foldl, List.cons.injEq, and_true, true_and]
  omega
theorem exz_21 (a b c : Nat) (ha : a < 128) (hb : b < 256) (hc : c < 256) : mulW (0 :: 0 :: 0 :: 0 :: 0 :: 0 :: 0 :: 0 :: 0 :: 0 :: 0 :: a :: b :: c :: 0 :: 0 :: 0 :: 0 :: 0 :: 0 :: 0 :: 0 :: 0 :: 0 :: 0 :: 0 :: 0 :: 0 :: 0 :: 0 :: 0 :: 0 :: []) 32 = [0, 0, 0, 0] ↔ ¬ (a ≠ 0 ∨ b ≠ 0 ∨ c ≠ 0) := by
  rw [mulW_32]
  simp only [beN, List.foldl, List.cons.injEq, and_true, true_and]
  omega
theorem exz_22 (a b c : Nat) (ha : a < 128) (hb : b < 256) (hc : c < 256) : mulW (0 :: 0 :: 0 :: 0 :: 0 :: 0 :: 0 :: 0 :: 0 :: 0 :: a :: b :: c :: 0 :: 0 :: 0 :: 0 :: 0 :: 0 :: 0 :: 0 :: 0 :: 0 :: 0 :: 0 :: 0 :: 0 :: 0 :: 0 :: 0 :: 0 :: 0 :: []) 32 = [0, 0, 0, 0] ↔ ¬ (a ≠ 0 ∨ b ≠ 0 ∨ c ≠ 0) := by
  rw [mulW_32]
  simp only [beN, List.foldl, List.cons.injEq, and_true, true_and]
  omega
theorem exz_23 (a b c : Nat) (ha : a < 128) (hb : b < 256) (hc : c < 256) : mulW (0 :: 0 :: 0 :: 0 :: 0 :: 0 :: 0 :: 0 :: 0 :: a :: b :: c :: 0 :: 0 :: 0 :: 0 :: 0 :: 0 :: 0 :: 0 :: 0 :: 0 :: 0 :: 0 :: 0 :: 0 :: 0 :: 0 :: 0 :: 0 :: 0 :: 0 :: []) 32 = [0, 0, 0, 0] ↔ ¬ (a ≠ 0 ∨ b ≠ 0 ∨ c ≠ 0) := by
  rw [mulW_32]
  simp only [beN, List.foldl, List.cons.injEq, and_true, true_and]
  omega
theorem exz_24 (a b c : Nat) (ha : a < 128) (hb : b < 256) (hc : c < 256) : mulW (0 :: 0 :: 0 :: 0 :: 0 :: 0 :: 0 :: 0 :: a :: b :: c :: 0 :: 0 :: 0 :: 0 :: 0 :: 0 :: 0 :: 0 :: 0 :: 0 :: 0 :: 0 :: 0 :: 0 :: 0 :: 0 :: 0 :: 0 :: 0 :: 0 :: 0 :: []) 32 = [0, 0, 0, 0] ↔ ¬ (a ≠ 0 ∨ b ≠ 0 ∨ c ≠ 0) := by
  rw [mulW_32]
  simp only [beN, List.foldl, List.cons.injEq, and_true, true_and]
  omega
theorem exz_25 (a b c : Nat) (ha : a < 128) (hb : b < 256) (hc : c < 256) : mulW (0 :: 0 :: 0 :: 0 :: 0 :: 0 :: 0 :: a :: b :: c :: 0 :: 0 :: 0 :: 0 :: 0 :: 0 :: 0 :: 0 :: 0 :: 0 :: 0 :: 0 :: 0 :: 0 :: 0 :: 0 :: 0 :: 0 :: 0 :: 0 :: 0 :: 0 :: []) 32 = [0, 0, 0, 0] ↔ ¬ (a ≠ 0 ∨ b ≠ 0 ∨ c ≠ 0) := by
  rw [mulW_32]
  simp only [beN, List.foldl, List.cons.injEq, and_true, true_and]
  omega
theorem exz_26 (a b c : Nat) (ha : a < 128) (hb : b < 256) (hc : c < 256) : mulW (0 :: 0 :: 0 :: 0 :: 0 :: 0 :: a :: b :: c :: 0 :: 0 :: 0 :: 0 :: 0 :: 0 :: 0 :: 0 :: 0 :: 0 :: 0 :: 0 :: 0 :: 0 :: 0 :: 0 :: 0 :: 0 :: 0 :: 0 :: 0 :: 0 :: 0 :: []) 32 = [0, 0, 0, 0] ↔ ¬ (a ≠ 0 ∨ b ≠ 0 ∨ c ≠ 0) := by
  rw [mulW_32]
  simp only [beN, List.foldl, List.cons.injEq, and_true, true_and]
  omega
theorem exz_27 (a b c : Nat) (ha : a < 128) (hb : b < 256) (hc : c < 256) : mulW (0 :: 0 :: 0 :: 0 :: 0 :: a :: b :: c :: 0 :: 0 :: 0 :: 0 :: 0 :: 0 :: 0 :: 0 :: 0 :: 0 :: 0 :: 0 :: 0 :: 0 :: 0 :: 0 :: 0 :: 0 :: 0 :: 0 :: 0 :: 0 :: 0 :: 0 :: []) 32 = [0, 0, 0, 0] ↔ ¬ (a ≠ 0 ∨ b ≠ 0 ∨ c ≠ 0) := by
  rw [mulW_32]
  simp only [beN, List.foldl, List.cons.injEq, and_true, true_and]
  omega
theorem exz_28 (a b c : Nat) (ha : a < 128) (hb : b < 256) (hc : c < 256) : mulW (0 :: 0 :: 0 :: 0 :: a :: b :: c :: 0 :: 0 :: 0 :: 0 :: 0 :: 0 :: 0 :: 0 :: 0 :: 0 :: 0 :: 0 :: 0 :: 0 :: 0 :: 0 :: 0 :: 0 :: 0 :: 0 :: 0 :: 0 :: 0 :: 0 :: 0 :: []) 32 = [0, 0, 0, 0] ↔ ¬ (a ≠ 0 ∨ b ≠ 0 ∨ c ≠ 0) := by
  rw [mulW_32]
  simp only [beN, List.foldl, List.cons.injEq, and_true, true_and]
  omega
theorem exz_29 (a b c : Nat) (ha : a < 128) (hb : b < 256) (hc : c < 256) : mulW (0 :: 0 :: 0 :: a :: b :: c :: 0 :: 0 :: 0 :: 0 :: 0 :: 0 :: 0 :: 0 :: 0 :: 0 :: 0 :: 0 :: 0 :: 0 :: 0 :: 0 :: 0 :: 0 :: 0 :: 0 :: 0 :: 0 :: 0 :: 0 :: 0 :: 0 :: []) 32 = [0, 0, 0, 0] ↔ ¬ (a ≠ 0 ∨ b ≠ 0 ∨ c ≠ 0) := by
  rw [mulW_32]
  simp only [beN, List.foldl, List.cons.injEq, and_true, true_and]
  omega
theorem exz_30 (a b c : Nat) (ha : a < 128) (hb : b < 256) (hc : c < 256) : mulW (0 :: 0 :: a :: b :: c :: 0 :: 0 :: 0 :: 0 :: 0 :: 0 :: 0 :: 0 :: 0 :: 0 :: 0 :: 0 :: 0 :: 0 :: 0 :: 0 :: 0 :: 0 :: 0 :: 0 :: 0 :: 0 :: 0 :: 0 :: 0 :: 0 :: 0 :: []) 32 = [0, 0, 0, 0] ↔ ¬ (a ≠ 0 ∨ b ≠ 0 ∨ c ≠ 0) := by
  rw [mulW_32]
  simp only [beN, List.foldl, List.cons.injEq, and_true, true_and]
  omega
theorem exz_31 (a b c : Nat) (ha : a < 128) (hb : b < 256) (hc : c < 256) : mulW (0 :: a :: b :: c :: 0 :: 0 :: 0 :: 0 :: 0 :: 0 :: 0 :: 0 :: 0 :: 0 :: 0 :: 0 :: 0 :: 0 :: 0 :: 0 :: 0 :: 0 :: 0 :: 0 :: 0 :: 0 :: 0 :: 0 :: 0 :: 0 :: 0 :: 0 :: []) 32 = [0, 0, 0, 0] ↔ ¬ (a ≠ 0 ∨ b ≠ 0 ∨ c ≠ 0) := by
  rw [mulW_32]
  simp only [beN, List.foldl, List.cons.injEq, and_true, true_and]
  omega
theorem exz_32 (a b c : Nat) (ha : a < 128) (hb : b < 256) (hc : c < 256) : mulW (a :: b :: c :: 0 :: 0 :: 0 :: 0 :: 0 :: 0 :: 0 :: 0 :: 0 :: 0 :: 0 :: 0 :: 0 :: 0 :: 0 :: 0 :: 0 :: 0 :: 0 :: 0 :: 0 :: 0 :: 0 :: 0 :: 0 :: 0 :: 0 :: 0 :: 0 :: []) 32 = [0, 0, 0, 0] ↔ ¬ (a ≠ 0 ∨ b ≠ 0 ∨ c ≠ 0) := by
  rw [mulW_32]
  simp only [beN, List.foldl, List.cons.injEq, and_true, true_and]
  omega
theorem exz_33 (a b c : Nat) (ha : a < 128) (hb : b < 256) (hc : c < 256) : mulW (b :: c :: 0 :: 0 :: 0 :: 0 :: 0 :: 0 :: 0 :: 0 :: 0 :: 0 :: 0 :: 0 :: 0 :: 0 :: 0 :: 0 :: 0 :: 0 :: 0 :: 0 :: 0 :: 0 :: 0 :: 0 :: 0 :: 0 :: 0 :: 0 :: 0 :: 0 :: []) 32 = [0, 0, 0, 0] ↔ ¬ (b ≠ 0 ∨ c ≠ 0) := by
  rw [mulW_32]
  simp only [beN, List.foldl, List.cons.injEq, and_true, true_and]
  omega
theorem exz_34 (a b c : Nat) (ha : a < 128) (hb : b < 256) (hc : c < 256) : mulW (c :: 0 :: 0 :: 0 :: 0 :: 0 :: 0 :: 0 :: 0 :: 0 :: 0 :: 0 :: 0 :: 0 :: 0 :: 0 :: 0 :: 0 :: 0 :: 0 :: 0 :: 0 :: 0 :: 0 :: 0 :: 0 :: 0 :: 0 :: 0 :: 0 :: 0 :: 0 :: []) 32 = [0, 0, 0, 0] ↔ ¬ (c ≠ 0) := by
  rw [mulW_32]
  simp only [beN, List.foldl, List.cons.injEq, and_true, true_and]
  omega
theorem exz_35 (a b c : Nat) (ha : a < 128) (hb : b < 256) (hc : c < 256) : mulW (0 :: 0 :: 0 :: 0 :: 0 :: 0 :: 0 :: 0 :: 0 :: 0 :: 0 :: 0 :: 0 :: 0 :: 0 :: 0 :: 0 :: 0 :: 0 :: 0 :: 0 :: 0 :: 0 :: 0 :: 0 :: 0 :: 0 :: 0 :: 0 :: 0 :: 0 :: 0 :: []) 32 = [0, 0, 0, 0] ↔ ¬ (False) := by
  rw [mulW_32]
  simp only [beN, List.foldl, List.cons.injEq, and_true, true_and]
  simp
theorem go_3 (a b c : Nat) (ha : a < 128) (hb : b < 256) (hc : c < 256) : goR 3 [a, b, c] 0 zB false = prgE 3 (a * 65536 + b * 256 + c) := by
  have hv : ¬ overE 3 (a * 65536 + b * 256 + c) := by rw [overE_iff]; omega
  unfold prgE
  rw [if_neg (by omega), if_neg hv, goR_mid 3 a b c (by omega) (by omega)]
  exact fin_W (ex_3 a b c ha hb hc) (exz_3 a b c ha hb hc)
theorem go_4 (a b c : Nat) (ha : a < 128) (hb : b < 256) (hc : c < 256) : goR 4 [a, b, c] 0 zB false = prgE 4 (a * 65536 + b * 256 + c) := by
  have hv : ¬ overE 4 (a * 65536 + b * 256 + c) := by rw [overE_iff]; omega
  unfold prgE
  rw [if_neg (by omega), if_neg hv, goR_mid 4 a b c (by omega) (by omega)]
  exact fin_W (ex_4 a b c ha hb hc) (exz_4 a b c ha hb hc)
theorem go_5 (a b c : Nat) (ha : a < 128) (hb : b < 256) (hc : c < 256) : goR 5 [a, b, c] 0 zB false = prgE 5 (a * 65536 + b * 256 + c) := by
  have hv : ¬ overE 5 (a * 65536 + b * 256 + c) := by rw [overE_iff]; omega
  unfold prgE
  rw [if_neg (by omega), if_neg hv, goR_mid 5 a b c (by omega) (by omega)]
  exact fin_W (ex_5 a b c ha hb hc) (exz_5 a b c ha hb hc)
theorem go_6 (a b c : Nat) (ha : a < 128) (hb : b < 256) (hc : c < 256) : goR 6 [a, b, c] 0 zB false = prgE 6 (a * 65536 + b * 256 + c) := by
  have hv : ¬ overE 6 (a * 65536 + b * 256 + c) := by rw [overE_iff]; omega
  unfold prgE
  rw [if_neg (by omega), if_neg hv, goR_mid 6 a b c (by omega) (by omega)]
  exact fin_W (ex_6 a b c ha hb hc) (exz_6 a b c ha hb hc)
theorem go_7 (a b c : Nat) (ha : a < 128) (hb : b < 256) (hc : c < 256) : goR 7 [a, b, c] 0 zB false = prgE 7 (a * 65536 + b * 256 + c) := by
  have hv : ¬ overE 7 (a * 65536 + b * 256 + c) := by rw [overE_iff]; omega
  unfold prgE
  rw [if_neg (by omega), if_neg hv, goR_mid 7 a b c (by omega) (by omega)]
  exact fin_W (ex_7 a b c ha hb hc) (exz_7 a b c ha hb hc)
theorem go_8 (a b c : Nat) (ha : a < 128) (hb : b < 256) (hc : c < 256) : goR 8 [a, b, c] 0 zB false = prgE 8 (a * 65536 + b * 256 + c) := by
  have hv : ¬ overE 8 (a * 65536 + b * 256 + c) := by rw [overE_iff]; omega
  unfold prgE
  rw [if_neg (by omega), if_neg hv, goR_mid 8 a b c (by omega) (by omega)]
  exact fin_W (ex_8 a b c ha hb hc) (exz_8 a b c ha hb hc)
theorem go_9 (a b c : Nat) (ha : a < 128) (hb : b < 256) (hc : c < 256) : goR 9 [a, b, c] 0 zB false = prgE 9 (a * 65536 + b * 256 + c) := by
  have hv : ¬ overE 9 (a * 65536 + b * 256 + c) := by rw [overE_iff]; omega
  unfold prgE
  rw [if_neg (by omega), if_neg hv, goR_mid 9 a b c (by omega) (by omega)]
  exact fin_W (ex_9 a b c ha hb hc) (exz_9 a b c ha hb hc)
theorem go_10 (a b c : Nat) (ha : a < 128) (hb : b < 256) (hc : c < 256) : goR 10 [a, b, c] 0 zB false = prgE 10 (a * 65536 + b * 256 + c) := by
  have hv : ¬ overE 10 (a * 65536 + b * 256 + c) := by rw [overE_iff]; omega
  unfold prgE
  rw [if_neg (by omega), if_neg hv, goR_mid 10 a b c (by omega) (by omega)]
  exact fin_W (ex_10 a b c ha hb hc) (exz_10 a b c ha hb hc)
theorem go_11 (a b c : Nat) (ha : a < 128) (hb : b < 256) (hc : c < 256) : goR 11 [a, b, c] 0 zB false = prgE 11 (a * 65536 + b * 256 + c) := by
  have hv : ¬ overE 11 (a * 65536 + b * 256 + c) := by rw [overE_iff]; omega
  unfold prgE
  rw [if_neg (by omega), if_neg hv, goR_mid 11 a b c (by omega) (by omega)]
  exact fin_W (ex_11 a b c ha hb hc) (exz_11 a b c ha hb hc)
theorem go_12 (a b c : Nat) (ha : a < 128) (hb : b < 256) (hc : c < 256) : goR 12 [a, b, c] 0 zB false = prgE 12 (a * 65536 + b * 256 + c) := by
  have hv : ¬ overE 12 (a * 65536 + b * 256 + c) := by rw [overE_iff]; omega
  unfold prgE
  rw [if_neg (by omega), if_neg hv, goR_mid 12 a b c (by omega) (by omega)]
  exact fin_W (ex_12 a b c ha hb hc) (exz_12 a b c ha hb hc)
theorem go_13 (a b c : Nat) (ha : a < 128) (hb : b < 256) (hc : c < 256) : goR 13 [a, b, c] 0 zB false = prgE 13 (a * 65536 + b * 256 + c) := by
  have hv : ¬ overE 13 (a * 65536 + b * 256 + c) := by rw [overE_iff]; omega
  unfold prgE
  rw [if_neg (by omega), if_neg hv, goR_mid 13 a b c (by omega) (by omega)]
  exact fin_W (ex_13 a b c ha hb hc) (exz_13 a b c ha hb hc)
theorem go_14 (a b c : Nat) (ha : a < 128) (hb : b < 256) (hc : c < 256) : goR 14 [a, b, c] 0 zB false = prgE 14 (a * 65536 + b * 256 + c) := by
  have hv : ¬ overE 14 (a * 65536 + b * 256 + c) := by rw [overE_iff]; omega
  unfold prgE
  rw [if_neg (by omega), if_neg hv, goR_mid 14 a b c (by omega) (by omega)]
  exact fin_W (ex_14 a b c ha hb hc) (exz_14 a b c ha hb hc)
theorem go_15 (a b c : Nat) (ha : a < 128) (hb : b < 256) (hc : c < 256) : goR 15 [a, b, c] 0 zB false = prgE 15 (a * 65536 + b * 256 + c) := by
  have hv : ¬ overE 15 (a * 65536 + b * 256 + c) := by rw [overE_iff]; omega
  unfold prgE
  rw [if_neg (by omega), if_neg hv, goR_mid 15 a b c (by omega) (by omega)]
  exact fin_W (ex_15 a b c ha hb hc) (exz_15 a b c ha hb hc)
theorem go_16 (a b c : Nat) (ha : a < 128) (hb : b < 256) (hc : c < 256) : goR 16 [a, b, c] 0 zB false = prgE 16 (a * 65536 + b * 256 + c) := by
  have hv : ¬ overE 16 (a * 65536 + b * 256 + c) := by rw [overE_iff]; omega
  unfold prgE
  rw [if_neg (by omega), if_neg hv, goR_mid 16 a b c (by omega) (by omega)]
  exact fin_W (ex_16 a b c ha hb hc) (exz_16 a b c ha hb hc)
theorem go_17 (a b c : Nat) (ha : a < 128) (hb : b < 256) (hc : c < 256) : goR 17 [a, b, c] 0 zB false = prgE 17 (a * 65536 + b * 256 + c) := by
  have hv : ¬ overE 17 (a * 65536 + b * 256 + c) := by rw [overE_iff]; omega
  unfold prgE
  rw [if_neg (by omega), if_neg hv, goR_mid 17 a b c (by omega) (by omega)]
  exact fin_W (ex_17 a b c ha hb hc) (exz_17 a b c ha hb hc)
theorem go_18 (a b c : Nat) (ha : a < 128) (hb : b < 256) (hc : c < 256) : goR 18 [a, b, c] 0 zB false = prgE 18 (a * 65536 + b * 256 + c) := by
  have hv : ¬ overE 18 (a * 65536 + b * 256 + c) := by rw [overE_iff]; omega
  unfold prgE
  rw [if_neg (by omega), if_neg hv, goR_mid 18 a b c (by omega) (by omega)]
  exact fin_W (ex_18 a b c ha hb hc) (exz_18 a b c ha hb hc)
theorem go_19 (a b c : Nat) (ha : a < 128) (hb : b < 256) (hc : c < 256) : goR 19 [a, b, c] 0 zB false = prgE 19 (a * 65536 + b * 256 + c) := by
  have hv : ¬ overE 19 (a * 65536 + b * 256 + c) := by rw [overE_iff]; omega
  unfold prgE
  rw [if_neg (by omega), if_neg hv, goR_mid 19 a b c (by omega) (by omega)]
  exact fin_W (ex_19 a b c ha hb hc) (exz_19 a b c ha hb hc)
theorem go_20 (a b c : Nat) (ha : a < 128) (hb : b < 256) (hc : c < 256) : goR 20 [a, b, c] 0 zB false = prgE 20 (a * 65536 + b * 256 + c) := by
  have hv : ¬ overE 20 (a * 65536 + b * 256 + c) := by rw [overE_iff]; omega
  unfold prgE
  rw [if_neg (by omega), if_neg hv, goR_mid 20 a b c (by omega) (by omega)]
  exact fin_W (ex_20 a b c ha hb hc) (exz_20 a b c ha hb hc)
theorem go_21 (a b c : Nat) (ha : a < 128) (hb : b < 256) (hc : c < 256) : goR 21 [a, b, c] 0 zB false = prgE 21 (a * 65536 + b * 256 + c) := by
  have hv : ¬ overE 21 (a * 65536 + b * 256 + c) := by rw [overE_iff]; omega
  unfold prgE
  rw [if_neg (by omega), if_neg hv, goR_mid 21 a b c (by omega) (by omega)]
  exact fin_W (ex_21 a b c ha hb hc) (exz_21 a b c ha hb hc)
theorem go_22 (a b c : Nat) (ha : a < 128) (hb : b < 256) (hc : c < 256) : goR 22 [a, b, c] 0 zB false = prgE 22 (a * 65536 + b * 256 + c) := by
  have hv : ¬ overE 22 (a * 65536 + b * 256 + c) := by rw [overE_iff]; omega
  unfold prgE
  rw [if_neg (by omega), if_neg hv, goR_mid 22 a b c (by omega) (by omega)]
  exact fin_W (ex_22 a b c ha hb hc) (exz_22 a b c ha hb hc)
theorem go_23 (a b c : Nat) (ha : a < 128) (hb : b < 256) (hc : c < 256) : goR 23 [a, b, c] 0 zB false = prgE 23 (a * 65536 + b * 256 + c) := by
  have hv : ¬ overE 23 (a * 65536 + b * 256 + c) := by rw [overE_iff]; omega
  unfold prgE
  rw [if_neg (by omega), if_neg hv, goR_mid 23 a b c (by omega) (by omega)]
  exact fin_W (ex_23 a b c ha hb hc) (exz_23 a b c ha hb hc)
theorem go_24 (a b c : Nat) (ha : a < 128) (hb : b < 256) (hc : c < 256) : goR 24 [a, b, c] 0 zB false = prgE 24 (a * 65536 + b * 256 + c) := by
  have hv : ¬ overE 24 (a * 65536 + b * 256 + c) := by rw [overE_iff]; omega
  unfold prgE
  rw [if_neg (by omega), if_neg hv, goR_mid 24 a b c (by omega) (by omega)]
  exact fin_W (ex_24 a b c ha hb hc) (exz_24 a b c ha hb hc)
theorem go_25 (a b c : Nat) (ha : a < 128) (hb : b < 256) (hc : c < 256) : goR 25 [a, b, c] 0 zB false = prgE 25 (a * 65536 + b * 256 + c) := by
  have hv : ¬ overE 25 (a * 65536 + b * 256 + c) := by rw [overE_iff]; omega
  unfold prgE
  rw [if_neg (by omega), if_neg hv, goR_mid 25 a b c (by omega) (by omega)]
  exact fin_W (ex_25 a b c ha hb hc) (exz_25 a b c ha hb hc)
theorem go_26 (a b c : Nat) (ha : a < 128) (hb : b < 256) (hc : c < 256) : goR 26 [a, b, c] 0 zB false = prgE 26 (a * 65536 + b * 256 + c) := by
  have hv : ¬ overE 26 (a * 65536 + b * 256 + c) := by rw [overE_iff]; omega
  unfold prgE
  rw [if_neg (by omega), if_neg hv, goR_mid 26 a b c (by omega) (by omega)]
  exact fin_W (ex_26 a b c ha hb hc) (exz_26 a b c ha hb hc)
theorem go_27 (a b c : Nat) (ha : a < 128) (hb : b < 256) (hc : c < 256) : goR 27 [a, b, c] 0 zB false = prgE 27 (a * 65536 + b * 256 + c) := by
  have hv : ¬ overE 27 (a * 65536 + b * 256 + c) := by rw [overE_iff]; omega
  unfold prgE
  rw [if_neg (by omega), if_neg hv, goR_mid 27 a b c (by omega) (by omega)]
  exact fin_W (ex_27 a b c ha hb hc) (exz_27 a b c ha hb hc)
theorem go_28 (a b c : Nat) (ha : a < 128) (hb : b < 256) (hc : c < 256) : goR 28 [a, b, c] 0 zB false = prgE 28 (a * 65536 + b * 256 + c) := by
  have hv : ¬ overE 28 (a * 65536 + b * 256 + c) := by rw [overE_iff]; omega
  unfold prgE
  rw [if_neg (by omega), if_neg hv, goR_mid 28 a b c (by omega) (by omega)]
  exact fin_W (ex_28 a b c ha hb hc) (exz_28 a b c ha hb hc)
theorem go_29 (a b c : Nat) (ha : a < 128) (hb : b < 256) (hc : c < 256) : goR 29 [a, b, c] 0 zB false = prgE 29 (a * 65536 + b * 256 + c) := by
  have hv : ¬ overE 29 (a * 65536 + b * 256 + c) := by rw [overE_iff]; omega
  unfold prgE
  rw [if_neg (by omega), if_neg hv, goR_mid 29 a b c (by omega) (by omega)]
  exact fin_W (ex_29 a b c ha hb hc) (exz_29 a b c ha hb hc)
theorem go_30 (a b c : Nat) (ha : a < 128) (hb : b < 256) (hc : c < 256) : goR 30 [a, b, c] 0 zB false = prgE 30 (a * 65536 + b * 256 + c) := by
  have hv : ¬ overE 30 (a * 65536 + b * 256 + c) := by rw [overE_iff]; omega
  unfold prgE
  rw [if_neg (by omega), if_neg hv, goR_mid 30 a b c (by omega) (by omega)]
  exact fin_W (ex_30 a b c ha hb hc) (exz_30 a b c ha hb hc)
theorem go_31 (a b c : Nat) (ha : a < 128) (hb : b < 256) (hc : c < 256) : goR 31 [a, b, c] 0 zB false = prgE 31 (a * 65536 + b * 256 + c) := by
  have hv : ¬ overE 31 (a * 65536 + b * 256 + c) := by rw [overE_iff]; omega
  unfold prgE
  rw [if_neg (by omega), if_neg hv, goR_mid 31 a b c (by omega) (by omega)]
  exact fin_W (ex_31 a b c ha hb hc) (exz_31 a b c ha hb hc)
theorem go_32 (a b c : Nat) (ha : a < 128) (hb : b < 256) (hc : c < 256) : goR 32 [a, b, c] 0 zB false = prgE 32 (a * 65536 + b * 256 + c) := by
  have hv : ¬ overE 32 (a * 65536 + b * 256 + c) := by rw [overE_iff]; omega
  unfold prgE
  rw [if_neg (by omega), if_neg hv, goR_mid 32 a b c (by omega) (by omega)]
  exact fin_W (ex_32 a b c ha hb hc) (exz_32 a b c ha hb hc)
theorem go_0 (a b c : Nat) (ha : a < 128) (hb : b < 256) (hc : c < 256) : goR 0 [a, b, c] 0 zB false = prgE 0 (a * 65536 + b * 256 + c) := by
  have h0 : r32 (8 * (3 - 0)) (a * 65536 + b * 256 + c) = 0 := Nat.div_eq_of_lt (by simp; omega)
  unfold prgE
  rw [if_pos (by omega), h0]
  simp [goR, toldV]
theorem go_1 (a b c : Nat) (ha : a < 128) (hb : b < 256) (hc : c < 256) : goR 1 [a, b, c] 0 zB false = prgE 1 (a * 65536 + b * 256 + c) := by
  have h : goR 1 [a, b, c] 0 zB false = if a ≠ 0 then (mulW (zB.set 31 a) 32, 0) else ([0, 0, 0, 0], 3) := by
    simp only [goR]
    rw [if_neg (by omega), if_pos (by omega), if_neg (by omega), if_neg (by omega), if_neg (by omega), if_neg (by omega)]
    simp
  unfold prgE
  rw [if_pos (by omega), h]
  exact fin_W (ex_1 a b c ha hb hc) (exz_1 a b c ha hb hc)
theorem go_2 (a b c : Nat) (ha : a < 128) (hb : b < 256) (hc : c < 256) : goR 2 [a, b, c] 0 zB false = prgE 2 (a * 65536 + b * 256 + c) := by
  have h : goR 2 [a, b, c] 0 zB false = if a ≠ 0 ∨ b ≠ 0 then (mulW ((zB.set 30 a).set 31 b) 32, 0) else ([0, 0, 0, 0], 3) := by
    simp only [goR]
    rw [if_neg (by omega), if_pos (by omega), if_neg (by omega), if_pos (by omega), if_neg (by omega), if_neg (by omega)]
    simp
  unfold prgE
  rw [if_pos (by omega), h]
  exact fin_W (ex_2 a b c ha hb hc) (exz_2 a b c ha hb hc)
theorem go_33 (a b c : Nat) (ha : a < 128) (hb : b < 256) (hc : c < 256) : goR 33 [a, b, c] 0 zB false = prgE 33 (a * 65536 + b * 256 + c) := by
  unfold prgE
  rw [if_neg (by omega)]
  by_cases h0 : a = 0
  · have h : goR 33 [a, b, c] 0 zB false = if b ≠ 0 ∨ c ≠ 0 then (mulW ((zB.set 0 b).set 1 c) 32, 0) else ([0, 0, 0, 0], 3) := by
      simp only [goR]
      rw [if_neg (by omega), if_neg (by omega), if_neg (by omega), if_pos (by omega), if_neg (by omega), if_pos (by omega)]
      simp
    rw [if_neg (by rw [overE_iff]; omega), h]
    exact fin_W (ex_33 a b c ha hb hc h0) (exz_33 a b c ha hb hc)
  · rw [if_pos (by rw [overE_iff]; omega)]
    simp only [goR]
    rw [if_pos (by omega)]
theorem go_34 (a b c : Nat) (ha : a < 128) (hb : b < 256) (hc : c < 256) : goR 34 [a, b, c] 0 zB false = prgE 34 (a * 65536 + b * 256 + c) := by
  unfold prgE
  rw [if_neg (by omega)]
  by_cases h0 : a = 0
  · by_cases h1 : b = 0
    · have h : goR 34 [a, b, c] 0 zB false = if c ≠ 0 then (mulW (zB.set 0 c) 32, 0) else ([0, 0, 0, 0], 3) := by
        simp only [goR]
        rw [if_neg (by omega), if_neg (by omega), if_neg (by omega), if_neg (by omega), if_neg (by omega), if_pos (by omega)]
        simp
      rw [if_neg (by rw [overE_iff]; omega), h]
      exact fin_W (ex_34 a b c ha hb hc h0 h1) (exz_34 a b c ha hb hc)
    · rw [if_pos (by rw [overE_iff]; omega)]
      simp only [goR]
      rw [if_neg (by omega), if_neg (by omega), if_pos (by omega)]
  · rw [if_pos (by rw [overE_iff]; omega)]
    simp only [goR]
    rw [if_pos (by omega)]
theorem go_35 (a b c e : Nat) (ha : a < 128) (hb : b < 256) (hc : c < 256) (he : 35 ≤ e) : goR e [a, b, c] 0 zB false = ([0, 0, 0, 0], 3) := by
  simp only [goR]
  by_cases h0 : a = 0
  · by_cases h1 : b = 0
    · by_cases h2 : c = 0
      · rw [if_neg (by omega), if_neg (by omega), if_neg (by omega), if_neg (by omega), if_neg (by omega), if_neg (by omega)]
        simp
      · rw [if_neg (by omega), if_neg (by omega), if_neg (by omega), if_neg (by omega), if_pos (by omega)]
    · rw [if_neg (by omega), if_neg (by omega), if_pos (by omega)]
  · rw [if_pos (by omega)]
theorem prgE_35 (e m : Nat) (he : 35 ≤ e) : prgE e m = ([0, 0, 0, 0], 3) := by
  unfold prgE
  rw [if_neg (by omega)]
  by_cases h : overE e m
  · rw [if_pos h]
  · rw [if_neg h]
    rw [overE_iff] at h
    have hm : m = 0 := by omega
    have h35 : e = 35 := by omega
    subst hm
    subst h35
    rfl
theorem goR_eq (e a b c : Nat) (ha : a < 128) (hb : b < 256) (hc : c < 256) : goR e [a, b, c] 0 zB false = prgE e (a * 65536 + b * 256 + c) := by
  by_cases he : 35 ≤ e
  · rw [go_35 a b c e ha hb hc he, prgE_35 e _ he]
  · match e with
    | 0 => exact go_0 a b c ha hb hc
    | 1 => exact go_1 a b c ha hb hc
    | 2 => exact go_2 a b c ha hb hc
    | 3 => exact go_3 a b c ha hb hc
    | 4 => exact go_4 a b c ha hb hc
    | 5 => exact go_5 a b c ha hb hc
    | 6 => exact go_6 a b c ha hb hc
    | 7 => exact go_7 a b c ha hb hc
    | 8 => exact go_8 a b c ha hb hc
    | 9 => exact go_9 a b c ha hb hc
    | 10 => exact go_10 a b c ha hb hc
    | 11 => exact go_11 a b c ha hb hc
    | 12 => exact go_12 a b c ha hb hc
    | 13 => exact go_13 a b c ha hb hc
    | 14 => exact go_14 a b c ha hb hc
    | 15 => exact go_15 a b c ha hb hc
    | 16 => exact go_16 a b c ha hb hc
    | 17 => exact go_17 a b c ha hb hc
    | 18 => exact go_18 a b c ha hb hc
    | 19 => exact go_19 a b c ha hb hc
    | 20 => exact go_20 a b c ha hb hc
    | 21 => exact go_21 a b c ha hb hc
    | 22 => exact go_22 a b c ha hb hc
    | 23 => exact go_23 a b c ha hb hc
    | 24 => exact go_24 a b c ha hb hc
    | 25 => exact go_25 a b c ha hb hc
    | 26 => exact go_26 a b c ha hb hc
    | 27 => exact go_27 a b c ha hb hc
    | 28 => exact go_28 a b c ha hb hc
    | 29 => exact go_29 a b c ha hb hc
    | 30 => exact go_30 a b c ha hb hc
    | 31 => exact go_31 a b c ha hb hc
    | 32 => exact go_32 a b c ha hb hc
    | 33 => exact go_33 a b c ha hb hc
    | 34 => exact go_34 a b c ha hb hc
    | e + 35 => omega
end Go.Sha
