/-
  Facts of types, printed by a program of ours.
-/
import Derived.Test.YtnmnabagabejjaaGreatRows
import Derived.Test.YtnmnabagabejjaaGreatAmRun
namespace Go.Proofs.YtnmnabagabejjaaGreat
open Go.Am
set_option maxRecDepth 100000
@[go_sem] theorem k1 : tyk Tryz.prog 1 = .scal := by kernel_rfl
@[go_sem] theorem c1 : Tryz.prog.cellsOf 1 = 1 := by kernel_rfl
@[go_sem] theorem b1 : Tryz.prog.bytesOf 1 = 8 := by kernel_rfl
@[go_sem] theorem z1 : tzO Tryz.prog 1 = some [.d .nilf] := by kernel_rfl
@[go_sem] theorem u1 : (Tryz.prog.underlying 1).isSome = true := by kernel_rfl
@[go_sem] theorem k2 : tyk Tryz.prog 2 = .scal := by kernel_rfl
@[go_sem] theorem c2 : Tryz.prog.cellsOf 2 = 1 := by kernel_rfl
@[go_sem] theorem b2 : Tryz.prog.bytesOf 2 = 8 := by kernel_rfl
@[go_sem] theorem z2 : tzO Tryz.prog 2 = some [.d (.int .i64 0)] := by kernel_rfl
@[go_sem] theorem i2 : ikind Tryz.prog 2 = some .i64 := by kernel_rfl
@[go_sem] theorem u2 : (Tryz.prog.underlying 2).isSome = true := by kernel_rfl
@[go_sem] theorem k3 : tyk Tryz.prog 3 = .scal := by kernel_rfl
@[go_sem] theorem c3 : Tryz.prog.cellsOf 3 = 1 := by kernel_rfl
@[go_sem] theorem b3 : Tryz.prog.bytesOf 3 = 8 := by kernel_rfl
@[go_sem] theorem z3 : tzO Tryz.prog 3 = some [.d (.int .i64 0)] := by kernel_rfl
@[go_sem] theorem i3 : ikind Tryz.prog 3 = some .i64 := by kernel_rfl
@[go_sem] theorem u3 : (Tryz.prog.underlying 3).isSome = true := by kernel_rfl
@[go_sem] theorem k4 : tyk Tryz.prog 4 = .scal := by kernel_rfl
@[go_sem] theorem c4 : Tryz.prog.cellsOf 4 = 1 := by kernel_rfl
@[go_sem] theorem b4 : Tryz.prog.bytesOf 4 = 1 := by kernel_rfl
@[go_sem] theorem z4 : tzO Tryz.prog 4 = some [.d (.bool false)] := by kernel_rfl
@[go_sem] theorem u4 : (Tryz.prog.underlying 4).isSome = true := by kernel_rfl
@[go_sem] theorem k5 : tyk Tryz.prog 5 = .scal := by kernel_rfl
@[go_sem] theorem c5 : Tryz.prog.cellsOf 5 = 1 := by kernel_rfl
@[go_sem] theorem b5 : Tryz.prog.bytesOf 5 = 1 := by kernel_rfl
@[go_sem] theorem z5 : tzO Tryz.prog 5 = some [.d (.int .u8 0)] := by kernel_rfl
@[go_sem] theorem i5 : ikind Tryz.prog 5 = some .u8 := by kernel_rfl
@[go_sem] theorem u5 : (Tryz.prog.underlying 5).isSome = true := by kernel_rfl
@[go_sem] theorem k6 : tyk Tryz.prog 6 = .scal := by kernel_rfl
@[go_sem] theorem c6 : Tryz.prog.cellsOf 6 = 1 := by kernel_rfl
@[go_sem] theorem b6 : Tryz.prog.bytesOf 6 = 1 := by kernel_rfl
@[go_sem] theorem z6 : tzO Tryz.prog 6 = some [.d (.int .u8 0)] := by kernel_rfl
@[go_sem] theorem i6 : ikind Tryz.prog 6 = some .u8 := by kernel_rfl
@[go_sem] theorem u6 : (Tryz.prog.underlying 6).isSome = true := by kernel_rfl
@[go_sem] theorem k7 : tyk Tryz.prog 7 = .struct [(0, 2), (1, 3), (2, 4), (3, 6)] := by kernel_rfl
@[go_sem] theorem c7 : Tryz.prog.cellsOf 7 = 4 := by kernel_rfl
@[go_sem] theorem b7 : Tryz.prog.bytesOf 7 = 24 := by kernel_rfl
@[go_sem] theorem z7 : tzO Tryz.prog 7 = some [.d (.int .i64 0), .d (.int .i64 0), .d (.bool false), .d (.int .u8 0)] := by kernel_rfl
@[go_sem] theorem u7 : (Tryz.prog.underlying 7).isSome = true := by kernel_rfl
@[go_sem] theorem k8 : tyk Tryz.prog 8 = .struct [(0, 2), (1, 3), (2, 4), (3, 6)] := by kernel_rfl
@[go_sem] theorem c8 : Tryz.prog.cellsOf 8 = 4 := by kernel_rfl
@[go_sem] theorem b8 : Tryz.prog.bytesOf 8 = 24 := by kernel_rfl
@[go_sem] theorem z8 : tzO Tryz.prog 8 = some [.d (.int .i64 0), .d (.int .i64 0), .d (.bool false), .d (.int .u8 0)] := by kernel_rfl
@[go_sem] theorem u8 : (Tryz.prog.underlying 8).isSome = true := by kernel_rfl
@[go_sem] theorem k9 : tyk Tryz.prog 9 = .str := by kernel_rfl
@[go_sem] theorem c9 : Tryz.prog.cellsOf 9 = 1 := by kernel_rfl
@[go_sem] theorem b9 : Tryz.prog.bytesOf 9 = 16 := by kernel_rfl
@[go_sem] theorem z9 : tzO Tryz.prog 9 = some [.d (.str [])] := by kernel_rfl
@[go_sem] theorem u9 : (Tryz.prog.underlying 9).isSome = true := by kernel_rfl
@[go_sem] theorem k10 : tyk Tryz.prog 10 = .str := by kernel_rfl
@[go_sem] theorem c10 : Tryz.prog.cellsOf 10 = 1 := by kernel_rfl
@[go_sem] theorem b10 : Tryz.prog.bytesOf 10 = 16 := by kernel_rfl
@[go_sem] theorem z10 : tzO Tryz.prog 10 = some [.d (.str [])] := by kernel_rfl
@[go_sem] theorem u10 : (Tryz.prog.underlying 10).isSome = true := by kernel_rfl
@[go_sem] theorem k11 : tyk Tryz.prog 11 = .str := by kernel_rfl
@[go_sem] theorem c11 : Tryz.prog.cellsOf 11 = 1 := by kernel_rfl
@[go_sem] theorem b11 : Tryz.prog.bytesOf 11 = 16 := by kernel_rfl
@[go_sem] theorem z11 : tzO Tryz.prog 11 = some [.d (.str [])] := by kernel_rfl
@[go_sem] theorem u11 : (Tryz.prog.underlying 11).isSome = true := by kernel_rfl
@[go_sem] theorem k12 : tyk Tryz.prog 12 = .scal := by kernel_rfl
@[go_sem] theorem c12 : Tryz.prog.cellsOf 12 = 1 := by kernel_rfl
@[go_sem] theorem b12 : Tryz.prog.bytesOf 12 = 8 := by kernel_rfl
@[go_sem] theorem z12 : tzO Tryz.prog 12 = some [.d (.int .u64 0)] := by kernel_rfl
@[go_sem] theorem i12 : ikind Tryz.prog 12 = some .u64 := by kernel_rfl
@[go_sem] theorem u12 : (Tryz.prog.underlying 12).isSome = true := by kernel_rfl
@[go_sem] theorem k13 : tyk Tryz.prog 13 = .struct [(0, 9), (1, 12)] := by kernel_rfl
@[go_sem] theorem c13 : Tryz.prog.cellsOf 13 = 2 := by kernel_rfl
@[go_sem] theorem b13 : Tryz.prog.bytesOf 13 = 24 := by kernel_rfl
@[go_sem] theorem z13 : tzO Tryz.prog 13 = some [.d (.str []), .d (.int .u64 0)] := by kernel_rfl
@[go_sem] theorem u13 : (Tryz.prog.underlying 13).isSome = true := by kernel_rfl
@[go_sem] theorem k14 : tyk Tryz.prog 14 = .struct [(0, 9), (1, 12)] := by kernel_rfl
@[go_sem] theorem c14 : Tryz.prog.cellsOf 14 = 2 := by kernel_rfl
@[go_sem] theorem b14 : Tryz.prog.bytesOf 14 = 24 := by kernel_rfl
@[go_sem] theorem z14 : tzO Tryz.prog 14 = some [.d (.str []), .d (.int .u64 0)] := by kernel_rfl
@[go_sem] theorem u14 : (Tryz.prog.underlying 14).isSome = true := by kernel_rfl
@[go_sem] theorem k15 : tyk Tryz.prog 15 = .scal := by kernel_rfl
@[go_sem] theorem c15 : Tryz.prog.cellsOf 15 = 1 := by kernel_rfl
@[go_sem] theorem b15 : Tryz.prog.bytesOf 15 = 8 := by kernel_rfl
@[go_sem] theorem z15 : tzO Tryz.prog 15 = some [.d .nilp] := by kernel_rfl
@[go_sem] theorem u15 : (Tryz.prog.underlying 15).isSome = true := by kernel_rfl
@[go_sem] theorem k16 : tyk Tryz.prog 16 = .scal := by kernel_rfl
@[go_sem] theorem c16 : Tryz.prog.cellsOf 16 = 1 := by kernel_rfl
@[go_sem] theorem b16 : Tryz.prog.bytesOf 16 = 8 := by kernel_rfl
@[go_sem] theorem z16 : tzO Tryz.prog 16 = some [.d .nilp] := by kernel_rfl
@[go_sem] theorem u16 : (Tryz.prog.underlying 16).isSome = true := by kernel_rfl
@[go_sem] theorem k17 : tyk Tryz.prog 17 = .scal := by kernel_rfl
@[go_sem] theorem c17 : Tryz.prog.cellsOf 17 = 1 := by kernel_rfl
@[go_sem] theorem b17 : Tryz.prog.bytesOf 17 = 8 := by kernel_rfl
@[go_sem] theorem z17 : tzO Tryz.prog 17 = some [.d .nilp] := by kernel_rfl
@[go_sem] theorem u17 : (Tryz.prog.underlying 17).isSome = true := by kernel_rfl
@[go_sem] theorem k18 : tyk Tryz.prog 18 = .struct [(0, 17)] := by kernel_rfl
@[go_sem] theorem c18 : Tryz.prog.cellsOf 18 = 1 := by kernel_rfl
@[go_sem] theorem b18 : Tryz.prog.bytesOf 18 = 8 := by kernel_rfl
@[go_sem] theorem z18 : tzO Tryz.prog 18 = some [.d .nilp] := by kernel_rfl
@[go_sem] theorem u18 : (Tryz.prog.underlying 18).isSome = true := by kernel_rfl
@[go_sem] theorem k19 : tyk Tryz.prog 19 = .struct [(0, 17)] := by kernel_rfl
@[go_sem] theorem c19 : Tryz.prog.cellsOf 19 = 1 := by kernel_rfl
@[go_sem] theorem b19 : Tryz.prog.bytesOf 19 = 8 := by kernel_rfl
@[go_sem] theorem z19 : tzO Tryz.prog 19 = some [.d .nilp] := by kernel_rfl
@[go_sem] theorem u19 : (Tryz.prog.underlying 19).isSome = true := by kernel_rfl
@[go_sem] theorem k21 : tyk Tryz.prog 21 = .scal := by kernel_rfl
@[go_sem] theorem c21 : Tryz.prog.cellsOf 21 = 1 := by kernel_rfl
@[go_sem] theorem b21 : Tryz.prog.bytesOf 21 = 4 := by kernel_rfl
@[go_sem] theorem z21 : tzO Tryz.prog 21 = some [.d (.int .i32 0)] := by kernel_rfl
@[go_sem] theorem i21 : ikind Tryz.prog 21 = some .i32 := by kernel_rfl
@[go_sem] theorem u21 : (Tryz.prog.underlying 21).isSome = true := by kernel_rfl
@[go_sem] theorem k22 : tyk Tryz.prog 22 = .slice 5 := by kernel_rfl
@[go_sem] theorem c22 : Tryz.prog.cellsOf 22 = 1 := by kernel_rfl
@[go_sem] theorem b22 : Tryz.prog.bytesOf 22 = 24 := by kernel_rfl
@[go_sem] theorem z22 : tzO Tryz.prog 22 = some [.nil] := by kernel_rfl
@[go_sem] theorem u22 : (Tryz.prog.underlying 22).isSome = true := by kernel_rfl
@[go_sem] theorem k23 : tyk Tryz.prog 23 = .scal := by kernel_rfl
@[go_sem] theorem c23 : Tryz.prog.cellsOf 23 = 1 := by kernel_rfl
@[go_sem] theorem b23 : Tryz.prog.bytesOf 23 = 8 := by kernel_rfl
@[go_sem] theorem z23 : tzO Tryz.prog 23 = some [.d .nilp] := by kernel_rfl
@[go_sem] theorem u23 : (Tryz.prog.underlying 23).isSome = true := by kernel_rfl
@[go_sem] theorem k24 : tyk Tryz.prog 24 = .scal := by kernel_rfl
@[go_sem] theorem c24 : Tryz.prog.cellsOf 24 = 1 := by kernel_rfl
@[go_sem] theorem b24 : Tryz.prog.bytesOf 24 = 8 := by kernel_rfl
@[go_sem] theorem z24 : tzO Tryz.prog 24 = some [.d (.int .i64 0)] := by kernel_rfl
@[go_sem] theorem i24 : ikind Tryz.prog 24 = some .i64 := by kernel_rfl
@[go_sem] theorem u24 : (Tryz.prog.underlying 24).isSome = true := by kernel_rfl
@[go_sem] theorem k26 : tyk Tryz.prog 26 = .scal := by kernel_rfl
@[go_sem] theorem c26 : Tryz.prog.cellsOf 26 = 1 := by kernel_rfl
@[go_sem] theorem b26 : Tryz.prog.bytesOf 26 = 8 := by kernel_rfl
@[go_sem] theorem z26 : tzO Tryz.prog 26 = some [.d .nilf] := by kernel_rfl
@[go_sem] theorem u26 : (Tryz.prog.underlying 26).isSome = true := by kernel_rfl
@[go_sem] theorem k28 : tyk Tryz.prog 28 = .scal := by kernel_rfl
@[go_sem] theorem c28 : Tryz.prog.cellsOf 28 = 1 := by kernel_rfl
@[go_sem] theorem b28 : Tryz.prog.bytesOf 28 = 8 := by kernel_rfl
@[go_sem] theorem z28 : tzO Tryz.prog 28 = some [.d .nilf] := by kernel_rfl
@[go_sem] theorem u28 : (Tryz.prog.underlying 28).isSome = true := by kernel_rfl
@[go_sem] theorem k29 : tyk Tryz.prog 29 = .scal := by kernel_rfl
@[go_sem] theorem c29 : Tryz.prog.cellsOf 29 = 1 := by kernel_rfl
@[go_sem] theorem b29 : Tryz.prog.bytesOf 29 = 8 := by kernel_rfl
@[go_sem] theorem z29 : tzO Tryz.prog 29 = some [.d .nilf] := by kernel_rfl
@[go_sem] theorem u29 : (Tryz.prog.underlying 29).isSome = true := by kernel_rfl
@[go_sem] theorem k30 : tyk Tryz.prog 30 = .scal := by kernel_rfl
@[go_sem] theorem c30 : Tryz.prog.cellsOf 30 = 1 := by kernel_rfl
@[go_sem] theorem b30 : Tryz.prog.bytesOf 30 = 8 := by kernel_rfl
@[go_sem] theorem z30 : tzO Tryz.prog 30 = some [.d .nilf] := by kernel_rfl
@[go_sem] theorem u30 : (Tryz.prog.underlying 30).isSome = true := by kernel_rfl
@[go_sem] theorem k31 : tyk Tryz.prog 31 = .scal := by kernel_rfl
@[go_sem] theorem c31 : Tryz.prog.cellsOf 31 = 1 := by kernel_rfl
@[go_sem] theorem b31 : Tryz.prog.bytesOf 31 = 8 := by kernel_rfl
@[go_sem] theorem z31 : tzO Tryz.prog 31 = some [.d .nilp] := by kernel_rfl
@[go_sem] theorem u31 : (Tryz.prog.underlying 31).isSome = true := by kernel_rfl
@[go_sem] theorem kx32 : tyk Tryz.prog 32 = .scal := by kernel_rfl
@[go_sem] theorem cx32 : Tryz.prog.cellsOf 32 = 1 := by kernel_rfl
@[go_sem] theorem bx32 : Tryz.prog.bytesOf 32 = 8 := by kernel_rfl
@[go_sem] theorem zx32 : tzO Tryz.prog 32 = some [.d .nilf] := by kernel_rfl
@[go_sem] theorem ux32 : (Tryz.prog.underlying 32).isSome = true := by kernel_rfl
@[go_sem] theorem k33 : tyk Tryz.prog 33 = .slice 122 := by kernel_rfl
@[go_sem] theorem c33 : Tryz.prog.cellsOf 33 = 1 := by kernel_rfl
@[go_sem] theorem b33 : Tryz.prog.bytesOf 33 = 24 := by kernel_rfl
@[go_sem] theorem z33 : tzO Tryz.prog 33 = some [.nil] := by kernel_rfl
@[go_sem] theorem u33 : (Tryz.prog.underlying 33).isSome = true := by kernel_rfl
@[go_sem] theorem k34 : tyk Tryz.prog 34 = .scal := by kernel_rfl
@[go_sem] theorem c34 : Tryz.prog.cellsOf 34 = 1 := by kernel_rfl
@[go_sem] theorem b34 : Tryz.prog.bytesOf 34 = 8 := by kernel_rfl
@[go_sem] theorem z34 : tzO Tryz.prog 34 = some [.d .nilf] := by kernel_rfl
@[go_sem] theorem u34 : (Tryz.prog.underlying 34).isSome = true := by kernel_rfl
@[go_sem] theorem k35 : tyk Tryz.prog 35 = .slice 133 := by kernel_rfl
@[go_sem] theorem c35 : Tryz.prog.cellsOf 35 = 1 := by kernel_rfl
@[go_sem] theorem b35 : Tryz.prog.bytesOf 35 = 24 := by kernel_rfl
@[go_sem] theorem z35 : tzO Tryz.prog 35 = some [.nil] := by kernel_rfl
@[go_sem] theorem u35 : (Tryz.prog.underlying 35).isSome = true := by kernel_rfl
@[go_sem] theorem k36 : tyk Tryz.prog 36 = .scal := by kernel_rfl
@[go_sem] theorem c36 : Tryz.prog.cellsOf 36 = 1 := by kernel_rfl
@[go_sem] theorem b36 : Tryz.prog.bytesOf 36 = 8 := by kernel_rfl
@[go_sem] theorem z36 : tzO Tryz.prog 36 = some [.d .nilf] := by kernel_rfl
@[go_sem] theorem u36 : (Tryz.prog.underlying 36).isSome = true := by kernel_rfl
@[go_sem] theorem k37 : tyk Tryz.prog 37 = .slice 141 := by kernel_rfl
@[go_sem] theorem c37 : Tryz.prog.cellsOf 37 = 1 := by kernel_rfl
@[go_sem] theorem b37 : Tryz.prog.bytesOf 37 = 24 := by kernel_rfl
@[go_sem] theorem z37 : tzO Tryz.prog 37 = some [.nil] := by kernel_rfl
@[go_sem] theorem u37 : (Tryz.prog.underlying 37).isSome = true := by kernel_rfl
@[go_sem] theorem k38 : tyk Tryz.prog 38 = .scal := by kernel_rfl
@[go_sem] theorem c38 : Tryz.prog.cellsOf 38 = 1 := by kernel_rfl
@[go_sem] theorem b38 : Tryz.prog.bytesOf 38 = 8 := by kernel_rfl
@[go_sem] theorem z38 : tzO Tryz.prog 38 = some [.d .nilf] := by kernel_rfl
@[go_sem] theorem u38 : (Tryz.prog.underlying 38).isSome = true := by kernel_rfl
@[go_sem] theorem k39 : tyk Tryz.prog 39 = .scal := by kernel_rfl
@[go_sem] theorem c39 : Tryz.prog.cellsOf 39 = 1 := by kernel_rfl
@[go_sem] theorem b39 : Tryz.prog.bytesOf 39 = 8 := by kernel_rfl
@[go_sem] theorem z39 : tzO Tryz.prog 39 = some [.d .nilf] := by kernel_rfl
@[go_sem] theorem u39 : (Tryz.prog.underlying 39).isSome = true := by kernel_rfl
@[go_sem] theorem k40 : tyk Tryz.prog 40 = .scal := by kernel_rfl
@[go_sem] theorem c40 : Tryz.prog.cellsOf 40 = 1 := by kernel_rfl
@[go_sem] theorem b40 : Tryz.prog.bytesOf 40 = 8 := by kernel_rfl
@[go_sem] theorem z40 : tzO Tryz.prog 40 = some [.d .nilp] := by kernel_rfl
@[go_sem] theorem u40 : (Tryz.prog.underlying 40).isSome = true := by kernel_rfl
@[go_sem] theorem k41 : tyk Tryz.prog 41 = .slice 80 := by kernel_rfl
@[go_sem] theorem c41 : Tryz.prog.cellsOf 41 = 1 := by kernel_rfl
@[go_sem] theorem b41 : Tryz.prog.bytesOf 41 = 24 := by kernel_rfl
@[go_sem] theorem z41 : tzO Tryz.prog 41 = some [.nil] := by kernel_rfl
@[go_sem] theorem u41 : (Tryz.prog.underlying 41).isSome = true := by kernel_rfl
@[go_sem] theorem k42 : tyk Tryz.prog 42 = .scal := by kernel_rfl
@[go_sem] theorem c42 : Tryz.prog.cellsOf 42 = 1 := by kernel_rfl
@[go_sem] theorem b42 : Tryz.prog.bytesOf 42 = 8 := by kernel_rfl
@[go_sem] theorem z42 : tzO Tryz.prog 42 = some [.d .nilp] := by kernel_rfl
@[go_sem] theorem u42 : (Tryz.prog.underlying 42).isSome = true := by kernel_rfl
@[go_sem] theorem k44 : tyk Tryz.prog 44 = .scal := by kernel_rfl
@[go_sem] theorem c44 : Tryz.prog.cellsOf 44 = 1 := by kernel_rfl
@[go_sem] theorem b44 : Tryz.prog.bytesOf 44 = 8 := by kernel_rfl
@[go_sem] theorem z44 : tzO Tryz.prog 44 = some [.d .nilf] := by kernel_rfl
@[go_sem] theorem u44 : (Tryz.prog.underlying 44).isSome = true := by kernel_rfl
@[go_sem] theorem k45 : tyk Tryz.prog 45 = .scal := by kernel_rfl
@[go_sem] theorem c45 : Tryz.prog.cellsOf 45 = 1 := by kernel_rfl
@[go_sem] theorem b45 : Tryz.prog.bytesOf 45 = 8 := by kernel_rfl
@[go_sem] theorem z45 : tzO Tryz.prog 45 = some [.d .nilp] := by kernel_rfl
@[go_sem] theorem u45 : (Tryz.prog.underlying 45).isSome = true := by kernel_rfl
@[go_sem] theorem k47 : tyk Tryz.prog 47 = .scal := by kernel_rfl
@[go_sem] theorem c47 : Tryz.prog.cellsOf 47 = 1 := by kernel_rfl
@[go_sem] theorem b47 : Tryz.prog.bytesOf 47 = 8 := by kernel_rfl
@[go_sem] theorem z47 : tzO Tryz.prog 47 = some [.d .nilf] := by kernel_rfl
@[go_sem] theorem u47 : (Tryz.prog.underlying 47).isSome = true := by kernel_rfl
@[go_sem] theorem k48 : tyk Tryz.prog 48 = .scal := by kernel_rfl
@[go_sem] theorem c48 : Tryz.prog.cellsOf 48 = 1 := by kernel_rfl
@[go_sem] theorem b48 : Tryz.prog.bytesOf 48 = 8 := by kernel_rfl
@[go_sem] theorem z48 : tzO Tryz.prog 48 = some [.d .nilp] := by kernel_rfl
@[go_sem] theorem u48 : (Tryz.prog.underlying 48).isSome = true := by kernel_rfl
@[go_sem] theorem k49 : tyk Tryz.prog 49 = .scal := by kernel_rfl
@[go_sem] theorem c49 : Tryz.prog.cellsOf 49 = 1 := by kernel_rfl
@[go_sem] theorem b49 : Tryz.prog.bytesOf 49 = 8 := by kernel_rfl
@[go_sem] theorem z49 : tzO Tryz.prog 49 = some [.d .nilp] := by kernel_rfl
@[go_sem] theorem u49 : (Tryz.prog.underlying 49).isSome = true := by kernel_rfl
@[go_sem] theorem k50 : tyk Tryz.prog 50 = .scal := by kernel_rfl
@[go_sem] theorem c50 : Tryz.prog.cellsOf 50 = 1 := by kernel_rfl
@[go_sem] theorem b50 : Tryz.prog.bytesOf 50 = 4 := by kernel_rfl
@[go_sem] theorem z50 : tzO Tryz.prog 50 = some [.d (.int .u32 0)] := by kernel_rfl
@[go_sem] theorem i50 : ikind Tryz.prog 50 = some .u32 := by kernel_rfl
@[go_sem] theorem u50 : (Tryz.prog.underlying 50).isSome = true := by kernel_rfl
@[go_sem] theorem k51 : tyk Tryz.prog 51 = .struct [(0, 45), (1, 48), (2, 49), (3, 42), (4, 50), (5, 4)] := by kernel_rfl
@[go_sem] theorem c51 : Tryz.prog.cellsOf 51 = 6 := by kernel_rfl
@[go_sem] theorem b51 : Tryz.prog.bytesOf 51 = 40 := by kernel_rfl
@[go_sem] theorem z51 : tzO Tryz.prog 51 = some [.d .nilp, .d .nilp, .d .nilp, .d .nilp, .d (.int .u32 0), .d (.bool false)] := by kernel_rfl
@[go_sem] theorem u51 : (Tryz.prog.underlying 51).isSome = true := by kernel_rfl
@[go_sem] theorem k52 : tyk Tryz.prog 52 = .struct [(0, 45), (1, 48), (2, 49), (3, 42), (4, 50), (5, 4)] := by kernel_rfl
@[go_sem] theorem c52 : Tryz.prog.cellsOf 52 = 6 := by kernel_rfl
@[go_sem] theorem b52 : Tryz.prog.bytesOf 52 = 40 := by kernel_rfl
@[go_sem] theorem z52 : tzO Tryz.prog 52 = some [.d .nilp, .d .nilp, .d .nilp, .d .nilp, .d (.int .u32 0), .d (.bool false)] := by kernel_rfl
@[go_sem] theorem u52 : (Tryz.prog.underlying 52).isSome = true := by kernel_rfl
@[go_sem] theorem k53 : tyk Tryz.prog 53 = .scal := by kernel_rfl
@[go_sem] theorem c53 : Tryz.prog.cellsOf 53 = 1 := by kernel_rfl
@[go_sem] theorem b53 : Tryz.prog.bytesOf 53 = 8 := by kernel_rfl
@[go_sem] theorem z53 : tzO Tryz.prog 53 = some [.d .nilf] := by kernel_rfl
@[go_sem] theorem u53 : (Tryz.prog.underlying 53).isSome = true := by kernel_rfl
@[go_sem] theorem k54 : tyk Tryz.prog 54 = .scal := by kernel_rfl
@[go_sem] theorem c54 : Tryz.prog.cellsOf 54 = 1 := by kernel_rfl
@[go_sem] theorem b54 : Tryz.prog.bytesOf 54 = 8 := by kernel_rfl
@[go_sem] theorem z54 : tzO Tryz.prog 54 = some [.d .nilf] := by kernel_rfl
@[go_sem] theorem u54 : (Tryz.prog.underlying 54).isSome = true := by kernel_rfl
@[go_sem] theorem k55 : tyk Tryz.prog 55 = .scal := by kernel_rfl
@[go_sem] theorem c55 : Tryz.prog.cellsOf 55 = 1 := by kernel_rfl
@[go_sem] theorem b55 : Tryz.prog.bytesOf 55 = 8 := by kernel_rfl
@[go_sem] theorem z55 : tzO Tryz.prog 55 = some [.d .nilf] := by kernel_rfl
@[go_sem] theorem u55 : (Tryz.prog.underlying 55).isSome = true := by kernel_rfl
@[go_sem] theorem k56 : tyk Tryz.prog 56 = .scal := by kernel_rfl
@[go_sem] theorem c56 : Tryz.prog.cellsOf 56 = 1 := by kernel_rfl
@[go_sem] theorem b56 : Tryz.prog.bytesOf 56 = 8 := by kernel_rfl
@[go_sem] theorem z56 : tzO Tryz.prog 56 = some [.d .nilf] := by kernel_rfl
@[go_sem] theorem u56 : (Tryz.prog.underlying 56).isSome = true := by kernel_rfl
@[go_sem] theorem k58 : tyk Tryz.prog 58 = .scal := by kernel_rfl
@[go_sem] theorem c58 : Tryz.prog.cellsOf 58 = 1 := by kernel_rfl
@[go_sem] theorem b58 : Tryz.prog.bytesOf 58 = 8 := by kernel_rfl
@[go_sem] theorem z58 : tzO Tryz.prog 58 = some [.d .nilf] := by kernel_rfl
@[go_sem] theorem u58 : (Tryz.prog.underlying 58).isSome = true := by kernel_rfl
@[go_sem] theorem k59 : tyk Tryz.prog 59 = .struct [(0, 41), (1, 3)] := by kernel_rfl
@[go_sem] theorem c59 : Tryz.prog.cellsOf 59 = 2 := by kernel_rfl
@[go_sem] theorem b59 : Tryz.prog.bytesOf 59 = 32 := by kernel_rfl
@[go_sem] theorem z59 : tzO Tryz.prog 59 = some [.nil, .d (.int .i64 0)] := by kernel_rfl
@[go_sem] theorem u59 : (Tryz.prog.underlying 59).isSome = true := by kernel_rfl
@[go_sem] theorem k60 : tyk Tryz.prog 60 = .struct [(0, 41), (1, 3)] := by kernel_rfl
@[go_sem] theorem c60 : Tryz.prog.cellsOf 60 = 2 := by kernel_rfl
@[go_sem] theorem b60 : Tryz.prog.bytesOf 60 = 32 := by kernel_rfl
@[go_sem] theorem z60 : tzO Tryz.prog 60 = some [.nil, .d (.int .i64 0)] := by kernel_rfl
@[go_sem] theorem u60 : (Tryz.prog.underlying 60).isSome = true := by kernel_rfl
@[go_sem] theorem k61 : tyk Tryz.prog 61 = .arr 32 5 := by kernel_rfl
@[go_sem] theorem c61 : Tryz.prog.cellsOf 61 = 32 := by kernel_rfl
@[go_sem] theorem b61 : Tryz.prog.bytesOf 61 = 32 := by kernel_rfl
@[go_sem] theorem u61 : (Tryz.prog.underlying 61).isSome = true := by kernel_rfl
@[go_sem] theorem k62 : tyk Tryz.prog 62 = .scal := by kernel_rfl
@[go_sem] theorem c62 : Tryz.prog.cellsOf 62 = 1 := by kernel_rfl
@[go_sem] theorem b62 : Tryz.prog.bytesOf 62 = 8 := by kernel_rfl
@[go_sem] theorem z62 : tzO Tryz.prog 62 = some [.d (.int .u64 0)] := by kernel_rfl
@[go_sem] theorem i62 : ikind Tryz.prog 62 = some .u64 := by kernel_rfl
@[go_sem] theorem u62 : (Tryz.prog.underlying 62).isSome = true := by kernel_rfl
@[go_sem] theorem k63 : tyk Tryz.prog 63 = .arr 4 62 := by kernel_rfl
@[go_sem] theorem c63 : Tryz.prog.cellsOf 63 = 4 := by kernel_rfl
@[go_sem] theorem b63 : Tryz.prog.bytesOf 63 = 32 := by kernel_rfl
@[go_sem] theorem z63 : tzO Tryz.prog 63 = some [.d (.int .u64 0), .d (.int .u64 0), .d (.int .u64 0), .d (.int .u64 0)] := by kernel_rfl
@[go_sem] theorem u63 : (Tryz.prog.underlying 63).isSome = true := by kernel_rfl
@[go_sem] theorem kx64 : tyk Tryz.prog 64 = .arr 4 62 := by kernel_rfl
@[go_sem] theorem cx64 : Tryz.prog.cellsOf 64 = 4 := by kernel_rfl
@[go_sem] theorem bx64 : Tryz.prog.bytesOf 64 = 32 := by kernel_rfl
@[go_sem] theorem zx64 : tzO Tryz.prog 64 = some [.d (.int .u64 0), .d (.int .u64 0), .d (.int .u64 0), .d (.int .u64 0)] := by kernel_rfl
@[go_sem] theorem ux64 : (Tryz.prog.underlying 64).isSome = true := by kernel_rfl
@[go_sem] theorem k65 : tyk Tryz.prog 65 = .arr 5 50 := by kernel_rfl
@[go_sem] theorem c65 : Tryz.prog.cellsOf 65 = 5 := by kernel_rfl
@[go_sem] theorem b65 : Tryz.prog.bytesOf 65 = 20 := by kernel_rfl
@[go_sem] theorem z65 : tzO Tryz.prog 65 = some [.d (.int .u32 0), .d (.int .u32 0), .d (.int .u32 0), .d (.int .u32 0), .d (.int .u32 0)] := by kernel_rfl
@[go_sem] theorem u65 : (Tryz.prog.underlying 65).isSome = true := by kernel_rfl
@[go_sem] theorem k66 : tyk Tryz.prog 66 = .slice 61 := by kernel_rfl
@[go_sem] theorem c66 : Tryz.prog.cellsOf 66 = 1 := by kernel_rfl
@[go_sem] theorem b66 : Tryz.prog.bytesOf 66 = 24 := by kernel_rfl
@[go_sem] theorem z66 : tzO Tryz.prog 66 = some [.nil] := by kernel_rfl
@[go_sem] theorem u66 : (Tryz.prog.underlying 66).isSome = true := by kernel_rfl
@[go_sem] theorem k67 : tyk Tryz.prog 67 = .struct [(0, 5), (1, 24), (2, 61), (34, 50), (35, 64), (39, 62), (40, 4), (41, 22), (42, 37), (43, 65), (48, 66)] := by kernel_rfl
@[go_sem] theorem c67 : Tryz.prog.cellsOf 67 = 49 := by kernel_rfl
@[go_sem] theorem b67 : Tryz.prog.bytesOf 67 = 200 := by kernel_rfl
@[go_sem] theorem u67 : (Tryz.prog.underlying 67).isSome = true := by kernel_rfl
@[go_sem] theorem k68 : tyk Tryz.prog 68 = .struct [(0, 5), (1, 24), (2, 61), (34, 50), (35, 64), (39, 62), (40, 4), (41, 22), (42, 37), (43, 65), (48, 66)] := by kernel_rfl
@[go_sem] theorem c68 : Tryz.prog.cellsOf 68 = 49 := by kernel_rfl
@[go_sem] theorem b68 : Tryz.prog.bytesOf 68 = 200 := by kernel_rfl
@[go_sem] theorem u68 : (Tryz.prog.underlying 68).isSome = true := by kernel_rfl
@[go_sem] theorem k70 : tyk Tryz.prog 70 = .scal := by kernel_rfl
@[go_sem] theorem c70 : Tryz.prog.cellsOf 70 = 1 := by kernel_rfl
@[go_sem] theorem b70 : Tryz.prog.bytesOf 70 = 8 := by kernel_rfl
@[go_sem] theorem z70 : tzO Tryz.prog 70 = some [.d .nilf] := by kernel_rfl
@[go_sem] theorem u70 : (Tryz.prog.underlying 70).isSome = true := by kernel_rfl
@[go_sem] theorem k72 : tyk Tryz.prog 72 = .scal := by kernel_rfl
@[go_sem] theorem c72 : Tryz.prog.cellsOf 72 = 1 := by kernel_rfl
@[go_sem] theorem b72 : Tryz.prog.bytesOf 72 = 8 := by kernel_rfl
@[go_sem] theorem z72 : tzO Tryz.prog 72 = some [.d .nilf] := by kernel_rfl
@[go_sem] theorem u72 : (Tryz.prog.underlying 72).isSome = true := by kernel_rfl
@[go_sem] theorem k73 : tyk Tryz.prog 73 = .scal := by kernel_rfl
@[go_sem] theorem c73 : Tryz.prog.cellsOf 73 = 1 := by kernel_rfl
@[go_sem] theorem b73 : Tryz.prog.bytesOf 73 = 8 := by kernel_rfl
@[go_sem] theorem z73 : tzO Tryz.prog 73 = some [.d .nilf] := by kernel_rfl
@[go_sem] theorem u73 : (Tryz.prog.underlying 73).isSome = true := by kernel_rfl
@[go_sem] theorem k74 : tyk Tryz.prog 74 = .scal := by kernel_rfl
@[go_sem] theorem c74 : Tryz.prog.cellsOf 74 = 1 := by kernel_rfl
@[go_sem] theorem b74 : Tryz.prog.bytesOf 74 = 8 := by kernel_rfl
@[go_sem] theorem z74 : tzO Tryz.prog 74 = some [.d .nilf] := by kernel_rfl
@[go_sem] theorem u74 : (Tryz.prog.underlying 74).isSome = true := by kernel_rfl
@[go_sem] theorem k75 : tyk Tryz.prog 75 = .slice 82 := by kernel_rfl
@[go_sem] theorem c75 : Tryz.prog.cellsOf 75 = 1 := by kernel_rfl
@[go_sem] theorem b75 : Tryz.prog.bytesOf 75 = 24 := by kernel_rfl
@[go_sem] theorem z75 : tzO Tryz.prog 75 = some [.nil] := by kernel_rfl
@[go_sem] theorem u75 : (Tryz.prog.underlying 75).isSome = true := by kernel_rfl
@[go_sem] theorem k76 : tyk Tryz.prog 76 = .slice 37 := by kernel_rfl
@[go_sem] theorem c76 : Tryz.prog.cellsOf 76 = 1 := by kernel_rfl
@[go_sem] theorem b76 : Tryz.prog.bytesOf 76 = 24 := by kernel_rfl
@[go_sem] theorem z76 : tzO Tryz.prog 76 = some [.nil] := by kernel_rfl
@[go_sem] theorem u76 : (Tryz.prog.underlying 76).isSome = true := by kernel_rfl
@[go_sem] theorem k77 : tyk Tryz.prog 77 = .struct [(0, 75), (1, 37), (2, 76)] := by kernel_rfl
@[go_sem] theorem c77 : Tryz.prog.cellsOf 77 = 3 := by kernel_rfl
@[go_sem] theorem b77 : Tryz.prog.bytesOf 77 = 72 := by kernel_rfl
@[go_sem] theorem z77 : tzO Tryz.prog 77 = some [.nil, .nil, .nil] := by kernel_rfl
@[go_sem] theorem u77 : (Tryz.prog.underlying 77).isSome = true := by kernel_rfl
@[go_sem] theorem k78 : tyk Tryz.prog 78 = .struct [(0, 75), (1, 37), (2, 76)] := by kernel_rfl
@[go_sem] theorem c78 : Tryz.prog.cellsOf 78 = 3 := by kernel_rfl
@[go_sem] theorem b78 : Tryz.prog.bytesOf 78 = 72 := by kernel_rfl
@[go_sem] theorem z78 : tzO Tryz.prog 78 = some [.nil, .nil, .nil] := by kernel_rfl
@[go_sem] theorem u78 : (Tryz.prog.underlying 78).isSome = true := by kernel_rfl
@[go_sem] theorem k79 : tyk Tryz.prog 79 = .struct [(0, 61), (32, 22), (33, 2), (34, 61)] := by kernel_rfl
@[go_sem] theorem c79 : Tryz.prog.cellsOf 79 = 66 := by kernel_rfl
@[go_sem] theorem b79 : Tryz.prog.bytesOf 79 = 96 := by kernel_rfl
@[go_sem] theorem u79 : (Tryz.prog.underlying 79).isSome = true := by kernel_rfl
@[go_sem] theorem k80 : tyk Tryz.prog 80 = .struct [(0, 61), (32, 22), (33, 2), (34, 61)] := by kernel_rfl
@[go_sem] theorem c80 : Tryz.prog.cellsOf 80 = 66 := by kernel_rfl
@[go_sem] theorem b80 : Tryz.prog.bytesOf 80 = 96 := by kernel_rfl
@[go_sem] theorem u80 : (Tryz.prog.underlying 80).isSome = true := by kernel_rfl
@[go_sem] theorem k81 : tyk Tryz.prog 81 = .struct [(0, 80), (66, 22), (67, 22), (68, 22)] := by kernel_rfl
@[go_sem] theorem c81 : Tryz.prog.cellsOf 81 = 69 := by kernel_rfl
@[go_sem] theorem b81 : Tryz.prog.bytesOf 81 = 168 := by kernel_rfl
@[go_sem] theorem u81 : (Tryz.prog.underlying 81).isSome = true := by kernel_rfl
@[go_sem] theorem k82 : tyk Tryz.prog 82 = .struct [(0, 80), (66, 22), (67, 22), (68, 22)] := by kernel_rfl
@[go_sem] theorem c82 : Tryz.prog.cellsOf 82 = 69 := by kernel_rfl
@[go_sem] theorem b82 : Tryz.prog.bytesOf 82 = 168 := by kernel_rfl
@[go_sem] theorem u82 : (Tryz.prog.underlying 82).isSome = true := by kernel_rfl
@[go_sem] theorem k84 : tyk Tryz.prog 84 = .scal := by kernel_rfl
@[go_sem] theorem c84 : Tryz.prog.cellsOf 84 = 1 := by kernel_rfl
@[go_sem] theorem b84 : Tryz.prog.bytesOf 84 = 8 := by kernel_rfl
@[go_sem] theorem z84 : tzO Tryz.prog 84 = some [.d .nilf] := by kernel_rfl
@[go_sem] theorem u84 : (Tryz.prog.underlying 84).isSome = true := by kernel_rfl
@[go_sem] theorem k85 : tyk Tryz.prog 85 = .struct [(0, 3), (1, 3)] := by kernel_rfl
@[go_sem] theorem c85 : Tryz.prog.cellsOf 85 = 2 := by kernel_rfl
@[go_sem] theorem b85 : Tryz.prog.bytesOf 85 = 16 := by kernel_rfl
@[go_sem] theorem z85 : tzO Tryz.prog 85 = some [.d (.int .i64 0), .d (.int .i64 0)] := by kernel_rfl
@[go_sem] theorem u85 : (Tryz.prog.underlying 85).isSome = true := by kernel_rfl
@[go_sem] theorem k86 : tyk Tryz.prog 86 = .struct [(0, 3), (1, 3)] := by kernel_rfl
@[go_sem] theorem c86 : Tryz.prog.cellsOf 86 = 2 := by kernel_rfl
@[go_sem] theorem b86 : Tryz.prog.bytesOf 86 = 16 := by kernel_rfl
@[go_sem] theorem z86 : tzO Tryz.prog 86 = some [.d (.int .i64 0), .d (.int .i64 0)] := by kernel_rfl
@[go_sem] theorem u86 : (Tryz.prog.underlying 86).isSome = true := by kernel_rfl
@[go_sem] theorem k87 : tyk Tryz.prog 87 = .scal := by kernel_rfl
@[go_sem] theorem c87 : Tryz.prog.cellsOf 87 = 1 := by kernel_rfl
@[go_sem] theorem b87 : Tryz.prog.bytesOf 87 = 8 := by kernel_rfl
@[go_sem] theorem z87 : tzO Tryz.prog 87 = some [.d .nilf] := by kernel_rfl
@[go_sem] theorem u87 : (Tryz.prog.underlying 87).isSome = true := by kernel_rfl
@[go_sem] theorem k88 : tyk Tryz.prog 88 = .scal := by kernel_rfl
@[go_sem] theorem c88 : Tryz.prog.cellsOf 88 = 1 := by kernel_rfl
@[go_sem] theorem b88 : Tryz.prog.bytesOf 88 = 8 := by kernel_rfl
@[go_sem] theorem z88 : tzO Tryz.prog 88 = some [.d .nilf] := by kernel_rfl
@[go_sem] theorem u88 : (Tryz.prog.underlying 88).isSome = true := by kernel_rfl
@[go_sem] theorem k89 : tyk Tryz.prog 89 = .struct [(0, 86), (2, 40), (3, 22), (4, 4)] := by kernel_rfl
@[go_sem] theorem c89 : Tryz.prog.cellsOf 89 = 5 := by kernel_rfl
@[go_sem] theorem b89 : Tryz.prog.bytesOf 89 = 56 := by kernel_rfl
@[go_sem] theorem z89 : tzO Tryz.prog 89 = some [.d (.int .i64 0), .d (.int .i64 0), .d .nilp, .nil, .d (.bool false)] := by kernel_rfl
@[go_sem] theorem u89 : (Tryz.prog.underlying 89).isSome = true := by kernel_rfl
@[go_sem] theorem k90 : tyk Tryz.prog 90 = .struct [(0, 86), (2, 40), (3, 22), (4, 4)] := by kernel_rfl
@[go_sem] theorem c90 : Tryz.prog.cellsOf 90 = 5 := by kernel_rfl
@[go_sem] theorem b90 : Tryz.prog.bytesOf 90 = 56 := by kernel_rfl
@[go_sem] theorem z90 : tzO Tryz.prog 90 = some [.d (.int .i64 0), .d (.int .i64 0), .d .nilp, .nil, .d (.bool false)] := by kernel_rfl
@[go_sem] theorem u90 : (Tryz.prog.underlying 90).isSome = true := by kernel_rfl
@[go_sem] theorem k91 : tyk Tryz.prog 91 = .scal := by kernel_rfl
@[go_sem] theorem c91 : Tryz.prog.cellsOf 91 = 1 := by kernel_rfl
@[go_sem] theorem b91 : Tryz.prog.bytesOf 91 = 8 := by kernel_rfl
@[go_sem] theorem z91 : tzO Tryz.prog 91 = some [.d .nilp] := by kernel_rfl
@[go_sem] theorem u91 : (Tryz.prog.underlying 91).isSome = true := by kernel_rfl
@[go_sem] theorem k92 : tyk Tryz.prog 92 = .struct [(0, 40), (1, 24)] := by kernel_rfl
@[go_sem] theorem c92 : Tryz.prog.cellsOf 92 = 2 := by kernel_rfl
@[go_sem] theorem b92 : Tryz.prog.bytesOf 92 = 16 := by kernel_rfl
@[go_sem] theorem z92 : tzO Tryz.prog 92 = some [.d .nilp, .d (.int .i64 0)] := by kernel_rfl
@[go_sem] theorem u92 : (Tryz.prog.underlying 92).isSome = true := by kernel_rfl
@[go_sem] theorem k93 : tyk Tryz.prog 93 = .struct [(0, 40), (1, 24)] := by kernel_rfl
@[go_sem] theorem c93 : Tryz.prog.cellsOf 93 = 2 := by kernel_rfl
@[go_sem] theorem b93 : Tryz.prog.bytesOf 93 = 16 := by kernel_rfl
@[go_sem] theorem z93 : tzO Tryz.prog 93 = some [.d .nilp, .d (.int .i64 0)] := by kernel_rfl
@[go_sem] theorem u93 : (Tryz.prog.underlying 93).isSome = true := by kernel_rfl
@[go_sem] theorem k94 : tyk Tryz.prog 94 = .scal := by kernel_rfl
@[go_sem] theorem c94 : Tryz.prog.cellsOf 94 = 1 := by kernel_rfl
@[go_sem] theorem b94 : Tryz.prog.bytesOf 94 = 8 := by kernel_rfl
@[go_sem] theorem z94 : tzO Tryz.prog 94 = some [.d .nilf] := by kernel_rfl
@[go_sem] theorem u94 : (Tryz.prog.underlying 94).isSome = true := by kernel_rfl
@[go_sem] theorem k95 : tyk Tryz.prog 95 = .scal := by kernel_rfl
@[go_sem] theorem c95 : Tryz.prog.cellsOf 95 = 1 := by kernel_rfl
@[go_sem] theorem b95 : Tryz.prog.bytesOf 95 = 8 := by kernel_rfl
@[go_sem] theorem z95 : tzO Tryz.prog 95 = some [.d .nilf] := by kernel_rfl
@[go_sem] theorem u95 : (Tryz.prog.underlying 95).isSome = true := by kernel_rfl
@[go_sem] theorem k96 : tyk Tryz.prog 96 = .scal := by kernel_rfl
@[go_sem] theorem c96 : Tryz.prog.cellsOf 96 = 1 := by kernel_rfl
@[go_sem] theorem b96 : Tryz.prog.bytesOf 96 = 8 := by kernel_rfl
@[go_sem] theorem z96 : tzO Tryz.prog 96 = some [.d .nilf] := by kernel_rfl
@[go_sem] theorem u96 : (Tryz.prog.underlying 96).isSome = true := by kernel_rfl
@[go_sem] theorem k97 : tyk Tryz.prog 97 = .scal := by kernel_rfl
@[go_sem] theorem c97 : Tryz.prog.cellsOf 97 = 1 := by kernel_rfl
@[go_sem] theorem b97 : Tryz.prog.bytesOf 97 = 8 := by kernel_rfl
@[go_sem] theorem z97 : tzO Tryz.prog 97 = some [.d .nilf] := by kernel_rfl
@[go_sem] theorem u97 : (Tryz.prog.underlying 97).isSome = true := by kernel_rfl
@[go_sem] theorem k98 : tyk Tryz.prog 98 = .scal := by kernel_rfl
@[go_sem] theorem c98 : Tryz.prog.cellsOf 98 = 1 := by kernel_rfl
@[go_sem] theorem b98 : Tryz.prog.bytesOf 98 = 8 := by kernel_rfl
@[go_sem] theorem z98 : tzO Tryz.prog 98 = some [.d .nilf] := by kernel_rfl
@[go_sem] theorem u98 : (Tryz.prog.underlying 98).isSome = true := by kernel_rfl
@[go_sem] theorem k99 : tyk Tryz.prog 99 = .scal := by kernel_rfl
@[go_sem] theorem c99 : Tryz.prog.cellsOf 99 = 1 := by kernel_rfl
@[go_sem] theorem b99 : Tryz.prog.bytesOf 99 = 8 := by kernel_rfl
@[go_sem] theorem z99 : tzO Tryz.prog 99 = some [.d .nilf] := by kernel_rfl
@[go_sem] theorem u99 : (Tryz.prog.underlying 99).isSome = true := by kernel_rfl
@[go_sem] theorem k101 : tyk Tryz.prog 101 = .scal := by kernel_rfl
@[go_sem] theorem c101 : Tryz.prog.cellsOf 101 = 1 := by kernel_rfl
@[go_sem] theorem b101 : Tryz.prog.bytesOf 101 = 8 := by kernel_rfl
@[go_sem] theorem z101 : tzO Tryz.prog 101 = some [.d .nilf] := by kernel_rfl
@[go_sem] theorem u101 : (Tryz.prog.underlying 101).isSome = true := by kernel_rfl
@[go_sem] theorem k103 : tyk Tryz.prog 103 = .scal := by kernel_rfl
@[go_sem] theorem c103 : Tryz.prog.cellsOf 103 = 1 := by kernel_rfl
@[go_sem] theorem b103 : Tryz.prog.bytesOf 103 = 8 := by kernel_rfl
@[go_sem] theorem z103 : tzO Tryz.prog 103 = some [.d .nilf] := by kernel_rfl
@[go_sem] theorem u103 : (Tryz.prog.underlying 103).isSome = true := by kernel_rfl
@[go_sem] theorem k105 : tyk Tryz.prog 105 = .scal := by kernel_rfl
@[go_sem] theorem c105 : Tryz.prog.cellsOf 105 = 1 := by kernel_rfl
@[go_sem] theorem b105 : Tryz.prog.bytesOf 105 = 8 := by kernel_rfl
@[go_sem] theorem z105 : tzO Tryz.prog 105 = some [.d .nilf] := by kernel_rfl
@[go_sem] theorem u105 : (Tryz.prog.underlying 105).isSome = true := by kernel_rfl
@[go_sem] theorem k106 : tyk Tryz.prog 106 = .scal := by kernel_rfl
@[go_sem] theorem c106 : Tryz.prog.cellsOf 106 = 1 := by kernel_rfl
@[go_sem] theorem b106 : Tryz.prog.bytesOf 106 = 8 := by kernel_rfl
@[go_sem] theorem z106 : tzO Tryz.prog 106 = some [.d .nilf] := by kernel_rfl
@[go_sem] theorem u106 : (Tryz.prog.underlying 106).isSome = true := by kernel_rfl
@[go_sem] theorem k108 : tyk Tryz.prog 108 = .scal := by kernel_rfl
@[go_sem] theorem c108 : Tryz.prog.cellsOf 108 = 1 := by kernel_rfl
@[go_sem] theorem b108 : Tryz.prog.bytesOf 108 = 8 := by kernel_rfl
@[go_sem] theorem z108 : tzO Tryz.prog 108 = some [.d .nilf] := by kernel_rfl
@[go_sem] theorem u108 : (Tryz.prog.underlying 108).isSome = true := by kernel_rfl
@[go_sem] theorem k110 : tyk Tryz.prog 110 = .scal := by kernel_rfl
@[go_sem] theorem c110 : Tryz.prog.cellsOf 110 = 1 := by kernel_rfl
@[go_sem] theorem b110 : Tryz.prog.bytesOf 110 = 8 := by kernel_rfl
@[go_sem] theorem z110 : tzO Tryz.prog 110 = some [.d .nilf] := by kernel_rfl
@[go_sem] theorem u110 : (Tryz.prog.underlying 110).isSome = true := by kernel_rfl
@[go_sem] theorem k111 : tyk Tryz.prog 111 = .scal := by kernel_rfl
@[go_sem] theorem c111 : Tryz.prog.cellsOf 111 = 1 := by kernel_rfl
@[go_sem] theorem b111 : Tryz.prog.bytesOf 111 = 8 := by kernel_rfl
@[go_sem] theorem z111 : tzO Tryz.prog 111 = some [.d .nilf] := by kernel_rfl
@[go_sem] theorem u111 : (Tryz.prog.underlying 111).isSome = true := by kernel_rfl
@[go_sem] theorem k112 : tyk Tryz.prog 112 = .scal := by kernel_rfl
@[go_sem] theorem c112 : Tryz.prog.cellsOf 112 = 1 := by kernel_rfl
@[go_sem] theorem b112 : Tryz.prog.bytesOf 112 = 8 := by kernel_rfl
@[go_sem] theorem z112 : tzO Tryz.prog 112 = some [.d .nilf] := by kernel_rfl
@[go_sem] theorem u112 : (Tryz.prog.underlying 112).isSome = true := by kernel_rfl
@[go_sem] theorem k114 : tyk Tryz.prog 114 = .scal := by kernel_rfl
@[go_sem] theorem c114 : Tryz.prog.cellsOf 114 = 1 := by kernel_rfl
@[go_sem] theorem b114 : Tryz.prog.bytesOf 114 = 8 := by kernel_rfl
@[go_sem] theorem z114 : tzO Tryz.prog 114 = some [.d .nilf] := by kernel_rfl
@[go_sem] theorem u114 : (Tryz.prog.underlying 114).isSome = true := by kernel_rfl
@[go_sem] theorem k115 : tyk Tryz.prog 115 = .scal := by kernel_rfl
@[go_sem] theorem c115 : Tryz.prog.cellsOf 115 = 1 := by kernel_rfl
@[go_sem] theorem b115 : Tryz.prog.bytesOf 115 = 8 := by kernel_rfl
@[go_sem] theorem z115 : tzO Tryz.prog 115 = some [.d .nilf] := by kernel_rfl
@[go_sem] theorem u115 : (Tryz.prog.underlying 115).isSome = true := by kernel_rfl
@[go_sem] theorem k116 : tyk Tryz.prog 116 = .slice 125 := by kernel_rfl
@[go_sem] theorem c116 : Tryz.prog.cellsOf 116 = 1 := by kernel_rfl
@[go_sem] theorem b116 : Tryz.prog.bytesOf 116 = 24 := by kernel_rfl
@[go_sem] theorem z116 : tzO Tryz.prog 116 = some [.nil] := by kernel_rfl
@[go_sem] theorem u116 : (Tryz.prog.underlying 116).isSome = true := by kernel_rfl
@[go_sem] theorem k117 : tyk Tryz.prog 117 = .struct [(0, 116), (1, 33), (2, 3), (3, 31)] := by kernel_rfl
@[go_sem] theorem c117 : Tryz.prog.cellsOf 117 = 4 := by kernel_rfl
@[go_sem] theorem b117 : Tryz.prog.bytesOf 117 = 64 := by kernel_rfl
@[go_sem] theorem z117 : tzO Tryz.prog 117 = some [.nil, .nil, .d (.int .i64 0), .d .nilp] := by kernel_rfl
@[go_sem] theorem u117 : (Tryz.prog.underlying 117).isSome = true := by kernel_rfl
@[go_sem] theorem k118 : tyk Tryz.prog 118 = .struct [(0, 116), (1, 33), (2, 3), (3, 31)] := by kernel_rfl
@[go_sem] theorem c118 : Tryz.prog.cellsOf 118 = 4 := by kernel_rfl
@[go_sem] theorem b118 : Tryz.prog.bytesOf 118 = 64 := by kernel_rfl
@[go_sem] theorem z118 : tzO Tryz.prog 118 = some [.nil, .nil, .d (.int .i64 0), .d .nilp] := by kernel_rfl
@[go_sem] theorem u118 : (Tryz.prog.underlying 118).isSome = true := by kernel_rfl
@[go_sem] theorem k119 : tyk Tryz.prog 119 = .struct [(0, 50), (1, 61), (33, 61), (65, 50), (66, 50), (67, 50)] := by kernel_rfl
@[go_sem] theorem c119 : Tryz.prog.cellsOf 119 = 68 := by kernel_rfl
@[go_sem] theorem b119 : Tryz.prog.bytesOf 119 = 80 := by kernel_rfl
@[go_sem] theorem u119 : (Tryz.prog.underlying 119).isSome = true := by kernel_rfl
@[go_sem] theorem k120 : tyk Tryz.prog 120 = .struct [(0, 50), (1, 61), (33, 61), (65, 50), (66, 50), (67, 50)] := by kernel_rfl
@[go_sem] theorem c120 : Tryz.prog.cellsOf 120 = 68 := by kernel_rfl
@[go_sem] theorem b120 : Tryz.prog.bytesOf 120 = 80 := by kernel_rfl
@[go_sem] theorem u120 : (Tryz.prog.underlying 120).isSome = true := by kernel_rfl
@[go_sem] theorem k121 : tyk Tryz.prog 121 = .struct [(0, 120), (68, 35)] := by kernel_rfl
@[go_sem] theorem c121 : Tryz.prog.cellsOf 121 = 69 := by kernel_rfl
@[go_sem] theorem b121 : Tryz.prog.bytesOf 121 = 104 := by kernel_rfl
@[go_sem] theorem u121 : (Tryz.prog.underlying 121).isSome = true := by kernel_rfl
@[go_sem] theorem k122 : tyk Tryz.prog 122 = .struct [(0, 120), (68, 35)] := by kernel_rfl
@[go_sem] theorem c122 : Tryz.prog.cellsOf 122 = 69 := by kernel_rfl
@[go_sem] theorem b122 : Tryz.prog.bytesOf 122 = 104 := by kernel_rfl
@[go_sem] theorem u122 : (Tryz.prog.underlying 122).isSome = true := by kernel_rfl
@[go_sem] theorem k123 : tyk Tryz.prog 123 = .slice 291 := by kernel_rfl
@[go_sem] theorem c123 : Tryz.prog.cellsOf 123 = 1 := by kernel_rfl
@[go_sem] theorem b123 : Tryz.prog.bytesOf 123 = 24 := by kernel_rfl
@[go_sem] theorem z123 : tzO Tryz.prog 123 = some [.nil] := by kernel_rfl
@[go_sem] theorem u123 : (Tryz.prog.underlying 123).isSome = true := by kernel_rfl
@[go_sem] theorem k124 : tyk Tryz.prog 124 = .struct [(0, 122), (69, 61), (101, 3), (102, 50), (103, 64), (107, 123)] := by kernel_rfl
@[go_sem] theorem c124 : Tryz.prog.cellsOf 124 = 108 := by kernel_rfl
@[go_sem] theorem b124 : Tryz.prog.bytesOf 124 = 208 := by kernel_rfl
@[go_sem] theorem u124 : (Tryz.prog.underlying 124).isSome = true := by kernel_rfl
@[go_sem] theorem k125 : tyk Tryz.prog 125 = .struct [(0, 122), (69, 61), (101, 3), (102, 50), (103, 64), (107, 123)] := by kernel_rfl
@[go_sem] theorem c125 : Tryz.prog.cellsOf 125 = 108 := by kernel_rfl
@[go_sem] theorem b125 : Tryz.prog.bytesOf 125 = 208 := by kernel_rfl
@[go_sem] theorem u125 : (Tryz.prog.underlying 125).isSome = true := by kernel_rfl
@[go_sem] theorem k126 : tyk Tryz.prog 126 = .scal := by kernel_rfl
@[go_sem] theorem c126 : Tryz.prog.cellsOf 126 = 1 := by kernel_rfl
@[go_sem] theorem b126 : Tryz.prog.bytesOf 126 = 8 := by kernel_rfl
@[go_sem] theorem z126 : tzO Tryz.prog 126 = some [.d .nilf] := by kernel_rfl
@[go_sem] theorem u126 : (Tryz.prog.underlying 126).isSome = true := by kernel_rfl
@[go_sem] theorem k127 : tyk Tryz.prog 127 = .slice 135 := by kernel_rfl
@[go_sem] theorem c127 : Tryz.prog.cellsOf 127 = 1 := by kernel_rfl
@[go_sem] theorem b127 : Tryz.prog.bytesOf 127 = 24 := by kernel_rfl
@[go_sem] theorem z127 : tzO Tryz.prog 127 = some [.nil] := by kernel_rfl
@[go_sem] theorem u127 : (Tryz.prog.underlying 127).isSome = true := by kernel_rfl
@[go_sem] theorem k128 : tyk Tryz.prog 128 = .struct [(0, 127)] := by kernel_rfl
@[go_sem] theorem c128 : Tryz.prog.cellsOf 128 = 1 := by kernel_rfl
@[go_sem] theorem b128 : Tryz.prog.bytesOf 128 = 24 := by kernel_rfl
@[go_sem] theorem z128 : tzO Tryz.prog 128 = some [.nil] := by kernel_rfl
@[go_sem] theorem u128 : (Tryz.prog.underlying 128).isSome = true := by kernel_rfl
@[go_sem] theorem k129 : tyk Tryz.prog 129 = .struct [(0, 127)] := by kernel_rfl
@[go_sem] theorem c129 : Tryz.prog.cellsOf 129 = 1 := by kernel_rfl
@[go_sem] theorem b129 : Tryz.prog.bytesOf 129 = 24 := by kernel_rfl
@[go_sem] theorem z129 : tzO Tryz.prog 129 = some [.nil] := by kernel_rfl
@[go_sem] theorem u129 : (Tryz.prog.underlying 129).isSome = true := by kernel_rfl
@[go_sem] theorem k130 : tyk Tryz.prog 130 = .slice 337 := by kernel_rfl
@[go_sem] theorem c130 : Tryz.prog.cellsOf 130 = 1 := by kernel_rfl
@[go_sem] theorem b130 : Tryz.prog.bytesOf 130 = 24 := by kernel_rfl
@[go_sem] theorem z130 : tzO Tryz.prog 130 = some [.nil] := by kernel_rfl
@[go_sem] theorem u130 : (Tryz.prog.underlying 130).isSome = true := by kernel_rfl
@[go_sem] theorem k131 : tyk Tryz.prog 131 = .slice 289 := by kernel_rfl
@[go_sem] theorem c131 : Tryz.prog.cellsOf 131 = 1 := by kernel_rfl
@[go_sem] theorem b131 : Tryz.prog.bytesOf 131 = 24 := by kernel_rfl
@[go_sem] theorem z131 : tzO Tryz.prog 131 = some [.nil] := by kernel_rfl
@[go_sem] theorem u131 : (Tryz.prog.underlying 131).isSome = true := by kernel_rfl
@[go_sem] theorem k132 : tyk Tryz.prog 132 = .struct [(0, 50), (1, 130), (2, 131), (3, 50)] := by kernel_rfl
@[go_sem] theorem c132 : Tryz.prog.cellsOf 132 = 4 := by kernel_rfl
@[go_sem] theorem b132 : Tryz.prog.bytesOf 132 = 64 := by kernel_rfl
@[go_sem] theorem z132 : tzO Tryz.prog 132 = some [.d (.int .u32 0), .nil, .nil, .d (.int .u32 0)] := by kernel_rfl
@[go_sem] theorem u132 : (Tryz.prog.underlying 132).isSome = true := by kernel_rfl
@[go_sem] theorem k133 : tyk Tryz.prog 133 = .struct [(0, 50), (1, 130), (2, 131), (3, 50)] := by kernel_rfl
@[go_sem] theorem c133 : Tryz.prog.cellsOf 133 = 4 := by kernel_rfl
@[go_sem] theorem b133 : Tryz.prog.bytesOf 133 = 64 := by kernel_rfl
@[go_sem] theorem z133 : tzO Tryz.prog 133 = some [.d (.int .u32 0), .nil, .nil, .d (.int .u32 0)] := by kernel_rfl
@[go_sem] theorem u133 : (Tryz.prog.underlying 133).isSome = true := by kernel_rfl
@[go_sem] theorem k134 : tyk Tryz.prog 134 = .struct [(0, 133), (4, 61), (36, 62), (37, 3)] := by kernel_rfl
@[go_sem] theorem c134 : Tryz.prog.cellsOf 134 = 38 := by kernel_rfl
@[go_sem] theorem b134 : Tryz.prog.bytesOf 134 = 112 := by kernel_rfl
@[go_sem] theorem u134 : (Tryz.prog.underlying 134).isSome = true := by kernel_rfl
@[go_sem] theorem k135 : tyk Tryz.prog 135 = .struct [(0, 133), (4, 61), (36, 62), (37, 3)] := by kernel_rfl
@[go_sem] theorem c135 : Tryz.prog.cellsOf 135 = 38 := by kernel_rfl
@[go_sem] theorem b135 : Tryz.prog.bytesOf 135 = 112 := by kernel_rfl
@[go_sem] theorem u135 : (Tryz.prog.underlying 135).isSome = true := by kernel_rfl
@[go_sem] theorem k136 : tyk Tryz.prog 136 = .scal := by kernel_rfl
@[go_sem] theorem c136 : Tryz.prog.cellsOf 136 = 1 := by kernel_rfl
@[go_sem] theorem b136 : Tryz.prog.bytesOf 136 = 8 := by kernel_rfl
@[go_sem] theorem z136 : tzO Tryz.prog 136 = some [.d .nilf] := by kernel_rfl
@[go_sem] theorem u136 : (Tryz.prog.underlying 136).isSome = true := by kernel_rfl
@[go_sem] theorem k137 : tyk Tryz.prog 137 = .scal := by kernel_rfl
@[go_sem] theorem c137 : Tryz.prog.cellsOf 137 = 1 := by kernel_rfl
@[go_sem] theorem b137 : Tryz.prog.bytesOf 137 = 8 := by kernel_rfl
@[go_sem] theorem z137 : tzO Tryz.prog 137 = some [.d .nilf] := by kernel_rfl
@[go_sem] theorem u137 : (Tryz.prog.underlying 137).isSome = true := by kernel_rfl
@[go_sem] theorem k138 : tyk Tryz.prog 138 = .struct [(0, 61), (32, 50)] := by kernel_rfl
@[go_sem] theorem c138 : Tryz.prog.cellsOf 138 = 33 := by kernel_rfl
@[go_sem] theorem b138 : Tryz.prog.bytesOf 138 = 36 := by kernel_rfl
@[go_sem] theorem u138 : (Tryz.prog.underlying 138).isSome = true := by kernel_rfl
@[go_sem] theorem k139 : tyk Tryz.prog 139 = .struct [(0, 61), (32, 50)] := by kernel_rfl
@[go_sem] theorem c139 : Tryz.prog.cellsOf 139 = 33 := by kernel_rfl
@[go_sem] theorem b139 : Tryz.prog.bytesOf 139 = 36 := by kernel_rfl
@[go_sem] theorem u139 : (Tryz.prog.underlying 139).isSome = true := by kernel_rfl
@[go_sem] theorem k140 : tyk Tryz.prog 140 = .struct [(0, 139), (33, 62), (34, 3), (35, 3), (36, 50), (37, 61)] := by kernel_rfl
@[go_sem] theorem c140 : Tryz.prog.cellsOf 140 = 69 := by kernel_rfl
@[go_sem] theorem b140 : Tryz.prog.bytesOf 140 = 104 := by kernel_rfl
@[go_sem] theorem u140 : (Tryz.prog.underlying 140).isSome = true := by kernel_rfl
@[go_sem] theorem k141 : tyk Tryz.prog 141 = .struct [(0, 139), (33, 62), (34, 3), (35, 3), (36, 50), (37, 61)] := by kernel_rfl
@[go_sem] theorem c141 : Tryz.prog.cellsOf 141 = 69 := by kernel_rfl
@[go_sem] theorem b141 : Tryz.prog.bytesOf 141 = 104 := by kernel_rfl
@[go_sem] theorem u141 : (Tryz.prog.underlying 141).isSome = true := by kernel_rfl
@[go_sem] theorem k142 : tyk Tryz.prog 142 = .slice 147 := by kernel_rfl
@[go_sem] theorem c142 : Tryz.prog.cellsOf 142 = 1 := by kernel_rfl
@[go_sem] theorem b142 : Tryz.prog.bytesOf 142 = 24 := by kernel_rfl
@[go_sem] theorem z142 : tzO Tryz.prog 142 = some [.nil] := by kernel_rfl
@[go_sem] theorem u142 : (Tryz.prog.underlying 142).isSome = true := by kernel_rfl
@[go_sem] theorem k144 : tyk Tryz.prog 144 = .scal := by kernel_rfl
@[go_sem] theorem c144 : Tryz.prog.cellsOf 144 = 1 := by kernel_rfl
@[go_sem] theorem b144 : Tryz.prog.bytesOf 144 = 8 := by kernel_rfl
@[go_sem] theorem z144 : tzO Tryz.prog 144 = some [.d .nilf] := by kernel_rfl
@[go_sem] theorem u144 : (Tryz.prog.underlying 144).isSome = true := by kernel_rfl
@[go_sem] theorem k145 : tyk Tryz.prog 145 = .scal := by kernel_rfl
@[go_sem] theorem c145 : Tryz.prog.cellsOf 145 = 1 := by kernel_rfl
@[go_sem] theorem b145 : Tryz.prog.bytesOf 145 = 8 := by kernel_rfl
@[go_sem] theorem z145 : tzO Tryz.prog 145 = some [.d .nilf] := by kernel_rfl
@[go_sem] theorem u145 : (Tryz.prog.underlying 145).isSome = true := by kernel_rfl
@[go_sem] theorem k146 : tyk Tryz.prog 146 = .struct [(0, 61), (32, 66), (33, 22)] := by kernel_rfl
@[go_sem] theorem c146 : Tryz.prog.cellsOf 146 = 34 := by kernel_rfl
@[go_sem] theorem b146 : Tryz.prog.bytesOf 146 = 80 := by kernel_rfl
@[go_sem] theorem u146 : (Tryz.prog.underlying 146).isSome = true := by kernel_rfl
@[go_sem] theorem k147 : tyk Tryz.prog 147 = .struct [(0, 61), (32, 66), (33, 22)] := by kernel_rfl
@[go_sem] theorem c147 : Tryz.prog.cellsOf 147 = 34 := by kernel_rfl
@[go_sem] theorem b147 : Tryz.prog.bytesOf 147 = 80 := by kernel_rfl
@[go_sem] theorem u147 : (Tryz.prog.underlying 147).isSome = true := by kernel_rfl
@[go_sem] theorem k148 : tyk Tryz.prog 148 = .slice 220 := by kernel_rfl
@[go_sem] theorem c148 : Tryz.prog.cellsOf 148 = 1 := by kernel_rfl
@[go_sem] theorem b148 : Tryz.prog.bytesOf 148 = 24 := by kernel_rfl
@[go_sem] theorem z148 : tzO Tryz.prog 148 = some [.nil] := by kernel_rfl
@[go_sem] theorem u148 : (Tryz.prog.underlying 148).isSome = true := by kernel_rfl
@[go_sem] theorem k149 : tyk Tryz.prog 149 = .slice 309 := by kernel_rfl
@[go_sem] theorem c149 : Tryz.prog.cellsOf 149 = 1 := by kernel_rfl
@[go_sem] theorem b149 : Tryz.prog.bytesOf 149 = 24 := by kernel_rfl
@[go_sem] theorem z149 : tzO Tryz.prog 149 = some [.nil] := by kernel_rfl
@[go_sem] theorem u149 : (Tryz.prog.underlying 149).isSome = true := by kernel_rfl
@[go_sem] theorem k150 : tyk Tryz.prog 150 = .struct [(0, 148), (1, 148), (2, 149), (3, 3), (4, 4)] := by kernel_rfl
@[go_sem] theorem c150 : Tryz.prog.cellsOf 150 = 5 := by kernel_rfl
@[go_sem] theorem b150 : Tryz.prog.bytesOf 150 = 88 := by kernel_rfl
@[go_sem] theorem z150 : tzO Tryz.prog 150 = some [.nil, .nil, .nil, .d (.int .i64 0), .d (.bool false)] := by kernel_rfl
@[go_sem] theorem u150 : (Tryz.prog.underlying 150).isSome = true := by kernel_rfl
@[go_sem] theorem k151 : tyk Tryz.prog 151 = .struct [(0, 148), (1, 148), (2, 149), (3, 3), (4, 4)] := by kernel_rfl
@[go_sem] theorem c151 : Tryz.prog.cellsOf 151 = 5 := by kernel_rfl
@[go_sem] theorem b151 : Tryz.prog.bytesOf 151 = 88 := by kernel_rfl
@[go_sem] theorem z151 : tzO Tryz.prog 151 = some [.nil, .nil, .nil, .d (.int .i64 0), .d (.bool false)] := by kernel_rfl
@[go_sem] theorem u151 : (Tryz.prog.underlying 151).isSome = true := by kernel_rfl
@[go_sem] theorem k152 : tyk Tryz.prog 152 = .slice 3 := by kernel_rfl
@[go_sem] theorem c152 : Tryz.prog.cellsOf 152 = 1 := by kernel_rfl
@[go_sem] theorem b152 : Tryz.prog.bytesOf 152 = 24 := by kernel_rfl
@[go_sem] theorem z152 : tzO Tryz.prog 152 = some [.nil] := by kernel_rfl
@[go_sem] theorem u152 : (Tryz.prog.underlying 152).isSome = true := by kernel_rfl
@[go_sem] theorem k154 : tyk Tryz.prog 154 = .scal := by kernel_rfl
@[go_sem] theorem c154 : Tryz.prog.cellsOf 154 = 1 := by kernel_rfl
@[go_sem] theorem b154 : Tryz.prog.bytesOf 154 = 8 := by kernel_rfl
@[go_sem] theorem z154 : tzO Tryz.prog 154 = some [.d .nilf] := by kernel_rfl
@[go_sem] theorem u154 : (Tryz.prog.underlying 154).isSome = true := by kernel_rfl
@[go_sem] theorem k155 : tyk Tryz.prog 155 = .scal := by kernel_rfl
@[go_sem] theorem c155 : Tryz.prog.cellsOf 155 = 1 := by kernel_rfl
@[go_sem] theorem b155 : Tryz.prog.bytesOf 155 = 8 := by kernel_rfl
@[go_sem] theorem z155 : tzO Tryz.prog 155 = some [.d .nilf] := by kernel_rfl
@[go_sem] theorem u155 : (Tryz.prog.underlying 155).isSome = true := by kernel_rfl
@[go_sem] theorem k156 : tyk Tryz.prog 156 = .scal := by kernel_rfl
@[go_sem] theorem c156 : Tryz.prog.cellsOf 156 = 1 := by kernel_rfl
@[go_sem] theorem b156 : Tryz.prog.bytesOf 156 = 8 := by kernel_rfl
@[go_sem] theorem z156 : tzO Tryz.prog 156 = some [.d .nilf] := by kernel_rfl
@[go_sem] theorem u156 : (Tryz.prog.underlying 156).isSome = true := by kernel_rfl
@[go_sem] theorem k157 : tyk Tryz.prog 157 = .scal := by kernel_rfl
@[go_sem] theorem c157 : Tryz.prog.cellsOf 157 = 1 := by kernel_rfl
@[go_sem] theorem b157 : Tryz.prog.bytesOf 157 = 8 := by kernel_rfl
@[go_sem] theorem z157 : tzO Tryz.prog 157 = some [.d .nilf] := by kernel_rfl
@[go_sem] theorem u157 : (Tryz.prog.underlying 157).isSome = true := by kernel_rfl
@[go_sem] theorem k158 : tyk Tryz.prog 158 = .slice 22 := by kernel_rfl
@[go_sem] theorem c158 : Tryz.prog.cellsOf 158 = 1 := by kernel_rfl
@[go_sem] theorem b158 : Tryz.prog.bytesOf 158 = 24 := by kernel_rfl
@[go_sem] theorem z158 : tzO Tryz.prog 158 = some [.nil] := by kernel_rfl
@[go_sem] theorem u158 : (Tryz.prog.underlying 158).isSome = true := by kernel_rfl
@[go_sem] theorem k160 : tyk Tryz.prog 160 = .scal := by kernel_rfl
@[go_sem] theorem c160 : Tryz.prog.cellsOf 160 = 1 := by kernel_rfl
@[go_sem] theorem b160 : Tryz.prog.bytesOf 160 = 8 := by kernel_rfl
@[go_sem] theorem z160 : tzO Tryz.prog 160 = some [.d .nilf] := by kernel_rfl
@[go_sem] theorem u160 : (Tryz.prog.underlying 160).isSome = true := by kernel_rfl
@[go_sem] theorem k162 : tyk Tryz.prog 162 = .scal := by kernel_rfl
@[go_sem] theorem c162 : Tryz.prog.cellsOf 162 = 1 := by kernel_rfl
@[go_sem] theorem b162 : Tryz.prog.bytesOf 162 = 8 := by kernel_rfl
@[go_sem] theorem z162 : tzO Tryz.prog 162 = some [.d .nilf] := by kernel_rfl
@[go_sem] theorem u162 : (Tryz.prog.underlying 162).isSome = true := by kernel_rfl
@[go_sem] theorem k163 : tyk Tryz.prog 163 = .scal := by kernel_rfl
@[go_sem] theorem c163 : Tryz.prog.cellsOf 163 = 1 := by kernel_rfl
@[go_sem] theorem b163 : Tryz.prog.bytesOf 163 = 8 := by kernel_rfl
@[go_sem] theorem z163 : tzO Tryz.prog 163 = some [.d .nilf] := by kernel_rfl
@[go_sem] theorem u163 : (Tryz.prog.underlying 163).isSome = true := by kernel_rfl
@[go_sem] theorem k164 : tyk Tryz.prog 164 = .scal := by kernel_rfl
@[go_sem] theorem c164 : Tryz.prog.cellsOf 164 = 1 := by kernel_rfl
@[go_sem] theorem b164 : Tryz.prog.bytesOf 164 = 8 := by kernel_rfl
@[go_sem] theorem z164 : tzO Tryz.prog 164 = some [.d .nilf] := by kernel_rfl
@[go_sem] theorem u164 : (Tryz.prog.underlying 164).isSome = true := by kernel_rfl
@[go_sem] theorem k165 : tyk Tryz.prog 165 = .scal := by kernel_rfl
@[go_sem] theorem c165 : Tryz.prog.cellsOf 165 = 1 := by kernel_rfl
@[go_sem] theorem b165 : Tryz.prog.bytesOf 165 = 8 := by kernel_rfl
@[go_sem] theorem z165 : tzO Tryz.prog 165 = some [.d .nilf] := by kernel_rfl
@[go_sem] theorem u165 : (Tryz.prog.underlying 165).isSome = true := by kernel_rfl
@[go_sem] theorem k166 : tyk Tryz.prog 166 = .scal := by kernel_rfl
@[go_sem] theorem c166 : Tryz.prog.cellsOf 166 = 1 := by kernel_rfl
@[go_sem] theorem b166 : Tryz.prog.bytesOf 166 = 8 := by kernel_rfl
@[go_sem] theorem z166 : tzO Tryz.prog 166 = some [.d .nilf] := by kernel_rfl
@[go_sem] theorem u166 : (Tryz.prog.underlying 166).isSome = true := by kernel_rfl
@[go_sem] theorem k167 : tyk Tryz.prog 167 = .scal := by kernel_rfl
@[go_sem] theorem c167 : Tryz.prog.cellsOf 167 = 1 := by kernel_rfl
@[go_sem] theorem b167 : Tryz.prog.bytesOf 167 = 8 := by kernel_rfl
@[go_sem] theorem z167 : tzO Tryz.prog 167 = some [.d .nilf] := by kernel_rfl
@[go_sem] theorem u167 : (Tryz.prog.underlying 167).isSome = true := by kernel_rfl
@[go_sem] theorem k168 : tyk Tryz.prog 168 = .scal := by kernel_rfl
@[go_sem] theorem c168 : Tryz.prog.cellsOf 168 = 1 := by kernel_rfl
@[go_sem] theorem b168 : Tryz.prog.bytesOf 168 = 8 := by kernel_rfl
@[go_sem] theorem z168 : tzO Tryz.prog 168 = some [.d .nilf] := by kernel_rfl
@[go_sem] theorem u168 : (Tryz.prog.underlying 168).isSome = true := by kernel_rfl
@[go_sem] theorem k169 : tyk Tryz.prog 169 = .scal := by kernel_rfl
@[go_sem] theorem c169 : Tryz.prog.cellsOf 169 = 1 := by kernel_rfl
@[go_sem] theorem b169 : Tryz.prog.bytesOf 169 = 8 := by kernel_rfl
@[go_sem] theorem z169 : tzO Tryz.prog 169 = some [.d .nilf] := by kernel_rfl
@[go_sem] theorem u169 : (Tryz.prog.underlying 169).isSome = true := by kernel_rfl
@[go_sem] theorem k170 : tyk Tryz.prog 170 = .scal := by kernel_rfl
@[go_sem] theorem c170 : Tryz.prog.cellsOf 170 = 1 := by kernel_rfl
@[go_sem] theorem b170 : Tryz.prog.bytesOf 170 = 8 := by kernel_rfl
@[go_sem] theorem z170 : tzO Tryz.prog 170 = some [.d .nilf] := by kernel_rfl
@[go_sem] theorem u170 : (Tryz.prog.underlying 170).isSome = true := by kernel_rfl
@[go_sem] theorem k171 : tyk Tryz.prog 171 = .scal := by kernel_rfl
@[go_sem] theorem c171 : Tryz.prog.cellsOf 171 = 1 := by kernel_rfl
@[go_sem] theorem b171 : Tryz.prog.bytesOf 171 = 8 := by kernel_rfl
@[go_sem] theorem z171 : tzO Tryz.prog 171 = some [.d .nilf] := by kernel_rfl
@[go_sem] theorem u171 : (Tryz.prog.underlying 171).isSome = true := by kernel_rfl
@[go_sem] theorem k173 : tyk Tryz.prog 173 = .scal := by kernel_rfl
@[go_sem] theorem c173 : Tryz.prog.cellsOf 173 = 1 := by kernel_rfl
@[go_sem] theorem b173 : Tryz.prog.bytesOf 173 = 8 := by kernel_rfl
@[go_sem] theorem z173 : tzO Tryz.prog 173 = some [.d .nilf] := by kernel_rfl
@[go_sem] theorem u173 : (Tryz.prog.underlying 173).isSome = true := by kernel_rfl
@[go_sem] theorem k174 : tyk Tryz.prog 174 = .scal := by kernel_rfl
@[go_sem] theorem c174 : Tryz.prog.cellsOf 174 = 1 := by kernel_rfl
@[go_sem] theorem b174 : Tryz.prog.bytesOf 174 = 8 := by kernel_rfl
@[go_sem] theorem z174 : tzO Tryz.prog 174 = some [.d .nilf] := by kernel_rfl
@[go_sem] theorem u174 : (Tryz.prog.underlying 174).isSome = true := by kernel_rfl
@[go_sem] theorem k175 : tyk Tryz.prog 175 = .struct [(0, 31), (1, 50), (2, 50)] := by kernel_rfl
@[go_sem] theorem c175 : Tryz.prog.cellsOf 175 = 3 := by kernel_rfl
@[go_sem] theorem b175 : Tryz.prog.bytesOf 175 = 16 := by kernel_rfl
@[go_sem] theorem z175 : tzO Tryz.prog 175 = some [.d .nilp, .d (.int .u32 0), .d (.int .u32 0)] := by kernel_rfl
@[go_sem] theorem u175 : (Tryz.prog.underlying 175).isSome = true := by kernel_rfl
@[go_sem] theorem k176 : tyk Tryz.prog 176 = .struct [(0, 31), (1, 50), (2, 50)] := by kernel_rfl
@[go_sem] theorem c176 : Tryz.prog.cellsOf 176 = 3 := by kernel_rfl
@[go_sem] theorem b176 : Tryz.prog.bytesOf 176 = 16 := by kernel_rfl
@[go_sem] theorem z176 : tzO Tryz.prog 176 = some [.d .nilp, .d (.int .u32 0), .d (.int .u32 0)] := by kernel_rfl
@[go_sem] theorem u176 : (Tryz.prog.underlying 176).isSome = true := by kernel_rfl
@[go_sem] theorem k177 : tyk Tryz.prog 177 = .scal := by kernel_rfl
@[go_sem] theorem c177 : Tryz.prog.cellsOf 177 = 1 := by kernel_rfl
@[go_sem] theorem b177 : Tryz.prog.bytesOf 177 = 8 := by kernel_rfl
@[go_sem] theorem z177 : tzO Tryz.prog 177 = some [.d .nilf] := by kernel_rfl
@[go_sem] theorem u177 : (Tryz.prog.underlying 177).isSome = true := by kernel_rfl
@[go_sem] theorem k179 : tyk Tryz.prog 179 = .scal := by kernel_rfl
@[go_sem] theorem c179 : Tryz.prog.cellsOf 179 = 1 := by kernel_rfl
@[go_sem] theorem b179 : Tryz.prog.bytesOf 179 = 8 := by kernel_rfl
@[go_sem] theorem z179 : tzO Tryz.prog 179 = some [.d .nilf] := by kernel_rfl
@[go_sem] theorem u179 : (Tryz.prog.underlying 179).isSome = true := by kernel_rfl
@[go_sem] theorem k180 : tyk Tryz.prog 180 = .scal := by kernel_rfl
@[go_sem] theorem c180 : Tryz.prog.cellsOf 180 = 1 := by kernel_rfl
@[go_sem] theorem b180 : Tryz.prog.bytesOf 180 = 8 := by kernel_rfl
@[go_sem] theorem z180 : tzO Tryz.prog 180 = some [.d .nilf] := by kernel_rfl
@[go_sem] theorem u180 : (Tryz.prog.underlying 180).isSome = true := by kernel_rfl
@[go_sem] theorem k181 : tyk Tryz.prog 181 = .struct [(0, 5), (1, 61), (33, 50), (34, 50), (35, 22)] := by kernel_rfl
@[go_sem] theorem c181 : Tryz.prog.cellsOf 181 = 36 := by kernel_rfl
@[go_sem] theorem b181 : Tryz.prog.bytesOf 181 = 72 := by kernel_rfl
@[go_sem] theorem u181 : (Tryz.prog.underlying 181).isSome = true := by kernel_rfl
@[go_sem] theorem k182 : tyk Tryz.prog 182 = .struct [(0, 5), (1, 61), (33, 50), (34, 50), (35, 22)] := by kernel_rfl
@[go_sem] theorem c182 : Tryz.prog.cellsOf 182 = 36 := by kernel_rfl
@[go_sem] theorem b182 : Tryz.prog.bytesOf 182 = 72 := by kernel_rfl
@[go_sem] theorem u182 : (Tryz.prog.underlying 182).isSome = true := by kernel_rfl
@[go_sem] theorem k184 : tyk Tryz.prog 184 = .scal := by kernel_rfl
@[go_sem] theorem c184 : Tryz.prog.cellsOf 184 = 1 := by kernel_rfl
@[go_sem] theorem b184 : Tryz.prog.bytesOf 184 = 8 := by kernel_rfl
@[go_sem] theorem z184 : tzO Tryz.prog 184 = some [.d .nilf] := by kernel_rfl
@[go_sem] theorem u184 : (Tryz.prog.underlying 184).isSome = true := by kernel_rfl
@[go_sem] theorem k185 : tyk Tryz.prog 185 = .scal := by kernel_rfl
@[go_sem] theorem c185 : Tryz.prog.cellsOf 185 = 1 := by kernel_rfl
@[go_sem] theorem b185 : Tryz.prog.bytesOf 185 = 8 := by kernel_rfl
@[go_sem] theorem z185 : tzO Tryz.prog 185 = some [.d .nilf] := by kernel_rfl
@[go_sem] theorem u185 : (Tryz.prog.underlying 185).isSome = true := by kernel_rfl
@[go_sem] theorem k186 : tyk Tryz.prog 186 = .scal := by kernel_rfl
@[go_sem] theorem c186 : Tryz.prog.cellsOf 186 = 1 := by kernel_rfl
@[go_sem] theorem b186 : Tryz.prog.bytesOf 186 = 8 := by kernel_rfl
@[go_sem] theorem z186 : tzO Tryz.prog 186 = some [.d .nilf] := by kernel_rfl
@[go_sem] theorem u186 : (Tryz.prog.underlying 186).isSome = true := by kernel_rfl
@[go_sem] theorem k187 : tyk Tryz.prog 187 = .scal := by kernel_rfl
@[go_sem] theorem c187 : Tryz.prog.cellsOf 187 = 1 := by kernel_rfl
@[go_sem] theorem b187 : Tryz.prog.bytesOf 187 = 8 := by kernel_rfl
@[go_sem] theorem z187 : tzO Tryz.prog 187 = some [.d .nilp] := by kernel_rfl
@[go_sem] theorem u187 : (Tryz.prog.underlying 187).isSome = true := by kernel_rfl
@[go_sem] theorem k188 : tyk Tryz.prog 188 = .struct [(0, 22), (1, 4)] := by kernel_rfl
@[go_sem] theorem c188 : Tryz.prog.cellsOf 188 = 2 := by kernel_rfl
@[go_sem] theorem b188 : Tryz.prog.bytesOf 188 = 32 := by kernel_rfl
@[go_sem] theorem z188 : tzO Tryz.prog 188 = some [.nil, .d (.bool false)] := by kernel_rfl
@[go_sem] theorem u188 : (Tryz.prog.underlying 188).isSome = true := by kernel_rfl
@[go_sem] theorem k189 : tyk Tryz.prog 189 = .struct [(0, 22), (1, 4)] := by kernel_rfl
@[go_sem] theorem c189 : Tryz.prog.cellsOf 189 = 2 := by kernel_rfl
@[go_sem] theorem b189 : Tryz.prog.bytesOf 189 = 32 := by kernel_rfl
@[go_sem] theorem z189 : tzO Tryz.prog 189 = some [.nil, .d (.bool false)] := by kernel_rfl
@[go_sem] theorem u189 : (Tryz.prog.underlying 189).isSome = true := by kernel_rfl
@[go_sem] theorem k190 : tyk Tryz.prog 190 = .scal := by kernel_rfl
@[go_sem] theorem c190 : Tryz.prog.cellsOf 190 = 1 := by kernel_rfl
@[go_sem] theorem b190 : Tryz.prog.bytesOf 190 = 8 := by kernel_rfl
@[go_sem] theorem z190 : tzO Tryz.prog 190 = some [.d .nilf] := by kernel_rfl
@[go_sem] theorem u190 : (Tryz.prog.underlying 190).isSome = true := by kernel_rfl
@[go_sem] theorem k191 : tyk Tryz.prog 191 = .scal := by kernel_rfl
@[go_sem] theorem c191 : Tryz.prog.cellsOf 191 = 1 := by kernel_rfl
@[go_sem] theorem b191 : Tryz.prog.bytesOf 191 = 8 := by kernel_rfl
@[go_sem] theorem z191 : tzO Tryz.prog 191 = some [.d .nilf] := by kernel_rfl
@[go_sem] theorem u191 : (Tryz.prog.underlying 191).isSome = true := by kernel_rfl
@[go_sem] theorem k192 : tyk Tryz.prog 192 = .scal := by kernel_rfl
@[go_sem] theorem c192 : Tryz.prog.cellsOf 192 = 1 := by kernel_rfl
@[go_sem] theorem b192 : Tryz.prog.bytesOf 192 = 8 := by kernel_rfl
@[go_sem] theorem z192 : tzO Tryz.prog 192 = some [.d .nilf] := by kernel_rfl
@[go_sem] theorem u192 : (Tryz.prog.underlying 192).isSome = true := by kernel_rfl
@[go_sem] theorem k193 : tyk Tryz.prog 193 = .scal := by kernel_rfl
@[go_sem] theorem c193 : Tryz.prog.cellsOf 193 = 1 := by kernel_rfl
@[go_sem] theorem b193 : Tryz.prog.bytesOf 193 = 8 := by kernel_rfl
@[go_sem] theorem z193 : tzO Tryz.prog 193 = some [.d .nilf] := by kernel_rfl
@[go_sem] theorem u193 : (Tryz.prog.underlying 193).isSome = true := by kernel_rfl
@[go_sem] theorem k194 : tyk Tryz.prog 194 = .scal := by kernel_rfl
@[go_sem] theorem c194 : Tryz.prog.cellsOf 194 = 1 := by kernel_rfl
@[go_sem] theorem b194 : Tryz.prog.bytesOf 194 = 8 := by kernel_rfl
@[go_sem] theorem z194 : tzO Tryz.prog 194 = some [.d .nilf] := by kernel_rfl
@[go_sem] theorem u194 : (Tryz.prog.underlying 194).isSome = true := by kernel_rfl
@[go_sem] theorem k195 : tyk Tryz.prog 195 = .scal := by kernel_rfl
@[go_sem] theorem c195 : Tryz.prog.cellsOf 195 = 1 := by kernel_rfl
@[go_sem] theorem b195 : Tryz.prog.bytesOf 195 = 8 := by kernel_rfl
@[go_sem] theorem z195 : tzO Tryz.prog 195 = some [.d .nilf] := by kernel_rfl
@[go_sem] theorem u195 : (Tryz.prog.underlying 195).isSome = true := by kernel_rfl
@[go_sem] theorem k196 : tyk Tryz.prog 196 = .scal := by kernel_rfl
@[go_sem] theorem c196 : Tryz.prog.cellsOf 196 = 1 := by kernel_rfl
@[go_sem] theorem b196 : Tryz.prog.bytesOf 196 = 8 := by kernel_rfl
@[go_sem] theorem z196 : tzO Tryz.prog 196 = some [.d .nilf] := by kernel_rfl
@[go_sem] theorem u196 : (Tryz.prog.underlying 196).isSome = true := by kernel_rfl
@[go_sem] theorem k197 : tyk Tryz.prog 197 = .struct [(0, 190), (1, 191), (2, 192), (3, 193), (4, 194), (5, 195), (6, 196), (7, 167)] := by kernel_rfl
@[go_sem] theorem c197 : Tryz.prog.cellsOf 197 = 8 := by kernel_rfl
@[go_sem] theorem b197 : Tryz.prog.bytesOf 197 = 64 := by kernel_rfl
@[go_sem] theorem z197 : tzO Tryz.prog 197 = some [.d .nilf, .d .nilf, .d .nilf, .d .nilf, .d .nilf, .d .nilf, .d .nilf, .d .nilf] := by kernel_rfl
@[go_sem] theorem u197 : (Tryz.prog.underlying 197).isSome = true := by kernel_rfl
@[go_sem] theorem k198 : tyk Tryz.prog 198 = .struct [(0, 190), (1, 191), (2, 192), (3, 193), (4, 194), (5, 195), (6, 196), (7, 167)] := by kernel_rfl
@[go_sem] theorem c198 : Tryz.prog.cellsOf 198 = 8 := by kernel_rfl
@[go_sem] theorem b198 : Tryz.prog.bytesOf 198 = 64 := by kernel_rfl
@[go_sem] theorem z198 : tzO Tryz.prog 198 = some [.d .nilf, .d .nilf, .d .nilf, .d .nilf, .d .nilf, .d .nilf, .d .nilf, .d .nilf] := by kernel_rfl
@[go_sem] theorem u198 : (Tryz.prog.underlying 198).isSome = true := by kernel_rfl
@[go_sem] theorem k199 : tyk Tryz.prog 199 = .scal := by kernel_rfl
@[go_sem] theorem c199 : Tryz.prog.cellsOf 199 = 1 := by kernel_rfl
@[go_sem] theorem b199 : Tryz.prog.bytesOf 199 = 8 := by kernel_rfl
@[go_sem] theorem z199 : tzO Tryz.prog 199 = some [.d .nilf] := by kernel_rfl
@[go_sem] theorem u199 : (Tryz.prog.underlying 199).isSome = true := by kernel_rfl
@[go_sem] theorem k200 : tyk Tryz.prog 200 = .scal := by kernel_rfl
@[go_sem] theorem c200 : Tryz.prog.cellsOf 200 = 1 := by kernel_rfl
@[go_sem] theorem b200 : Tryz.prog.bytesOf 200 = 8 := by kernel_rfl
@[go_sem] theorem z200 : tzO Tryz.prog 200 = some [.d .nilf] := by kernel_rfl
@[go_sem] theorem u200 : (Tryz.prog.underlying 200).isSome = true := by kernel_rfl
@[go_sem] theorem k201 : tyk Tryz.prog 201 = .scal := by kernel_rfl
@[go_sem] theorem c201 : Tryz.prog.cellsOf 201 = 1 := by kernel_rfl
@[go_sem] theorem b201 : Tryz.prog.bytesOf 201 = 8 := by kernel_rfl
@[go_sem] theorem z201 : tzO Tryz.prog 201 = some [.d .nilp] := by kernel_rfl
@[go_sem] theorem u201 : (Tryz.prog.underlying 201).isSome = true := by kernel_rfl
@[go_sem] theorem k203 : tyk Tryz.prog 203 = .scal := by kernel_rfl
@[go_sem] theorem c203 : Tryz.prog.cellsOf 203 = 1 := by kernel_rfl
@[go_sem] theorem b203 : Tryz.prog.bytesOf 203 = 8 := by kernel_rfl
@[go_sem] theorem z203 : tzO Tryz.prog 203 = some [.d .nilf] := by kernel_rfl
@[go_sem] theorem u203 : (Tryz.prog.underlying 203).isSome = true := by kernel_rfl
@[go_sem] theorem k204 : tyk Tryz.prog 204 = .scal := by kernel_rfl
@[go_sem] theorem c204 : Tryz.prog.cellsOf 204 = 1 := by kernel_rfl
@[go_sem] theorem b204 : Tryz.prog.bytesOf 204 = 8 := by kernel_rfl
@[go_sem] theorem z204 : tzO Tryz.prog 204 = some [.d .nilf] := by kernel_rfl
@[go_sem] theorem u204 : (Tryz.prog.underlying 204).isSome = true := by kernel_rfl
@[go_sem] theorem k205 : tyk Tryz.prog 205 = .scal := by kernel_rfl
@[go_sem] theorem c205 : Tryz.prog.cellsOf 205 = 1 := by kernel_rfl
@[go_sem] theorem b205 : Tryz.prog.bytesOf 205 = 8 := by kernel_rfl
@[go_sem] theorem z205 : tzO Tryz.prog 205 = some [.d .nilf] := by kernel_rfl
@[go_sem] theorem u205 : (Tryz.prog.underlying 205).isSome = true := by kernel_rfl
@[go_sem] theorem k206 : tyk Tryz.prog 206 = .scal := by kernel_rfl
@[go_sem] theorem c206 : Tryz.prog.cellsOf 206 = 1 := by kernel_rfl
@[go_sem] theorem b206 : Tryz.prog.bytesOf 206 = 8 := by kernel_rfl
@[go_sem] theorem z206 : tzO Tryz.prog 206 = some [.d .nilf] := by kernel_rfl
@[go_sem] theorem u206 : (Tryz.prog.underlying 206).isSome = true := by kernel_rfl
@[go_sem] theorem k207 : tyk Tryz.prog 207 = .struct [(0, 123)] := by kernel_rfl
@[go_sem] theorem c207 : Tryz.prog.cellsOf 207 = 1 := by kernel_rfl
@[go_sem] theorem b207 : Tryz.prog.bytesOf 207 = 24 := by kernel_rfl
@[go_sem] theorem z207 : tzO Tryz.prog 207 = some [.nil] := by kernel_rfl
@[go_sem] theorem u207 : (Tryz.prog.underlying 207).isSome = true := by kernel_rfl
@[go_sem] theorem k208 : tyk Tryz.prog 208 = .struct [(0, 123)] := by kernel_rfl
@[go_sem] theorem c208 : Tryz.prog.cellsOf 208 = 1 := by kernel_rfl
@[go_sem] theorem b208 : Tryz.prog.bytesOf 208 = 24 := by kernel_rfl
@[go_sem] theorem z208 : tzO Tryz.prog 208 = some [.nil] := by kernel_rfl
@[go_sem] theorem u208 : (Tryz.prog.underlying 208).isSome = true := by kernel_rfl
@[go_sem] theorem k209 : tyk Tryz.prog 209 = .scal := by kernel_rfl
@[go_sem] theorem c209 : Tryz.prog.cellsOf 209 = 1 := by kernel_rfl
@[go_sem] theorem b209 : Tryz.prog.bytesOf 209 = 8 := by kernel_rfl
@[go_sem] theorem z209 : tzO Tryz.prog 209 = some [.d .nilf] := by kernel_rfl
@[go_sem] theorem u209 : (Tryz.prog.underlying 209).isSome = true := by kernel_rfl
@[go_sem] theorem k210 : tyk Tryz.prog 210 = .scal := by kernel_rfl
@[go_sem] theorem c210 : Tryz.prog.cellsOf 210 = 1 := by kernel_rfl
@[go_sem] theorem b210 : Tryz.prog.bytesOf 210 = 8 := by kernel_rfl
@[go_sem] theorem z210 : tzO Tryz.prog 210 = some [.d .nilf] := by kernel_rfl
@[go_sem] theorem u210 : (Tryz.prog.underlying 210).isSome = true := by kernel_rfl
@[go_sem] theorem k211 : tyk Tryz.prog 211 = .scal := by kernel_rfl
@[go_sem] theorem c211 : Tryz.prog.cellsOf 211 = 1 := by kernel_rfl
@[go_sem] theorem b211 : Tryz.prog.bytesOf 211 = 8 := by kernel_rfl
@[go_sem] theorem z211 : tzO Tryz.prog 211 = some [.d .nilf] := by kernel_rfl
@[go_sem] theorem u211 : (Tryz.prog.underlying 211).isSome = true := by kernel_rfl
@[go_sem] theorem k212 : tyk Tryz.prog 212 = .scal := by kernel_rfl
@[go_sem] theorem c212 : Tryz.prog.cellsOf 212 = 1 := by kernel_rfl
@[go_sem] theorem b212 : Tryz.prog.bytesOf 212 = 8 := by kernel_rfl
@[go_sem] theorem z212 : tzO Tryz.prog 212 = some [.d .nilf] := by kernel_rfl
@[go_sem] theorem u212 : (Tryz.prog.underlying 212).isSome = true := by kernel_rfl
@[go_sem] theorem k213 : tyk Tryz.prog 213 = .scal := by kernel_rfl
@[go_sem] theorem c213 : Tryz.prog.cellsOf 213 = 1 := by kernel_rfl
@[go_sem] theorem b213 : Tryz.prog.bytesOf 213 = 8 := by kernel_rfl
@[go_sem] theorem z213 : tzO Tryz.prog 213 = some [.d .nilf] := by kernel_rfl
@[go_sem] theorem u213 : (Tryz.prog.underlying 213).isSome = true := by kernel_rfl
@[go_sem] theorem k215 : tyk Tryz.prog 215 = .scal := by kernel_rfl
@[go_sem] theorem c215 : Tryz.prog.cellsOf 215 = 1 := by kernel_rfl
@[go_sem] theorem b215 : Tryz.prog.bytesOf 215 = 8 := by kernel_rfl
@[go_sem] theorem z215 : tzO Tryz.prog 215 = some [.d .nilf] := by kernel_rfl
@[go_sem] theorem u215 : (Tryz.prog.underlying 215).isSome = true := by kernel_rfl
@[go_sem] theorem k216 : tyk Tryz.prog 216 = .scal := by kernel_rfl
@[go_sem] theorem c216 : Tryz.prog.cellsOf 216 = 1 := by kernel_rfl
@[go_sem] theorem b216 : Tryz.prog.bytesOf 216 = 8 := by kernel_rfl
@[go_sem] theorem z216 : tzO Tryz.prog 216 = some [.d .nilf] := by kernel_rfl
@[go_sem] theorem u216 : (Tryz.prog.underlying 216).isSome = true := by kernel_rfl
@[go_sem] theorem k217 : tyk Tryz.prog 217 = .scal := by kernel_rfl
@[go_sem] theorem c217 : Tryz.prog.cellsOf 217 = 1 := by kernel_rfl
@[go_sem] theorem b217 : Tryz.prog.bytesOf 217 = 8 := by kernel_rfl
@[go_sem] theorem z217 : tzO Tryz.prog 217 = some [.d .nilf] := by kernel_rfl
@[go_sem] theorem u217 : (Tryz.prog.underlying 217).isSome = true := by kernel_rfl
@[go_sem] theorem k218 : tyk Tryz.prog 218 = .scal := by kernel_rfl
@[go_sem] theorem c218 : Tryz.prog.cellsOf 218 = 1 := by kernel_rfl
@[go_sem] theorem b218 : Tryz.prog.bytesOf 218 = 8 := by kernel_rfl
@[go_sem] theorem z218 : tzO Tryz.prog 218 = some [.d .nilf] := by kernel_rfl
@[go_sem] theorem u218 : (Tryz.prog.underlying 218).isSome = true := by kernel_rfl
@[go_sem] theorem k219 : tyk Tryz.prog 219 = .arr 128 5 := by kernel_rfl
@[go_sem] theorem c219 : Tryz.prog.cellsOf 219 = 128 := by kernel_rfl
@[go_sem] theorem b219 : Tryz.prog.bytesOf 219 = 128 := by kernel_rfl
@[go_sem] theorem u219 : (Tryz.prog.underlying 219).isSome = true := by kernel_rfl
@[go_sem] theorem k220 : tyk Tryz.prog 220 = .arr 128 5 := by kernel_rfl
@[go_sem] theorem c220 : Tryz.prog.cellsOf 220 = 128 := by kernel_rfl
@[go_sem] theorem b220 : Tryz.prog.bytesOf 220 = 128 := by kernel_rfl
@[go_sem] theorem u220 : (Tryz.prog.underlying 220).isSome = true := by kernel_rfl
@[go_sem] theorem k222 : tyk Tryz.prog 222 = .scal := by kernel_rfl
@[go_sem] theorem c222 : Tryz.prog.cellsOf 222 = 1 := by kernel_rfl
@[go_sem] theorem b222 : Tryz.prog.bytesOf 222 = 8 := by kernel_rfl
@[go_sem] theorem z222 : tzO Tryz.prog 222 = some [.d .nilf] := by kernel_rfl
@[go_sem] theorem u222 : (Tryz.prog.underlying 222).isSome = true := by kernel_rfl
@[go_sem] theorem k224 : tyk Tryz.prog 224 = .scal := by kernel_rfl
@[go_sem] theorem c224 : Tryz.prog.cellsOf 224 = 1 := by kernel_rfl
@[go_sem] theorem b224 : Tryz.prog.bytesOf 224 = 8 := by kernel_rfl
@[go_sem] theorem z224 : tzO Tryz.prog 224 = some [.d .nilf] := by kernel_rfl
@[go_sem] theorem u224 : (Tryz.prog.underlying 224).isSome = true := by kernel_rfl
@[go_sem] theorem k226 : tyk Tryz.prog 226 = .scal := by kernel_rfl
@[go_sem] theorem c226 : Tryz.prog.cellsOf 226 = 1 := by kernel_rfl
@[go_sem] theorem b226 : Tryz.prog.bytesOf 226 = 8 := by kernel_rfl
@[go_sem] theorem z226 : tzO Tryz.prog 226 = some [.d .nilf] := by kernel_rfl
@[go_sem] theorem u226 : (Tryz.prog.underlying 226).isSome = true := by kernel_rfl
@[go_sem] theorem k227 : tyk Tryz.prog 227 = .scal := by kernel_rfl
@[go_sem] theorem c227 : Tryz.prog.cellsOf 227 = 1 := by kernel_rfl
@[go_sem] theorem b227 : Tryz.prog.bytesOf 227 = 8 := by kernel_rfl
@[go_sem] theorem z227 : tzO Tryz.prog 227 = some [.d .nilf] := by kernel_rfl
@[go_sem] theorem u227 : (Tryz.prog.underlying 227).isSome = true := by kernel_rfl
@[go_sem] theorem k229 : tyk Tryz.prog 229 = .scal := by kernel_rfl
@[go_sem] theorem c229 : Tryz.prog.cellsOf 229 = 1 := by kernel_rfl
@[go_sem] theorem b229 : Tryz.prog.bytesOf 229 = 8 := by kernel_rfl
@[go_sem] theorem z229 : tzO Tryz.prog 229 = some [.d .nilf] := by kernel_rfl
@[go_sem] theorem u229 : (Tryz.prog.underlying 229).isSome = true := by kernel_rfl
@[go_sem] theorem k230 : tyk Tryz.prog 230 = .scal := by kernel_rfl
@[go_sem] theorem c230 : Tryz.prog.cellsOf 230 = 1 := by kernel_rfl
@[go_sem] theorem b230 : Tryz.prog.bytesOf 230 = 8 := by kernel_rfl
@[go_sem] theorem z230 : tzO Tryz.prog 230 = some [.d .nilf] := by kernel_rfl
@[go_sem] theorem u230 : (Tryz.prog.underlying 230).isSome = true := by kernel_rfl
@[go_sem] theorem k231 : tyk Tryz.prog 231 = .scal := by kernel_rfl
@[go_sem] theorem c231 : Tryz.prog.cellsOf 231 = 1 := by kernel_rfl
@[go_sem] theorem b231 : Tryz.prog.bytesOf 231 = 8 := by kernel_rfl
@[go_sem] theorem z231 : tzO Tryz.prog 231 = some [.d .nilf] := by kernel_rfl
@[go_sem] theorem u231 : (Tryz.prog.underlying 231).isSome = true := by kernel_rfl
@[go_sem] theorem k232 : tyk Tryz.prog 232 = .scal := by kernel_rfl
@[go_sem] theorem c232 : Tryz.prog.cellsOf 232 = 1 := by kernel_rfl
@[go_sem] theorem b232 : Tryz.prog.bytesOf 232 = 8 := by kernel_rfl
@[go_sem] theorem z232 : tzO Tryz.prog 232 = some [.d .nilf] := by kernel_rfl
@[go_sem] theorem u232 : (Tryz.prog.underlying 232).isSome = true := by kernel_rfl
@[go_sem] theorem k233 : tyk Tryz.prog 233 = .scal := by kernel_rfl
@[go_sem] theorem c233 : Tryz.prog.cellsOf 233 = 1 := by kernel_rfl
@[go_sem] theorem b233 : Tryz.prog.bytesOf 233 = 8 := by kernel_rfl
@[go_sem] theorem z233 : tzO Tryz.prog 233 = some [.d .nilf] := by kernel_rfl
@[go_sem] theorem u233 : (Tryz.prog.underlying 233).isSome = true := by kernel_rfl
@[go_sem] theorem k235 : tyk Tryz.prog 235 = .scal := by kernel_rfl
@[go_sem] theorem c235 : Tryz.prog.cellsOf 235 = 1 := by kernel_rfl
@[go_sem] theorem b235 : Tryz.prog.bytesOf 235 = 8 := by kernel_rfl
@[go_sem] theorem z235 : tzO Tryz.prog 235 = some [.d .nilf] := by kernel_rfl
@[go_sem] theorem u235 : (Tryz.prog.underlying 235).isSome = true := by kernel_rfl
@[go_sem] theorem k236 : tyk Tryz.prog 236 = .scal := by kernel_rfl
@[go_sem] theorem c236 : Tryz.prog.cellsOf 236 = 1 := by kernel_rfl
@[go_sem] theorem b236 : Tryz.prog.bytesOf 236 = 8 := by kernel_rfl
@[go_sem] theorem z236 : tzO Tryz.prog 236 = some [.d .nilf] := by kernel_rfl
@[go_sem] theorem u236 : (Tryz.prog.underlying 236).isSome = true := by kernel_rfl
@[go_sem] theorem k237 : tyk Tryz.prog 237 = .scal := by kernel_rfl
@[go_sem] theorem c237 : Tryz.prog.cellsOf 237 = 1 := by kernel_rfl
@[go_sem] theorem b237 : Tryz.prog.bytesOf 237 = 8 := by kernel_rfl
@[go_sem] theorem z237 : tzO Tryz.prog 237 = some [.d .nilf] := by kernel_rfl
@[go_sem] theorem u237 : (Tryz.prog.underlying 237).isSome = true := by kernel_rfl
@[go_sem] theorem k238 : tyk Tryz.prog 238 = .scal := by kernel_rfl
@[go_sem] theorem c238 : Tryz.prog.cellsOf 238 = 1 := by kernel_rfl
@[go_sem] theorem b238 : Tryz.prog.bytesOf 238 = 8 := by kernel_rfl
@[go_sem] theorem z238 : tzO Tryz.prog 238 = some [.d .nilf] := by kernel_rfl
@[go_sem] theorem u238 : (Tryz.prog.underlying 238).isSome = true := by kernel_rfl
@[go_sem] theorem k239 : tyk Tryz.prog 239 = .scal := by kernel_rfl
@[go_sem] theorem c239 : Tryz.prog.cellsOf 239 = 1 := by kernel_rfl
@[go_sem] theorem b239 : Tryz.prog.bytesOf 239 = 8 := by kernel_rfl
@[go_sem] theorem z239 : tzO Tryz.prog 239 = some [.d .nilf] := by kernel_rfl
@[go_sem] theorem u239 : (Tryz.prog.underlying 239).isSome = true := by kernel_rfl
@[go_sem] theorem k241 : tyk Tryz.prog 241 = .scal := by kernel_rfl
@[go_sem] theorem c241 : Tryz.prog.cellsOf 241 = 1 := by kernel_rfl
@[go_sem] theorem b241 : Tryz.prog.bytesOf 241 = 8 := by kernel_rfl
@[go_sem] theorem z241 : tzO Tryz.prog 241 = some [.d .nilf] := by kernel_rfl
@[go_sem] theorem u241 : (Tryz.prog.underlying 241).isSome = true := by kernel_rfl
@[go_sem] theorem k243 : tyk Tryz.prog 243 = .scal := by kernel_rfl
@[go_sem] theorem c243 : Tryz.prog.cellsOf 243 = 1 := by kernel_rfl
@[go_sem] theorem b243 : Tryz.prog.bytesOf 243 = 8 := by kernel_rfl
@[go_sem] theorem z243 : tzO Tryz.prog 243 = some [.d .nilf] := by kernel_rfl
@[go_sem] theorem u243 : (Tryz.prog.underlying 243).isSome = true := by kernel_rfl
@[go_sem] theorem k244 : tyk Tryz.prog 244 = .scal := by kernel_rfl
@[go_sem] theorem c244 : Tryz.prog.cellsOf 244 = 1 := by kernel_rfl
@[go_sem] theorem b244 : Tryz.prog.bytesOf 244 = 8 := by kernel_rfl
@[go_sem] theorem z244 : tzO Tryz.prog 244 = some [.d .nilf] := by kernel_rfl
@[go_sem] theorem u244 : (Tryz.prog.underlying 244).isSome = true := by kernel_rfl
@[go_sem] theorem k245 : tyk Tryz.prog 245 = .scal := by kernel_rfl
@[go_sem] theorem c245 : Tryz.prog.cellsOf 245 = 1 := by kernel_rfl
@[go_sem] theorem b245 : Tryz.prog.bytesOf 245 = 8 := by kernel_rfl
@[go_sem] theorem z245 : tzO Tryz.prog 245 = some [.d .nilf] := by kernel_rfl
@[go_sem] theorem u245 : (Tryz.prog.underlying 245).isSome = true := by kernel_rfl
@[go_sem] theorem k246 : tyk Tryz.prog 246 = .scal := by kernel_rfl
@[go_sem] theorem c246 : Tryz.prog.cellsOf 246 = 1 := by kernel_rfl
@[go_sem] theorem b246 : Tryz.prog.bytesOf 246 = 8 := by kernel_rfl
@[go_sem] theorem z246 : tzO Tryz.prog 246 = some [.d .nilf] := by kernel_rfl
@[go_sem] theorem u246 : (Tryz.prog.underlying 246).isSome = true := by kernel_rfl
@[go_sem] theorem k247 : tyk Tryz.prog 247 = .scal := by kernel_rfl
@[go_sem] theorem c247 : Tryz.prog.cellsOf 247 = 1 := by kernel_rfl
@[go_sem] theorem b247 : Tryz.prog.bytesOf 247 = 8 := by kernel_rfl
@[go_sem] theorem z247 : tzO Tryz.prog 247 = some [.d .nilf] := by kernel_rfl
@[go_sem] theorem u247 : (Tryz.prog.underlying 247).isSome = true := by kernel_rfl
@[go_sem] theorem k248 : tyk Tryz.prog 248 = .scal := by kernel_rfl
@[go_sem] theorem c248 : Tryz.prog.cellsOf 248 = 1 := by kernel_rfl
@[go_sem] theorem b248 : Tryz.prog.bytesOf 248 = 8 := by kernel_rfl
@[go_sem] theorem z248 : tzO Tryz.prog 248 = some [.d .nilf] := by kernel_rfl
@[go_sem] theorem u248 : (Tryz.prog.underlying 248).isSome = true := by kernel_rfl
@[go_sem] theorem k249 : tyk Tryz.prog 249 = .scal := by kernel_rfl
@[go_sem] theorem c249 : Tryz.prog.cellsOf 249 = 1 := by kernel_rfl
@[go_sem] theorem b249 : Tryz.prog.bytesOf 249 = 8 := by kernel_rfl
@[go_sem] theorem z249 : tzO Tryz.prog 249 = some [.d .nilf] := by kernel_rfl
@[go_sem] theorem u249 : (Tryz.prog.underlying 249).isSome = true := by kernel_rfl
@[go_sem] theorem k251 : tyk Tryz.prog 251 = .scal := by kernel_rfl
@[go_sem] theorem c251 : Tryz.prog.cellsOf 251 = 1 := by kernel_rfl
@[go_sem] theorem b251 : Tryz.prog.bytesOf 251 = 8 := by kernel_rfl
@[go_sem] theorem z251 : tzO Tryz.prog 251 = some [.d .nilf] := by kernel_rfl
@[go_sem] theorem u251 : (Tryz.prog.underlying 251).isSome = true := by kernel_rfl
@[go_sem] theorem k252 : tyk Tryz.prog 252 = .scal := by kernel_rfl
@[go_sem] theorem c252 : Tryz.prog.cellsOf 252 = 1 := by kernel_rfl
@[go_sem] theorem b252 : Tryz.prog.bytesOf 252 = 8 := by kernel_rfl
@[go_sem] theorem z252 : tzO Tryz.prog 252 = some [.d .nilf] := by kernel_rfl
@[go_sem] theorem u252 : (Tryz.prog.underlying 252).isSome = true := by kernel_rfl
@[go_sem] theorem k254 : tyk Tryz.prog 254 = .scal := by kernel_rfl
@[go_sem] theorem c254 : Tryz.prog.cellsOf 254 = 1 := by kernel_rfl
@[go_sem] theorem b254 : Tryz.prog.bytesOf 254 = 8 := by kernel_rfl
@[go_sem] theorem z254 : tzO Tryz.prog 254 = some [.d .nilf] := by kernel_rfl
@[go_sem] theorem u254 : (Tryz.prog.underlying 254).isSome = true := by kernel_rfl
@[go_sem] theorem k255 : tyk Tryz.prog 255 = .scal := by kernel_rfl
@[go_sem] theorem c255 : Tryz.prog.cellsOf 255 = 1 := by kernel_rfl
@[go_sem] theorem b255 : Tryz.prog.bytesOf 255 = 8 := by kernel_rfl
@[go_sem] theorem z255 : tzO Tryz.prog 255 = some [.d .nilp] := by kernel_rfl
@[go_sem] theorem u255 : (Tryz.prog.underlying 255).isSome = true := by kernel_rfl
@[go_sem] theorem k256 : tyk Tryz.prog 256 = .struct [(0, 22), (1, 24)] := by kernel_rfl
@[go_sem] theorem c256 : Tryz.prog.cellsOf 256 = 2 := by kernel_rfl
@[go_sem] theorem b256 : Tryz.prog.bytesOf 256 = 32 := by kernel_rfl
@[go_sem] theorem z256 : tzO Tryz.prog 256 = some [.nil, .d (.int .i64 0)] := by kernel_rfl
@[go_sem] theorem u256 : (Tryz.prog.underlying 256).isSome = true := by kernel_rfl
@[go_sem] theorem k257 : tyk Tryz.prog 257 = .struct [(0, 22), (1, 24)] := by kernel_rfl
@[go_sem] theorem c257 : Tryz.prog.cellsOf 257 = 2 := by kernel_rfl
@[go_sem] theorem b257 : Tryz.prog.bytesOf 257 = 32 := by kernel_rfl
@[go_sem] theorem z257 : tzO Tryz.prog 257 = some [.nil, .d (.int .i64 0)] := by kernel_rfl
@[go_sem] theorem u257 : (Tryz.prog.underlying 257).isSome = true := by kernel_rfl
@[go_sem] theorem k258 : tyk Tryz.prog 258 = .scal := by kernel_rfl
@[go_sem] theorem c258 : Tryz.prog.cellsOf 258 = 1 := by kernel_rfl
@[go_sem] theorem b258 : Tryz.prog.bytesOf 258 = 8 := by kernel_rfl
@[go_sem] theorem z258 : tzO Tryz.prog 258 = some [.d .nilf] := by kernel_rfl
@[go_sem] theorem u258 : (Tryz.prog.underlying 258).isSome = true := by kernel_rfl
@[go_sem] theorem k259 : tyk Tryz.prog 259 = .scal := by kernel_rfl
@[go_sem] theorem c259 : Tryz.prog.cellsOf 259 = 1 := by kernel_rfl
@[go_sem] theorem b259 : Tryz.prog.bytesOf 259 = 8 := by kernel_rfl
@[go_sem] theorem z259 : tzO Tryz.prog 259 = some [.d .nilf] := by kernel_rfl
@[go_sem] theorem u259 : (Tryz.prog.underlying 259).isSome = true := by kernel_rfl
@[go_sem] theorem k261 : tyk Tryz.prog 261 = .scal := by kernel_rfl
@[go_sem] theorem c261 : Tryz.prog.cellsOf 261 = 1 := by kernel_rfl
@[go_sem] theorem b261 : Tryz.prog.bytesOf 261 = 8 := by kernel_rfl
@[go_sem] theorem z261 : tzO Tryz.prog 261 = some [.d .nilf] := by kernel_rfl
@[go_sem] theorem u261 : (Tryz.prog.underlying 261).isSome = true := by kernel_rfl
@[go_sem] theorem k263 : tyk Tryz.prog 263 = .scal := by kernel_rfl
@[go_sem] theorem c263 : Tryz.prog.cellsOf 263 = 1 := by kernel_rfl
@[go_sem] theorem b263 : Tryz.prog.bytesOf 263 = 8 := by kernel_rfl
@[go_sem] theorem z263 : tzO Tryz.prog 263 = some [.d .nilf] := by kernel_rfl
@[go_sem] theorem u263 : (Tryz.prog.underlying 263).isSome = true := by kernel_rfl
@[go_sem] theorem k264 : tyk Tryz.prog 264 = .scal := by kernel_rfl
@[go_sem] theorem c264 : Tryz.prog.cellsOf 264 = 1 := by kernel_rfl
@[go_sem] theorem b264 : Tryz.prog.bytesOf 264 = 8 := by kernel_rfl
@[go_sem] theorem z264 : tzO Tryz.prog 264 = some [.d .nilf] := by kernel_rfl
@[go_sem] theorem u264 : (Tryz.prog.underlying 264).isSome = true := by kernel_rfl
@[go_sem] theorem k265 : tyk Tryz.prog 265 = .scal := by kernel_rfl
@[go_sem] theorem c265 : Tryz.prog.cellsOf 265 = 1 := by kernel_rfl
@[go_sem] theorem b265 : Tryz.prog.bytesOf 265 = 8 := by kernel_rfl
@[go_sem] theorem z265 : tzO Tryz.prog 265 = some [.d .nilf] := by kernel_rfl
@[go_sem] theorem u265 : (Tryz.prog.underlying 265).isSome = true := by kernel_rfl
@[go_sem] theorem k266 : tyk Tryz.prog 266 = .scal := by kernel_rfl
@[go_sem] theorem c266 : Tryz.prog.cellsOf 266 = 1 := by kernel_rfl
@[go_sem] theorem b266 : Tryz.prog.bytesOf 266 = 8 := by kernel_rfl
@[go_sem] theorem z266 : tzO Tryz.prog 266 = some [.d .nilf] := by kernel_rfl
@[go_sem] theorem u266 : (Tryz.prog.underlying 266).isSome = true := by kernel_rfl
@[go_sem] theorem k267 : tyk Tryz.prog 267 = .scal := by kernel_rfl
@[go_sem] theorem c267 : Tryz.prog.cellsOf 267 = 1 := by kernel_rfl
@[go_sem] theorem b267 : Tryz.prog.bytesOf 267 = 8 := by kernel_rfl
@[go_sem] theorem z267 : tzO Tryz.prog 267 = some [.d .nilf] := by kernel_rfl
@[go_sem] theorem u267 : (Tryz.prog.underlying 267).isSome = true := by kernel_rfl
@[go_sem] theorem k268 : tyk Tryz.prog 268 = .scal := by kernel_rfl
@[go_sem] theorem c268 : Tryz.prog.cellsOf 268 = 1 := by kernel_rfl
@[go_sem] theorem b268 : Tryz.prog.bytesOf 268 = 8 := by kernel_rfl
@[go_sem] theorem z268 : tzO Tryz.prog 268 = some [.d .nilf] := by kernel_rfl
@[go_sem] theorem u268 : (Tryz.prog.underlying 268).isSome = true := by kernel_rfl
@[go_sem] theorem k269 : tyk Tryz.prog 269 = .scal := by kernel_rfl
@[go_sem] theorem c269 : Tryz.prog.cellsOf 269 = 1 := by kernel_rfl
@[go_sem] theorem b269 : Tryz.prog.bytesOf 269 = 8 := by kernel_rfl
@[go_sem] theorem z269 : tzO Tryz.prog 269 = some [.d .nilf] := by kernel_rfl
@[go_sem] theorem u269 : (Tryz.prog.underlying 269).isSome = true := by kernel_rfl
@[go_sem] theorem k271 : tyk Tryz.prog 271 = .scal := by kernel_rfl
@[go_sem] theorem c271 : Tryz.prog.cellsOf 271 = 1 := by kernel_rfl
@[go_sem] theorem b271 : Tryz.prog.bytesOf 271 = 8 := by kernel_rfl
@[go_sem] theorem z271 : tzO Tryz.prog 271 = some [.d .nilf] := by kernel_rfl
@[go_sem] theorem u271 : (Tryz.prog.underlying 271).isSome = true := by kernel_rfl
@[go_sem] theorem k272 : tyk Tryz.prog 272 = .scal := by kernel_rfl
@[go_sem] theorem c272 : Tryz.prog.cellsOf 272 = 1 := by kernel_rfl
@[go_sem] theorem b272 : Tryz.prog.bytesOf 272 = 8 := by kernel_rfl
@[go_sem] theorem z272 : tzO Tryz.prog 272 = some [.d .nilf] := by kernel_rfl
@[go_sem] theorem u272 : (Tryz.prog.underlying 272).isSome = true := by kernel_rfl
@[go_sem] theorem k273 : tyk Tryz.prog 273 = .scal := by kernel_rfl
@[go_sem] theorem c273 : Tryz.prog.cellsOf 273 = 1 := by kernel_rfl
@[go_sem] theorem b273 : Tryz.prog.bytesOf 273 = 8 := by kernel_rfl
@[go_sem] theorem z273 : tzO Tryz.prog 273 = some [.d .nilp] := by kernel_rfl
@[go_sem] theorem u273 : (Tryz.prog.underlying 273).isSome = true := by kernel_rfl
@[go_sem] theorem k274 : tyk Tryz.prog 274 = .struct [(0, 22)] := by kernel_rfl
@[go_sem] theorem c274 : Tryz.prog.cellsOf 274 = 1 := by kernel_rfl
@[go_sem] theorem b274 : Tryz.prog.bytesOf 274 = 24 := by kernel_rfl
@[go_sem] theorem z274 : tzO Tryz.prog 274 = some [.nil] := by kernel_rfl
@[go_sem] theorem u274 : (Tryz.prog.underlying 274).isSome = true := by kernel_rfl
@[go_sem] theorem k275 : tyk Tryz.prog 275 = .struct [(0, 22)] := by kernel_rfl
@[go_sem] theorem c275 : Tryz.prog.cellsOf 275 = 1 := by kernel_rfl
@[go_sem] theorem b275 : Tryz.prog.bytesOf 275 = 24 := by kernel_rfl
@[go_sem] theorem z275 : tzO Tryz.prog 275 = some [.nil] := by kernel_rfl
@[go_sem] theorem u275 : (Tryz.prog.underlying 275).isSome = true := by kernel_rfl
@[go_sem] theorem k276 : tyk Tryz.prog 276 = .scal := by kernel_rfl
@[go_sem] theorem c276 : Tryz.prog.cellsOf 276 = 1 := by kernel_rfl
@[go_sem] theorem b276 : Tryz.prog.bytesOf 276 = 8 := by kernel_rfl
@[go_sem] theorem z276 : tzO Tryz.prog 276 = some [.d .nilf] := by kernel_rfl
@[go_sem] theorem u276 : (Tryz.prog.underlying 276).isSome = true := by kernel_rfl
@[go_sem] theorem k277 : tyk Tryz.prog 277 = .scal := by kernel_rfl
@[go_sem] theorem c277 : Tryz.prog.cellsOf 277 = 1 := by kernel_rfl
@[go_sem] theorem b277 : Tryz.prog.bytesOf 277 = 8 := by kernel_rfl
@[go_sem] theorem z277 : tzO Tryz.prog 277 = some [.d .nilf] := by kernel_rfl
@[go_sem] theorem u277 : (Tryz.prog.underlying 277).isSome = true := by kernel_rfl
@[go_sem] theorem k278 : tyk Tryz.prog 278 = .scal := by kernel_rfl
@[go_sem] theorem c278 : Tryz.prog.cellsOf 278 = 1 := by kernel_rfl
@[go_sem] theorem b278 : Tryz.prog.bytesOf 278 = 8 := by kernel_rfl
@[go_sem] theorem z278 : tzO Tryz.prog 278 = some [.d .nilp] := by kernel_rfl
@[go_sem] theorem u278 : (Tryz.prog.underlying 278).isSome = true := by kernel_rfl
@[go_sem] theorem k279 : tyk Tryz.prog 279 = .scal := by kernel_rfl
@[go_sem] theorem c279 : Tryz.prog.cellsOf 279 = 1 := by kernel_rfl
@[go_sem] theorem b279 : Tryz.prog.bytesOf 279 = 8 := by kernel_rfl
@[go_sem] theorem z279 : tzO Tryz.prog 279 = some [.d .nilp] := by kernel_rfl
@[go_sem] theorem u279 : (Tryz.prog.underlying 279).isSome = true := by kernel_rfl
@[go_sem] theorem k280 : tyk Tryz.prog 280 = .scal := by kernel_rfl
@[go_sem] theorem c280 : Tryz.prog.cellsOf 280 = 1 := by kernel_rfl
@[go_sem] theorem b280 : Tryz.prog.bytesOf 280 = 8 := by kernel_rfl
@[go_sem] theorem z280 : tzO Tryz.prog 280 = some [.d .nilp] := by kernel_rfl
@[go_sem] theorem u280 : (Tryz.prog.underlying 280).isSome = true := by kernel_rfl
@[go_sem] theorem k281 : tyk Tryz.prog 281 = .scal := by kernel_rfl
@[go_sem] theorem c281 : Tryz.prog.cellsOf 281 = 1 := by kernel_rfl
@[go_sem] theorem b281 : Tryz.prog.bytesOf 281 = 8 := by kernel_rfl
@[go_sem] theorem z281 : tzO Tryz.prog 281 = some [.d .nilp] := by kernel_rfl
@[go_sem] theorem u281 : (Tryz.prog.underlying 281).isSome = true := by kernel_rfl
@[go_sem] theorem k282 : tyk Tryz.prog 282 = .scal := by kernel_rfl
@[go_sem] theorem c282 : Tryz.prog.cellsOf 282 = 1 := by kernel_rfl
@[go_sem] theorem b282 : Tryz.prog.bytesOf 282 = 8 := by kernel_rfl
@[go_sem] theorem z282 : tzO Tryz.prog 282 = some [.d .nilp] := by kernel_rfl
@[go_sem] theorem u282 : (Tryz.prog.underlying 282).isSome = true := by kernel_rfl
@[go_sem] theorem k283 : tyk Tryz.prog 283 = .scal := by kernel_rfl
@[go_sem] theorem c283 : Tryz.prog.cellsOf 283 = 1 := by kernel_rfl
@[go_sem] theorem b283 : Tryz.prog.bytesOf 283 = 8 := by kernel_rfl
@[go_sem] theorem z283 : tzO Tryz.prog 283 = some [.d .nilp] := by kernel_rfl
@[go_sem] theorem u283 : (Tryz.prog.underlying 283).isSome = true := by kernel_rfl
@[go_sem] theorem k284 : tyk Tryz.prog 284 = .scal := by kernel_rfl
@[go_sem] theorem c284 : Tryz.prog.cellsOf 284 = 1 := by kernel_rfl
@[go_sem] theorem b284 : Tryz.prog.bytesOf 284 = 8 := by kernel_rfl
@[go_sem] theorem z284 : tzO Tryz.prog 284 = some [.d .nilf] := by kernel_rfl
@[go_sem] theorem u284 : (Tryz.prog.underlying 284).isSome = true := by kernel_rfl
@[go_sem] theorem k285 : tyk Tryz.prog 285 = .scal := by kernel_rfl
@[go_sem] theorem c285 : Tryz.prog.cellsOf 285 = 1 := by kernel_rfl
@[go_sem] theorem b285 : Tryz.prog.bytesOf 285 = 8 := by kernel_rfl
@[go_sem] theorem z285 : tzO Tryz.prog 285 = some [.d .nilp] := by kernel_rfl
@[go_sem] theorem u285 : (Tryz.prog.underlying 285).isSome = true := by kernel_rfl
@[go_sem] theorem k286 : tyk Tryz.prog 286 = .scal := by kernel_rfl
@[go_sem] theorem c286 : Tryz.prog.cellsOf 286 = 1 := by kernel_rfl
@[go_sem] theorem b286 : Tryz.prog.bytesOf 286 = 8 := by kernel_rfl
@[go_sem] theorem z286 : tzO Tryz.prog 286 = some [.d .nilf] := by kernel_rfl
@[go_sem] theorem u286 : (Tryz.prog.underlying 286).isSome = true := by kernel_rfl
@[go_sem] theorem k287 : tyk Tryz.prog 287 = .scal := by kernel_rfl
@[go_sem] theorem c287 : Tryz.prog.cellsOf 287 = 1 := by kernel_rfl
@[go_sem] theorem b287 : Tryz.prog.bytesOf 287 = 8 := by kernel_rfl
@[go_sem] theorem z287 : tzO Tryz.prog 287 = some [.d .nilf] := by kernel_rfl
@[go_sem] theorem u287 : (Tryz.prog.underlying 287).isSome = true := by kernel_rfl
@[go_sem] theorem k288 : tyk Tryz.prog 288 = .struct [(0, 62), (1, 22)] := by kernel_rfl
@[go_sem] theorem c288 : Tryz.prog.cellsOf 288 = 2 := by kernel_rfl
@[go_sem] theorem b288 : Tryz.prog.bytesOf 288 = 32 := by kernel_rfl
@[go_sem] theorem z288 : tzO Tryz.prog 288 = some [.d (.int .u64 0), .nil] := by kernel_rfl
@[go_sem] theorem u288 : (Tryz.prog.underlying 288).isSome = true := by kernel_rfl
@[go_sem] theorem k289 : tyk Tryz.prog 289 = .struct [(0, 62), (1, 22)] := by kernel_rfl
@[go_sem] theorem c289 : Tryz.prog.cellsOf 289 = 2 := by kernel_rfl
@[go_sem] theorem b289 : Tryz.prog.bytesOf 289 = 32 := by kernel_rfl
@[go_sem] theorem z289 : tzO Tryz.prog 289 = some [.d (.int .u64 0), .nil] := by kernel_rfl
@[go_sem] theorem u289 : (Tryz.prog.underlying 289).isSome = true := by kernel_rfl
@[go_sem] theorem k290 : tyk Tryz.prog 290 = .struct [(0, 139), (33, 289), (35, 50), (36, 4)] := by kernel_rfl
@[go_sem] theorem c290 : Tryz.prog.cellsOf 290 = 37 := by kernel_rfl
@[go_sem] theorem b290 : Tryz.prog.bytesOf 290 = 80 := by kernel_rfl
@[go_sem] theorem u290 : (Tryz.prog.underlying 290).isSome = true := by kernel_rfl
@[go_sem] theorem k291 : tyk Tryz.prog 291 = .struct [(0, 139), (33, 289), (35, 50), (36, 4)] := by kernel_rfl
@[go_sem] theorem c291 : Tryz.prog.cellsOf 291 = 37 := by kernel_rfl
@[go_sem] theorem b291 : Tryz.prog.bytesOf 291 = 80 := by kernel_rfl
@[go_sem] theorem u291 : (Tryz.prog.underlying 291).isSome = true := by kernel_rfl
@[go_sem] theorem k292 : tyk Tryz.prog 292 = .scal := by kernel_rfl
@[go_sem] theorem c292 : Tryz.prog.cellsOf 292 = 1 := by kernel_rfl
@[go_sem] theorem b292 : Tryz.prog.bytesOf 292 = 8 := by kernel_rfl
@[go_sem] theorem z292 : tzO Tryz.prog 292 = some [.d .nilf] := by kernel_rfl
@[go_sem] theorem u292 : (Tryz.prog.underlying 292).isSome = true := by kernel_rfl
@[go_sem] theorem k293 : tyk Tryz.prog 293 = .scal := by kernel_rfl
@[go_sem] theorem c293 : Tryz.prog.cellsOf 293 = 1 := by kernel_rfl
@[go_sem] theorem b293 : Tryz.prog.bytesOf 293 = 8 := by kernel_rfl
@[go_sem] theorem z293 : tzO Tryz.prog 293 = some [.d .nilf] := by kernel_rfl
@[go_sem] theorem u293 : (Tryz.prog.underlying 293).isSome = true := by kernel_rfl
@[go_sem] theorem k294 : tyk Tryz.prog 294 = .scal := by kernel_rfl
@[go_sem] theorem c294 : Tryz.prog.cellsOf 294 = 1 := by kernel_rfl
@[go_sem] theorem b294 : Tryz.prog.bytesOf 294 = 8 := by kernel_rfl
@[go_sem] theorem z294 : tzO Tryz.prog 294 = some [.d .nilf] := by kernel_rfl
@[go_sem] theorem u294 : (Tryz.prog.underlying 294).isSome = true := by kernel_rfl
@[go_sem] theorem k295 : tyk Tryz.prog 295 = .slice 297 := by kernel_rfl
@[go_sem] theorem c295 : Tryz.prog.cellsOf 295 = 1 := by kernel_rfl
@[go_sem] theorem b295 : Tryz.prog.bytesOf 295 = 24 := by kernel_rfl
@[go_sem] theorem z295 : tzO Tryz.prog 295 = some [.nil] := by kernel_rfl
@[go_sem] theorem u295 : (Tryz.prog.underlying 295).isSome = true := by kernel_rfl
@[go_sem] theorem k296 : tyk Tryz.prog 296 = .struct [(0, 61), (32, 3), (33, 3)] := by kernel_rfl
@[go_sem] theorem c296 : Tryz.prog.cellsOf 296 = 34 := by kernel_rfl
@[go_sem] theorem b296 : Tryz.prog.bytesOf 296 = 48 := by kernel_rfl
@[go_sem] theorem u296 : (Tryz.prog.underlying 296).isSome = true := by kernel_rfl
@[go_sem] theorem k297 : tyk Tryz.prog 297 = .struct [(0, 61), (32, 3), (33, 3)] := by kernel_rfl
@[go_sem] theorem c297 : Tryz.prog.cellsOf 297 = 34 := by kernel_rfl
@[go_sem] theorem b297 : Tryz.prog.bytesOf 297 = 48 := by kernel_rfl
@[go_sem] theorem u297 : (Tryz.prog.underlying 297).isSome = true := by kernel_rfl
@[go_sem] theorem k298 : tyk Tryz.prog 298 = .scal := by kernel_rfl
@[go_sem] theorem c298 : Tryz.prog.cellsOf 298 = 1 := by kernel_rfl
@[go_sem] theorem b298 : Tryz.prog.bytesOf 298 = 8 := by kernel_rfl
@[go_sem] theorem z298 : tzO Tryz.prog 298 = some [.d .nilf] := by kernel_rfl
@[go_sem] theorem u298 : (Tryz.prog.underlying 298).isSome = true := by kernel_rfl
@[go_sem] theorem k299 : tyk Tryz.prog 299 = .scal := by kernel_rfl
@[go_sem] theorem c299 : Tryz.prog.cellsOf 299 = 1 := by kernel_rfl
@[go_sem] theorem b299 : Tryz.prog.bytesOf 299 = 8 := by kernel_rfl
@[go_sem] theorem z299 : tzO Tryz.prog 299 = some [.d .nilf] := by kernel_rfl
@[go_sem] theorem u299 : (Tryz.prog.underlying 299).isSome = true := by kernel_rfl
@[go_sem] theorem k300 : tyk Tryz.prog 300 = .scal := by kernel_rfl
@[go_sem] theorem c300 : Tryz.prog.cellsOf 300 = 1 := by kernel_rfl
@[go_sem] theorem b300 : Tryz.prog.bytesOf 300 = 8 := by kernel_rfl
@[go_sem] theorem z300 : tzO Tryz.prog 300 = some [.d .nilf] := by kernel_rfl
@[go_sem] theorem u300 : (Tryz.prog.underlying 300).isSome = true := by kernel_rfl
@[go_sem] theorem k301 : tyk Tryz.prog 301 = .scal := by kernel_rfl
@[go_sem] theorem c301 : Tryz.prog.cellsOf 301 = 1 := by kernel_rfl
@[go_sem] theorem b301 : Tryz.prog.bytesOf 301 = 8 := by kernel_rfl
@[go_sem] theorem z301 : tzO Tryz.prog 301 = some [.d .nilf] := by kernel_rfl
@[go_sem] theorem u301 : (Tryz.prog.underlying 301).isSome = true := by kernel_rfl
@[go_sem] theorem k302 : tyk Tryz.prog 302 = .struct [(0, 5), (1, 22)] := by kernel_rfl
@[go_sem] theorem c302 : Tryz.prog.cellsOf 302 = 2 := by kernel_rfl
@[go_sem] theorem b302 : Tryz.prog.bytesOf 302 = 32 := by kernel_rfl
@[go_sem] theorem z302 : tzO Tryz.prog 302 = some [.d (.int .u8 0), .nil] := by kernel_rfl
@[go_sem] theorem u302 : (Tryz.prog.underlying 302).isSome = true := by kernel_rfl
@[go_sem] theorem k303 : tyk Tryz.prog 303 = .struct [(0, 5), (1, 22)] := by kernel_rfl
@[go_sem] theorem c303 : Tryz.prog.cellsOf 303 = 2 := by kernel_rfl
@[go_sem] theorem b303 : Tryz.prog.bytesOf 303 = 32 := by kernel_rfl
@[go_sem] theorem z303 : tzO Tryz.prog 303 = some [.d (.int .u8 0), .nil] := by kernel_rfl
@[go_sem] theorem u303 : (Tryz.prog.underlying 303).isSome = true := by kernel_rfl
@[go_sem] theorem k304 : tyk Tryz.prog 304 = .scal := by kernel_rfl
@[go_sem] theorem c304 : Tryz.prog.cellsOf 304 = 1 := by kernel_rfl
@[go_sem] theorem b304 : Tryz.prog.bytesOf 304 = 8 := by kernel_rfl
@[go_sem] theorem z304 : tzO Tryz.prog 304 = some [.d .nilf] := by kernel_rfl
@[go_sem] theorem u304 : (Tryz.prog.underlying 304).isSome = true := by kernel_rfl
@[go_sem] theorem k305 : tyk Tryz.prog 305 = .scal := by kernel_rfl
@[go_sem] theorem c305 : Tryz.prog.cellsOf 305 = 1 := by kernel_rfl
@[go_sem] theorem b305 : Tryz.prog.bytesOf 305 = 8 := by kernel_rfl
@[go_sem] theorem z305 : tzO Tryz.prog 305 = some [.d .nilf] := by kernel_rfl
@[go_sem] theorem u305 : (Tryz.prog.underlying 305).isSome = true := by kernel_rfl
@[go_sem] theorem k306 : tyk Tryz.prog 306 = .scal := by kernel_rfl
@[go_sem] theorem c306 : Tryz.prog.cellsOf 306 = 1 := by kernel_rfl
@[go_sem] theorem b306 : Tryz.prog.bytesOf 306 = 8 := by kernel_rfl
@[go_sem] theorem z306 : tzO Tryz.prog 306 = some [.d .nilf] := by kernel_rfl
@[go_sem] theorem u306 : (Tryz.prog.underlying 306).isSome = true := by kernel_rfl
@[go_sem] theorem k307 : tyk Tryz.prog 307 = .scal := by kernel_rfl
@[go_sem] theorem c307 : Tryz.prog.cellsOf 307 = 1 := by kernel_rfl
@[go_sem] theorem b307 : Tryz.prog.bytesOf 307 = 8 := by kernel_rfl
@[go_sem] theorem z307 : tzO Tryz.prog 307 = some [.d .nilf] := by kernel_rfl
@[go_sem] theorem u307 : (Tryz.prog.underlying 307).isSome = true := by kernel_rfl
@[go_sem] theorem k308 : tyk Tryz.prog 308 = .struct [(0, 3), (1, 220)] := by kernel_rfl
@[go_sem] theorem c308 : Tryz.prog.cellsOf 308 = 129 := by kernel_rfl
@[go_sem] theorem b308 : Tryz.prog.bytesOf 308 = 136 := by kernel_rfl
@[go_sem] theorem u308 : (Tryz.prog.underlying 308).isSome = true := by kernel_rfl
@[go_sem] theorem k309 : tyk Tryz.prog 309 = .struct [(0, 3), (1, 220)] := by kernel_rfl
@[go_sem] theorem c309 : Tryz.prog.cellsOf 309 = 129 := by kernel_rfl
@[go_sem] theorem b309 : Tryz.prog.bytesOf 309 = 136 := by kernel_rfl
@[go_sem] theorem u309 : (Tryz.prog.underlying 309).isSome = true := by kernel_rfl
@[go_sem] theorem k310 : tyk Tryz.prog 310 = .scal := by kernel_rfl
@[go_sem] theorem c310 : Tryz.prog.cellsOf 310 = 1 := by kernel_rfl
@[go_sem] theorem b310 : Tryz.prog.bytesOf 310 = 8 := by kernel_rfl
@[go_sem] theorem z310 : tzO Tryz.prog 310 = some [.d .nilf] := by kernel_rfl
@[go_sem] theorem u310 : (Tryz.prog.underlying 310).isSome = true := by kernel_rfl
@[go_sem] theorem k312 : tyk Tryz.prog 312 = .scal := by kernel_rfl
@[go_sem] theorem c312 : Tryz.prog.cellsOf 312 = 1 := by kernel_rfl
@[go_sem] theorem b312 : Tryz.prog.bytesOf 312 = 8 := by kernel_rfl
@[go_sem] theorem z312 : tzO Tryz.prog 312 = some [.d .nilf] := by kernel_rfl
@[go_sem] theorem u312 : (Tryz.prog.underlying 312).isSome = true := by kernel_rfl
@[go_sem] theorem k313 : tyk Tryz.prog 313 = .scal := by kernel_rfl
@[go_sem] theorem c313 : Tryz.prog.cellsOf 313 = 1 := by kernel_rfl
@[go_sem] theorem b313 : Tryz.prog.bytesOf 313 = 8 := by kernel_rfl
@[go_sem] theorem z313 : tzO Tryz.prog 313 = some [.d .nilf] := by kernel_rfl
@[go_sem] theorem u313 : (Tryz.prog.underlying 313).isSome = true := by kernel_rfl
@[go_sem] theorem k314 : tyk Tryz.prog 314 = .scal := by kernel_rfl
@[go_sem] theorem c314 : Tryz.prog.cellsOf 314 = 1 := by kernel_rfl
@[go_sem] theorem b314 : Tryz.prog.bytesOf 314 = 8 := by kernel_rfl
@[go_sem] theorem z314 : tzO Tryz.prog 314 = some [.d .nilf] := by kernel_rfl
@[go_sem] theorem u314 : (Tryz.prog.underlying 314).isSome = true := by kernel_rfl
@[go_sem] theorem k315 : tyk Tryz.prog 315 = .scal := by kernel_rfl
@[go_sem] theorem c315 : Tryz.prog.cellsOf 315 = 1 := by kernel_rfl
@[go_sem] theorem b315 : Tryz.prog.bytesOf 315 = 8 := by kernel_rfl
@[go_sem] theorem z315 : tzO Tryz.prog 315 = some [.d .nilf] := by kernel_rfl
@[go_sem] theorem u315 : (Tryz.prog.underlying 315).isSome = true := by kernel_rfl
@[go_sem] theorem k316 : tyk Tryz.prog 316 = .slice 50 := by kernel_rfl
@[go_sem] theorem c316 : Tryz.prog.cellsOf 316 = 1 := by kernel_rfl
@[go_sem] theorem b316 : Tryz.prog.bytesOf 316 = 24 := by kernel_rfl
@[go_sem] theorem z316 : tzO Tryz.prog 316 = some [.nil] := by kernel_rfl
@[go_sem] theorem u316 : (Tryz.prog.underlying 316).isSome = true := by kernel_rfl
@[go_sem] theorem k317 : tyk Tryz.prog 317 = .scal := by kernel_rfl
@[go_sem] theorem c317 : Tryz.prog.cellsOf 317 = 1 := by kernel_rfl
@[go_sem] theorem b317 : Tryz.prog.bytesOf 317 = 8 := by kernel_rfl
@[go_sem] theorem z317 : tzO Tryz.prog 317 = some [.d .nilf] := by kernel_rfl
@[go_sem] theorem u317 : (Tryz.prog.underlying 317).isSome = true := by kernel_rfl
@[go_sem] theorem k318 : tyk Tryz.prog 318 = .scal := by kernel_rfl
@[go_sem] theorem c318 : Tryz.prog.cellsOf 318 = 1 := by kernel_rfl
@[go_sem] theorem b318 : Tryz.prog.bytesOf 318 = 8 := by kernel_rfl
@[go_sem] theorem z318 : tzO Tryz.prog 318 = some [.d .nilf] := by kernel_rfl
@[go_sem] theorem u318 : (Tryz.prog.underlying 318).isSome = true := by kernel_rfl
@[go_sem] theorem k319 : tyk Tryz.prog 319 = .scal := by kernel_rfl
@[go_sem] theorem c319 : Tryz.prog.cellsOf 319 = 1 := by kernel_rfl
@[go_sem] theorem b319 : Tryz.prog.bytesOf 319 = 8 := by kernel_rfl
@[go_sem] theorem z319 : tzO Tryz.prog 319 = some [.d .nilf] := by kernel_rfl
@[go_sem] theorem u319 : (Tryz.prog.underlying 319).isSome = true := by kernel_rfl
@[go_sem] theorem k320 : tyk Tryz.prog 320 = .scal := by kernel_rfl
@[go_sem] theorem c320 : Tryz.prog.cellsOf 320 = 1 := by kernel_rfl
@[go_sem] theorem b320 : Tryz.prog.bytesOf 320 = 8 := by kernel_rfl
@[go_sem] theorem z320 : tzO Tryz.prog 320 = some [.d .nilf] := by kernel_rfl
@[go_sem] theorem u320 : (Tryz.prog.underlying 320).isSome = true := by kernel_rfl
@[go_sem] theorem k321 : tyk Tryz.prog 321 = .scal := by kernel_rfl
@[go_sem] theorem c321 : Tryz.prog.cellsOf 321 = 1 := by kernel_rfl
@[go_sem] theorem b321 : Tryz.prog.bytesOf 321 = 8 := by kernel_rfl
@[go_sem] theorem z321 : tzO Tryz.prog 321 = some [.d .nilf] := by kernel_rfl
@[go_sem] theorem u321 : (Tryz.prog.underlying 321).isSome = true := by kernel_rfl
@[go_sem] theorem k322 : tyk Tryz.prog 322 = .scal := by kernel_rfl
@[go_sem] theorem c322 : Tryz.prog.cellsOf 322 = 1 := by kernel_rfl
@[go_sem] theorem b322 : Tryz.prog.bytesOf 322 = 8 := by kernel_rfl
@[go_sem] theorem z322 : tzO Tryz.prog 322 = some [.d .nilf] := by kernel_rfl
@[go_sem] theorem u322 : (Tryz.prog.underlying 322).isSome = true := by kernel_rfl
@[go_sem] theorem k323 : tyk Tryz.prog 323 = .scal := by kernel_rfl
@[go_sem] theorem c323 : Tryz.prog.cellsOf 323 = 1 := by kernel_rfl
@[go_sem] theorem b323 : Tryz.prog.bytesOf 323 = 8 := by kernel_rfl
@[go_sem] theorem z323 : tzO Tryz.prog 323 = some [.d .nilf] := by kernel_rfl
@[go_sem] theorem u323 : (Tryz.prog.underlying 323).isSome = true := by kernel_rfl
@[go_sem] theorem k324 : tyk Tryz.prog 324 = .scal := by kernel_rfl
@[go_sem] theorem c324 : Tryz.prog.cellsOf 324 = 1 := by kernel_rfl
@[go_sem] theorem b324 : Tryz.prog.bytesOf 324 = 8 := by kernel_rfl
@[go_sem] theorem z324 : tzO Tryz.prog 324 = some [.d .nilf] := by kernel_rfl
@[go_sem] theorem u324 : (Tryz.prog.underlying 324).isSome = true := by kernel_rfl
@[go_sem] theorem k325 : tyk Tryz.prog 325 = .scal := by kernel_rfl
@[go_sem] theorem c325 : Tryz.prog.cellsOf 325 = 1 := by kernel_rfl
@[go_sem] theorem b325 : Tryz.prog.bytesOf 325 = 8 := by kernel_rfl
@[go_sem] theorem z325 : tzO Tryz.prog 325 = some [.d .nilf] := by kernel_rfl
@[go_sem] theorem u325 : (Tryz.prog.underlying 325).isSome = true := by kernel_rfl
@[go_sem] theorem k326 : tyk Tryz.prog 326 = .scal := by kernel_rfl
@[go_sem] theorem c326 : Tryz.prog.cellsOf 326 = 1 := by kernel_rfl
@[go_sem] theorem b326 : Tryz.prog.bytesOf 326 = 8 := by kernel_rfl
@[go_sem] theorem z326 : tzO Tryz.prog 326 = some [.d .nilf] := by kernel_rfl
@[go_sem] theorem u326 : (Tryz.prog.underlying 326).isSome = true := by kernel_rfl
@[go_sem] theorem k328 : tyk Tryz.prog 328 = .scal := by kernel_rfl
@[go_sem] theorem c328 : Tryz.prog.cellsOf 328 = 1 := by kernel_rfl
@[go_sem] theorem b328 : Tryz.prog.bytesOf 328 = 8 := by kernel_rfl
@[go_sem] theorem z328 : tzO Tryz.prog 328 = some [.d .nilf] := by kernel_rfl
@[go_sem] theorem u328 : (Tryz.prog.underlying 328).isSome = true := by kernel_rfl
@[go_sem] theorem k330 : tyk Tryz.prog 330 = .scal := by kernel_rfl
@[go_sem] theorem c330 : Tryz.prog.cellsOf 330 = 1 := by kernel_rfl
@[go_sem] theorem b330 : Tryz.prog.bytesOf 330 = 8 := by kernel_rfl
@[go_sem] theorem z330 : tzO Tryz.prog 330 = some [.d .nilf] := by kernel_rfl
@[go_sem] theorem u330 : (Tryz.prog.underlying 330).isSome = true := by kernel_rfl
@[go_sem] theorem k331 : tyk Tryz.prog 331 = .scal := by kernel_rfl
@[go_sem] theorem c331 : Tryz.prog.cellsOf 331 = 1 := by kernel_rfl
@[go_sem] theorem b331 : Tryz.prog.bytesOf 331 = 8 := by kernel_rfl
@[go_sem] theorem z331 : tzO Tryz.prog 331 = some [.d .nilf] := by kernel_rfl
@[go_sem] theorem u331 : (Tryz.prog.underlying 331).isSome = true := by kernel_rfl
@[go_sem] theorem k333 : tyk Tryz.prog 333 = .scal := by kernel_rfl
@[go_sem] theorem c333 : Tryz.prog.cellsOf 333 = 1 := by kernel_rfl
@[go_sem] theorem b333 : Tryz.prog.bytesOf 333 = 8 := by kernel_rfl
@[go_sem] theorem z333 : tzO Tryz.prog 333 = some [.d .nilf] := by kernel_rfl
@[go_sem] theorem u333 : (Tryz.prog.underlying 333).isSome = true := by kernel_rfl
@[go_sem] theorem k334 : tyk Tryz.prog 334 = .scal := by kernel_rfl
@[go_sem] theorem c334 : Tryz.prog.cellsOf 334 = 1 := by kernel_rfl
@[go_sem] theorem b334 : Tryz.prog.bytesOf 334 = 8 := by kernel_rfl
@[go_sem] theorem z334 : tzO Tryz.prog 334 = some [.d .nilf] := by kernel_rfl
@[go_sem] theorem u334 : (Tryz.prog.underlying 334).isSome = true := by kernel_rfl
@[go_sem] theorem k335 : tyk Tryz.prog 335 = .slice 439 := by kernel_rfl
@[go_sem] theorem c335 : Tryz.prog.cellsOf 335 = 1 := by kernel_rfl
@[go_sem] theorem b335 : Tryz.prog.bytesOf 335 = 24 := by kernel_rfl
@[go_sem] theorem z335 : tzO Tryz.prog 335 = some [.nil] := by kernel_rfl
@[go_sem] theorem u335 : (Tryz.prog.underlying 335).isSome = true := by kernel_rfl
@[go_sem] theorem k336 : tyk Tryz.prog 336 = .struct [(0, 139), (33, 50), (34, 158)] := by kernel_rfl
@[go_sem] theorem c336 : Tryz.prog.cellsOf 336 = 35 := by kernel_rfl
@[go_sem] theorem b336 : Tryz.prog.bytesOf 336 = 64 := by kernel_rfl
@[go_sem] theorem u336 : (Tryz.prog.underlying 336).isSome = true := by kernel_rfl
@[go_sem] theorem k337 : tyk Tryz.prog 337 = .struct [(0, 139), (33, 50), (34, 158)] := by kernel_rfl
@[go_sem] theorem c337 : Tryz.prog.cellsOf 337 = 35 := by kernel_rfl
@[go_sem] theorem b337 : Tryz.prog.bytesOf 337 = 64 := by kernel_rfl
@[go_sem] theorem u337 : (Tryz.prog.underlying 337).isSome = true := by kernel_rfl
@[go_sem] theorem k338 : tyk Tryz.prog 338 = .scal := by kernel_rfl
@[go_sem] theorem c338 : Tryz.prog.cellsOf 338 = 1 := by kernel_rfl
@[go_sem] theorem b338 : Tryz.prog.bytesOf 338 = 8 := by kernel_rfl
@[go_sem] theorem z338 : tzO Tryz.prog 338 = some [.d .nilf] := by kernel_rfl
@[go_sem] theorem u338 : (Tryz.prog.underlying 338).isSome = true := by kernel_rfl
@[go_sem] theorem k340 : tyk Tryz.prog 340 = .scal := by kernel_rfl
@[go_sem] theorem c340 : Tryz.prog.cellsOf 340 = 1 := by kernel_rfl
@[go_sem] theorem b340 : Tryz.prog.bytesOf 340 = 8 := by kernel_rfl
@[go_sem] theorem z340 : tzO Tryz.prog 340 = some [.d .nilf] := by kernel_rfl
@[go_sem] theorem u340 : (Tryz.prog.underlying 340).isSome = true := by kernel_rfl
@[go_sem] theorem k341 : tyk Tryz.prog 341 = .scal := by kernel_rfl
@[go_sem] theorem c341 : Tryz.prog.cellsOf 341 = 1 := by kernel_rfl
@[go_sem] theorem b341 : Tryz.prog.bytesOf 341 = 8 := by kernel_rfl
@[go_sem] theorem z341 : tzO Tryz.prog 341 = some [.d .nilf] := by kernel_rfl
@[go_sem] theorem u341 : (Tryz.prog.underlying 341).isSome = true := by kernel_rfl
@[go_sem] theorem k342 : tyk Tryz.prog 342 = .scal := by kernel_rfl
@[go_sem] theorem c342 : Tryz.prog.cellsOf 342 = 1 := by kernel_rfl
@[go_sem] theorem b342 : Tryz.prog.bytesOf 342 = 8 := by kernel_rfl
@[go_sem] theorem z342 : tzO Tryz.prog 342 = some [.d .nilf] := by kernel_rfl
@[go_sem] theorem u342 : (Tryz.prog.underlying 342).isSome = true := by kernel_rfl
@[go_sem] theorem k343 : tyk Tryz.prog 343 = .scal := by kernel_rfl
@[go_sem] theorem c343 : Tryz.prog.cellsOf 343 = 1 := by kernel_rfl
@[go_sem] theorem b343 : Tryz.prog.bytesOf 343 = 8 := by kernel_rfl
@[go_sem] theorem z343 : tzO Tryz.prog 343 = some [.d .nilf] := by kernel_rfl
@[go_sem] theorem u343 : (Tryz.prog.underlying 343).isSome = true := by kernel_rfl
@[go_sem] theorem k344 : tyk Tryz.prog 344 = .scal := by kernel_rfl
@[go_sem] theorem c344 : Tryz.prog.cellsOf 344 = 1 := by kernel_rfl
@[go_sem] theorem b344 : Tryz.prog.bytesOf 344 = 8 := by kernel_rfl
@[go_sem] theorem z344 : tzO Tryz.prog 344 = some [.d .nilf] := by kernel_rfl
@[go_sem] theorem u344 : (Tryz.prog.underlying 344).isSome = true := by kernel_rfl
@[go_sem] theorem k345 : tyk Tryz.prog 345 = .scal := by kernel_rfl
@[go_sem] theorem c345 : Tryz.prog.cellsOf 345 = 1 := by kernel_rfl
@[go_sem] theorem b345 : Tryz.prog.bytesOf 345 = 8 := by kernel_rfl
@[go_sem] theorem z345 : tzO Tryz.prog 345 = some [.d .nilf] := by kernel_rfl
@[go_sem] theorem u345 : (Tryz.prog.underlying 345).isSome = true := by kernel_rfl
@[go_sem] theorem k346 : tyk Tryz.prog 346 = .scal := by kernel_rfl
@[go_sem] theorem c346 : Tryz.prog.cellsOf 346 = 1 := by kernel_rfl
@[go_sem] theorem b346 : Tryz.prog.bytesOf 346 = 8 := by kernel_rfl
@[go_sem] theorem z346 : tzO Tryz.prog 346 = some [.d .nilf] := by kernel_rfl
@[go_sem] theorem u346 : (Tryz.prog.underlying 346).isSome = true := by kernel_rfl
@[go_sem] theorem k347 : tyk Tryz.prog 347 = .scal := by kernel_rfl
@[go_sem] theorem c347 : Tryz.prog.cellsOf 347 = 1 := by kernel_rfl
@[go_sem] theorem b347 : Tryz.prog.bytesOf 347 = 8 := by kernel_rfl
@[go_sem] theorem z347 : tzO Tryz.prog 347 = some [.d .nilf] := by kernel_rfl
@[go_sem] theorem u347 : (Tryz.prog.underlying 347).isSome = true := by kernel_rfl
@[go_sem] theorem k348 : tyk Tryz.prog 348 = .scal := by kernel_rfl
@[go_sem] theorem c348 : Tryz.prog.cellsOf 348 = 1 := by kernel_rfl
@[go_sem] theorem b348 : Tryz.prog.bytesOf 348 = 8 := by kernel_rfl
@[go_sem] theorem z348 : tzO Tryz.prog 348 = some [.d .nilf] := by kernel_rfl
@[go_sem] theorem u348 : (Tryz.prog.underlying 348).isSome = true := by kernel_rfl
@[go_sem] theorem k349 : tyk Tryz.prog 349 = .scal := by kernel_rfl
@[go_sem] theorem c349 : Tryz.prog.cellsOf 349 = 1 := by kernel_rfl
@[go_sem] theorem b349 : Tryz.prog.bytesOf 349 = 8 := by kernel_rfl
@[go_sem] theorem z349 : tzO Tryz.prog 349 = some [.d .nilf] := by kernel_rfl
@[go_sem] theorem u349 : (Tryz.prog.underlying 349).isSome = true := by kernel_rfl
@[go_sem] theorem k350 : tyk Tryz.prog 350 = .scal := by kernel_rfl
@[go_sem] theorem c350 : Tryz.prog.cellsOf 350 = 1 := by kernel_rfl
@[go_sem] theorem b350 : Tryz.prog.bytesOf 350 = 8 := by kernel_rfl
@[go_sem] theorem z350 : tzO Tryz.prog 350 = some [.d .nilf] := by kernel_rfl
@[go_sem] theorem u350 : (Tryz.prog.underlying 350).isSome = true := by kernel_rfl
@[go_sem] theorem k351 : tyk Tryz.prog 351 = .scal := by kernel_rfl
@[go_sem] theorem c351 : Tryz.prog.cellsOf 351 = 1 := by kernel_rfl
@[go_sem] theorem b351 : Tryz.prog.bytesOf 351 = 8 := by kernel_rfl
@[go_sem] theorem z351 : tzO Tryz.prog 351 = some [.d .nilf] := by kernel_rfl
@[go_sem] theorem u351 : (Tryz.prog.underlying 351).isSome = true := by kernel_rfl
@[go_sem] theorem k352 : tyk Tryz.prog 352 = .scal := by kernel_rfl
@[go_sem] theorem c352 : Tryz.prog.cellsOf 352 = 1 := by kernel_rfl
@[go_sem] theorem b352 : Tryz.prog.bytesOf 352 = 8 := by kernel_rfl
@[go_sem] theorem z352 : tzO Tryz.prog 352 = some [.d .nilf] := by kernel_rfl
@[go_sem] theorem u352 : (Tryz.prog.underlying 352).isSome = true := by kernel_rfl
@[go_sem] theorem k353 : tyk Tryz.prog 353 = .scal := by kernel_rfl
@[go_sem] theorem c353 : Tryz.prog.cellsOf 353 = 1 := by kernel_rfl
@[go_sem] theorem b353 : Tryz.prog.bytesOf 353 = 8 := by kernel_rfl
@[go_sem] theorem z353 : tzO Tryz.prog 353 = some [.d .nilf] := by kernel_rfl
@[go_sem] theorem u353 : (Tryz.prog.underlying 353).isSome = true := by kernel_rfl
@[go_sem] theorem k355 : tyk Tryz.prog 355 = .scal := by kernel_rfl
@[go_sem] theorem c355 : Tryz.prog.cellsOf 355 = 1 := by kernel_rfl
@[go_sem] theorem b355 : Tryz.prog.bytesOf 355 = 8 := by kernel_rfl
@[go_sem] theorem z355 : tzO Tryz.prog 355 = some [.d .nilf] := by kernel_rfl
@[go_sem] theorem u355 : (Tryz.prog.underlying 355).isSome = true := by kernel_rfl
@[go_sem] theorem k356 : tyk Tryz.prog 356 = .scal := by kernel_rfl
@[go_sem] theorem c356 : Tryz.prog.cellsOf 356 = 1 := by kernel_rfl
@[go_sem] theorem b356 : Tryz.prog.bytesOf 356 = 8 := by kernel_rfl
@[go_sem] theorem z356 : tzO Tryz.prog 356 = some [.d .nilf] := by kernel_rfl
@[go_sem] theorem u356 : (Tryz.prog.underlying 356).isSome = true := by kernel_rfl
@[go_sem] theorem k357 : tyk Tryz.prog 357 = .scal := by kernel_rfl
@[go_sem] theorem c357 : Tryz.prog.cellsOf 357 = 1 := by kernel_rfl
@[go_sem] theorem b357 : Tryz.prog.bytesOf 357 = 8 := by kernel_rfl
@[go_sem] theorem z357 : tzO Tryz.prog 357 = some [.d .nilf] := by kernel_rfl
@[go_sem] theorem u357 : (Tryz.prog.underlying 357).isSome = true := by kernel_rfl
@[go_sem] theorem k358 : tyk Tryz.prog 358 = .scal := by kernel_rfl
@[go_sem] theorem c358 : Tryz.prog.cellsOf 358 = 1 := by kernel_rfl
@[go_sem] theorem b358 : Tryz.prog.bytesOf 358 = 8 := by kernel_rfl
@[go_sem] theorem z358 : tzO Tryz.prog 358 = some [.d .nilf] := by kernel_rfl
@[go_sem] theorem u358 : (Tryz.prog.underlying 358).isSome = true := by kernel_rfl
@[go_sem] theorem k359 : tyk Tryz.prog 359 = .scal := by kernel_rfl
@[go_sem] theorem c359 : Tryz.prog.cellsOf 359 = 1 := by kernel_rfl
@[go_sem] theorem b359 : Tryz.prog.bytesOf 359 = 8 := by kernel_rfl
@[go_sem] theorem z359 : tzO Tryz.prog 359 = some [.d .nilf] := by kernel_rfl
@[go_sem] theorem u359 : (Tryz.prog.underlying 359).isSome = true := by kernel_rfl
@[go_sem] theorem k360 : tyk Tryz.prog 360 = .scal := by kernel_rfl
@[go_sem] theorem c360 : Tryz.prog.cellsOf 360 = 1 := by kernel_rfl
@[go_sem] theorem b360 : Tryz.prog.bytesOf 360 = 8 := by kernel_rfl
@[go_sem] theorem z360 : tzO Tryz.prog 360 = some [.d .nilf] := by kernel_rfl
@[go_sem] theorem u360 : (Tryz.prog.underlying 360).isSome = true := by kernel_rfl
@[go_sem] theorem k361 : tyk Tryz.prog 361 = .scal := by kernel_rfl
@[go_sem] theorem c361 : Tryz.prog.cellsOf 361 = 1 := by kernel_rfl
@[go_sem] theorem b361 : Tryz.prog.bytesOf 361 = 8 := by kernel_rfl
@[go_sem] theorem z361 : tzO Tryz.prog 361 = some [.d .nilf] := by kernel_rfl
@[go_sem] theorem u361 : (Tryz.prog.underlying 361).isSome = true := by kernel_rfl
@[go_sem] theorem k362 : tyk Tryz.prog 362 = .scal := by kernel_rfl
@[go_sem] theorem c362 : Tryz.prog.cellsOf 362 = 1 := by kernel_rfl
@[go_sem] theorem b362 : Tryz.prog.bytesOf 362 = 8 := by kernel_rfl
@[go_sem] theorem z362 : tzO Tryz.prog 362 = some [.d .nilp] := by kernel_rfl
@[go_sem] theorem u362 : (Tryz.prog.underlying 362).isSome = true := by kernel_rfl
@[go_sem] theorem k364 : tyk Tryz.prog 364 = .scal := by kernel_rfl
@[go_sem] theorem c364 : Tryz.prog.cellsOf 364 = 1 := by kernel_rfl
@[go_sem] theorem b364 : Tryz.prog.bytesOf 364 = 8 := by kernel_rfl
@[go_sem] theorem z364 : tzO Tryz.prog 364 = some [.d .nilf] := by kernel_rfl
@[go_sem] theorem u364 : (Tryz.prog.underlying 364).isSome = true := by kernel_rfl
@[go_sem] theorem k366 : tyk Tryz.prog 366 = .scal := by kernel_rfl
@[go_sem] theorem c366 : Tryz.prog.cellsOf 366 = 1 := by kernel_rfl
@[go_sem] theorem b366 : Tryz.prog.bytesOf 366 = 8 := by kernel_rfl
@[go_sem] theorem z366 : tzO Tryz.prog 366 = some [.d .nilf] := by kernel_rfl
@[go_sem] theorem u366 : (Tryz.prog.underlying 366).isSome = true := by kernel_rfl
@[go_sem] theorem k367 : tyk Tryz.prog 367 = .scal := by kernel_rfl
@[go_sem] theorem c367 : Tryz.prog.cellsOf 367 = 1 := by kernel_rfl
@[go_sem] theorem b367 : Tryz.prog.bytesOf 367 = 8 := by kernel_rfl
@[go_sem] theorem z367 : tzO Tryz.prog 367 = some [.d .nilf] := by kernel_rfl
@[go_sem] theorem u367 : (Tryz.prog.underlying 367).isSome = true := by kernel_rfl
@[go_sem] theorem k369 : tyk Tryz.prog 369 = .scal := by kernel_rfl
@[go_sem] theorem c369 : Tryz.prog.cellsOf 369 = 1 := by kernel_rfl
@[go_sem] theorem b369 : Tryz.prog.bytesOf 369 = 8 := by kernel_rfl
@[go_sem] theorem z369 : tzO Tryz.prog 369 = some [.d .nilf] := by kernel_rfl
@[go_sem] theorem u369 : (Tryz.prog.underlying 369).isSome = true := by kernel_rfl
@[go_sem] theorem k370 : tyk Tryz.prog 370 = .scal := by kernel_rfl
@[go_sem] theorem c370 : Tryz.prog.cellsOf 370 = 1 := by kernel_rfl
@[go_sem] theorem b370 : Tryz.prog.bytesOf 370 = 8 := by kernel_rfl
@[go_sem] theorem z370 : tzO Tryz.prog 370 = some [.d .nilf] := by kernel_rfl
@[go_sem] theorem u370 : (Tryz.prog.underlying 370).isSome = true := by kernel_rfl
@[go_sem] theorem k371 : tyk Tryz.prog 371 = .scal := by kernel_rfl
@[go_sem] theorem c371 : Tryz.prog.cellsOf 371 = 1 := by kernel_rfl
@[go_sem] theorem b371 : Tryz.prog.bytesOf 371 = 8 := by kernel_rfl
@[go_sem] theorem z371 : tzO Tryz.prog 371 = some [.d .nilf] := by kernel_rfl
@[go_sem] theorem u371 : (Tryz.prog.underlying 371).isSome = true := by kernel_rfl
@[go_sem] theorem k372 : tyk Tryz.prog 372 = .scal := by kernel_rfl
@[go_sem] theorem c372 : Tryz.prog.cellsOf 372 = 1 := by kernel_rfl
@[go_sem] theorem b372 : Tryz.prog.bytesOf 372 = 8 := by kernel_rfl
@[go_sem] theorem z372 : tzO Tryz.prog 372 = some [.d .nilf] := by kernel_rfl
@[go_sem] theorem u372 : (Tryz.prog.underlying 372).isSome = true := by kernel_rfl
@[go_sem] theorem k373 : tyk Tryz.prog 373 = .scal := by kernel_rfl
@[go_sem] theorem c373 : Tryz.prog.cellsOf 373 = 1 := by kernel_rfl
@[go_sem] theorem b373 : Tryz.prog.bytesOf 373 = 8 := by kernel_rfl
@[go_sem] theorem z373 : tzO Tryz.prog 373 = some [.d .nilf] := by kernel_rfl
@[go_sem] theorem u373 : (Tryz.prog.underlying 373).isSome = true := by kernel_rfl
@[go_sem] theorem k374 : tyk Tryz.prog 374 = .scal := by kernel_rfl
@[go_sem] theorem c374 : Tryz.prog.cellsOf 374 = 1 := by kernel_rfl
@[go_sem] theorem b374 : Tryz.prog.bytesOf 374 = 8 := by kernel_rfl
@[go_sem] theorem z374 : tzO Tryz.prog 374 = some [.d .nilf] := by kernel_rfl
@[go_sem] theorem u374 : (Tryz.prog.underlying 374).isSome = true := by kernel_rfl
@[go_sem] theorem k375 : tyk Tryz.prog 375 = .scal := by kernel_rfl
@[go_sem] theorem c375 : Tryz.prog.cellsOf 375 = 1 := by kernel_rfl
@[go_sem] theorem b375 : Tryz.prog.bytesOf 375 = 8 := by kernel_rfl
@[go_sem] theorem z375 : tzO Tryz.prog 375 = some [.d .nilf] := by kernel_rfl
@[go_sem] theorem u375 : (Tryz.prog.underlying 375).isSome = true := by kernel_rfl
@[go_sem] theorem k376 : tyk Tryz.prog 376 = .scal := by kernel_rfl
@[go_sem] theorem c376 : Tryz.prog.cellsOf 376 = 1 := by kernel_rfl
@[go_sem] theorem b376 : Tryz.prog.bytesOf 376 = 8 := by kernel_rfl
@[go_sem] theorem z376 : tzO Tryz.prog 376 = some [.d .nilf] := by kernel_rfl
@[go_sem] theorem u376 : (Tryz.prog.underlying 376).isSome = true := by kernel_rfl
@[go_sem] theorem k377 : tyk Tryz.prog 377 = .scal := by kernel_rfl
@[go_sem] theorem c377 : Tryz.prog.cellsOf 377 = 1 := by kernel_rfl
@[go_sem] theorem b377 : Tryz.prog.bytesOf 377 = 8 := by kernel_rfl
@[go_sem] theorem z377 : tzO Tryz.prog 377 = some [.d .nilf] := by kernel_rfl
@[go_sem] theorem u377 : (Tryz.prog.underlying 377).isSome = true := by kernel_rfl
@[go_sem] theorem k378 : tyk Tryz.prog 378 = .scal := by kernel_rfl
@[go_sem] theorem c378 : Tryz.prog.cellsOf 378 = 1 := by kernel_rfl
@[go_sem] theorem b378 : Tryz.prog.bytesOf 378 = 8 := by kernel_rfl
@[go_sem] theorem z378 : tzO Tryz.prog 378 = some [.d .nilf] := by kernel_rfl
@[go_sem] theorem u378 : (Tryz.prog.underlying 378).isSome = true := by kernel_rfl
@[go_sem] theorem k379 : tyk Tryz.prog 379 = .scal := by kernel_rfl
@[go_sem] theorem c379 : Tryz.prog.cellsOf 379 = 1 := by kernel_rfl
@[go_sem] theorem b379 : Tryz.prog.bytesOf 379 = 8 := by kernel_rfl
@[go_sem] theorem z379 : tzO Tryz.prog 379 = some [.d .nilp] := by kernel_rfl
@[go_sem] theorem u379 : (Tryz.prog.underlying 379).isSome = true := by kernel_rfl
@[go_sem] theorem k380 : tyk Tryz.prog 380 = .scal := by kernel_rfl
@[go_sem] theorem c380 : Tryz.prog.cellsOf 380 = 1 := by kernel_rfl
@[go_sem] theorem b380 : Tryz.prog.bytesOf 380 = 8 := by kernel_rfl
@[go_sem] theorem z380 : tzO Tryz.prog 380 = some [.d .nilp] := by kernel_rfl
@[go_sem] theorem u380 : (Tryz.prog.underlying 380).isSome = true := by kernel_rfl
@[go_sem] theorem k381 : tyk Tryz.prog 381 = .scal := by kernel_rfl
@[go_sem] theorem c381 : Tryz.prog.cellsOf 381 = 1 := by kernel_rfl
@[go_sem] theorem b381 : Tryz.prog.bytesOf 381 = 8 := by kernel_rfl
@[go_sem] theorem z381 : tzO Tryz.prog 381 = some [.d .nilf] := by kernel_rfl
@[go_sem] theorem u381 : (Tryz.prog.underlying 381).isSome = true := by kernel_rfl
@[go_sem] theorem k382 : tyk Tryz.prog 382 = .scal := by kernel_rfl
@[go_sem] theorem c382 : Tryz.prog.cellsOf 382 = 1 := by kernel_rfl
@[go_sem] theorem b382 : Tryz.prog.bytesOf 382 = 8 := by kernel_rfl
@[go_sem] theorem z382 : tzO Tryz.prog 382 = some [.d .nilf] := by kernel_rfl
@[go_sem] theorem u382 : (Tryz.prog.underlying 382).isSome = true := by kernel_rfl
@[go_sem] theorem k383 : tyk Tryz.prog 383 = .scal := by kernel_rfl
@[go_sem] theorem c383 : Tryz.prog.cellsOf 383 = 1 := by kernel_rfl
@[go_sem] theorem b383 : Tryz.prog.bytesOf 383 = 8 := by kernel_rfl
@[go_sem] theorem z383 : tzO Tryz.prog 383 = some [.d (.int .u64 0)] := by kernel_rfl
@[go_sem] theorem i383 : ikind Tryz.prog 383 = some .u64 := by kernel_rfl
@[go_sem] theorem u383 : (Tryz.prog.underlying 383).isSome = true := by kernel_rfl
@[go_sem] theorem k384 : tyk Tryz.prog 384 = .scal := by kernel_rfl
@[go_sem] theorem c384 : Tryz.prog.cellsOf 384 = 1 := by kernel_rfl
@[go_sem] theorem b384 : Tryz.prog.bytesOf 384 = 8 := by kernel_rfl
@[go_sem] theorem z384 : tzO Tryz.prog 384 = some [.d .nilf] := by kernel_rfl
@[go_sem] theorem u384 : (Tryz.prog.underlying 384).isSome = true := by kernel_rfl
@[go_sem] theorem k385 : tyk Tryz.prog 385 = .scal := by kernel_rfl
@[go_sem] theorem c385 : Tryz.prog.cellsOf 385 = 1 := by kernel_rfl
@[go_sem] theorem b385 : Tryz.prog.bytesOf 385 = 8 := by kernel_rfl
@[go_sem] theorem z385 : tzO Tryz.prog 385 = some [.d .nilf] := by kernel_rfl
@[go_sem] theorem u385 : (Tryz.prog.underlying 385).isSome = true := by kernel_rfl
@[go_sem] theorem k386 : tyk Tryz.prog 386 = .scal := by kernel_rfl
@[go_sem] theorem c386 : Tryz.prog.cellsOf 386 = 1 := by kernel_rfl
@[go_sem] theorem b386 : Tryz.prog.bytesOf 386 = 2 := by kernel_rfl
@[go_sem] theorem z386 : tzO Tryz.prog 386 = some [.d (.int .u16 0)] := by kernel_rfl
@[go_sem] theorem i386 : ikind Tryz.prog 386 = some .u16 := by kernel_rfl
@[go_sem] theorem u386 : (Tryz.prog.underlying 386).isSome = true := by kernel_rfl
@[go_sem] theorem k387 : tyk Tryz.prog 387 = .scal := by kernel_rfl
@[go_sem] theorem c387 : Tryz.prog.cellsOf 387 = 1 := by kernel_rfl
@[go_sem] theorem b387 : Tryz.prog.bytesOf 387 = 8 := by kernel_rfl
@[go_sem] theorem z387 : tzO Tryz.prog 387 = some [.d .nilf] := by kernel_rfl
@[go_sem] theorem u387 : (Tryz.prog.underlying 387).isSome = true := by kernel_rfl
@[go_sem] theorem k388 : tyk Tryz.prog 388 = .scal := by kernel_rfl
@[go_sem] theorem c388 : Tryz.prog.cellsOf 388 = 1 := by kernel_rfl
@[go_sem] theorem b388 : Tryz.prog.bytesOf 388 = 8 := by kernel_rfl
@[go_sem] theorem z388 : tzO Tryz.prog 388 = some [.d .nilf] := by kernel_rfl
@[go_sem] theorem u388 : (Tryz.prog.underlying 388).isSome = true := by kernel_rfl
@[go_sem] theorem k389 : tyk Tryz.prog 389 = .scal := by kernel_rfl
@[go_sem] theorem c389 : Tryz.prog.cellsOf 389 = 1 := by kernel_rfl
@[go_sem] theorem b389 : Tryz.prog.bytesOf 389 = 8 := by kernel_rfl
@[go_sem] theorem z389 : tzO Tryz.prog 389 = some [.d .nilf] := by kernel_rfl
@[go_sem] theorem u389 : (Tryz.prog.underlying 389).isSome = true := by kernel_rfl
@[go_sem] theorem k390 : tyk Tryz.prog 390 = .scal := by kernel_rfl
@[go_sem] theorem c390 : Tryz.prog.cellsOf 390 = 1 := by kernel_rfl
@[go_sem] theorem b390 : Tryz.prog.bytesOf 390 = 8 := by kernel_rfl
@[go_sem] theorem z390 : tzO Tryz.prog 390 = some [.d .nilf] := by kernel_rfl
@[go_sem] theorem u390 : (Tryz.prog.underlying 390).isSome = true := by kernel_rfl
@[go_sem] theorem k391 : tyk Tryz.prog 391 = .scal := by kernel_rfl
@[go_sem] theorem c391 : Tryz.prog.cellsOf 391 = 1 := by kernel_rfl
@[go_sem] theorem b391 : Tryz.prog.bytesOf 391 = 8 := by kernel_rfl
@[go_sem] theorem z391 : tzO Tryz.prog 391 = some [.d .nilf] := by kernel_rfl
@[go_sem] theorem u391 : (Tryz.prog.underlying 391).isSome = true := by kernel_rfl
@[go_sem] theorem k392 : tyk Tryz.prog 392 = .scal := by kernel_rfl
@[go_sem] theorem c392 : Tryz.prog.cellsOf 392 = 1 := by kernel_rfl
@[go_sem] theorem b392 : Tryz.prog.bytesOf 392 = 8 := by kernel_rfl
@[go_sem] theorem z392 : tzO Tryz.prog 392 = some [.d .nilp] := by kernel_rfl
@[go_sem] theorem u392 : (Tryz.prog.underlying 392).isSome = true := by kernel_rfl
@[go_sem] theorem k393 : tyk Tryz.prog 393 = .scal := by kernel_rfl
@[go_sem] theorem c393 : Tryz.prog.cellsOf 393 = 1 := by kernel_rfl
@[go_sem] theorem b393 : Tryz.prog.bytesOf 393 = 8 := by kernel_rfl
@[go_sem] theorem z393 : tzO Tryz.prog 393 = some [.d .nilf] := by kernel_rfl
@[go_sem] theorem u393 : (Tryz.prog.underlying 393).isSome = true := by kernel_rfl
@[go_sem] theorem k394 : tyk Tryz.prog 394 = .scal := by kernel_rfl
@[go_sem] theorem c394 : Tryz.prog.cellsOf 394 = 1 := by kernel_rfl
@[go_sem] theorem b394 : Tryz.prog.bytesOf 394 = 8 := by kernel_rfl
@[go_sem] theorem z394 : tzO Tryz.prog 394 = some [.d .nilf] := by kernel_rfl
@[go_sem] theorem u394 : (Tryz.prog.underlying 394).isSome = true := by kernel_rfl
@[go_sem] theorem k395 : tyk Tryz.prog 395 = .slice 303 := by kernel_rfl
@[go_sem] theorem c395 : Tryz.prog.cellsOf 395 = 1 := by kernel_rfl
@[go_sem] theorem b395 : Tryz.prog.bytesOf 395 = 24 := by kernel_rfl
@[go_sem] theorem z395 : tzO Tryz.prog 395 = some [.nil] := by kernel_rfl
@[go_sem] theorem u395 : (Tryz.prog.underlying 395).isSome = true := by kernel_rfl
@[go_sem] theorem k396 : tyk Tryz.prog 396 = .scal := by kernel_rfl
@[go_sem] theorem c396 : Tryz.prog.cellsOf 396 = 1 := by kernel_rfl
@[go_sem] theorem b396 : Tryz.prog.bytesOf 396 = 8 := by kernel_rfl
@[go_sem] theorem z396 : tzO Tryz.prog 396 = some [.d .nilf] := by kernel_rfl
@[go_sem] theorem u396 : (Tryz.prog.underlying 396).isSome = true := by kernel_rfl
@[go_sem] theorem k397 : tyk Tryz.prog 397 = .scal := by kernel_rfl
@[go_sem] theorem c397 : Tryz.prog.cellsOf 397 = 1 := by kernel_rfl
@[go_sem] theorem b397 : Tryz.prog.bytesOf 397 = 8 := by kernel_rfl
@[go_sem] theorem z397 : tzO Tryz.prog 397 = some [.d .nilf] := by kernel_rfl
@[go_sem] theorem u397 : (Tryz.prog.underlying 397).isSome = true := by kernel_rfl
@[go_sem] theorem k398 : tyk Tryz.prog 398 = .struct [(0, 64), (4, 64), (8, 4)] := by kernel_rfl
@[go_sem] theorem c398 : Tryz.prog.cellsOf 398 = 9 := by kernel_rfl
@[go_sem] theorem b398 : Tryz.prog.bytesOf 398 = 72 := by kernel_rfl
@[go_sem] theorem z398 : tzO Tryz.prog 398 = some [.d (.int .u64 0), .d (.int .u64 0), .d (.int .u64 0), .d (.int .u64 0), .d (.int .u64 0), .d (.int .u64 0), .d (.int .u64 0), .d (.int .u64 0), .d (.bool false)] := by kernel_rfl
@[go_sem] theorem u398 : (Tryz.prog.underlying 398).isSome = true := by kernel_rfl
@[go_sem] theorem k399 : tyk Tryz.prog 399 = .struct [(0, 64), (4, 64), (8, 4)] := by kernel_rfl
@[go_sem] theorem c399 : Tryz.prog.cellsOf 399 = 9 := by kernel_rfl
@[go_sem] theorem b399 : Tryz.prog.bytesOf 399 = 72 := by kernel_rfl
@[go_sem] theorem z399 : tzO Tryz.prog 399 = some [.d (.int .u64 0), .d (.int .u64 0), .d (.int .u64 0), .d (.int .u64 0), .d (.int .u64 0), .d (.int .u64 0), .d (.int .u64 0), .d (.int .u64 0), .d (.bool false)] := by kernel_rfl
@[go_sem] theorem u399 : (Tryz.prog.underlying 399).isSome = true := by kernel_rfl
@[go_sem] theorem k401 : tyk Tryz.prog 401 = .scal := by kernel_rfl
@[go_sem] theorem c401 : Tryz.prog.cellsOf 401 = 1 := by kernel_rfl
@[go_sem] theorem b401 : Tryz.prog.bytesOf 401 = 8 := by kernel_rfl
@[go_sem] theorem z401 : tzO Tryz.prog 401 = some [.d .nilf] := by kernel_rfl
@[go_sem] theorem u401 : (Tryz.prog.underlying 401).isSome = true := by kernel_rfl
@[go_sem] theorem k403 : tyk Tryz.prog 403 = .scal := by kernel_rfl
@[go_sem] theorem c403 : Tryz.prog.cellsOf 403 = 1 := by kernel_rfl
@[go_sem] theorem b403 : Tryz.prog.bytesOf 403 = 8 := by kernel_rfl
@[go_sem] theorem z403 : tzO Tryz.prog 403 = some [.d .nilf] := by kernel_rfl
@[go_sem] theorem u403 : (Tryz.prog.underlying 403).isSome = true := by kernel_rfl
@[go_sem] theorem k404 : tyk Tryz.prog 404 = .scal := by kernel_rfl
@[go_sem] theorem c404 : Tryz.prog.cellsOf 404 = 1 := by kernel_rfl
@[go_sem] theorem b404 : Tryz.prog.bytesOf 404 = 8 := by kernel_rfl
@[go_sem] theorem z404 : tzO Tryz.prog 404 = some [.d .nilf] := by kernel_rfl
@[go_sem] theorem u404 : (Tryz.prog.underlying 404).isSome = true := by kernel_rfl
@[go_sem] theorem k405 : tyk Tryz.prog 405 = .scal := by kernel_rfl
@[go_sem] theorem c405 : Tryz.prog.cellsOf 405 = 1 := by kernel_rfl
@[go_sem] theorem b405 : Tryz.prog.bytesOf 405 = 8 := by kernel_rfl
@[go_sem] theorem z405 : tzO Tryz.prog 405 = some [.d .nilf] := by kernel_rfl
@[go_sem] theorem u405 : (Tryz.prog.underlying 405).isSome = true := by kernel_rfl
@[go_sem] theorem k406 : tyk Tryz.prog 406 = .scal := by kernel_rfl
@[go_sem] theorem c406 : Tryz.prog.cellsOf 406 = 1 := by kernel_rfl
@[go_sem] theorem b406 : Tryz.prog.bytesOf 406 = 8 := by kernel_rfl
@[go_sem] theorem z406 : tzO Tryz.prog 406 = some [.d .nilf] := by kernel_rfl
@[go_sem] theorem u406 : (Tryz.prog.underlying 406).isSome = true := by kernel_rfl
@[go_sem] theorem k407 : tyk Tryz.prog 407 = .scal := by kernel_rfl
@[go_sem] theorem c407 : Tryz.prog.cellsOf 407 = 1 := by kernel_rfl
@[go_sem] theorem b407 : Tryz.prog.bytesOf 407 = 8 := by kernel_rfl
@[go_sem] theorem z407 : tzO Tryz.prog 407 = some [.d .nilf] := by kernel_rfl
@[go_sem] theorem u407 : (Tryz.prog.underlying 407).isSome = true := by kernel_rfl
@[go_sem] theorem k408 : tyk Tryz.prog 408 = .slice 62 := by kernel_rfl
@[go_sem] theorem c408 : Tryz.prog.cellsOf 408 = 1 := by kernel_rfl
@[go_sem] theorem b408 : Tryz.prog.bytesOf 408 = 24 := by kernel_rfl
@[go_sem] theorem z408 : tzO Tryz.prog 408 = some [.nil] := by kernel_rfl
@[go_sem] theorem u408 : (Tryz.prog.underlying 408).isSome = true := by kernel_rfl
@[go_sem] theorem k409 : tyk Tryz.prog 409 = .scal := by kernel_rfl
@[go_sem] theorem c409 : Tryz.prog.cellsOf 409 = 1 := by kernel_rfl
@[go_sem] theorem b409 : Tryz.prog.bytesOf 409 = 8 := by kernel_rfl
@[go_sem] theorem z409 : tzO Tryz.prog 409 = some [.d .nilf] := by kernel_rfl
@[go_sem] theorem u409 : (Tryz.prog.underlying 409).isSome = true := by kernel_rfl
@[go_sem] theorem k410 : tyk Tryz.prog 410 = .scal := by kernel_rfl
@[go_sem] theorem c410 : Tryz.prog.cellsOf 410 = 1 := by kernel_rfl
@[go_sem] theorem b410 : Tryz.prog.bytesOf 410 = 8 := by kernel_rfl
@[go_sem] theorem z410 : tzO Tryz.prog 410 = some [.d .nilf] := by kernel_rfl
@[go_sem] theorem u410 : (Tryz.prog.underlying 410).isSome = true := by kernel_rfl
@[go_sem] theorem k413 : tyk Tryz.prog 413 = .scal := by kernel_rfl
@[go_sem] theorem c413 : Tryz.prog.cellsOf 413 = 1 := by kernel_rfl
@[go_sem] theorem b413 : Tryz.prog.bytesOf 413 = 8 := by kernel_rfl
@[go_sem] theorem z413 : tzO Tryz.prog 413 = some [.d .nilf] := by kernel_rfl
@[go_sem] theorem u413 : (Tryz.prog.underlying 413).isSome = true := by kernel_rfl
@[go_sem] theorem k414 : tyk Tryz.prog 414 = .scal := by kernel_rfl
@[go_sem] theorem c414 : Tryz.prog.cellsOf 414 = 1 := by kernel_rfl
@[go_sem] theorem b414 : Tryz.prog.bytesOf 414 = 8 := by kernel_rfl
@[go_sem] theorem z414 : tzO Tryz.prog 414 = some [.d .nilf] := by kernel_rfl
@[go_sem] theorem u414 : (Tryz.prog.underlying 414).isSome = true := by kernel_rfl
@[go_sem] theorem k415 : tyk Tryz.prog 415 = .scal := by kernel_rfl
@[go_sem] theorem c415 : Tryz.prog.cellsOf 415 = 1 := by kernel_rfl
@[go_sem] theorem b415 : Tryz.prog.bytesOf 415 = 8 := by kernel_rfl
@[go_sem] theorem z415 : tzO Tryz.prog 415 = some [.d .nilf] := by kernel_rfl
@[go_sem] theorem u415 : (Tryz.prog.underlying 415).isSome = true := by kernel_rfl
@[go_sem] theorem k417 : tyk Tryz.prog 417 = .scal := by kernel_rfl
@[go_sem] theorem c417 : Tryz.prog.cellsOf 417 = 1 := by kernel_rfl
@[go_sem] theorem b417 : Tryz.prog.bytesOf 417 = 8 := by kernel_rfl
@[go_sem] theorem z417 : tzO Tryz.prog 417 = some [.d .nilf] := by kernel_rfl
@[go_sem] theorem u417 : (Tryz.prog.underlying 417).isSome = true := by kernel_rfl
@[go_sem] theorem k418 : tyk Tryz.prog 418 = .scal := by kernel_rfl
@[go_sem] theorem c418 : Tryz.prog.cellsOf 418 = 1 := by kernel_rfl
@[go_sem] theorem b418 : Tryz.prog.bytesOf 418 = 8 := by kernel_rfl
@[go_sem] theorem z418 : tzO Tryz.prog 418 = some [.d .nilf] := by kernel_rfl
@[go_sem] theorem u418 : (Tryz.prog.underlying 418).isSome = true := by kernel_rfl
@[go_sem] theorem k419 : tyk Tryz.prog 419 = .scal := by kernel_rfl
@[go_sem] theorem c419 : Tryz.prog.cellsOf 419 = 1 := by kernel_rfl
@[go_sem] theorem b419 : Tryz.prog.bytesOf 419 = 8 := by kernel_rfl
@[go_sem] theorem z419 : tzO Tryz.prog 419 = some [.d .nilf] := by kernel_rfl
@[go_sem] theorem u419 : (Tryz.prog.underlying 419).isSome = true := by kernel_rfl
@[go_sem] theorem k420 : tyk Tryz.prog 420 = .slice 139 := by kernel_rfl
@[go_sem] theorem c420 : Tryz.prog.cellsOf 420 = 1 := by kernel_rfl
@[go_sem] theorem b420 : Tryz.prog.bytesOf 420 = 24 := by kernel_rfl
@[go_sem] theorem z420 : tzO Tryz.prog 420 = some [.nil] := by kernel_rfl
@[go_sem] theorem u420 : (Tryz.prog.underlying 420).isSome = true := by kernel_rfl
@[go_sem] theorem k421 : tyk Tryz.prog 421 = .scal := by kernel_rfl
@[go_sem] theorem c421 : Tryz.prog.cellsOf 421 = 1 := by kernel_rfl
@[go_sem] theorem b421 : Tryz.prog.bytesOf 421 = 8 := by kernel_rfl
@[go_sem] theorem z421 : tzO Tryz.prog 421 = some [.d .nilf] := by kernel_rfl
@[go_sem] theorem u421 : (Tryz.prog.underlying 421).isSome = true := by kernel_rfl
@[go_sem] theorem k422 : tyk Tryz.prog 422 = .scal := by kernel_rfl
@[go_sem] theorem c422 : Tryz.prog.cellsOf 422 = 1 := by kernel_rfl
@[go_sem] theorem b422 : Tryz.prog.bytesOf 422 = 8 := by kernel_rfl
@[go_sem] theorem z422 : tzO Tryz.prog 422 = some [.d .nilf] := by kernel_rfl
@[go_sem] theorem u422 : (Tryz.prog.underlying 422).isSome = true := by kernel_rfl
@[go_sem] theorem k423 : tyk Tryz.prog 423 = .scal := by kernel_rfl
@[go_sem] theorem c423 : Tryz.prog.cellsOf 423 = 1 := by kernel_rfl
@[go_sem] theorem b423 : Tryz.prog.bytesOf 423 = 8 := by kernel_rfl
@[go_sem] theorem z423 : tzO Tryz.prog 423 = some [.d .nilf] := by kernel_rfl
@[go_sem] theorem u423 : (Tryz.prog.underlying 423).isSome = true := by kernel_rfl
@[go_sem] theorem k424 : tyk Tryz.prog 424 = .scal := by kernel_rfl
@[go_sem] theorem c424 : Tryz.prog.cellsOf 424 = 1 := by kernel_rfl
@[go_sem] theorem b424 : Tryz.prog.bytesOf 424 = 8 := by kernel_rfl
@[go_sem] theorem z424 : tzO Tryz.prog 424 = some [.d .nilf] := by kernel_rfl
@[go_sem] theorem u424 : (Tryz.prog.underlying 424).isSome = true := by kernel_rfl
@[go_sem] theorem k425 : tyk Tryz.prog 425 = .scal := by kernel_rfl
@[go_sem] theorem c425 : Tryz.prog.cellsOf 425 = 1 := by kernel_rfl
@[go_sem] theorem b425 : Tryz.prog.bytesOf 425 = 8 := by kernel_rfl
@[go_sem] theorem z425 : tzO Tryz.prog 425 = some [.d .nilf] := by kernel_rfl
@[go_sem] theorem u425 : (Tryz.prog.underlying 425).isSome = true := by kernel_rfl
@[go_sem] theorem k426 : tyk Tryz.prog 426 = .scal := by kernel_rfl
@[go_sem] theorem c426 : Tryz.prog.cellsOf 426 = 1 := by kernel_rfl
@[go_sem] theorem b426 : Tryz.prog.bytesOf 426 = 8 := by kernel_rfl
@[go_sem] theorem z426 : tzO Tryz.prog 426 = some [.d .nilf] := by kernel_rfl
@[go_sem] theorem u426 : (Tryz.prog.underlying 426).isSome = true := by kernel_rfl
@[go_sem] theorem k427 : tyk Tryz.prog 427 = .scal := by kernel_rfl
@[go_sem] theorem c427 : Tryz.prog.cellsOf 427 = 1 := by kernel_rfl
@[go_sem] theorem b427 : Tryz.prog.bytesOf 427 = 8 := by kernel_rfl
@[go_sem] theorem z427 : tzO Tryz.prog 427 = some [.d .nilf] := by kernel_rfl
@[go_sem] theorem u427 : (Tryz.prog.underlying 427).isSome = true := by kernel_rfl
@[go_sem] theorem k428 : tyk Tryz.prog 428 = .scal := by kernel_rfl
@[go_sem] theorem c428 : Tryz.prog.cellsOf 428 = 1 := by kernel_rfl
@[go_sem] theorem b428 : Tryz.prog.bytesOf 428 = 8 := by kernel_rfl
@[go_sem] theorem z428 : tzO Tryz.prog 428 = some [.d .nilf] := by kernel_rfl
@[go_sem] theorem u428 : (Tryz.prog.underlying 428).isSome = true := by kernel_rfl
@[go_sem] theorem k429 : tyk Tryz.prog 429 = .scal := by kernel_rfl
@[go_sem] theorem c429 : Tryz.prog.cellsOf 429 = 1 := by kernel_rfl
@[go_sem] theorem b429 : Tryz.prog.bytesOf 429 = 8 := by kernel_rfl
@[go_sem] theorem z429 : tzO Tryz.prog 429 = some [.d .nilf] := by kernel_rfl
@[go_sem] theorem u429 : (Tryz.prog.underlying 429).isSome = true := by kernel_rfl
@[go_sem] theorem k430 : tyk Tryz.prog 430 = .scal := by kernel_rfl
@[go_sem] theorem c430 : Tryz.prog.cellsOf 430 = 1 := by kernel_rfl
@[go_sem] theorem b430 : Tryz.prog.bytesOf 430 = 8 := by kernel_rfl
@[go_sem] theorem z430 : tzO Tryz.prog 430 = some [.d .nilf] := by kernel_rfl
@[go_sem] theorem u430 : (Tryz.prog.underlying 430).isSome = true := by kernel_rfl
@[go_sem] theorem k431 : tyk Tryz.prog 431 = .scal := by kernel_rfl
@[go_sem] theorem c431 : Tryz.prog.cellsOf 431 = 1 := by kernel_rfl
@[go_sem] theorem b431 : Tryz.prog.bytesOf 431 = 8 := by kernel_rfl
@[go_sem] theorem z431 : tzO Tryz.prog 431 = some [.d .nilf] := by kernel_rfl
@[go_sem] theorem u431 : (Tryz.prog.underlying 431).isSome = true := by kernel_rfl
@[go_sem] theorem k432 : tyk Tryz.prog 432 = .scal := by kernel_rfl
@[go_sem] theorem c432 : Tryz.prog.cellsOf 432 = 1 := by kernel_rfl
@[go_sem] theorem b432 : Tryz.prog.bytesOf 432 = 8 := by kernel_rfl
@[go_sem] theorem z432 : tzO Tryz.prog 432 = some [.d .nilf] := by kernel_rfl
@[go_sem] theorem u432 : (Tryz.prog.underlying 432).isSome = true := by kernel_rfl
@[go_sem] theorem k433 : tyk Tryz.prog 433 = .scal := by kernel_rfl
@[go_sem] theorem c433 : Tryz.prog.cellsOf 433 = 1 := by kernel_rfl
@[go_sem] theorem b433 : Tryz.prog.bytesOf 433 = 8 := by kernel_rfl
@[go_sem] theorem z433 : tzO Tryz.prog 433 = some [.d .nilf] := by kernel_rfl
@[go_sem] theorem u433 : (Tryz.prog.underlying 433).isSome = true := by kernel_rfl
@[go_sem] theorem k435 : tyk Tryz.prog 435 = .scal := by kernel_rfl
@[go_sem] theorem c435 : Tryz.prog.cellsOf 435 = 1 := by kernel_rfl
@[go_sem] theorem b435 : Tryz.prog.bytesOf 435 = 8 := by kernel_rfl
@[go_sem] theorem z435 : tzO Tryz.prog 435 = some [.d .nilf] := by kernel_rfl
@[go_sem] theorem u435 : (Tryz.prog.underlying 435).isSome = true := by kernel_rfl
@[go_sem] theorem k436 : tyk Tryz.prog 436 = .scal := by kernel_rfl
@[go_sem] theorem c436 : Tryz.prog.cellsOf 436 = 1 := by kernel_rfl
@[go_sem] theorem b436 : Tryz.prog.bytesOf 436 = 8 := by kernel_rfl
@[go_sem] theorem z436 : tzO Tryz.prog 436 = some [.d .nilf] := by kernel_rfl
@[go_sem] theorem u436 : (Tryz.prog.underlying 436).isSome = true := by kernel_rfl
@[go_sem] theorem k437 : tyk Tryz.prog 437 = .scal := by kernel_rfl
@[go_sem] theorem c437 : Tryz.prog.cellsOf 437 = 1 := by kernel_rfl
@[go_sem] theorem b437 : Tryz.prog.bytesOf 437 = 8 := by kernel_rfl
@[go_sem] theorem z437 : tzO Tryz.prog 437 = some [.d .nilf] := by kernel_rfl
@[go_sem] theorem u437 : (Tryz.prog.underlying 437).isSome = true := by kernel_rfl
@[go_sem] theorem k438 : tyk Tryz.prog 438 = .struct [(0, 3), (1, 61), (33, 22)] := by kernel_rfl
@[go_sem] theorem c438 : Tryz.prog.cellsOf 438 = 34 := by kernel_rfl
@[go_sem] theorem b438 : Tryz.prog.bytesOf 438 = 64 := by kernel_rfl
@[go_sem] theorem u438 : (Tryz.prog.underlying 438).isSome = true := by kernel_rfl
@[go_sem] theorem k439 : tyk Tryz.prog 439 = .struct [(0, 3), (1, 61), (33, 22)] := by kernel_rfl
@[go_sem] theorem c439 : Tryz.prog.cellsOf 439 = 34 := by kernel_rfl
@[go_sem] theorem b439 : Tryz.prog.bytesOf 439 = 64 := by kernel_rfl
@[go_sem] theorem u439 : (Tryz.prog.underlying 439).isSome = true := by kernel_rfl
@[go_sem] theorem k440 : tyk Tryz.prog 440 = .scal := by kernel_rfl
@[go_sem] theorem c440 : Tryz.prog.cellsOf 440 = 1 := by kernel_rfl
@[go_sem] theorem b440 : Tryz.prog.bytesOf 440 = 8 := by kernel_rfl
@[go_sem] theorem z440 : tzO Tryz.prog 440 = some [.d .nilf] := by kernel_rfl
@[go_sem] theorem u440 : (Tryz.prog.underlying 440).isSome = true := by kernel_rfl
@[go_sem] theorem k441 : tyk Tryz.prog 441 = .scal := by kernel_rfl
@[go_sem] theorem c441 : Tryz.prog.cellsOf 441 = 1 := by kernel_rfl
@[go_sem] theorem b441 : Tryz.prog.bytesOf 441 = 8 := by kernel_rfl
@[go_sem] theorem z441 : tzO Tryz.prog 441 = some [.d .nilf] := by kernel_rfl
@[go_sem] theorem u441 : (Tryz.prog.underlying 441).isSome = true := by kernel_rfl
@[go_sem] theorem k442 : tyk Tryz.prog 442 = .scal := by kernel_rfl
@[go_sem] theorem c442 : Tryz.prog.cellsOf 442 = 1 := by kernel_rfl
@[go_sem] theorem b442 : Tryz.prog.bytesOf 442 = 8 := by kernel_rfl
@[go_sem] theorem z442 : tzO Tryz.prog 442 = some [.d .nilf] := by kernel_rfl
@[go_sem] theorem u442 : (Tryz.prog.underlying 442).isSome = true := by kernel_rfl
@[go_sem] theorem k443 : tyk Tryz.prog 443 = .scal := by kernel_rfl
@[go_sem] theorem c443 : Tryz.prog.cellsOf 443 = 1 := by kernel_rfl
@[go_sem] theorem b443 : Tryz.prog.bytesOf 443 = 8 := by kernel_rfl
@[go_sem] theorem z443 : tzO Tryz.prog 443 = some [.d .nilf] := by kernel_rfl
@[go_sem] theorem u443 : (Tryz.prog.underlying 443).isSome = true := by kernel_rfl
@[go_sem] theorem k444 : tyk Tryz.prog 444 = .scal := by kernel_rfl
@[go_sem] theorem c444 : Tryz.prog.cellsOf 444 = 1 := by kernel_rfl
@[go_sem] theorem b444 : Tryz.prog.bytesOf 444 = 8 := by kernel_rfl
@[go_sem] theorem z444 : tzO Tryz.prog 444 = some [.d .nilf] := by kernel_rfl
@[go_sem] theorem u444 : (Tryz.prog.underlying 444).isSome = true := by kernel_rfl
@[go_sem] theorem k445 : tyk Tryz.prog 445 = .scal := by kernel_rfl
@[go_sem] theorem c445 : Tryz.prog.cellsOf 445 = 1 := by kernel_rfl
@[go_sem] theorem b445 : Tryz.prog.bytesOf 445 = 8 := by kernel_rfl
@[go_sem] theorem z445 : tzO Tryz.prog 445 = some [.d .nilf] := by kernel_rfl
@[go_sem] theorem u445 : (Tryz.prog.underlying 445).isSome = true := by kernel_rfl
@[go_sem] theorem k446 : tyk Tryz.prog 446 = .scal := by kernel_rfl
@[go_sem] theorem c446 : Tryz.prog.cellsOf 446 = 1 := by kernel_rfl
@[go_sem] theorem b446 : Tryz.prog.bytesOf 446 = 8 := by kernel_rfl
@[go_sem] theorem z446 : tzO Tryz.prog 446 = some [.d .nilf] := by kernel_rfl
@[go_sem] theorem u446 : (Tryz.prog.underlying 446).isSome = true := by kernel_rfl
@[go_sem] theorem k447 : tyk Tryz.prog 447 = .scal := by kernel_rfl
@[go_sem] theorem c447 : Tryz.prog.cellsOf 447 = 1 := by kernel_rfl
@[go_sem] theorem b447 : Tryz.prog.bytesOf 447 = 8 := by kernel_rfl
@[go_sem] theorem z447 : tzO Tryz.prog 447 = some [.d .nilf] := by kernel_rfl
@[go_sem] theorem u447 : (Tryz.prog.underlying 447).isSome = true := by kernel_rfl
@[go_sem] theorem k448 : tyk Tryz.prog 448 = .scal := by kernel_rfl
@[go_sem] theorem c448 : Tryz.prog.cellsOf 448 = 1 := by kernel_rfl
@[go_sem] theorem b448 : Tryz.prog.bytesOf 448 = 8 := by kernel_rfl
@[go_sem] theorem z448 : tzO Tryz.prog 448 = some [.d .nilf] := by kernel_rfl
@[go_sem] theorem u448 : (Tryz.prog.underlying 448).isSome = true := by kernel_rfl
@[go_sem] theorem k449 : tyk Tryz.prog 449 = .scal := by kernel_rfl
@[go_sem] theorem c449 : Tryz.prog.cellsOf 449 = 1 := by kernel_rfl
@[go_sem] theorem b449 : Tryz.prog.bytesOf 449 = 8 := by kernel_rfl
@[go_sem] theorem z449 : tzO Tryz.prog 449 = some [.d .nilf] := by kernel_rfl
@[go_sem] theorem u449 : (Tryz.prog.underlying 449).isSome = true := by kernel_rfl
@[go_sem] theorem k450 : tyk Tryz.prog 450 = .slice 4 := by kernel_rfl
@[go_sem] theorem c450 : Tryz.prog.cellsOf 450 = 1 := by kernel_rfl
@[go_sem] theorem b450 : Tryz.prog.bytesOf 450 = 24 := by kernel_rfl
@[go_sem] theorem z450 : tzO Tryz.prog 450 = some [.nil] := by kernel_rfl
@[go_sem] theorem u450 : (Tryz.prog.underlying 450).isSome = true := by kernel_rfl
@[go_sem] theorem k451 : tyk Tryz.prog 451 = .scal := by kernel_rfl
@[go_sem] theorem c451 : Tryz.prog.cellsOf 451 = 1 := by kernel_rfl
@[go_sem] theorem b451 : Tryz.prog.bytesOf 451 = 8 := by kernel_rfl
@[go_sem] theorem z451 : tzO Tryz.prog 451 = some [.d .nilf] := by kernel_rfl
@[go_sem] theorem u451 : (Tryz.prog.underlying 451).isSome = true := by kernel_rfl
@[go_sem] theorem k452 : tyk Tryz.prog 452 = .scal := by kernel_rfl
@[go_sem] theorem c452 : Tryz.prog.cellsOf 452 = 1 := by kernel_rfl
@[go_sem] theorem b452 : Tryz.prog.bytesOf 452 = 8 := by kernel_rfl
@[go_sem] theorem z452 : tzO Tryz.prog 452 = some [.d .nilf] := by kernel_rfl
@[go_sem] theorem u452 : (Tryz.prog.underlying 452).isSome = true := by kernel_rfl
@[go_sem] theorem k453 : tyk Tryz.prog 453 = .struct [(0, 152), (1, 62), (2, 3)] := by kernel_rfl
@[go_sem] theorem c453 : Tryz.prog.cellsOf 453 = 3 := by kernel_rfl
@[go_sem] theorem b453 : Tryz.prog.bytesOf 453 = 40 := by kernel_rfl
@[go_sem] theorem z453 : tzO Tryz.prog 453 = some [.nil, .d (.int .u64 0), .d (.int .i64 0)] := by kernel_rfl
@[go_sem] theorem u453 : (Tryz.prog.underlying 453).isSome = true := by kernel_rfl
@[go_sem] theorem k454 : tyk Tryz.prog 454 = .struct [(0, 152), (1, 62), (2, 3)] := by kernel_rfl
@[go_sem] theorem c454 : Tryz.prog.cellsOf 454 = 3 := by kernel_rfl
@[go_sem] theorem b454 : Tryz.prog.bytesOf 454 = 40 := by kernel_rfl
@[go_sem] theorem z454 : tzO Tryz.prog 454 = some [.nil, .d (.int .u64 0), .d (.int .i64 0)] := by kernel_rfl
@[go_sem] theorem u454 : (Tryz.prog.underlying 454).isSome = true := by kernel_rfl
@[go_sem] theorem k455 : tyk Tryz.prog 455 = .scal := by kernel_rfl
@[go_sem] theorem c455 : Tryz.prog.cellsOf 455 = 1 := by kernel_rfl
@[go_sem] theorem b455 : Tryz.prog.bytesOf 455 = 8 := by kernel_rfl
@[go_sem] theorem z455 : tzO Tryz.prog 455 = some [.d .nilf] := by kernel_rfl
@[go_sem] theorem u455 : (Tryz.prog.underlying 455).isSome = true := by kernel_rfl
@[go_sem] theorem k456 : tyk Tryz.prog 456 = .scal := by kernel_rfl
@[go_sem] theorem c456 : Tryz.prog.cellsOf 456 = 1 := by kernel_rfl
@[go_sem] theorem b456 : Tryz.prog.bytesOf 456 = 8 := by kernel_rfl
@[go_sem] theorem z456 : tzO Tryz.prog 456 = some [.d .nilf] := by kernel_rfl
@[go_sem] theorem u456 : (Tryz.prog.underlying 456).isSome = true := by kernel_rfl
@[go_sem] theorem k457 : tyk Tryz.prog 457 = .scal := by kernel_rfl
@[go_sem] theorem c457 : Tryz.prog.cellsOf 457 = 1 := by kernel_rfl
@[go_sem] theorem b457 : Tryz.prog.bytesOf 457 = 8 := by kernel_rfl
@[go_sem] theorem z457 : tzO Tryz.prog 457 = some [.d .nilf] := by kernel_rfl
@[go_sem] theorem u457 : (Tryz.prog.underlying 457).isSome = true := by kernel_rfl
@[go_sem] theorem k458 : tyk Tryz.prog 458 = .scal := by kernel_rfl
@[go_sem] theorem c458 : Tryz.prog.cellsOf 458 = 1 := by kernel_rfl
@[go_sem] theorem b458 : Tryz.prog.bytesOf 458 = 8 := by kernel_rfl
@[go_sem] theorem z458 : tzO Tryz.prog 458 = some [.d .nilf] := by kernel_rfl
@[go_sem] theorem u458 : (Tryz.prog.underlying 458).isSome = true := by kernel_rfl
@[go_sem] theorem k459 : tyk Tryz.prog 459 = .scal := by kernel_rfl
@[go_sem] theorem c459 : Tryz.prog.cellsOf 459 = 1 := by kernel_rfl
@[go_sem] theorem b459 : Tryz.prog.bytesOf 459 = 8 := by kernel_rfl
@[go_sem] theorem z459 : tzO Tryz.prog 459 = some [.d .nilf] := by kernel_rfl
@[go_sem] theorem u459 : (Tryz.prog.underlying 459).isSome = true := by kernel_rfl
@[go_sem] theorem k461 : tyk Tryz.prog 461 = .scal := by kernel_rfl
@[go_sem] theorem c461 : Tryz.prog.cellsOf 461 = 1 := by kernel_rfl
@[go_sem] theorem b461 : Tryz.prog.bytesOf 461 = 8 := by kernel_rfl
@[go_sem] theorem z461 : tzO Tryz.prog 461 = some [.d .nilf] := by kernel_rfl
@[go_sem] theorem u461 : (Tryz.prog.underlying 461).isSome = true := by kernel_rfl
@[go_sem] theorem k462 : tyk Tryz.prog 462 = .scal := by kernel_rfl
@[go_sem] theorem c462 : Tryz.prog.cellsOf 462 = 1 := by kernel_rfl
@[go_sem] theorem b462 : Tryz.prog.bytesOf 462 = 8 := by kernel_rfl
@[go_sem] theorem z462 : tzO Tryz.prog 462 = some [.d .nilf] := by kernel_rfl
@[go_sem] theorem u462 : (Tryz.prog.underlying 462).isSome = true := by kernel_rfl
@[go_sem] theorem k463 : tyk Tryz.prog 463 = .scal := by kernel_rfl
@[go_sem] theorem c463 : Tryz.prog.cellsOf 463 = 1 := by kernel_rfl
@[go_sem] theorem b463 : Tryz.prog.bytesOf 463 = 8 := by kernel_rfl
@[go_sem] theorem z463 : tzO Tryz.prog 463 = some [.d .nilf] := by kernel_rfl
@[go_sem] theorem u463 : (Tryz.prog.underlying 463).isSome = true := by kernel_rfl
@[go_sem] theorem k464 : tyk Tryz.prog 464 = .scal := by kernel_rfl
@[go_sem] theorem c464 : Tryz.prog.cellsOf 464 = 1 := by kernel_rfl
@[go_sem] theorem b464 : Tryz.prog.bytesOf 464 = 8 := by kernel_rfl
@[go_sem] theorem z464 : tzO Tryz.prog 464 = some [.d .nilf] := by kernel_rfl
@[go_sem] theorem u464 : (Tryz.prog.underlying 464).isSome = true := by kernel_rfl
@[go_sem] theorem k465 : tyk Tryz.prog 465 = .scal := by kernel_rfl
@[go_sem] theorem c465 : Tryz.prog.cellsOf 465 = 1 := by kernel_rfl
@[go_sem] theorem b465 : Tryz.prog.bytesOf 465 = 8 := by kernel_rfl
@[go_sem] theorem z465 : tzO Tryz.prog 465 = some [.d .nilf] := by kernel_rfl
@[go_sem] theorem u465 : (Tryz.prog.underlying 465).isSome = true := by kernel_rfl
@[go_sem] theorem k466 : tyk Tryz.prog 466 = .scal := by kernel_rfl
@[go_sem] theorem c466 : Tryz.prog.cellsOf 466 = 1 := by kernel_rfl
@[go_sem] theorem b466 : Tryz.prog.bytesOf 466 = 8 := by kernel_rfl
@[go_sem] theorem z466 : tzO Tryz.prog 466 = some [.d .nilf] := by kernel_rfl
@[go_sem] theorem u466 : (Tryz.prog.underlying 466).isSome = true := by kernel_rfl
@[go_sem] theorem k467 : tyk Tryz.prog 467 = .scal := by kernel_rfl
@[go_sem] theorem c467 : Tryz.prog.cellsOf 467 = 1 := by kernel_rfl
@[go_sem] theorem b467 : Tryz.prog.bytesOf 467 = 8 := by kernel_rfl
@[go_sem] theorem z467 : tzO Tryz.prog 467 = some [.d .nilf] := by kernel_rfl
@[go_sem] theorem u467 : (Tryz.prog.underlying 467).isSome = true := by kernel_rfl
@[go_sem] theorem k468 : tyk Tryz.prog 468 = .scal := by kernel_rfl
@[go_sem] theorem c468 : Tryz.prog.cellsOf 468 = 1 := by kernel_rfl
@[go_sem] theorem b468 : Tryz.prog.bytesOf 468 = 8 := by kernel_rfl
@[go_sem] theorem z468 : tzO Tryz.prog 468 = some [.d .nilf] := by kernel_rfl
@[go_sem] theorem u468 : (Tryz.prog.underlying 468).isSome = true := by kernel_rfl
@[go_sem] theorem k469 : tyk Tryz.prog 469 = .scal := by kernel_rfl
@[go_sem] theorem c469 : Tryz.prog.cellsOf 469 = 1 := by kernel_rfl
@[go_sem] theorem b469 : Tryz.prog.bytesOf 469 = 8 := by kernel_rfl
@[go_sem] theorem z469 : tzO Tryz.prog 469 = some [.d .nilf] := by kernel_rfl
@[go_sem] theorem u469 : (Tryz.prog.underlying 469).isSome = true := by kernel_rfl
@[go_sem] theorem k470 : tyk Tryz.prog 470 = .scal := by kernel_rfl
@[go_sem] theorem c470 : Tryz.prog.cellsOf 470 = 1 := by kernel_rfl
@[go_sem] theorem b470 : Tryz.prog.bytesOf 470 = 8 := by kernel_rfl
@[go_sem] theorem z470 : tzO Tryz.prog 470 = some [.d .nilp] := by kernel_rfl
@[go_sem] theorem u470 : (Tryz.prog.underlying 470).isSome = true := by kernel_rfl
@[go_sem] theorem k471 : tyk Tryz.prog 471 = .struct [(0, 470), (1, 22)] := by kernel_rfl
@[go_sem] theorem c471 : Tryz.prog.cellsOf 471 = 2 := by kernel_rfl
@[go_sem] theorem b471 : Tryz.prog.bytesOf 471 = 32 := by kernel_rfl
@[go_sem] theorem z471 : tzO Tryz.prog 471 = some [.d .nilp, .nil] := by kernel_rfl
@[go_sem] theorem u471 : (Tryz.prog.underlying 471).isSome = true := by kernel_rfl
@[go_sem] theorem k472 : tyk Tryz.prog 472 = .struct [(0, 470), (1, 22)] := by kernel_rfl
@[go_sem] theorem c472 : Tryz.prog.cellsOf 472 = 2 := by kernel_rfl
@[go_sem] theorem b472 : Tryz.prog.bytesOf 472 = 32 := by kernel_rfl
@[go_sem] theorem z472 : tzO Tryz.prog 472 = some [.d .nilp, .nil] := by kernel_rfl
@[go_sem] theorem u472 : (Tryz.prog.underlying 472).isSome = true := by kernel_rfl
@[go_sem] theorem k476 : tyk Tryz.prog 476 = .scal := by kernel_rfl
@[go_sem] theorem c476 : Tryz.prog.cellsOf 476 = 1 := by kernel_rfl
@[go_sem] theorem b476 : Tryz.prog.bytesOf 476 = 8 := by kernel_rfl
@[go_sem] theorem z476 : tzO Tryz.prog 476 = some [.d .nilf] := by kernel_rfl
@[go_sem] theorem u476 : (Tryz.prog.underlying 476).isSome = true := by kernel_rfl
@[go_sem] theorem k477 : tyk Tryz.prog 477 = .scal := by kernel_rfl
@[go_sem] theorem c477 : Tryz.prog.cellsOf 477 = 1 := by kernel_rfl
@[go_sem] theorem b477 : Tryz.prog.bytesOf 477 = 8 := by kernel_rfl
@[go_sem] theorem z477 : tzO Tryz.prog 477 = some [.d .nilf] := by kernel_rfl
@[go_sem] theorem u477 : (Tryz.prog.underlying 477).isSome = true := by kernel_rfl
@[go_sem] theorem k478 : tyk Tryz.prog 478 = .scal := by kernel_rfl
@[go_sem] theorem c478 : Tryz.prog.cellsOf 478 = 1 := by kernel_rfl
@[go_sem] theorem b478 : Tryz.prog.bytesOf 478 = 8 := by kernel_rfl
@[go_sem] theorem z478 : tzO Tryz.prog 478 = some [.d .nilf] := by kernel_rfl
@[go_sem] theorem u478 : (Tryz.prog.underlying 478).isSome = true := by kernel_rfl
@[go_sem] theorem k479 : tyk Tryz.prog 479 = .scal := by kernel_rfl
@[go_sem] theorem c479 : Tryz.prog.cellsOf 479 = 1 := by kernel_rfl
@[go_sem] theorem b479 : Tryz.prog.bytesOf 479 = 8 := by kernel_rfl
@[go_sem] theorem z479 : tzO Tryz.prog 479 = some [.d .nilp] := by kernel_rfl
@[go_sem] theorem u479 : (Tryz.prog.underlying 479).isSome = true := by kernel_rfl
@[go_sem] theorem k481 : tyk Tryz.prog 481 = .scal := by kernel_rfl
@[go_sem] theorem c481 : Tryz.prog.cellsOf 481 = 1 := by kernel_rfl
@[go_sem] theorem b481 : Tryz.prog.bytesOf 481 = 8 := by kernel_rfl
@[go_sem] theorem z481 : tzO Tryz.prog 481 = some [.d .nilf] := by kernel_rfl
@[go_sem] theorem u481 : (Tryz.prog.underlying 481).isSome = true := by kernel_rfl
@[go_sem] theorem k482 : tyk Tryz.prog 482 = .struct [(0, 50), (1, 383)] := by kernel_rfl
@[go_sem] theorem c482 : Tryz.prog.cellsOf 482 = 2 := by kernel_rfl
@[go_sem] theorem b482 : Tryz.prog.bytesOf 482 = 16 := by kernel_rfl
@[go_sem] theorem z482 : tzO Tryz.prog 482 = some [.d (.int .u32 0), .d (.int .u64 0)] := by kernel_rfl
@[go_sem] theorem u482 : (Tryz.prog.underlying 482).isSome = true := by kernel_rfl
@[go_sem] theorem k483 : tyk Tryz.prog 483 = .struct [(0, 50), (1, 383)] := by kernel_rfl
@[go_sem] theorem c483 : Tryz.prog.cellsOf 483 = 2 := by kernel_rfl
@[go_sem] theorem b483 : Tryz.prog.bytesOf 483 = 16 := by kernel_rfl
@[go_sem] theorem z483 : tzO Tryz.prog 483 = some [.d (.int .u32 0), .d (.int .u64 0)] := by kernel_rfl
@[go_sem] theorem u483 : (Tryz.prog.underlying 483).isSome = true := by kernel_rfl
@[go_sem] theorem k484 : tyk Tryz.prog 484 = .scal := by kernel_rfl
@[go_sem] theorem c484 : Tryz.prog.cellsOf 484 = 1 := by kernel_rfl
@[go_sem] theorem b484 : Tryz.prog.bytesOf 484 = 8 := by kernel_rfl
@[go_sem] theorem z484 : tzO Tryz.prog 484 = some [.d .nilf] := by kernel_rfl
@[go_sem] theorem u484 : (Tryz.prog.underlying 484).isSome = true := by kernel_rfl
@[go_sem] theorem k485 : tyk Tryz.prog 485 = .arr 8 50 := by kernel_rfl
@[go_sem] theorem c485 : Tryz.prog.cellsOf 485 = 8 := by kernel_rfl
@[go_sem] theorem b485 : Tryz.prog.bytesOf 485 = 32 := by kernel_rfl
@[go_sem] theorem z485 : tzO Tryz.prog 485 = some [.d (.int .u32 0), .d (.int .u32 0), .d (.int .u32 0), .d (.int .u32 0), .d (.int .u32 0), .d (.int .u32 0), .d (.int .u32 0), .d (.int .u32 0)] := by kernel_rfl
@[go_sem] theorem u485 : (Tryz.prog.underlying 485).isSome = true := by kernel_rfl
@[go_sem] theorem k486 : tyk Tryz.prog 486 = .arr 8 50 := by kernel_rfl
@[go_sem] theorem c486 : Tryz.prog.cellsOf 486 = 8 := by kernel_rfl
@[go_sem] theorem b486 : Tryz.prog.bytesOf 486 = 32 := by kernel_rfl
@[go_sem] theorem z486 : tzO Tryz.prog 486 = some [.d (.int .u32 0), .d (.int .u32 0), .d (.int .u32 0), .d (.int .u32 0), .d (.int .u32 0), .d (.int .u32 0), .d (.int .u32 0), .d (.int .u32 0)] := by kernel_rfl
@[go_sem] theorem u486 : (Tryz.prog.underlying 486).isSome = true := by kernel_rfl
@[go_sem] theorem k487 : tyk Tryz.prog 487 = .scal := by kernel_rfl
@[go_sem] theorem c487 : Tryz.prog.cellsOf 487 = 1 := by kernel_rfl
@[go_sem] theorem b487 : Tryz.prog.bytesOf 487 = 8 := by kernel_rfl
@[go_sem] theorem z487 : tzO Tryz.prog 487 = some [.d .nilf] := by kernel_rfl
@[go_sem] theorem u487 : (Tryz.prog.underlying 487).isSome = true := by kernel_rfl
@[go_sem] theorem k488 : tyk Tryz.prog 488 = .struct [(0, 486), (8, 22), (9, 62)] := by kernel_rfl
@[go_sem] theorem c488 : Tryz.prog.cellsOf 488 = 10 := by kernel_rfl
@[go_sem] theorem b488 : Tryz.prog.bytesOf 488 = 64 := by kernel_rfl
@[go_sem] theorem z488 : tzO Tryz.prog 488 = some [.d (.int .u32 0), .d (.int .u32 0), .d (.int .u32 0), .d (.int .u32 0), .d (.int .u32 0), .d (.int .u32 0), .d (.int .u32 0), .d (.int .u32 0), .nil, .d (.int .u64 0)] := by kernel_rfl
@[go_sem] theorem u488 : (Tryz.prog.underlying 488).isSome = true := by kernel_rfl
@[go_sem] theorem k489 : tyk Tryz.prog 489 = .struct [(0, 486), (8, 22), (9, 62)] := by kernel_rfl
@[go_sem] theorem c489 : Tryz.prog.cellsOf 489 = 10 := by kernel_rfl
@[go_sem] theorem b489 : Tryz.prog.bytesOf 489 = 64 := by kernel_rfl
@[go_sem] theorem z489 : tzO Tryz.prog 489 = some [.d (.int .u32 0), .d (.int .u32 0), .d (.int .u32 0), .d (.int .u32 0), .d (.int .u32 0), .d (.int .u32 0), .d (.int .u32 0), .d (.int .u32 0), .nil, .d (.int .u64 0)] := by kernel_rfl
@[go_sem] theorem u489 : (Tryz.prog.underlying 489).isSome = true := by kernel_rfl
@[go_sem] theorem k490 : tyk Tryz.prog 490 = .scal := by kernel_rfl
@[go_sem] theorem c490 : Tryz.prog.cellsOf 490 = 1 := by kernel_rfl
@[go_sem] theorem b490 : Tryz.prog.bytesOf 490 = 8 := by kernel_rfl
@[go_sem] theorem z490 : tzO Tryz.prog 490 = some [.d .nilf] := by kernel_rfl
@[go_sem] theorem u490 : (Tryz.prog.underlying 490).isSome = true := by kernel_rfl
@[go_sem] theorem k491 : tyk Tryz.prog 491 = .scal := by kernel_rfl
@[go_sem] theorem c491 : Tryz.prog.cellsOf 491 = 1 := by kernel_rfl
@[go_sem] theorem b491 : Tryz.prog.bytesOf 491 = 8 := by kernel_rfl
@[go_sem] theorem z491 : tzO Tryz.prog 491 = some [.d .nilf] := by kernel_rfl
@[go_sem] theorem u491 : (Tryz.prog.underlying 491).isSome = true := by kernel_rfl
@[go_sem] theorem k493 : tyk Tryz.prog 493 = .scal := by kernel_rfl
@[go_sem] theorem c493 : Tryz.prog.cellsOf 493 = 1 := by kernel_rfl
@[go_sem] theorem b493 : Tryz.prog.bytesOf 493 = 8 := by kernel_rfl
@[go_sem] theorem z493 : tzO Tryz.prog 493 = some [.d .nilf] := by kernel_rfl
@[go_sem] theorem u493 : (Tryz.prog.underlying 493).isSome = true := by kernel_rfl
@[go_sem] theorem k494 : tyk Tryz.prog 494 = .scal := by kernel_rfl
@[go_sem] theorem c494 : Tryz.prog.cellsOf 494 = 1 := by kernel_rfl
@[go_sem] theorem b494 : Tryz.prog.bytesOf 494 = 8 := by kernel_rfl
@[go_sem] theorem z494 : tzO Tryz.prog 494 = some [.d .nilf] := by kernel_rfl
@[go_sem] theorem u494 : (Tryz.prog.underlying 494).isSome = true := by kernel_rfl
@[go_sem] theorem k495 : tyk Tryz.prog 495 = .scal := by kernel_rfl
@[go_sem] theorem c495 : Tryz.prog.cellsOf 495 = 1 := by kernel_rfl
@[go_sem] theorem b495 : Tryz.prog.bytesOf 495 = 8 := by kernel_rfl
@[go_sem] theorem z495 : tzO Tryz.prog 495 = some [.d .nilf] := by kernel_rfl
@[go_sem] theorem u495 : (Tryz.prog.underlying 495).isSome = true := by kernel_rfl
@[go_sem] theorem k496 : tyk Tryz.prog 496 = .scal := by kernel_rfl
@[go_sem] theorem c496 : Tryz.prog.cellsOf 496 = 1 := by kernel_rfl
@[go_sem] theorem b496 : Tryz.prog.bytesOf 496 = 8 := by kernel_rfl
@[go_sem] theorem z496 : tzO Tryz.prog 496 = some [.d .nilf] := by kernel_rfl
@[go_sem] theorem u496 : (Tryz.prog.underlying 496).isSome = true := by kernel_rfl
@[go_sem] theorem k497 : tyk Tryz.prog 497 = .scal := by kernel_rfl
@[go_sem] theorem c497 : Tryz.prog.cellsOf 497 = 1 := by kernel_rfl
@[go_sem] theorem b497 : Tryz.prog.bytesOf 497 = 8 := by kernel_rfl
@[go_sem] theorem z497 : tzO Tryz.prog 497 = some [.d .nilf] := by kernel_rfl
@[go_sem] theorem u497 : (Tryz.prog.underlying 497).isSome = true := by kernel_rfl
@[go_sem] theorem k498 : tyk Tryz.prog 498 = .scal := by kernel_rfl
@[go_sem] theorem c498 : Tryz.prog.cellsOf 498 = 1 := by kernel_rfl
@[go_sem] theorem b498 : Tryz.prog.bytesOf 498 = 8 := by kernel_rfl
@[go_sem] theorem z498 : tzO Tryz.prog 498 = some [.d .nilf] := by kernel_rfl
@[go_sem] theorem u498 : (Tryz.prog.underlying 498).isSome = true := by kernel_rfl
@[go_sem] theorem k499 : tyk Tryz.prog 499 = .scal := by kernel_rfl
@[go_sem] theorem c499 : Tryz.prog.cellsOf 499 = 1 := by kernel_rfl
@[go_sem] theorem b499 : Tryz.prog.bytesOf 499 = 8 := by kernel_rfl
@[go_sem] theorem z499 : tzO Tryz.prog 499 = some [.d .nilf] := by kernel_rfl
@[go_sem] theorem u499 : (Tryz.prog.underlying 499).isSome = true := by kernel_rfl
@[go_sem] theorem k500 : tyk Tryz.prog 500 = .struct [(0, 64), (4, 64), (8, 64)] := by kernel_rfl
@[go_sem] theorem c500 : Tryz.prog.cellsOf 500 = 12 := by kernel_rfl
@[go_sem] theorem b500 : Tryz.prog.bytesOf 500 = 96 := by kernel_rfl
@[go_sem] theorem z500 : tzO Tryz.prog 500 = some [.d (.int .u64 0), .d (.int .u64 0), .d (.int .u64 0), .d (.int .u64 0), .d (.int .u64 0), .d (.int .u64 0), .d (.int .u64 0), .d (.int .u64 0), .d (.int .u64 0), .d (.int .u64 0), .d (.int .u64 0), .d (.int .u64 0)] := by kernel_rfl
@[go_sem] theorem u500 : (Tryz.prog.underlying 500).isSome = true := by kernel_rfl
@[go_sem] theorem k501 : tyk Tryz.prog 501 = .struct [(0, 64), (4, 64), (8, 64)] := by kernel_rfl
@[go_sem] theorem c501 : Tryz.prog.cellsOf 501 = 12 := by kernel_rfl
@[go_sem] theorem b501 : Tryz.prog.bytesOf 501 = 96 := by kernel_rfl
@[go_sem] theorem z501 : tzO Tryz.prog 501 = some [.d (.int .u64 0), .d (.int .u64 0), .d (.int .u64 0), .d (.int .u64 0), .d (.int .u64 0), .d (.int .u64 0), .d (.int .u64 0), .d (.int .u64 0), .d (.int .u64 0), .d (.int .u64 0), .d (.int .u64 0), .d (.int .u64 0)] := by kernel_rfl
@[go_sem] theorem u501 : (Tryz.prog.underlying 501).isSome = true := by kernel_rfl
@[go_sem] theorem k502 : tyk Tryz.prog 502 = .scal := by kernel_rfl
@[go_sem] theorem c502 : Tryz.prog.cellsOf 502 = 1 := by kernel_rfl
@[go_sem] theorem b502 : Tryz.prog.bytesOf 502 = 8 := by kernel_rfl
@[go_sem] theorem z502 : tzO Tryz.prog 502 = some [.d .nilf] := by kernel_rfl
@[go_sem] theorem u502 : (Tryz.prog.underlying 502).isSome = true := by kernel_rfl
@[go_sem] theorem k503 : tyk Tryz.prog 503 = .scal := by kernel_rfl
@[go_sem] theorem c503 : Tryz.prog.cellsOf 503 = 1 := by kernel_rfl
@[go_sem] theorem b503 : Tryz.prog.bytesOf 503 = 8 := by kernel_rfl
@[go_sem] theorem z503 : tzO Tryz.prog 503 = some [.d .nilf] := by kernel_rfl
@[go_sem] theorem u503 : (Tryz.prog.underlying 503).isSome = true := by kernel_rfl
@[go_sem] theorem k504 : tyk Tryz.prog 504 = .scal := by kernel_rfl
@[go_sem] theorem c504 : Tryz.prog.cellsOf 504 = 1 := by kernel_rfl
@[go_sem] theorem b504 : Tryz.prog.bytesOf 504 = 8 := by kernel_rfl
@[go_sem] theorem z504 : tzO Tryz.prog 504 = some [.d .nilf] := by kernel_rfl
@[go_sem] theorem u504 : (Tryz.prog.underlying 504).isSome = true := by kernel_rfl
@[go_sem] theorem k505 : tyk Tryz.prog 505 = .scal := by kernel_rfl
@[go_sem] theorem c505 : Tryz.prog.cellsOf 505 = 1 := by kernel_rfl
@[go_sem] theorem b505 : Tryz.prog.bytesOf 505 = 8 := by kernel_rfl
@[go_sem] theorem z505 : tzO Tryz.prog 505 = some [.d .nilf] := by kernel_rfl
@[go_sem] theorem u505 : (Tryz.prog.underlying 505).isSome = true := by kernel_rfl
@[go_sem] theorem k506 : tyk Tryz.prog 506 = .scal := by kernel_rfl
@[go_sem] theorem c506 : Tryz.prog.cellsOf 506 = 1 := by kernel_rfl
@[go_sem] theorem b506 : Tryz.prog.bytesOf 506 = 8 := by kernel_rfl
@[go_sem] theorem z506 : tzO Tryz.prog 506 = some [.d .nilf] := by kernel_rfl
@[go_sem] theorem u506 : (Tryz.prog.underlying 506).isSome = true := by kernel_rfl
@[go_sem] theorem k507 : tyk Tryz.prog 507 = .scal := by kernel_rfl
@[go_sem] theorem c507 : Tryz.prog.cellsOf 507 = 1 := by kernel_rfl
@[go_sem] theorem b507 : Tryz.prog.bytesOf 507 = 8 := by kernel_rfl
@[go_sem] theorem z507 : tzO Tryz.prog 507 = some [.d .nilf] := by kernel_rfl
@[go_sem] theorem u507 : (Tryz.prog.underlying 507).isSome = true := by kernel_rfl
@[go_sem] theorem k508 : tyk Tryz.prog 508 = .scal := by kernel_rfl
@[go_sem] theorem c508 : Tryz.prog.cellsOf 508 = 1 := by kernel_rfl
@[go_sem] theorem b508 : Tryz.prog.bytesOf 508 = 8 := by kernel_rfl
@[go_sem] theorem z508 : tzO Tryz.prog 508 = some [.d .nilf] := by kernel_rfl
@[go_sem] theorem u508 : (Tryz.prog.underlying 508).isSome = true := by kernel_rfl
@[go_sem] theorem k509 : tyk Tryz.prog 509 = .scal := by kernel_rfl
@[go_sem] theorem c509 : Tryz.prog.cellsOf 509 = 1 := by kernel_rfl
@[go_sem] theorem b509 : Tryz.prog.bytesOf 509 = 8 := by kernel_rfl
@[go_sem] theorem z509 : tzO Tryz.prog 509 = some [.d .nilf] := by kernel_rfl
@[go_sem] theorem u509 : (Tryz.prog.underlying 509).isSome = true := by kernel_rfl
@[go_sem] theorem k510 : tyk Tryz.prog 510 = .arr 8 62 := by kernel_rfl
@[go_sem] theorem c510 : Tryz.prog.cellsOf 510 = 8 := by kernel_rfl
@[go_sem] theorem b510 : Tryz.prog.bytesOf 510 = 64 := by kernel_rfl
@[go_sem] theorem z510 : tzO Tryz.prog 510 = some [.d (.int .u64 0), .d (.int .u64 0), .d (.int .u64 0), .d (.int .u64 0), .d (.int .u64 0), .d (.int .u64 0), .d (.int .u64 0), .d (.int .u64 0)] := by kernel_rfl
@[go_sem] theorem u510 : (Tryz.prog.underlying 510).isSome = true := by kernel_rfl
@[go_sem] theorem k511 : tyk Tryz.prog 511 = .scal := by kernel_rfl
@[go_sem] theorem c511 : Tryz.prog.cellsOf 511 = 1 := by kernel_rfl
@[go_sem] theorem b511 : Tryz.prog.bytesOf 511 = 8 := by kernel_rfl
@[go_sem] theorem z511 : tzO Tryz.prog 511 = some [.d .nilf] := by kernel_rfl
@[go_sem] theorem u511 : (Tryz.prog.underlying 511).isSome = true := by kernel_rfl
@[go_sem] theorem k512 : tyk Tryz.prog 512 = .scal := by kernel_rfl
@[go_sem] theorem c512 : Tryz.prog.cellsOf 512 = 1 := by kernel_rfl
@[go_sem] theorem b512 : Tryz.prog.bytesOf 512 = 8 := by kernel_rfl
@[go_sem] theorem z512 : tzO Tryz.prog 512 = some [.d .nilf] := by kernel_rfl
@[go_sem] theorem u512 : (Tryz.prog.underlying 512).isSome = true := by kernel_rfl
@[go_sem] theorem k513 : tyk Tryz.prog 513 = .scal := by kernel_rfl
@[go_sem] theorem c513 : Tryz.prog.cellsOf 513 = 1 := by kernel_rfl
@[go_sem] theorem b513 : Tryz.prog.bytesOf 513 = 8 := by kernel_rfl
@[go_sem] theorem z513 : tzO Tryz.prog 513 = some [.d .nilf] := by kernel_rfl
@[go_sem] theorem u513 : (Tryz.prog.underlying 513).isSome = true := by kernel_rfl
@[go_sem] theorem k515 : tyk Tryz.prog 515 = .scal := by kernel_rfl
@[go_sem] theorem c515 : Tryz.prog.cellsOf 515 = 1 := by kernel_rfl
@[go_sem] theorem b515 : Tryz.prog.bytesOf 515 = 8 := by kernel_rfl
@[go_sem] theorem z515 : tzO Tryz.prog 515 = some [.d .nilf] := by kernel_rfl
@[go_sem] theorem u515 : (Tryz.prog.underlying 515).isSome = true := by kernel_rfl
@[go_sem] theorem k516 : tyk Tryz.prog 516 = .scal := by kernel_rfl
@[go_sem] theorem c516 : Tryz.prog.cellsOf 516 = 1 := by kernel_rfl
@[go_sem] theorem b516 : Tryz.prog.bytesOf 516 = 8 := by kernel_rfl
@[go_sem] theorem z516 : tzO Tryz.prog 516 = some [.d .nilf] := by kernel_rfl
@[go_sem] theorem u516 : (Tryz.prog.underlying 516).isSome = true := by kernel_rfl
@[go_sem] theorem k517 : tyk Tryz.prog 517 = .scal := by kernel_rfl
@[go_sem] theorem c517 : Tryz.prog.cellsOf 517 = 1 := by kernel_rfl
@[go_sem] theorem b517 : Tryz.prog.bytesOf 517 = 8 := by kernel_rfl
@[go_sem] theorem z517 : tzO Tryz.prog 517 = some [.d .nilf] := by kernel_rfl
@[go_sem] theorem u517 : (Tryz.prog.underlying 517).isSome = true := by kernel_rfl
@[go_sem] theorem k518 : tyk Tryz.prog 518 = .scal := by kernel_rfl
@[go_sem] theorem c518 : Tryz.prog.cellsOf 518 = 1 := by kernel_rfl
@[go_sem] theorem b518 : Tryz.prog.bytesOf 518 = 8 := by kernel_rfl
@[go_sem] theorem z518 : tzO Tryz.prog 518 = some [.d .nilf] := by kernel_rfl
@[go_sem] theorem u518 : (Tryz.prog.underlying 518).isSome = true := by kernel_rfl
@[go_sem] theorem k519 : tyk Tryz.prog 519 = .scal := by kernel_rfl
@[go_sem] theorem c519 : Tryz.prog.cellsOf 519 = 1 := by kernel_rfl
@[go_sem] theorem b519 : Tryz.prog.bytesOf 519 = 8 := by kernel_rfl
@[go_sem] theorem z519 : tzO Tryz.prog 519 = some [.d .nilf] := by kernel_rfl
@[go_sem] theorem u519 : (Tryz.prog.underlying 519).isSome = true := by kernel_rfl
@[go_sem] theorem k520 : tyk Tryz.prog 520 = .scal := by kernel_rfl
@[go_sem] theorem c520 : Tryz.prog.cellsOf 520 = 1 := by kernel_rfl
@[go_sem] theorem b520 : Tryz.prog.bytesOf 520 = 8 := by kernel_rfl
@[go_sem] theorem z520 : tzO Tryz.prog 520 = some [.d .nilf] := by kernel_rfl
@[go_sem] theorem u520 : (Tryz.prog.underlying 520).isSome = true := by kernel_rfl
@[go_sem] theorem k521 : tyk Tryz.prog 521 = .scal := by kernel_rfl
@[go_sem] theorem c521 : Tryz.prog.cellsOf 521 = 1 := by kernel_rfl
@[go_sem] theorem b521 : Tryz.prog.bytesOf 521 = 8 := by kernel_rfl
@[go_sem] theorem z521 : tzO Tryz.prog 521 = some [.d .nilf] := by kernel_rfl
@[go_sem] theorem u521 : (Tryz.prog.underlying 521).isSome = true := by kernel_rfl
@[go_sem] theorem k522 : tyk Tryz.prog 522 = .scal := by kernel_rfl
@[go_sem] theorem c522 : Tryz.prog.cellsOf 522 = 1 := by kernel_rfl
@[go_sem] theorem b522 : Tryz.prog.bytesOf 522 = 8 := by kernel_rfl
@[go_sem] theorem z522 : tzO Tryz.prog 522 = some [.d .nilf] := by kernel_rfl
@[go_sem] theorem u522 : (Tryz.prog.underlying 522).isSome = true := by kernel_rfl
@[go_sem] theorem k523 : tyk Tryz.prog 523 = .scal := by kernel_rfl
@[go_sem] theorem c523 : Tryz.prog.cellsOf 523 = 1 := by kernel_rfl
@[go_sem] theorem b523 : Tryz.prog.bytesOf 523 = 8 := by kernel_rfl
@[go_sem] theorem z523 : tzO Tryz.prog 523 = some [.d .nilf] := by kernel_rfl
@[go_sem] theorem u523 : (Tryz.prog.underlying 523).isSome = true := by kernel_rfl
@[go_sem] theorem k524 : tyk Tryz.prog 524 = .scal := by kernel_rfl
@[go_sem] theorem c524 : Tryz.prog.cellsOf 524 = 1 := by kernel_rfl
@[go_sem] theorem b524 : Tryz.prog.bytesOf 524 = 8 := by kernel_rfl
@[go_sem] theorem z524 : tzO Tryz.prog 524 = some [.d .nilf] := by kernel_rfl
@[go_sem] theorem u524 : (Tryz.prog.underlying 524).isSome = true := by kernel_rfl
@[go_sem] theorem k525 : tyk Tryz.prog 525 = .scal := by kernel_rfl
@[go_sem] theorem c525 : Tryz.prog.cellsOf 525 = 1 := by kernel_rfl
@[go_sem] theorem b525 : Tryz.prog.bytesOf 525 = 8 := by kernel_rfl
@[go_sem] theorem z525 : tzO Tryz.prog 525 = some [.d .nilf] := by kernel_rfl
@[go_sem] theorem u525 : (Tryz.prog.underlying 525).isSome = true := by kernel_rfl
@[go_sem] theorem k526 : tyk Tryz.prog 526 = .scal := by kernel_rfl
@[go_sem] theorem c526 : Tryz.prog.cellsOf 526 = 1 := by kernel_rfl
@[go_sem] theorem b526 : Tryz.prog.bytesOf 526 = 8 := by kernel_rfl
@[go_sem] theorem z526 : tzO Tryz.prog 526 = some [.d .nilf] := by kernel_rfl
@[go_sem] theorem u526 : (Tryz.prog.underlying 526).isSome = true := by kernel_rfl
@[go_sem] theorem k527 : tyk Tryz.prog 527 = .scal := by kernel_rfl
@[go_sem] theorem c527 : Tryz.prog.cellsOf 527 = 1 := by kernel_rfl
@[go_sem] theorem b527 : Tryz.prog.bytesOf 527 = 8 := by kernel_rfl
@[go_sem] theorem z527 : tzO Tryz.prog 527 = some [.d .nilf] := by kernel_rfl
@[go_sem] theorem u527 : (Tryz.prog.underlying 527).isSome = true := by kernel_rfl
@[go_sem] theorem k528 : tyk Tryz.prog 528 = .scal := by kernel_rfl
@[go_sem] theorem c528 : Tryz.prog.cellsOf 528 = 1 := by kernel_rfl
@[go_sem] theorem b528 : Tryz.prog.bytesOf 528 = 8 := by kernel_rfl
@[go_sem] theorem z528 : tzO Tryz.prog 528 = some [.d .nilf] := by kernel_rfl
@[go_sem] theorem u528 : (Tryz.prog.underlying 528).isSome = true := by kernel_rfl
@[go_sem] theorem k529 : tyk Tryz.prog 529 = .scal := by kernel_rfl
@[go_sem] theorem c529 : Tryz.prog.cellsOf 529 = 1 := by kernel_rfl
@[go_sem] theorem b529 : Tryz.prog.bytesOf 529 = 8 := by kernel_rfl
@[go_sem] theorem z529 : tzO Tryz.prog 529 = some [.d .nilf] := by kernel_rfl
@[go_sem] theorem u529 : (Tryz.prog.underlying 529).isSome = true := by kernel_rfl
@[go_sem] theorem k530 : tyk Tryz.prog 530 = .scal := by kernel_rfl
@[go_sem] theorem c530 : Tryz.prog.cellsOf 530 = 1 := by kernel_rfl
@[go_sem] theorem b530 : Tryz.prog.bytesOf 530 = 8 := by kernel_rfl
@[go_sem] theorem z530 : tzO Tryz.prog 530 = some [.d .nilf] := by kernel_rfl
@[go_sem] theorem u530 : (Tryz.prog.underlying 530).isSome = true := by kernel_rfl
@[go_sem] theorem k531 : tyk Tryz.prog 531 = .scal := by kernel_rfl
@[go_sem] theorem c531 : Tryz.prog.cellsOf 531 = 1 := by kernel_rfl
@[go_sem] theorem b531 : Tryz.prog.bytesOf 531 = 8 := by kernel_rfl
@[go_sem] theorem z531 : tzO Tryz.prog 531 = some [.d .nilf] := by kernel_rfl
@[go_sem] theorem u531 : (Tryz.prog.underlying 531).isSome = true := by kernel_rfl
@[go_sem] theorem k532 : tyk Tryz.prog 532 = .scal := by kernel_rfl
@[go_sem] theorem c532 : Tryz.prog.cellsOf 532 = 1 := by kernel_rfl
@[go_sem] theorem b532 : Tryz.prog.bytesOf 532 = 8 := by kernel_rfl
@[go_sem] theorem z532 : tzO Tryz.prog 532 = some [.d .nilf] := by kernel_rfl
@[go_sem] theorem u532 : (Tryz.prog.underlying 532).isSome = true := by kernel_rfl
@[go_sem] theorem k533 : tyk Tryz.prog 533 = .scal := by kernel_rfl
@[go_sem] theorem c533 : Tryz.prog.cellsOf 533 = 1 := by kernel_rfl
@[go_sem] theorem b533 : Tryz.prog.bytesOf 533 = 8 := by kernel_rfl
@[go_sem] theorem z533 : tzO Tryz.prog 533 = some [.d .nilf] := by kernel_rfl
@[go_sem] theorem u533 : (Tryz.prog.underlying 533).isSome = true := by kernel_rfl
@[go_sem] theorem k534 : tyk Tryz.prog 534 = .scal := by kernel_rfl
@[go_sem] theorem c534 : Tryz.prog.cellsOf 534 = 1 := by kernel_rfl
@[go_sem] theorem b534 : Tryz.prog.bytesOf 534 = 8 := by kernel_rfl
@[go_sem] theorem z534 : tzO Tryz.prog 534 = some [.d .nilf] := by kernel_rfl
@[go_sem] theorem u534 : (Tryz.prog.underlying 534).isSome = true := by kernel_rfl
@[go_sem] theorem k535 : tyk Tryz.prog 535 = .scal := by kernel_rfl
@[go_sem] theorem c535 : Tryz.prog.cellsOf 535 = 1 := by kernel_rfl
@[go_sem] theorem b535 : Tryz.prog.bytesOf 535 = 8 := by kernel_rfl
@[go_sem] theorem z535 : tzO Tryz.prog 535 = some [.d .nilf] := by kernel_rfl
@[go_sem] theorem u535 : (Tryz.prog.underlying 535).isSome = true := by kernel_rfl
@[go_sem] theorem k536 : tyk Tryz.prog 536 = .scal := by kernel_rfl
@[go_sem] theorem c536 : Tryz.prog.cellsOf 536 = 1 := by kernel_rfl
@[go_sem] theorem b536 : Tryz.prog.bytesOf 536 = 8 := by kernel_rfl
@[go_sem] theorem z536 : tzO Tryz.prog 536 = some [.d .nilf] := by kernel_rfl
@[go_sem] theorem u536 : (Tryz.prog.underlying 536).isSome = true := by kernel_rfl
@[go_sem] theorem k537 : tyk Tryz.prog 537 = .scal := by kernel_rfl
@[go_sem] theorem c537 : Tryz.prog.cellsOf 537 = 1 := by kernel_rfl
@[go_sem] theorem b537 : Tryz.prog.bytesOf 537 = 8 := by kernel_rfl
@[go_sem] theorem z537 : tzO Tryz.prog 537 = some [.d .nilf] := by kernel_rfl
@[go_sem] theorem u537 : (Tryz.prog.underlying 537).isSome = true := by kernel_rfl
@[go_sem] theorem k538 : tyk Tryz.prog 538 = .scal := by kernel_rfl
@[go_sem] theorem c538 : Tryz.prog.cellsOf 538 = 1 := by kernel_rfl
@[go_sem] theorem b538 : Tryz.prog.bytesOf 538 = 8 := by kernel_rfl
@[go_sem] theorem z538 : tzO Tryz.prog 538 = some [.d .nilf] := by kernel_rfl
@[go_sem] theorem u538 : (Tryz.prog.underlying 538).isSome = true := by kernel_rfl
@[go_sem] theorem k539 : tyk Tryz.prog 539 = .scal := by kernel_rfl
@[go_sem] theorem c539 : Tryz.prog.cellsOf 539 = 1 := by kernel_rfl
@[go_sem] theorem b539 : Tryz.prog.bytesOf 539 = 8 := by kernel_rfl
@[go_sem] theorem z539 : tzO Tryz.prog 539 = some [.d .nilf] := by kernel_rfl
@[go_sem] theorem u539 : (Tryz.prog.underlying 539).isSome = true := by kernel_rfl
@[go_sem] theorem k540 : tyk Tryz.prog 540 = .scal := by kernel_rfl
@[go_sem] theorem c540 : Tryz.prog.cellsOf 540 = 1 := by kernel_rfl
@[go_sem] theorem b540 : Tryz.prog.bytesOf 540 = 8 := by kernel_rfl
@[go_sem] theorem z540 : tzO Tryz.prog 540 = some [.d .nilp] := by kernel_rfl
@[go_sem] theorem u540 : (Tryz.prog.underlying 540).isSome = true := by kernel_rfl
@[go_sem] theorem k541 : tyk Tryz.prog 541 = .slice 454 := by kernel_rfl
@[go_sem] theorem c541 : Tryz.prog.cellsOf 541 = 1 := by kernel_rfl
@[go_sem] theorem b541 : Tryz.prog.bytesOf 541 = 24 := by kernel_rfl
@[go_sem] theorem z541 : tzO Tryz.prog 541 = some [.nil] := by kernel_rfl
@[go_sem] theorem u541 : (Tryz.prog.underlying 541).isSome = true := by kernel_rfl
@[go_sem] theorem k542 : tyk Tryz.prog 542 = .slice 454 := by kernel_rfl
@[go_sem] theorem c542 : Tryz.prog.cellsOf 542 = 1 := by kernel_rfl
@[go_sem] theorem b542 : Tryz.prog.bytesOf 542 = 24 := by kernel_rfl
@[go_sem] theorem z542 : tzO Tryz.prog 542 = some [.nil] := by kernel_rfl
@[go_sem] theorem u542 : (Tryz.prog.underlying 542).isSome = true := by kernel_rfl
@[go_sem] theorem k544 : tyk Tryz.prog 544 = .scal := by kernel_rfl
@[go_sem] theorem c544 : Tryz.prog.cellsOf 544 = 1 := by kernel_rfl
@[go_sem] theorem b544 : Tryz.prog.bytesOf 544 = 8 := by kernel_rfl
@[go_sem] theorem z544 : tzO Tryz.prog 544 = some [.d .nilf] := by kernel_rfl
@[go_sem] theorem u544 : (Tryz.prog.underlying 544).isSome = true := by kernel_rfl
@[go_sem] theorem k545 : tyk Tryz.prog 545 = .scal := by kernel_rfl
@[go_sem] theorem c545 : Tryz.prog.cellsOf 545 = 1 := by kernel_rfl
@[go_sem] theorem b545 : Tryz.prog.bytesOf 545 = 8 := by kernel_rfl
@[go_sem] theorem z545 : tzO Tryz.prog 545 = some [.d .nilf] := by kernel_rfl
@[go_sem] theorem u545 : (Tryz.prog.underlying 545).isSome = true := by kernel_rfl
@[go_sem] theorem k546 : tyk Tryz.prog 546 = .scal := by kernel_rfl
@[go_sem] theorem c546 : Tryz.prog.cellsOf 546 = 1 := by kernel_rfl
@[go_sem] theorem b546 : Tryz.prog.bytesOf 546 = 8 := by kernel_rfl
@[go_sem] theorem z546 : tzO Tryz.prog 546 = some [.d .nilf] := by kernel_rfl
@[go_sem] theorem u546 : (Tryz.prog.underlying 546).isSome = true := by kernel_rfl
@[go_sem] theorem k547 : tyk Tryz.prog 547 = .scal := by kernel_rfl
@[go_sem] theorem c547 : Tryz.prog.cellsOf 547 = 1 := by kernel_rfl
@[go_sem] theorem b547 : Tryz.prog.bytesOf 547 = 8 := by kernel_rfl
@[go_sem] theorem z547 : tzO Tryz.prog 547 = some [.d .nilf] := by kernel_rfl
@[go_sem] theorem u547 : (Tryz.prog.underlying 547).isSome = true := by kernel_rfl
@[go_sem] theorem k548 : tyk Tryz.prog 548 = .scal := by kernel_rfl
@[go_sem] theorem c548 : Tryz.prog.cellsOf 548 = 1 := by kernel_rfl
@[go_sem] theorem b548 : Tryz.prog.bytesOf 548 = 8 := by kernel_rfl
@[go_sem] theorem z548 : tzO Tryz.prog 548 = some [.d .nilf] := by kernel_rfl
@[go_sem] theorem u548 : (Tryz.prog.underlying 548).isSome = true := by kernel_rfl
@[go_sem] theorem k549 : tyk Tryz.prog 549 = .scal := by kernel_rfl
@[go_sem] theorem c549 : Tryz.prog.cellsOf 549 = 1 := by kernel_rfl
@[go_sem] theorem b549 : Tryz.prog.bytesOf 549 = 8 := by kernel_rfl
@[go_sem] theorem z549 : tzO Tryz.prog 549 = some [.d .nilf] := by kernel_rfl
@[go_sem] theorem u549 : (Tryz.prog.underlying 549).isSome = true := by kernel_rfl
@[go_sem] theorem k550 : tyk Tryz.prog 550 = .scal := by kernel_rfl
@[go_sem] theorem c550 : Tryz.prog.cellsOf 550 = 1 := by kernel_rfl
@[go_sem] theorem b550 : Tryz.prog.bytesOf 550 = 8 := by kernel_rfl
@[go_sem] theorem z550 : tzO Tryz.prog 550 = some [.d .nilf] := by kernel_rfl
@[go_sem] theorem u550 : (Tryz.prog.underlying 550).isSome = true := by kernel_rfl
@[go_sem] theorem k551 : tyk Tryz.prog 551 = .scal := by kernel_rfl
@[go_sem] theorem c551 : Tryz.prog.cellsOf 551 = 1 := by kernel_rfl
@[go_sem] theorem b551 : Tryz.prog.bytesOf 551 = 8 := by kernel_rfl
@[go_sem] theorem z551 : tzO Tryz.prog 551 = some [.d .nilf] := by kernel_rfl
@[go_sem] theorem u551 : (Tryz.prog.underlying 551).isSome = true := by kernel_rfl
@[go_sem] theorem k552 : tyk Tryz.prog 552 = .scal := by kernel_rfl
@[go_sem] theorem c552 : Tryz.prog.cellsOf 552 = 1 := by kernel_rfl
@[go_sem] theorem b552 : Tryz.prog.bytesOf 552 = 8 := by kernel_rfl
@[go_sem] theorem z552 : tzO Tryz.prog 552 = some [.d .nilf] := by kernel_rfl
@[go_sem] theorem u552 : (Tryz.prog.underlying 552).isSome = true := by kernel_rfl
@[go_sem] theorem k553 : tyk Tryz.prog 553 = .scal := by kernel_rfl
@[go_sem] theorem c553 : Tryz.prog.cellsOf 553 = 1 := by kernel_rfl
@[go_sem] theorem b553 : Tryz.prog.bytesOf 553 = 8 := by kernel_rfl
@[go_sem] theorem z553 : tzO Tryz.prog 553 = some [.d .nilp] := by kernel_rfl
@[go_sem] theorem u553 : (Tryz.prog.underlying 553).isSome = true := by kernel_rfl
@[go_sem] theorem k554 : tyk Tryz.prog 554 = .scal := by kernel_rfl
@[go_sem] theorem c554 : Tryz.prog.cellsOf 554 = 1 := by kernel_rfl
@[go_sem] theorem b554 : Tryz.prog.bytesOf 554 = 8 := by kernel_rfl
@[go_sem] theorem z554 : tzO Tryz.prog 554 = some [.d .nilf] := by kernel_rfl
@[go_sem] theorem u554 : (Tryz.prog.underlying 554).isSome = true := by kernel_rfl
@[go_sem] theorem k556 : tyk Tryz.prog 556 = .scal := by kernel_rfl
@[go_sem] theorem c556 : Tryz.prog.cellsOf 556 = 1 := by kernel_rfl
@[go_sem] theorem b556 : Tryz.prog.bytesOf 556 = 8 := by kernel_rfl
@[go_sem] theorem z556 : tzO Tryz.prog 556 = some [.d .nilf] := by kernel_rfl
@[go_sem] theorem u556 : (Tryz.prog.underlying 556).isSome = true := by kernel_rfl
@[go_sem] theorem k557 : tyk Tryz.prog 557 = .scal := by kernel_rfl
@[go_sem] theorem c557 : Tryz.prog.cellsOf 557 = 1 := by kernel_rfl
@[go_sem] theorem b557 : Tryz.prog.bytesOf 557 = 8 := by kernel_rfl
@[go_sem] theorem z557 : tzO Tryz.prog 557 = some [.d .nilp] := by kernel_rfl
@[go_sem] theorem u557 : (Tryz.prog.underlying 557).isSome = true := by kernel_rfl
@[go_sem] theorem k558 : tyk Tryz.prog 558 = .arr 64 50 := by kernel_rfl
@[go_sem] theorem c558 : Tryz.prog.cellsOf 558 = 64 := by kernel_rfl
@[go_sem] theorem b558 : Tryz.prog.bytesOf 558 = 256 := by kernel_rfl
@[go_sem] theorem u558 : (Tryz.prog.underlying 558).isSome = true := by kernel_rfl
@[go_sem] theorem k559 : tyk Tryz.prog 559 = .scal := by kernel_rfl
@[go_sem] theorem c559 : Tryz.prog.cellsOf 559 = 1 := by kernel_rfl
@[go_sem] theorem b559 : Tryz.prog.bytesOf 559 = 8 := by kernel_rfl
@[go_sem] theorem z559 : tzO Tryz.prog 559 = some [.d .nilf] := by kernel_rfl
@[go_sem] theorem u559 : (Tryz.prog.underlying 559).isSome = true := by kernel_rfl
@[go_sem] theorem k560 : tyk Tryz.prog 560 = .scal := by kernel_rfl
@[go_sem] theorem c560 : Tryz.prog.cellsOf 560 = 1 := by kernel_rfl
@[go_sem] theorem b560 : Tryz.prog.bytesOf 560 = 8 := by kernel_rfl
@[go_sem] theorem z560 : tzO Tryz.prog 560 = some [.d .nilf] := by kernel_rfl
@[go_sem] theorem u560 : (Tryz.prog.underlying 560).isSome = true := by kernel_rfl
@[go_sem] theorem k561 : tyk Tryz.prog 561 = .scal := by kernel_rfl
@[go_sem] theorem c561 : Tryz.prog.cellsOf 561 = 1 := by kernel_rfl
@[go_sem] theorem b561 : Tryz.prog.bytesOf 561 = 8 := by kernel_rfl
@[go_sem] theorem z561 : tzO Tryz.prog 561 = some [.d .nilf] := by kernel_rfl
@[go_sem] theorem u561 : (Tryz.prog.underlying 561).isSome = true := by kernel_rfl
@[go_sem] theorem k562 : tyk Tryz.prog 562 = .scal := by kernel_rfl
@[go_sem] theorem c562 : Tryz.prog.cellsOf 562 = 1 := by kernel_rfl
@[go_sem] theorem b562 : Tryz.prog.bytesOf 562 = 8 := by kernel_rfl
@[go_sem] theorem z562 : tzO Tryz.prog 562 = some [.d .nilf] := by kernel_rfl
@[go_sem] theorem u562 : (Tryz.prog.underlying 562).isSome = true := by kernel_rfl
@[go_sem] theorem k563 : tyk Tryz.prog 563 = .scal := by kernel_rfl
@[go_sem] theorem c563 : Tryz.prog.cellsOf 563 = 1 := by kernel_rfl
@[go_sem] theorem b563 : Tryz.prog.bytesOf 563 = 8 := by kernel_rfl
@[go_sem] theorem z563 : tzO Tryz.prog 563 = some [.d .nilf] := by kernel_rfl
@[go_sem] theorem u563 : (Tryz.prog.underlying 563).isSome = true := by kernel_rfl
@[go_sem] theorem k564 : tyk Tryz.prog 564 = .scal := by kernel_rfl
@[go_sem] theorem c564 : Tryz.prog.cellsOf 564 = 1 := by kernel_rfl
@[go_sem] theorem b564 : Tryz.prog.bytesOf 564 = 8 := by kernel_rfl
@[go_sem] theorem z564 : tzO Tryz.prog 564 = some [.d .nilf] := by kernel_rfl
@[go_sem] theorem u564 : (Tryz.prog.underlying 564).isSome = true := by kernel_rfl
@[go_sem] theorem k565 : tyk Tryz.prog 565 = .arr 64 5 := by kernel_rfl
@[go_sem] theorem c565 : Tryz.prog.cellsOf 565 = 64 := by kernel_rfl
@[go_sem] theorem b565 : Tryz.prog.bytesOf 565 = 64 := by kernel_rfl
@[go_sem] theorem u565 : (Tryz.prog.underlying 565).isSome = true := by kernel_rfl
@[go_sem] theorem k566 : tyk Tryz.prog 566 = .scal := by kernel_rfl
@[go_sem] theorem c566 : Tryz.prog.cellsOf 566 = 1 := by kernel_rfl
@[go_sem] theorem b566 : Tryz.prog.bytesOf 566 = 8 := by kernel_rfl
@[go_sem] theorem z566 : tzO Tryz.prog 566 = some [.d .nilf] := by kernel_rfl
@[go_sem] theorem u566 : (Tryz.prog.underlying 566).isSome = true := by kernel_rfl
@[go_sem] theorem k567 : tyk Tryz.prog 567 = .scal := by kernel_rfl
@[go_sem] theorem c567 : Tryz.prog.cellsOf 567 = 1 := by kernel_rfl
@[go_sem] theorem b567 : Tryz.prog.bytesOf 567 = 8 := by kernel_rfl
@[go_sem] theorem z567 : tzO Tryz.prog 567 = some [.d (.int .i64 0)] := by kernel_rfl
@[go_sem] theorem i567 : ikind Tryz.prog 567 = some .i64 := by kernel_rfl
@[go_sem] theorem u567 : (Tryz.prog.underlying 567).isSome = true := by kernel_rfl
@[go_sem] theorem k569 : tyk Tryz.prog 569 = .scal := by kernel_rfl
@[go_sem] theorem c569 : Tryz.prog.cellsOf 569 = 1 := by kernel_rfl
@[go_sem] theorem b569 : Tryz.prog.bytesOf 569 = 8 := by kernel_rfl
@[go_sem] theorem z569 : tzO Tryz.prog 569 = some [.d .nilf] := by kernel_rfl
@[go_sem] theorem u569 : (Tryz.prog.underlying 569).isSome = true := by kernel_rfl
@[go_sem] theorem k570 : tyk Tryz.prog 570 = .scal := by kernel_rfl
@[go_sem] theorem c570 : Tryz.prog.cellsOf 570 = 1 := by kernel_rfl
@[go_sem] theorem b570 : Tryz.prog.bytesOf 570 = 8 := by kernel_rfl
@[go_sem] theorem z570 : tzO Tryz.prog 570 = some [.d .nilf] := by kernel_rfl
@[go_sem] theorem u570 : (Tryz.prog.underlying 570).isSome = true := by kernel_rfl
@[go_sem] theorem k571 : tyk Tryz.prog 571 = .scal := by kernel_rfl
@[go_sem] theorem c571 : Tryz.prog.cellsOf 571 = 1 := by kernel_rfl
@[go_sem] theorem b571 : Tryz.prog.bytesOf 571 = 8 := by kernel_rfl
@[go_sem] theorem z571 : tzO Tryz.prog 571 = some [.d .nilf] := by kernel_rfl
@[go_sem] theorem u571 : (Tryz.prog.underlying 571).isSome = true := by kernel_rfl
@[go_sem] theorem k572 : tyk Tryz.prog 572 = .scal := by kernel_rfl
@[go_sem] theorem c572 : Tryz.prog.cellsOf 572 = 1 := by kernel_rfl
@[go_sem] theorem b572 : Tryz.prog.bytesOf 572 = 8 := by kernel_rfl
@[go_sem] theorem z572 : tzO Tryz.prog 572 = some [.d .nilf] := by kernel_rfl
@[go_sem] theorem u572 : (Tryz.prog.underlying 572).isSome = true := by kernel_rfl
@[go_sem] theorem k573 : tyk Tryz.prog 573 = .scal := by kernel_rfl
@[go_sem] theorem c573 : Tryz.prog.cellsOf 573 = 1 := by kernel_rfl
@[go_sem] theorem b573 : Tryz.prog.bytesOf 573 = 8 := by kernel_rfl
@[go_sem] theorem z573 : tzO Tryz.prog 573 = some [.d .nilf] := by kernel_rfl
@[go_sem] theorem u573 : (Tryz.prog.underlying 573).isSome = true := by kernel_rfl
@[go_sem] theorem k574 : tyk Tryz.prog 574 = .scal := by kernel_rfl
@[go_sem] theorem c574 : Tryz.prog.cellsOf 574 = 1 := by kernel_rfl
@[go_sem] theorem b574 : Tryz.prog.bytesOf 574 = 8 := by kernel_rfl
@[go_sem] theorem z574 : tzO Tryz.prog 574 = some [.d .nilf] := by kernel_rfl
@[go_sem] theorem u574 : (Tryz.prog.underlying 574).isSome = true := by kernel_rfl
@[go_sem] theorem k575 : tyk Tryz.prog 575 = .scal := by kernel_rfl
@[go_sem] theorem c575 : Tryz.prog.cellsOf 575 = 1 := by kernel_rfl
@[go_sem] theorem b575 : Tryz.prog.bytesOf 575 = 8 := by kernel_rfl
@[go_sem] theorem z575 : tzO Tryz.prog 575 = some [.d .nilf] := by kernel_rfl
@[go_sem] theorem u575 : (Tryz.prog.underlying 575).isSome = true := by kernel_rfl
@[go_sem] theorem k576 : tyk Tryz.prog 576 = .scal := by kernel_rfl
@[go_sem] theorem c576 : Tryz.prog.cellsOf 576 = 1 := by kernel_rfl
@[go_sem] theorem b576 : Tryz.prog.bytesOf 576 = 8 := by kernel_rfl
@[go_sem] theorem z576 : tzO Tryz.prog 576 = some [.d .nilf] := by kernel_rfl
@[go_sem] theorem u576 : (Tryz.prog.underlying 576).isSome = true := by kernel_rfl
@[go_sem] theorem k577 : tyk Tryz.prog 577 = .scal := by kernel_rfl
@[go_sem] theorem c577 : Tryz.prog.cellsOf 577 = 1 := by kernel_rfl
@[go_sem] theorem b577 : Tryz.prog.bytesOf 577 = 8 := by kernel_rfl
@[go_sem] theorem z577 : tzO Tryz.prog 577 = some [.d .nilf] := by kernel_rfl
@[go_sem] theorem u577 : (Tryz.prog.underlying 577).isSome = true := by kernel_rfl
@[go_sem] theorem k578 : tyk Tryz.prog 578 = .scal := by kernel_rfl
@[go_sem] theorem c578 : Tryz.prog.cellsOf 578 = 1 := by kernel_rfl
@[go_sem] theorem b578 : Tryz.prog.bytesOf 578 = 8 := by kernel_rfl
@[go_sem] theorem z578 : tzO Tryz.prog 578 = some [.d .nilf] := by kernel_rfl
@[go_sem] theorem u578 : (Tryz.prog.underlying 578).isSome = true := by kernel_rfl
@[go_sem] theorem k579 : tyk Tryz.prog 579 = .slice 611 := by kernel_rfl
@[go_sem] theorem c579 : Tryz.prog.cellsOf 579 = 1 := by kernel_rfl
@[go_sem] theorem b579 : Tryz.prog.bytesOf 579 = 24 := by kernel_rfl
@[go_sem] theorem z579 : tzO Tryz.prog 579 = some [.nil] := by kernel_rfl
@[go_sem] theorem u579 : (Tryz.prog.underlying 579).isSome = true := by kernel_rfl
@[go_sem] theorem k581 : tyk Tryz.prog 581 = .scal := by kernel_rfl
@[go_sem] theorem c581 : Tryz.prog.cellsOf 581 = 1 := by kernel_rfl
@[go_sem] theorem b581 : Tryz.prog.bytesOf 581 = 8 := by kernel_rfl
@[go_sem] theorem z581 : tzO Tryz.prog 581 = some [.d .nilf] := by kernel_rfl
@[go_sem] theorem u581 : (Tryz.prog.underlying 581).isSome = true := by kernel_rfl
@[go_sem] theorem k582 : tyk Tryz.prog 582 = .scal := by kernel_rfl
@[go_sem] theorem c582 : Tryz.prog.cellsOf 582 = 1 := by kernel_rfl
@[go_sem] theorem b582 : Tryz.prog.bytesOf 582 = 8 := by kernel_rfl
@[go_sem] theorem z582 : tzO Tryz.prog 582 = some [.d .nilf] := by kernel_rfl
@[go_sem] theorem u582 : (Tryz.prog.underlying 582).isSome = true := by kernel_rfl
@[go_sem] theorem k583 : tyk Tryz.prog 583 = .scal := by kernel_rfl
@[go_sem] theorem c583 : Tryz.prog.cellsOf 583 = 1 := by kernel_rfl
@[go_sem] theorem b583 : Tryz.prog.bytesOf 583 = 8 := by kernel_rfl
@[go_sem] theorem z583 : tzO Tryz.prog 583 = some [.d .nilf] := by kernel_rfl
@[go_sem] theorem u583 : (Tryz.prog.underlying 583).isSome = true := by kernel_rfl
@[go_sem] theorem k584 : tyk Tryz.prog 584 = .scal := by kernel_rfl
@[go_sem] theorem c584 : Tryz.prog.cellsOf 584 = 1 := by kernel_rfl
@[go_sem] theorem b584 : Tryz.prog.bytesOf 584 = 8 := by kernel_rfl
@[go_sem] theorem z584 : tzO Tryz.prog 584 = some [.d .nilf] := by kernel_rfl
@[go_sem] theorem u584 : (Tryz.prog.underlying 584).isSome = true := by kernel_rfl
@[go_sem] theorem k585 : tyk Tryz.prog 585 = .scal := by kernel_rfl
@[go_sem] theorem c585 : Tryz.prog.cellsOf 585 = 1 := by kernel_rfl
@[go_sem] theorem b585 : Tryz.prog.bytesOf 585 = 8 := by kernel_rfl
@[go_sem] theorem z585 : tzO Tryz.prog 585 = some [.d .nilf] := by kernel_rfl
@[go_sem] theorem u585 : (Tryz.prog.underlying 585).isSome = true := by kernel_rfl
@[go_sem] theorem k586 : tyk Tryz.prog 586 = .scal := by kernel_rfl
@[go_sem] theorem c586 : Tryz.prog.cellsOf 586 = 1 := by kernel_rfl
@[go_sem] theorem b586 : Tryz.prog.bytesOf 586 = 8 := by kernel_rfl
@[go_sem] theorem z586 : tzO Tryz.prog 586 = some [.d .nilf] := by kernel_rfl
@[go_sem] theorem u586 : (Tryz.prog.underlying 586).isSome = true := by kernel_rfl
@[go_sem] theorem k589 : tyk Tryz.prog 589 = .scal := by kernel_rfl
@[go_sem] theorem c589 : Tryz.prog.cellsOf 589 = 1 := by kernel_rfl
@[go_sem] theorem b589 : Tryz.prog.bytesOf 589 = 8 := by kernel_rfl
@[go_sem] theorem z589 : tzO Tryz.prog 589 = some [.d .nilf] := by kernel_rfl
@[go_sem] theorem u589 : (Tryz.prog.underlying 589).isSome = true := by kernel_rfl
@[go_sem] theorem k590 : tyk Tryz.prog 590 = .scal := by kernel_rfl
@[go_sem] theorem c590 : Tryz.prog.cellsOf 590 = 1 := by kernel_rfl
@[go_sem] theorem b590 : Tryz.prog.bytesOf 590 = 8 := by kernel_rfl
@[go_sem] theorem z590 : tzO Tryz.prog 590 = some [.d .nilf] := by kernel_rfl
@[go_sem] theorem u590 : (Tryz.prog.underlying 590).isSome = true := by kernel_rfl
@[go_sem] theorem k591 : tyk Tryz.prog 591 = .scal := by kernel_rfl
@[go_sem] theorem c591 : Tryz.prog.cellsOf 591 = 1 := by kernel_rfl
@[go_sem] theorem b591 : Tryz.prog.bytesOf 591 = 8 := by kernel_rfl
@[go_sem] theorem z591 : tzO Tryz.prog 591 = some [.d .nilf] := by kernel_rfl
@[go_sem] theorem u591 : (Tryz.prog.underlying 591).isSome = true := by kernel_rfl
@[go_sem] theorem k592 : tyk Tryz.prog 592 = .scal := by kernel_rfl
@[go_sem] theorem c592 : Tryz.prog.cellsOf 592 = 1 := by kernel_rfl
@[go_sem] theorem b592 : Tryz.prog.bytesOf 592 = 8 := by kernel_rfl
@[go_sem] theorem z592 : tzO Tryz.prog 592 = some [.d .nilf] := by kernel_rfl
@[go_sem] theorem u592 : (Tryz.prog.underlying 592).isSome = true := by kernel_rfl
@[go_sem] theorem k593 : tyk Tryz.prog 593 = .scal := by kernel_rfl
@[go_sem] theorem c593 : Tryz.prog.cellsOf 593 = 1 := by kernel_rfl
@[go_sem] theorem b593 : Tryz.prog.bytesOf 593 = 8 := by kernel_rfl
@[go_sem] theorem z593 : tzO Tryz.prog 593 = some [.d .nilf] := by kernel_rfl
@[go_sem] theorem u593 : (Tryz.prog.underlying 593).isSome = true := by kernel_rfl
@[go_sem] theorem k594 : tyk Tryz.prog 594 = .scal := by kernel_rfl
@[go_sem] theorem c594 : Tryz.prog.cellsOf 594 = 1 := by kernel_rfl
@[go_sem] theorem b594 : Tryz.prog.bytesOf 594 = 8 := by kernel_rfl
@[go_sem] theorem z594 : tzO Tryz.prog 594 = some [.d .nilf] := by kernel_rfl
@[go_sem] theorem u594 : (Tryz.prog.underlying 594).isSome = true := by kernel_rfl
@[go_sem] theorem k596 : tyk Tryz.prog 596 = .scal := by kernel_rfl
@[go_sem] theorem c596 : Tryz.prog.cellsOf 596 = 1 := by kernel_rfl
@[go_sem] theorem b596 : Tryz.prog.bytesOf 596 = 8 := by kernel_rfl
@[go_sem] theorem z596 : tzO Tryz.prog 596 = some [.d .nilf] := by kernel_rfl
@[go_sem] theorem u596 : (Tryz.prog.underlying 596).isSome = true := by kernel_rfl
@[go_sem] theorem k597 : tyk Tryz.prog 597 = .scal := by kernel_rfl
@[go_sem] theorem c597 : Tryz.prog.cellsOf 597 = 1 := by kernel_rfl
@[go_sem] theorem b597 : Tryz.prog.bytesOf 597 = 8 := by kernel_rfl
@[go_sem] theorem z597 : tzO Tryz.prog 597 = some [.d .nilf] := by kernel_rfl
@[go_sem] theorem u597 : (Tryz.prog.underlying 597).isSome = true := by kernel_rfl
@[go_sem] theorem k598 : tyk Tryz.prog 598 = .scal := by kernel_rfl
@[go_sem] theorem c598 : Tryz.prog.cellsOf 598 = 1 := by kernel_rfl
@[go_sem] theorem b598 : Tryz.prog.bytesOf 598 = 8 := by kernel_rfl
@[go_sem] theorem z598 : tzO Tryz.prog 598 = some [.d .nilf] := by kernel_rfl
@[go_sem] theorem u598 : (Tryz.prog.underlying 598).isSome = true := by kernel_rfl
@[go_sem] theorem k599 : tyk Tryz.prog 599 = .scal := by kernel_rfl
@[go_sem] theorem c599 : Tryz.prog.cellsOf 599 = 1 := by kernel_rfl
@[go_sem] theorem b599 : Tryz.prog.bytesOf 599 = 8 := by kernel_rfl
@[go_sem] theorem z599 : tzO Tryz.prog 599 = some [.d (.int .u64 0)] := by kernel_rfl
@[go_sem] theorem i599 : ikind Tryz.prog 599 = some .u64 := by kernel_rfl
@[go_sem] theorem u599 : (Tryz.prog.underlying 599).isSome = true := by kernel_rfl
@[go_sem] theorem k600 : tyk Tryz.prog 600 = .scal := by kernel_rfl
@[go_sem] theorem c600 : Tryz.prog.cellsOf 600 = 1 := by kernel_rfl
@[go_sem] theorem b600 : Tryz.prog.bytesOf 600 = 8 := by kernel_rfl
@[go_sem] theorem z600 : tzO Tryz.prog 600 = some [.d .nilf] := by kernel_rfl
@[go_sem] theorem u600 : (Tryz.prog.underlying 600).isSome = true := by kernel_rfl
@[go_sem] theorem k601 : tyk Tryz.prog 601 = .scal := by kernel_rfl
@[go_sem] theorem c601 : Tryz.prog.cellsOf 601 = 1 := by kernel_rfl
@[go_sem] theorem b601 : Tryz.prog.bytesOf 601 = 8 := by kernel_rfl
@[go_sem] theorem z601 : tzO Tryz.prog 601 = some [.d .nilf] := by kernel_rfl
@[go_sem] theorem u601 : (Tryz.prog.underlying 601).isSome = true := by kernel_rfl
@[go_sem] theorem k602 : tyk Tryz.prog 602 = .scal := by kernel_rfl
@[go_sem] theorem c602 : Tryz.prog.cellsOf 602 = 1 := by kernel_rfl
@[go_sem] theorem b602 : Tryz.prog.bytesOf 602 = 8 := by kernel_rfl
@[go_sem] theorem z602 : tzO Tryz.prog 602 = some [.d .nilf] := by kernel_rfl
@[go_sem] theorem u602 : (Tryz.prog.underlying 602).isSome = true := by kernel_rfl
@[go_sem] theorem k603 : tyk Tryz.prog 603 = .scal := by kernel_rfl
@[go_sem] theorem c603 : Tryz.prog.cellsOf 603 = 1 := by kernel_rfl
@[go_sem] theorem b603 : Tryz.prog.bytesOf 603 = 8 := by kernel_rfl
@[go_sem] theorem z603 : tzO Tryz.prog 603 = some [.d .nilf] := by kernel_rfl
@[go_sem] theorem u603 : (Tryz.prog.underlying 603).isSome = true := by kernel_rfl
@[go_sem] theorem k604 : tyk Tryz.prog 604 = .scal := by kernel_rfl
@[go_sem] theorem c604 : Tryz.prog.cellsOf 604 = 1 := by kernel_rfl
@[go_sem] theorem b604 : Tryz.prog.bytesOf 604 = 8 := by kernel_rfl
@[go_sem] theorem z604 : tzO Tryz.prog 604 = some [.d .nilf] := by kernel_rfl
@[go_sem] theorem u604 : (Tryz.prog.underlying 604).isSome = true := by kernel_rfl
@[go_sem] theorem k605 : tyk Tryz.prog 605 = .scal := by kernel_rfl
@[go_sem] theorem c605 : Tryz.prog.cellsOf 605 = 1 := by kernel_rfl
@[go_sem] theorem b605 : Tryz.prog.bytesOf 605 = 8 := by kernel_rfl
@[go_sem] theorem z605 : tzO Tryz.prog 605 = some [.d .nilf] := by kernel_rfl
@[go_sem] theorem u605 : (Tryz.prog.underlying 605).isSome = true := by kernel_rfl
@[go_sem] theorem k606 : tyk Tryz.prog 606 = .struct [(0, 133), (4, 3), (5, 131)] := by kernel_rfl
@[go_sem] theorem c606 : Tryz.prog.cellsOf 606 = 6 := by kernel_rfl
@[go_sem] theorem b606 : Tryz.prog.bytesOf 606 = 96 := by kernel_rfl
@[go_sem] theorem z606 : tzO Tryz.prog 606 = some [.d (.int .u32 0), .nil, .nil, .d (.int .u32 0), .d (.int .i64 0), .nil] := by kernel_rfl
@[go_sem] theorem u606 : (Tryz.prog.underlying 606).isSome = true := by kernel_rfl
@[go_sem] theorem k607 : tyk Tryz.prog 607 = .struct [(0, 133), (4, 3), (5, 131)] := by kernel_rfl
@[go_sem] theorem c607 : Tryz.prog.cellsOf 607 = 6 := by kernel_rfl
@[go_sem] theorem b607 : Tryz.prog.bytesOf 607 = 96 := by kernel_rfl
@[go_sem] theorem z607 : tzO Tryz.prog 607 = some [.d (.int .u32 0), .nil, .nil, .d (.int .u32 0), .d (.int .i64 0), .nil] := by kernel_rfl
@[go_sem] theorem u607 : (Tryz.prog.underlying 607).isSome = true := by kernel_rfl
@[go_sem] theorem k608 : tyk Tryz.prog 608 = .scal := by kernel_rfl
@[go_sem] theorem c608 : Tryz.prog.cellsOf 608 = 1 := by kernel_rfl
@[go_sem] theorem b608 : Tryz.prog.bytesOf 608 = 8 := by kernel_rfl
@[go_sem] theorem z608 : tzO Tryz.prog 608 = some [.d .nilf] := by kernel_rfl
@[go_sem] theorem u608 : (Tryz.prog.underlying 608).isSome = true := by kernel_rfl
@[go_sem] theorem k609 : tyk Tryz.prog 609 = .scal := by kernel_rfl
@[go_sem] theorem c609 : Tryz.prog.cellsOf 609 = 1 := by kernel_rfl
@[go_sem] theorem b609 : Tryz.prog.bytesOf 609 = 8 := by kernel_rfl
@[go_sem] theorem z609 : tzO Tryz.prog 609 = some [.d .nilf] := by kernel_rfl
@[go_sem] theorem u609 : (Tryz.prog.underlying 609).isSome = true := by kernel_rfl
@[go_sem] theorem k610 : tyk Tryz.prog 610 = .struct [(0, 3), (1, 62)] := by kernel_rfl
@[go_sem] theorem c610 : Tryz.prog.cellsOf 610 = 2 := by kernel_rfl
@[go_sem] theorem b610 : Tryz.prog.bytesOf 610 = 16 := by kernel_rfl
@[go_sem] theorem z610 : tzO Tryz.prog 610 = some [.d (.int .i64 0), .d (.int .u64 0)] := by kernel_rfl
@[go_sem] theorem u610 : (Tryz.prog.underlying 610).isSome = true := by kernel_rfl
@[go_sem] theorem k611 : tyk Tryz.prog 611 = .struct [(0, 3), (1, 62)] := by kernel_rfl
@[go_sem] theorem c611 : Tryz.prog.cellsOf 611 = 2 := by kernel_rfl
@[go_sem] theorem b611 : Tryz.prog.bytesOf 611 = 16 := by kernel_rfl
@[go_sem] theorem z611 : tzO Tryz.prog 611 = some [.d (.int .i64 0), .d (.int .u64 0)] := by kernel_rfl
@[go_sem] theorem u611 : (Tryz.prog.underlying 611).isSome = true := by kernel_rfl
@[go_sem] theorem k612 : tyk Tryz.prog 612 = .scal := by kernel_rfl
@[go_sem] theorem c612 : Tryz.prog.cellsOf 612 = 1 := by kernel_rfl
@[go_sem] theorem b612 : Tryz.prog.bytesOf 612 = 8 := by kernel_rfl
@[go_sem] theorem z612 : tzO Tryz.prog 612 = some [.d .nilf] := by kernel_rfl
@[go_sem] theorem u612 : (Tryz.prog.underlying 612).isSome = true := by kernel_rfl
@[go_sem] theorem k613 : tyk Tryz.prog 613 = .scal := by kernel_rfl
@[go_sem] theorem c613 : Tryz.prog.cellsOf 613 = 1 := by kernel_rfl
@[go_sem] theorem b613 : Tryz.prog.bytesOf 613 = 8 := by kernel_rfl
@[go_sem] theorem z613 : tzO Tryz.prog 613 = some [.d .nilf] := by kernel_rfl
@[go_sem] theorem u613 : (Tryz.prog.underlying 613).isSome = true := by kernel_rfl
@[go_sem] theorem k614 : tyk Tryz.prog 614 = .scal := by kernel_rfl
@[go_sem] theorem c614 : Tryz.prog.cellsOf 614 = 1 := by kernel_rfl
@[go_sem] theorem b614 : Tryz.prog.bytesOf 614 = 8 := by kernel_rfl
@[go_sem] theorem z614 : tzO Tryz.prog 614 = some [.d .nilp] := by kernel_rfl
@[go_sem] theorem u614 : (Tryz.prog.underlying 614).isSome = true := by kernel_rfl
@[go_sem] theorem k616 : tyk Tryz.prog 616 = .scal := by kernel_rfl
@[go_sem] theorem c616 : Tryz.prog.cellsOf 616 = 1 := by kernel_rfl
@[go_sem] theorem b616 : Tryz.prog.bytesOf 616 = 8 := by kernel_rfl
@[go_sem] theorem z616 : tzO Tryz.prog 616 = some [.d .nilf] := by kernel_rfl
@[go_sem] theorem u616 : (Tryz.prog.underlying 616).isSome = true := by kernel_rfl
@[go_sem] theorem k617 : tyk Tryz.prog 617 = .scal := by kernel_rfl
@[go_sem] theorem c617 : Tryz.prog.cellsOf 617 = 1 := by kernel_rfl
@[go_sem] theorem b617 : Tryz.prog.bytesOf 617 = 8 := by kernel_rfl
@[go_sem] theorem z617 : tzO Tryz.prog 617 = some [.d .nilf] := by kernel_rfl
@[go_sem] theorem u617 : (Tryz.prog.underlying 617).isSome = true := by kernel_rfl
@[go_sem] theorem k618 : tyk Tryz.prog 618 = .scal := by kernel_rfl
@[go_sem] theorem c618 : Tryz.prog.cellsOf 618 = 1 := by kernel_rfl
@[go_sem] theorem b618 : Tryz.prog.bytesOf 618 = 8 := by kernel_rfl
@[go_sem] theorem z618 : tzO Tryz.prog 618 = some [.d .nilf] := by kernel_rfl
@[go_sem] theorem u618 : (Tryz.prog.underlying 618).isSome = true := by kernel_rfl
@[go_sem] theorem k619 : tyk Tryz.prog 619 = .scal := by kernel_rfl
@[go_sem] theorem c619 : Tryz.prog.cellsOf 619 = 1 := by kernel_rfl
@[go_sem] theorem b619 : Tryz.prog.bytesOf 619 = 8 := by kernel_rfl
@[go_sem] theorem z619 : tzO Tryz.prog 619 = some [.d .nilf] := by kernel_rfl
@[go_sem] theorem u619 : (Tryz.prog.underlying 619).isSome = true := by kernel_rfl
@[go_sem] theorem k620 : tyk Tryz.prog 620 = .scal := by kernel_rfl
@[go_sem] theorem c620 : Tryz.prog.cellsOf 620 = 1 := by kernel_rfl
@[go_sem] theorem b620 : Tryz.prog.bytesOf 620 = 8 := by kernel_rfl
@[go_sem] theorem z620 : tzO Tryz.prog 620 = some [.d .nilf] := by kernel_rfl
@[go_sem] theorem u620 : (Tryz.prog.underlying 620).isSome = true := by kernel_rfl
@[go_sem] theorem k622 : tyk Tryz.prog 622 = .scal := by kernel_rfl
@[go_sem] theorem c622 : Tryz.prog.cellsOf 622 = 1 := by kernel_rfl
@[go_sem] theorem b622 : Tryz.prog.bytesOf 622 = 8 := by kernel_rfl
@[go_sem] theorem z622 : tzO Tryz.prog 622 = some [.d .nilf] := by kernel_rfl
@[go_sem] theorem u622 : (Tryz.prog.underlying 622).isSome = true := by kernel_rfl
@[go_sem] theorem k623 : tyk Tryz.prog 623 = .scal := by kernel_rfl
@[go_sem] theorem c623 : Tryz.prog.cellsOf 623 = 1 := by kernel_rfl
@[go_sem] theorem b623 : Tryz.prog.bytesOf 623 = 8 := by kernel_rfl
@[go_sem] theorem z623 : tzO Tryz.prog 623 = some [.d .nilf] := by kernel_rfl
@[go_sem] theorem u623 : (Tryz.prog.underlying 623).isSome = true := by kernel_rfl
@[go_sem] theorem k624 : tyk Tryz.prog 624 = .scal := by kernel_rfl
@[go_sem] theorem c624 : Tryz.prog.cellsOf 624 = 1 := by kernel_rfl
@[go_sem] theorem b624 : Tryz.prog.bytesOf 624 = 8 := by kernel_rfl
@[go_sem] theorem z624 : tzO Tryz.prog 624 = some [.d .nilf] := by kernel_rfl
@[go_sem] theorem u624 : (Tryz.prog.underlying 624).isSome = true := by kernel_rfl
@[go_sem] theorem k626 : tyk Tryz.prog 626 = .scal := by kernel_rfl
@[go_sem] theorem c626 : Tryz.prog.cellsOf 626 = 1 := by kernel_rfl
@[go_sem] theorem b626 : Tryz.prog.bytesOf 626 = 8 := by kernel_rfl
@[go_sem] theorem z626 : tzO Tryz.prog 626 = some [.d .nilf] := by kernel_rfl
@[go_sem] theorem u626 : (Tryz.prog.underlying 626).isSome = true := by kernel_rfl
@[go_sem] theorem k627 : tyk Tryz.prog 627 = .scal := by kernel_rfl
@[go_sem] theorem c627 : Tryz.prog.cellsOf 627 = 1 := by kernel_rfl
@[go_sem] theorem b627 : Tryz.prog.bytesOf 627 = 8 := by kernel_rfl
@[go_sem] theorem z627 : tzO Tryz.prog 627 = some [.d .nilf] := by kernel_rfl
@[go_sem] theorem u627 : (Tryz.prog.underlying 627).isSome = true := by kernel_rfl
@[go_sem] theorem k629 : tyk Tryz.prog 629 = .scal := by kernel_rfl
@[go_sem] theorem c629 : Tryz.prog.cellsOf 629 = 1 := by kernel_rfl
@[go_sem] theorem b629 : Tryz.prog.bytesOf 629 = 8 := by kernel_rfl
@[go_sem] theorem z629 : tzO Tryz.prog 629 = some [.d .nilf] := by kernel_rfl
@[go_sem] theorem u629 : (Tryz.prog.underlying 629).isSome = true := by kernel_rfl
@[go_sem] theorem k630 : tyk Tryz.prog 630 = .scal := by kernel_rfl
@[go_sem] theorem c630 : Tryz.prog.cellsOf 630 = 1 := by kernel_rfl
@[go_sem] theorem b630 : Tryz.prog.bytesOf 630 = 8 := by kernel_rfl
@[go_sem] theorem z630 : tzO Tryz.prog 630 = some [.d .nilp] := by kernel_rfl
@[go_sem] theorem u630 : (Tryz.prog.underlying 630).isSome = true := by kernel_rfl
@[go_sem] theorem k631 : tyk Tryz.prog 631 = .struct [(0, 158), (1, 158)] := by kernel_rfl
@[go_sem] theorem c631 : Tryz.prog.cellsOf 631 = 2 := by kernel_rfl
@[go_sem] theorem b631 : Tryz.prog.bytesOf 631 = 48 := by kernel_rfl
@[go_sem] theorem z631 : tzO Tryz.prog 631 = some [.nil, .nil] := by kernel_rfl
@[go_sem] theorem u631 : (Tryz.prog.underlying 631).isSome = true := by kernel_rfl
@[go_sem] theorem k632 : tyk Tryz.prog 632 = .struct [(0, 158), (1, 158)] := by kernel_rfl
@[go_sem] theorem c632 : Tryz.prog.cellsOf 632 = 2 := by kernel_rfl
@[go_sem] theorem b632 : Tryz.prog.bytesOf 632 = 48 := by kernel_rfl
@[go_sem] theorem z632 : tzO Tryz.prog 632 = some [.nil, .nil] := by kernel_rfl
@[go_sem] theorem u632 : (Tryz.prog.underlying 632).isSome = true := by kernel_rfl
@[go_sem] theorem k633 : tyk Tryz.prog 633 = .struct [(0, 607), (6, 147), (40, 22), (41, 632), (43, 450), (44, 3), (45, 3), (46, 579), (47, 24)] := by kernel_rfl
@[go_sem] theorem c633 : Tryz.prog.cellsOf 633 = 48 := by kernel_rfl
@[go_sem] theorem b633 : Tryz.prog.bytesOf 633 = 320 := by kernel_rfl
@[go_sem] theorem u633 : (Tryz.prog.underlying 633).isSome = true := by kernel_rfl
@[go_sem] theorem k634 : tyk Tryz.prog 634 = .struct [(0, 607), (6, 147), (40, 22), (41, 632), (43, 450), (44, 3), (45, 3), (46, 579), (47, 24)] := by kernel_rfl
@[go_sem] theorem c634 : Tryz.prog.cellsOf 634 = 48 := by kernel_rfl
@[go_sem] theorem b634 : Tryz.prog.bytesOf 634 = 320 := by kernel_rfl
@[go_sem] theorem u634 : (Tryz.prog.underlying 634).isSome = true := by kernel_rfl
@[go_sem] theorem k635 : tyk Tryz.prog 635 = .scal := by kernel_rfl
@[go_sem] theorem c635 : Tryz.prog.cellsOf 635 = 1 := by kernel_rfl
@[go_sem] theorem b635 : Tryz.prog.bytesOf 635 = 8 := by kernel_rfl
@[go_sem] theorem z635 : tzO Tryz.prog 635 = some [.d .nilf] := by kernel_rfl
@[go_sem] theorem u635 : (Tryz.prog.underlying 635).isSome = true := by kernel_rfl
@[go_sem] theorem k636 : tyk Tryz.prog 636 = .scal := by kernel_rfl
@[go_sem] theorem c636 : Tryz.prog.cellsOf 636 = 1 := by kernel_rfl
@[go_sem] theorem b636 : Tryz.prog.bytesOf 636 = 8 := by kernel_rfl
@[go_sem] theorem z636 : tzO Tryz.prog 636 = some [.d .nilf] := by kernel_rfl
@[go_sem] theorem u636 : (Tryz.prog.underlying 636).isSome = true := by kernel_rfl
@[go_sem] theorem k637 : tyk Tryz.prog 637 = .arr 3 61 := by kernel_rfl
@[go_sem] theorem c637 : Tryz.prog.cellsOf 637 = 96 := by kernel_rfl
@[go_sem] theorem b637 : Tryz.prog.bytesOf 637 = 96 := by kernel_rfl
@[go_sem] theorem u637 : (Tryz.prog.underlying 637).isSome = true := by kernel_rfl
@[go_sem] theorem k638 : tyk Tryz.prog 638 = .scal := by kernel_rfl
@[go_sem] theorem c638 : Tryz.prog.cellsOf 638 = 1 := by kernel_rfl
@[go_sem] theorem b638 : Tryz.prog.bytesOf 638 = 8 := by kernel_rfl
@[go_sem] theorem z638 : tzO Tryz.prog 638 = some [.d .nilf] := by kernel_rfl
@[go_sem] theorem u638 : (Tryz.prog.underlying 638).isSome = true := by kernel_rfl
@[go_sem] theorem k640 : tyk Tryz.prog 640 = .scal := by kernel_rfl
@[go_sem] theorem c640 : Tryz.prog.cellsOf 640 = 1 := by kernel_rfl
@[go_sem] theorem b640 : Tryz.prog.bytesOf 640 = 8 := by kernel_rfl
@[go_sem] theorem z640 : tzO Tryz.prog 640 = some [.d .nilf] := by kernel_rfl
@[go_sem] theorem u640 : (Tryz.prog.underlying 640).isSome = true := by kernel_rfl
@[go_sem] theorem k641 : tyk Tryz.prog 641 = .arr 5 61 := by kernel_rfl
@[go_sem] theorem c641 : Tryz.prog.cellsOf 641 = 160 := by kernel_rfl
@[go_sem] theorem b641 : Tryz.prog.bytesOf 641 = 160 := by kernel_rfl
@[go_sem] theorem u641 : (Tryz.prog.underlying 641).isSome = true := by kernel_rfl
@[go_sem] theorem k642 : tyk Tryz.prog 642 = .scal := by kernel_rfl
@[go_sem] theorem c642 : Tryz.prog.cellsOf 642 = 1 := by kernel_rfl
@[go_sem] theorem b642 : Tryz.prog.bytesOf 642 = 8 := by kernel_rfl
@[go_sem] theorem z642 : tzO Tryz.prog 642 = some [.d .nilf] := by kernel_rfl
@[go_sem] theorem u642 : (Tryz.prog.underlying 642).isSome = true := by kernel_rfl
@[go_sem] theorem k643 : tyk Tryz.prog 643 = .arr 2 158 := by kernel_rfl
@[go_sem] theorem c643 : Tryz.prog.cellsOf 643 = 2 := by kernel_rfl
@[go_sem] theorem b643 : Tryz.prog.bytesOf 643 = 48 := by kernel_rfl
@[go_sem] theorem z643 : tzO Tryz.prog 643 = some [.nil, .nil] := by kernel_rfl
@[go_sem] theorem u643 : (Tryz.prog.underlying 643).isSome = true := by kernel_rfl
@[go_sem] theorem k645 : tyk Tryz.prog 645 = .scal := by kernel_rfl
@[go_sem] theorem c645 : Tryz.prog.cellsOf 645 = 1 := by kernel_rfl
@[go_sem] theorem b645 : Tryz.prog.bytesOf 645 = 8 := by kernel_rfl
@[go_sem] theorem z645 : tzO Tryz.prog 645 = some [.d .nilf] := by kernel_rfl
@[go_sem] theorem u645 : (Tryz.prog.underlying 645).isSome = true := by kernel_rfl
@[go_sem] theorem k646 : tyk Tryz.prog 646 = .scal := by kernel_rfl
@[go_sem] theorem c646 : Tryz.prog.cellsOf 646 = 1 := by kernel_rfl
@[go_sem] theorem b646 : Tryz.prog.bytesOf 646 = 8 := by kernel_rfl
@[go_sem] theorem z646 : tzO Tryz.prog 646 = some [.d .nilf] := by kernel_rfl
@[go_sem] theorem u646 : (Tryz.prog.underlying 646).isSome = true := by kernel_rfl
@[go_sem] theorem k647 : tyk Tryz.prog 647 = .scal := by kernel_rfl
@[go_sem] theorem c647 : Tryz.prog.cellsOf 647 = 1 := by kernel_rfl
@[go_sem] theorem b647 : Tryz.prog.bytesOf 647 = 8 := by kernel_rfl
@[go_sem] theorem z647 : tzO Tryz.prog 647 = some [.d .nilf] := by kernel_rfl
@[go_sem] theorem u647 : (Tryz.prog.underlying 647).isSome = true := by kernel_rfl
@[go_sem] theorem k649 : tyk Tryz.prog 649 = .scal := by kernel_rfl
@[go_sem] theorem c649 : Tryz.prog.cellsOf 649 = 1 := by kernel_rfl
@[go_sem] theorem b649 : Tryz.prog.bytesOf 649 = 8 := by kernel_rfl
@[go_sem] theorem z649 : tzO Tryz.prog 649 = some [.d .nilf] := by kernel_rfl
@[go_sem] theorem u649 : (Tryz.prog.underlying 649).isSome = true := by kernel_rfl
@[go_sem] theorem k651 : tyk Tryz.prog 651 = .scal := by kernel_rfl
@[go_sem] theorem c651 : Tryz.prog.cellsOf 651 = 1 := by kernel_rfl
@[go_sem] theorem b651 : Tryz.prog.bytesOf 651 = 8 := by kernel_rfl
@[go_sem] theorem z651 : tzO Tryz.prog 651 = some [.d .nilf] := by kernel_rfl
@[go_sem] theorem u651 : (Tryz.prog.underlying 651).isSome = true := by kernel_rfl
@[go_sem] theorem k652 : tyk Tryz.prog 652 = .scal := by kernel_rfl
@[go_sem] theorem c652 : Tryz.prog.cellsOf 652 = 1 := by kernel_rfl
@[go_sem] theorem b652 : Tryz.prog.bytesOf 652 = 8 := by kernel_rfl
@[go_sem] theorem z652 : tzO Tryz.prog 652 = some [.d .nilf] := by kernel_rfl
@[go_sem] theorem u652 : (Tryz.prog.underlying 652).isSome = true := by kernel_rfl
@[go_sem] theorem k653 : tyk Tryz.prog 653 = .scal := by kernel_rfl
@[go_sem] theorem c653 : Tryz.prog.cellsOf 653 = 1 := by kernel_rfl
@[go_sem] theorem b653 : Tryz.prog.bytesOf 653 = 8 := by kernel_rfl
@[go_sem] theorem z653 : tzO Tryz.prog 653 = some [.d .nilf] := by kernel_rfl
@[go_sem] theorem u653 : (Tryz.prog.underlying 653).isSome = true := by kernel_rfl
@[go_sem] theorem k654 : tyk Tryz.prog 654 = .arr 3 653 := by kernel_rfl
@[go_sem] theorem c654 : Tryz.prog.cellsOf 654 = 3 := by kernel_rfl
@[go_sem] theorem b654 : Tryz.prog.bytesOf 654 = 24 := by kernel_rfl
@[go_sem] theorem z654 : tzO Tryz.prog 654 = some [.d .nilf, .d .nilf, .d .nilf] := by kernel_rfl
@[go_sem] theorem u654 : (Tryz.prog.underlying 654).isSome = true := by kernel_rfl
@[go_sem] theorem k655 : tyk Tryz.prog 655 = .scal := by kernel_rfl
@[go_sem] theorem c655 : Tryz.prog.cellsOf 655 = 1 := by kernel_rfl
@[go_sem] theorem b655 : Tryz.prog.bytesOf 655 = 8 := by kernel_rfl
@[go_sem] theorem z655 : tzO Tryz.prog 655 = some [.d .nilf] := by kernel_rfl
@[go_sem] theorem u655 : (Tryz.prog.underlying 655).isSome = true := by kernel_rfl
@[go_sem] theorem k657 : tyk Tryz.prog 657 = .scal := by kernel_rfl
@[go_sem] theorem c657 : Tryz.prog.cellsOf 657 = 1 := by kernel_rfl
@[go_sem] theorem b657 : Tryz.prog.bytesOf 657 = 8 := by kernel_rfl
@[go_sem] theorem z657 : tzO Tryz.prog 657 = some [.d .nilf] := by kernel_rfl
@[go_sem] theorem u657 : (Tryz.prog.underlying 657).isSome = true := by kernel_rfl
@[go_sem] theorem k659 : tyk Tryz.prog 659 = .scal := by kernel_rfl
@[go_sem] theorem c659 : Tryz.prog.cellsOf 659 = 1 := by kernel_rfl
@[go_sem] theorem b659 : Tryz.prog.bytesOf 659 = 8 := by kernel_rfl
@[go_sem] theorem z659 : tzO Tryz.prog 659 = some [.d .nilf] := by kernel_rfl
@[go_sem] theorem u659 : (Tryz.prog.underlying 659).isSome = true := by kernel_rfl
@[go_sem] theorem k660 : tyk Tryz.prog 660 = .scal := by kernel_rfl
@[go_sem] theorem c660 : Tryz.prog.cellsOf 660 = 1 := by kernel_rfl
@[go_sem] theorem b660 : Tryz.prog.bytesOf 660 = 8 := by kernel_rfl
@[go_sem] theorem z660 : tzO Tryz.prog 660 = some [.d .nilf] := by kernel_rfl
@[go_sem] theorem u660 : (Tryz.prog.underlying 660).isSome = true := by kernel_rfl
@[go_sem] theorem k661 : tyk Tryz.prog 661 = .scal := by kernel_rfl
@[go_sem] theorem c661 : Tryz.prog.cellsOf 661 = 1 := by kernel_rfl
@[go_sem] theorem b661 : Tryz.prog.bytesOf 661 = 8 := by kernel_rfl
@[go_sem] theorem z661 : tzO Tryz.prog 661 = some [.d .nilp] := by kernel_rfl
@[go_sem] theorem u661 : (Tryz.prog.underlying 661).isSome = true := by kernel_rfl
@[go_sem] theorem k662 : tyk Tryz.prog 662 = .scal := by kernel_rfl
@[go_sem] theorem c662 : Tryz.prog.cellsOf 662 = 1 := by kernel_rfl
@[go_sem] theorem b662 : Tryz.prog.bytesOf 662 = 8 := by kernel_rfl
@[go_sem] theorem z662 : tzO Tryz.prog 662 = some [.d .nilf] := by kernel_rfl
@[go_sem] theorem u662 : (Tryz.prog.underlying 662).isSome = true := by kernel_rfl
@[go_sem] theorem k663 : tyk Tryz.prog 663 = .scal := by kernel_rfl
@[go_sem] theorem c663 : Tryz.prog.cellsOf 663 = 1 := by kernel_rfl
@[go_sem] theorem b663 : Tryz.prog.bytesOf 663 = 8 := by kernel_rfl
@[go_sem] theorem z663 : tzO Tryz.prog 663 = some [.d .nilf] := by kernel_rfl
@[go_sem] theorem u663 : (Tryz.prog.underlying 663).isSome = true := by kernel_rfl
@[go_sem] theorem k664 : tyk Tryz.prog 664 = .scal := by kernel_rfl
@[go_sem] theorem c664 : Tryz.prog.cellsOf 664 = 1 := by kernel_rfl
@[go_sem] theorem b664 : Tryz.prog.bytesOf 664 = 8 := by kernel_rfl
@[go_sem] theorem z664 : tzO Tryz.prog 664 = some [.d .nilf] := by kernel_rfl
@[go_sem] theorem u664 : (Tryz.prog.underlying 664).isSome = true := by kernel_rfl
@[go_sem] theorem k665 : tyk Tryz.prog 665 = .scal := by kernel_rfl
@[go_sem] theorem c665 : Tryz.prog.cellsOf 665 = 1 := by kernel_rfl
@[go_sem] theorem b665 : Tryz.prog.bytesOf 665 = 8 := by kernel_rfl
@[go_sem] theorem z665 : tzO Tryz.prog 665 = some [.d .nilf] := by kernel_rfl
@[go_sem] theorem u665 : (Tryz.prog.underlying 665).isSome = true := by kernel_rfl
@[go_sem] theorem k666 : tyk Tryz.prog 666 = .scal := by kernel_rfl
@[go_sem] theorem c666 : Tryz.prog.cellsOf 666 = 1 := by kernel_rfl
@[go_sem] theorem b666 : Tryz.prog.bytesOf 666 = 8 := by kernel_rfl
@[go_sem] theorem z666 : tzO Tryz.prog 666 = some [.d .nilf] := by kernel_rfl
@[go_sem] theorem u666 : (Tryz.prog.underlying 666).isSome = true := by kernel_rfl
@[go_sem] theorem k667 : tyk Tryz.prog 667 = .scal := by kernel_rfl
@[go_sem] theorem c667 : Tryz.prog.cellsOf 667 = 1 := by kernel_rfl
@[go_sem] theorem b667 : Tryz.prog.bytesOf 667 = 8 := by kernel_rfl
@[go_sem] theorem z667 : tzO Tryz.prog 667 = some [.d .nilf] := by kernel_rfl
@[go_sem] theorem u667 : (Tryz.prog.underlying 667).isSome = true := by kernel_rfl
@[go_sem] theorem k668 : tyk Tryz.prog 668 = .scal := by kernel_rfl
@[go_sem] theorem c668 : Tryz.prog.cellsOf 668 = 1 := by kernel_rfl
@[go_sem] theorem b668 : Tryz.prog.bytesOf 668 = 8 := by kernel_rfl
@[go_sem] theorem z668 : tzO Tryz.prog 668 = some [.d .nilf] := by kernel_rfl
@[go_sem] theorem u668 : (Tryz.prog.underlying 668).isSome = true := by kernel_rfl
@[go_sem] theorem k669 : tyk Tryz.prog 669 = .scal := by kernel_rfl
@[go_sem] theorem c669 : Tryz.prog.cellsOf 669 = 1 := by kernel_rfl
@[go_sem] theorem b669 : Tryz.prog.bytesOf 669 = 8 := by kernel_rfl
@[go_sem] theorem z669 : tzO Tryz.prog 669 = some [.d .nilf] := by kernel_rfl
@[go_sem] theorem u669 : (Tryz.prog.underlying 669).isSome = true := by kernel_rfl
@[go_sem] theorem k670 : tyk Tryz.prog 670 = .scal := by kernel_rfl
@[go_sem] theorem c670 : Tryz.prog.cellsOf 670 = 1 := by kernel_rfl
@[go_sem] theorem b670 : Tryz.prog.bytesOf 670 = 8 := by kernel_rfl
@[go_sem] theorem z670 : tzO Tryz.prog 670 = some [.d .nilf] := by kernel_rfl
@[go_sem] theorem u670 : (Tryz.prog.underlying 670).isSome = true := by kernel_rfl
@[go_sem] theorem k671 : tyk Tryz.prog 671 = .scal := by kernel_rfl
@[go_sem] theorem c671 : Tryz.prog.cellsOf 671 = 1 := by kernel_rfl
@[go_sem] theorem b671 : Tryz.prog.bytesOf 671 = 8 := by kernel_rfl
@[go_sem] theorem z671 : tzO Tryz.prog 671 = some [.d .nilf] := by kernel_rfl
@[go_sem] theorem u671 : (Tryz.prog.underlying 671).isSome = true := by kernel_rfl
@[go_sem] theorem k672 : tyk Tryz.prog 672 = .scal := by kernel_rfl
@[go_sem] theorem c672 : Tryz.prog.cellsOf 672 = 1 := by kernel_rfl
@[go_sem] theorem b672 : Tryz.prog.bytesOf 672 = 8 := by kernel_rfl
@[go_sem] theorem z672 : tzO Tryz.prog 672 = some [.d .nilf] := by kernel_rfl
@[go_sem] theorem u672 : (Tryz.prog.underlying 672).isSome = true := by kernel_rfl
@[go_sem] theorem k673 : tyk Tryz.prog 673 = .arr 2 2 := by kernel_rfl
@[go_sem] theorem c673 : Tryz.prog.cellsOf 673 = 2 := by kernel_rfl
@[go_sem] theorem b673 : Tryz.prog.bytesOf 673 = 16 := by kernel_rfl
@[go_sem] theorem z673 : tzO Tryz.prog 673 = some [.d (.int .i64 0), .d (.int .i64 0)] := by kernel_rfl
@[go_sem] theorem u673 : (Tryz.prog.underlying 673).isSome = true := by kernel_rfl
@[go_sem] theorem k675 : tyk Tryz.prog 675 = .scal := by kernel_rfl
@[go_sem] theorem c675 : Tryz.prog.cellsOf 675 = 1 := by kernel_rfl
@[go_sem] theorem b675 : Tryz.prog.bytesOf 675 = 8 := by kernel_rfl
@[go_sem] theorem z675 : tzO Tryz.prog 675 = some [.d .nilf] := by kernel_rfl
@[go_sem] theorem u675 : (Tryz.prog.underlying 675).isSome = true := by kernel_rfl
@[go_sem] theorem k677 : tyk Tryz.prog 677 = .scal := by kernel_rfl
@[go_sem] theorem c677 : Tryz.prog.cellsOf 677 = 1 := by kernel_rfl
@[go_sem] theorem b677 : Tryz.prog.bytesOf 677 = 8 := by kernel_rfl
@[go_sem] theorem z677 : tzO Tryz.prog 677 = some [.d .nilf] := by kernel_rfl
@[go_sem] theorem u677 : (Tryz.prog.underlying 677).isSome = true := by kernel_rfl
@[go_sem] theorem k678 : tyk Tryz.prog 678 = .scal := by kernel_rfl
@[go_sem] theorem c678 : Tryz.prog.cellsOf 678 = 1 := by kernel_rfl
@[go_sem] theorem b678 : Tryz.prog.bytesOf 678 = 8 := by kernel_rfl
@[go_sem] theorem z678 : tzO Tryz.prog 678 = some [.d .nilf] := by kernel_rfl
@[go_sem] theorem u678 : (Tryz.prog.underlying 678).isSome = true := by kernel_rfl
@[go_sem] theorem k679 : tyk Tryz.prog 679 = .struct [(0, 158), (1, 158), (2, 24)] := by kernel_rfl
@[go_sem] theorem c679 : Tryz.prog.cellsOf 679 = 3 := by kernel_rfl
@[go_sem] theorem b679 : Tryz.prog.bytesOf 679 = 56 := by kernel_rfl
@[go_sem] theorem z679 : tzO Tryz.prog 679 = some [.nil, .nil, .d (.int .i64 0)] := by kernel_rfl
@[go_sem] theorem u679 : (Tryz.prog.underlying 679).isSome = true := by kernel_rfl
@[go_sem] theorem k680 : tyk Tryz.prog 680 = .struct [(0, 158), (1, 158), (2, 24)] := by kernel_rfl
@[go_sem] theorem c680 : Tryz.prog.cellsOf 680 = 3 := by kernel_rfl
@[go_sem] theorem b680 : Tryz.prog.bytesOf 680 = 56 := by kernel_rfl
@[go_sem] theorem z680 : tzO Tryz.prog 680 = some [.nil, .nil, .d (.int .i64 0)] := by kernel_rfl
@[go_sem] theorem u680 : (Tryz.prog.underlying 680).isSome = true := by kernel_rfl
@[go_sem] theorem k682 : tyk Tryz.prog 682 = .scal := by kernel_rfl
@[go_sem] theorem c682 : Tryz.prog.cellsOf 682 = 1 := by kernel_rfl
@[go_sem] theorem b682 : Tryz.prog.bytesOf 682 = 8 := by kernel_rfl
@[go_sem] theorem z682 : tzO Tryz.prog 682 = some [.d .nilf] := by kernel_rfl
@[go_sem] theorem u682 : (Tryz.prog.underlying 682).isSome = true := by kernel_rfl
@[go_sem] theorem k683 : tyk Tryz.prog 683 = .scal := by kernel_rfl
@[go_sem] theorem c683 : Tryz.prog.cellsOf 683 = 1 := by kernel_rfl
@[go_sem] theorem b683 : Tryz.prog.bytesOf 683 = 8 := by kernel_rfl
@[go_sem] theorem z683 : tzO Tryz.prog 683 = some [.d .nilf] := by kernel_rfl
@[go_sem] theorem u683 : (Tryz.prog.underlying 683).isSome = true := by kernel_rfl
@[go_sem] theorem k684 : tyk Tryz.prog 684 = .scal := by kernel_rfl
@[go_sem] theorem c684 : Tryz.prog.cellsOf 684 = 1 := by kernel_rfl
@[go_sem] theorem b684 : Tryz.prog.bytesOf 684 = 8 := by kernel_rfl
@[go_sem] theorem z684 : tzO Tryz.prog 684 = some [.d .nilf] := by kernel_rfl
@[go_sem] theorem u684 : (Tryz.prog.underlying 684).isSome = true := by kernel_rfl
@[go_sem] theorem k685 : tyk Tryz.prog 685 = .scal := by kernel_rfl
@[go_sem] theorem c685 : Tryz.prog.cellsOf 685 = 1 := by kernel_rfl
@[go_sem] theorem b685 : Tryz.prog.bytesOf 685 = 8 := by kernel_rfl
@[go_sem] theorem z685 : tzO Tryz.prog 685 = some [.d .nilf] := by kernel_rfl
@[go_sem] theorem u685 : (Tryz.prog.underlying 685).isSome = true := by kernel_rfl
@[go_sem] theorem k686 : tyk Tryz.prog 686 = .scal := by kernel_rfl
@[go_sem] theorem c686 : Tryz.prog.cellsOf 686 = 1 := by kernel_rfl
@[go_sem] theorem b686 : Tryz.prog.bytesOf 686 = 8 := by kernel_rfl
@[go_sem] theorem z686 : tzO Tryz.prog 686 = some [.d .nilf] := by kernel_rfl
@[go_sem] theorem u686 : (Tryz.prog.underlying 686).isSome = true := by kernel_rfl
@[go_sem] theorem k687 : tyk Tryz.prog 687 = .scal := by kernel_rfl
@[go_sem] theorem c687 : Tryz.prog.cellsOf 687 = 1 := by kernel_rfl
@[go_sem] theorem b687 : Tryz.prog.bytesOf 687 = 8 := by kernel_rfl
@[go_sem] theorem z687 : tzO Tryz.prog 687 = some [.d .nilf] := by kernel_rfl
@[go_sem] theorem u687 : (Tryz.prog.underlying 687).isSome = true := by kernel_rfl
@[go_sem] theorem k688 : tyk Tryz.prog 688 = .scal := by kernel_rfl
@[go_sem] theorem c688 : Tryz.prog.cellsOf 688 = 1 := by kernel_rfl
@[go_sem] theorem b688 : Tryz.prog.bytesOf 688 = 8 := by kernel_rfl
@[go_sem] theorem z688 : tzO Tryz.prog 688 = some [.d .nilf] := by kernel_rfl
@[go_sem] theorem u688 : (Tryz.prog.underlying 688).isSome = true := by kernel_rfl
@[go_sem] theorem k689 : tyk Tryz.prog 689 = .slice 2 := by kernel_rfl
@[go_sem] theorem c689 : Tryz.prog.cellsOf 689 = 1 := by kernel_rfl
@[go_sem] theorem b689 : Tryz.prog.bytesOf 689 = 24 := by kernel_rfl
@[go_sem] theorem z689 : tzO Tryz.prog 689 = some [.nil] := by kernel_rfl
@[go_sem] theorem u689 : (Tryz.prog.underlying 689).isSome = true := by kernel_rfl
@[go_sem] theorem k690 : tyk Tryz.prog 690 = .scal := by kernel_rfl
@[go_sem] theorem c690 : Tryz.prog.cellsOf 690 = 1 := by kernel_rfl
@[go_sem] theorem b690 : Tryz.prog.bytesOf 690 = 8 := by kernel_rfl
@[go_sem] theorem z690 : tzO Tryz.prog 690 = some [.d .nilf] := by kernel_rfl
@[go_sem] theorem u690 : (Tryz.prog.underlying 690).isSome = true := by kernel_rfl
@[go_sem] theorem k692 : tyk Tryz.prog 692 = .scal := by kernel_rfl
@[go_sem] theorem c692 : Tryz.prog.cellsOf 692 = 1 := by kernel_rfl
@[go_sem] theorem b692 : Tryz.prog.bytesOf 692 = 8 := by kernel_rfl
@[go_sem] theorem z692 : tzO Tryz.prog 692 = some [.d .nilf] := by kernel_rfl
@[go_sem] theorem u692 : (Tryz.prog.underlying 692).isSome = true := by kernel_rfl
@[go_sem] theorem k693 : tyk Tryz.prog 693 = .scal := by kernel_rfl
@[go_sem] theorem c693 : Tryz.prog.cellsOf 693 = 1 := by kernel_rfl
@[go_sem] theorem b693 : Tryz.prog.bytesOf 693 = 8 := by kernel_rfl
@[go_sem] theorem z693 : tzO Tryz.prog 693 = some [.d .nilf] := by kernel_rfl
@[go_sem] theorem u693 : (Tryz.prog.underlying 693).isSome = true := by kernel_rfl
@[go_sem] theorem k694 : tyk Tryz.prog 694 = .scal := by kernel_rfl
@[go_sem] theorem c694 : Tryz.prog.cellsOf 694 = 1 := by kernel_rfl
@[go_sem] theorem b694 : Tryz.prog.bytesOf 694 = 8 := by kernel_rfl
@[go_sem] theorem z694 : tzO Tryz.prog 694 = some [.d .nilf] := by kernel_rfl
@[go_sem] theorem u694 : (Tryz.prog.underlying 694).isSome = true := by kernel_rfl
@[go_sem] theorem k695 : tyk Tryz.prog 695 = .scal := by kernel_rfl
@[go_sem] theorem c695 : Tryz.prog.cellsOf 695 = 1 := by kernel_rfl
@[go_sem] theorem b695 : Tryz.prog.bytesOf 695 = 8 := by kernel_rfl
@[go_sem] theorem z695 : tzO Tryz.prog 695 = some [.d .nilf] := by kernel_rfl
@[go_sem] theorem u695 : (Tryz.prog.underlying 695).isSome = true := by kernel_rfl
@[go_sem] theorem k696 : tyk Tryz.prog 696 = .scal := by kernel_rfl
@[go_sem] theorem c696 : Tryz.prog.cellsOf 696 = 1 := by kernel_rfl
@[go_sem] theorem b696 : Tryz.prog.bytesOf 696 = 8 := by kernel_rfl
@[go_sem] theorem z696 : tzO Tryz.prog 696 = some [.d .nilf] := by kernel_rfl
@[go_sem] theorem u696 : (Tryz.prog.underlying 696).isSome = true := by kernel_rfl
@[go_sem] theorem k697 : tyk Tryz.prog 697 = .struct [(0, 17), (1, 17), (2, 17), (3, 9)] := by kernel_rfl
@[go_sem] theorem c697 : Tryz.prog.cellsOf 697 = 4 := by kernel_rfl
@[go_sem] theorem b697 : Tryz.prog.bytesOf 697 = 40 := by kernel_rfl
@[go_sem] theorem z697 : tzO Tryz.prog 697 = some [.d .nilp, .d .nilp, .d .nilp, .d (.str [])] := by kernel_rfl
@[go_sem] theorem u697 : (Tryz.prog.underlying 697).isSome = true := by kernel_rfl
@[go_sem] theorem k698 : tyk Tryz.prog 698 = .struct [(0, 17), (1, 17), (2, 17), (3, 9)] := by kernel_rfl
@[go_sem] theorem c698 : Tryz.prog.cellsOf 698 = 4 := by kernel_rfl
@[go_sem] theorem b698 : Tryz.prog.bytesOf 698 = 40 := by kernel_rfl
@[go_sem] theorem z698 : tzO Tryz.prog 698 = some [.d .nilp, .d .nilp, .d .nilp, .d (.str [])] := by kernel_rfl
@[go_sem] theorem u698 : (Tryz.prog.underlying 698).isSome = true := by kernel_rfl
@[go_sem] theorem k699 : tyk Tryz.prog 699 = .arr 0 16 := by kernel_rfl
@[go_sem] theorem c699 : Tryz.prog.cellsOf 699 = 0 := by kernel_rfl
@[go_sem] theorem u699 : (Tryz.prog.underlying 699).isSome = true := by kernel_rfl
@[go_sem] theorem k700 : tyk Tryz.prog 700 = .struct [(0, 699)] := by kernel_rfl
@[go_sem] theorem c700 : Tryz.prog.cellsOf 700 = 0 := by kernel_rfl
@[go_sem] theorem u700 : (Tryz.prog.underlying 700).isSome = true := by kernel_rfl
@[go_sem] theorem k701 : tyk Tryz.prog 701 = .struct [(0, 699)] := by kernel_rfl
@[go_sem] theorem c701 : Tryz.prog.cellsOf 701 = 0 := by kernel_rfl
@[go_sem] theorem u701 : (Tryz.prog.underlying 701).isSome = true := by kernel_rfl
@[go_sem] theorem k702 : tyk Tryz.prog 702 = .scal := by kernel_rfl
@[go_sem] theorem c702 : Tryz.prog.cellsOf 702 = 1 := by kernel_rfl
@[go_sem] theorem b702 : Tryz.prog.bytesOf 702 = 1 := by kernel_rfl
@[go_sem] theorem z702 : tzO Tryz.prog 702 = some [.d (.int .u8 0)] := by kernel_rfl
@[go_sem] theorem i702 : ikind Tryz.prog 702 = some .u8 := by kernel_rfl
@[go_sem] theorem u702 : (Tryz.prog.underlying 702).isSome = true := by kernel_rfl
@[go_sem] theorem k703 : tyk Tryz.prog 703 = .scal := by kernel_rfl
@[go_sem] theorem c703 : Tryz.prog.cellsOf 703 = 1 := by kernel_rfl
@[go_sem] theorem b703 : Tryz.prog.bytesOf 703 = 1 := by kernel_rfl
@[go_sem] theorem z703 : tzO Tryz.prog 703 = some [.d (.int .u8 0)] := by kernel_rfl
@[go_sem] theorem i703 : ikind Tryz.prog 703 = some .u8 := by kernel_rfl
@[go_sem] theorem u703 : (Tryz.prog.underlying 703).isSome = true := by kernel_rfl
@[go_sem] theorem k704 : tyk Tryz.prog 704 = .scal := by kernel_rfl
@[go_sem] theorem c704 : Tryz.prog.cellsOf 704 = 1 := by kernel_rfl
@[go_sem] theorem b704 : Tryz.prog.bytesOf 704 = 8 := by kernel_rfl
@[go_sem] theorem z704 : tzO Tryz.prog 704 = some [.d .nilf] := by kernel_rfl
@[go_sem] theorem u704 : (Tryz.prog.underlying 704).isSome = true := by kernel_rfl
@[go_sem] theorem k705 : tyk Tryz.prog 705 = .scal := by kernel_rfl
@[go_sem] theorem c705 : Tryz.prog.cellsOf 705 = 1 := by kernel_rfl
@[go_sem] theorem b705 : Tryz.prog.bytesOf 705 = 4 := by kernel_rfl
@[go_sem] theorem z705 : tzO Tryz.prog 705 = some [.d (.int .i32 0)] := by kernel_rfl
@[go_sem] theorem i705 : ikind Tryz.prog 705 = some .i32 := by kernel_rfl
@[go_sem] theorem u705 : (Tryz.prog.underlying 705).isSome = true := by kernel_rfl
@[go_sem] theorem k706 : tyk Tryz.prog 706 = .scal := by kernel_rfl
@[go_sem] theorem c706 : Tryz.prog.cellsOf 706 = 1 := by kernel_rfl
@[go_sem] theorem b706 : Tryz.prog.bytesOf 706 = 4 := by kernel_rfl
@[go_sem] theorem z706 : tzO Tryz.prog 706 = some [.d (.int .i32 0)] := by kernel_rfl
@[go_sem] theorem i706 : ikind Tryz.prog 706 = some .i32 := by kernel_rfl
@[go_sem] theorem u706 : (Tryz.prog.underlying 706).isSome = true := by kernel_rfl
@[go_sem] theorem k707 : tyk Tryz.prog 707 = .struct [(0, 12), (1, 12), (2, 50), (3, 702), (4, 5), (5, 5), (6, 703), (7, 704), (8, 553), (9, 705), (10, 706)] := by kernel_rfl
@[go_sem] theorem c707 : Tryz.prog.cellsOf 707 = 11 := by kernel_rfl
@[go_sem] theorem b707 : Tryz.prog.bytesOf 707 = 48 := by kernel_rfl
@[go_sem] theorem z707 : tzO Tryz.prog 707 = some [.d (.int .u64 0), .d (.int .u64 0), .d (.int .u32 0), .d (.int .u8 0), .d (.int .u8 0), .d (.int .u8 0), .d (.int .u8 0), .d .nilf, .d .nilp, .d (.int .i32 0), .d (.int .i32 0)] := by kernel_rfl
@[go_sem] theorem u707 : (Tryz.prog.underlying 707).isSome = true := by kernel_rfl
@[go_sem] theorem k708 : tyk Tryz.prog 708 = .struct [(0, 12), (1, 12), (2, 50), (3, 702), (4, 5), (5, 5), (6, 703), (7, 704), (8, 553), (9, 705), (10, 706)] := by kernel_rfl
@[go_sem] theorem c708 : Tryz.prog.cellsOf 708 = 11 := by kernel_rfl
@[go_sem] theorem b708 : Tryz.prog.bytesOf 708 = 48 := by kernel_rfl
@[go_sem] theorem z708 : tzO Tryz.prog 708 = some [.d (.int .u64 0), .d (.int .u64 0), .d (.int .u32 0), .d (.int .u8 0), .d (.int .u8 0), .d (.int .u8 0), .d (.int .u8 0), .d .nilf, .d .nilp, .d (.int .i32 0), .d (.int .i32 0)] := by kernel_rfl
@[go_sem] theorem u708 : (Tryz.prog.underlying 708).isSome = true := by kernel_rfl
@[go_sem] theorem k709 : tyk Tryz.prog 709 = .scal := by kernel_rfl
@[go_sem] theorem c709 : Tryz.prog.cellsOf 709 = 1 := by kernel_rfl
@[go_sem] theorem b709 : Tryz.prog.bytesOf 709 = 8 := by kernel_rfl
@[go_sem] theorem z709 : tzO Tryz.prog 709 = some [.d .nilf] := by kernel_rfl
@[go_sem] theorem u709 : (Tryz.prog.underlying 709).isSome = true := by kernel_rfl
@[go_sem] theorem k710 : tyk Tryz.prog 710 = .scal := by kernel_rfl
@[go_sem] theorem c710 : Tryz.prog.cellsOf 710 = 1 := by kernel_rfl
@[go_sem] theorem b710 : Tryz.prog.bytesOf 710 = 8 := by kernel_rfl
@[go_sem] theorem z710 : tzO Tryz.prog 710 = some [.d .nilf] := by kernel_rfl
@[go_sem] theorem u710 : (Tryz.prog.underlying 710).isSome = true := by kernel_rfl
end Go.Proofs.YtnmnabagabejjaaGreat
