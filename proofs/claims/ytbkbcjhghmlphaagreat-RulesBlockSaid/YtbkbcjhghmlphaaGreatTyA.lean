/-
  Facts of types, printed by a program of ours.
-/
import Derived.Test.YtbkbcjhghmlphaaGreatRows
import Derived.Test.YtbkbcjhghmlphaaGreatAmRun
namespace Go.Proofs.YtbkbcjhghmlphaaGreat
open Go.Am
set_option maxRecDepth 100000
@[go_sem] theorem k2 : tyk Tryz.prog 2 = .scal := by kernel_rfl
@[go_sem] theorem c2 : Tryz.prog.cellsOf 2 = 1 := by kernel_rfl
@[go_sem] theorem b2 : Tryz.prog.bytesOf 2 = 8 := by kernel_rfl
@[go_sem] theorem z2 : tzO Tryz.prog 2 = some [.d (.int .i64 0)] := by kernel_rfl
@[go_sem] theorem i2 : ikind Tryz.prog 2 = some .i64 := by kernel_rfl
@[go_sem] theorem u2 : (Tryz.prog.underlying 2).isSome = true := by kernel_rfl
@[go_sem] theorem k3 : tyk Tryz.prog 3 = .scal := by kernel_rfl
@[go_sem] theorem c3 : Tryz.prog.cellsOf 3 = 1 := by kernel_rfl
@[go_sem] theorem b3 : Tryz.prog.bytesOf 3 = 8 := by kernel_rfl
@[go_sem] theorem z3 : tzO Tryz.prog 3 = some [.d (.int .i64 0)] := by kernel_rfl
@[go_sem] theorem i3 : ikind Tryz.prog 3 = some .i64 := by kernel_rfl
@[go_sem] theorem u3 : (Tryz.prog.underlying 3).isSome = true := by kernel_rfl
@[go_sem] theorem k4 : tyk Tryz.prog 4 = .scal := by kernel_rfl
@[go_sem] theorem c4 : Tryz.prog.cellsOf 4 = 1 := by kernel_rfl
@[go_sem] theorem b4 : Tryz.prog.bytesOf 4 = 1 := by kernel_rfl
@[go_sem] theorem z4 : tzO Tryz.prog 4 = some [.d (.bool false)] := by kernel_rfl
@[go_sem] theorem u4 : (Tryz.prog.underlying 4).isSome = true := by kernel_rfl
@[go_sem] theorem k5 : tyk Tryz.prog 5 = .scal := by kernel_rfl
@[go_sem] theorem c5 : Tryz.prog.cellsOf 5 = 1 := by kernel_rfl
@[go_sem] theorem b5 : Tryz.prog.bytesOf 5 = 1 := by kernel_rfl
@[go_sem] theorem z5 : tzO Tryz.prog 5 = some [.d (.int .u8 0)] := by kernel_rfl
@[go_sem] theorem i5 : ikind Tryz.prog 5 = some .u8 := by kernel_rfl
@[go_sem] theorem u5 : (Tryz.prog.underlying 5).isSome = true := by kernel_rfl
@[go_sem] theorem k6 : tyk Tryz.prog 6 = .scal := by kernel_rfl
@[go_sem] theorem c6 : Tryz.prog.cellsOf 6 = 1 := by kernel_rfl
@[go_sem] theorem b6 : Tryz.prog.bytesOf 6 = 1 := by kernel_rfl
@[go_sem] theorem z6 : tzO Tryz.prog 6 = some [.d (.int .u8 0)] := by kernel_rfl
@[go_sem] theorem i6 : ikind Tryz.prog 6 = some .u8 := by kernel_rfl
@[go_sem] theorem u6 : (Tryz.prog.underlying 6).isSome = true := by kernel_rfl
@[go_sem] theorem k7 : tyk Tryz.prog 7 = .struct [(0, 2), (1, 3), (2, 4), (3, 6)] := by kernel_rfl
@[go_sem] theorem c7 : Tryz.prog.cellsOf 7 = 4 := by kernel_rfl
@[go_sem] theorem b7 : Tryz.prog.bytesOf 7 = 24 := by kernel_rfl
@[go_sem] theorem z7 : tzO Tryz.prog 7 = some [.d (.int .i64 0), .d (.int .i64 0), .d (.bool false), .d (.int .u8 0)] := by kernel_rfl
@[go_sem] theorem u7 : (Tryz.prog.underlying 7).isSome = true := by kernel_rfl
@[go_sem] theorem k8 : tyk Tryz.prog 8 = .struct [(0, 2), (1, 3), (2, 4), (3, 6)] := by kernel_rfl
@[go_sem] theorem c8 : Tryz.prog.cellsOf 8 = 4 := by kernel_rfl
@[go_sem] theorem b8 : Tryz.prog.bytesOf 8 = 24 := by kernel_rfl
@[go_sem] theorem z8 : tzO Tryz.prog 8 = some [.d (.int .i64 0), .d (.int .i64 0), .d (.bool false), .d (.int .u8 0)] := by kernel_rfl
@[go_sem] theorem u8 : (Tryz.prog.underlying 8).isSome = true := by kernel_rfl
@[go_sem] theorem k9 : tyk Tryz.prog 9 = .str := by kernel_rfl
@[go_sem] theorem c9 : Tryz.prog.cellsOf 9 = 1 := by kernel_rfl
@[go_sem] theorem b9 : Tryz.prog.bytesOf 9 = 16 := by kernel_rfl
@[go_sem] theorem z9 : tzO Tryz.prog 9 = some [.d (.str [])] := by kernel_rfl
@[go_sem] theorem u9 : (Tryz.prog.underlying 9).isSome = true := by kernel_rfl
@[go_sem] theorem k10 : tyk Tryz.prog 10 = .str := by kernel_rfl
@[go_sem] theorem c10 : Tryz.prog.cellsOf 10 = 1 := by kernel_rfl
@[go_sem] theorem b10 : Tryz.prog.bytesOf 10 = 16 := by kernel_rfl
@[go_sem] theorem z10 : tzO Tryz.prog 10 = some [.d (.str [])] := by kernel_rfl
@[go_sem] theorem u10 : (Tryz.prog.underlying 10).isSome = true := by kernel_rfl
@[go_sem] theorem k11 : tyk Tryz.prog 11 = .str := by kernel_rfl
@[go_sem] theorem c11 : Tryz.prog.cellsOf 11 = 1 := by kernel_rfl
@[go_sem] theorem b11 : Tryz.prog.bytesOf 11 = 16 := by kernel_rfl
@[go_sem] theorem z11 : tzO Tryz.prog 11 = some [.d (.str [])] := by kernel_rfl
@[go_sem] theorem u11 : (Tryz.prog.underlying 11).isSome = true := by kernel_rfl
@[go_sem] theorem k12 : tyk Tryz.prog 12 = .scal := by kernel_rfl
@[go_sem] theorem c12 : Tryz.prog.cellsOf 12 = 1 := by kernel_rfl
@[go_sem] theorem b12 : Tryz.prog.bytesOf 12 = 8 := by kernel_rfl
@[go_sem] theorem z12 : tzO Tryz.prog 12 = some [.d (.int .u64 0)] := by kernel_rfl
@[go_sem] theorem i12 : ikind Tryz.prog 12 = some .u64 := by kernel_rfl
@[go_sem] theorem u12 : (Tryz.prog.underlying 12).isSome = true := by kernel_rfl
@[go_sem] theorem k13 : tyk Tryz.prog 13 = .struct [(0, 9), (1, 12)] := by kernel_rfl
@[go_sem] theorem c13 : Tryz.prog.cellsOf 13 = 2 := by kernel_rfl
@[go_sem] theorem b13 : Tryz.prog.bytesOf 13 = 24 := by kernel_rfl
@[go_sem] theorem z13 : tzO Tryz.prog 13 = some [.d (.str []), .d (.int .u64 0)] := by kernel_rfl
@[go_sem] theorem u13 : (Tryz.prog.underlying 13).isSome = true := by kernel_rfl
@[go_sem] theorem k14 : tyk Tryz.prog 14 = .struct [(0, 9), (1, 12)] := by kernel_rfl
@[go_sem] theorem c14 : Tryz.prog.cellsOf 14 = 2 := by kernel_rfl
@[go_sem] theorem b14 : Tryz.prog.bytesOf 14 = 24 := by kernel_rfl
@[go_sem] theorem z14 : tzO Tryz.prog 14 = some [.d (.str []), .d (.int .u64 0)] := by kernel_rfl
@[go_sem] theorem u14 : (Tryz.prog.underlying 14).isSome = true := by kernel_rfl
@[go_sem] theorem k15 : tyk Tryz.prog 15 = .scal := by kernel_rfl
@[go_sem] theorem c15 : Tryz.prog.cellsOf 15 = 1 := by kernel_rfl
@[go_sem] theorem b15 : Tryz.prog.bytesOf 15 = 8 := by kernel_rfl
@[go_sem] theorem z15 : tzO Tryz.prog 15 = some [.d .nilp] := by kernel_rfl
@[go_sem] theorem u15 : (Tryz.prog.underlying 15).isSome = true := by kernel_rfl
@[go_sem] theorem k16 : tyk Tryz.prog 16 = .scal := by kernel_rfl
@[go_sem] theorem c16 : Tryz.prog.cellsOf 16 = 1 := by kernel_rfl
@[go_sem] theorem b16 : Tryz.prog.bytesOf 16 = 8 := by kernel_rfl
@[go_sem] theorem z16 : tzO Tryz.prog 16 = some [.d .nilp] := by kernel_rfl
@[go_sem] theorem u16 : (Tryz.prog.underlying 16).isSome = true := by kernel_rfl
@[go_sem] theorem k17 : tyk Tryz.prog 17 = .scal := by kernel_rfl
@[go_sem] theorem c17 : Tryz.prog.cellsOf 17 = 1 := by kernel_rfl
@[go_sem] theorem b17 : Tryz.prog.bytesOf 17 = 8 := by kernel_rfl
@[go_sem] theorem z17 : tzO Tryz.prog 17 = some [.d .nilp] := by kernel_rfl
@[go_sem] theorem u17 : (Tryz.prog.underlying 17).isSome = true := by kernel_rfl
@[go_sem] theorem k18 : tyk Tryz.prog 18 = .struct [(0, 17)] := by kernel_rfl
@[go_sem] theorem c18 : Tryz.prog.cellsOf 18 = 1 := by kernel_rfl
@[go_sem] theorem b18 : Tryz.prog.bytesOf 18 = 8 := by kernel_rfl
@[go_sem] theorem z18 : tzO Tryz.prog 18 = some [.d .nilp] := by kernel_rfl
@[go_sem] theorem u18 : (Tryz.prog.underlying 18).isSome = true := by kernel_rfl
@[go_sem] theorem k19 : tyk Tryz.prog 19 = .struct [(0, 17)] := by kernel_rfl
@[go_sem] theorem c19 : Tryz.prog.cellsOf 19 = 1 := by kernel_rfl
@[go_sem] theorem b19 : Tryz.prog.bytesOf 19 = 8 := by kernel_rfl
@[go_sem] theorem z19 : tzO Tryz.prog 19 = some [.d .nilp] := by kernel_rfl
@[go_sem] theorem u19 : (Tryz.prog.underlying 19).isSome = true := by kernel_rfl
@[go_sem] theorem k21 : tyk Tryz.prog 21 = .scal := by kernel_rfl
@[go_sem] theorem c21 : Tryz.prog.cellsOf 21 = 1 := by kernel_rfl
@[go_sem] theorem b21 : Tryz.prog.bytesOf 21 = 4 := by kernel_rfl
@[go_sem] theorem z21 : tzO Tryz.prog 21 = some [.d (.int .i32 0)] := by kernel_rfl
@[go_sem] theorem i21 : ikind Tryz.prog 21 = some .i32 := by kernel_rfl
@[go_sem] theorem u21 : (Tryz.prog.underlying 21).isSome = true := by kernel_rfl
@[go_sem] theorem k22 : tyk Tryz.prog 22 = .scal := by kernel_rfl
@[go_sem] theorem c22 : Tryz.prog.cellsOf 22 = 1 := by kernel_rfl
@[go_sem] theorem b22 : Tryz.prog.bytesOf 22 = 4 := by kernel_rfl
@[go_sem] theorem z22 : tzO Tryz.prog 22 = some [.d (.int .u32 0)] := by kernel_rfl
@[go_sem] theorem i22 : ikind Tryz.prog 22 = some .u32 := by kernel_rfl
@[go_sem] theorem u22 : (Tryz.prog.underlying 22).isSome = true := by kernel_rfl
@[go_sem] theorem k23 : tyk Tryz.prog 23 = .arr 32 5 := by kernel_rfl
@[go_sem] theorem c23 : Tryz.prog.cellsOf 23 = 32 := by kernel_rfl
@[go_sem] theorem b23 : Tryz.prog.bytesOf 23 = 32 := by kernel_rfl
@[go_sem] theorem u23 : (Tryz.prog.underlying 23).isSome = true := by kernel_rfl
@[go_sem] theorem k24 : tyk Tryz.prog 24 = .struct [(0, 22), (1, 23), (33, 23), (65, 22), (66, 22), (67, 22)] := by kernel_rfl
@[go_sem] theorem c24 : Tryz.prog.cellsOf 24 = 68 := by kernel_rfl
@[go_sem] theorem b24 : Tryz.prog.bytesOf 24 = 80 := by kernel_rfl
@[go_sem] theorem u24 : (Tryz.prog.underlying 24).isSome = true := by kernel_rfl
@[go_sem] theorem k25 : tyk Tryz.prog 25 = .struct [(0, 22), (1, 23), (33, 23), (65, 22), (66, 22), (67, 22)] := by kernel_rfl
@[go_sem] theorem c25 : Tryz.prog.cellsOf 25 = 68 := by kernel_rfl
@[go_sem] theorem b25 : Tryz.prog.bytesOf 25 = 80 := by kernel_rfl
@[go_sem] theorem u25 : (Tryz.prog.underlying 25).isSome = true := by kernel_rfl
@[go_sem] theorem k26 : tyk Tryz.prog 26 = .slice 38 := by kernel_rfl
@[go_sem] theorem c26 : Tryz.prog.cellsOf 26 = 1 := by kernel_rfl
@[go_sem] theorem b26 : Tryz.prog.bytesOf 26 = 24 := by kernel_rfl
@[go_sem] theorem z26 : tzO Tryz.prog 26 = some [.nil] := by kernel_rfl
@[go_sem] theorem u26 : (Tryz.prog.underlying 26).isSome = true := by kernel_rfl
@[go_sem] theorem k27 : tyk Tryz.prog 27 = .struct [(0, 25), (68, 26)] := by kernel_rfl
@[go_sem] theorem c27 : Tryz.prog.cellsOf 27 = 69 := by kernel_rfl
@[go_sem] theorem b27 : Tryz.prog.bytesOf 27 = 104 := by kernel_rfl
@[go_sem] theorem u27 : (Tryz.prog.underlying 27).isSome = true := by kernel_rfl
@[go_sem] theorem k28 : tyk Tryz.prog 28 = .struct [(0, 25), (68, 26)] := by kernel_rfl
@[go_sem] theorem c28 : Tryz.prog.cellsOf 28 = 69 := by kernel_rfl
@[go_sem] theorem b28 : Tryz.prog.bytesOf 28 = 104 := by kernel_rfl
@[go_sem] theorem u28 : (Tryz.prog.underlying 28).isSome = true := by kernel_rfl
@[go_sem] theorem k31 : tyk Tryz.prog 31 = .scal := by kernel_rfl
@[go_sem] theorem c31 : Tryz.prog.cellsOf 31 = 1 := by kernel_rfl
@[go_sem] theorem b31 : Tryz.prog.bytesOf 31 = 8 := by kernel_rfl
@[go_sem] theorem z31 : tzO Tryz.prog 31 = some [.d (.int .i64 0)] := by kernel_rfl
@[go_sem] theorem i31 : ikind Tryz.prog 31 = some .i64 := by kernel_rfl
@[go_sem] theorem u31 : (Tryz.prog.underlying 31).isSome = true := by kernel_rfl
@[go_sem] theorem k35 : tyk Tryz.prog 35 = .slice 57 := by kernel_rfl
@[go_sem] theorem c35 : Tryz.prog.cellsOf 35 = 1 := by kernel_rfl
@[go_sem] theorem b35 : Tryz.prog.bytesOf 35 = 24 := by kernel_rfl
@[go_sem] theorem z35 : tzO Tryz.prog 35 = some [.nil] := by kernel_rfl
@[go_sem] theorem u35 : (Tryz.prog.underlying 35).isSome = true := by kernel_rfl
@[go_sem] theorem k36 : tyk Tryz.prog 36 = .slice 52 := by kernel_rfl
@[go_sem] theorem c36 : Tryz.prog.cellsOf 36 = 1 := by kernel_rfl
@[go_sem] theorem b36 : Tryz.prog.bytesOf 36 = 24 := by kernel_rfl
@[go_sem] theorem z36 : tzO Tryz.prog 36 = some [.nil] := by kernel_rfl
@[go_sem] theorem u36 : (Tryz.prog.underlying 36).isSome = true := by kernel_rfl
@[go_sem] theorem k37 : tyk Tryz.prog 37 = .struct [(0, 22), (1, 35), (2, 36), (3, 22)] := by kernel_rfl
@[go_sem] theorem c37 : Tryz.prog.cellsOf 37 = 4 := by kernel_rfl
@[go_sem] theorem b37 : Tryz.prog.bytesOf 37 = 64 := by kernel_rfl
@[go_sem] theorem z37 : tzO Tryz.prog 37 = some [.d (.int .u32 0), .nil, .nil, .d (.int .u32 0)] := by kernel_rfl
@[go_sem] theorem u37 : (Tryz.prog.underlying 37).isSome = true := by kernel_rfl
@[go_sem] theorem k38 : tyk Tryz.prog 38 = .struct [(0, 22), (1, 35), (2, 36), (3, 22)] := by kernel_rfl
@[go_sem] theorem c38 : Tryz.prog.cellsOf 38 = 4 := by kernel_rfl
@[go_sem] theorem b38 : Tryz.prog.bytesOf 38 = 64 := by kernel_rfl
@[go_sem] theorem z38 : tzO Tryz.prog 38 = some [.d (.int .u32 0), .nil, .nil, .d (.int .u32 0)] := by kernel_rfl
@[go_sem] theorem u38 : (Tryz.prog.underlying 38).isSome = true := by kernel_rfl
@[go_sem] theorem k39 : tyk Tryz.prog 39 = .scal := by kernel_rfl
@[go_sem] theorem c39 : Tryz.prog.cellsOf 39 = 1 := by kernel_rfl
@[go_sem] theorem b39 : Tryz.prog.bytesOf 39 = 8 := by kernel_rfl
@[go_sem] theorem z39 : tzO Tryz.prog 39 = some [.d (.int .u64 0)] := by kernel_rfl
@[go_sem] theorem i39 : ikind Tryz.prog 39 = some .u64 := by kernel_rfl
@[go_sem] theorem u39 : (Tryz.prog.underlying 39).isSome = true := by kernel_rfl
@[go_sem] theorem k42 : tyk Tryz.prog 42 = .slice 22 := by kernel_rfl
@[go_sem] theorem c42 : Tryz.prog.cellsOf 42 = 1 := by kernel_rfl
@[go_sem] theorem b42 : Tryz.prog.bytesOf 42 = 24 := by kernel_rfl
@[go_sem] theorem z42 : tzO Tryz.prog 42 = some [.nil] := by kernel_rfl
@[go_sem] theorem u42 : (Tryz.prog.underlying 42).isSome = true := by kernel_rfl
@[go_sem] theorem k48 : tyk Tryz.prog 48 = .slice 5 := by kernel_rfl
@[go_sem] theorem c48 : Tryz.prog.cellsOf 48 = 1 := by kernel_rfl
@[go_sem] theorem b48 : Tryz.prog.bytesOf 48 = 24 := by kernel_rfl
@[go_sem] theorem z48 : tzO Tryz.prog 48 = some [.nil] := by kernel_rfl
@[go_sem] theorem u48 : (Tryz.prog.underlying 48).isSome = true := by kernel_rfl
@[go_sem] theorem k51 : tyk Tryz.prog 51 = .struct [(0, 39), (1, 48)] := by kernel_rfl
@[go_sem] theorem c51 : Tryz.prog.cellsOf 51 = 2 := by kernel_rfl
@[go_sem] theorem b51 : Tryz.prog.bytesOf 51 = 32 := by kernel_rfl
@[go_sem] theorem z51 : tzO Tryz.prog 51 = some [.d (.int .u64 0), .nil] := by kernel_rfl
@[go_sem] theorem u51 : (Tryz.prog.underlying 51).isSome = true := by kernel_rfl
@[go_sem] theorem k52 : tyk Tryz.prog 52 = .struct [(0, 39), (1, 48)] := by kernel_rfl
@[go_sem] theorem c52 : Tryz.prog.cellsOf 52 = 2 := by kernel_rfl
@[go_sem] theorem b52 : Tryz.prog.bytesOf 52 = 32 := by kernel_rfl
@[go_sem] theorem z52 : tzO Tryz.prog 52 = some [.d (.int .u64 0), .nil] := by kernel_rfl
@[go_sem] theorem u52 : (Tryz.prog.underlying 52).isSome = true := by kernel_rfl
@[go_sem] theorem k53 : tyk Tryz.prog 53 = .struct [(0, 23), (32, 22)] := by kernel_rfl
@[go_sem] theorem c53 : Tryz.prog.cellsOf 53 = 33 := by kernel_rfl
@[go_sem] theorem b53 : Tryz.prog.bytesOf 53 = 36 := by kernel_rfl
@[go_sem] theorem u53 : (Tryz.prog.underlying 53).isSome = true := by kernel_rfl
@[go_sem] theorem k54 : tyk Tryz.prog 54 = .struct [(0, 23), (32, 22)] := by kernel_rfl
@[go_sem] theorem c54 : Tryz.prog.cellsOf 54 = 33 := by kernel_rfl
@[go_sem] theorem b54 : Tryz.prog.bytesOf 54 = 36 := by kernel_rfl
@[go_sem] theorem u54 : (Tryz.prog.underlying 54).isSome = true := by kernel_rfl
@[go_sem] theorem k55 : tyk Tryz.prog 55 = .slice 48 := by kernel_rfl
@[go_sem] theorem c55 : Tryz.prog.cellsOf 55 = 1 := by kernel_rfl
@[go_sem] theorem b55 : Tryz.prog.bytesOf 55 = 24 := by kernel_rfl
@[go_sem] theorem z55 : tzO Tryz.prog 55 = some [.nil] := by kernel_rfl
@[go_sem] theorem u55 : (Tryz.prog.underlying 55).isSome = true := by kernel_rfl
@[go_sem] theorem k56 : tyk Tryz.prog 56 = .struct [(0, 54), (33, 22), (34, 55)] := by kernel_rfl
@[go_sem] theorem c56 : Tryz.prog.cellsOf 56 = 35 := by kernel_rfl
@[go_sem] theorem b56 : Tryz.prog.bytesOf 56 = 64 := by kernel_rfl
@[go_sem] theorem u56 : (Tryz.prog.underlying 56).isSome = true := by kernel_rfl
@[go_sem] theorem k57 : tyk Tryz.prog 57 = .struct [(0, 54), (33, 22), (34, 55)] := by kernel_rfl
@[go_sem] theorem c57 : Tryz.prog.cellsOf 57 = 35 := by kernel_rfl
@[go_sem] theorem b57 : Tryz.prog.bytesOf 57 = 64 := by kernel_rfl
@[go_sem] theorem u57 : (Tryz.prog.underlying 57).isSome = true := by kernel_rfl
@[go_sem] theorem k65 : tyk Tryz.prog 65 = .slice 23 := by kernel_rfl
@[go_sem] theorem c65 : Tryz.prog.cellsOf 65 = 1 := by kernel_rfl
@[go_sem] theorem b65 : Tryz.prog.bytesOf 65 = 24 := by kernel_rfl
@[go_sem] theorem z65 : tzO Tryz.prog 65 = some [.nil] := by kernel_rfl
@[go_sem] theorem u65 : (Tryz.prog.underlying 65).isSome = true := by kernel_rfl
@[go_sem] theorem k73 : tyk Tryz.prog 73 = .scal := by kernel_rfl
@[go_sem] theorem c73 : Tryz.prog.cellsOf 73 = 1 := by kernel_rfl
@[go_sem] theorem b73 : Tryz.prog.bytesOf 73 = 8 := by kernel_rfl
@[go_sem] theorem z73 : tzO Tryz.prog 73 = some [.d (.int .u64 0)] := by kernel_rfl
@[go_sem] theorem i73 : ikind Tryz.prog 73 = some .u64 := by kernel_rfl
@[go_sem] theorem u73 : (Tryz.prog.underlying 73).isSome = true := by kernel_rfl
@[go_sem] theorem k75 : tyk Tryz.prog 75 = .slice 39 := by kernel_rfl
@[go_sem] theorem c75 : Tryz.prog.cellsOf 75 = 1 := by kernel_rfl
@[go_sem] theorem b75 : Tryz.prog.bytesOf 75 = 24 := by kernel_rfl
@[go_sem] theorem z75 : tzO Tryz.prog 75 = some [.nil] := by kernel_rfl
@[go_sem] theorem u75 : (Tryz.prog.underlying 75).isSome = true := by kernel_rfl
@[go_sem] theorem k87 : tyk Tryz.prog 87 = .scal := by kernel_rfl
@[go_sem] theorem c87 : Tryz.prog.cellsOf 87 = 1 := by kernel_rfl
@[go_sem] theorem b87 : Tryz.prog.bytesOf 87 = 8 := by kernel_rfl
@[go_sem] theorem z87 : tzO Tryz.prog 87 = some [.d (.int .i64 0)] := by kernel_rfl
@[go_sem] theorem i87 : ikind Tryz.prog 87 = some .i64 := by kernel_rfl
@[go_sem] theorem u87 : (Tryz.prog.underlying 87).isSome = true := by kernel_rfl
@[go_sem] theorem k103 : tyk Tryz.prog 103 = .scal := by kernel_rfl
@[go_sem] theorem c103 : Tryz.prog.cellsOf 103 = 1 := by kernel_rfl
@[go_sem] theorem b103 : Tryz.prog.bytesOf 103 = 2 := by kernel_rfl
@[go_sem] theorem z103 : tzO Tryz.prog 103 = some [.d (.int .u16 0)] := by kernel_rfl
@[go_sem] theorem i103 : ikind Tryz.prog 103 = some .u16 := by kernel_rfl
@[go_sem] theorem u103 : (Tryz.prog.underlying 103).isSome = true := by kernel_rfl
@[go_sem] theorem k110 : tyk Tryz.prog 110 = .scal := by kernel_rfl
@[go_sem] theorem c110 : Tryz.prog.cellsOf 110 = 1 := by kernel_rfl
@[go_sem] theorem b110 : Tryz.prog.bytesOf 110 = 8 := by kernel_rfl
@[go_sem] theorem z110 : tzO Tryz.prog 110 = some [.d (.int .u64 0)] := by kernel_rfl
@[go_sem] theorem i110 : ikind Tryz.prog 110 = some .u64 := by kernel_rfl
@[go_sem] theorem u110 : (Tryz.prog.underlying 110).isSome = true := by kernel_rfl
@[go_sem] theorem k114 : tyk Tryz.prog 114 = .scal := by kernel_rfl
@[go_sem] theorem c114 : Tryz.prog.cellsOf 114 = 1 := by kernel_rfl
@[go_sem] theorem b114 : Tryz.prog.bytesOf 114 = 8 := by kernel_rfl
@[go_sem] theorem z114 : tzO Tryz.prog 114 = some [.d .nilp] := by kernel_rfl
@[go_sem] theorem u114 : (Tryz.prog.underlying 114).isSome = true := by kernel_rfl
@[go_sem] theorem k118 : tyk Tryz.prog 118 = .scal := by kernel_rfl
@[go_sem] theorem c118 : Tryz.prog.cellsOf 118 = 1 := by kernel_rfl
@[go_sem] theorem b118 : Tryz.prog.bytesOf 118 = 8 := by kernel_rfl
@[go_sem] theorem z118 : tzO Tryz.prog 118 = some [.d .nilp] := by kernel_rfl
@[go_sem] theorem u118 : (Tryz.prog.underlying 118).isSome = true := by kernel_rfl
@[go_sem] theorem k122 : tyk Tryz.prog 122 = .arr 64 5 := by kernel_rfl
@[go_sem] theorem c122 : Tryz.prog.cellsOf 122 = 64 := by kernel_rfl
@[go_sem] theorem b122 : Tryz.prog.bytesOf 122 = 64 := by kernel_rfl
@[go_sem] theorem u122 : (Tryz.prog.underlying 122).isSome = true := by kernel_rfl
@[go_sem] theorem k126 : tyk Tryz.prog 126 = .scal := by kernel_rfl
@[go_sem] theorem c126 : Tryz.prog.cellsOf 126 = 1 := by kernel_rfl
@[go_sem] theorem b126 : Tryz.prog.bytesOf 126 = 8 := by kernel_rfl
@[go_sem] theorem z126 : tzO Tryz.prog 126 = some [.d .nilp] := by kernel_rfl
@[go_sem] theorem u126 : (Tryz.prog.underlying 126).isSome = true := by kernel_rfl
@[go_sem] theorem k129 : tyk Tryz.prog 129 = .arr 8 22 := by kernel_rfl
@[go_sem] theorem c129 : Tryz.prog.cellsOf 129 = 8 := by kernel_rfl
@[go_sem] theorem b129 : Tryz.prog.bytesOf 129 = 32 := by kernel_rfl
@[go_sem] theorem z129 : tzO Tryz.prog 129 = some [.d (.int .u32 0), .d (.int .u32 0), .d (.int .u32 0), .d (.int .u32 0), .d (.int .u32 0), .d (.int .u32 0), .d (.int .u32 0), .d (.int .u32 0)] := by kernel_rfl
@[go_sem] theorem u129 : (Tryz.prog.underlying 129).isSome = true := by kernel_rfl
@[go_sem] theorem k130 : tyk Tryz.prog 130 = .arr 8 22 := by kernel_rfl
@[go_sem] theorem c130 : Tryz.prog.cellsOf 130 = 8 := by kernel_rfl
@[go_sem] theorem b130 : Tryz.prog.bytesOf 130 = 32 := by kernel_rfl
@[go_sem] theorem z130 : tzO Tryz.prog 130 = some [.d (.int .u32 0), .d (.int .u32 0), .d (.int .u32 0), .d (.int .u32 0), .d (.int .u32 0), .d (.int .u32 0), .d (.int .u32 0), .d (.int .u32 0)] := by kernel_rfl
@[go_sem] theorem u130 : (Tryz.prog.underlying 130).isSome = true := by kernel_rfl
@[go_sem] theorem k132 : tyk Tryz.prog 132 = .struct [(0, 130), (8, 48), (9, 39)] := by kernel_rfl
@[go_sem] theorem c132 : Tryz.prog.cellsOf 132 = 10 := by kernel_rfl
@[go_sem] theorem b132 : Tryz.prog.bytesOf 132 = 64 := by kernel_rfl
@[go_sem] theorem z132 : tzO Tryz.prog 132 = some [.d (.int .u32 0), .d (.int .u32 0), .d (.int .u32 0), .d (.int .u32 0), .d (.int .u32 0), .d (.int .u32 0), .d (.int .u32 0), .d (.int .u32 0), .nil, .d (.int .u64 0)] := by kernel_rfl
@[go_sem] theorem u132 : (Tryz.prog.underlying 132).isSome = true := by kernel_rfl
@[go_sem] theorem k133 : tyk Tryz.prog 133 = .struct [(0, 130), (8, 48), (9, 39)] := by kernel_rfl
@[go_sem] theorem c133 : Tryz.prog.cellsOf 133 = 10 := by kernel_rfl
@[go_sem] theorem b133 : Tryz.prog.bytesOf 133 = 64 := by kernel_rfl
@[go_sem] theorem z133 : tzO Tryz.prog 133 = some [.d (.int .u32 0), .d (.int .u32 0), .d (.int .u32 0), .d (.int .u32 0), .d (.int .u32 0), .d (.int .u32 0), .d (.int .u32 0), .d (.int .u32 0), .nil, .d (.int .u64 0)] := by kernel_rfl
@[go_sem] theorem u133 : (Tryz.prog.underlying 133).isSome = true := by kernel_rfl
@[go_sem] theorem k135 : tyk Tryz.prog 135 = .scal := by kernel_rfl
@[go_sem] theorem c135 : Tryz.prog.cellsOf 135 = 1 := by kernel_rfl
@[go_sem] theorem b135 : Tryz.prog.bytesOf 135 = 8 := by kernel_rfl
@[go_sem] theorem z135 : tzO Tryz.prog 135 = some [.d .nilp] := by kernel_rfl
@[go_sem] theorem u135 : (Tryz.prog.underlying 135).isSome = true := by kernel_rfl
@[go_sem] theorem k136 : tyk Tryz.prog 136 = .arr 64 22 := by kernel_rfl
@[go_sem] theorem c136 : Tryz.prog.cellsOf 136 = 64 := by kernel_rfl
@[go_sem] theorem b136 : Tryz.prog.bytesOf 136 = 256 := by kernel_rfl
@[go_sem] theorem u136 : (Tryz.prog.underlying 136).isSome = true := by kernel_rfl
@[go_sem] theorem k141 : tyk Tryz.prog 141 = .struct [(0, 17), (1, 17), (2, 17), (3, 9)] := by kernel_rfl
@[go_sem] theorem c141 : Tryz.prog.cellsOf 141 = 4 := by kernel_rfl
@[go_sem] theorem b141 : Tryz.prog.bytesOf 141 = 40 := by kernel_rfl
@[go_sem] theorem z141 : tzO Tryz.prog 141 = some [.d .nilp, .d .nilp, .d .nilp, .d (.str [])] := by kernel_rfl
@[go_sem] theorem u141 : (Tryz.prog.underlying 141).isSome = true := by kernel_rfl
@[go_sem] theorem k142 : tyk Tryz.prog 142 = .struct [(0, 17), (1, 17), (2, 17), (3, 9)] := by kernel_rfl
@[go_sem] theorem c142 : Tryz.prog.cellsOf 142 = 4 := by kernel_rfl
@[go_sem] theorem b142 : Tryz.prog.bytesOf 142 = 40 := by kernel_rfl
@[go_sem] theorem z142 : tzO Tryz.prog 142 = some [.d .nilp, .d .nilp, .d .nilp, .d (.str [])] := by kernel_rfl
@[go_sem] theorem u142 : (Tryz.prog.underlying 142).isSome = true := by kernel_rfl
@[go_sem] theorem k143 : tyk Tryz.prog 143 = .arr 0 16 := by kernel_rfl
@[go_sem] theorem c143 : Tryz.prog.cellsOf 143 = 0 := by kernel_rfl
@[go_sem] theorem u143 : (Tryz.prog.underlying 143).isSome = true := by kernel_rfl
@[go_sem] theorem k144 : tyk Tryz.prog 144 = .struct [(0, 143)] := by kernel_rfl
@[go_sem] theorem c144 : Tryz.prog.cellsOf 144 = 0 := by kernel_rfl
@[go_sem] theorem u144 : (Tryz.prog.underlying 144).isSome = true := by kernel_rfl
@[go_sem] theorem k145 : tyk Tryz.prog 145 = .struct [(0, 143)] := by kernel_rfl
@[go_sem] theorem c145 : Tryz.prog.cellsOf 145 = 0 := by kernel_rfl
@[go_sem] theorem u145 : (Tryz.prog.underlying 145).isSome = true := by kernel_rfl
@[go_sem] theorem k147 : tyk Tryz.prog 147 = .scal := by kernel_rfl
@[go_sem] theorem c147 : Tryz.prog.cellsOf 147 = 1 := by kernel_rfl
@[go_sem] theorem b147 : Tryz.prog.bytesOf 147 = 1 := by kernel_rfl
@[go_sem] theorem z147 : tzO Tryz.prog 147 = some [.d (.int .u8 0)] := by kernel_rfl
@[go_sem] theorem i147 : ikind Tryz.prog 147 = some .u8 := by kernel_rfl
@[go_sem] theorem u147 : (Tryz.prog.underlying 147).isSome = true := by kernel_rfl
@[go_sem] theorem k148 : tyk Tryz.prog 148 = .scal := by kernel_rfl
@[go_sem] theorem c148 : Tryz.prog.cellsOf 148 = 1 := by kernel_rfl
@[go_sem] theorem b148 : Tryz.prog.bytesOf 148 = 1 := by kernel_rfl
@[go_sem] theorem z148 : tzO Tryz.prog 148 = some [.d (.int .u8 0)] := by kernel_rfl
@[go_sem] theorem i148 : ikind Tryz.prog 148 = some .u8 := by kernel_rfl
@[go_sem] theorem u148 : (Tryz.prog.underlying 148).isSome = true := by kernel_rfl
@[go_sem] theorem k150 : tyk Tryz.prog 150 = .scal := by kernel_rfl
@[go_sem] theorem c150 : Tryz.prog.cellsOf 150 = 1 := by kernel_rfl
@[go_sem] theorem b150 : Tryz.prog.bytesOf 150 = 8 := by kernel_rfl
@[go_sem] theorem z150 : tzO Tryz.prog 150 = some [.d .nilp] := by kernel_rfl
@[go_sem] theorem u150 : (Tryz.prog.underlying 150).isSome = true := by kernel_rfl
@[go_sem] theorem k151 : tyk Tryz.prog 151 = .scal := by kernel_rfl
@[go_sem] theorem c151 : Tryz.prog.cellsOf 151 = 1 := by kernel_rfl
@[go_sem] theorem b151 : Tryz.prog.bytesOf 151 = 4 := by kernel_rfl
@[go_sem] theorem z151 : tzO Tryz.prog 151 = some [.d (.int .i32 0)] := by kernel_rfl
@[go_sem] theorem i151 : ikind Tryz.prog 151 = some .i32 := by kernel_rfl
@[go_sem] theorem u151 : (Tryz.prog.underlying 151).isSome = true := by kernel_rfl
@[go_sem] theorem k152 : tyk Tryz.prog 152 = .scal := by kernel_rfl
@[go_sem] theorem c152 : Tryz.prog.cellsOf 152 = 1 := by kernel_rfl
@[go_sem] theorem b152 : Tryz.prog.bytesOf 152 = 4 := by kernel_rfl
@[go_sem] theorem z152 : tzO Tryz.prog 152 = some [.d (.int .i32 0)] := by kernel_rfl
@[go_sem] theorem i152 : ikind Tryz.prog 152 = some .i32 := by kernel_rfl
@[go_sem] theorem u152 : (Tryz.prog.underlying 152).isSome = true := by kernel_rfl
end Go.Proofs.YtbkbcjhghmlphaaGreat
