/-
  Facts of types, printed by a program of ours.
-/
import Derived.Test.YtbkbcjhghmlphaaRows
import Derived.Test.YtbkbcjhghmlphaaAmRun
namespace Go.Proofs.Ytbkbcjhghmlphaa
open Go.Am
set_option maxRecDepth 100000
@[go_sem] theorem k2 : tyk Try.prog 2 = .scal := by kernel_rfl
@[go_sem] theorem c2 : Try.prog.cellsOf 2 = 1 := by kernel_rfl
@[go_sem] theorem b2 : Try.prog.bytesOf 2 = 8 := by kernel_rfl
@[go_sem] theorem z2 : tzO Try.prog 2 = some [.d (.int .i64 0)] := by kernel_rfl
@[go_sem] theorem i2 : ikind Try.prog 2 = some .i64 := by kernel_rfl
@[go_sem] theorem u2 : (Try.prog.underlying 2).isSome = true := by kernel_rfl
@[go_sem] theorem k3 : tyk Try.prog 3 = .scal := by kernel_rfl
@[go_sem] theorem c3 : Try.prog.cellsOf 3 = 1 := by kernel_rfl
@[go_sem] theorem b3 : Try.prog.bytesOf 3 = 8 := by kernel_rfl
@[go_sem] theorem z3 : tzO Try.prog 3 = some [.d (.int .i64 0)] := by kernel_rfl
@[go_sem] theorem i3 : ikind Try.prog 3 = some .i64 := by kernel_rfl
@[go_sem] theorem u3 : (Try.prog.underlying 3).isSome = true := by kernel_rfl
@[go_sem] theorem k4 : tyk Try.prog 4 = .scal := by kernel_rfl
@[go_sem] theorem c4 : Try.prog.cellsOf 4 = 1 := by kernel_rfl
@[go_sem] theorem b4 : Try.prog.bytesOf 4 = 1 := by kernel_rfl
@[go_sem] theorem z4 : tzO Try.prog 4 = some [.d (.bool false)] := by kernel_rfl
@[go_sem] theorem u4 : (Try.prog.underlying 4).isSome = true := by kernel_rfl
@[go_sem] theorem k5 : tyk Try.prog 5 = .scal := by kernel_rfl
@[go_sem] theorem c5 : Try.prog.cellsOf 5 = 1 := by kernel_rfl
@[go_sem] theorem b5 : Try.prog.bytesOf 5 = 1 := by kernel_rfl
@[go_sem] theorem z5 : tzO Try.prog 5 = some [.d (.int .u8 0)] := by kernel_rfl
@[go_sem] theorem i5 : ikind Try.prog 5 = some .u8 := by kernel_rfl
@[go_sem] theorem u5 : (Try.prog.underlying 5).isSome = true := by kernel_rfl
@[go_sem] theorem k6 : tyk Try.prog 6 = .scal := by kernel_rfl
@[go_sem] theorem c6 : Try.prog.cellsOf 6 = 1 := by kernel_rfl
@[go_sem] theorem b6 : Try.prog.bytesOf 6 = 1 := by kernel_rfl
@[go_sem] theorem z6 : tzO Try.prog 6 = some [.d (.int .u8 0)] := by kernel_rfl
@[go_sem] theorem i6 : ikind Try.prog 6 = some .u8 := by kernel_rfl
@[go_sem] theorem u6 : (Try.prog.underlying 6).isSome = true := by kernel_rfl
@[go_sem] theorem k7 : tyk Try.prog 7 = .struct [(0, 2), (1, 3), (2, 4), (3, 6)] := by kernel_rfl
@[go_sem] theorem c7 : Try.prog.cellsOf 7 = 4 := by kernel_rfl
@[go_sem] theorem b7 : Try.prog.bytesOf 7 = 24 := by kernel_rfl
@[go_sem] theorem z7 : tzO Try.prog 7 = some [.d (.int .i64 0), .d (.int .i64 0), .d (.bool false), .d (.int .u8 0)] := by kernel_rfl
@[go_sem] theorem u7 : (Try.prog.underlying 7).isSome = true := by kernel_rfl
@[go_sem] theorem k8 : tyk Try.prog 8 = .struct [(0, 2), (1, 3), (2, 4), (3, 6)] := by kernel_rfl
@[go_sem] theorem c8 : Try.prog.cellsOf 8 = 4 := by kernel_rfl
@[go_sem] theorem b8 : Try.prog.bytesOf 8 = 24 := by kernel_rfl
@[go_sem] theorem z8 : tzO Try.prog 8 = some [.d (.int .i64 0), .d (.int .i64 0), .d (.bool false), .d (.int .u8 0)] := by kernel_rfl
@[go_sem] theorem u8 : (Try.prog.underlying 8).isSome = true := by kernel_rfl
@[go_sem] theorem k9 : tyk Try.prog 9 = .str := by kernel_rfl
@[go_sem] theorem c9 : Try.prog.cellsOf 9 = 1 := by kernel_rfl
@[go_sem] theorem b9 : Try.prog.bytesOf 9 = 16 := by kernel_rfl
@[go_sem] theorem z9 : tzO Try.prog 9 = some [.d (.str [])] := by kernel_rfl
@[go_sem] theorem u9 : (Try.prog.underlying 9).isSome = true := by kernel_rfl
@[go_sem] theorem k10 : tyk Try.prog 10 = .str := by kernel_rfl
@[go_sem] theorem c10 : Try.prog.cellsOf 10 = 1 := by kernel_rfl
@[go_sem] theorem b10 : Try.prog.bytesOf 10 = 16 := by kernel_rfl
@[go_sem] theorem z10 : tzO Try.prog 10 = some [.d (.str [])] := by kernel_rfl
@[go_sem] theorem u10 : (Try.prog.underlying 10).isSome = true := by kernel_rfl
@[go_sem] theorem k11 : tyk Try.prog 11 = .str := by kernel_rfl
@[go_sem] theorem c11 : Try.prog.cellsOf 11 = 1 := by kernel_rfl
@[go_sem] theorem b11 : Try.prog.bytesOf 11 = 16 := by kernel_rfl
@[go_sem] theorem z11 : tzO Try.prog 11 = some [.d (.str [])] := by kernel_rfl
@[go_sem] theorem u11 : (Try.prog.underlying 11).isSome = true := by kernel_rfl
@[go_sem] theorem k12 : tyk Try.prog 12 = .scal := by kernel_rfl
@[go_sem] theorem c12 : Try.prog.cellsOf 12 = 1 := by kernel_rfl
@[go_sem] theorem b12 : Try.prog.bytesOf 12 = 8 := by kernel_rfl
@[go_sem] theorem z12 : tzO Try.prog 12 = some [.d (.int .u64 0)] := by kernel_rfl
@[go_sem] theorem i12 : ikind Try.prog 12 = some .u64 := by kernel_rfl
@[go_sem] theorem u12 : (Try.prog.underlying 12).isSome = true := by kernel_rfl
@[go_sem] theorem k13 : tyk Try.prog 13 = .struct [(0, 9), (1, 12)] := by kernel_rfl
@[go_sem] theorem c13 : Try.prog.cellsOf 13 = 2 := by kernel_rfl
@[go_sem] theorem b13 : Try.prog.bytesOf 13 = 24 := by kernel_rfl
@[go_sem] theorem z13 : tzO Try.prog 13 = some [.d (.str []), .d (.int .u64 0)] := by kernel_rfl
@[go_sem] theorem u13 : (Try.prog.underlying 13).isSome = true := by kernel_rfl
@[go_sem] theorem k14 : tyk Try.prog 14 = .struct [(0, 9), (1, 12)] := by kernel_rfl
@[go_sem] theorem c14 : Try.prog.cellsOf 14 = 2 := by kernel_rfl
@[go_sem] theorem b14 : Try.prog.bytesOf 14 = 24 := by kernel_rfl
@[go_sem] theorem z14 : tzO Try.prog 14 = some [.d (.str []), .d (.int .u64 0)] := by kernel_rfl
@[go_sem] theorem u14 : (Try.prog.underlying 14).isSome = true := by kernel_rfl
@[go_sem] theorem k15 : tyk Try.prog 15 = .scal := by kernel_rfl
@[go_sem] theorem c15 : Try.prog.cellsOf 15 = 1 := by kernel_rfl
@[go_sem] theorem b15 : Try.prog.bytesOf 15 = 8 := by kernel_rfl
@[go_sem] theorem z15 : tzO Try.prog 15 = some [.d .nilp] := by kernel_rfl
@[go_sem] theorem u15 : (Try.prog.underlying 15).isSome = true := by kernel_rfl
@[go_sem] theorem k16 : tyk Try.prog 16 = .scal := by kernel_rfl
@[go_sem] theorem c16 : Try.prog.cellsOf 16 = 1 := by kernel_rfl
@[go_sem] theorem b16 : Try.prog.bytesOf 16 = 8 := by kernel_rfl
@[go_sem] theorem z16 : tzO Try.prog 16 = some [.d .nilp] := by kernel_rfl
@[go_sem] theorem u16 : (Try.prog.underlying 16).isSome = true := by kernel_rfl
@[go_sem] theorem k17 : tyk Try.prog 17 = .scal := by kernel_rfl
@[go_sem] theorem c17 : Try.prog.cellsOf 17 = 1 := by kernel_rfl
@[go_sem] theorem b17 : Try.prog.bytesOf 17 = 8 := by kernel_rfl
@[go_sem] theorem z17 : tzO Try.prog 17 = some [.d .nilp] := by kernel_rfl
@[go_sem] theorem u17 : (Try.prog.underlying 17).isSome = true := by kernel_rfl
@[go_sem] theorem k18 : tyk Try.prog 18 = .struct [(0, 17)] := by kernel_rfl
@[go_sem] theorem c18 : Try.prog.cellsOf 18 = 1 := by kernel_rfl
@[go_sem] theorem b18 : Try.prog.bytesOf 18 = 8 := by kernel_rfl
@[go_sem] theorem z18 : tzO Try.prog 18 = some [.d .nilp] := by kernel_rfl
@[go_sem] theorem u18 : (Try.prog.underlying 18).isSome = true := by kernel_rfl
@[go_sem] theorem k19 : tyk Try.prog 19 = .struct [(0, 17)] := by kernel_rfl
@[go_sem] theorem c19 : Try.prog.cellsOf 19 = 1 := by kernel_rfl
@[go_sem] theorem b19 : Try.prog.bytesOf 19 = 8 := by kernel_rfl
@[go_sem] theorem z19 : tzO Try.prog 19 = some [.d .nilp] := by kernel_rfl
@[go_sem] theorem u19 : (Try.prog.underlying 19).isSome = true := by kernel_rfl
@[go_sem] theorem k21 : tyk Try.prog 21 = .scal := by kernel_rfl
@[go_sem] theorem c21 : Try.prog.cellsOf 21 = 1 := by kernel_rfl
@[go_sem] theorem b21 : Try.prog.bytesOf 21 = 4 := by kernel_rfl
@[go_sem] theorem z21 : tzO Try.prog 21 = some [.d (.int .i32 0)] := by kernel_rfl
@[go_sem] theorem i21 : ikind Try.prog 21 = some .i32 := by kernel_rfl
@[go_sem] theorem u21 : (Try.prog.underlying 21).isSome = true := by kernel_rfl
@[go_sem] theorem k22 : tyk Try.prog 22 = .arr 32 5 := by kernel_rfl
@[go_sem] theorem c22 : Try.prog.cellsOf 22 = 32 := by kernel_rfl
@[go_sem] theorem b22 : Try.prog.bytesOf 22 = 32 := by kernel_rfl
@[go_sem] theorem u22 : (Try.prog.underlying 22).isSome = true := by kernel_rfl
@[go_sem] theorem k23 : tyk Try.prog 23 = .slice 22 := by kernel_rfl
@[go_sem] theorem c23 : Try.prog.cellsOf 23 = 1 := by kernel_rfl
@[go_sem] theorem b23 : Try.prog.bytesOf 23 = 24 := by kernel_rfl
@[go_sem] theorem z23 : tzO Try.prog 23 = some [.nil] := by kernel_rfl
@[go_sem] theorem u23 : (Try.prog.underlying 23).isSome = true := by kernel_rfl
@[go_sem] theorem k24 : tyk Try.prog 24 = .slice 5 := by kernel_rfl
@[go_sem] theorem c24 : Try.prog.cellsOf 24 = 1 := by kernel_rfl
@[go_sem] theorem b24 : Try.prog.bytesOf 24 = 24 := by kernel_rfl
@[go_sem] theorem z24 : tzO Try.prog 24 = some [.nil] := by kernel_rfl
@[go_sem] theorem u24 : (Try.prog.underlying 24).isSome = true := by kernel_rfl
@[go_sem] theorem k25 : tyk Try.prog 25 = .struct [(0, 22), (32, 23), (33, 24)] := by kernel_rfl
@[go_sem] theorem c25 : Try.prog.cellsOf 25 = 34 := by kernel_rfl
@[go_sem] theorem b25 : Try.prog.bytesOf 25 = 80 := by kernel_rfl
@[go_sem] theorem u25 : (Try.prog.underlying 25).isSome = true := by kernel_rfl
@[go_sem] theorem k26 : tyk Try.prog 26 = .struct [(0, 22), (32, 23), (33, 24)] := by kernel_rfl
@[go_sem] theorem c26 : Try.prog.cellsOf 26 = 34 := by kernel_rfl
@[go_sem] theorem b26 : Try.prog.bytesOf 26 = 80 := by kernel_rfl
@[go_sem] theorem u26 : (Try.prog.underlying 26).isSome = true := by kernel_rfl
@[go_sem] theorem k33 : tyk Try.prog 33 = .slice 24 := by kernel_rfl
@[go_sem] theorem c33 : Try.prog.cellsOf 33 = 1 := by kernel_rfl
@[go_sem] theorem b33 : Try.prog.bytesOf 33 = 24 := by kernel_rfl
@[go_sem] theorem z33 : tzO Try.prog 33 = some [.nil] := by kernel_rfl
@[go_sem] theorem u33 : (Try.prog.underlying 33).isSome = true := by kernel_rfl
@[go_sem] theorem k34 : tyk Try.prog 34 = .scal := by kernel_rfl
@[go_sem] theorem c34 : Try.prog.cellsOf 34 = 1 := by kernel_rfl
@[go_sem] theorem b34 : Try.prog.bytesOf 34 = 8 := by kernel_rfl
@[go_sem] theorem z34 : tzO Try.prog 34 = some [.d (.int .i64 0)] := by kernel_rfl
@[go_sem] theorem i34 : ikind Try.prog 34 = some .i64 := by kernel_rfl
@[go_sem] theorem u34 : (Try.prog.underlying 34).isSome = true := by kernel_rfl
@[go_sem] theorem k38 : tyk Try.prog 38 = .scal := by kernel_rfl
@[go_sem] theorem c38 : Try.prog.cellsOf 38 = 1 := by kernel_rfl
@[go_sem] theorem b38 : Try.prog.bytesOf 38 = 4 := by kernel_rfl
@[go_sem] theorem z38 : tzO Try.prog 38 = some [.d (.int .u32 0)] := by kernel_rfl
@[go_sem] theorem i38 : ikind Try.prog 38 = some .u32 := by kernel_rfl
@[go_sem] theorem u38 : (Try.prog.underlying 38).isSome = true := by kernel_rfl
@[go_sem] theorem k39 : tyk Try.prog 39 = .slice 100 := by kernel_rfl
@[go_sem] theorem c39 : Try.prog.cellsOf 39 = 1 := by kernel_rfl
@[go_sem] theorem b39 : Try.prog.bytesOf 39 = 24 := by kernel_rfl
@[go_sem] theorem z39 : tzO Try.prog 39 = some [.nil] := by kernel_rfl
@[go_sem] theorem u39 : (Try.prog.underlying 39).isSome = true := by kernel_rfl
@[go_sem] theorem k40 : tyk Try.prog 40 = .slice 86 := by kernel_rfl
@[go_sem] theorem c40 : Try.prog.cellsOf 40 = 1 := by kernel_rfl
@[go_sem] theorem b40 : Try.prog.bytesOf 40 = 24 := by kernel_rfl
@[go_sem] theorem z40 : tzO Try.prog 40 = some [.nil] := by kernel_rfl
@[go_sem] theorem u40 : (Try.prog.underlying 40).isSome = true := by kernel_rfl
@[go_sem] theorem k41 : tyk Try.prog 41 = .struct [(0, 38), (1, 39), (2, 40), (3, 38)] := by kernel_rfl
@[go_sem] theorem c41 : Try.prog.cellsOf 41 = 4 := by kernel_rfl
@[go_sem] theorem b41 : Try.prog.bytesOf 41 = 64 := by kernel_rfl
@[go_sem] theorem z41 : tzO Try.prog 41 = some [.d (.int .u32 0), .nil, .nil, .d (.int .u32 0)] := by kernel_rfl
@[go_sem] theorem u41 : (Try.prog.underlying 41).isSome = true := by kernel_rfl
@[go_sem] theorem k42 : tyk Try.prog 42 = .struct [(0, 38), (1, 39), (2, 40), (3, 38)] := by kernel_rfl
@[go_sem] theorem c42 : Try.prog.cellsOf 42 = 4 := by kernel_rfl
@[go_sem] theorem b42 : Try.prog.bytesOf 42 = 64 := by kernel_rfl
@[go_sem] theorem z42 : tzO Try.prog 42 = some [.d (.int .u32 0), .nil, .nil, .d (.int .u32 0)] := by kernel_rfl
@[go_sem] theorem u42 : (Try.prog.underlying 42).isSome = true := by kernel_rfl
@[go_sem] theorem k43 : tyk Try.prog 43 = .struct [(0, 42), (4, 3), (5, 40)] := by kernel_rfl
@[go_sem] theorem c43 : Try.prog.cellsOf 43 = 6 := by kernel_rfl
@[go_sem] theorem b43 : Try.prog.bytesOf 43 = 96 := by kernel_rfl
@[go_sem] theorem z43 : tzO Try.prog 43 = some [.d (.int .u32 0), .nil, .nil, .d (.int .u32 0), .d (.int .i64 0), .nil] := by kernel_rfl
@[go_sem] theorem u43 : (Try.prog.underlying 43).isSome = true := by kernel_rfl
@[go_sem] theorem k44 : tyk Try.prog 44 = .struct [(0, 42), (4, 3), (5, 40)] := by kernel_rfl
@[go_sem] theorem c44 : Try.prog.cellsOf 44 = 6 := by kernel_rfl
@[go_sem] theorem b44 : Try.prog.bytesOf 44 = 96 := by kernel_rfl
@[go_sem] theorem z44 : tzO Try.prog 44 = some [.d (.int .u32 0), .nil, .nil, .d (.int .u32 0), .d (.int .i64 0), .nil] := by kernel_rfl
@[go_sem] theorem u44 : (Try.prog.underlying 44).isSome = true := by kernel_rfl
@[go_sem] theorem k46 : tyk Try.prog 46 = .scal := by kernel_rfl
@[go_sem] theorem c46 : Try.prog.cellsOf 46 = 1 := by kernel_rfl
@[go_sem] theorem b46 : Try.prog.bytesOf 46 = 8 := by kernel_rfl
@[go_sem] theorem z46 : tzO Try.prog 46 = some [.d (.int .u64 0)] := by kernel_rfl
@[go_sem] theorem i46 : ikind Try.prog 46 = some .u64 := by kernel_rfl
@[go_sem] theorem u46 : (Try.prog.underlying 46).isSome = true := by kernel_rfl
@[go_sem] theorem k47 : tyk Try.prog 47 = .struct [(0, 3), (1, 46)] := by kernel_rfl
@[go_sem] theorem c47 : Try.prog.cellsOf 47 = 2 := by kernel_rfl
@[go_sem] theorem b47 : Try.prog.bytesOf 47 = 16 := by kernel_rfl
@[go_sem] theorem z47 : tzO Try.prog 47 = some [.d (.int .i64 0), .d (.int .u64 0)] := by kernel_rfl
@[go_sem] theorem u47 : (Try.prog.underlying 47).isSome = true := by kernel_rfl
@[go_sem] theorem k48 : tyk Try.prog 48 = .struct [(0, 3), (1, 46)] := by kernel_rfl
@[go_sem] theorem c48 : Try.prog.cellsOf 48 = 2 := by kernel_rfl
@[go_sem] theorem b48 : Try.prog.bytesOf 48 = 16 := by kernel_rfl
@[go_sem] theorem z48 : tzO Try.prog 48 = some [.d (.int .i64 0), .d (.int .u64 0)] := by kernel_rfl
@[go_sem] theorem u48 : (Try.prog.underlying 48).isSome = true := by kernel_rfl
@[go_sem] theorem k52 : tyk Try.prog 52 = .slice 38 := by kernel_rfl
@[go_sem] theorem c52 : Try.prog.cellsOf 52 = 1 := by kernel_rfl
@[go_sem] theorem b52 : Try.prog.bytesOf 52 = 24 := by kernel_rfl
@[go_sem] theorem z52 : tzO Try.prog 52 = some [.nil] := by kernel_rfl
@[go_sem] theorem u52 : (Try.prog.underlying 52).isSome = true := by kernel_rfl
@[go_sem] theorem k53 : tyk Try.prog 53 = .arr 2 38 := by kernel_rfl
@[go_sem] theorem c53 : Try.prog.cellsOf 53 = 2 := by kernel_rfl
@[go_sem] theorem b53 : Try.prog.bytesOf 53 = 8 := by kernel_rfl
@[go_sem] theorem z53 : tzO Try.prog 53 = some [.d (.int .u32 0), .d (.int .u32 0)] := by kernel_rfl
@[go_sem] theorem u53 : (Try.prog.underlying 53).isSome = true := by kernel_rfl
@[go_sem] theorem k60 : tyk Try.prog 60 = .slice 109 := by kernel_rfl
@[go_sem] theorem c60 : Try.prog.cellsOf 60 = 1 := by kernel_rfl
@[go_sem] theorem b60 : Try.prog.bytesOf 60 = 24 := by kernel_rfl
@[go_sem] theorem z60 : tzO Try.prog 60 = some [.nil] := by kernel_rfl
@[go_sem] theorem u60 : (Try.prog.underlying 60).isSome = true := by kernel_rfl
@[go_sem] theorem k66 : tyk Try.prog 66 = .struct [(0, 38), (1, 22), (33, 22), (65, 38), (66, 38), (67, 38)] := by kernel_rfl
@[go_sem] theorem c66 : Try.prog.cellsOf 66 = 68 := by kernel_rfl
@[go_sem] theorem b66 : Try.prog.bytesOf 66 = 80 := by kernel_rfl
@[go_sem] theorem u66 : (Try.prog.underlying 66).isSome = true := by kernel_rfl
@[go_sem] theorem k67 : tyk Try.prog 67 = .struct [(0, 38), (1, 22), (33, 22), (65, 38), (66, 38), (67, 38)] := by kernel_rfl
@[go_sem] theorem c67 : Try.prog.cellsOf 67 = 68 := by kernel_rfl
@[go_sem] theorem b67 : Try.prog.bytesOf 67 = 80 := by kernel_rfl
@[go_sem] theorem u67 : (Try.prog.underlying 67).isSome = true := by kernel_rfl
@[go_sem] theorem k73 : tyk Try.prog 73 = .arr 3 38 := by kernel_rfl
@[go_sem] theorem c73 : Try.prog.cellsOf 73 = 3 := by kernel_rfl
@[go_sem] theorem b73 : Try.prog.bytesOf 73 = 12 := by kernel_rfl
@[go_sem] theorem z73 : tzO Try.prog 73 = some [.d (.int .u32 0), .d (.int .u32 0), .d (.int .u32 0)] := by kernel_rfl
@[go_sem] theorem u73 : (Try.prog.underlying 73).isSome = true := by kernel_rfl
@[go_sem] theorem k83 : tyk Try.prog 83 = .slice 48 := by kernel_rfl
@[go_sem] theorem c83 : Try.prog.cellsOf 83 = 1 := by kernel_rfl
@[go_sem] theorem b83 : Try.prog.bytesOf 83 = 24 := by kernel_rfl
@[go_sem] theorem z83 : tzO Try.prog 83 = some [.nil] := by kernel_rfl
@[go_sem] theorem u83 : (Try.prog.underlying 83).isSome = true := by kernel_rfl
@[go_sem] theorem k85 : tyk Try.prog 85 = .struct [(0, 46), (1, 24)] := by kernel_rfl
@[go_sem] theorem c85 : Try.prog.cellsOf 85 = 2 := by kernel_rfl
@[go_sem] theorem b85 : Try.prog.bytesOf 85 = 32 := by kernel_rfl
@[go_sem] theorem z85 : tzO Try.prog 85 = some [.d (.int .u64 0), .nil] := by kernel_rfl
@[go_sem] theorem u85 : (Try.prog.underlying 85).isSome = true := by kernel_rfl
@[go_sem] theorem k86 : tyk Try.prog 86 = .struct [(0, 46), (1, 24)] := by kernel_rfl
@[go_sem] theorem c86 : Try.prog.cellsOf 86 = 2 := by kernel_rfl
@[go_sem] theorem b86 : Try.prog.bytesOf 86 = 32 := by kernel_rfl
@[go_sem] theorem z86 : tzO Try.prog 86 = some [.d (.int .u64 0), .nil] := by kernel_rfl
@[go_sem] theorem u86 : (Try.prog.underlying 86).isSome = true := by kernel_rfl
@[go_sem] theorem k88 : tyk Try.prog 88 = .struct [(0, 5), (1, 24)] := by kernel_rfl
@[go_sem] theorem c88 : Try.prog.cellsOf 88 = 2 := by kernel_rfl
@[go_sem] theorem b88 : Try.prog.bytesOf 88 = 32 := by kernel_rfl
@[go_sem] theorem z88 : tzO Try.prog 88 = some [.d (.int .u8 0), .nil] := by kernel_rfl
@[go_sem] theorem u88 : (Try.prog.underlying 88).isSome = true := by kernel_rfl
@[go_sem] theorem k89 : tyk Try.prog 89 = .struct [(0, 5), (1, 24)] := by kernel_rfl
@[go_sem] theorem c89 : Try.prog.cellsOf 89 = 2 := by kernel_rfl
@[go_sem] theorem b89 : Try.prog.bytesOf 89 = 32 := by kernel_rfl
@[go_sem] theorem z89 : tzO Try.prog 89 = some [.d (.int .u8 0), .nil] := by kernel_rfl
@[go_sem] theorem u89 : (Try.prog.underlying 89).isSome = true := by kernel_rfl
@[go_sem] theorem k91 : tyk Try.prog 91 = .slice 89 := by kernel_rfl
@[go_sem] theorem c91 : Try.prog.cellsOf 91 = 1 := by kernel_rfl
@[go_sem] theorem b91 : Try.prog.bytesOf 91 = 24 := by kernel_rfl
@[go_sem] theorem z91 : tzO Try.prog 91 = some [.nil] := by kernel_rfl
@[go_sem] theorem u91 : (Try.prog.underlying 91).isSome = true := by kernel_rfl
@[go_sem] theorem k97 : tyk Try.prog 97 = .struct [(0, 22), (32, 38)] := by kernel_rfl
@[go_sem] theorem c97 : Try.prog.cellsOf 97 = 33 := by kernel_rfl
@[go_sem] theorem b97 : Try.prog.bytesOf 97 = 36 := by kernel_rfl
@[go_sem] theorem u97 : (Try.prog.underlying 97).isSome = true := by kernel_rfl
@[go_sem] theorem k98 : tyk Try.prog 98 = .struct [(0, 22), (32, 38)] := by kernel_rfl
@[go_sem] theorem c98 : Try.prog.cellsOf 98 = 33 := by kernel_rfl
@[go_sem] theorem b98 : Try.prog.bytesOf 98 = 36 := by kernel_rfl
@[go_sem] theorem u98 : (Try.prog.underlying 98).isSome = true := by kernel_rfl
@[go_sem] theorem k99 : tyk Try.prog 99 = .struct [(0, 98), (33, 38), (34, 33)] := by kernel_rfl
@[go_sem] theorem c99 : Try.prog.cellsOf 99 = 35 := by kernel_rfl
@[go_sem] theorem b99 : Try.prog.bytesOf 99 = 64 := by kernel_rfl
@[go_sem] theorem u99 : (Try.prog.underlying 99).isSome = true := by kernel_rfl
@[go_sem] theorem k100 : tyk Try.prog 100 = .struct [(0, 98), (33, 38), (34, 33)] := by kernel_rfl
@[go_sem] theorem c100 : Try.prog.cellsOf 100 = 35 := by kernel_rfl
@[go_sem] theorem b100 : Try.prog.bytesOf 100 = 64 := by kernel_rfl
@[go_sem] theorem u100 : (Try.prog.underlying 100).isSome = true := by kernel_rfl
@[go_sem] theorem k108 : tyk Try.prog 108 = .struct [(0, 98), (33, 86), (35, 38), (36, 4)] := by kernel_rfl
@[go_sem] theorem c108 : Try.prog.cellsOf 108 = 37 := by kernel_rfl
@[go_sem] theorem b108 : Try.prog.bytesOf 108 = 80 := by kernel_rfl
@[go_sem] theorem u108 : (Try.prog.underlying 108).isSome = true := by kernel_rfl
@[go_sem] theorem k109 : tyk Try.prog 109 = .struct [(0, 98), (33, 86), (35, 38), (36, 4)] := by kernel_rfl
@[go_sem] theorem c109 : Try.prog.cellsOf 109 = 37 := by kernel_rfl
@[go_sem] theorem b109 : Try.prog.bytesOf 109 = 80 := by kernel_rfl
@[go_sem] theorem u109 : (Try.prog.underlying 109).isSome = true := by kernel_rfl
@[go_sem] theorem k113 : tyk Try.prog 113 = .arr 4 46 := by kernel_rfl
@[go_sem] theorem c113 : Try.prog.cellsOf 113 = 4 := by kernel_rfl
@[go_sem] theorem b113 : Try.prog.bytesOf 113 = 32 := by kernel_rfl
@[go_sem] theorem z113 : tzO Try.prog 113 = some [.d (.int .u64 0), .d (.int .u64 0), .d (.int .u64 0), .d (.int .u64 0)] := by kernel_rfl
@[go_sem] theorem u113 : (Try.prog.underlying 113).isSome = true := by kernel_rfl
@[go_sem] theorem k114 : tyk Try.prog 114 = .arr 4 46 := by kernel_rfl
@[go_sem] theorem c114 : Try.prog.cellsOf 114 = 4 := by kernel_rfl
@[go_sem] theorem b114 : Try.prog.bytesOf 114 = 32 := by kernel_rfl
@[go_sem] theorem z114 : tzO Try.prog 114 = some [.d (.int .u64 0), .d (.int .u64 0), .d (.int .u64 0), .d (.int .u64 0)] := by kernel_rfl
@[go_sem] theorem u114 : (Try.prog.underlying 114).isSome = true := by kernel_rfl
@[go_sem] theorem k121 : tyk Try.prog 121 = .scal := by kernel_rfl
@[go_sem] theorem c121 : Try.prog.cellsOf 121 = 1 := by kernel_rfl
@[go_sem] theorem b121 : Try.prog.bytesOf 121 = 8 := by kernel_rfl
@[go_sem] theorem z121 : tzO Try.prog 121 = some [.d .nilp] := by kernel_rfl
@[go_sem] theorem u121 : (Try.prog.underlying 121).isSome = true := by kernel_rfl
@[go_sem] theorem k132 : tyk Try.prog 132 = .slice 46 := by kernel_rfl
@[go_sem] theorem c132 : Try.prog.cellsOf 132 = 1 := by kernel_rfl
@[go_sem] theorem b132 : Try.prog.bytesOf 132 = 24 := by kernel_rfl
@[go_sem] theorem z132 : tzO Try.prog 132 = some [.nil] := by kernel_rfl
@[go_sem] theorem u132 : (Try.prog.underlying 132).isSome = true := by kernel_rfl
@[go_sem] theorem k139 : tyk Try.prog 139 = .scal := by kernel_rfl
@[go_sem] theorem c139 : Try.prog.cellsOf 139 = 1 := by kernel_rfl
@[go_sem] theorem b139 : Try.prog.bytesOf 139 = 8 := by kernel_rfl
@[go_sem] theorem z139 : tzO Try.prog 139 = some [.d (.int .u64 0)] := by kernel_rfl
@[go_sem] theorem i139 : ikind Try.prog 139 = some .u64 := by kernel_rfl
@[go_sem] theorem u139 : (Try.prog.underlying 139).isSome = true := by kernel_rfl
@[go_sem] theorem k146 : tyk Try.prog 146 = .arr 8 38 := by kernel_rfl
@[go_sem] theorem c146 : Try.prog.cellsOf 146 = 8 := by kernel_rfl
@[go_sem] theorem b146 : Try.prog.bytesOf 146 = 32 := by kernel_rfl
@[go_sem] theorem z146 : tzO Try.prog 146 = some [.d (.int .u32 0), .d (.int .u32 0), .d (.int .u32 0), .d (.int .u32 0), .d (.int .u32 0), .d (.int .u32 0), .d (.int .u32 0), .d (.int .u32 0)] := by kernel_rfl
@[go_sem] theorem u146 : (Try.prog.underlying 146).isSome = true := by kernel_rfl
@[go_sem] theorem k147 : tyk Try.prog 147 = .arr 8 38 := by kernel_rfl
@[go_sem] theorem c147 : Try.prog.cellsOf 147 = 8 := by kernel_rfl
@[go_sem] theorem b147 : Try.prog.bytesOf 147 = 32 := by kernel_rfl
@[go_sem] theorem z147 : tzO Try.prog 147 = some [.d (.int .u32 0), .d (.int .u32 0), .d (.int .u32 0), .d (.int .u32 0), .d (.int .u32 0), .d (.int .u32 0), .d (.int .u32 0), .d (.int .u32 0)] := by kernel_rfl
@[go_sem] theorem u147 : (Try.prog.underlying 147).isSome = true := by kernel_rfl
@[go_sem] theorem k149 : tyk Try.prog 149 = .struct [(0, 147), (8, 24), (9, 46)] := by kernel_rfl
@[go_sem] theorem c149 : Try.prog.cellsOf 149 = 10 := by kernel_rfl
@[go_sem] theorem b149 : Try.prog.bytesOf 149 = 64 := by kernel_rfl
@[go_sem] theorem z149 : tzO Try.prog 149 = some [.d (.int .u32 0), .d (.int .u32 0), .d (.int .u32 0), .d (.int .u32 0), .d (.int .u32 0), .d (.int .u32 0), .d (.int .u32 0), .d (.int .u32 0), .nil, .d (.int .u64 0)] := by kernel_rfl
@[go_sem] theorem u149 : (Try.prog.underlying 149).isSome = true := by kernel_rfl
@[go_sem] theorem k150 : tyk Try.prog 150 = .struct [(0, 147), (8, 24), (9, 46)] := by kernel_rfl
@[go_sem] theorem c150 : Try.prog.cellsOf 150 = 10 := by kernel_rfl
@[go_sem] theorem b150 : Try.prog.bytesOf 150 = 64 := by kernel_rfl
@[go_sem] theorem z150 : tzO Try.prog 150 = some [.d (.int .u32 0), .d (.int .u32 0), .d (.int .u32 0), .d (.int .u32 0), .d (.int .u32 0), .d (.int .u32 0), .d (.int .u32 0), .d (.int .u32 0), .nil, .d (.int .u64 0)] := by kernel_rfl
@[go_sem] theorem u150 : (Try.prog.underlying 150).isSome = true := by kernel_rfl
@[go_sem] theorem k153 : tyk Try.prog 153 = .scal := by kernel_rfl
@[go_sem] theorem c153 : Try.prog.cellsOf 153 = 1 := by kernel_rfl
@[go_sem] theorem b153 : Try.prog.bytesOf 153 = 2 := by kernel_rfl
@[go_sem] theorem z153 : tzO Try.prog 153 = some [.d (.int .u16 0)] := by kernel_rfl
@[go_sem] theorem i153 : ikind Try.prog 153 = some .u16 := by kernel_rfl
@[go_sem] theorem u153 : (Try.prog.underlying 153).isSome = true := by kernel_rfl
@[go_sem] theorem k164 : tyk Try.prog 164 = .scal := by kernel_rfl
@[go_sem] theorem c164 : Try.prog.cellsOf 164 = 1 := by kernel_rfl
@[go_sem] theorem b164 : Try.prog.bytesOf 164 = 8 := by kernel_rfl
@[go_sem] theorem z164 : tzO Try.prog 164 = some [.d (.int .i64 0)] := by kernel_rfl
@[go_sem] theorem i164 : ikind Try.prog 164 = some .i64 := by kernel_rfl
@[go_sem] theorem u164 : (Try.prog.underlying 164).isSome = true := by kernel_rfl
@[go_sem] theorem k174 : tyk Try.prog 174 = .scal := by kernel_rfl
@[go_sem] theorem c174 : Try.prog.cellsOf 174 = 1 := by kernel_rfl
@[go_sem] theorem b174 : Try.prog.bytesOf 174 = 8 := by kernel_rfl
@[go_sem] theorem z174 : tzO Try.prog 174 = some [.d .nilp] := by kernel_rfl
@[go_sem] theorem u174 : (Try.prog.underlying 174).isSome = true := by kernel_rfl
@[go_sem] theorem k175 : tyk Try.prog 175 = .arr 64 38 := by kernel_rfl
@[go_sem] theorem c175 : Try.prog.cellsOf 175 = 64 := by kernel_rfl
@[go_sem] theorem b175 : Try.prog.bytesOf 175 = 256 := by kernel_rfl
@[go_sem] theorem u175 : (Try.prog.underlying 175).isSome = true := by kernel_rfl
@[go_sem] theorem k181 : tyk Try.prog 181 = .scal := by kernel_rfl
@[go_sem] theorem c181 : Try.prog.cellsOf 181 = 1 := by kernel_rfl
@[go_sem] theorem b181 : Try.prog.bytesOf 181 = 8 := by kernel_rfl
@[go_sem] theorem z181 : tzO Try.prog 181 = some [.d (.int .u64 0)] := by kernel_rfl
@[go_sem] theorem i181 : ikind Try.prog 181 = some .u64 := by kernel_rfl
@[go_sem] theorem u181 : (Try.prog.underlying 181).isSome = true := by kernel_rfl
@[go_sem] theorem k185 : tyk Try.prog 185 = .scal := by kernel_rfl
@[go_sem] theorem c185 : Try.prog.cellsOf 185 = 1 := by kernel_rfl
@[go_sem] theorem b185 : Try.prog.bytesOf 185 = 8 := by kernel_rfl
@[go_sem] theorem z185 : tzO Try.prog 185 = some [.d .nilp] := by kernel_rfl
@[go_sem] theorem u185 : (Try.prog.underlying 185).isSome = true := by kernel_rfl
@[go_sem] theorem k188 : tyk Try.prog 188 = .scal := by kernel_rfl
@[go_sem] theorem c188 : Try.prog.cellsOf 188 = 1 := by kernel_rfl
@[go_sem] theorem b188 : Try.prog.bytesOf 188 = 8 := by kernel_rfl
@[go_sem] theorem z188 : tzO Try.prog 188 = some [.d .nilp] := by kernel_rfl
@[go_sem] theorem u188 : (Try.prog.underlying 188).isSome = true := by kernel_rfl
@[go_sem] theorem k192 : tyk Try.prog 192 = .struct [(0, 17), (1, 17), (2, 17), (3, 9)] := by kernel_rfl
@[go_sem] theorem c192 : Try.prog.cellsOf 192 = 4 := by kernel_rfl
@[go_sem] theorem b192 : Try.prog.bytesOf 192 = 40 := by kernel_rfl
@[go_sem] theorem z192 : tzO Try.prog 192 = some [.d .nilp, .d .nilp, .d .nilp, .d (.str [])] := by kernel_rfl
@[go_sem] theorem u192 : (Try.prog.underlying 192).isSome = true := by kernel_rfl
@[go_sem] theorem k193 : tyk Try.prog 193 = .struct [(0, 17), (1, 17), (2, 17), (3, 9)] := by kernel_rfl
@[go_sem] theorem c193 : Try.prog.cellsOf 193 = 4 := by kernel_rfl
@[go_sem] theorem b193 : Try.prog.bytesOf 193 = 40 := by kernel_rfl
@[go_sem] theorem z193 : tzO Try.prog 193 = some [.d .nilp, .d .nilp, .d .nilp, .d (.str [])] := by kernel_rfl
@[go_sem] theorem u193 : (Try.prog.underlying 193).isSome = true := by kernel_rfl
@[go_sem] theorem k194 : tyk Try.prog 194 = .arr 0 16 := by kernel_rfl
@[go_sem] theorem c194 : Try.prog.cellsOf 194 = 0 := by kernel_rfl
@[go_sem] theorem u194 : (Try.prog.underlying 194).isSome = true := by kernel_rfl
@[go_sem] theorem k195 : tyk Try.prog 195 = .struct [(0, 194)] := by kernel_rfl
@[go_sem] theorem c195 : Try.prog.cellsOf 195 = 0 := by kernel_rfl
@[go_sem] theorem u195 : (Try.prog.underlying 195).isSome = true := by kernel_rfl
@[go_sem] theorem k196 : tyk Try.prog 196 = .struct [(0, 194)] := by kernel_rfl
@[go_sem] theorem c196 : Try.prog.cellsOf 196 = 0 := by kernel_rfl
@[go_sem] theorem u196 : (Try.prog.underlying 196).isSome = true := by kernel_rfl
@[go_sem] theorem k198 : tyk Try.prog 198 = .scal := by kernel_rfl
@[go_sem] theorem c198 : Try.prog.cellsOf 198 = 1 := by kernel_rfl
@[go_sem] theorem b198 : Try.prog.bytesOf 198 = 1 := by kernel_rfl
@[go_sem] theorem z198 : tzO Try.prog 198 = some [.d (.int .u8 0)] := by kernel_rfl
@[go_sem] theorem i198 : ikind Try.prog 198 = some .u8 := by kernel_rfl
@[go_sem] theorem u198 : (Try.prog.underlying 198).isSome = true := by kernel_rfl
@[go_sem] theorem k199 : tyk Try.prog 199 = .scal := by kernel_rfl
@[go_sem] theorem c199 : Try.prog.cellsOf 199 = 1 := by kernel_rfl
@[go_sem] theorem b199 : Try.prog.bytesOf 199 = 1 := by kernel_rfl
@[go_sem] theorem z199 : tzO Try.prog 199 = some [.d (.int .u8 0)] := by kernel_rfl
@[go_sem] theorem i199 : ikind Try.prog 199 = some .u8 := by kernel_rfl
@[go_sem] theorem u199 : (Try.prog.underlying 199).isSome = true := by kernel_rfl
end Go.Proofs.Ytbkbcjhghmlphaa
