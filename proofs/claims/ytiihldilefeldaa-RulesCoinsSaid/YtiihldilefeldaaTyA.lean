/-
  Facts of types, printed by a program of ours.
-/
import Derived.Test.YtiihldilefeldaaRows
import Derived.Test.YtiihldilefeldaaAmRun
namespace Go.Proofs.Ytiihldilefeldaa
open Go.Am
set_option maxRecDepth 100000
@[go_sem] theorem k2 : tyk Try.prog 2 = .scal := by kernel_rfl
@[go_sem] theorem c2 : Try.prog.cellsOf 2 = 1 := by kernel_rfl
@[go_sem] theorem b2 : Try.prog.bytesOf 2 = 8 := by kernel_rfl
@[go_sem] theorem z2 : tzO Try.prog 2 = some [.d (.int .i64 0)] := by kernel_rfl
@[go_sem] theorem i2 : ikind Try.prog 2 = some .i64 := by kernel_rfl
@[go_sem] theorem u2 : (Try.prog.underlying 2).isSome = true := by kernel_rfl
@[go_sem] theorem k3 : tyk Try.prog 3 = .scal := by kernel_rfl
@[go_sem] theorem c3 : Try.prog.cellsOf 3 = 1 := by kernel_rfl
@[go_sem] theorem b3 : Try.prog.bytesOf 3 = 8 := by kernel_rfl
@[go_sem] theorem z3 : tzO Try.prog 3 = some [.d (.int .i64 0)] := by kernel_rfl
@[go_sem] theorem i3 : ikind Try.prog 3 = some .i64 := by kernel_rfl
@[go_sem] theorem u3 : (Try.prog.underlying 3).isSome = true := by kernel_rfl
@[go_sem] theorem k4 : tyk Try.prog 4 = .scal := by kernel_rfl
@[go_sem] theorem c4 : Try.prog.cellsOf 4 = 1 := by kernel_rfl
@[go_sem] theorem b4 : Try.prog.bytesOf 4 = 1 := by kernel_rfl
@[go_sem] theorem z4 : tzO Try.prog 4 = some [.d (.bool false)] := by kernel_rfl
@[go_sem] theorem u4 : (Try.prog.underlying 4).isSome = true := by kernel_rfl
@[go_sem] theorem k5 : tyk Try.prog 5 = .scal := by kernel_rfl
@[go_sem] theorem c5 : Try.prog.cellsOf 5 = 1 := by kernel_rfl
@[go_sem] theorem b5 : Try.prog.bytesOf 5 = 1 := by kernel_rfl
@[go_sem] theorem z5 : tzO Try.prog 5 = some [.d (.int .u8 0)] := by kernel_rfl
@[go_sem] theorem i5 : ikind Try.prog 5 = some .u8 := by kernel_rfl
@[go_sem] theorem u5 : (Try.prog.underlying 5).isSome = true := by kernel_rfl
@[go_sem] theorem k6 : tyk Try.prog 6 = .scal := by kernel_rfl
@[go_sem] theorem c6 : Try.prog.cellsOf 6 = 1 := by kernel_rfl
@[go_sem] theorem b6 : Try.prog.bytesOf 6 = 1 := by kernel_rfl
@[go_sem] theorem z6 : tzO Try.prog 6 = some [.d (.int .u8 0)] := by kernel_rfl
@[go_sem] theorem i6 : ikind Try.prog 6 = some .u8 := by kernel_rfl
@[go_sem] theorem u6 : (Try.prog.underlying 6).isSome = true := by kernel_rfl
@[go_sem] theorem k7 : tyk Try.prog 7 = .struct [(0, 2), (1, 3), (2, 4), (3, 6)] := by kernel_rfl
@[go_sem] theorem c7 : Try.prog.cellsOf 7 = 4 := by kernel_rfl
@[go_sem] theorem b7 : Try.prog.bytesOf 7 = 24 := by kernel_rfl
@[go_sem] theorem z7 : tzO Try.prog 7 = some [.d (.int .i64 0), .d (.int .i64 0), .d (.bool false), .d (.int .u8 0)] := by kernel_rfl
@[go_sem] theorem u7 : (Try.prog.underlying 7).isSome = true := by kernel_rfl
@[go_sem] theorem k8 : tyk Try.prog 8 = .struct [(0, 2), (1, 3), (2, 4), (3, 6)] := by kernel_rfl
@[go_sem] theorem c8 : Try.prog.cellsOf 8 = 4 := by kernel_rfl
@[go_sem] theorem b8 : Try.prog.bytesOf 8 = 24 := by kernel_rfl
@[go_sem] theorem z8 : tzO Try.prog 8 = some [.d (.int .i64 0), .d (.int .i64 0), .d (.bool false), .d (.int .u8 0)] := by kernel_rfl
@[go_sem] theorem u8 : (Try.prog.underlying 8).isSome = true := by kernel_rfl
@[go_sem] theorem k9 : tyk Try.prog 9 = .str := by kernel_rfl
@[go_sem] theorem c9 : Try.prog.cellsOf 9 = 1 := by kernel_rfl
@[go_sem] theorem b9 : Try.prog.bytesOf 9 = 16 := by kernel_rfl
@[go_sem] theorem z9 : tzO Try.prog 9 = some [.d (.str [])] := by kernel_rfl
@[go_sem] theorem u9 : (Try.prog.underlying 9).isSome = true := by kernel_rfl
@[go_sem] theorem k10 : tyk Try.prog 10 = .str := by kernel_rfl
@[go_sem] theorem c10 : Try.prog.cellsOf 10 = 1 := by kernel_rfl
@[go_sem] theorem b10 : Try.prog.bytesOf 10 = 16 := by kernel_rfl
@[go_sem] theorem z10 : tzO Try.prog 10 = some [.d (.str [])] := by kernel_rfl
@[go_sem] theorem u10 : (Try.prog.underlying 10).isSome = true := by kernel_rfl
@[go_sem] theorem k11 : tyk Try.prog 11 = .str := by kernel_rfl
@[go_sem] theorem c11 : Try.prog.cellsOf 11 = 1 := by kernel_rfl
@[go_sem] theorem b11 : Try.prog.bytesOf 11 = 16 := by kernel_rfl
@[go_sem] theorem z11 : tzO Try.prog 11 = some [.d (.str [])] := by kernel_rfl
@[go_sem] theorem u11 : (Try.prog.underlying 11).isSome = true := by kernel_rfl
@[go_sem] theorem k12 : tyk Try.prog 12 = .scal := by kernel_rfl
@[go_sem] theorem c12 : Try.prog.cellsOf 12 = 1 := by kernel_rfl
@[go_sem] theorem b12 : Try.prog.bytesOf 12 = 8 := by kernel_rfl
@[go_sem] theorem z12 : tzO Try.prog 12 = some [.d (.int .u64 0)] := by kernel_rfl
@[go_sem] theorem i12 : ikind Try.prog 12 = some .u64 := by kernel_rfl
@[go_sem] theorem u12 : (Try.prog.underlying 12).isSome = true := by kernel_rfl
@[go_sem] theorem k13 : tyk Try.prog 13 = .struct [(0, 9), (1, 12)] := by kernel_rfl
@[go_sem] theorem c13 : Try.prog.cellsOf 13 = 2 := by kernel_rfl
@[go_sem] theorem b13 : Try.prog.bytesOf 13 = 24 := by kernel_rfl
@[go_sem] theorem z13 : tzO Try.prog 13 = some [.d (.str []), .d (.int .u64 0)] := by kernel_rfl
@[go_sem] theorem u13 : (Try.prog.underlying 13).isSome = true := by kernel_rfl
@[go_sem] theorem k14 : tyk Try.prog 14 = .struct [(0, 9), (1, 12)] := by kernel_rfl
@[go_sem] theorem c14 : Try.prog.cellsOf 14 = 2 := by kernel_rfl
@[go_sem] theorem b14 : Try.prog.bytesOf 14 = 24 := by kernel_rfl
@[go_sem] theorem z14 : tzO Try.prog 14 = some [.d (.str []), .d (.int .u64 0)] := by kernel_rfl
@[go_sem] theorem u14 : (Try.prog.underlying 14).isSome = true := by kernel_rfl
@[go_sem] theorem k15 : tyk Try.prog 15 = .scal := by kernel_rfl
@[go_sem] theorem c15 : Try.prog.cellsOf 15 = 1 := by kernel_rfl
@[go_sem] theorem b15 : Try.prog.bytesOf 15 = 8 := by kernel_rfl
@[go_sem] theorem z15 : tzO Try.prog 15 = some [.d .nilp] := by kernel_rfl
@[go_sem] theorem u15 : (Try.prog.underlying 15).isSome = true := by kernel_rfl
@[go_sem] theorem k16 : tyk Try.prog 16 = .scal := by kernel_rfl
@[go_sem] theorem c16 : Try.prog.cellsOf 16 = 1 := by kernel_rfl
@[go_sem] theorem b16 : Try.prog.bytesOf 16 = 8 := by kernel_rfl
@[go_sem] theorem z16 : tzO Try.prog 16 = some [.d .nilp] := by kernel_rfl
@[go_sem] theorem u16 : (Try.prog.underlying 16).isSome = true := by kernel_rfl
@[go_sem] theorem k17 : tyk Try.prog 17 = .scal := by kernel_rfl
@[go_sem] theorem c17 : Try.prog.cellsOf 17 = 1 := by kernel_rfl
@[go_sem] theorem b17 : Try.prog.bytesOf 17 = 8 := by kernel_rfl
@[go_sem] theorem z17 : tzO Try.prog 17 = some [.d .nilp] := by kernel_rfl
@[go_sem] theorem u17 : (Try.prog.underlying 17).isSome = true := by kernel_rfl
@[go_sem] theorem k18 : tyk Try.prog 18 = .struct [(0, 17)] := by kernel_rfl
@[go_sem] theorem c18 : Try.prog.cellsOf 18 = 1 := by kernel_rfl
@[go_sem] theorem b18 : Try.prog.bytesOf 18 = 8 := by kernel_rfl
@[go_sem] theorem z18 : tzO Try.prog 18 = some [.d .nilp] := by kernel_rfl
@[go_sem] theorem u18 : (Try.prog.underlying 18).isSome = true := by kernel_rfl
@[go_sem] theorem k19 : tyk Try.prog 19 = .struct [(0, 17)] := by kernel_rfl
@[go_sem] theorem c19 : Try.prog.cellsOf 19 = 1 := by kernel_rfl
@[go_sem] theorem b19 : Try.prog.bytesOf 19 = 8 := by kernel_rfl
@[go_sem] theorem z19 : tzO Try.prog 19 = some [.d .nilp] := by kernel_rfl
@[go_sem] theorem u19 : (Try.prog.underlying 19).isSome = true := by kernel_rfl
@[go_sem] theorem k21 : tyk Try.prog 21 = .scal := by kernel_rfl
@[go_sem] theorem c21 : Try.prog.cellsOf 21 = 1 := by kernel_rfl
@[go_sem] theorem b21 : Try.prog.bytesOf 21 = 4 := by kernel_rfl
@[go_sem] theorem z21 : tzO Try.prog 21 = some [.d (.int .i32 0)] := by kernel_rfl
@[go_sem] theorem i21 : ikind Try.prog 21 = some .i32 := by kernel_rfl
@[go_sem] theorem u21 : (Try.prog.underlying 21).isSome = true := by kernel_rfl
@[go_sem] theorem k22 : tyk Try.prog 22 = .arr 32 5 := by kernel_rfl
@[go_sem] theorem c22 : Try.prog.cellsOf 22 = 32 := by kernel_rfl
@[go_sem] theorem b22 : Try.prog.bytesOf 22 = 32 := by kernel_rfl
@[go_sem] theorem u22 : (Try.prog.underlying 22).isSome = true := by kernel_rfl
@[go_sem] theorem k23 : tyk Try.prog 23 = .slice 22 := by kernel_rfl
@[go_sem] theorem c23 : Try.prog.cellsOf 23 = 1 := by kernel_rfl
@[go_sem] theorem b23 : Try.prog.bytesOf 23 = 24 := by kernel_rfl
@[go_sem] theorem z23 : tzO Try.prog 23 = some [.nil] := by kernel_rfl
@[go_sem] theorem u23 : (Try.prog.underlying 23).isSome = true := by kernel_rfl
@[go_sem] theorem k24 : tyk Try.prog 24 = .slice 5 := by kernel_rfl
@[go_sem] theorem c24 : Try.prog.cellsOf 24 = 1 := by kernel_rfl
@[go_sem] theorem b24 : Try.prog.bytesOf 24 = 24 := by kernel_rfl
@[go_sem] theorem z24 : tzO Try.prog 24 = some [.nil] := by kernel_rfl
@[go_sem] theorem u24 : (Try.prog.underlying 24).isSome = true := by kernel_rfl
@[go_sem] theorem k25 : tyk Try.prog 25 = .struct [(0, 22), (32, 23), (33, 24)] := by kernel_rfl
@[go_sem] theorem c25 : Try.prog.cellsOf 25 = 34 := by kernel_rfl
@[go_sem] theorem b25 : Try.prog.bytesOf 25 = 80 := by kernel_rfl
@[go_sem] theorem u25 : (Try.prog.underlying 25).isSome = true := by kernel_rfl
@[go_sem] theorem k26 : tyk Try.prog 26 = .struct [(0, 22), (32, 23), (33, 24)] := by kernel_rfl
@[go_sem] theorem c26 : Try.prog.cellsOf 26 = 34 := by kernel_rfl
@[go_sem] theorem b26 : Try.prog.bytesOf 26 = 80 := by kernel_rfl
@[go_sem] theorem u26 : (Try.prog.underlying 26).isSome = true := by kernel_rfl
@[go_sem] theorem k33 : tyk Try.prog 33 = .slice 24 := by kernel_rfl
@[go_sem] theorem c33 : Try.prog.cellsOf 33 = 1 := by kernel_rfl
@[go_sem] theorem b33 : Try.prog.bytesOf 33 = 24 := by kernel_rfl
@[go_sem] theorem z33 : tzO Try.prog 33 = some [.nil] := by kernel_rfl
@[go_sem] theorem u33 : (Try.prog.underlying 33).isSome = true := by kernel_rfl
@[go_sem] theorem k34 : tyk Try.prog 34 = .scal := by kernel_rfl
@[go_sem] theorem c34 : Try.prog.cellsOf 34 = 1 := by kernel_rfl
@[go_sem] theorem b34 : Try.prog.bytesOf 34 = 8 := by kernel_rfl
@[go_sem] theorem z34 : tzO Try.prog 34 = some [.d (.int .i64 0)] := by kernel_rfl
@[go_sem] theorem i34 : ikind Try.prog 34 = some .i64 := by kernel_rfl
@[go_sem] theorem u34 : (Try.prog.underlying 34).isSome = true := by kernel_rfl
@[go_sem] theorem k38 : tyk Try.prog 38 = .scal := by kernel_rfl
@[go_sem] theorem c38 : Try.prog.cellsOf 38 = 1 := by kernel_rfl
@[go_sem] theorem b38 : Try.prog.bytesOf 38 = 4 := by kernel_rfl
@[go_sem] theorem z38 : tzO Try.prog 38 = some [.d (.int .u32 0)] := by kernel_rfl
@[go_sem] theorem i38 : ikind Try.prog 38 = some .u32 := by kernel_rfl
@[go_sem] theorem u38 : (Try.prog.underlying 38).isSome = true := by kernel_rfl
@[go_sem] theorem k39 : tyk Try.prog 39 = .slice 90 := by kernel_rfl
@[go_sem] theorem c39 : Try.prog.cellsOf 39 = 1 := by kernel_rfl
@[go_sem] theorem b39 : Try.prog.bytesOf 39 = 24 := by kernel_rfl
@[go_sem] theorem z39 : tzO Try.prog 39 = some [.nil] := by kernel_rfl
@[go_sem] theorem u39 : (Try.prog.underlying 39).isSome = true := by kernel_rfl
@[go_sem] theorem k40 : tyk Try.prog 40 = .slice 76 := by kernel_rfl
@[go_sem] theorem c40 : Try.prog.cellsOf 40 = 1 := by kernel_rfl
@[go_sem] theorem b40 : Try.prog.bytesOf 40 = 24 := by kernel_rfl
@[go_sem] theorem z40 : tzO Try.prog 40 = some [.nil] := by kernel_rfl
@[go_sem] theorem u40 : (Try.prog.underlying 40).isSome = true := by kernel_rfl
@[go_sem] theorem k41 : tyk Try.prog 41 = .struct [(0, 38), (1, 39), (2, 40), (3, 38)] := by kernel_rfl
@[go_sem] theorem c41 : Try.prog.cellsOf 41 = 4 := by kernel_rfl
@[go_sem] theorem b41 : Try.prog.bytesOf 41 = 64 := by kernel_rfl
@[go_sem] theorem z41 : tzO Try.prog 41 = some [.d (.int .u32 0), .nil, .nil, .d (.int .u32 0)] := by kernel_rfl
@[go_sem] theorem u41 : (Try.prog.underlying 41).isSome = true := by kernel_rfl
@[go_sem] theorem k42 : tyk Try.prog 42 = .struct [(0, 38), (1, 39), (2, 40), (3, 38)] := by kernel_rfl
@[go_sem] theorem c42 : Try.prog.cellsOf 42 = 4 := by kernel_rfl
@[go_sem] theorem b42 : Try.prog.bytesOf 42 = 64 := by kernel_rfl
@[go_sem] theorem z42 : tzO Try.prog 42 = some [.d (.int .u32 0), .nil, .nil, .d (.int .u32 0)] := by kernel_rfl
@[go_sem] theorem u42 : (Try.prog.underlying 42).isSome = true := by kernel_rfl
@[go_sem] theorem k43 : tyk Try.prog 43 = .struct [(0, 42), (4, 3), (5, 40)] := by kernel_rfl
@[go_sem] theorem c43 : Try.prog.cellsOf 43 = 6 := by kernel_rfl
@[go_sem] theorem b43 : Try.prog.bytesOf 43 = 96 := by kernel_rfl
@[go_sem] theorem z43 : tzO Try.prog 43 = some [.d (.int .u32 0), .nil, .nil, .d (.int .u32 0), .d (.int .i64 0), .nil] := by kernel_rfl
@[go_sem] theorem u43 : (Try.prog.underlying 43).isSome = true := by kernel_rfl
@[go_sem] theorem k44 : tyk Try.prog 44 = .struct [(0, 42), (4, 3), (5, 40)] := by kernel_rfl
@[go_sem] theorem c44 : Try.prog.cellsOf 44 = 6 := by kernel_rfl
@[go_sem] theorem b44 : Try.prog.bytesOf 44 = 96 := by kernel_rfl
@[go_sem] theorem z44 : tzO Try.prog 44 = some [.d (.int .u32 0), .nil, .nil, .d (.int .u32 0), .d (.int .i64 0), .nil] := by kernel_rfl
@[go_sem] theorem u44 : (Try.prog.underlying 44).isSome = true := by kernel_rfl
@[go_sem] theorem k46 : tyk Try.prog 46 = .scal := by kernel_rfl
@[go_sem] theorem c46 : Try.prog.cellsOf 46 = 1 := by kernel_rfl
@[go_sem] theorem b46 : Try.prog.bytesOf 46 = 8 := by kernel_rfl
@[go_sem] theorem z46 : tzO Try.prog 46 = some [.d (.int .u64 0)] := by kernel_rfl
@[go_sem] theorem i46 : ikind Try.prog 46 = some .u64 := by kernel_rfl
@[go_sem] theorem u46 : (Try.prog.underlying 46).isSome = true := by kernel_rfl
@[go_sem] theorem k47 : tyk Try.prog 47 = .struct [(0, 3), (1, 46)] := by kernel_rfl
@[go_sem] theorem c47 : Try.prog.cellsOf 47 = 2 := by kernel_rfl
@[go_sem] theorem b47 : Try.prog.bytesOf 47 = 16 := by kernel_rfl
@[go_sem] theorem z47 : tzO Try.prog 47 = some [.d (.int .i64 0), .d (.int .u64 0)] := by kernel_rfl
@[go_sem] theorem u47 : (Try.prog.underlying 47).isSome = true := by kernel_rfl
@[go_sem] theorem k48 : tyk Try.prog 48 = .struct [(0, 3), (1, 46)] := by kernel_rfl
@[go_sem] theorem c48 : Try.prog.cellsOf 48 = 2 := by kernel_rfl
@[go_sem] theorem b48 : Try.prog.bytesOf 48 = 16 := by kernel_rfl
@[go_sem] theorem z48 : tzO Try.prog 48 = some [.d (.int .i64 0), .d (.int .u64 0)] := by kernel_rfl
@[go_sem] theorem u48 : (Try.prog.underlying 48).isSome = true := by kernel_rfl
@[go_sem] theorem k52 : tyk Try.prog 52 = .slice 38 := by kernel_rfl
@[go_sem] theorem c52 : Try.prog.cellsOf 52 = 1 := by kernel_rfl
@[go_sem] theorem b52 : Try.prog.bytesOf 52 = 24 := by kernel_rfl
@[go_sem] theorem z52 : tzO Try.prog 52 = some [.nil] := by kernel_rfl
@[go_sem] theorem u52 : (Try.prog.underlying 52).isSome = true := by kernel_rfl
@[go_sem] theorem k53 : tyk Try.prog 53 = .arr 2 38 := by kernel_rfl
@[go_sem] theorem c53 : Try.prog.cellsOf 53 = 2 := by kernel_rfl
@[go_sem] theorem b53 : Try.prog.bytesOf 53 = 8 := by kernel_rfl
@[go_sem] theorem z53 : tzO Try.prog 53 = some [.d (.int .u32 0), .d (.int .u32 0)] := by kernel_rfl
@[go_sem] theorem u53 : (Try.prog.underlying 53).isSome = true := by kernel_rfl
@[go_sem] theorem k60 : tyk Try.prog 60 = .slice 99 := by kernel_rfl
@[go_sem] theorem c60 : Try.prog.cellsOf 60 = 1 := by kernel_rfl
@[go_sem] theorem b60 : Try.prog.bytesOf 60 = 24 := by kernel_rfl
@[go_sem] theorem z60 : tzO Try.prog 60 = some [.nil] := by kernel_rfl
@[go_sem] theorem u60 : (Try.prog.underlying 60).isSome = true := by kernel_rfl
@[go_sem] theorem k73 : tyk Try.prog 73 = .slice 48 := by kernel_rfl
@[go_sem] theorem c73 : Try.prog.cellsOf 73 = 1 := by kernel_rfl
@[go_sem] theorem b73 : Try.prog.bytesOf 73 = 24 := by kernel_rfl
@[go_sem] theorem z73 : tzO Try.prog 73 = some [.nil] := by kernel_rfl
@[go_sem] theorem u73 : (Try.prog.underlying 73).isSome = true := by kernel_rfl
@[go_sem] theorem k75 : tyk Try.prog 75 = .struct [(0, 46), (1, 24)] := by kernel_rfl
@[go_sem] theorem c75 : Try.prog.cellsOf 75 = 2 := by kernel_rfl
@[go_sem] theorem b75 : Try.prog.bytesOf 75 = 32 := by kernel_rfl
@[go_sem] theorem z75 : tzO Try.prog 75 = some [.d (.int .u64 0), .nil] := by kernel_rfl
@[go_sem] theorem u75 : (Try.prog.underlying 75).isSome = true := by kernel_rfl
@[go_sem] theorem k76 : tyk Try.prog 76 = .struct [(0, 46), (1, 24)] := by kernel_rfl
@[go_sem] theorem c76 : Try.prog.cellsOf 76 = 2 := by kernel_rfl
@[go_sem] theorem b76 : Try.prog.bytesOf 76 = 32 := by kernel_rfl
@[go_sem] theorem z76 : tzO Try.prog 76 = some [.d (.int .u64 0), .nil] := by kernel_rfl
@[go_sem] theorem u76 : (Try.prog.underlying 76).isSome = true := by kernel_rfl
@[go_sem] theorem k78 : tyk Try.prog 78 = .struct [(0, 5), (1, 24)] := by kernel_rfl
@[go_sem] theorem c78 : Try.prog.cellsOf 78 = 2 := by kernel_rfl
@[go_sem] theorem b78 : Try.prog.bytesOf 78 = 32 := by kernel_rfl
@[go_sem] theorem z78 : tzO Try.prog 78 = some [.d (.int .u8 0), .nil] := by kernel_rfl
@[go_sem] theorem u78 : (Try.prog.underlying 78).isSome = true := by kernel_rfl
@[go_sem] theorem k79 : tyk Try.prog 79 = .struct [(0, 5), (1, 24)] := by kernel_rfl
@[go_sem] theorem c79 : Try.prog.cellsOf 79 = 2 := by kernel_rfl
@[go_sem] theorem b79 : Try.prog.bytesOf 79 = 32 := by kernel_rfl
@[go_sem] theorem z79 : tzO Try.prog 79 = some [.d (.int .u8 0), .nil] := by kernel_rfl
@[go_sem] theorem u79 : (Try.prog.underlying 79).isSome = true := by kernel_rfl
@[go_sem] theorem k81 : tyk Try.prog 81 = .slice 79 := by kernel_rfl
@[go_sem] theorem c81 : Try.prog.cellsOf 81 = 1 := by kernel_rfl
@[go_sem] theorem b81 : Try.prog.bytesOf 81 = 24 := by kernel_rfl
@[go_sem] theorem z81 : tzO Try.prog 81 = some [.nil] := by kernel_rfl
@[go_sem] theorem u81 : (Try.prog.underlying 81).isSome = true := by kernel_rfl
@[go_sem] theorem k87 : tyk Try.prog 87 = .struct [(0, 22), (32, 38)] := by kernel_rfl
@[go_sem] theorem c87 : Try.prog.cellsOf 87 = 33 := by kernel_rfl
@[go_sem] theorem b87 : Try.prog.bytesOf 87 = 36 := by kernel_rfl
@[go_sem] theorem u87 : (Try.prog.underlying 87).isSome = true := by kernel_rfl
@[go_sem] theorem k88 : tyk Try.prog 88 = .struct [(0, 22), (32, 38)] := by kernel_rfl
@[go_sem] theorem c88 : Try.prog.cellsOf 88 = 33 := by kernel_rfl
@[go_sem] theorem b88 : Try.prog.bytesOf 88 = 36 := by kernel_rfl
@[go_sem] theorem u88 : (Try.prog.underlying 88).isSome = true := by kernel_rfl
@[go_sem] theorem k89 : tyk Try.prog 89 = .struct [(0, 88), (33, 38), (34, 33)] := by kernel_rfl
@[go_sem] theorem c89 : Try.prog.cellsOf 89 = 35 := by kernel_rfl
@[go_sem] theorem b89 : Try.prog.bytesOf 89 = 64 := by kernel_rfl
@[go_sem] theorem u89 : (Try.prog.underlying 89).isSome = true := by kernel_rfl
@[go_sem] theorem k90 : tyk Try.prog 90 = .struct [(0, 88), (33, 38), (34, 33)] := by kernel_rfl
@[go_sem] theorem c90 : Try.prog.cellsOf 90 = 35 := by kernel_rfl
@[go_sem] theorem b90 : Try.prog.bytesOf 90 = 64 := by kernel_rfl
@[go_sem] theorem u90 : (Try.prog.underlying 90).isSome = true := by kernel_rfl
@[go_sem] theorem k98 : tyk Try.prog 98 = .struct [(0, 88), (33, 76), (35, 38), (36, 4)] := by kernel_rfl
@[go_sem] theorem c98 : Try.prog.cellsOf 98 = 37 := by kernel_rfl
@[go_sem] theorem b98 : Try.prog.bytesOf 98 = 80 := by kernel_rfl
@[go_sem] theorem u98 : (Try.prog.underlying 98).isSome = true := by kernel_rfl
@[go_sem] theorem k99 : tyk Try.prog 99 = .struct [(0, 88), (33, 76), (35, 38), (36, 4)] := by kernel_rfl
@[go_sem] theorem c99 : Try.prog.cellsOf 99 = 37 := by kernel_rfl
@[go_sem] theorem b99 : Try.prog.bytesOf 99 = 80 := by kernel_rfl
@[go_sem] theorem u99 : (Try.prog.underlying 99).isSome = true := by kernel_rfl
@[go_sem] theorem k104 : tyk Try.prog 104 = .scal := by kernel_rfl
@[go_sem] theorem c104 : Try.prog.cellsOf 104 = 1 := by kernel_rfl
@[go_sem] theorem b104 : Try.prog.bytesOf 104 = 8 := by kernel_rfl
@[go_sem] theorem z104 : tzO Try.prog 104 = some [.d .nilp] := by kernel_rfl
@[go_sem] theorem u104 : (Try.prog.underlying 104).isSome = true := by kernel_rfl
@[go_sem] theorem k115 : tyk Try.prog 115 = .slice 46 := by kernel_rfl
@[go_sem] theorem c115 : Try.prog.cellsOf 115 = 1 := by kernel_rfl
@[go_sem] theorem b115 : Try.prog.bytesOf 115 = 24 := by kernel_rfl
@[go_sem] theorem z115 : tzO Try.prog 115 = some [.nil] := by kernel_rfl
@[go_sem] theorem u115 : (Try.prog.underlying 115).isSome = true := by kernel_rfl
@[go_sem] theorem k122 : tyk Try.prog 122 = .scal := by kernel_rfl
@[go_sem] theorem c122 : Try.prog.cellsOf 122 = 1 := by kernel_rfl
@[go_sem] theorem b122 : Try.prog.bytesOf 122 = 8 := by kernel_rfl
@[go_sem] theorem z122 : tzO Try.prog 122 = some [.d (.int .u64 0)] := by kernel_rfl
@[go_sem] theorem i122 : ikind Try.prog 122 = some .u64 := by kernel_rfl
@[go_sem] theorem u122 : (Try.prog.underlying 122).isSome = true := by kernel_rfl
@[go_sem] theorem k124 : tyk Try.prog 124 = .arr 8 38 := by kernel_rfl
@[go_sem] theorem c124 : Try.prog.cellsOf 124 = 8 := by kernel_rfl
@[go_sem] theorem b124 : Try.prog.bytesOf 124 = 32 := by kernel_rfl
@[go_sem] theorem z124 : tzO Try.prog 124 = some [.d (.int .u32 0), .d (.int .u32 0), .d (.int .u32 0), .d (.int .u32 0), .d (.int .u32 0), .d (.int .u32 0), .d (.int .u32 0), .d (.int .u32 0)] := by kernel_rfl
@[go_sem] theorem u124 : (Try.prog.underlying 124).isSome = true := by kernel_rfl
@[go_sem] theorem k125 : tyk Try.prog 125 = .arr 8 38 := by kernel_rfl
@[go_sem] theorem c125 : Try.prog.cellsOf 125 = 8 := by kernel_rfl
@[go_sem] theorem b125 : Try.prog.bytesOf 125 = 32 := by kernel_rfl
@[go_sem] theorem z125 : tzO Try.prog 125 = some [.d (.int .u32 0), .d (.int .u32 0), .d (.int .u32 0), .d (.int .u32 0), .d (.int .u32 0), .d (.int .u32 0), .d (.int .u32 0), .d (.int .u32 0)] := by kernel_rfl
@[go_sem] theorem u125 : (Try.prog.underlying 125).isSome = true := by kernel_rfl
@[go_sem] theorem k127 : tyk Try.prog 127 = .struct [(0, 125), (8, 24), (9, 46)] := by kernel_rfl
@[go_sem] theorem c127 : Try.prog.cellsOf 127 = 10 := by kernel_rfl
@[go_sem] theorem b127 : Try.prog.bytesOf 127 = 64 := by kernel_rfl
@[go_sem] theorem z127 : tzO Try.prog 127 = some [.d (.int .u32 0), .d (.int .u32 0), .d (.int .u32 0), .d (.int .u32 0), .d (.int .u32 0), .d (.int .u32 0), .d (.int .u32 0), .d (.int .u32 0), .nil, .d (.int .u64 0)] := by kernel_rfl
@[go_sem] theorem u127 : (Try.prog.underlying 127).isSome = true := by kernel_rfl
@[go_sem] theorem k128 : tyk Try.prog 128 = .struct [(0, 125), (8, 24), (9, 46)] := by kernel_rfl
@[go_sem] theorem c128 : Try.prog.cellsOf 128 = 10 := by kernel_rfl
@[go_sem] theorem b128 : Try.prog.bytesOf 128 = 64 := by kernel_rfl
@[go_sem] theorem z128 : tzO Try.prog 128 = some [.d (.int .u32 0), .d (.int .u32 0), .d (.int .u32 0), .d (.int .u32 0), .d (.int .u32 0), .d (.int .u32 0), .d (.int .u32 0), .d (.int .u32 0), .nil, .d (.int .u64 0)] := by kernel_rfl
@[go_sem] theorem u128 : (Try.prog.underlying 128).isSome = true := by kernel_rfl
@[go_sem] theorem k131 : tyk Try.prog 131 = .scal := by kernel_rfl
@[go_sem] theorem c131 : Try.prog.cellsOf 131 = 1 := by kernel_rfl
@[go_sem] theorem b131 : Try.prog.bytesOf 131 = 2 := by kernel_rfl
@[go_sem] theorem z131 : tzO Try.prog 131 = some [.d (.int .u16 0)] := by kernel_rfl
@[go_sem] theorem i131 : ikind Try.prog 131 = some .u16 := by kernel_rfl
@[go_sem] theorem u131 : (Try.prog.underlying 131).isSome = true := by kernel_rfl
@[go_sem] theorem k142 : tyk Try.prog 142 = .scal := by kernel_rfl
@[go_sem] theorem c142 : Try.prog.cellsOf 142 = 1 := by kernel_rfl
@[go_sem] theorem b142 : Try.prog.bytesOf 142 = 8 := by kernel_rfl
@[go_sem] theorem z142 : tzO Try.prog 142 = some [.d (.int .i64 0)] := by kernel_rfl
@[go_sem] theorem i142 : ikind Try.prog 142 = some .i64 := by kernel_rfl
@[go_sem] theorem u142 : (Try.prog.underlying 142).isSome = true := by kernel_rfl
@[go_sem] theorem k152 : tyk Try.prog 152 = .scal := by kernel_rfl
@[go_sem] theorem c152 : Try.prog.cellsOf 152 = 1 := by kernel_rfl
@[go_sem] theorem b152 : Try.prog.bytesOf 152 = 8 := by kernel_rfl
@[go_sem] theorem z152 : tzO Try.prog 152 = some [.d .nilp] := by kernel_rfl
@[go_sem] theorem u152 : (Try.prog.underlying 152).isSome = true := by kernel_rfl
@[go_sem] theorem k153 : tyk Try.prog 153 = .arr 64 38 := by kernel_rfl
@[go_sem] theorem c153 : Try.prog.cellsOf 153 = 64 := by kernel_rfl
@[go_sem] theorem b153 : Try.prog.bytesOf 153 = 256 := by kernel_rfl
@[go_sem] theorem u153 : (Try.prog.underlying 153).isSome = true := by kernel_rfl
@[go_sem] theorem k160 : tyk Try.prog 160 = .scal := by kernel_rfl
@[go_sem] theorem c160 : Try.prog.cellsOf 160 = 1 := by kernel_rfl
@[go_sem] theorem b160 : Try.prog.bytesOf 160 = 8 := by kernel_rfl
@[go_sem] theorem z160 : tzO Try.prog 160 = some [.d (.int .u64 0)] := by kernel_rfl
@[go_sem] theorem i160 : ikind Try.prog 160 = some .u64 := by kernel_rfl
@[go_sem] theorem u160 : (Try.prog.underlying 160).isSome = true := by kernel_rfl
@[go_sem] theorem k164 : tyk Try.prog 164 = .scal := by kernel_rfl
@[go_sem] theorem c164 : Try.prog.cellsOf 164 = 1 := by kernel_rfl
@[go_sem] theorem b164 : Try.prog.bytesOf 164 = 8 := by kernel_rfl
@[go_sem] theorem z164 : tzO Try.prog 164 = some [.d .nilp] := by kernel_rfl
@[go_sem] theorem u164 : (Try.prog.underlying 164).isSome = true := by kernel_rfl
@[go_sem] theorem k167 : tyk Try.prog 167 = .scal := by kernel_rfl
@[go_sem] theorem c167 : Try.prog.cellsOf 167 = 1 := by kernel_rfl
@[go_sem] theorem b167 : Try.prog.bytesOf 167 = 8 := by kernel_rfl
@[go_sem] theorem z167 : tzO Try.prog 167 = some [.d .nilp] := by kernel_rfl
@[go_sem] theorem u167 : (Try.prog.underlying 167).isSome = true := by kernel_rfl
@[go_sem] theorem k171 : tyk Try.prog 171 = .struct [(0, 17), (1, 17), (2, 17), (3, 9)] := by kernel_rfl
@[go_sem] theorem c171 : Try.prog.cellsOf 171 = 4 := by kernel_rfl
@[go_sem] theorem b171 : Try.prog.bytesOf 171 = 40 := by kernel_rfl
@[go_sem] theorem z171 : tzO Try.prog 171 = some [.d .nilp, .d .nilp, .d .nilp, .d (.str [])] := by kernel_rfl
@[go_sem] theorem u171 : (Try.prog.underlying 171).isSome = true := by kernel_rfl
@[go_sem] theorem k172 : tyk Try.prog 172 = .struct [(0, 17), (1, 17), (2, 17), (3, 9)] := by kernel_rfl
@[go_sem] theorem c172 : Try.prog.cellsOf 172 = 4 := by kernel_rfl
@[go_sem] theorem b172 : Try.prog.bytesOf 172 = 40 := by kernel_rfl
@[go_sem] theorem z172 : tzO Try.prog 172 = some [.d .nilp, .d .nilp, .d .nilp, .d (.str [])] := by kernel_rfl
@[go_sem] theorem u172 : (Try.prog.underlying 172).isSome = true := by kernel_rfl
@[go_sem] theorem k173 : tyk Try.prog 173 = .arr 0 16 := by kernel_rfl
@[go_sem] theorem c173 : Try.prog.cellsOf 173 = 0 := by kernel_rfl
@[go_sem] theorem u173 : (Try.prog.underlying 173).isSome = true := by kernel_rfl
@[go_sem] theorem k174 : tyk Try.prog 174 = .struct [(0, 173)] := by kernel_rfl
@[go_sem] theorem c174 : Try.prog.cellsOf 174 = 0 := by kernel_rfl
@[go_sem] theorem u174 : (Try.prog.underlying 174).isSome = true := by kernel_rfl
@[go_sem] theorem k175 : tyk Try.prog 175 = .struct [(0, 173)] := by kernel_rfl
@[go_sem] theorem c175 : Try.prog.cellsOf 175 = 0 := by kernel_rfl
@[go_sem] theorem u175 : (Try.prog.underlying 175).isSome = true := by kernel_rfl
@[go_sem] theorem k177 : tyk Try.prog 177 = .scal := by kernel_rfl
@[go_sem] theorem c177 : Try.prog.cellsOf 177 = 1 := by kernel_rfl
@[go_sem] theorem b177 : Try.prog.bytesOf 177 = 1 := by kernel_rfl
@[go_sem] theorem z177 : tzO Try.prog 177 = some [.d (.int .u8 0)] := by kernel_rfl
@[go_sem] theorem i177 : ikind Try.prog 177 = some .u8 := by kernel_rfl
@[go_sem] theorem u177 : (Try.prog.underlying 177).isSome = true := by kernel_rfl
@[go_sem] theorem k178 : tyk Try.prog 178 = .scal := by kernel_rfl
@[go_sem] theorem c178 : Try.prog.cellsOf 178 = 1 := by kernel_rfl
@[go_sem] theorem b178 : Try.prog.bytesOf 178 = 1 := by kernel_rfl
@[go_sem] theorem z178 : tzO Try.prog 178 = some [.d (.int .u8 0)] := by kernel_rfl
@[go_sem] theorem i178 : ikind Try.prog 178 = some .u8 := by kernel_rfl
@[go_sem] theorem u178 : (Try.prog.underlying 178).isSome = true := by kernel_rfl
@[go_sem] theorem k180 : tyk Try.prog 180 = .scal := by kernel_rfl
@[go_sem] theorem c180 : Try.prog.cellsOf 180 = 1 := by kernel_rfl
@[go_sem] theorem b180 : Try.prog.bytesOf 180 = 8 := by kernel_rfl
@[go_sem] theorem z180 : tzO Try.prog 180 = some [.d .nilp] := by kernel_rfl
@[go_sem] theorem u180 : (Try.prog.underlying 180).isSome = true := by kernel_rfl
@[go_sem] theorem k181 : tyk Try.prog 181 = .scal := by kernel_rfl
@[go_sem] theorem c181 : Try.prog.cellsOf 181 = 1 := by kernel_rfl
@[go_sem] theorem b181 : Try.prog.bytesOf 181 = 4 := by kernel_rfl
@[go_sem] theorem z181 : tzO Try.prog 181 = some [.d (.int .i32 0)] := by kernel_rfl
@[go_sem] theorem i181 : ikind Try.prog 181 = some .i32 := by kernel_rfl
@[go_sem] theorem u181 : (Try.prog.underlying 181).isSome = true := by kernel_rfl
@[go_sem] theorem k182 : tyk Try.prog 182 = .scal := by kernel_rfl
@[go_sem] theorem c182 : Try.prog.cellsOf 182 = 1 := by kernel_rfl
@[go_sem] theorem b182 : Try.prog.bytesOf 182 = 4 := by kernel_rfl
@[go_sem] theorem z182 : tzO Try.prog 182 = some [.d (.int .i32 0)] := by kernel_rfl
@[go_sem] theorem i182 : ikind Try.prog 182 = some .i32 := by kernel_rfl
@[go_sem] theorem u182 : (Try.prog.underlying 182).isSome = true := by kernel_rfl
end Go.Proofs.Ytiihldilefeldaa
