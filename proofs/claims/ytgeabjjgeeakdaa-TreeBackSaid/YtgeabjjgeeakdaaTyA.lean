/-
  Facts of types, printed by a program of ours.
-/
import Derived.Test.YtgeabjjgeeakdaaRows
import Derived.Test.YtgeabjjgeeakdaaAmRun
namespace Go.Proofs.Ytgeabjjgeeakdaa
open Go.Am
set_option maxRecDepth 100000
@[go_sem] theorem k2 : tyk Try.prog 2 = .scal := by kernel_rfl
@[go_sem] theorem c2 : Try.prog.cellsOf 2 = 1 := by kernel_rfl
@[go_sem] theorem b2 : Try.prog.bytesOf 2 = 8 := by kernel_rfl
@[go_sem] theorem z2 : tzO Try.prog 2 = some [.d (.int .i64 0)] := by kernel_rfl
@[go_sem] theorem i2 : ikind Try.prog 2 = some .i64 := by kernel_rfl
@[go_sem] theorem u2 : (Try.prog.underlying 2).isSome = true := by kernel_rfl
@[go_sem] theorem k3 : tyk Try.prog 3 = .scal := by kernel_rfl
@[go_sem] theorem c3 : Try.prog.cellsOf 3 = 1 := by kernel_rfl
@[go_sem] theorem b3 : Try.prog.bytesOf 3 = 8 := by kernel_rfl
@[go_sem] theorem z3 : tzO Try.prog 3 = some [.d (.int .i64 0)] := by kernel_rfl
@[go_sem] theorem i3 : ikind Try.prog 3 = some .i64 := by kernel_rfl
@[go_sem] theorem u3 : (Try.prog.underlying 3).isSome = true := by kernel_rfl
@[go_sem] theorem k4 : tyk Try.prog 4 = .scal := by kernel_rfl
@[go_sem] theorem c4 : Try.prog.cellsOf 4 = 1 := by kernel_rfl
@[go_sem] theorem b4 : Try.prog.bytesOf 4 = 1 := by kernel_rfl
@[go_sem] theorem z4 : tzO Try.prog 4 = some [.d (.bool false)] := by kernel_rfl
@[go_sem] theorem u4 : (Try.prog.underlying 4).isSome = true := by kernel_rfl
@[go_sem] theorem k5 : tyk Try.prog 5 = .scal := by kernel_rfl
@[go_sem] theorem c5 : Try.prog.cellsOf 5 = 1 := by kernel_rfl
@[go_sem] theorem b5 : Try.prog.bytesOf 5 = 1 := by kernel_rfl
@[go_sem] theorem z5 : tzO Try.prog 5 = some [.d (.int .u8 0)] := by kernel_rfl
@[go_sem] theorem i5 : ikind Try.prog 5 = some .u8 := by kernel_rfl
@[go_sem] theorem u5 : (Try.prog.underlying 5).isSome = true := by kernel_rfl
@[go_sem] theorem k6 : tyk Try.prog 6 = .scal := by kernel_rfl
@[go_sem] theorem c6 : Try.prog.cellsOf 6 = 1 := by kernel_rfl
@[go_sem] theorem b6 : Try.prog.bytesOf 6 = 1 := by kernel_rfl
@[go_sem] theorem z6 : tzO Try.prog 6 = some [.d (.int .u8 0)] := by kernel_rfl
@[go_sem] theorem i6 : ikind Try.prog 6 = some .u8 := by kernel_rfl
@[go_sem] theorem u6 : (Try.prog.underlying 6).isSome = true := by kernel_rfl
@[go_sem] theorem k7 : tyk Try.prog 7 = .struct [(0, 2), (1, 3), (2, 4), (3, 6)] := by kernel_rfl
@[go_sem] theorem c7 : Try.prog.cellsOf 7 = 4 := by kernel_rfl
@[go_sem] theorem b7 : Try.prog.bytesOf 7 = 24 := by kernel_rfl
@[go_sem] theorem z7 : tzO Try.prog 7 = some [.d (.int .i64 0), .d (.int .i64 0), .d (.bool false), .d (.int .u8 0)] := by kernel_rfl
@[go_sem] theorem u7 : (Try.prog.underlying 7).isSome = true := by kernel_rfl
@[go_sem] theorem k8 : tyk Try.prog 8 = .struct [(0, 2), (1, 3), (2, 4), (3, 6)] := by kernel_rfl
@[go_sem] theorem c8 : Try.prog.cellsOf 8 = 4 := by kernel_rfl
@[go_sem] theorem b8 : Try.prog.bytesOf 8 = 24 := by kernel_rfl
@[go_sem] theorem z8 : tzO Try.prog 8 = some [.d (.int .i64 0), .d (.int .i64 0), .d (.bool false), .d (.int .u8 0)] := by kernel_rfl
@[go_sem] theorem u8 : (Try.prog.underlying 8).isSome = true := by kernel_rfl
@[go_sem] theorem k9 : tyk Try.prog 9 = .str := by kernel_rfl
@[go_sem] theorem c9 : Try.prog.cellsOf 9 = 1 := by kernel_rfl
@[go_sem] theorem b9 : Try.prog.bytesOf 9 = 16 := by kernel_rfl
@[go_sem] theorem z9 : tzO Try.prog 9 = some [.d (.str [])] := by kernel_rfl
@[go_sem] theorem u9 : (Try.prog.underlying 9).isSome = true := by kernel_rfl
@[go_sem] theorem k10 : tyk Try.prog 10 = .str := by kernel_rfl
@[go_sem] theorem c10 : Try.prog.cellsOf 10 = 1 := by kernel_rfl
@[go_sem] theorem b10 : Try.prog.bytesOf 10 = 16 := by kernel_rfl
@[go_sem] theorem z10 : tzO Try.prog 10 = some [.d (.str [])] := by kernel_rfl
@[go_sem] theorem u10 : (Try.prog.underlying 10).isSome = true := by kernel_rfl
@[go_sem] theorem k11 : tyk Try.prog 11 = .str := by kernel_rfl
@[go_sem] theorem c11 : Try.prog.cellsOf 11 = 1 := by kernel_rfl
@[go_sem] theorem b11 : Try.prog.bytesOf 11 = 16 := by kernel_rfl
@[go_sem] theorem z11 : tzO Try.prog 11 = some [.d (.str [])] := by kernel_rfl
@[go_sem] theorem u11 : (Try.prog.underlying 11).isSome = true := by kernel_rfl
@[go_sem] theorem k12 : tyk Try.prog 12 = .scal := by kernel_rfl
@[go_sem] theorem c12 : Try.prog.cellsOf 12 = 1 := by kernel_rfl
@[go_sem] theorem b12 : Try.prog.bytesOf 12 = 8 := by kernel_rfl
@[go_sem] theorem z12 : tzO Try.prog 12 = some [.d (.int .u64 0)] := by kernel_rfl
@[go_sem] theorem i12 : ikind Try.prog 12 = some .u64 := by kernel_rfl
@[go_sem] theorem u12 : (Try.prog.underlying 12).isSome = true := by kernel_rfl
@[go_sem] theorem k13 : tyk Try.prog 13 = .struct [(0, 9), (1, 12)] := by kernel_rfl
@[go_sem] theorem c13 : Try.prog.cellsOf 13 = 2 := by kernel_rfl
@[go_sem] theorem b13 : Try.prog.bytesOf 13 = 24 := by kernel_rfl
@[go_sem] theorem z13 : tzO Try.prog 13 = some [.d (.str []), .d (.int .u64 0)] := by kernel_rfl
@[go_sem] theorem u13 : (Try.prog.underlying 13).isSome = true := by kernel_rfl
@[go_sem] theorem k14 : tyk Try.prog 14 = .struct [(0, 9), (1, 12)] := by kernel_rfl
@[go_sem] theorem c14 : Try.prog.cellsOf 14 = 2 := by kernel_rfl
@[go_sem] theorem b14 : Try.prog.bytesOf 14 = 24 := by kernel_rfl
@[go_sem] theorem z14 : tzO Try.prog 14 = some [.d (.str []), .d (.int .u64 0)] := by kernel_rfl
@[go_sem] theorem u14 : (Try.prog.underlying 14).isSome = true := by kernel_rfl
@[go_sem] theorem k15 : tyk Try.prog 15 = .scal := by kernel_rfl
@[go_sem] theorem c15 : Try.prog.cellsOf 15 = 1 := by kernel_rfl
@[go_sem] theorem b15 : Try.prog.bytesOf 15 = 8 := by kernel_rfl
@[go_sem] theorem z15 : tzO Try.prog 15 = some [.d .nilp] := by kernel_rfl
@[go_sem] theorem u15 : (Try.prog.underlying 15).isSome = true := by kernel_rfl
@[go_sem] theorem k16 : tyk Try.prog 16 = .scal := by kernel_rfl
@[go_sem] theorem c16 : Try.prog.cellsOf 16 = 1 := by kernel_rfl
@[go_sem] theorem b16 : Try.prog.bytesOf 16 = 8 := by kernel_rfl
@[go_sem] theorem z16 : tzO Try.prog 16 = some [.d .nilp] := by kernel_rfl
@[go_sem] theorem u16 : (Try.prog.underlying 16).isSome = true := by kernel_rfl
@[go_sem] theorem k17 : tyk Try.prog 17 = .scal := by kernel_rfl
@[go_sem] theorem c17 : Try.prog.cellsOf 17 = 1 := by kernel_rfl
@[go_sem] theorem b17 : Try.prog.bytesOf 17 = 8 := by kernel_rfl
@[go_sem] theorem z17 : tzO Try.prog 17 = some [.d .nilp] := by kernel_rfl
@[go_sem] theorem u17 : (Try.prog.underlying 17).isSome = true := by kernel_rfl
@[go_sem] theorem k18 : tyk Try.prog 18 = .struct [(0, 17)] := by kernel_rfl
@[go_sem] theorem c18 : Try.prog.cellsOf 18 = 1 := by kernel_rfl
@[go_sem] theorem b18 : Try.prog.bytesOf 18 = 8 := by kernel_rfl
@[go_sem] theorem z18 : tzO Try.prog 18 = some [.d .nilp] := by kernel_rfl
@[go_sem] theorem u18 : (Try.prog.underlying 18).isSome = true := by kernel_rfl
@[go_sem] theorem k19 : tyk Try.prog 19 = .struct [(0, 17)] := by kernel_rfl
@[go_sem] theorem c19 : Try.prog.cellsOf 19 = 1 := by kernel_rfl
@[go_sem] theorem b19 : Try.prog.bytesOf 19 = 8 := by kernel_rfl
@[go_sem] theorem z19 : tzO Try.prog 19 = some [.d .nilp] := by kernel_rfl
@[go_sem] theorem u19 : (Try.prog.underlying 19).isSome = true := by kernel_rfl
@[go_sem] theorem k21 : tyk Try.prog 21 = .scal := by kernel_rfl
@[go_sem] theorem c21 : Try.prog.cellsOf 21 = 1 := by kernel_rfl
@[go_sem] theorem b21 : Try.prog.bytesOf 21 = 4 := by kernel_rfl
@[go_sem] theorem z21 : tzO Try.prog 21 = some [.d (.int .i32 0)] := by kernel_rfl
@[go_sem] theorem i21 : ikind Try.prog 21 = some .i32 := by kernel_rfl
@[go_sem] theorem u21 : (Try.prog.underlying 21).isSome = true := by kernel_rfl
@[go_sem] theorem k22 : tyk Try.prog 22 = .arr 32 5 := by kernel_rfl
@[go_sem] theorem c22 : Try.prog.cellsOf 22 = 32 := by kernel_rfl
@[go_sem] theorem b22 : Try.prog.bytesOf 22 = 32 := by kernel_rfl
@[go_sem] theorem u22 : (Try.prog.underlying 22).isSome = true := by kernel_rfl
@[go_sem] theorem k23 : tyk Try.prog 23 = .slice 22 := by kernel_rfl
@[go_sem] theorem c23 : Try.prog.cellsOf 23 = 1 := by kernel_rfl
@[go_sem] theorem b23 : Try.prog.bytesOf 23 = 24 := by kernel_rfl
@[go_sem] theorem z23 : tzO Try.prog 23 = some [.nil] := by kernel_rfl
@[go_sem] theorem u23 : (Try.prog.underlying 23).isSome = true := by kernel_rfl
@[go_sem] theorem k24 : tyk Try.prog 24 = .slice 5 := by kernel_rfl
@[go_sem] theorem c24 : Try.prog.cellsOf 24 = 1 := by kernel_rfl
@[go_sem] theorem b24 : Try.prog.bytesOf 24 = 24 := by kernel_rfl
@[go_sem] theorem z24 : tzO Try.prog 24 = some [.nil] := by kernel_rfl
@[go_sem] theorem u24 : (Try.prog.underlying 24).isSome = true := by kernel_rfl
@[go_sem] theorem k25 : tyk Try.prog 25 = .struct [(0, 22), (32, 23), (33, 24)] := by kernel_rfl
@[go_sem] theorem c25 : Try.prog.cellsOf 25 = 34 := by kernel_rfl
@[go_sem] theorem b25 : Try.prog.bytesOf 25 = 80 := by kernel_rfl
@[go_sem] theorem u25 : (Try.prog.underlying 25).isSome = true := by kernel_rfl
@[go_sem] theorem k26 : tyk Try.prog 26 = .struct [(0, 22), (32, 23), (33, 24)] := by kernel_rfl
@[go_sem] theorem c26 : Try.prog.cellsOf 26 = 34 := by kernel_rfl
@[go_sem] theorem b26 : Try.prog.bytesOf 26 = 80 := by kernel_rfl
@[go_sem] theorem u26 : (Try.prog.underlying 26).isSome = true := by kernel_rfl
@[go_sem] theorem k29 : tyk Try.prog 29 = .scal := by kernel_rfl
@[go_sem] theorem c29 : Try.prog.cellsOf 29 = 1 := by kernel_rfl
@[go_sem] theorem b29 : Try.prog.bytesOf 29 = 8 := by kernel_rfl
@[go_sem] theorem z29 : tzO Try.prog 29 = some [.d (.int .i64 0)] := by kernel_rfl
@[go_sem] theorem i29 : ikind Try.prog 29 = some .i64 := by kernel_rfl
@[go_sem] theorem u29 : (Try.prog.underlying 29).isSome = true := by kernel_rfl
@[go_sem] theorem k40 : tyk Try.prog 40 = .slice 24 := by kernel_rfl
@[go_sem] theorem c40 : Try.prog.cellsOf 40 = 1 := by kernel_rfl
@[go_sem] theorem b40 : Try.prog.bytesOf 40 = 24 := by kernel_rfl
@[go_sem] theorem z40 : tzO Try.prog 40 = some [.nil] := by kernel_rfl
@[go_sem] theorem u40 : (Try.prog.underlying 40).isSome = true := by kernel_rfl
@[go_sem] theorem k41 : tyk Try.prog 41 = .slice 26 := by kernel_rfl
@[go_sem] theorem c41 : Try.prog.cellsOf 41 = 1 := by kernel_rfl
@[go_sem] theorem b41 : Try.prog.bytesOf 41 = 24 := by kernel_rfl
@[go_sem] theorem z41 : tzO Try.prog 41 = some [.nil] := by kernel_rfl
@[go_sem] theorem u41 : (Try.prog.underlying 41).isSome = true := by kernel_rfl
@[go_sem] theorem k50 : tyk Try.prog 50 = .slice 52 := by kernel_rfl
@[go_sem] theorem c50 : Try.prog.cellsOf 50 = 1 := by kernel_rfl
@[go_sem] theorem b50 : Try.prog.bytesOf 50 = 24 := by kernel_rfl
@[go_sem] theorem z50 : tzO Try.prog 50 = some [.nil] := by kernel_rfl
@[go_sem] theorem u50 : (Try.prog.underlying 50).isSome = true := by kernel_rfl
@[go_sem] theorem k51 : tyk Try.prog 51 = .struct [(0, 22), (32, 3), (33, 3)] := by kernel_rfl
@[go_sem] theorem c51 : Try.prog.cellsOf 51 = 34 := by kernel_rfl
@[go_sem] theorem b51 : Try.prog.bytesOf 51 = 48 := by kernel_rfl
@[go_sem] theorem u51 : (Try.prog.underlying 51).isSome = true := by kernel_rfl
@[go_sem] theorem k52 : tyk Try.prog 52 = .struct [(0, 22), (32, 3), (33, 3)] := by kernel_rfl
@[go_sem] theorem c52 : Try.prog.cellsOf 52 = 34 := by kernel_rfl
@[go_sem] theorem b52 : Try.prog.bytesOf 52 = 48 := by kernel_rfl
@[go_sem] theorem u52 : (Try.prog.underlying 52).isSome = true := by kernel_rfl
@[go_sem] theorem k59 : tyk Try.prog 59 = .scal := by kernel_rfl
@[go_sem] theorem c59 : Try.prog.cellsOf 59 = 1 := by kernel_rfl
@[go_sem] theorem b59 : Try.prog.bytesOf 59 = 8 := by kernel_rfl
@[go_sem] theorem z59 : tzO Try.prog 59 = some [.d .nilp] := by kernel_rfl
@[go_sem] theorem u59 : (Try.prog.underlying 59).isSome = true := by kernel_rfl
@[go_sem] theorem k62 : tyk Try.prog 62 = .scal := by kernel_rfl
@[go_sem] theorem c62 : Try.prog.cellsOf 62 = 1 := by kernel_rfl
@[go_sem] theorem b62 : Try.prog.bytesOf 62 = 8 := by kernel_rfl
@[go_sem] theorem z62 : tzO Try.prog 62 = some [.d .nilp] := by kernel_rfl
@[go_sem] theorem u62 : (Try.prog.underlying 62).isSome = true := by kernel_rfl
@[go_sem] theorem k67 : tyk Try.prog 67 = .scal := by kernel_rfl
@[go_sem] theorem c67 : Try.prog.cellsOf 67 = 1 := by kernel_rfl
@[go_sem] theorem b67 : Try.prog.bytesOf 67 = 8 := by kernel_rfl
@[go_sem] theorem z67 : tzO Try.prog 67 = some [.d (.int .u64 0)] := by kernel_rfl
@[go_sem] theorem i67 : ikind Try.prog 67 = some .u64 := by kernel_rfl
@[go_sem] theorem u67 : (Try.prog.underlying 67).isSome = true := by kernel_rfl
@[go_sem] theorem k68 : tyk Try.prog 68 = .arr 4 67 := by kernel_rfl
@[go_sem] theorem c68 : Try.prog.cellsOf 68 = 4 := by kernel_rfl
@[go_sem] theorem b68 : Try.prog.bytesOf 68 = 32 := by kernel_rfl
@[go_sem] theorem z68 : tzO Try.prog 68 = some [.d (.int .u64 0), .d (.int .u64 0), .d (.int .u64 0), .d (.int .u64 0)] := by kernel_rfl
@[go_sem] theorem u68 : (Try.prog.underlying 68).isSome = true := by kernel_rfl
@[go_sem] theorem k69 : tyk Try.prog 69 = .arr 4 67 := by kernel_rfl
@[go_sem] theorem c69 : Try.prog.cellsOf 69 = 4 := by kernel_rfl
@[go_sem] theorem b69 : Try.prog.bytesOf 69 = 32 := by kernel_rfl
@[go_sem] theorem z69 : tzO Try.prog 69 = some [.d (.int .u64 0), .d (.int .u64 0), .d (.int .u64 0), .d (.int .u64 0)] := by kernel_rfl
@[go_sem] theorem u69 : (Try.prog.underlying 69).isSome = true := by kernel_rfl
@[go_sem] theorem k70 : tyk Try.prog 70 = .struct [(0, 69), (4, 69), (8, 4)] := by kernel_rfl
@[go_sem] theorem c70 : Try.prog.cellsOf 70 = 9 := by kernel_rfl
@[go_sem] theorem b70 : Try.prog.bytesOf 70 = 72 := by kernel_rfl
@[go_sem] theorem z70 : tzO Try.prog 70 = some [.d (.int .u64 0), .d (.int .u64 0), .d (.int .u64 0), .d (.int .u64 0), .d (.int .u64 0), .d (.int .u64 0), .d (.int .u64 0), .d (.int .u64 0), .d (.bool false)] := by kernel_rfl
@[go_sem] theorem u70 : (Try.prog.underlying 70).isSome = true := by kernel_rfl
@[go_sem] theorem k71 : tyk Try.prog 71 = .struct [(0, 69), (4, 69), (8, 4)] := by kernel_rfl
@[go_sem] theorem c71 : Try.prog.cellsOf 71 = 9 := by kernel_rfl
@[go_sem] theorem b71 : Try.prog.bytesOf 71 = 72 := by kernel_rfl
@[go_sem] theorem z71 : tzO Try.prog 71 = some [.d (.int .u64 0), .d (.int .u64 0), .d (.int .u64 0), .d (.int .u64 0), .d (.int .u64 0), .d (.int .u64 0), .d (.int .u64 0), .d (.int .u64 0), .d (.bool false)] := by kernel_rfl
@[go_sem] theorem u71 : (Try.prog.underlying 71).isSome = true := by kernel_rfl
@[go_sem] theorem k81 : tyk Try.prog 81 = .scal := by kernel_rfl
@[go_sem] theorem c81 : Try.prog.cellsOf 81 = 1 := by kernel_rfl
@[go_sem] theorem b81 : Try.prog.bytesOf 81 = 4 := by kernel_rfl
@[go_sem] theorem z81 : tzO Try.prog 81 = some [.d (.int .u32 0)] := by kernel_rfl
@[go_sem] theorem i81 : ikind Try.prog 81 = some .u32 := by kernel_rfl
@[go_sem] theorem u81 : (Try.prog.underlying 81).isSome = true := by kernel_rfl
@[go_sem] theorem k82 : tyk Try.prog 82 = .arr 8 81 := by kernel_rfl
@[go_sem] theorem c82 : Try.prog.cellsOf 82 = 8 := by kernel_rfl
@[go_sem] theorem b82 : Try.prog.bytesOf 82 = 32 := by kernel_rfl
@[go_sem] theorem z82 : tzO Try.prog 82 = some [.d (.int .u32 0), .d (.int .u32 0), .d (.int .u32 0), .d (.int .u32 0), .d (.int .u32 0), .d (.int .u32 0), .d (.int .u32 0), .d (.int .u32 0)] := by kernel_rfl
@[go_sem] theorem u82 : (Try.prog.underlying 82).isSome = true := by kernel_rfl
@[go_sem] theorem k83 : tyk Try.prog 83 = .arr 8 81 := by kernel_rfl
@[go_sem] theorem c83 : Try.prog.cellsOf 83 = 8 := by kernel_rfl
@[go_sem] theorem b83 : Try.prog.bytesOf 83 = 32 := by kernel_rfl
@[go_sem] theorem z83 : tzO Try.prog 83 = some [.d (.int .u32 0), .d (.int .u32 0), .d (.int .u32 0), .d (.int .u32 0), .d (.int .u32 0), .d (.int .u32 0), .d (.int .u32 0), .d (.int .u32 0)] := by kernel_rfl
@[go_sem] theorem u83 : (Try.prog.underlying 83).isSome = true := by kernel_rfl
@[go_sem] theorem k85 : tyk Try.prog 85 = .struct [(0, 83), (8, 24), (9, 67)] := by kernel_rfl
@[go_sem] theorem c85 : Try.prog.cellsOf 85 = 10 := by kernel_rfl
@[go_sem] theorem b85 : Try.prog.bytesOf 85 = 64 := by kernel_rfl
@[go_sem] theorem z85 : tzO Try.prog 85 = some [.d (.int .u32 0), .d (.int .u32 0), .d (.int .u32 0), .d (.int .u32 0), .d (.int .u32 0), .d (.int .u32 0), .d (.int .u32 0), .d (.int .u32 0), .nil, .d (.int .u64 0)] := by kernel_rfl
@[go_sem] theorem u85 : (Try.prog.underlying 85).isSome = true := by kernel_rfl
@[go_sem] theorem k86 : tyk Try.prog 86 = .struct [(0, 83), (8, 24), (9, 67)] := by kernel_rfl
@[go_sem] theorem c86 : Try.prog.cellsOf 86 = 10 := by kernel_rfl
@[go_sem] theorem b86 : Try.prog.bytesOf 86 = 64 := by kernel_rfl
@[go_sem] theorem z86 : tzO Try.prog 86 = some [.d (.int .u32 0), .d (.int .u32 0), .d (.int .u32 0), .d (.int .u32 0), .d (.int .u32 0), .d (.int .u32 0), .d (.int .u32 0), .d (.int .u32 0), .nil, .d (.int .u64 0)] := by kernel_rfl
@[go_sem] theorem u86 : (Try.prog.underlying 86).isSome = true := by kernel_rfl
@[go_sem] theorem k89 : tyk Try.prog 89 = .scal := by kernel_rfl
@[go_sem] theorem c89 : Try.prog.cellsOf 89 = 1 := by kernel_rfl
@[go_sem] theorem b89 : Try.prog.bytesOf 89 = 2 := by kernel_rfl
@[go_sem] theorem z89 : tzO Try.prog 89 = some [.d (.int .u16 0)] := by kernel_rfl
@[go_sem] theorem i89 : ikind Try.prog 89 = some .u16 := by kernel_rfl
@[go_sem] theorem u89 : (Try.prog.underlying 89).isSome = true := by kernel_rfl
@[go_sem] theorem k98 : tyk Try.prog 98 = .struct [(0, 69), (4, 69), (8, 69)] := by kernel_rfl
@[go_sem] theorem c98 : Try.prog.cellsOf 98 = 12 := by kernel_rfl
@[go_sem] theorem b98 : Try.prog.bytesOf 98 = 96 := by kernel_rfl
@[go_sem] theorem z98 : tzO Try.prog 98 = some [.d (.int .u64 0), .d (.int .u64 0), .d (.int .u64 0), .d (.int .u64 0), .d (.int .u64 0), .d (.int .u64 0), .d (.int .u64 0), .d (.int .u64 0), .d (.int .u64 0), .d (.int .u64 0), .d (.int .u64 0), .d (.int .u64 0)] := by kernel_rfl
@[go_sem] theorem u98 : (Try.prog.underlying 98).isSome = true := by kernel_rfl
@[go_sem] theorem k99 : tyk Try.prog 99 = .struct [(0, 69), (4, 69), (8, 69)] := by kernel_rfl
@[go_sem] theorem c99 : Try.prog.cellsOf 99 = 12 := by kernel_rfl
@[go_sem] theorem b99 : Try.prog.bytesOf 99 = 96 := by kernel_rfl
@[go_sem] theorem z99 : tzO Try.prog 99 = some [.d (.int .u64 0), .d (.int .u64 0), .d (.int .u64 0), .d (.int .u64 0), .d (.int .u64 0), .d (.int .u64 0), .d (.int .u64 0), .d (.int .u64 0), .d (.int .u64 0), .d (.int .u64 0), .d (.int .u64 0), .d (.int .u64 0)] := by kernel_rfl
@[go_sem] theorem u99 : (Try.prog.underlying 99).isSome = true := by kernel_rfl
@[go_sem] theorem k107 : tyk Try.prog 107 = .scal := by kernel_rfl
@[go_sem] theorem c107 : Try.prog.cellsOf 107 = 1 := by kernel_rfl
@[go_sem] theorem b107 : Try.prog.bytesOf 107 = 8 := by kernel_rfl
@[go_sem] theorem z107 : tzO Try.prog 107 = some [.d .nilp] := by kernel_rfl
@[go_sem] theorem u107 : (Try.prog.underlying 107).isSome = true := by kernel_rfl
@[go_sem] theorem k108 : tyk Try.prog 108 = .arr 64 81 := by kernel_rfl
@[go_sem] theorem c108 : Try.prog.cellsOf 108 = 64 := by kernel_rfl
@[go_sem] theorem b108 : Try.prog.bytesOf 108 = 256 := by kernel_rfl
@[go_sem] theorem u108 : (Try.prog.underlying 108).isSome = true := by kernel_rfl
@[go_sem] theorem k112 : tyk Try.prog 112 = .scal := by kernel_rfl
@[go_sem] theorem c112 : Try.prog.cellsOf 112 = 1 := by kernel_rfl
@[go_sem] theorem b112 : Try.prog.bytesOf 112 = 8 := by kernel_rfl
@[go_sem] theorem z112 : tzO Try.prog 112 = some [.d (.int .u64 0)] := by kernel_rfl
@[go_sem] theorem i112 : ikind Try.prog 112 = some .u64 := by kernel_rfl
@[go_sem] theorem u112 : (Try.prog.underlying 112).isSome = true := by kernel_rfl
@[go_sem] theorem k127 : tyk Try.prog 127 = .arr 8 67 := by kernel_rfl
@[go_sem] theorem c127 : Try.prog.cellsOf 127 = 8 := by kernel_rfl
@[go_sem] theorem b127 : Try.prog.bytesOf 127 = 64 := by kernel_rfl
@[go_sem] theorem z127 : tzO Try.prog 127 = some [.d (.int .u64 0), .d (.int .u64 0), .d (.int .u64 0), .d (.int .u64 0), .d (.int .u64 0), .d (.int .u64 0), .d (.int .u64 0), .d (.int .u64 0)] := by kernel_rfl
@[go_sem] theorem u127 : (Try.prog.underlying 127).isSome = true := by kernel_rfl
@[go_sem] theorem k129 : tyk Try.prog 129 = .slice 67 := by kernel_rfl
@[go_sem] theorem c129 : Try.prog.cellsOf 129 = 1 := by kernel_rfl
@[go_sem] theorem b129 : Try.prog.bytesOf 129 = 24 := by kernel_rfl
@[go_sem] theorem z129 : tzO Try.prog 129 = some [.nil] := by kernel_rfl
@[go_sem] theorem u129 : (Try.prog.underlying 129).isSome = true := by kernel_rfl
@[go_sem] theorem k132 : tyk Try.prog 132 = .struct [(0, 17), (1, 17), (2, 17), (3, 9)] := by kernel_rfl
@[go_sem] theorem c132 : Try.prog.cellsOf 132 = 4 := by kernel_rfl
@[go_sem] theorem b132 : Try.prog.bytesOf 132 = 40 := by kernel_rfl
@[go_sem] theorem z132 : tzO Try.prog 132 = some [.d .nilp, .d .nilp, .d .nilp, .d (.str [])] := by kernel_rfl
@[go_sem] theorem u132 : (Try.prog.underlying 132).isSome = true := by kernel_rfl
@[go_sem] theorem k133 : tyk Try.prog 133 = .struct [(0, 17), (1, 17), (2, 17), (3, 9)] := by kernel_rfl
@[go_sem] theorem c133 : Try.prog.cellsOf 133 = 4 := by kernel_rfl
@[go_sem] theorem b133 : Try.prog.bytesOf 133 = 40 := by kernel_rfl
@[go_sem] theorem z133 : tzO Try.prog 133 = some [.d .nilp, .d .nilp, .d .nilp, .d (.str [])] := by kernel_rfl
@[go_sem] theorem u133 : (Try.prog.underlying 133).isSome = true := by kernel_rfl
@[go_sem] theorem k134 : tyk Try.prog 134 = .arr 0 16 := by kernel_rfl
@[go_sem] theorem c134 : Try.prog.cellsOf 134 = 0 := by kernel_rfl
@[go_sem] theorem u134 : (Try.prog.underlying 134).isSome = true := by kernel_rfl
@[go_sem] theorem k135 : tyk Try.prog 135 = .struct [(0, 134)] := by kernel_rfl
@[go_sem] theorem c135 : Try.prog.cellsOf 135 = 0 := by kernel_rfl
@[go_sem] theorem u135 : (Try.prog.underlying 135).isSome = true := by kernel_rfl
@[go_sem] theorem k136 : tyk Try.prog 136 = .struct [(0, 134)] := by kernel_rfl
@[go_sem] theorem c136 : Try.prog.cellsOf 136 = 0 := by kernel_rfl
@[go_sem] theorem u136 : (Try.prog.underlying 136).isSome = true := by kernel_rfl
@[go_sem] theorem k138 : tyk Try.prog 138 = .scal := by kernel_rfl
@[go_sem] theorem c138 : Try.prog.cellsOf 138 = 1 := by kernel_rfl
@[go_sem] theorem b138 : Try.prog.bytesOf 138 = 1 := by kernel_rfl
@[go_sem] theorem z138 : tzO Try.prog 138 = some [.d (.int .u8 0)] := by kernel_rfl
@[go_sem] theorem i138 : ikind Try.prog 138 = some .u8 := by kernel_rfl
@[go_sem] theorem u138 : (Try.prog.underlying 138).isSome = true := by kernel_rfl
@[go_sem] theorem k139 : tyk Try.prog 139 = .scal := by kernel_rfl
@[go_sem] theorem c139 : Try.prog.cellsOf 139 = 1 := by kernel_rfl
@[go_sem] theorem b139 : Try.prog.bytesOf 139 = 1 := by kernel_rfl
@[go_sem] theorem z139 : tzO Try.prog 139 = some [.d (.int .u8 0)] := by kernel_rfl
@[go_sem] theorem i139 : ikind Try.prog 139 = some .u8 := by kernel_rfl
@[go_sem] theorem u139 : (Try.prog.underlying 139).isSome = true := by kernel_rfl
@[go_sem] theorem k141 : tyk Try.prog 141 = .scal := by kernel_rfl
@[go_sem] theorem c141 : Try.prog.cellsOf 141 = 1 := by kernel_rfl
@[go_sem] theorem b141 : Try.prog.bytesOf 141 = 8 := by kernel_rfl
@[go_sem] theorem z141 : tzO Try.prog 141 = some [.d .nilp] := by kernel_rfl
@[go_sem] theorem u141 : (Try.prog.underlying 141).isSome = true := by kernel_rfl
@[go_sem] theorem k142 : tyk Try.prog 142 = .scal := by kernel_rfl
@[go_sem] theorem c142 : Try.prog.cellsOf 142 = 1 := by kernel_rfl
@[go_sem] theorem b142 : Try.prog.bytesOf 142 = 4 := by kernel_rfl
@[go_sem] theorem z142 : tzO Try.prog 142 = some [.d (.int .i32 0)] := by kernel_rfl
@[go_sem] theorem i142 : ikind Try.prog 142 = some .i32 := by kernel_rfl
@[go_sem] theorem u142 : (Try.prog.underlying 142).isSome = true := by kernel_rfl
@[go_sem] theorem k143 : tyk Try.prog 143 = .scal := by kernel_rfl
@[go_sem] theorem c143 : Try.prog.cellsOf 143 = 1 := by kernel_rfl
@[go_sem] theorem b143 : Try.prog.bytesOf 143 = 4 := by kernel_rfl
@[go_sem] theorem z143 : tzO Try.prog 143 = some [.d (.int .i32 0)] := by kernel_rfl
@[go_sem] theorem i143 : ikind Try.prog 143 = some .i32 := by kernel_rfl
@[go_sem] theorem u143 : (Try.prog.underlying 143).isSome = true := by kernel_rfl
end Go.Proofs.Ytgeabjjgeeakdaa
