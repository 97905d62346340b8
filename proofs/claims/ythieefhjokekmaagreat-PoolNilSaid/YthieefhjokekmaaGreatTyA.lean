/-
  Facts of types, printed by a program of ours.
-/
import Derived.Test.YthieefhjokekmaaGreatRows
import Derived.Test.YthieefhjokekmaaGreatAmRun
namespace Go.Proofs.YthieefhjokekmaaGreat
open Go.Am
set_option maxRecDepth 100000
@[go_sem] theorem k2 : tyk Tryz.prog 2 = .scal := by kernel_rfl
@[go_sem] theorem c2 : Tryz.prog.cellsOf 2 = 1 := by kernel_rfl
@[go_sem] theorem b2 : Tryz.prog.bytesOf 2 = 8 := by kernel_rfl
@[go_sem] theorem z2 : tzO Tryz.prog 2 = some [.d (.int .i64 0)] := by kernel_rfl
@[go_sem] theorem i2 : ikind Tryz.prog 2 = some .i64 := by kernel_rfl
@[go_sem] theorem u2 : (Tryz.prog.underlying 2).isSome = true := by kernel_rfl
@[go_sem] theorem k3 : tyk Tryz.prog 3 = .scal := by kernel_rfl
@[go_sem] theorem c3 : Tryz.prog.cellsOf 3 = 1 := by kernel_rfl
@[go_sem] theorem b3 : Tryz.prog.bytesOf 3 = 8 := by kernel_rfl
@[go_sem] theorem z3 : tzO Tryz.prog 3 = some [.d (.int .i64 0)] := by kernel_rfl
@[go_sem] theorem i3 : ikind Tryz.prog 3 = some .i64 := by kernel_rfl
@[go_sem] theorem u3 : (Tryz.prog.underlying 3).isSome = true := by kernel_rfl
@[go_sem] theorem k4 : tyk Tryz.prog 4 = .scal := by kernel_rfl
@[go_sem] theorem c4 : Tryz.prog.cellsOf 4 = 1 := by kernel_rfl
@[go_sem] theorem b4 : Tryz.prog.bytesOf 4 = 1 := by kernel_rfl
@[go_sem] theorem z4 : tzO Tryz.prog 4 = some [.d (.bool false)] := by kernel_rfl
@[go_sem] theorem u4 : (Tryz.prog.underlying 4).isSome = true := by kernel_rfl
@[go_sem] theorem k5 : tyk Tryz.prog 5 = .scal := by kernel_rfl
@[go_sem] theorem c5 : Tryz.prog.cellsOf 5 = 1 := by kernel_rfl
@[go_sem] theorem b5 : Tryz.prog.bytesOf 5 = 1 := by kernel_rfl
@[go_sem] theorem z5 : tzO Tryz.prog 5 = some [.d (.int .u8 0)] := by kernel_rfl
@[go_sem] theorem i5 : ikind Tryz.prog 5 = some .u8 := by kernel_rfl
@[go_sem] theorem u5 : (Tryz.prog.underlying 5).isSome = true := by kernel_rfl
@[go_sem] theorem k6 : tyk Tryz.prog 6 = .scal := by kernel_rfl
@[go_sem] theorem c6 : Tryz.prog.cellsOf 6 = 1 := by kernel_rfl
@[go_sem] theorem b6 : Tryz.prog.bytesOf 6 = 1 := by kernel_rfl
@[go_sem] theorem z6 : tzO Tryz.prog 6 = some [.d (.int .u8 0)] := by kernel_rfl
@[go_sem] theorem i6 : ikind Tryz.prog 6 = some .u8 := by kernel_rfl
@[go_sem] theorem u6 : (Tryz.prog.underlying 6).isSome = true := by kernel_rfl
@[go_sem] theorem k7 : tyk Tryz.prog 7 = .struct [(0, 2), (1, 3), (2, 4), (3, 6)] := by kernel_rfl
@[go_sem] theorem c7 : Tryz.prog.cellsOf 7 = 4 := by kernel_rfl
@[go_sem] theorem b7 : Tryz.prog.bytesOf 7 = 24 := by kernel_rfl
@[go_sem] theorem z7 : tzO Tryz.prog 7 = some [.d (.int .i64 0), .d (.int .i64 0), .d (.bool false), .d (.int .u8 0)] := by kernel_rfl
@[go_sem] theorem u7 : (Tryz.prog.underlying 7).isSome = true := by kernel_rfl
@[go_sem] theorem k8 : tyk Tryz.prog 8 = .struct [(0, 2), (1, 3), (2, 4), (3, 6)] := by kernel_rfl
@[go_sem] theorem c8 : Tryz.prog.cellsOf 8 = 4 := by kernel_rfl
@[go_sem] theorem b8 : Tryz.prog.bytesOf 8 = 24 := by kernel_rfl
@[go_sem] theorem z8 : tzO Tryz.prog 8 = some [.d (.int .i64 0), .d (.int .i64 0), .d (.bool false), .d (.int .u8 0)] := by kernel_rfl
@[go_sem] theorem u8 : (Tryz.prog.underlying 8).isSome = true := by kernel_rfl
@[go_sem] theorem k9 : tyk Tryz.prog 9 = .str := by kernel_rfl
@[go_sem] theorem c9 : Tryz.prog.cellsOf 9 = 1 := by kernel_rfl
@[go_sem] theorem b9 : Tryz.prog.bytesOf 9 = 16 := by kernel_rfl
@[go_sem] theorem z9 : tzO Tryz.prog 9 = some [.d (.str [])] := by kernel_rfl
@[go_sem] theorem u9 : (Tryz.prog.underlying 9).isSome = true := by kernel_rfl
@[go_sem] theorem k10 : tyk Tryz.prog 10 = .str := by kernel_rfl
@[go_sem] theorem c10 : Tryz.prog.cellsOf 10 = 1 := by kernel_rfl
@[go_sem] theorem b10 : Tryz.prog.bytesOf 10 = 16 := by kernel_rfl
@[go_sem] theorem z10 : tzO Tryz.prog 10 = some [.d (.str [])] := by kernel_rfl
@[go_sem] theorem u10 : (Tryz.prog.underlying 10).isSome = true := by kernel_rfl
@[go_sem] theorem k11 : tyk Tryz.prog 11 = .str := by kernel_rfl
@[go_sem] theorem c11 : Tryz.prog.cellsOf 11 = 1 := by kernel_rfl
@[go_sem] theorem b11 : Tryz.prog.bytesOf 11 = 16 := by kernel_rfl
@[go_sem] theorem z11 : tzO Tryz.prog 11 = some [.d (.str [])] := by kernel_rfl
@[go_sem] theorem u11 : (Tryz.prog.underlying 11).isSome = true := by kernel_rfl
@[go_sem] theorem k12 : tyk Tryz.prog 12 = .scal := by kernel_rfl
@[go_sem] theorem c12 : Tryz.prog.cellsOf 12 = 1 := by kernel_rfl
@[go_sem] theorem b12 : Tryz.prog.bytesOf 12 = 8 := by kernel_rfl
@[go_sem] theorem z12 : tzO Tryz.prog 12 = some [.d (.int .u64 0)] := by kernel_rfl
@[go_sem] theorem i12 : ikind Tryz.prog 12 = some .u64 := by kernel_rfl
@[go_sem] theorem u12 : (Tryz.prog.underlying 12).isSome = true := by kernel_rfl
@[go_sem] theorem k13 : tyk Tryz.prog 13 = .struct [(0, 9), (1, 12)] := by kernel_rfl
@[go_sem] theorem c13 : Tryz.prog.cellsOf 13 = 2 := by kernel_rfl
@[go_sem] theorem b13 : Tryz.prog.bytesOf 13 = 24 := by kernel_rfl
@[go_sem] theorem z13 : tzO Tryz.prog 13 = some [.d (.str []), .d (.int .u64 0)] := by kernel_rfl
@[go_sem] theorem u13 : (Tryz.prog.underlying 13).isSome = true := by kernel_rfl
@[go_sem] theorem k14 : tyk Tryz.prog 14 = .struct [(0, 9), (1, 12)] := by kernel_rfl
@[go_sem] theorem c14 : Tryz.prog.cellsOf 14 = 2 := by kernel_rfl
@[go_sem] theorem b14 : Tryz.prog.bytesOf 14 = 24 := by kernel_rfl
@[go_sem] theorem z14 : tzO Tryz.prog 14 = some [.d (.str []), .d (.int .u64 0)] := by kernel_rfl
@[go_sem] theorem u14 : (Tryz.prog.underlying 14).isSome = true := by kernel_rfl
@[go_sem] theorem k15 : tyk Tryz.prog 15 = .scal := by kernel_rfl
@[go_sem] theorem c15 : Tryz.prog.cellsOf 15 = 1 := by kernel_rfl
@[go_sem] theorem b15 : Tryz.prog.bytesOf 15 = 8 := by kernel_rfl
@[go_sem] theorem z15 : tzO Tryz.prog 15 = some [.d .nilp] := by kernel_rfl
@[go_sem] theorem u15 : (Tryz.prog.underlying 15).isSome = true := by kernel_rfl
@[go_sem] theorem k16 : tyk Tryz.prog 16 = .scal := by kernel_rfl
@[go_sem] theorem c16 : Tryz.prog.cellsOf 16 = 1 := by kernel_rfl
@[go_sem] theorem b16 : Tryz.prog.bytesOf 16 = 8 := by kernel_rfl
@[go_sem] theorem z16 : tzO Tryz.prog 16 = some [.d .nilp] := by kernel_rfl
@[go_sem] theorem u16 : (Tryz.prog.underlying 16).isSome = true := by kernel_rfl
@[go_sem] theorem k17 : tyk Tryz.prog 17 = .scal := by kernel_rfl
@[go_sem] theorem c17 : Tryz.prog.cellsOf 17 = 1 := by kernel_rfl
@[go_sem] theorem b17 : Tryz.prog.bytesOf 17 = 8 := by kernel_rfl
@[go_sem] theorem z17 : tzO Tryz.prog 17 = some [.d .nilp] := by kernel_rfl
@[go_sem] theorem u17 : (Tryz.prog.underlying 17).isSome = true := by kernel_rfl
@[go_sem] theorem k18 : tyk Tryz.prog 18 = .struct [(0, 17)] := by kernel_rfl
@[go_sem] theorem c18 : Tryz.prog.cellsOf 18 = 1 := by kernel_rfl
@[go_sem] theorem b18 : Tryz.prog.bytesOf 18 = 8 := by kernel_rfl
@[go_sem] theorem z18 : tzO Tryz.prog 18 = some [.d .nilp] := by kernel_rfl
@[go_sem] theorem u18 : (Tryz.prog.underlying 18).isSome = true := by kernel_rfl
@[go_sem] theorem k19 : tyk Tryz.prog 19 = .struct [(0, 17)] := by kernel_rfl
@[go_sem] theorem c19 : Tryz.prog.cellsOf 19 = 1 := by kernel_rfl
@[go_sem] theorem b19 : Tryz.prog.bytesOf 19 = 8 := by kernel_rfl
@[go_sem] theorem z19 : tzO Tryz.prog 19 = some [.d .nilp] := by kernel_rfl
@[go_sem] theorem u19 : (Tryz.prog.underlying 19).isSome = true := by kernel_rfl
@[go_sem] theorem k21 : tyk Tryz.prog 21 = .scal := by kernel_rfl
@[go_sem] theorem c21 : Tryz.prog.cellsOf 21 = 1 := by kernel_rfl
@[go_sem] theorem b21 : Tryz.prog.bytesOf 21 = 4 := by kernel_rfl
@[go_sem] theorem z21 : tzO Tryz.prog 21 = some [.d (.int .i32 0)] := by kernel_rfl
@[go_sem] theorem i21 : ikind Tryz.prog 21 = some .i32 := by kernel_rfl
@[go_sem] theorem u21 : (Tryz.prog.underlying 21).isSome = true := by kernel_rfl
@[go_sem] theorem k22 : tyk Tryz.prog 22 = .scal := by kernel_rfl
@[go_sem] theorem c22 : Tryz.prog.cellsOf 22 = 1 := by kernel_rfl
@[go_sem] theorem b22 : Tryz.prog.bytesOf 22 = 4 := by kernel_rfl
@[go_sem] theorem z22 : tzO Tryz.prog 22 = some [.d (.int .u32 0)] := by kernel_rfl
@[go_sem] theorem i22 : ikind Tryz.prog 22 = some .u32 := by kernel_rfl
@[go_sem] theorem u22 : (Tryz.prog.underlying 22).isSome = true := by kernel_rfl
@[go_sem] theorem k23 : tyk Tryz.prog 23 = .slice 80 := by kernel_rfl
@[go_sem] theorem c23 : Tryz.prog.cellsOf 23 = 1 := by kernel_rfl
@[go_sem] theorem b23 : Tryz.prog.bytesOf 23 = 24 := by kernel_rfl
@[go_sem] theorem z23 : tzO Tryz.prog 23 = some [.nil] := by kernel_rfl
@[go_sem] theorem u23 : (Tryz.prog.underlying 23).isSome = true := by kernel_rfl
@[go_sem] theorem k24 : tyk Tryz.prog 24 = .slice 75 := by kernel_rfl
@[go_sem] theorem c24 : Tryz.prog.cellsOf 24 = 1 := by kernel_rfl
@[go_sem] theorem b24 : Tryz.prog.bytesOf 24 = 24 := by kernel_rfl
@[go_sem] theorem z24 : tzO Tryz.prog 24 = some [.nil] := by kernel_rfl
@[go_sem] theorem u24 : (Tryz.prog.underlying 24).isSome = true := by kernel_rfl
@[go_sem] theorem k25 : tyk Tryz.prog 25 = .struct [(0, 22), (1, 23), (2, 24), (3, 22)] := by kernel_rfl
@[go_sem] theorem c25 : Tryz.prog.cellsOf 25 = 4 := by kernel_rfl
@[go_sem] theorem b25 : Tryz.prog.bytesOf 25 = 64 := by kernel_rfl
@[go_sem] theorem z25 : tzO Tryz.prog 25 = some [.d (.int .u32 0), .nil, .nil, .d (.int .u32 0)] := by kernel_rfl
@[go_sem] theorem u25 : (Tryz.prog.underlying 25).isSome = true := by kernel_rfl
@[go_sem] theorem k26 : tyk Tryz.prog 26 = .struct [(0, 22), (1, 23), (2, 24), (3, 22)] := by kernel_rfl
@[go_sem] theorem c26 : Tryz.prog.cellsOf 26 = 4 := by kernel_rfl
@[go_sem] theorem b26 : Tryz.prog.bytesOf 26 = 64 := by kernel_rfl
@[go_sem] theorem z26 : tzO Tryz.prog 26 = some [.d (.int .u32 0), .nil, .nil, .d (.int .u32 0)] := by kernel_rfl
@[go_sem] theorem u26 : (Tryz.prog.underlying 26).isSome = true := by kernel_rfl
@[go_sem] theorem k27 : tyk Tryz.prog 27 = .arr 32 5 := by kernel_rfl
@[go_sem] theorem c27 : Tryz.prog.cellsOf 27 = 32 := by kernel_rfl
@[go_sem] theorem b27 : Tryz.prog.bytesOf 27 = 32 := by kernel_rfl
@[go_sem] theorem u27 : (Tryz.prog.underlying 27).isSome = true := by kernel_rfl
@[go_sem] theorem k28 : tyk Tryz.prog 28 = .scal := by kernel_rfl
@[go_sem] theorem c28 : Tryz.prog.cellsOf 28 = 1 := by kernel_rfl
@[go_sem] theorem b28 : Tryz.prog.bytesOf 28 = 8 := by kernel_rfl
@[go_sem] theorem z28 : tzO Tryz.prog 28 = some [.d .nilp] := by kernel_rfl
@[go_sem] theorem u28 : (Tryz.prog.underlying 28).isSome = true := by kernel_rfl
@[go_sem] theorem k31 : tyk Tryz.prog 31 = .scal := by kernel_rfl
@[go_sem] theorem c31 : Tryz.prog.cellsOf 31 = 1 := by kernel_rfl
@[go_sem] theorem b31 : Tryz.prog.bytesOf 31 = 8 := by kernel_rfl
@[go_sem] theorem z31 : tzO Tryz.prog 31 = some [.d .nilp] := by kernel_rfl
@[go_sem] theorem u31 : (Tryz.prog.underlying 31).isSome = true := by kernel_rfl
@[go_sem] theorem k33 : tyk Tryz.prog 33 = .struct [(0, 31), (1, 22), (2, 22)] := by kernel_rfl
@[go_sem] theorem c33 : Tryz.prog.cellsOf 33 = 3 := by kernel_rfl
@[go_sem] theorem b33 : Tryz.prog.bytesOf 33 = 16 := by kernel_rfl
@[go_sem] theorem z33 : tzO Tryz.prog 33 = some [.d .nilp, .d (.int .u32 0), .d (.int .u32 0)] := by kernel_rfl
@[go_sem] theorem u33 : (Tryz.prog.underlying 33).isSome = true := by kernel_rfl
@[go_sem] theorem k34 : tyk Tryz.prog 34 = .struct [(0, 31), (1, 22), (2, 22)] := by kernel_rfl
@[go_sem] theorem c34 : Tryz.prog.cellsOf 34 = 3 := by kernel_rfl
@[go_sem] theorem b34 : Tryz.prog.bytesOf 34 = 16 := by kernel_rfl
@[go_sem] theorem z34 : tzO Tryz.prog 34 = some [.d .nilp, .d (.int .u32 0), .d (.int .u32 0)] := by kernel_rfl
@[go_sem] theorem u34 : (Tryz.prog.underlying 34).isSome = true := by kernel_rfl
@[go_sem] theorem k35 : tyk Tryz.prog 35 = .scal := by kernel_rfl
@[go_sem] theorem c35 : Tryz.prog.cellsOf 35 = 1 := by kernel_rfl
@[go_sem] theorem b35 : Tryz.prog.bytesOf 35 = 8 := by kernel_rfl
@[go_sem] theorem z35 : tzO Tryz.prog 35 = some [.d (.int .u64 0)] := by kernel_rfl
@[go_sem] theorem i35 : ikind Tryz.prog 35 = some .u64 := by kernel_rfl
@[go_sem] theorem u35 : (Tryz.prog.underlying 35).isSome = true := by kernel_rfl
@[go_sem] theorem k39 : tyk Tryz.prog 39 = .slice 26 := by kernel_rfl
@[go_sem] theorem c39 : Tryz.prog.cellsOf 39 = 1 := by kernel_rfl
@[go_sem] theorem b39 : Tryz.prog.bytesOf 39 = 24 := by kernel_rfl
@[go_sem] theorem z39 : tzO Tryz.prog 39 = some [.nil] := by kernel_rfl
@[go_sem] theorem u39 : (Tryz.prog.underlying 39).isSome = true := by kernel_rfl
@[go_sem] theorem k41 : tyk Tryz.prog 41 = .scal := by kernel_rfl
@[go_sem] theorem c41 : Tryz.prog.cellsOf 41 = 1 := by kernel_rfl
@[go_sem] theorem b41 : Tryz.prog.bytesOf 41 = 8 := by kernel_rfl
@[go_sem] theorem z41 : tzO Tryz.prog 41 = some [.d (.int .i64 0)] := by kernel_rfl
@[go_sem] theorem i41 : ikind Tryz.prog 41 = some .i64 := by kernel_rfl
@[go_sem] theorem u41 : (Tryz.prog.underlying 41).isSome = true := by kernel_rfl
@[go_sem] theorem k49 : tyk Tryz.prog 49 = .struct [(0, 22), (1, 27), (33, 27), (65, 22), (66, 22), (67, 22)] := by kernel_rfl
@[go_sem] theorem c49 : Tryz.prog.cellsOf 49 = 68 := by kernel_rfl
@[go_sem] theorem b49 : Tryz.prog.bytesOf 49 = 80 := by kernel_rfl
@[go_sem] theorem u49 : (Tryz.prog.underlying 49).isSome = true := by kernel_rfl
@[go_sem] theorem k50 : tyk Tryz.prog 50 = .struct [(0, 22), (1, 27), (33, 27), (65, 22), (66, 22), (67, 22)] := by kernel_rfl
@[go_sem] theorem c50 : Tryz.prog.cellsOf 50 = 68 := by kernel_rfl
@[go_sem] theorem b50 : Tryz.prog.bytesOf 50 = 80 := by kernel_rfl
@[go_sem] theorem u50 : (Tryz.prog.underlying 50).isSome = true := by kernel_rfl
@[go_sem] theorem k51 : tyk Tryz.prog 51 = .struct [(0, 50), (68, 39)] := by kernel_rfl
@[go_sem] theorem c51 : Tryz.prog.cellsOf 51 = 69 := by kernel_rfl
@[go_sem] theorem b51 : Tryz.prog.bytesOf 51 = 104 := by kernel_rfl
@[go_sem] theorem u51 : (Tryz.prog.underlying 51).isSome = true := by kernel_rfl
@[go_sem] theorem k52 : tyk Tryz.prog 52 = .struct [(0, 50), (68, 39)] := by kernel_rfl
@[go_sem] theorem c52 : Tryz.prog.cellsOf 52 = 69 := by kernel_rfl
@[go_sem] theorem b52 : Tryz.prog.bytesOf 52 = 104 := by kernel_rfl
@[go_sem] theorem u52 : (Tryz.prog.underlying 52).isSome = true := by kernel_rfl
@[go_sem] theorem k53 : tyk Tryz.prog 53 = .scal := by kernel_rfl
@[go_sem] theorem c53 : Tryz.prog.cellsOf 53 = 1 := by kernel_rfl
@[go_sem] theorem b53 : Tryz.prog.bytesOf 53 = 8 := by kernel_rfl
@[go_sem] theorem z53 : tzO Tryz.prog 53 = some [.d .nilp] := by kernel_rfl
@[go_sem] theorem u53 : (Tryz.prog.underlying 53).isSome = true := by kernel_rfl
@[go_sem] theorem k63 : tyk Tryz.prog 63 = .slice 52 := by kernel_rfl
@[go_sem] theorem c63 : Tryz.prog.cellsOf 63 = 1 := by kernel_rfl
@[go_sem] theorem b63 : Tryz.prog.bytesOf 63 = 24 := by kernel_rfl
@[go_sem] theorem z63 : tzO Tryz.prog 63 = some [.nil] := by kernel_rfl
@[go_sem] theorem u63 : (Tryz.prog.underlying 63).isSome = true := by kernel_rfl
@[go_sem] theorem k67 : tyk Tryz.prog 67 = .arr 4 35 := by kernel_rfl
@[go_sem] theorem c67 : Tryz.prog.cellsOf 67 = 4 := by kernel_rfl
@[go_sem] theorem b67 : Tryz.prog.bytesOf 67 = 32 := by kernel_rfl
@[go_sem] theorem z67 : tzO Tryz.prog 67 = some [.d (.int .u64 0), .d (.int .u64 0), .d (.int .u64 0), .d (.int .u64 0)] := by kernel_rfl
@[go_sem] theorem u67 : (Tryz.prog.underlying 67).isSome = true := by kernel_rfl
@[go_sem] theorem k68 : tyk Tryz.prog 68 = .arr 4 35 := by kernel_rfl
@[go_sem] theorem c68 : Tryz.prog.cellsOf 68 = 4 := by kernel_rfl
@[go_sem] theorem b68 : Tryz.prog.bytesOf 68 = 32 := by kernel_rfl
@[go_sem] theorem z68 : tzO Tryz.prog 68 = some [.d (.int .u64 0), .d (.int .u64 0), .d (.int .u64 0), .d (.int .u64 0)] := by kernel_rfl
@[go_sem] theorem u68 : (Tryz.prog.underlying 68).isSome = true := by kernel_rfl
@[go_sem] theorem k73 : tyk Tryz.prog 73 = .slice 5 := by kernel_rfl
@[go_sem] theorem c73 : Tryz.prog.cellsOf 73 = 1 := by kernel_rfl
@[go_sem] theorem b73 : Tryz.prog.bytesOf 73 = 24 := by kernel_rfl
@[go_sem] theorem z73 : tzO Tryz.prog 73 = some [.nil] := by kernel_rfl
@[go_sem] theorem u73 : (Tryz.prog.underlying 73).isSome = true := by kernel_rfl
@[go_sem] theorem k74 : tyk Tryz.prog 74 = .struct [(0, 35), (1, 73)] := by kernel_rfl
@[go_sem] theorem c74 : Tryz.prog.cellsOf 74 = 2 := by kernel_rfl
@[go_sem] theorem b74 : Tryz.prog.bytesOf 74 = 32 := by kernel_rfl
@[go_sem] theorem z74 : tzO Tryz.prog 74 = some [.d (.int .u64 0), .nil] := by kernel_rfl
@[go_sem] theorem u74 : (Tryz.prog.underlying 74).isSome = true := by kernel_rfl
@[go_sem] theorem k75 : tyk Tryz.prog 75 = .struct [(0, 35), (1, 73)] := by kernel_rfl
@[go_sem] theorem c75 : Tryz.prog.cellsOf 75 = 2 := by kernel_rfl
@[go_sem] theorem b75 : Tryz.prog.bytesOf 75 = 32 := by kernel_rfl
@[go_sem] theorem z75 : tzO Tryz.prog 75 = some [.d (.int .u64 0), .nil] := by kernel_rfl
@[go_sem] theorem u75 : (Tryz.prog.underlying 75).isSome = true := by kernel_rfl
@[go_sem] theorem k76 : tyk Tryz.prog 76 = .struct [(0, 27), (32, 22)] := by kernel_rfl
@[go_sem] theorem c76 : Tryz.prog.cellsOf 76 = 33 := by kernel_rfl
@[go_sem] theorem b76 : Tryz.prog.bytesOf 76 = 36 := by kernel_rfl
@[go_sem] theorem u76 : (Tryz.prog.underlying 76).isSome = true := by kernel_rfl
@[go_sem] theorem k77 : tyk Tryz.prog 77 = .struct [(0, 27), (32, 22)] := by kernel_rfl
@[go_sem] theorem c77 : Tryz.prog.cellsOf 77 = 33 := by kernel_rfl
@[go_sem] theorem b77 : Tryz.prog.bytesOf 77 = 36 := by kernel_rfl
@[go_sem] theorem u77 : (Tryz.prog.underlying 77).isSome = true := by kernel_rfl
@[go_sem] theorem k78 : tyk Tryz.prog 78 = .slice 73 := by kernel_rfl
@[go_sem] theorem c78 : Tryz.prog.cellsOf 78 = 1 := by kernel_rfl
@[go_sem] theorem b78 : Tryz.prog.bytesOf 78 = 24 := by kernel_rfl
@[go_sem] theorem z78 : tzO Tryz.prog 78 = some [.nil] := by kernel_rfl
@[go_sem] theorem u78 : (Tryz.prog.underlying 78).isSome = true := by kernel_rfl
@[go_sem] theorem k79 : tyk Tryz.prog 79 = .struct [(0, 77), (33, 22), (34, 78)] := by kernel_rfl
@[go_sem] theorem c79 : Tryz.prog.cellsOf 79 = 35 := by kernel_rfl
@[go_sem] theorem b79 : Tryz.prog.bytesOf 79 = 64 := by kernel_rfl
@[go_sem] theorem u79 : (Tryz.prog.underlying 79).isSome = true := by kernel_rfl
@[go_sem] theorem k80 : tyk Tryz.prog 80 = .struct [(0, 77), (33, 22), (34, 78)] := by kernel_rfl
@[go_sem] theorem c80 : Tryz.prog.cellsOf 80 = 35 := by kernel_rfl
@[go_sem] theorem b80 : Tryz.prog.bytesOf 80 = 64 := by kernel_rfl
@[go_sem] theorem u80 : (Tryz.prog.underlying 80).isSome = true := by kernel_rfl
@[go_sem] theorem k81 : tyk Tryz.prog 81 = .slice 206 := by kernel_rfl
@[go_sem] theorem c81 : Tryz.prog.cellsOf 81 = 1 := by kernel_rfl
@[go_sem] theorem b81 : Tryz.prog.bytesOf 81 = 24 := by kernel_rfl
@[go_sem] theorem z81 : tzO Tryz.prog 81 = some [.nil] := by kernel_rfl
@[go_sem] theorem u81 : (Tryz.prog.underlying 81).isSome = true := by kernel_rfl
@[go_sem] theorem k82 : tyk Tryz.prog 82 = .struct [(0, 81)] := by kernel_rfl
@[go_sem] theorem c82 : Tryz.prog.cellsOf 82 = 1 := by kernel_rfl
@[go_sem] theorem b82 : Tryz.prog.bytesOf 82 = 24 := by kernel_rfl
@[go_sem] theorem z82 : tzO Tryz.prog 82 = some [.nil] := by kernel_rfl
@[go_sem] theorem u82 : (Tryz.prog.underlying 82).isSome = true := by kernel_rfl
@[go_sem] theorem k83 : tyk Tryz.prog 83 = .struct [(0, 81)] := by kernel_rfl
@[go_sem] theorem c83 : Tryz.prog.cellsOf 83 = 1 := by kernel_rfl
@[go_sem] theorem b83 : Tryz.prog.bytesOf 83 = 24 := by kernel_rfl
@[go_sem] theorem z83 : tzO Tryz.prog 83 = some [.nil] := by kernel_rfl
@[go_sem] theorem u83 : (Tryz.prog.underlying 83).isSome = true := by kernel_rfl
@[go_sem] theorem k84 : tyk Tryz.prog 84 = .slice 88 := by kernel_rfl
@[go_sem] theorem c84 : Tryz.prog.cellsOf 84 = 1 := by kernel_rfl
@[go_sem] theorem b84 : Tryz.prog.bytesOf 84 = 24 := by kernel_rfl
@[go_sem] theorem z84 : tzO Tryz.prog 84 = some [.nil] := by kernel_rfl
@[go_sem] theorem u84 : (Tryz.prog.underlying 84).isSome = true := by kernel_rfl
@[go_sem] theorem k85 : tyk Tryz.prog 85 = .struct [(0, 84)] := by kernel_rfl
@[go_sem] theorem c85 : Tryz.prog.cellsOf 85 = 1 := by kernel_rfl
@[go_sem] theorem b85 : Tryz.prog.bytesOf 85 = 24 := by kernel_rfl
@[go_sem] theorem z85 : tzO Tryz.prog 85 = some [.nil] := by kernel_rfl
@[go_sem] theorem u85 : (Tryz.prog.underlying 85).isSome = true := by kernel_rfl
@[go_sem] theorem k86 : tyk Tryz.prog 86 = .struct [(0, 84)] := by kernel_rfl
@[go_sem] theorem c86 : Tryz.prog.cellsOf 86 = 1 := by kernel_rfl
@[go_sem] theorem b86 : Tryz.prog.bytesOf 86 = 24 := by kernel_rfl
@[go_sem] theorem z86 : tzO Tryz.prog 86 = some [.nil] := by kernel_rfl
@[go_sem] theorem u86 : (Tryz.prog.underlying 86).isSome = true := by kernel_rfl
@[go_sem] theorem k87 : tyk Tryz.prog 87 = .struct [(0, 26), (4, 27), (36, 35), (37, 3)] := by kernel_rfl
@[go_sem] theorem c87 : Tryz.prog.cellsOf 87 = 38 := by kernel_rfl
@[go_sem] theorem b87 : Tryz.prog.bytesOf 87 = 112 := by kernel_rfl
@[go_sem] theorem u87 : (Tryz.prog.underlying 87).isSome = true := by kernel_rfl
@[go_sem] theorem k88 : tyk Tryz.prog 88 = .struct [(0, 26), (4, 27), (36, 35), (37, 3)] := by kernel_rfl
@[go_sem] theorem c88 : Tryz.prog.cellsOf 88 = 38 := by kernel_rfl
@[go_sem] theorem b88 : Tryz.prog.bytesOf 88 = 112 := by kernel_rfl
@[go_sem] theorem u88 : (Tryz.prog.underlying 88).isSome = true := by kernel_rfl
@[go_sem] theorem k95 : tyk Tryz.prog 95 = .slice 4 := by kernel_rfl
@[go_sem] theorem c95 : Tryz.prog.cellsOf 95 = 1 := by kernel_rfl
@[go_sem] theorem b95 : Tryz.prog.bytesOf 95 = 24 := by kernel_rfl
@[go_sem] theorem z95 : tzO Tryz.prog 95 = some [.nil] := by kernel_rfl
@[go_sem] theorem u95 : (Tryz.prog.underlying 95).isSome = true := by kernel_rfl
@[go_sem] theorem k103 : tyk Tryz.prog 103 = .slice 107 := by kernel_rfl
@[go_sem] theorem c103 : Tryz.prog.cellsOf 103 = 1 := by kernel_rfl
@[go_sem] theorem b103 : Tryz.prog.bytesOf 103 = 24 := by kernel_rfl
@[go_sem] theorem z103 : tzO Tryz.prog 103 = some [.nil] := by kernel_rfl
@[go_sem] theorem u103 : (Tryz.prog.underlying 103).isSome = true := by kernel_rfl
@[go_sem] theorem k104 : tyk Tryz.prog 104 = .struct [(0, 103), (1, 63), (2, 3), (3, 31)] := by kernel_rfl
@[go_sem] theorem c104 : Tryz.prog.cellsOf 104 = 4 := by kernel_rfl
@[go_sem] theorem b104 : Tryz.prog.bytesOf 104 = 64 := by kernel_rfl
@[go_sem] theorem z104 : tzO Tryz.prog 104 = some [.nil, .nil, .d (.int .i64 0), .d .nilp] := by kernel_rfl
@[go_sem] theorem u104 : (Tryz.prog.underlying 104).isSome = true := by kernel_rfl
@[go_sem] theorem k105 : tyk Tryz.prog 105 = .struct [(0, 103), (1, 63), (2, 3), (3, 31)] := by kernel_rfl
@[go_sem] theorem c105 : Tryz.prog.cellsOf 105 = 4 := by kernel_rfl
@[go_sem] theorem b105 : Tryz.prog.bytesOf 105 = 64 := by kernel_rfl
@[go_sem] theorem z105 : tzO Tryz.prog 105 = some [.nil, .nil, .d (.int .i64 0), .d .nilp] := by kernel_rfl
@[go_sem] theorem u105 : (Tryz.prog.underlying 105).isSome = true := by kernel_rfl
@[go_sem] theorem k106 : tyk Tryz.prog 106 = .struct [(0, 52), (69, 27), (101, 3), (102, 22), (103, 68), (107, 81)] := by kernel_rfl
@[go_sem] theorem c106 : Tryz.prog.cellsOf 106 = 108 := by kernel_rfl
@[go_sem] theorem b106 : Tryz.prog.bytesOf 106 = 208 := by kernel_rfl
@[go_sem] theorem u106 : (Tryz.prog.underlying 106).isSome = true := by kernel_rfl
@[go_sem] theorem k107 : tyk Tryz.prog 107 = .struct [(0, 52), (69, 27), (101, 3), (102, 22), (103, 68), (107, 81)] := by kernel_rfl
@[go_sem] theorem c107 : Tryz.prog.cellsOf 107 = 108 := by kernel_rfl
@[go_sem] theorem b107 : Tryz.prog.bytesOf 107 = 208 := by kernel_rfl
@[go_sem] theorem u107 : (Tryz.prog.underlying 107).isSome = true := by kernel_rfl
@[go_sem] theorem k112 : tyk Tryz.prog 112 = .slice 3 := by kernel_rfl
@[go_sem] theorem c112 : Tryz.prog.cellsOf 112 = 1 := by kernel_rfl
@[go_sem] theorem b112 : Tryz.prog.bytesOf 112 = 24 := by kernel_rfl
@[go_sem] theorem z112 : tzO Tryz.prog 112 = some [.nil] := by kernel_rfl
@[go_sem] theorem u112 : (Tryz.prog.underlying 112).isSome = true := by kernel_rfl
@[go_sem] theorem k148 : tyk Tryz.prog 148 = .slice 22 := by kernel_rfl
@[go_sem] theorem c148 : Tryz.prog.cellsOf 148 = 1 := by kernel_rfl
@[go_sem] theorem b148 : Tryz.prog.bytesOf 148 = 24 := by kernel_rfl
@[go_sem] theorem z148 : tzO Tryz.prog 148 = some [.nil] := by kernel_rfl
@[go_sem] theorem u148 : (Tryz.prog.underlying 148).isSome = true := by kernel_rfl
@[go_sem] theorem k169 : tyk Tryz.prog 169 = .struct [(0, 112), (1, 35), (2, 3)] := by kernel_rfl
@[go_sem] theorem c169 : Tryz.prog.cellsOf 169 = 3 := by kernel_rfl
@[go_sem] theorem b169 : Tryz.prog.bytesOf 169 = 40 := by kernel_rfl
@[go_sem] theorem z169 : tzO Tryz.prog 169 = some [.nil, .d (.int .u64 0), .d (.int .i64 0)] := by kernel_rfl
@[go_sem] theorem u169 : (Tryz.prog.underlying 169).isSome = true := by kernel_rfl
@[go_sem] theorem k170 : tyk Tryz.prog 170 = .struct [(0, 112), (1, 35), (2, 3)] := by kernel_rfl
@[go_sem] theorem c170 : Tryz.prog.cellsOf 170 = 3 := by kernel_rfl
@[go_sem] theorem b170 : Tryz.prog.bytesOf 170 = 40 := by kernel_rfl
@[go_sem] theorem z170 : tzO Tryz.prog 170 = some [.nil, .d (.int .u64 0), .d (.int .i64 0)] := by kernel_rfl
@[go_sem] theorem u170 : (Tryz.prog.underlying 170).isSome = true := by kernel_rfl
@[go_sem] theorem k205 : tyk Tryz.prog 205 = .struct [(0, 77), (33, 75), (35, 22), (36, 4)] := by kernel_rfl
@[go_sem] theorem c205 : Tryz.prog.cellsOf 205 = 37 := by kernel_rfl
@[go_sem] theorem b205 : Tryz.prog.bytesOf 205 = 80 := by kernel_rfl
@[go_sem] theorem u205 : (Tryz.prog.underlying 205).isSome = true := by kernel_rfl
@[go_sem] theorem k206 : tyk Tryz.prog 206 = .struct [(0, 77), (33, 75), (35, 22), (36, 4)] := by kernel_rfl
@[go_sem] theorem c206 : Tryz.prog.cellsOf 206 = 37 := by kernel_rfl
@[go_sem] theorem b206 : Tryz.prog.bytesOf 206 = 80 := by kernel_rfl
@[go_sem] theorem u206 : (Tryz.prog.underlying 206).isSome = true := by kernel_rfl
@[go_sem] theorem k224 : tyk Tryz.prog 224 = .scal := by kernel_rfl
@[go_sem] theorem c224 : Tryz.prog.cellsOf 224 = 1 := by kernel_rfl
@[go_sem] theorem b224 : Tryz.prog.bytesOf 224 = 8 := by kernel_rfl
@[go_sem] theorem z224 : tzO Tryz.prog 224 = some [.d .nilp] := by kernel_rfl
@[go_sem] theorem u224 : (Tryz.prog.underlying 224).isSome = true := by kernel_rfl
@[go_sem] theorem k225 : tyk Tryz.prog 225 = .slice 170 := by kernel_rfl
@[go_sem] theorem c225 : Tryz.prog.cellsOf 225 = 1 := by kernel_rfl
@[go_sem] theorem b225 : Tryz.prog.bytesOf 225 = 24 := by kernel_rfl
@[go_sem] theorem z225 : tzO Tryz.prog 225 = some [.nil] := by kernel_rfl
@[go_sem] theorem u225 : (Tryz.prog.underlying 225).isSome = true := by kernel_rfl
@[go_sem] theorem k226 : tyk Tryz.prog 226 = .slice 170 := by kernel_rfl
@[go_sem] theorem c226 : Tryz.prog.cellsOf 226 = 1 := by kernel_rfl
@[go_sem] theorem b226 : Tryz.prog.bytesOf 226 = 24 := by kernel_rfl
@[go_sem] theorem z226 : tzO Tryz.prog 226 = some [.nil] := by kernel_rfl
@[go_sem] theorem u226 : (Tryz.prog.underlying 226).isSome = true := by kernel_rfl
@[go_sem] theorem k231 : tyk Tryz.prog 231 = .scal := by kernel_rfl
@[go_sem] theorem c231 : Tryz.prog.cellsOf 231 = 1 := by kernel_rfl
@[go_sem] theorem b231 : Tryz.prog.bytesOf 231 = 8 := by kernel_rfl
@[go_sem] theorem z231 : tzO Tryz.prog 231 = some [.d .nilp] := by kernel_rfl
@[go_sem] theorem u231 : (Tryz.prog.underlying 231).isSome = true := by kernel_rfl
@[go_sem] theorem k232 : tyk Tryz.prog 232 = .struct [(0, 73), (1, 41)] := by kernel_rfl
@[go_sem] theorem c232 : Tryz.prog.cellsOf 232 = 2 := by kernel_rfl
@[go_sem] theorem b232 : Tryz.prog.bytesOf 232 = 32 := by kernel_rfl
@[go_sem] theorem z232 : tzO Tryz.prog 232 = some [.nil, .d (.int .i64 0)] := by kernel_rfl
@[go_sem] theorem u232 : (Tryz.prog.underlying 232).isSome = true := by kernel_rfl
@[go_sem] theorem k233 : tyk Tryz.prog 233 = .struct [(0, 73), (1, 41)] := by kernel_rfl
@[go_sem] theorem c233 : Tryz.prog.cellsOf 233 = 2 := by kernel_rfl
@[go_sem] theorem b233 : Tryz.prog.bytesOf 233 = 32 := by kernel_rfl
@[go_sem] theorem z233 : tzO Tryz.prog 233 = some [.nil, .d (.int .i64 0)] := by kernel_rfl
@[go_sem] theorem u233 : (Tryz.prog.underlying 233).isSome = true := by kernel_rfl
@[go_sem] theorem k238 : tyk Tryz.prog 238 = .scal := by kernel_rfl
@[go_sem] theorem c238 : Tryz.prog.cellsOf 238 = 1 := by kernel_rfl
@[go_sem] theorem b238 : Tryz.prog.bytesOf 238 = 2 := by kernel_rfl
@[go_sem] theorem z238 : tzO Tryz.prog 238 = some [.d (.int .u16 0)] := by kernel_rfl
@[go_sem] theorem i238 : ikind Tryz.prog 238 = some .u16 := by kernel_rfl
@[go_sem] theorem u238 : (Tryz.prog.underlying 238).isSome = true := by kernel_rfl
@[go_sem] theorem k242 : tyk Tryz.prog 242 = .scal := by kernel_rfl
@[go_sem] theorem c242 : Tryz.prog.cellsOf 242 = 1 := by kernel_rfl
@[go_sem] theorem b242 : Tryz.prog.bytesOf 242 = 8 := by kernel_rfl
@[go_sem] theorem z242 : tzO Tryz.prog 242 = some [.d (.int .u64 0)] := by kernel_rfl
@[go_sem] theorem i242 : ikind Tryz.prog 242 = some .u64 := by kernel_rfl
@[go_sem] theorem u242 : (Tryz.prog.underlying 242).isSome = true := by kernel_rfl
@[go_sem] theorem k249 : tyk Tryz.prog 249 = .arr 8 35 := by kernel_rfl
@[go_sem] theorem c249 : Tryz.prog.cellsOf 249 = 8 := by kernel_rfl
@[go_sem] theorem b249 : Tryz.prog.bytesOf 249 = 64 := by kernel_rfl
@[go_sem] theorem z249 : tzO Tryz.prog 249 = some [.d (.int .u64 0), .d (.int .u64 0), .d (.int .u64 0), .d (.int .u64 0), .d (.int .u64 0), .d (.int .u64 0), .d (.int .u64 0), .d (.int .u64 0)] := by kernel_rfl
@[go_sem] theorem u249 : (Tryz.prog.underlying 249).isSome = true := by kernel_rfl
@[go_sem] theorem k251 : tyk Tryz.prog 251 = .slice 35 := by kernel_rfl
@[go_sem] theorem c251 : Tryz.prog.cellsOf 251 = 1 := by kernel_rfl
@[go_sem] theorem b251 : Tryz.prog.bytesOf 251 = 24 := by kernel_rfl
@[go_sem] theorem z251 : tzO Tryz.prog 251 = some [.nil] := by kernel_rfl
@[go_sem] theorem u251 : (Tryz.prog.underlying 251).isSome = true := by kernel_rfl
@[go_sem] theorem k254 : tyk Tryz.prog 254 = .slice 27 := by kernel_rfl
@[go_sem] theorem c254 : Tryz.prog.cellsOf 254 = 1 := by kernel_rfl
@[go_sem] theorem b254 : Tryz.prog.bytesOf 254 = 24 := by kernel_rfl
@[go_sem] theorem z254 : tzO Tryz.prog 254 = some [.nil] := by kernel_rfl
@[go_sem] theorem u254 : (Tryz.prog.underlying 254).isSome = true := by kernel_rfl
@[go_sem] theorem k265 : tyk Tryz.prog 265 = .scal := by kernel_rfl
@[go_sem] theorem c265 : Tryz.prog.cellsOf 265 = 1 := by kernel_rfl
@[go_sem] theorem b265 : Tryz.prog.bytesOf 265 = 8 := by kernel_rfl
@[go_sem] theorem z265 : tzO Tryz.prog 265 = some [.d .nilp] := by kernel_rfl
@[go_sem] theorem u265 : (Tryz.prog.underlying 265).isSome = true := by kernel_rfl
@[go_sem] theorem k276 : tyk Tryz.prog 276 = .slice 332 := by kernel_rfl
@[go_sem] theorem c276 : Tryz.prog.cellsOf 276 = 1 := by kernel_rfl
@[go_sem] theorem b276 : Tryz.prog.bytesOf 276 = 24 := by kernel_rfl
@[go_sem] theorem z276 : tzO Tryz.prog 276 = some [.nil] := by kernel_rfl
@[go_sem] theorem u276 : (Tryz.prog.underlying 276).isSome = true := by kernel_rfl
@[go_sem] theorem k301 : tyk Tryz.prog 301 = .scal := by kernel_rfl
@[go_sem] theorem c301 : Tryz.prog.cellsOf 301 = 1 := by kernel_rfl
@[go_sem] theorem b301 : Tryz.prog.bytesOf 301 = 8 := by kernel_rfl
@[go_sem] theorem z301 : tzO Tryz.prog 301 = some [.d (.int .i64 0)] := by kernel_rfl
@[go_sem] theorem i301 : ikind Tryz.prog 301 = some .i64 := by kernel_rfl
@[go_sem] theorem u301 : (Tryz.prog.underlying 301).isSome = true := by kernel_rfl
@[go_sem] theorem k313 : tyk Tryz.prog 313 = .slice 77 := by kernel_rfl
@[go_sem] theorem c313 : Tryz.prog.cellsOf 313 = 1 := by kernel_rfl
@[go_sem] theorem b313 : Tryz.prog.bytesOf 313 = 24 := by kernel_rfl
@[go_sem] theorem z313 : tzO Tryz.prog 313 = some [.nil] := by kernel_rfl
@[go_sem] theorem u313 : (Tryz.prog.underlying 313).isSome = true := by kernel_rfl
@[go_sem] theorem k318 : tyk Tryz.prog 318 = .arr 8 22 := by kernel_rfl
@[go_sem] theorem c318 : Tryz.prog.cellsOf 318 = 8 := by kernel_rfl
@[go_sem] theorem b318 : Tryz.prog.bytesOf 318 = 32 := by kernel_rfl
@[go_sem] theorem z318 : tzO Tryz.prog 318 = some [.d (.int .u32 0), .d (.int .u32 0), .d (.int .u32 0), .d (.int .u32 0), .d (.int .u32 0), .d (.int .u32 0), .d (.int .u32 0), .d (.int .u32 0)] := by kernel_rfl
@[go_sem] theorem u318 : (Tryz.prog.underlying 318).isSome = true := by kernel_rfl
@[go_sem] theorem k319 : tyk Tryz.prog 319 = .arr 8 22 := by kernel_rfl
@[go_sem] theorem c319 : Tryz.prog.cellsOf 319 = 8 := by kernel_rfl
@[go_sem] theorem b319 : Tryz.prog.bytesOf 319 = 32 := by kernel_rfl
@[go_sem] theorem z319 : tzO Tryz.prog 319 = some [.d (.int .u32 0), .d (.int .u32 0), .d (.int .u32 0), .d (.int .u32 0), .d (.int .u32 0), .d (.int .u32 0), .d (.int .u32 0), .d (.int .u32 0)] := by kernel_rfl
@[go_sem] theorem u319 : (Tryz.prog.underlying 319).isSome = true := by kernel_rfl
@[go_sem] theorem k321 : tyk Tryz.prog 321 = .struct [(0, 319), (8, 73), (9, 35)] := by kernel_rfl
@[go_sem] theorem c321 : Tryz.prog.cellsOf 321 = 10 := by kernel_rfl
@[go_sem] theorem b321 : Tryz.prog.bytesOf 321 = 64 := by kernel_rfl
@[go_sem] theorem z321 : tzO Tryz.prog 321 = some [.d (.int .u32 0), .d (.int .u32 0), .d (.int .u32 0), .d (.int .u32 0), .d (.int .u32 0), .d (.int .u32 0), .d (.int .u32 0), .d (.int .u32 0), .nil, .d (.int .u64 0)] := by kernel_rfl
@[go_sem] theorem u321 : (Tryz.prog.underlying 321).isSome = true := by kernel_rfl
@[go_sem] theorem k322 : tyk Tryz.prog 322 = .struct [(0, 319), (8, 73), (9, 35)] := by kernel_rfl
@[go_sem] theorem c322 : Tryz.prog.cellsOf 322 = 10 := by kernel_rfl
@[go_sem] theorem b322 : Tryz.prog.bytesOf 322 = 64 := by kernel_rfl
@[go_sem] theorem z322 : tzO Tryz.prog 322 = some [.d (.int .u32 0), .d (.int .u32 0), .d (.int .u32 0), .d (.int .u32 0), .d (.int .u32 0), .d (.int .u32 0), .d (.int .u32 0), .d (.int .u32 0), .nil, .d (.int .u64 0)] := by kernel_rfl
@[go_sem] theorem u322 : (Tryz.prog.underlying 322).isSome = true := by kernel_rfl
@[go_sem] theorem k327 : tyk Tryz.prog 327 = .struct [(0, 26), (4, 3), (5, 24)] := by kernel_rfl
@[go_sem] theorem c327 : Tryz.prog.cellsOf 327 = 6 := by kernel_rfl
@[go_sem] theorem b327 : Tryz.prog.bytesOf 327 = 96 := by kernel_rfl
@[go_sem] theorem z327 : tzO Tryz.prog 327 = some [.d (.int .u32 0), .nil, .nil, .d (.int .u32 0), .d (.int .i64 0), .nil] := by kernel_rfl
@[go_sem] theorem u327 : (Tryz.prog.underlying 327).isSome = true := by kernel_rfl
@[go_sem] theorem k328 : tyk Tryz.prog 328 = .struct [(0, 26), (4, 3), (5, 24)] := by kernel_rfl
@[go_sem] theorem c328 : Tryz.prog.cellsOf 328 = 6 := by kernel_rfl
@[go_sem] theorem b328 : Tryz.prog.bytesOf 328 = 96 := by kernel_rfl
@[go_sem] theorem z328 : tzO Tryz.prog 328 = some [.d (.int .u32 0), .nil, .nil, .d (.int .u32 0), .d (.int .i64 0), .nil] := by kernel_rfl
@[go_sem] theorem u328 : (Tryz.prog.underlying 328).isSome = true := by kernel_rfl
@[go_sem] theorem k331 : tyk Tryz.prog 331 = .struct [(0, 3), (1, 35)] := by kernel_rfl
@[go_sem] theorem c331 : Tryz.prog.cellsOf 331 = 2 := by kernel_rfl
@[go_sem] theorem b331 : Tryz.prog.bytesOf 331 = 16 := by kernel_rfl
@[go_sem] theorem z331 : tzO Tryz.prog 331 = some [.d (.int .i64 0), .d (.int .u64 0)] := by kernel_rfl
@[go_sem] theorem u331 : (Tryz.prog.underlying 331).isSome = true := by kernel_rfl
@[go_sem] theorem k332 : tyk Tryz.prog 332 = .struct [(0, 3), (1, 35)] := by kernel_rfl
@[go_sem] theorem c332 : Tryz.prog.cellsOf 332 = 2 := by kernel_rfl
@[go_sem] theorem b332 : Tryz.prog.bytesOf 332 = 16 := by kernel_rfl
@[go_sem] theorem z332 : tzO Tryz.prog 332 = some [.d (.int .i64 0), .d (.int .u64 0)] := by kernel_rfl
@[go_sem] theorem u332 : (Tryz.prog.underlying 332).isSome = true := by kernel_rfl
@[go_sem] theorem k339 : tyk Tryz.prog 339 = .scal := by kernel_rfl
@[go_sem] theorem c339 : Tryz.prog.cellsOf 339 = 1 := by kernel_rfl
@[go_sem] theorem b339 : Tryz.prog.bytesOf 339 = 8 := by kernel_rfl
@[go_sem] theorem z339 : tzO Tryz.prog 339 = some [.d (.int .u64 0)] := by kernel_rfl
@[go_sem] theorem i339 : ikind Tryz.prog 339 = some .u64 := by kernel_rfl
@[go_sem] theorem u339 : (Tryz.prog.underlying 339).isSome = true := by kernel_rfl
@[go_sem] theorem k342 : tyk Tryz.prog 342 = .scal := by kernel_rfl
@[go_sem] theorem c342 : Tryz.prog.cellsOf 342 = 1 := by kernel_rfl
@[go_sem] theorem b342 : Tryz.prog.bytesOf 342 = 8 := by kernel_rfl
@[go_sem] theorem z342 : tzO Tryz.prog 342 = some [.d .nilp] := by kernel_rfl
@[go_sem] theorem u342 : (Tryz.prog.underlying 342).isSome = true := by kernel_rfl
@[go_sem] theorem k353 : tyk Tryz.prog 353 = .scal := by kernel_rfl
@[go_sem] theorem c353 : Tryz.prog.cellsOf 353 = 1 := by kernel_rfl
@[go_sem] theorem b353 : Tryz.prog.bytesOf 353 = 8 := by kernel_rfl
@[go_sem] theorem z353 : tzO Tryz.prog 353 = some [.d .nilp] := by kernel_rfl
@[go_sem] theorem u353 : (Tryz.prog.underlying 353).isSome = true := by kernel_rfl
@[go_sem] theorem k354 : tyk Tryz.prog 354 = .arr 64 22 := by kernel_rfl
@[go_sem] theorem c354 : Tryz.prog.cellsOf 354 = 64 := by kernel_rfl
@[go_sem] theorem b354 : Tryz.prog.bytesOf 354 = 256 := by kernel_rfl
@[go_sem] theorem u354 : (Tryz.prog.underlying 354).isSome = true := by kernel_rfl
@[go_sem] theorem k366 : tyk Tryz.prog 366 = .scal := by kernel_rfl
@[go_sem] theorem c366 : Tryz.prog.cellsOf 366 = 1 := by kernel_rfl
@[go_sem] theorem b366 : Tryz.prog.bytesOf 366 = 8 := by kernel_rfl
@[go_sem] theorem z366 : tzO Tryz.prog 366 = some [.d .nilp] := by kernel_rfl
@[go_sem] theorem u366 : (Tryz.prog.underlying 366).isSome = true := by kernel_rfl
@[go_sem] theorem k369 : tyk Tryz.prog 369 = .arr 64 5 := by kernel_rfl
@[go_sem] theorem c369 : Tryz.prog.cellsOf 369 = 64 := by kernel_rfl
@[go_sem] theorem b369 : Tryz.prog.bytesOf 369 = 64 := by kernel_rfl
@[go_sem] theorem u369 : (Tryz.prog.underlying 369).isSome = true := by kernel_rfl
@[go_sem] theorem k379 : tyk Tryz.prog 379 = .struct [(0, 27), (32, 254), (33, 73)] := by kernel_rfl
@[go_sem] theorem c379 : Tryz.prog.cellsOf 379 = 34 := by kernel_rfl
@[go_sem] theorem b379 : Tryz.prog.bytesOf 379 = 80 := by kernel_rfl
@[go_sem] theorem u379 : (Tryz.prog.underlying 379).isSome = true := by kernel_rfl
@[go_sem] theorem k380 : tyk Tryz.prog 380 = .struct [(0, 27), (32, 254), (33, 73)] := by kernel_rfl
@[go_sem] theorem c380 : Tryz.prog.cellsOf 380 = 34 := by kernel_rfl
@[go_sem] theorem b380 : Tryz.prog.bytesOf 380 = 80 := by kernel_rfl
@[go_sem] theorem u380 : (Tryz.prog.underlying 380).isSome = true := by kernel_rfl
@[go_sem] theorem k392 : tyk Tryz.prog 392 = .scal := by kernel_rfl
@[go_sem] theorem c392 : Tryz.prog.cellsOf 392 = 1 := by kernel_rfl
@[go_sem] theorem b392 : Tryz.prog.bytesOf 392 = 8 := by kernel_rfl
@[go_sem] theorem z392 : tzO Tryz.prog 392 = some [.d .nilp] := by kernel_rfl
@[go_sem] theorem u392 : (Tryz.prog.underlying 392).isSome = true := by kernel_rfl
@[go_sem] theorem k393 : tyk Tryz.prog 393 = .struct [(0, 78), (1, 78)] := by kernel_rfl
@[go_sem] theorem c393 : Tryz.prog.cellsOf 393 = 2 := by kernel_rfl
@[go_sem] theorem b393 : Tryz.prog.bytesOf 393 = 48 := by kernel_rfl
@[go_sem] theorem z393 : tzO Tryz.prog 393 = some [.nil, .nil] := by kernel_rfl
@[go_sem] theorem u393 : (Tryz.prog.underlying 393).isSome = true := by kernel_rfl
@[go_sem] theorem k394 : tyk Tryz.prog 394 = .struct [(0, 78), (1, 78)] := by kernel_rfl
@[go_sem] theorem c394 : Tryz.prog.cellsOf 394 = 2 := by kernel_rfl
@[go_sem] theorem b394 : Tryz.prog.bytesOf 394 = 48 := by kernel_rfl
@[go_sem] theorem z394 : tzO Tryz.prog 394 = some [.nil, .nil] := by kernel_rfl
@[go_sem] theorem u394 : (Tryz.prog.underlying 394).isSome = true := by kernel_rfl
@[go_sem] theorem k395 : tyk Tryz.prog 395 = .struct [(0, 328), (6, 380), (40, 73), (41, 394), (43, 95), (44, 3), (45, 3), (46, 276), (47, 41)] := by kernel_rfl
@[go_sem] theorem c395 : Tryz.prog.cellsOf 395 = 48 := by kernel_rfl
@[go_sem] theorem b395 : Tryz.prog.bytesOf 395 = 320 := by kernel_rfl
@[go_sem] theorem u395 : (Tryz.prog.underlying 395).isSome = true := by kernel_rfl
@[go_sem] theorem k396 : tyk Tryz.prog 396 = .struct [(0, 328), (6, 380), (40, 73), (41, 394), (43, 95), (44, 3), (45, 3), (46, 276), (47, 41)] := by kernel_rfl
@[go_sem] theorem c396 : Tryz.prog.cellsOf 396 = 48 := by kernel_rfl
@[go_sem] theorem b396 : Tryz.prog.bytesOf 396 = 320 := by kernel_rfl
@[go_sem] theorem u396 : (Tryz.prog.underlying 396).isSome = true := by kernel_rfl
@[go_sem] theorem k400 : tyk Tryz.prog 400 = .arr 3 27 := by kernel_rfl
@[go_sem] theorem c400 : Tryz.prog.cellsOf 400 = 96 := by kernel_rfl
@[go_sem] theorem b400 : Tryz.prog.bytesOf 400 = 96 := by kernel_rfl
@[go_sem] theorem u400 : (Tryz.prog.underlying 400).isSome = true := by kernel_rfl
@[go_sem] theorem k404 : tyk Tryz.prog 404 = .arr 5 27 := by kernel_rfl
@[go_sem] theorem c404 : Tryz.prog.cellsOf 404 = 160 := by kernel_rfl
@[go_sem] theorem b404 : Tryz.prog.bytesOf 404 = 160 := by kernel_rfl
@[go_sem] theorem u404 : (Tryz.prog.underlying 404).isSome = true := by kernel_rfl
@[go_sem] theorem k406 : tyk Tryz.prog 406 = .struct [(0, 68), (4, 68), (8, 4)] := by kernel_rfl
@[go_sem] theorem c406 : Tryz.prog.cellsOf 406 = 9 := by kernel_rfl
@[go_sem] theorem b406 : Tryz.prog.bytesOf 406 = 72 := by kernel_rfl
@[go_sem] theorem z406 : tzO Tryz.prog 406 = some [.d (.int .u64 0), .d (.int .u64 0), .d (.int .u64 0), .d (.int .u64 0), .d (.int .u64 0), .d (.int .u64 0), .d (.int .u64 0), .d (.int .u64 0), .d (.bool false)] := by kernel_rfl
@[go_sem] theorem u406 : (Tryz.prog.underlying 406).isSome = true := by kernel_rfl
@[go_sem] theorem k407 : tyk Tryz.prog 407 = .struct [(0, 68), (4, 68), (8, 4)] := by kernel_rfl
@[go_sem] theorem c407 : Tryz.prog.cellsOf 407 = 9 := by kernel_rfl
@[go_sem] theorem b407 : Tryz.prog.bytesOf 407 = 72 := by kernel_rfl
@[go_sem] theorem z407 : tzO Tryz.prog 407 = some [.d (.int .u64 0), .d (.int .u64 0), .d (.int .u64 0), .d (.int .u64 0), .d (.int .u64 0), .d (.int .u64 0), .d (.int .u64 0), .d (.int .u64 0), .d (.bool false)] := by kernel_rfl
@[go_sem] theorem u407 : (Tryz.prog.underlying 407).isSome = true := by kernel_rfl
@[go_sem] theorem k419 : tyk Tryz.prog 419 = .arr 2 78 := by kernel_rfl
@[go_sem] theorem c419 : Tryz.prog.cellsOf 419 = 2 := by kernel_rfl
@[go_sem] theorem b419 : Tryz.prog.bytesOf 419 = 48 := by kernel_rfl
@[go_sem] theorem z419 : tzO Tryz.prog 419 = some [.nil, .nil] := by kernel_rfl
@[go_sem] theorem u419 : (Tryz.prog.underlying 419).isSome = true := by kernel_rfl
@[go_sem] theorem k420 : tyk Tryz.prog 420 = .struct [(0, 5), (1, 73)] := by kernel_rfl
@[go_sem] theorem c420 : Tryz.prog.cellsOf 420 = 2 := by kernel_rfl
@[go_sem] theorem b420 : Tryz.prog.bytesOf 420 = 32 := by kernel_rfl
@[go_sem] theorem z420 : tzO Tryz.prog 420 = some [.d (.int .u8 0), .nil] := by kernel_rfl
@[go_sem] theorem u420 : (Tryz.prog.underlying 420).isSome = true := by kernel_rfl
@[go_sem] theorem k421 : tyk Tryz.prog 421 = .struct [(0, 5), (1, 73)] := by kernel_rfl
@[go_sem] theorem c421 : Tryz.prog.cellsOf 421 = 2 := by kernel_rfl
@[go_sem] theorem b421 : Tryz.prog.bytesOf 421 = 32 := by kernel_rfl
@[go_sem] theorem z421 : tzO Tryz.prog 421 = some [.d (.int .u8 0), .nil] := by kernel_rfl
@[go_sem] theorem u421 : (Tryz.prog.underlying 421).isSome = true := by kernel_rfl
@[go_sem] theorem k429 : tyk Tryz.prog 429 = .struct [(0, 68), (4, 68), (8, 68)] := by kernel_rfl
@[go_sem] theorem c429 : Tryz.prog.cellsOf 429 = 12 := by kernel_rfl
@[go_sem] theorem b429 : Tryz.prog.bytesOf 429 = 96 := by kernel_rfl
@[go_sem] theorem z429 : tzO Tryz.prog 429 = some [.d (.int .u64 0), .d (.int .u64 0), .d (.int .u64 0), .d (.int .u64 0), .d (.int .u64 0), .d (.int .u64 0), .d (.int .u64 0), .d (.int .u64 0), .d (.int .u64 0), .d (.int .u64 0), .d (.int .u64 0), .d (.int .u64 0)] := by kernel_rfl
@[go_sem] theorem u429 : (Tryz.prog.underlying 429).isSome = true := by kernel_rfl
@[go_sem] theorem k430 : tyk Tryz.prog 430 = .struct [(0, 68), (4, 68), (8, 68)] := by kernel_rfl
@[go_sem] theorem c430 : Tryz.prog.cellsOf 430 = 12 := by kernel_rfl
@[go_sem] theorem b430 : Tryz.prog.bytesOf 430 = 96 := by kernel_rfl
@[go_sem] theorem z430 : tzO Tryz.prog 430 = some [.d (.int .u64 0), .d (.int .u64 0), .d (.int .u64 0), .d (.int .u64 0), .d (.int .u64 0), .d (.int .u64 0), .d (.int .u64 0), .d (.int .u64 0), .d (.int .u64 0), .d (.int .u64 0), .d (.int .u64 0), .d (.int .u64 0)] := by kernel_rfl
@[go_sem] theorem u430 : (Tryz.prog.underlying 430).isSome = true := by kernel_rfl
@[go_sem] theorem k460 : tyk Tryz.prog 460 = .scal := by kernel_rfl
@[go_sem] theorem c460 : Tryz.prog.cellsOf 460 = 1 := by kernel_rfl
@[go_sem] theorem b460 : Tryz.prog.bytesOf 460 = 8 := by kernel_rfl
@[go_sem] theorem z460 : tzO Tryz.prog 460 = some [.d .nilp] := by kernel_rfl
@[go_sem] theorem u460 : (Tryz.prog.underlying 460).isSome = true := by kernel_rfl
@[go_sem] theorem k474 : tyk Tryz.prog 474 = .arr 2 2 := by kernel_rfl
@[go_sem] theorem c474 : Tryz.prog.cellsOf 474 = 2 := by kernel_rfl
@[go_sem] theorem b474 : Tryz.prog.bytesOf 474 = 16 := by kernel_rfl
@[go_sem] theorem z474 : tzO Tryz.prog 474 = some [.d (.int .i64 0), .d (.int .i64 0)] := by kernel_rfl
@[go_sem] theorem u474 : (Tryz.prog.underlying 474).isSome = true := by kernel_rfl
@[go_sem] theorem k480 : tyk Tryz.prog 480 = .struct [(0, 78), (1, 78), (2, 41)] := by kernel_rfl
@[go_sem] theorem c480 : Tryz.prog.cellsOf 480 = 3 := by kernel_rfl
@[go_sem] theorem b480 : Tryz.prog.bytesOf 480 = 56 := by kernel_rfl
@[go_sem] theorem z480 : tzO Tryz.prog 480 = some [.nil, .nil, .d (.int .i64 0)] := by kernel_rfl
@[go_sem] theorem u480 : (Tryz.prog.underlying 480).isSome = true := by kernel_rfl
@[go_sem] theorem k481 : tyk Tryz.prog 481 = .struct [(0, 78), (1, 78), (2, 41)] := by kernel_rfl
@[go_sem] theorem c481 : Tryz.prog.cellsOf 481 = 3 := by kernel_rfl
@[go_sem] theorem b481 : Tryz.prog.bytesOf 481 = 56 := by kernel_rfl
@[go_sem] theorem z481 : tzO Tryz.prog 481 = some [.nil, .nil, .d (.int .i64 0)] := by kernel_rfl
@[go_sem] theorem u481 : (Tryz.prog.underlying 481).isSome = true := by kernel_rfl
@[go_sem] theorem k485 : tyk Tryz.prog 485 = .slice 421 := by kernel_rfl
@[go_sem] theorem c485 : Tryz.prog.cellsOf 485 = 1 := by kernel_rfl
@[go_sem] theorem b485 : Tryz.prog.bytesOf 485 = 24 := by kernel_rfl
@[go_sem] theorem z485 : tzO Tryz.prog 485 = some [.nil] := by kernel_rfl
@[go_sem] theorem u485 : (Tryz.prog.underlying 485).isSome = true := by kernel_rfl
@[go_sem] theorem k493 : tyk Tryz.prog 493 = .slice 2 := by kernel_rfl
@[go_sem] theorem c493 : Tryz.prog.cellsOf 493 = 1 := by kernel_rfl
@[go_sem] theorem b493 : Tryz.prog.bytesOf 493 = 24 := by kernel_rfl
@[go_sem] theorem z493 : tzO Tryz.prog 493 = some [.nil] := by kernel_rfl
@[go_sem] theorem u493 : (Tryz.prog.underlying 493).isSome = true := by kernel_rfl
@[go_sem] theorem k503 : tyk Tryz.prog 503 = .struct [(0, 17), (1, 17), (2, 17), (3, 9)] := by kernel_rfl
@[go_sem] theorem c503 : Tryz.prog.cellsOf 503 = 4 := by kernel_rfl
@[go_sem] theorem b503 : Tryz.prog.bytesOf 503 = 40 := by kernel_rfl
@[go_sem] theorem z503 : tzO Tryz.prog 503 = some [.d .nilp, .d .nilp, .d .nilp, .d (.str [])] := by kernel_rfl
@[go_sem] theorem u503 : (Tryz.prog.underlying 503).isSome = true := by kernel_rfl
@[go_sem] theorem k504 : tyk Tryz.prog 504 = .struct [(0, 17), (1, 17), (2, 17), (3, 9)] := by kernel_rfl
@[go_sem] theorem c504 : Tryz.prog.cellsOf 504 = 4 := by kernel_rfl
@[go_sem] theorem b504 : Tryz.prog.bytesOf 504 = 40 := by kernel_rfl
@[go_sem] theorem z504 : tzO Tryz.prog 504 = some [.d .nilp, .d .nilp, .d .nilp, .d (.str [])] := by kernel_rfl
@[go_sem] theorem u504 : (Tryz.prog.underlying 504).isSome = true := by kernel_rfl
@[go_sem] theorem k505 : tyk Tryz.prog 505 = .arr 0 16 := by kernel_rfl
@[go_sem] theorem c505 : Tryz.prog.cellsOf 505 = 0 := by kernel_rfl
@[go_sem] theorem u505 : (Tryz.prog.underlying 505).isSome = true := by kernel_rfl
@[go_sem] theorem k506 : tyk Tryz.prog 506 = .struct [(0, 505)] := by kernel_rfl
@[go_sem] theorem c506 : Tryz.prog.cellsOf 506 = 0 := by kernel_rfl
@[go_sem] theorem u506 : (Tryz.prog.underlying 506).isSome = true := by kernel_rfl
@[go_sem] theorem k507 : tyk Tryz.prog 507 = .struct [(0, 505)] := by kernel_rfl
@[go_sem] theorem c507 : Tryz.prog.cellsOf 507 = 0 := by kernel_rfl
@[go_sem] theorem u507 : (Tryz.prog.underlying 507).isSome = true := by kernel_rfl
@[go_sem] theorem k508 : tyk Tryz.prog 508 = .scal := by kernel_rfl
@[go_sem] theorem c508 : Tryz.prog.cellsOf 508 = 1 := by kernel_rfl
@[go_sem] theorem b508 : Tryz.prog.bytesOf 508 = 1 := by kernel_rfl
@[go_sem] theorem z508 : tzO Tryz.prog 508 = some [.d (.int .u8 0)] := by kernel_rfl
@[go_sem] theorem i508 : ikind Tryz.prog 508 = some .u8 := by kernel_rfl
@[go_sem] theorem u508 : (Tryz.prog.underlying 508).isSome = true := by kernel_rfl
@[go_sem] theorem k509 : tyk Tryz.prog 509 = .scal := by kernel_rfl
@[go_sem] theorem c509 : Tryz.prog.cellsOf 509 = 1 := by kernel_rfl
@[go_sem] theorem b509 : Tryz.prog.bytesOf 509 = 1 := by kernel_rfl
@[go_sem] theorem z509 : tzO Tryz.prog 509 = some [.d (.int .u8 0)] := by kernel_rfl
@[go_sem] theorem i509 : ikind Tryz.prog 509 = some .u8 := by kernel_rfl
@[go_sem] theorem u509 : (Tryz.prog.underlying 509).isSome = true := by kernel_rfl
@[go_sem] theorem k511 : tyk Tryz.prog 511 = .scal := by kernel_rfl
@[go_sem] theorem c511 : Tryz.prog.cellsOf 511 = 1 := by kernel_rfl
@[go_sem] theorem b511 : Tryz.prog.bytesOf 511 = 8 := by kernel_rfl
@[go_sem] theorem z511 : tzO Tryz.prog 511 = some [.d .nilp] := by kernel_rfl
@[go_sem] theorem u511 : (Tryz.prog.underlying 511).isSome = true := by kernel_rfl
@[go_sem] theorem k512 : tyk Tryz.prog 512 = .scal := by kernel_rfl
@[go_sem] theorem c512 : Tryz.prog.cellsOf 512 = 1 := by kernel_rfl
@[go_sem] theorem b512 : Tryz.prog.bytesOf 512 = 4 := by kernel_rfl
@[go_sem] theorem z512 : tzO Tryz.prog 512 = some [.d (.int .i32 0)] := by kernel_rfl
@[go_sem] theorem i512 : ikind Tryz.prog 512 = some .i32 := by kernel_rfl
@[go_sem] theorem u512 : (Tryz.prog.underlying 512).isSome = true := by kernel_rfl
@[go_sem] theorem k513 : tyk Tryz.prog 513 = .scal := by kernel_rfl
@[go_sem] theorem c513 : Tryz.prog.cellsOf 513 = 1 := by kernel_rfl
@[go_sem] theorem b513 : Tryz.prog.bytesOf 513 = 4 := by kernel_rfl
@[go_sem] theorem z513 : tzO Tryz.prog 513 = some [.d (.int .i32 0)] := by kernel_rfl
@[go_sem] theorem i513 : ikind Tryz.prog 513 = some .i32 := by kernel_rfl
@[go_sem] theorem u513 : (Tryz.prog.underlying 513).isSome = true := by kernel_rfl
end Go.Proofs.YthieefhjokekmaaGreat
