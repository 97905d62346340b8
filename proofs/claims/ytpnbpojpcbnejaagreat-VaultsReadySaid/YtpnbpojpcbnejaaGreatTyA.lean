/-
  Facts of types, printed by a program of ours.
-/
import Derived.Test.YtpnbpojpcbnejaaGreatRows
import Derived.Test.YtpnbpojpcbnejaaGreatAmRun
namespace Go.Proofs.YtpnbpojpcbnejaaGreat
open Go.Am
set_option maxRecDepth 100000
@[go_sem] theorem k2 : tyk Tryz.prog 2 = .scal := by kernel_rfl
@[go_sem] theorem c2 : Tryz.prog.cellsOf 2 = 1 := by kernel_rfl
@[go_sem] theorem b2 : Tryz.prog.bytesOf 2 = 8 := by kernel_rfl
@[go_sem] theorem z2 : tzO Tryz.prog 2 = some [.d (.int .i64 0)] := by kernel_rfl
@[go_sem] theorem i2 : ikind Tryz.prog 2 = some .i64 := by kernel_rfl
@[go_sem] theorem u2 : (Tryz.prog.underlying 2).isSome = true := by kernel_rfl
@[go_sem] theorem k3 : tyk Tryz.prog 3 = .scal := by kernel_rfl
@[go_sem] theorem c3 : Tryz.prog.cellsOf 3 = 1 := by kernel_rfl
@[go_sem] theorem b3 : Tryz.prog.bytesOf 3 = 8 := by kernel_rfl
@[go_sem] theorem z3 : tzO Tryz.prog 3 = some [.d (.int .i64 0)] := by kernel_rfl
@[go_sem] theorem i3 : ikind Tryz.prog 3 = some .i64 := by kernel_rfl
@[go_sem] theorem u3 : (Tryz.prog.underlying 3).isSome = true := by kernel_rfl
@[go_sem] theorem k4 : tyk Tryz.prog 4 = .scal := by kernel_rfl
@[go_sem] theorem c4 : Tryz.prog.cellsOf 4 = 1 := by kernel_rfl
@[go_sem] theorem b4 : Tryz.prog.bytesOf 4 = 1 := by kernel_rfl
@[go_sem] theorem z4 : tzO Tryz.prog 4 = some [.d (.bool false)] := by kernel_rfl
@[go_sem] theorem u4 : (Tryz.prog.underlying 4).isSome = true := by kernel_rfl
@[go_sem] theorem k5 : tyk Tryz.prog 5 = .scal := by kernel_rfl
@[go_sem] theorem c5 : Tryz.prog.cellsOf 5 = 1 := by kernel_rfl
@[go_sem] theorem b5 : Tryz.prog.bytesOf 5 = 1 := by kernel_rfl
@[go_sem] theorem z5 : tzO Tryz.prog 5 = some [.d (.int .u8 0)] := by kernel_rfl
@[go_sem] theorem i5 : ikind Tryz.prog 5 = some .u8 := by kernel_rfl
@[go_sem] theorem u5 : (Tryz.prog.underlying 5).isSome = true := by kernel_rfl
@[go_sem] theorem k6 : tyk Tryz.prog 6 = .scal := by kernel_rfl
@[go_sem] theorem c6 : Tryz.prog.cellsOf 6 = 1 := by kernel_rfl
@[go_sem] theorem b6 : Tryz.prog.bytesOf 6 = 1 := by kernel_rfl
@[go_sem] theorem z6 : tzO Tryz.prog 6 = some [.d (.int .u8 0)] := by kernel_rfl
@[go_sem] theorem i6 : ikind Tryz.prog 6 = some .u8 := by kernel_rfl
@[go_sem] theorem u6 : (Tryz.prog.underlying 6).isSome = true := by kernel_rfl
@[go_sem] theorem k7 : tyk Tryz.prog 7 = .struct [(0, 2), (1, 3), (2, 4), (3, 6)] := by kernel_rfl
@[go_sem] theorem c7 : Tryz.prog.cellsOf 7 = 4 := by kernel_rfl
@[go_sem] theorem b7 : Tryz.prog.bytesOf 7 = 24 := by kernel_rfl
@[go_sem] theorem z7 : tzO Tryz.prog 7 = some [.d (.int .i64 0), .d (.int .i64 0), .d (.bool false), .d (.int .u8 0)] := by kernel_rfl
@[go_sem] theorem u7 : (Tryz.prog.underlying 7).isSome = true := by kernel_rfl
@[go_sem] theorem k8 : tyk Tryz.prog 8 = .struct [(0, 2), (1, 3), (2, 4), (3, 6)] := by kernel_rfl
@[go_sem] theorem c8 : Tryz.prog.cellsOf 8 = 4 := by kernel_rfl
@[go_sem] theorem b8 : Tryz.prog.bytesOf 8 = 24 := by kernel_rfl
@[go_sem] theorem z8 : tzO Tryz.prog 8 = some [.d (.int .i64 0), .d (.int .i64 0), .d (.bool false), .d (.int .u8 0)] := by kernel_rfl
@[go_sem] theorem u8 : (Tryz.prog.underlying 8).isSome = true := by kernel_rfl
@[go_sem] theorem k9 : tyk Tryz.prog 9 = .str := by kernel_rfl
@[go_sem] theorem c9 : Tryz.prog.cellsOf 9 = 1 := by kernel_rfl
@[go_sem] theorem b9 : Tryz.prog.bytesOf 9 = 16 := by kernel_rfl
@[go_sem] theorem z9 : tzO Tryz.prog 9 = some [.d (.str [])] := by kernel_rfl
@[go_sem] theorem u9 : (Tryz.prog.underlying 9).isSome = true := by kernel_rfl
@[go_sem] theorem k10 : tyk Tryz.prog 10 = .str := by kernel_rfl
@[go_sem] theorem c10 : Tryz.prog.cellsOf 10 = 1 := by kernel_rfl
@[go_sem] theorem b10 : Tryz.prog.bytesOf 10 = 16 := by kernel_rfl
@[go_sem] theorem z10 : tzO Tryz.prog 10 = some [.d (.str [])] := by kernel_rfl
@[go_sem] theorem u10 : (Tryz.prog.underlying 10).isSome = true := by kernel_rfl
@[go_sem] theorem k11 : tyk Tryz.prog 11 = .str := by kernel_rfl
@[go_sem] theorem c11 : Tryz.prog.cellsOf 11 = 1 := by kernel_rfl
@[go_sem] theorem b11 : Tryz.prog.bytesOf 11 = 16 := by kernel_rfl
@[go_sem] theorem z11 : tzO Tryz.prog 11 = some [.d (.str [])] := by kernel_rfl
@[go_sem] theorem u11 : (Tryz.prog.underlying 11).isSome = true := by kernel_rfl
@[go_sem] theorem k12 : tyk Tryz.prog 12 = .scal := by kernel_rfl
@[go_sem] theorem c12 : Tryz.prog.cellsOf 12 = 1 := by kernel_rfl
@[go_sem] theorem b12 : Tryz.prog.bytesOf 12 = 8 := by kernel_rfl
@[go_sem] theorem z12 : tzO Tryz.prog 12 = some [.d (.int .u64 0)] := by kernel_rfl
@[go_sem] theorem i12 : ikind Tryz.prog 12 = some .u64 := by kernel_rfl
@[go_sem] theorem u12 : (Tryz.prog.underlying 12).isSome = true := by kernel_rfl
@[go_sem] theorem k13 : tyk Tryz.prog 13 = .struct [(0, 9), (1, 12)] := by kernel_rfl
@[go_sem] theorem c13 : Tryz.prog.cellsOf 13 = 2 := by kernel_rfl
@[go_sem] theorem b13 : Tryz.prog.bytesOf 13 = 24 := by kernel_rfl
@[go_sem] theorem z13 : tzO Tryz.prog 13 = some [.d (.str []), .d (.int .u64 0)] := by kernel_rfl
@[go_sem] theorem u13 : (Tryz.prog.underlying 13).isSome = true := by kernel_rfl
@[go_sem] theorem k14 : tyk Tryz.prog 14 = .struct [(0, 9), (1, 12)] := by kernel_rfl
@[go_sem] theorem c14 : Tryz.prog.cellsOf 14 = 2 := by kernel_rfl
@[go_sem] theorem b14 : Tryz.prog.bytesOf 14 = 24 := by kernel_rfl
@[go_sem] theorem z14 : tzO Tryz.prog 14 = some [.d (.str []), .d (.int .u64 0)] := by kernel_rfl
@[go_sem] theorem u14 : (Tryz.prog.underlying 14).isSome = true := by kernel_rfl
@[go_sem] theorem k15 : tyk Tryz.prog 15 = .scal := by kernel_rfl
@[go_sem] theorem c15 : Tryz.prog.cellsOf 15 = 1 := by kernel_rfl
@[go_sem] theorem b15 : Tryz.prog.bytesOf 15 = 8 := by kernel_rfl
@[go_sem] theorem z15 : tzO Tryz.prog 15 = some [.d .nilp] := by kernel_rfl
@[go_sem] theorem u15 : (Tryz.prog.underlying 15).isSome = true := by kernel_rfl
@[go_sem] theorem k16 : tyk Tryz.prog 16 = .scal := by kernel_rfl
@[go_sem] theorem c16 : Tryz.prog.cellsOf 16 = 1 := by kernel_rfl
@[go_sem] theorem b16 : Tryz.prog.bytesOf 16 = 8 := by kernel_rfl
@[go_sem] theorem z16 : tzO Tryz.prog 16 = some [.d .nilp] := by kernel_rfl
@[go_sem] theorem u16 : (Tryz.prog.underlying 16).isSome = true := by kernel_rfl
@[go_sem] theorem k17 : tyk Tryz.prog 17 = .scal := by kernel_rfl
@[go_sem] theorem c17 : Tryz.prog.cellsOf 17 = 1 := by kernel_rfl
@[go_sem] theorem b17 : Tryz.prog.bytesOf 17 = 8 := by kernel_rfl
@[go_sem] theorem z17 : tzO Tryz.prog 17 = some [.d .nilp] := by kernel_rfl
@[go_sem] theorem u17 : (Tryz.prog.underlying 17).isSome = true := by kernel_rfl
@[go_sem] theorem k18 : tyk Tryz.prog 18 = .struct [(0, 17)] := by kernel_rfl
@[go_sem] theorem c18 : Tryz.prog.cellsOf 18 = 1 := by kernel_rfl
@[go_sem] theorem b18 : Tryz.prog.bytesOf 18 = 8 := by kernel_rfl
@[go_sem] theorem z18 : tzO Tryz.prog 18 = some [.d .nilp] := by kernel_rfl
@[go_sem] theorem u18 : (Tryz.prog.underlying 18).isSome = true := by kernel_rfl
@[go_sem] theorem k19 : tyk Tryz.prog 19 = .struct [(0, 17)] := by kernel_rfl
@[go_sem] theorem c19 : Tryz.prog.cellsOf 19 = 1 := by kernel_rfl
@[go_sem] theorem b19 : Tryz.prog.bytesOf 19 = 8 := by kernel_rfl
@[go_sem] theorem z19 : tzO Tryz.prog 19 = some [.d .nilp] := by kernel_rfl
@[go_sem] theorem u19 : (Tryz.prog.underlying 19).isSome = true := by kernel_rfl
@[go_sem] theorem k21 : tyk Tryz.prog 21 = .scal := by kernel_rfl
@[go_sem] theorem c21 : Tryz.prog.cellsOf 21 = 1 := by kernel_rfl
@[go_sem] theorem b21 : Tryz.prog.bytesOf 21 = 4 := by kernel_rfl
@[go_sem] theorem z21 : tzO Tryz.prog 21 = some [.d (.int .i32 0)] := by kernel_rfl
@[go_sem] theorem i21 : ikind Tryz.prog 21 = some .i32 := by kernel_rfl
@[go_sem] theorem u21 : (Tryz.prog.underlying 21).isSome = true := by kernel_rfl
@[go_sem] theorem k22 : tyk Tryz.prog 22 = .arr 32 5 := by kernel_rfl
@[go_sem] theorem c22 : Tryz.prog.cellsOf 22 = 32 := by kernel_rfl
@[go_sem] theorem b22 : Tryz.prog.bytesOf 22 = 32 := by kernel_rfl
@[go_sem] theorem u22 : (Tryz.prog.underlying 22).isSome = true := by kernel_rfl
@[go_sem] theorem k23 : tyk Tryz.prog 23 = .scal := by kernel_rfl
@[go_sem] theorem c23 : Tryz.prog.cellsOf 23 = 1 := by kernel_rfl
@[go_sem] theorem b23 : Tryz.prog.bytesOf 23 = 4 := by kernel_rfl
@[go_sem] theorem z23 : tzO Tryz.prog 23 = some [.d (.int .u32 0)] := by kernel_rfl
@[go_sem] theorem i23 : ikind Tryz.prog 23 = some .u32 := by kernel_rfl
@[go_sem] theorem u23 : (Tryz.prog.underlying 23).isSome = true := by kernel_rfl
@[go_sem] theorem k24 : tyk Tryz.prog 24 = .struct [(0, 22), (32, 23)] := by kernel_rfl
@[go_sem] theorem c24 : Tryz.prog.cellsOf 24 = 33 := by kernel_rfl
@[go_sem] theorem b24 : Tryz.prog.bytesOf 24 = 36 := by kernel_rfl
@[go_sem] theorem u24 : (Tryz.prog.underlying 24).isSome = true := by kernel_rfl
@[go_sem] theorem k25 : tyk Tryz.prog 25 = .struct [(0, 22), (32, 23)] := by kernel_rfl
@[go_sem] theorem c25 : Tryz.prog.cellsOf 25 = 33 := by kernel_rfl
@[go_sem] theorem b25 : Tryz.prog.bytesOf 25 = 36 := by kernel_rfl
@[go_sem] theorem u25 : (Tryz.prog.underlying 25).isSome = true := by kernel_rfl
@[go_sem] theorem k26 : tyk Tryz.prog 26 = .scal := by kernel_rfl
@[go_sem] theorem c26 : Tryz.prog.cellsOf 26 = 1 := by kernel_rfl
@[go_sem] theorem b26 : Tryz.prog.bytesOf 26 = 8 := by kernel_rfl
@[go_sem] theorem z26 : tzO Tryz.prog 26 = some [.d (.int .u64 0)] := by kernel_rfl
@[go_sem] theorem i26 : ikind Tryz.prog 26 = some .u64 := by kernel_rfl
@[go_sem] theorem u26 : (Tryz.prog.underlying 26).isSome = true := by kernel_rfl
@[go_sem] theorem k27 : tyk Tryz.prog 27 = .struct [(0, 25), (33, 26), (34, 3), (35, 3), (36, 23), (37, 22)] := by kernel_rfl
@[go_sem] theorem c27 : Tryz.prog.cellsOf 27 = 69 := by kernel_rfl
@[go_sem] theorem b27 : Tryz.prog.bytesOf 27 = 104 := by kernel_rfl
@[go_sem] theorem u27 : (Tryz.prog.underlying 27).isSome = true := by kernel_rfl
@[go_sem] theorem k28 : tyk Tryz.prog 28 = .struct [(0, 25), (33, 26), (34, 3), (35, 3), (36, 23), (37, 22)] := by kernel_rfl
@[go_sem] theorem c28 : Tryz.prog.cellsOf 28 = 69 := by kernel_rfl
@[go_sem] theorem b28 : Tryz.prog.bytesOf 28 = 104 := by kernel_rfl
@[go_sem] theorem u28 : (Tryz.prog.underlying 28).isSome = true := by kernel_rfl
@[go_sem] theorem k29 : tyk Tryz.prog 29 = .slice 5 := by kernel_rfl
@[go_sem] theorem c29 : Tryz.prog.cellsOf 29 = 1 := by kernel_rfl
@[go_sem] theorem b29 : Tryz.prog.bytesOf 29 = 24 := by kernel_rfl
@[go_sem] theorem z29 : tzO Tryz.prog 29 = some [.nil] := by kernel_rfl
@[go_sem] theorem u29 : (Tryz.prog.underlying 29).isSome = true := by kernel_rfl
@[go_sem] theorem k30 : tyk Tryz.prog 30 = .struct [(0, 22), (32, 29), (33, 2), (34, 22)] := by kernel_rfl
@[go_sem] theorem c30 : Tryz.prog.cellsOf 30 = 66 := by kernel_rfl
@[go_sem] theorem b30 : Tryz.prog.bytesOf 30 = 96 := by kernel_rfl
@[go_sem] theorem u30 : (Tryz.prog.underlying 30).isSome = true := by kernel_rfl
@[go_sem] theorem k31 : tyk Tryz.prog 31 = .struct [(0, 22), (32, 29), (33, 2), (34, 22)] := by kernel_rfl
@[go_sem] theorem c31 : Tryz.prog.cellsOf 31 = 66 := by kernel_rfl
@[go_sem] theorem b31 : Tryz.prog.bytesOf 31 = 96 := by kernel_rfl
@[go_sem] theorem u31 : (Tryz.prog.underlying 31).isSome = true := by kernel_rfl
@[go_sem] theorem kx32 : tyk Tryz.prog 32 = .struct [(0, 25), (33, 26), (34, 3), (35, 3), (36, 23), (37, 22)] := by kernel_rfl
@[go_sem] theorem cx32 : Tryz.prog.cellsOf 32 = 69 := by kernel_rfl
@[go_sem] theorem bx32 : Tryz.prog.bytesOf 32 = 104 := by kernel_rfl
@[go_sem] theorem ux32 : (Tryz.prog.underlying 32).isSome = true := by kernel_rfl
@[go_sem] theorem k36 : tyk Tryz.prog 36 = .slice 31 := by kernel_rfl
@[go_sem] theorem c36 : Tryz.prog.cellsOf 36 = 1 := by kernel_rfl
@[go_sem] theorem b36 : Tryz.prog.bytesOf 36 = 24 := by kernel_rfl
@[go_sem] theorem z36 : tzO Tryz.prog 36 = some [.nil] := by kernel_rfl
@[go_sem] theorem u36 : (Tryz.prog.underlying 36).isSome = true := by kernel_rfl
@[go_sem] theorem k37 : tyk Tryz.prog 37 = .slice 44 := by kernel_rfl
@[go_sem] theorem c37 : Tryz.prog.cellsOf 37 = 1 := by kernel_rfl
@[go_sem] theorem b37 : Tryz.prog.bytesOf 37 = 24 := by kernel_rfl
@[go_sem] theorem z37 : tzO Tryz.prog 37 = some [.nil] := by kernel_rfl
@[go_sem] theorem u37 : (Tryz.prog.underlying 37).isSome = true := by kernel_rfl
@[go_sem] theorem k38 : tyk Tryz.prog 38 = .struct [(0, 23), (1, 22), (33, 22), (65, 23), (66, 23), (67, 23)] := by kernel_rfl
@[go_sem] theorem c38 : Tryz.prog.cellsOf 38 = 68 := by kernel_rfl
@[go_sem] theorem b38 : Tryz.prog.bytesOf 38 = 80 := by kernel_rfl
@[go_sem] theorem u38 : (Tryz.prog.underlying 38).isSome = true := by kernel_rfl
@[go_sem] theorem k39 : tyk Tryz.prog 39 = .struct [(0, 23), (1, 22), (33, 22), (65, 23), (66, 23), (67, 23)] := by kernel_rfl
@[go_sem] theorem c39 : Tryz.prog.cellsOf 39 = 68 := by kernel_rfl
@[go_sem] theorem b39 : Tryz.prog.bytesOf 39 = 80 := by kernel_rfl
@[go_sem] theorem u39 : (Tryz.prog.underlying 39).isSome = true := by kernel_rfl
@[go_sem] theorem k40 : tyk Tryz.prog 40 = .slice 58 := by kernel_rfl
@[go_sem] theorem c40 : Tryz.prog.cellsOf 40 = 1 := by kernel_rfl
@[go_sem] theorem b40 : Tryz.prog.bytesOf 40 = 24 := by kernel_rfl
@[go_sem] theorem z40 : tzO Tryz.prog 40 = some [.nil] := by kernel_rfl
@[go_sem] theorem u40 : (Tryz.prog.underlying 40).isSome = true := by kernel_rfl
@[go_sem] theorem k41 : tyk Tryz.prog 41 = .struct [(0, 39), (68, 40)] := by kernel_rfl
@[go_sem] theorem c41 : Tryz.prog.cellsOf 41 = 69 := by kernel_rfl
@[go_sem] theorem b41 : Tryz.prog.bytesOf 41 = 104 := by kernel_rfl
@[go_sem] theorem u41 : (Tryz.prog.underlying 41).isSome = true := by kernel_rfl
@[go_sem] theorem k42 : tyk Tryz.prog 42 = .struct [(0, 39), (68, 40)] := by kernel_rfl
@[go_sem] theorem c42 : Tryz.prog.cellsOf 42 = 69 := by kernel_rfl
@[go_sem] theorem b42 : Tryz.prog.bytesOf 42 = 104 := by kernel_rfl
@[go_sem] theorem u42 : (Tryz.prog.underlying 42).isSome = true := by kernel_rfl
@[go_sem] theorem k43 : tyk Tryz.prog 43 = .struct [(0, 3), (1, 42), (70, 23)] := by kernel_rfl
@[go_sem] theorem c43 : Tryz.prog.cellsOf 43 = 71 := by kernel_rfl
@[go_sem] theorem b43 : Tryz.prog.bytesOf 43 = 120 := by kernel_rfl
@[go_sem] theorem u43 : (Tryz.prog.underlying 43).isSome = true := by kernel_rfl
@[go_sem] theorem k44 : tyk Tryz.prog 44 = .struct [(0, 3), (1, 42), (70, 23)] := by kernel_rfl
@[go_sem] theorem c44 : Tryz.prog.cellsOf 44 = 71 := by kernel_rfl
@[go_sem] theorem b44 : Tryz.prog.bytesOf 44 = 120 := by kernel_rfl
@[go_sem] theorem u44 : (Tryz.prog.underlying 44).isSome = true := by kernel_rfl
@[go_sem] theorem k45 : tyk Tryz.prog 45 = .scal := by kernel_rfl
@[go_sem] theorem c45 : Tryz.prog.cellsOf 45 = 1 := by kernel_rfl
@[go_sem] theorem b45 : Tryz.prog.bytesOf 45 = 8 := by kernel_rfl
@[go_sem] theorem z45 : tzO Tryz.prog 45 = some [.d .nilp] := by kernel_rfl
@[go_sem] theorem u45 : (Tryz.prog.underlying 45).isSome = true := by kernel_rfl
@[go_sem] theorem k49 : tyk Tryz.prog 49 = .slice 28 := by kernel_rfl
@[go_sem] theorem c49 : Tryz.prog.cellsOf 49 = 1 := by kernel_rfl
@[go_sem] theorem b49 : Tryz.prog.bytesOf 49 = 24 := by kernel_rfl
@[go_sem] theorem z49 : tzO Tryz.prog 49 = some [.nil] := by kernel_rfl
@[go_sem] theorem u49 : (Tryz.prog.underlying 49).isSome = true := by kernel_rfl
@[go_sem] theorem k55 : tyk Tryz.prog 55 = .slice 69 := by kernel_rfl
@[go_sem] theorem c55 : Tryz.prog.cellsOf 55 = 1 := by kernel_rfl
@[go_sem] theorem b55 : Tryz.prog.bytesOf 55 = 24 := by kernel_rfl
@[go_sem] theorem z55 : tzO Tryz.prog 55 = some [.nil] := by kernel_rfl
@[go_sem] theorem u55 : (Tryz.prog.underlying 55).isSome = true := by kernel_rfl
@[go_sem] theorem k56 : tyk Tryz.prog 56 = .slice 71 := by kernel_rfl
@[go_sem] theorem c56 : Tryz.prog.cellsOf 56 = 1 := by kernel_rfl
@[go_sem] theorem b56 : Tryz.prog.bytesOf 56 = 24 := by kernel_rfl
@[go_sem] theorem z56 : tzO Tryz.prog 56 = some [.nil] := by kernel_rfl
@[go_sem] theorem u56 : (Tryz.prog.underlying 56).isSome = true := by kernel_rfl
@[go_sem] theorem k57 : tyk Tryz.prog 57 = .struct [(0, 23), (1, 55), (2, 56), (3, 23)] := by kernel_rfl
@[go_sem] theorem c57 : Tryz.prog.cellsOf 57 = 4 := by kernel_rfl
@[go_sem] theorem b57 : Tryz.prog.bytesOf 57 = 64 := by kernel_rfl
@[go_sem] theorem z57 : tzO Tryz.prog 57 = some [.d (.int .u32 0), .nil, .nil, .d (.int .u32 0)] := by kernel_rfl
@[go_sem] theorem u57 : (Tryz.prog.underlying 57).isSome = true := by kernel_rfl
@[go_sem] theorem k58 : tyk Tryz.prog 58 = .struct [(0, 23), (1, 55), (2, 56), (3, 23)] := by kernel_rfl
@[go_sem] theorem c58 : Tryz.prog.cellsOf 58 = 4 := by kernel_rfl
@[go_sem] theorem b58 : Tryz.prog.bytesOf 58 = 64 := by kernel_rfl
@[go_sem] theorem z58 : tzO Tryz.prog 58 = some [.d (.int .u32 0), .nil, .nil, .d (.int .u32 0)] := by kernel_rfl
@[go_sem] theorem u58 : (Tryz.prog.underlying 58).isSome = true := by kernel_rfl
@[go_sem] theorem k59 : tyk Tryz.prog 59 = .slice 76 := by kernel_rfl
@[go_sem] theorem c59 : Tryz.prog.cellsOf 59 = 1 := by kernel_rfl
@[go_sem] theorem b59 : Tryz.prog.bytesOf 59 = 24 := by kernel_rfl
@[go_sem] theorem z59 : tzO Tryz.prog 59 = some [.nil] := by kernel_rfl
@[go_sem] theorem u59 : (Tryz.prog.underlying 59).isSome = true := by kernel_rfl
@[go_sem] theorem k60 : tyk Tryz.prog 60 = .scal := by kernel_rfl
@[go_sem] theorem c60 : Tryz.prog.cellsOf 60 = 1 := by kernel_rfl
@[go_sem] theorem b60 : Tryz.prog.bytesOf 60 = 8 := by kernel_rfl
@[go_sem] theorem z60 : tzO Tryz.prog 60 = some [.d (.int .i64 0)] := by kernel_rfl
@[go_sem] theorem i60 : ikind Tryz.prog 60 = some .i64 := by kernel_rfl
@[go_sem] theorem u60 : (Tryz.prog.underlying 60).isSome = true := by kernel_rfl
@[go_sem] theorem k67 : tyk Tryz.prog 67 = .slice 29 := by kernel_rfl
@[go_sem] theorem c67 : Tryz.prog.cellsOf 67 = 1 := by kernel_rfl
@[go_sem] theorem b67 : Tryz.prog.bytesOf 67 = 24 := by kernel_rfl
@[go_sem] theorem z67 : tzO Tryz.prog 67 = some [.nil] := by kernel_rfl
@[go_sem] theorem u67 : (Tryz.prog.underlying 67).isSome = true := by kernel_rfl
@[go_sem] theorem k68 : tyk Tryz.prog 68 = .struct [(0, 25), (33, 23), (34, 67)] := by kernel_rfl
@[go_sem] theorem c68 : Tryz.prog.cellsOf 68 = 35 := by kernel_rfl
@[go_sem] theorem b68 : Tryz.prog.bytesOf 68 = 64 := by kernel_rfl
@[go_sem] theorem u68 : (Tryz.prog.underlying 68).isSome = true := by kernel_rfl
@[go_sem] theorem k69 : tyk Tryz.prog 69 = .struct [(0, 25), (33, 23), (34, 67)] := by kernel_rfl
@[go_sem] theorem c69 : Tryz.prog.cellsOf 69 = 35 := by kernel_rfl
@[go_sem] theorem b69 : Tryz.prog.bytesOf 69 = 64 := by kernel_rfl
@[go_sem] theorem u69 : (Tryz.prog.underlying 69).isSome = true := by kernel_rfl
@[go_sem] theorem k70 : tyk Tryz.prog 70 = .struct [(0, 26), (1, 29)] := by kernel_rfl
@[go_sem] theorem c70 : Tryz.prog.cellsOf 70 = 2 := by kernel_rfl
@[go_sem] theorem b70 : Tryz.prog.bytesOf 70 = 32 := by kernel_rfl
@[go_sem] theorem z70 : tzO Tryz.prog 70 = some [.d (.int .u64 0), .nil] := by kernel_rfl
@[go_sem] theorem u70 : (Tryz.prog.underlying 70).isSome = true := by kernel_rfl
@[go_sem] theorem k71 : tyk Tryz.prog 71 = .struct [(0, 26), (1, 29)] := by kernel_rfl
@[go_sem] theorem c71 : Tryz.prog.cellsOf 71 = 2 := by kernel_rfl
@[go_sem] theorem b71 : Tryz.prog.bytesOf 71 = 32 := by kernel_rfl
@[go_sem] theorem z71 : tzO Tryz.prog 71 = some [.d (.int .u64 0), .nil] := by kernel_rfl
@[go_sem] theorem u71 : (Tryz.prog.underlying 71).isSome = true := by kernel_rfl
@[go_sem] theorem k74 : tyk Tryz.prog 74 = .slice 22 := by kernel_rfl
@[go_sem] theorem c74 : Tryz.prog.cellsOf 74 = 1 := by kernel_rfl
@[go_sem] theorem b74 : Tryz.prog.bytesOf 74 = 24 := by kernel_rfl
@[go_sem] theorem z74 : tzO Tryz.prog 74 = some [.nil] := by kernel_rfl
@[go_sem] theorem u74 : (Tryz.prog.underlying 74).isSome = true := by kernel_rfl
@[go_sem] theorem k75 : tyk Tryz.prog 75 = .struct [(0, 22), (32, 74), (33, 29)] := by kernel_rfl
@[go_sem] theorem c75 : Tryz.prog.cellsOf 75 = 34 := by kernel_rfl
@[go_sem] theorem b75 : Tryz.prog.bytesOf 75 = 80 := by kernel_rfl
@[go_sem] theorem u75 : (Tryz.prog.underlying 75).isSome = true := by kernel_rfl
@[go_sem] theorem k76 : tyk Tryz.prog 76 = .struct [(0, 22), (32, 74), (33, 29)] := by kernel_rfl
@[go_sem] theorem c76 : Tryz.prog.cellsOf 76 = 34 := by kernel_rfl
@[go_sem] theorem b76 : Tryz.prog.bytesOf 76 = 80 := by kernel_rfl
@[go_sem] theorem u76 : (Tryz.prog.underlying 76).isSome = true := by kernel_rfl
@[go_sem] theorem k85 : tyk Tryz.prog 85 = .arr 2 2 := by kernel_rfl
@[go_sem] theorem c85 : Tryz.prog.cellsOf 85 = 2 := by kernel_rfl
@[go_sem] theorem b85 : Tryz.prog.bytesOf 85 = 16 := by kernel_rfl
@[go_sem] theorem z85 : tzO Tryz.prog 85 = some [.d (.int .i64 0), .d (.int .i64 0)] := by kernel_rfl
@[go_sem] theorem u85 : (Tryz.prog.underlying 85).isSome = true := by kernel_rfl
@[go_sem] theorem k88 : tyk Tryz.prog 88 = .arr 2 3 := by kernel_rfl
@[go_sem] theorem c88 : Tryz.prog.cellsOf 88 = 2 := by kernel_rfl
@[go_sem] theorem b88 : Tryz.prog.bytesOf 88 = 16 := by kernel_rfl
@[go_sem] theorem z88 : tzO Tryz.prog 88 = some [.d (.int .i64 0), .d (.int .i64 0)] := by kernel_rfl
@[go_sem] theorem u88 : (Tryz.prog.underlying 88).isSome = true := by kernel_rfl
@[go_sem] theorem k90 : tyk Tryz.prog 90 = .slice 137 := by kernel_rfl
@[go_sem] theorem c90 : Tryz.prog.cellsOf 90 = 1 := by kernel_rfl
@[go_sem] theorem b90 : Tryz.prog.bytesOf 90 = 24 := by kernel_rfl
@[go_sem] theorem z90 : tzO Tryz.prog 90 = some [.nil] := by kernel_rfl
@[go_sem] theorem u90 : (Tryz.prog.underlying 90).isSome = true := by kernel_rfl
@[go_sem] theorem k92 : tyk Tryz.prog 92 = .slice 93 := by kernel_rfl
@[go_sem] theorem c92 : Tryz.prog.cellsOf 92 = 1 := by kernel_rfl
@[go_sem] theorem b92 : Tryz.prog.bytesOf 92 = 24 := by kernel_rfl
@[go_sem] theorem z92 : tzO Tryz.prog 92 = some [.nil] := by kernel_rfl
@[go_sem] theorem u92 : (Tryz.prog.underlying 92).isSome = true := by kernel_rfl
@[go_sem] theorem k93 : tyk Tryz.prog 93 = .slice 32 := by kernel_rfl
@[go_sem] theorem c93 : Tryz.prog.cellsOf 93 = 1 := by kernel_rfl
@[go_sem] theorem b93 : Tryz.prog.bytesOf 93 = 24 := by kernel_rfl
@[go_sem] theorem z93 : tzO Tryz.prog 93 = some [.nil] := by kernel_rfl
@[go_sem] theorem u93 : (Tryz.prog.underlying 93).isSome = true := by kernel_rfl
@[go_sem] theorem k105 : tyk Tryz.prog 105 = .slice 114 := by kernel_rfl
@[go_sem] theorem c105 : Tryz.prog.cellsOf 105 = 1 := by kernel_rfl
@[go_sem] theorem b105 : Tryz.prog.bytesOf 105 = 24 := by kernel_rfl
@[go_sem] theorem z105 : tzO Tryz.prog 105 = some [.nil] := by kernel_rfl
@[go_sem] theorem u105 : (Tryz.prog.underlying 105).isSome = true := by kernel_rfl
@[go_sem] theorem k106 : tyk Tryz.prog 106 = .slice 49 := by kernel_rfl
@[go_sem] theorem c106 : Tryz.prog.cellsOf 106 = 1 := by kernel_rfl
@[go_sem] theorem b106 : Tryz.prog.bytesOf 106 = 24 := by kernel_rfl
@[go_sem] theorem z106 : tzO Tryz.prog 106 = some [.nil] := by kernel_rfl
@[go_sem] theorem u106 : (Tryz.prog.underlying 106).isSome = true := by kernel_rfl
@[go_sem] theorem k107 : tyk Tryz.prog 107 = .struct [(0, 105), (1, 49), (2, 106)] := by kernel_rfl
@[go_sem] theorem c107 : Tryz.prog.cellsOf 107 = 3 := by kernel_rfl
@[go_sem] theorem b107 : Tryz.prog.bytesOf 107 = 72 := by kernel_rfl
@[go_sem] theorem z107 : tzO Tryz.prog 107 = some [.nil, .nil, .nil] := by kernel_rfl
@[go_sem] theorem u107 : (Tryz.prog.underlying 107).isSome = true := by kernel_rfl
@[go_sem] theorem k108 : tyk Tryz.prog 108 = .struct [(0, 105), (1, 49), (2, 106)] := by kernel_rfl
@[go_sem] theorem c108 : Tryz.prog.cellsOf 108 = 3 := by kernel_rfl
@[go_sem] theorem b108 : Tryz.prog.bytesOf 108 = 72 := by kernel_rfl
@[go_sem] theorem z108 : tzO Tryz.prog 108 = some [.nil, .nil, .nil] := by kernel_rfl
@[go_sem] theorem u108 : (Tryz.prog.underlying 108).isSome = true := by kernel_rfl
@[go_sem] theorem k113 : tyk Tryz.prog 113 = .struct [(0, 31), (66, 29), (67, 29), (68, 29)] := by kernel_rfl
@[go_sem] theorem c113 : Tryz.prog.cellsOf 113 = 69 := by kernel_rfl
@[go_sem] theorem b113 : Tryz.prog.bytesOf 113 = 168 := by kernel_rfl
@[go_sem] theorem u113 : (Tryz.prog.underlying 113).isSome = true := by kernel_rfl
@[go_sem] theorem k114 : tyk Tryz.prog 114 = .struct [(0, 31), (66, 29), (67, 29), (68, 29)] := by kernel_rfl
@[go_sem] theorem c114 : Tryz.prog.cellsOf 114 = 69 := by kernel_rfl
@[go_sem] theorem b114 : Tryz.prog.bytesOf 114 = 168 := by kernel_rfl
@[go_sem] theorem u114 : (Tryz.prog.underlying 114).isSome = true := by kernel_rfl
@[go_sem] theorem k125 : tyk Tryz.prog 125 = .scal := by kernel_rfl
@[go_sem] theorem c125 : Tryz.prog.cellsOf 125 = 1 := by kernel_rfl
@[go_sem] theorem b125 : Tryz.prog.bytesOf 125 = 8 := by kernel_rfl
@[go_sem] theorem z125 : tzO Tryz.prog 125 = some [.d .nilp] := by kernel_rfl
@[go_sem] theorem u125 : (Tryz.prog.underlying 125).isSome = true := by kernel_rfl
@[go_sem] theorem k136 : tyk Tryz.prog 136 = .struct [(0, 31), (66, 29)] := by kernel_rfl
@[go_sem] theorem c136 : Tryz.prog.cellsOf 136 = 67 := by kernel_rfl
@[go_sem] theorem b136 : Tryz.prog.bytesOf 136 = 120 := by kernel_rfl
@[go_sem] theorem u136 : (Tryz.prog.underlying 136).isSome = true := by kernel_rfl
@[go_sem] theorem k137 : tyk Tryz.prog 137 = .struct [(0, 31), (66, 29)] := by kernel_rfl
@[go_sem] theorem c137 : Tryz.prog.cellsOf 137 = 67 := by kernel_rfl
@[go_sem] theorem b137 : Tryz.prog.bytesOf 137 = 120 := by kernel_rfl
@[go_sem] theorem u137 : (Tryz.prog.underlying 137).isSome = true := by kernel_rfl
@[go_sem] theorem k139 : tyk Tryz.prog 139 = .slice 183 := by kernel_rfl
@[go_sem] theorem c139 : Tryz.prog.cellsOf 139 = 1 := by kernel_rfl
@[go_sem] theorem b139 : Tryz.prog.bytesOf 139 = 24 := by kernel_rfl
@[go_sem] theorem z139 : tzO Tryz.prog 139 = some [.nil] := by kernel_rfl
@[go_sem] theorem u139 : (Tryz.prog.underlying 139).isSome = true := by kernel_rfl
@[go_sem] theorem k142 : tyk Tryz.prog 142 = .slice 145 := by kernel_rfl
@[go_sem] theorem c142 : Tryz.prog.cellsOf 142 = 1 := by kernel_rfl
@[go_sem] theorem b142 : Tryz.prog.bytesOf 142 = 24 := by kernel_rfl
@[go_sem] theorem z142 : tzO Tryz.prog 142 = some [.nil] := by kernel_rfl
@[go_sem] theorem u142 : (Tryz.prog.underlying 142).isSome = true := by kernel_rfl
@[go_sem] theorem k144 : tyk Tryz.prog 144 = .struct [(0, 22), (32, 3), (33, 3)] := by kernel_rfl
@[go_sem] theorem c144 : Tryz.prog.cellsOf 144 = 34 := by kernel_rfl
@[go_sem] theorem b144 : Tryz.prog.bytesOf 144 = 48 := by kernel_rfl
@[go_sem] theorem u144 : (Tryz.prog.underlying 144).isSome = true := by kernel_rfl
@[go_sem] theorem k145 : tyk Tryz.prog 145 = .struct [(0, 22), (32, 3), (33, 3)] := by kernel_rfl
@[go_sem] theorem c145 : Tryz.prog.cellsOf 145 = 34 := by kernel_rfl
@[go_sem] theorem b145 : Tryz.prog.bytesOf 145 = 48 := by kernel_rfl
@[go_sem] theorem u145 : (Tryz.prog.underlying 145).isSome = true := by kernel_rfl
@[go_sem] theorem k150 : tyk Tryz.prog 150 = .struct [(0, 5), (1, 29)] := by kernel_rfl
@[go_sem] theorem c150 : Tryz.prog.cellsOf 150 = 2 := by kernel_rfl
@[go_sem] theorem b150 : Tryz.prog.bytesOf 150 = 32 := by kernel_rfl
@[go_sem] theorem z150 : tzO Tryz.prog 150 = some [.d (.int .u8 0), .nil] := by kernel_rfl
@[go_sem] theorem u150 : (Tryz.prog.underlying 150).isSome = true := by kernel_rfl
@[go_sem] theorem k151 : tyk Tryz.prog 151 = .struct [(0, 5), (1, 29)] := by kernel_rfl
@[go_sem] theorem c151 : Tryz.prog.cellsOf 151 = 2 := by kernel_rfl
@[go_sem] theorem b151 : Tryz.prog.bytesOf 151 = 32 := by kernel_rfl
@[go_sem] theorem z151 : tzO Tryz.prog 151 = some [.d (.int .u8 0), .nil] := by kernel_rfl
@[go_sem] theorem u151 : (Tryz.prog.underlying 151).isSome = true := by kernel_rfl
@[go_sem] theorem k162 : tyk Tryz.prog 162 = .arr 8 23 := by kernel_rfl
@[go_sem] theorem c162 : Tryz.prog.cellsOf 162 = 8 := by kernel_rfl
@[go_sem] theorem b162 : Tryz.prog.bytesOf 162 = 32 := by kernel_rfl
@[go_sem] theorem z162 : tzO Tryz.prog 162 = some [.d (.int .u32 0), .d (.int .u32 0), .d (.int .u32 0), .d (.int .u32 0), .d (.int .u32 0), .d (.int .u32 0), .d (.int .u32 0), .d (.int .u32 0)] := by kernel_rfl
@[go_sem] theorem u162 : (Tryz.prog.underlying 162).isSome = true := by kernel_rfl
@[go_sem] theorem k163 : tyk Tryz.prog 163 = .arr 8 23 := by kernel_rfl
@[go_sem] theorem c163 : Tryz.prog.cellsOf 163 = 8 := by kernel_rfl
@[go_sem] theorem b163 : Tryz.prog.bytesOf 163 = 32 := by kernel_rfl
@[go_sem] theorem z163 : tzO Tryz.prog 163 = some [.d (.int .u32 0), .d (.int .u32 0), .d (.int .u32 0), .d (.int .u32 0), .d (.int .u32 0), .d (.int .u32 0), .d (.int .u32 0), .d (.int .u32 0)] := by kernel_rfl
@[go_sem] theorem u163 : (Tryz.prog.underlying 163).isSome = true := by kernel_rfl
@[go_sem] theorem k165 : tyk Tryz.prog 165 = .struct [(0, 163), (8, 29), (9, 26)] := by kernel_rfl
@[go_sem] theorem c165 : Tryz.prog.cellsOf 165 = 10 := by kernel_rfl
@[go_sem] theorem b165 : Tryz.prog.bytesOf 165 = 64 := by kernel_rfl
@[go_sem] theorem z165 : tzO Tryz.prog 165 = some [.d (.int .u32 0), .d (.int .u32 0), .d (.int .u32 0), .d (.int .u32 0), .d (.int .u32 0), .d (.int .u32 0), .d (.int .u32 0), .d (.int .u32 0), .nil, .d (.int .u64 0)] := by kernel_rfl
@[go_sem] theorem u165 : (Tryz.prog.underlying 165).isSome = true := by kernel_rfl
@[go_sem] theorem k166 : tyk Tryz.prog 166 = .struct [(0, 163), (8, 29), (9, 26)] := by kernel_rfl
@[go_sem] theorem c166 : Tryz.prog.cellsOf 166 = 10 := by kernel_rfl
@[go_sem] theorem b166 : Tryz.prog.bytesOf 166 = 64 := by kernel_rfl
@[go_sem] theorem z166 : tzO Tryz.prog 166 = some [.d (.int .u32 0), .d (.int .u32 0), .d (.int .u32 0), .d (.int .u32 0), .d (.int .u32 0), .d (.int .u32 0), .d (.int .u32 0), .d (.int .u32 0), .nil, .d (.int .u64 0)] := by kernel_rfl
@[go_sem] theorem u166 : (Tryz.prog.underlying 166).isSome = true := by kernel_rfl
@[go_sem] theorem k169 : tyk Tryz.prog 169 = .scal := by kernel_rfl
@[go_sem] theorem c169 : Tryz.prog.cellsOf 169 = 1 := by kernel_rfl
@[go_sem] theorem b169 : Tryz.prog.bytesOf 169 = 8 := by kernel_rfl
@[go_sem] theorem z169 : tzO Tryz.prog 169 = some [.d (.int .u64 0)] := by kernel_rfl
@[go_sem] theorem i169 : ikind Tryz.prog 169 = some .u64 := by kernel_rfl
@[go_sem] theorem u169 : (Tryz.prog.underlying 169).isSome = true := by kernel_rfl
@[go_sem] theorem k171 : tyk Tryz.prog 171 = .slice 175 := by kernel_rfl
@[go_sem] theorem c171 : Tryz.prog.cellsOf 171 = 1 := by kernel_rfl
@[go_sem] theorem b171 : Tryz.prog.bytesOf 171 = 24 := by kernel_rfl
@[go_sem] theorem z171 : tzO Tryz.prog 171 = some [.nil] := by kernel_rfl
@[go_sem] theorem u171 : (Tryz.prog.underlying 171).isSome = true := by kernel_rfl
@[go_sem] theorem k174 : tyk Tryz.prog 174 = .struct [(0, 3), (1, 22)] := by kernel_rfl
@[go_sem] theorem c174 : Tryz.prog.cellsOf 174 = 33 := by kernel_rfl
@[go_sem] theorem b174 : Tryz.prog.bytesOf 174 = 40 := by kernel_rfl
@[go_sem] theorem u174 : (Tryz.prog.underlying 174).isSome = true := by kernel_rfl
@[go_sem] theorem k175 : tyk Tryz.prog 175 = .struct [(0, 3), (1, 22)] := by kernel_rfl
@[go_sem] theorem c175 : Tryz.prog.cellsOf 175 = 33 := by kernel_rfl
@[go_sem] theorem b175 : Tryz.prog.bytesOf 175 = 40 := by kernel_rfl
@[go_sem] theorem u175 : (Tryz.prog.underlying 175).isSome = true := by kernel_rfl
@[go_sem] theorem k179 : tyk Tryz.prog 179 = .scal := by kernel_rfl
@[go_sem] theorem c179 : Tryz.prog.cellsOf 179 = 1 := by kernel_rfl
@[go_sem] theorem b179 : Tryz.prog.bytesOf 179 = 8 := by kernel_rfl
@[go_sem] theorem z179 : tzO Tryz.prog 179 = some [.d .nilp] := by kernel_rfl
@[go_sem] theorem u179 : (Tryz.prog.underlying 179).isSome = true := by kernel_rfl
@[go_sem] theorem k182 : tyk Tryz.prog 182 = .struct [(0, 3), (1, 22), (33, 29)] := by kernel_rfl
@[go_sem] theorem c182 : Tryz.prog.cellsOf 182 = 34 := by kernel_rfl
@[go_sem] theorem b182 : Tryz.prog.bytesOf 182 = 64 := by kernel_rfl
@[go_sem] theorem u182 : (Tryz.prog.underlying 182).isSome = true := by kernel_rfl
@[go_sem] theorem k183 : tyk Tryz.prog 183 = .struct [(0, 3), (1, 22), (33, 29)] := by kernel_rfl
@[go_sem] theorem c183 : Tryz.prog.cellsOf 183 = 34 := by kernel_rfl
@[go_sem] theorem b183 : Tryz.prog.bytesOf 183 = 64 := by kernel_rfl
@[go_sem] theorem u183 : (Tryz.prog.underlying 183).isSome = true := by kernel_rfl
@[go_sem] theorem k186 : tyk Tryz.prog 186 = .scal := by kernel_rfl
@[go_sem] theorem c186 : Tryz.prog.cellsOf 186 = 1 := by kernel_rfl
@[go_sem] theorem b186 : Tryz.prog.bytesOf 186 = 8 := by kernel_rfl
@[go_sem] theorem z186 : tzO Tryz.prog 186 = some [.d .nilp] := by kernel_rfl
@[go_sem] theorem u186 : (Tryz.prog.underlying 186).isSome = true := by kernel_rfl
@[go_sem] theorem k189 : tyk Tryz.prog 189 = .slice 151 := by kernel_rfl
@[go_sem] theorem c189 : Tryz.prog.cellsOf 189 = 1 := by kernel_rfl
@[go_sem] theorem b189 : Tryz.prog.bytesOf 189 = 24 := by kernel_rfl
@[go_sem] theorem z189 : tzO Tryz.prog 189 = some [.nil] := by kernel_rfl
@[go_sem] theorem u189 : (Tryz.prog.underlying 189).isSome = true := by kernel_rfl
@[go_sem] theorem k193 : tyk Tryz.prog 193 = .arr 4 26 := by kernel_rfl
@[go_sem] theorem c193 : Tryz.prog.cellsOf 193 = 4 := by kernel_rfl
@[go_sem] theorem b193 : Tryz.prog.bytesOf 193 = 32 := by kernel_rfl
@[go_sem] theorem z193 : tzO Tryz.prog 193 = some [.d (.int .u64 0), .d (.int .u64 0), .d (.int .u64 0), .d (.int .u64 0)] := by kernel_rfl
@[go_sem] theorem u193 : (Tryz.prog.underlying 193).isSome = true := by kernel_rfl
@[go_sem] theorem k194 : tyk Tryz.prog 194 = .arr 4 26 := by kernel_rfl
@[go_sem] theorem c194 : Tryz.prog.cellsOf 194 = 4 := by kernel_rfl
@[go_sem] theorem b194 : Tryz.prog.bytesOf 194 = 32 := by kernel_rfl
@[go_sem] theorem z194 : tzO Tryz.prog 194 = some [.d (.int .u64 0), .d (.int .u64 0), .d (.int .u64 0), .d (.int .u64 0)] := by kernel_rfl
@[go_sem] theorem u194 : (Tryz.prog.underlying 194).isSome = true := by kernel_rfl
@[go_sem] theorem k195 : tyk Tryz.prog 195 = .struct [(0, 194), (4, 194), (8, 4)] := by kernel_rfl
@[go_sem] theorem c195 : Tryz.prog.cellsOf 195 = 9 := by kernel_rfl
@[go_sem] theorem b195 : Tryz.prog.bytesOf 195 = 72 := by kernel_rfl
@[go_sem] theorem z195 : tzO Tryz.prog 195 = some [.d (.int .u64 0), .d (.int .u64 0), .d (.int .u64 0), .d (.int .u64 0), .d (.int .u64 0), .d (.int .u64 0), .d (.int .u64 0), .d (.int .u64 0), .d (.bool false)] := by kernel_rfl
@[go_sem] theorem u195 : (Tryz.prog.underlying 195).isSome = true := by kernel_rfl
@[go_sem] theorem k196 : tyk Tryz.prog 196 = .struct [(0, 194), (4, 194), (8, 4)] := by kernel_rfl
@[go_sem] theorem c196 : Tryz.prog.cellsOf 196 = 9 := by kernel_rfl
@[go_sem] theorem b196 : Tryz.prog.bytesOf 196 = 72 := by kernel_rfl
@[go_sem] theorem z196 : tzO Tryz.prog 196 = some [.d (.int .u64 0), .d (.int .u64 0), .d (.int .u64 0), .d (.int .u64 0), .d (.int .u64 0), .d (.int .u64 0), .d (.int .u64 0), .d (.int .u64 0), .d (.bool false)] := by kernel_rfl
@[go_sem] theorem u196 : (Tryz.prog.underlying 196).isSome = true := by kernel_rfl
@[go_sem] theorem k208 : tyk Tryz.prog 208 = .scal := by kernel_rfl
@[go_sem] theorem c208 : Tryz.prog.cellsOf 208 = 1 := by kernel_rfl
@[go_sem] theorem b208 : Tryz.prog.bytesOf 208 = 2 := by kernel_rfl
@[go_sem] theorem z208 : tzO Tryz.prog 208 = some [.d (.int .u16 0)] := by kernel_rfl
@[go_sem] theorem i208 : ikind Tryz.prog 208 = some .u16 := by kernel_rfl
@[go_sem] theorem u208 : (Tryz.prog.underlying 208).isSome = true := by kernel_rfl
@[go_sem] theorem k210 : tyk Tryz.prog 210 = .scal := by kernel_rfl
@[go_sem] theorem c210 : Tryz.prog.cellsOf 210 = 1 := by kernel_rfl
@[go_sem] theorem b210 : Tryz.prog.bytesOf 210 = 8 := by kernel_rfl
@[go_sem] theorem z210 : tzO Tryz.prog 210 = some [.d .nilp] := by kernel_rfl
@[go_sem] theorem u210 : (Tryz.prog.underlying 210).isSome = true := by kernel_rfl
@[go_sem] theorem k211 : tyk Tryz.prog 211 = .arr 64 23 := by kernel_rfl
@[go_sem] theorem c211 : Tryz.prog.cellsOf 211 = 64 := by kernel_rfl
@[go_sem] theorem b211 : Tryz.prog.bytesOf 211 = 256 := by kernel_rfl
@[go_sem] theorem u211 : (Tryz.prog.underlying 211).isSome = true := by kernel_rfl
@[go_sem] theorem k229 : tyk Tryz.prog 229 = .struct [(0, 194), (4, 194), (8, 194)] := by kernel_rfl
@[go_sem] theorem c229 : Tryz.prog.cellsOf 229 = 12 := by kernel_rfl
@[go_sem] theorem b229 : Tryz.prog.bytesOf 229 = 96 := by kernel_rfl
@[go_sem] theorem z229 : tzO Tryz.prog 229 = some [.d (.int .u64 0), .d (.int .u64 0), .d (.int .u64 0), .d (.int .u64 0), .d (.int .u64 0), .d (.int .u64 0), .d (.int .u64 0), .d (.int .u64 0), .d (.int .u64 0), .d (.int .u64 0), .d (.int .u64 0), .d (.int .u64 0)] := by kernel_rfl
@[go_sem] theorem u229 : (Tryz.prog.underlying 229).isSome = true := by kernel_rfl
@[go_sem] theorem k230 : tyk Tryz.prog 230 = .struct [(0, 194), (4, 194), (8, 194)] := by kernel_rfl
@[go_sem] theorem c230 : Tryz.prog.cellsOf 230 = 12 := by kernel_rfl
@[go_sem] theorem b230 : Tryz.prog.bytesOf 230 = 96 := by kernel_rfl
@[go_sem] theorem z230 : tzO Tryz.prog 230 = some [.d (.int .u64 0), .d (.int .u64 0), .d (.int .u64 0), .d (.int .u64 0), .d (.int .u64 0), .d (.int .u64 0), .d (.int .u64 0), .d (.int .u64 0), .d (.int .u64 0), .d (.int .u64 0), .d (.int .u64 0), .d (.int .u64 0)] := by kernel_rfl
@[go_sem] theorem u230 : (Tryz.prog.underlying 230).isSome = true := by kernel_rfl
@[go_sem] theorem k238 : tyk Tryz.prog 238 = .slice 241 := by kernel_rfl
@[go_sem] theorem c238 : Tryz.prog.cellsOf 238 = 1 := by kernel_rfl
@[go_sem] theorem b238 : Tryz.prog.bytesOf 238 = 24 := by kernel_rfl
@[go_sem] theorem z238 : tzO Tryz.prog 238 = some [.nil] := by kernel_rfl
@[go_sem] theorem u238 : (Tryz.prog.underlying 238).isSome = true := by kernel_rfl
@[go_sem] theorem k239 : tyk Tryz.prog 239 = .slice 3 := by kernel_rfl
@[go_sem] theorem c239 : Tryz.prog.cellsOf 239 = 1 := by kernel_rfl
@[go_sem] theorem b239 : Tryz.prog.bytesOf 239 = 24 := by kernel_rfl
@[go_sem] theorem z239 : tzO Tryz.prog 239 = some [.nil] := by kernel_rfl
@[go_sem] theorem u239 : (Tryz.prog.underlying 239).isSome = true := by kernel_rfl
@[go_sem] theorem k240 : tyk Tryz.prog 240 = .struct [(0, 22), (32, 239)] := by kernel_rfl
@[go_sem] theorem c240 : Tryz.prog.cellsOf 240 = 33 := by kernel_rfl
@[go_sem] theorem b240 : Tryz.prog.bytesOf 240 = 56 := by kernel_rfl
@[go_sem] theorem u240 : (Tryz.prog.underlying 240).isSome = true := by kernel_rfl
@[go_sem] theorem k241 : tyk Tryz.prog 241 = .struct [(0, 22), (32, 239)] := by kernel_rfl
@[go_sem] theorem c241 : Tryz.prog.cellsOf 241 = 33 := by kernel_rfl
@[go_sem] theorem b241 : Tryz.prog.bytesOf 241 = 56 := by kernel_rfl
@[go_sem] theorem u241 : (Tryz.prog.underlying 241).isSome = true := by kernel_rfl
@[go_sem] theorem k253 : tyk Tryz.prog 253 = .struct [(0, 194), (4, 194), (8, 194)] := by kernel_rfl
@[go_sem] theorem c253 : Tryz.prog.cellsOf 253 = 12 := by kernel_rfl
@[go_sem] theorem b253 : Tryz.prog.bytesOf 253 = 96 := by kernel_rfl
@[go_sem] theorem z253 : tzO Tryz.prog 253 = some [.d (.int .u64 0), .d (.int .u64 0), .d (.int .u64 0), .d (.int .u64 0), .d (.int .u64 0), .d (.int .u64 0), .d (.int .u64 0), .d (.int .u64 0), .d (.int .u64 0), .d (.int .u64 0), .d (.int .u64 0), .d (.int .u64 0)] := by kernel_rfl
@[go_sem] theorem u253 : (Tryz.prog.underlying 253).isSome = true := by kernel_rfl
@[go_sem] theorem k254 : tyk Tryz.prog 254 = .struct [(0, 194), (4, 194), (8, 194)] := by kernel_rfl
@[go_sem] theorem c254 : Tryz.prog.cellsOf 254 = 12 := by kernel_rfl
@[go_sem] theorem b254 : Tryz.prog.bytesOf 254 = 96 := by kernel_rfl
@[go_sem] theorem z254 : tzO Tryz.prog 254 = some [.d (.int .u64 0), .d (.int .u64 0), .d (.int .u64 0), .d (.int .u64 0), .d (.int .u64 0), .d (.int .u64 0), .d (.int .u64 0), .d (.int .u64 0), .d (.int .u64 0), .d (.int .u64 0), .d (.int .u64 0), .d (.int .u64 0)] := by kernel_rfl
@[go_sem] theorem u254 : (Tryz.prog.underlying 254).isSome = true := by kernel_rfl
@[go_sem] theorem k258 : tyk Tryz.prog 258 = .slice 23 := by kernel_rfl
@[go_sem] theorem c258 : Tryz.prog.cellsOf 258 = 1 := by kernel_rfl
@[go_sem] theorem b258 : Tryz.prog.bytesOf 258 = 24 := by kernel_rfl
@[go_sem] theorem z258 : tzO Tryz.prog 258 = some [.nil] := by kernel_rfl
@[go_sem] theorem u258 : (Tryz.prog.underlying 258).isSome = true := by kernel_rfl
@[go_sem] theorem k267 : tyk Tryz.prog 267 = .arr 8 26 := by kernel_rfl
@[go_sem] theorem c267 : Tryz.prog.cellsOf 267 = 8 := by kernel_rfl
@[go_sem] theorem b267 : Tryz.prog.bytesOf 267 = 64 := by kernel_rfl
@[go_sem] theorem z267 : tzO Tryz.prog 267 = some [.d (.int .u64 0), .d (.int .u64 0), .d (.int .u64 0), .d (.int .u64 0), .d (.int .u64 0), .d (.int .u64 0), .d (.int .u64 0), .d (.int .u64 0)] := by kernel_rfl
@[go_sem] theorem u267 : (Tryz.prog.underlying 267).isSome = true := by kernel_rfl
@[go_sem] theorem k269 : tyk Tryz.prog 269 = .arr 16 26 := by kernel_rfl
@[go_sem] theorem c269 : Tryz.prog.cellsOf 269 = 16 := by kernel_rfl
@[go_sem] theorem b269 : Tryz.prog.bytesOf 269 = 128 := by kernel_rfl
@[go_sem] theorem u269 : (Tryz.prog.underlying 269).isSome = true := by kernel_rfl
@[go_sem] theorem k273 : tyk Tryz.prog 273 = .slice 26 := by kernel_rfl
@[go_sem] theorem c273 : Tryz.prog.cellsOf 273 = 1 := by kernel_rfl
@[go_sem] theorem b273 : Tryz.prog.bytesOf 273 = 24 := by kernel_rfl
@[go_sem] theorem z273 : tzO Tryz.prog 273 = some [.nil] := by kernel_rfl
@[go_sem] theorem u273 : (Tryz.prog.underlying 273).isSome = true := by kernel_rfl
@[go_sem] theorem k276 : tyk Tryz.prog 276 = .arr 10 26 := by kernel_rfl
@[go_sem] theorem c276 : Tryz.prog.cellsOf 276 = 10 := by kernel_rfl
@[go_sem] theorem b276 : Tryz.prog.bytesOf 276 = 80 := by kernel_rfl
@[go_sem] theorem z276 : tzO Tryz.prog 276 = some [.d (.int .u64 0), .d (.int .u64 0), .d (.int .u64 0), .d (.int .u64 0), .d (.int .u64 0), .d (.int .u64 0), .d (.int .u64 0), .d (.int .u64 0), .d (.int .u64 0), .d (.int .u64 0)] := by kernel_rfl
@[go_sem] theorem u276 : (Tryz.prog.underlying 276).isSome = true := by kernel_rfl
@[go_sem] theorem k278 : tyk Tryz.prog 278 = .struct [(0, 17), (1, 17), (2, 17), (3, 9)] := by kernel_rfl
@[go_sem] theorem c278 : Tryz.prog.cellsOf 278 = 4 := by kernel_rfl
@[go_sem] theorem b278 : Tryz.prog.bytesOf 278 = 40 := by kernel_rfl
@[go_sem] theorem z278 : tzO Tryz.prog 278 = some [.d .nilp, .d .nilp, .d .nilp, .d (.str [])] := by kernel_rfl
@[go_sem] theorem u278 : (Tryz.prog.underlying 278).isSome = true := by kernel_rfl
@[go_sem] theorem k279 : tyk Tryz.prog 279 = .struct [(0, 17), (1, 17), (2, 17), (3, 9)] := by kernel_rfl
@[go_sem] theorem c279 : Tryz.prog.cellsOf 279 = 4 := by kernel_rfl
@[go_sem] theorem b279 : Tryz.prog.bytesOf 279 = 40 := by kernel_rfl
@[go_sem] theorem z279 : tzO Tryz.prog 279 = some [.d .nilp, .d .nilp, .d .nilp, .d (.str [])] := by kernel_rfl
@[go_sem] theorem u279 : (Tryz.prog.underlying 279).isSome = true := by kernel_rfl
@[go_sem] theorem k280 : tyk Tryz.prog 280 = .arr 0 16 := by kernel_rfl
@[go_sem] theorem c280 : Tryz.prog.cellsOf 280 = 0 := by kernel_rfl
@[go_sem] theorem u280 : (Tryz.prog.underlying 280).isSome = true := by kernel_rfl
@[go_sem] theorem k281 : tyk Tryz.prog 281 = .struct [(0, 280)] := by kernel_rfl
@[go_sem] theorem c281 : Tryz.prog.cellsOf 281 = 0 := by kernel_rfl
@[go_sem] theorem u281 : (Tryz.prog.underlying 281).isSome = true := by kernel_rfl
@[go_sem] theorem k282 : tyk Tryz.prog 282 = .struct [(0, 280)] := by kernel_rfl
@[go_sem] theorem c282 : Tryz.prog.cellsOf 282 = 0 := by kernel_rfl
@[go_sem] theorem u282 : (Tryz.prog.underlying 282).isSome = true := by kernel_rfl
@[go_sem] theorem k283 : tyk Tryz.prog 283 = .scal := by kernel_rfl
@[go_sem] theorem c283 : Tryz.prog.cellsOf 283 = 1 := by kernel_rfl
@[go_sem] theorem b283 : Tryz.prog.bytesOf 283 = 1 := by kernel_rfl
@[go_sem] theorem z283 : tzO Tryz.prog 283 = some [.d (.int .u8 0)] := by kernel_rfl
@[go_sem] theorem i283 : ikind Tryz.prog 283 = some .u8 := by kernel_rfl
@[go_sem] theorem u283 : (Tryz.prog.underlying 283).isSome = true := by kernel_rfl
@[go_sem] theorem k284 : tyk Tryz.prog 284 = .scal := by kernel_rfl
@[go_sem] theorem c284 : Tryz.prog.cellsOf 284 = 1 := by kernel_rfl
@[go_sem] theorem b284 : Tryz.prog.bytesOf 284 = 1 := by kernel_rfl
@[go_sem] theorem z284 : tzO Tryz.prog 284 = some [.d (.int .u8 0)] := by kernel_rfl
@[go_sem] theorem i284 : ikind Tryz.prog 284 = some .u8 := by kernel_rfl
@[go_sem] theorem u284 : (Tryz.prog.underlying 284).isSome = true := by kernel_rfl
@[go_sem] theorem k286 : tyk Tryz.prog 286 = .scal := by kernel_rfl
@[go_sem] theorem c286 : Tryz.prog.cellsOf 286 = 1 := by kernel_rfl
@[go_sem] theorem b286 : Tryz.prog.bytesOf 286 = 8 := by kernel_rfl
@[go_sem] theorem z286 : tzO Tryz.prog 286 = some [.d .nilp] := by kernel_rfl
@[go_sem] theorem u286 : (Tryz.prog.underlying 286).isSome = true := by kernel_rfl
@[go_sem] theorem k287 : tyk Tryz.prog 287 = .scal := by kernel_rfl
@[go_sem] theorem c287 : Tryz.prog.cellsOf 287 = 1 := by kernel_rfl
@[go_sem] theorem b287 : Tryz.prog.bytesOf 287 = 4 := by kernel_rfl
@[go_sem] theorem z287 : tzO Tryz.prog 287 = some [.d (.int .i32 0)] := by kernel_rfl
@[go_sem] theorem i287 : ikind Tryz.prog 287 = some .i32 := by kernel_rfl
@[go_sem] theorem u287 : (Tryz.prog.underlying 287).isSome = true := by kernel_rfl
@[go_sem] theorem k288 : tyk Tryz.prog 288 = .scal := by kernel_rfl
@[go_sem] theorem c288 : Tryz.prog.cellsOf 288 = 1 := by kernel_rfl
@[go_sem] theorem b288 : Tryz.prog.bytesOf 288 = 4 := by kernel_rfl
@[go_sem] theorem z288 : tzO Tryz.prog 288 = some [.d (.int .i32 0)] := by kernel_rfl
@[go_sem] theorem i288 : ikind Tryz.prog 288 = some .i32 := by kernel_rfl
@[go_sem] theorem u288 : (Tryz.prog.underlying 288).isSome = true := by kernel_rfl
end Go.Proofs.YtpnbpojpcbnejaaGreat
