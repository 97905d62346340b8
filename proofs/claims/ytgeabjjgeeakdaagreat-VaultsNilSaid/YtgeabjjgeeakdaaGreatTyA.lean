/-
  Facts of types, printed by a program of ours.
-/
import Derived.Test.YtgeabjjgeeakdaaGreatRows
import Derived.Test.YtgeabjjgeeakdaaGreatAmRun
namespace Go.Proofs.YtgeabjjgeeakdaaGreat
open Go.Am
set_option maxRecDepth 100000
@[go_sem] theorem k2 : tyk Tryz.prog 2 = .scal := by kernel_rfl
@[go_sem] theorem c2 : Tryz.prog.cellsOf 2 = 1 := by kernel_rfl
@[go_sem] theorem b2 : Tryz.prog.bytesOf 2 = 8 := by kernel_rfl
@[go_sem] theorem z2 : tzO Tryz.prog 2 = some [.d (.int .i64 0)] := by kernel_rfl
@[go_sem] theorem i2 : ikind Tryz.prog 2 = some .i64 := by kernel_rfl
@[go_sem] theorem u2 : (Tryz.prog.underlying 2).isSome = true := by kernel_rfl
@[go_sem] theorem k3 : tyk Tryz.prog 3 = .scal := by kernel_rfl
@[go_sem] theorem c3 : Tryz.prog.cellsOf 3 = 1 := by kernel_rfl
@[go_sem] theorem b3 : Tryz.prog.bytesOf 3 = 8 := by kernel_rfl
@[go_sem] theorem z3 : tzO Tryz.prog 3 = some [.d (.int .i64 0)] := by kernel_rfl
@[go_sem] theorem i3 : ikind Tryz.prog 3 = some .i64 := by kernel_rfl
@[go_sem] theorem u3 : (Tryz.prog.underlying 3).isSome = true := by kernel_rfl
@[go_sem] theorem k4 : tyk Tryz.prog 4 = .scal := by kernel_rfl
@[go_sem] theorem c4 : Tryz.prog.cellsOf 4 = 1 := by kernel_rfl
@[go_sem] theorem b4 : Tryz.prog.bytesOf 4 = 1 := by kernel_rfl
@[go_sem] theorem z4 : tzO Tryz.prog 4 = some [.d (.bool false)] := by kernel_rfl
@[go_sem] theorem u4 : (Tryz.prog.underlying 4).isSome = true := by kernel_rfl
@[go_sem] theorem k5 : tyk Tryz.prog 5 = .scal := by kernel_rfl
@[go_sem] theorem c5 : Tryz.prog.cellsOf 5 = 1 := by kernel_rfl
@[go_sem] theorem b5 : Tryz.prog.bytesOf 5 = 1 := by kernel_rfl
@[go_sem] theorem z5 : tzO Tryz.prog 5 = some [.d (.int .u8 0)] := by kernel_rfl
@[go_sem] theorem i5 : ikind Tryz.prog 5 = some .u8 := by kernel_rfl
@[go_sem] theorem u5 : (Tryz.prog.underlying 5).isSome = true := by kernel_rfl
@[go_sem] theorem k6 : tyk Tryz.prog 6 = .scal := by kernel_rfl
@[go_sem] theorem c6 : Tryz.prog.cellsOf 6 = 1 := by kernel_rfl
@[go_sem] theorem b6 : Tryz.prog.bytesOf 6 = 1 := by kernel_rfl
@[go_sem] theorem z6 : tzO Tryz.prog 6 = some [.d (.int .u8 0)] := by kernel_rfl
@[go_sem] theorem i6 : ikind Tryz.prog 6 = some .u8 := by kernel_rfl
@[go_sem] theorem u6 : (Tryz.prog.underlying 6).isSome = true := by kernel_rfl
@[go_sem] theorem k7 : tyk Tryz.prog 7 = .struct [(0, 2), (1, 3), (2, 4), (3, 6)] := by kernel_rfl
@[go_sem] theorem c7 : Tryz.prog.cellsOf 7 = 4 := by kernel_rfl
@[go_sem] theorem b7 : Tryz.prog.bytesOf 7 = 24 := by kernel_rfl
@[go_sem] theorem z7 : tzO Tryz.prog 7 = some [.d (.int .i64 0), .d (.int .i64 0), .d (.bool false), .d (.int .u8 0)] := by kernel_rfl
@[go_sem] theorem u7 : (Tryz.prog.underlying 7).isSome = true := by kernel_rfl
@[go_sem] theorem k8 : tyk Tryz.prog 8 = .struct [(0, 2), (1, 3), (2, 4), (3, 6)] := by kernel_rfl
@[go_sem] theorem c8 : Tryz.prog.cellsOf 8 = 4 := by kernel_rfl
@[go_sem] theorem b8 : Tryz.prog.bytesOf 8 = 24 := by kernel_rfl
@[go_sem] theorem z8 : tzO Tryz.prog 8 = some [.d (.int .i64 0), .d (.int .i64 0), .d (.bool false), .d (.int .u8 0)] := by kernel_rfl
@[go_sem] theorem u8 : (Tryz.prog.underlying 8).isSome = true := by kernel_rfl
@[go_sem] theorem k9 : tyk Tryz.prog 9 = .str := by kernel_rfl
@[go_sem] theorem c9 : Tryz.prog.cellsOf 9 = 1 := by kernel_rfl
@[go_sem] theorem b9 : Tryz.prog.bytesOf 9 = 16 := by kernel_rfl
@[go_sem] theorem z9 : tzO Tryz.prog 9 = some [.d (.str [])] := by kernel_rfl
@[go_sem] theorem u9 : (Tryz.prog.underlying 9).isSome = true := by kernel_rfl
@[go_sem] theorem k10 : tyk Tryz.prog 10 = .str := by kernel_rfl
@[go_sem] theorem c10 : Tryz.prog.cellsOf 10 = 1 := by kernel_rfl
@[go_sem] theorem b10 : Tryz.prog.bytesOf 10 = 16 := by kernel_rfl
@[go_sem] theorem z10 : tzO Tryz.prog 10 = some [.d (.str [])] := by kernel_rfl
@[go_sem] theorem u10 : (Tryz.prog.underlying 10).isSome = true := by kernel_rfl
@[go_sem] theorem k11 : tyk Tryz.prog 11 = .str := by kernel_rfl
@[go_sem] theorem c11 : Tryz.prog.cellsOf 11 = 1 := by kernel_rfl
@[go_sem] theorem b11 : Tryz.prog.bytesOf 11 = 16 := by kernel_rfl
@[go_sem] theorem z11 : tzO Tryz.prog 11 = some [.d (.str [])] := by kernel_rfl
@[go_sem] theorem u11 : (Tryz.prog.underlying 11).isSome = true := by kernel_rfl
@[go_sem] theorem k12 : tyk Tryz.prog 12 = .scal := by kernel_rfl
@[go_sem] theorem c12 : Tryz.prog.cellsOf 12 = 1 := by kernel_rfl
@[go_sem] theorem b12 : Tryz.prog.bytesOf 12 = 8 := by kernel_rfl
@[go_sem] theorem z12 : tzO Tryz.prog 12 = some [.d (.int .u64 0)] := by kernel_rfl
@[go_sem] theorem i12 : ikind Tryz.prog 12 = some .u64 := by kernel_rfl
@[go_sem] theorem u12 : (Tryz.prog.underlying 12).isSome = true := by kernel_rfl
@[go_sem] theorem k13 : tyk Tryz.prog 13 = .struct [(0, 9), (1, 12)] := by kernel_rfl
@[go_sem] theorem c13 : Tryz.prog.cellsOf 13 = 2 := by kernel_rfl
@[go_sem] theorem b13 : Tryz.prog.bytesOf 13 = 24 := by kernel_rfl
@[go_sem] theorem z13 : tzO Tryz.prog 13 = some [.d (.str []), .d (.int .u64 0)] := by kernel_rfl
@[go_sem] theorem u13 : (Tryz.prog.underlying 13).isSome = true := by kernel_rfl
@[go_sem] theorem k14 : tyk Tryz.prog 14 = .struct [(0, 9), (1, 12)] := by kernel_rfl
@[go_sem] theorem c14 : Tryz.prog.cellsOf 14 = 2 := by kernel_rfl
@[go_sem] theorem b14 : Tryz.prog.bytesOf 14 = 24 := by kernel_rfl
@[go_sem] theorem z14 : tzO Tryz.prog 14 = some [.d (.str []), .d (.int .u64 0)] := by kernel_rfl
@[go_sem] theorem u14 : (Tryz.prog.underlying 14).isSome = true := by kernel_rfl
@[go_sem] theorem k15 : tyk Tryz.prog 15 = .scal := by kernel_rfl
@[go_sem] theorem c15 : Tryz.prog.cellsOf 15 = 1 := by kernel_rfl
@[go_sem] theorem b15 : Tryz.prog.bytesOf 15 = 8 := by kernel_rfl
@[go_sem] theorem z15 : tzO Tryz.prog 15 = some [.d .nilp] := by kernel_rfl
@[go_sem] theorem u15 : (Tryz.prog.underlying 15).isSome = true := by kernel_rfl
@[go_sem] theorem k16 : tyk Tryz.prog 16 = .scal := by kernel_rfl
@[go_sem] theorem c16 : Tryz.prog.cellsOf 16 = 1 := by kernel_rfl
@[go_sem] theorem b16 : Tryz.prog.bytesOf 16 = 8 := by kernel_rfl
@[go_sem] theorem z16 : tzO Tryz.prog 16 = some [.d .nilp] := by kernel_rfl
@[go_sem] theorem u16 : (Tryz.prog.underlying 16).isSome = true := by kernel_rfl
@[go_sem] theorem k17 : tyk Tryz.prog 17 = .scal := by kernel_rfl
@[go_sem] theorem c17 : Tryz.prog.cellsOf 17 = 1 := by kernel_rfl
@[go_sem] theorem b17 : Tryz.prog.bytesOf 17 = 8 := by kernel_rfl
@[go_sem] theorem z17 : tzO Tryz.prog 17 = some [.d .nilp] := by kernel_rfl
@[go_sem] theorem u17 : (Tryz.prog.underlying 17).isSome = true := by kernel_rfl
@[go_sem] theorem k18 : tyk Tryz.prog 18 = .struct [(0, 17)] := by kernel_rfl
@[go_sem] theorem c18 : Tryz.prog.cellsOf 18 = 1 := by kernel_rfl
@[go_sem] theorem b18 : Tryz.prog.bytesOf 18 = 8 := by kernel_rfl
@[go_sem] theorem z18 : tzO Tryz.prog 18 = some [.d .nilp] := by kernel_rfl
@[go_sem] theorem u18 : (Tryz.prog.underlying 18).isSome = true := by kernel_rfl
@[go_sem] theorem k19 : tyk Tryz.prog 19 = .struct [(0, 17)] := by kernel_rfl
@[go_sem] theorem c19 : Tryz.prog.cellsOf 19 = 1 := by kernel_rfl
@[go_sem] theorem b19 : Tryz.prog.bytesOf 19 = 8 := by kernel_rfl
@[go_sem] theorem z19 : tzO Tryz.prog 19 = some [.d .nilp] := by kernel_rfl
@[go_sem] theorem u19 : (Tryz.prog.underlying 19).isSome = true := by kernel_rfl
@[go_sem] theorem k21 : tyk Tryz.prog 21 = .scal := by kernel_rfl
@[go_sem] theorem c21 : Tryz.prog.cellsOf 21 = 1 := by kernel_rfl
@[go_sem] theorem b21 : Tryz.prog.bytesOf 21 = 4 := by kernel_rfl
@[go_sem] theorem z21 : tzO Tryz.prog 21 = some [.d (.int .i32 0)] := by kernel_rfl
@[go_sem] theorem i21 : ikind Tryz.prog 21 = some .i32 := by kernel_rfl
@[go_sem] theorem u21 : (Tryz.prog.underlying 21).isSome = true := by kernel_rfl
@[go_sem] theorem k22 : tyk Tryz.prog 22 = .scal := by kernel_rfl
@[go_sem] theorem c22 : Tryz.prog.cellsOf 22 = 1 := by kernel_rfl
@[go_sem] theorem b22 : Tryz.prog.bytesOf 22 = 4 := by kernel_rfl
@[go_sem] theorem z22 : tzO Tryz.prog 22 = some [.d (.int .u32 0)] := by kernel_rfl
@[go_sem] theorem i22 : ikind Tryz.prog 22 = some .u32 := by kernel_rfl
@[go_sem] theorem u22 : (Tryz.prog.underlying 22).isSome = true := by kernel_rfl
@[go_sem] theorem k23 : tyk Tryz.prog 23 = .arr 32 5 := by kernel_rfl
@[go_sem] theorem c23 : Tryz.prog.cellsOf 23 = 32 := by kernel_rfl
@[go_sem] theorem b23 : Tryz.prog.bytesOf 23 = 32 := by kernel_rfl
@[go_sem] theorem u23 : (Tryz.prog.underlying 23).isSome = true := by kernel_rfl
@[go_sem] theorem k24 : tyk Tryz.prog 24 = .struct [(0, 22), (1, 23), (33, 23), (65, 22), (66, 22), (67, 22)] := by kernel_rfl
@[go_sem] theorem c24 : Tryz.prog.cellsOf 24 = 68 := by kernel_rfl
@[go_sem] theorem b24 : Tryz.prog.bytesOf 24 = 80 := by kernel_rfl
@[go_sem] theorem u24 : (Tryz.prog.underlying 24).isSome = true := by kernel_rfl
@[go_sem] theorem k25 : tyk Tryz.prog 25 = .struct [(0, 22), (1, 23), (33, 23), (65, 22), (66, 22), (67, 22)] := by kernel_rfl
@[go_sem] theorem c25 : Tryz.prog.cellsOf 25 = 68 := by kernel_rfl
@[go_sem] theorem b25 : Tryz.prog.bytesOf 25 = 80 := by kernel_rfl
@[go_sem] theorem u25 : (Tryz.prog.underlying 25).isSome = true := by kernel_rfl
@[go_sem] theorem k26 : tyk Tryz.prog 26 = .slice 50 := by kernel_rfl
@[go_sem] theorem c26 : Tryz.prog.cellsOf 26 = 1 := by kernel_rfl
@[go_sem] theorem b26 : Tryz.prog.bytesOf 26 = 24 := by kernel_rfl
@[go_sem] theorem z26 : tzO Tryz.prog 26 = some [.nil] := by kernel_rfl
@[go_sem] theorem u26 : (Tryz.prog.underlying 26).isSome = true := by kernel_rfl
@[go_sem] theorem k27 : tyk Tryz.prog 27 = .struct [(0, 25), (68, 26)] := by kernel_rfl
@[go_sem] theorem c27 : Tryz.prog.cellsOf 27 = 69 := by kernel_rfl
@[go_sem] theorem b27 : Tryz.prog.bytesOf 27 = 104 := by kernel_rfl
@[go_sem] theorem u27 : (Tryz.prog.underlying 27).isSome = true := by kernel_rfl
@[go_sem] theorem k28 : tyk Tryz.prog 28 = .struct [(0, 25), (68, 26)] := by kernel_rfl
@[go_sem] theorem c28 : Tryz.prog.cellsOf 28 = 69 := by kernel_rfl
@[go_sem] theorem b28 : Tryz.prog.bytesOf 28 = 104 := by kernel_rfl
@[go_sem] theorem u28 : (Tryz.prog.underlying 28).isSome = true := by kernel_rfl
@[go_sem] theorem k29 : tyk Tryz.prog 29 = .struct [(0, 23), (32, 22)] := by kernel_rfl
@[go_sem] theorem c29 : Tryz.prog.cellsOf 29 = 33 := by kernel_rfl
@[go_sem] theorem b29 : Tryz.prog.bytesOf 29 = 36 := by kernel_rfl
@[go_sem] theorem u29 : (Tryz.prog.underlying 29).isSome = true := by kernel_rfl
@[go_sem] theorem k30 : tyk Tryz.prog 30 = .struct [(0, 23), (32, 22)] := by kernel_rfl
@[go_sem] theorem c30 : Tryz.prog.cellsOf 30 = 33 := by kernel_rfl
@[go_sem] theorem b30 : Tryz.prog.bytesOf 30 = 36 := by kernel_rfl
@[go_sem] theorem u30 : (Tryz.prog.underlying 30).isSome = true := by kernel_rfl
@[go_sem] theorem k31 : tyk Tryz.prog 31 = .scal := by kernel_rfl
@[go_sem] theorem c31 : Tryz.prog.cellsOf 31 = 1 := by kernel_rfl
@[go_sem] theorem b31 : Tryz.prog.bytesOf 31 = 8 := by kernel_rfl
@[go_sem] theorem z31 : tzO Tryz.prog 31 = some [.d .nilp] := by kernel_rfl
@[go_sem] theorem u31 : (Tryz.prog.underlying 31).isSome = true := by kernel_rfl
@[go_sem] theorem k35 : tyk Tryz.prog 35 = .scal := by kernel_rfl
@[go_sem] theorem c35 : Tryz.prog.cellsOf 35 = 1 := by kernel_rfl
@[go_sem] theorem b35 : Tryz.prog.bytesOf 35 = 8 := by kernel_rfl
@[go_sem] theorem z35 : tzO Tryz.prog 35 = some [.d (.int .u64 0)] := by kernel_rfl
@[go_sem] theorem i35 : ikind Tryz.prog 35 = some .u64 := by kernel_rfl
@[go_sem] theorem u35 : (Tryz.prog.underlying 35).isSome = true := by kernel_rfl
@[go_sem] theorem k36 : tyk Tryz.prog 36 = .struct [(0, 30), (33, 35), (34, 3), (35, 3), (36, 22), (37, 23)] := by kernel_rfl
@[go_sem] theorem c36 : Tryz.prog.cellsOf 36 = 69 := by kernel_rfl
@[go_sem] theorem b36 : Tryz.prog.bytesOf 36 = 104 := by kernel_rfl
@[go_sem] theorem u36 : (Tryz.prog.underlying 36).isSome = true := by kernel_rfl
@[go_sem] theorem k37 : tyk Tryz.prog 37 = .struct [(0, 30), (33, 35), (34, 3), (35, 3), (36, 22), (37, 23)] := by kernel_rfl
@[go_sem] theorem c37 : Tryz.prog.cellsOf 37 = 69 := by kernel_rfl
@[go_sem] theorem b37 : Tryz.prog.bytesOf 37 = 104 := by kernel_rfl
@[go_sem] theorem u37 : (Tryz.prog.underlying 37).isSome = true := by kernel_rfl
@[go_sem] theorem k43 : tyk Tryz.prog 43 = .slice 37 := by kernel_rfl
@[go_sem] theorem c43 : Tryz.prog.cellsOf 43 = 1 := by kernel_rfl
@[go_sem] theorem b43 : Tryz.prog.bytesOf 43 = 24 := by kernel_rfl
@[go_sem] theorem z43 : tzO Tryz.prog 43 = some [.nil] := by kernel_rfl
@[go_sem] theorem u43 : (Tryz.prog.underlying 43).isSome = true := by kernel_rfl
@[go_sem] theorem k47 : tyk Tryz.prog 47 = .slice 71 := by kernel_rfl
@[go_sem] theorem c47 : Tryz.prog.cellsOf 47 = 1 := by kernel_rfl
@[go_sem] theorem b47 : Tryz.prog.bytesOf 47 = 24 := by kernel_rfl
@[go_sem] theorem z47 : tzO Tryz.prog 47 = some [.nil] := by kernel_rfl
@[go_sem] theorem u47 : (Tryz.prog.underlying 47).isSome = true := by kernel_rfl
@[go_sem] theorem k48 : tyk Tryz.prog 48 = .slice 68 := by kernel_rfl
@[go_sem] theorem c48 : Tryz.prog.cellsOf 48 = 1 := by kernel_rfl
@[go_sem] theorem b48 : Tryz.prog.bytesOf 48 = 24 := by kernel_rfl
@[go_sem] theorem z48 : tzO Tryz.prog 48 = some [.nil] := by kernel_rfl
@[go_sem] theorem u48 : (Tryz.prog.underlying 48).isSome = true := by kernel_rfl
@[go_sem] theorem k49 : tyk Tryz.prog 49 = .struct [(0, 22), (1, 47), (2, 48), (3, 22)] := by kernel_rfl
@[go_sem] theorem c49 : Tryz.prog.cellsOf 49 = 4 := by kernel_rfl
@[go_sem] theorem b49 : Tryz.prog.bytesOf 49 = 64 := by kernel_rfl
@[go_sem] theorem z49 : tzO Tryz.prog 49 = some [.d (.int .u32 0), .nil, .nil, .d (.int .u32 0)] := by kernel_rfl
@[go_sem] theorem u49 : (Tryz.prog.underlying 49).isSome = true := by kernel_rfl
@[go_sem] theorem k50 : tyk Tryz.prog 50 = .struct [(0, 22), (1, 47), (2, 48), (3, 22)] := by kernel_rfl
@[go_sem] theorem c50 : Tryz.prog.cellsOf 50 = 4 := by kernel_rfl
@[go_sem] theorem b50 : Tryz.prog.bytesOf 50 = 64 := by kernel_rfl
@[go_sem] theorem z50 : tzO Tryz.prog 50 = some [.d (.int .u32 0), .nil, .nil, .d (.int .u32 0)] := by kernel_rfl
@[go_sem] theorem u50 : (Tryz.prog.underlying 50).isSome = true := by kernel_rfl
@[go_sem] theorem k51 : tyk Tryz.prog 51 = .scal := by kernel_rfl
@[go_sem] theorem c51 : Tryz.prog.cellsOf 51 = 1 := by kernel_rfl
@[go_sem] theorem b51 : Tryz.prog.bytesOf 51 = 8 := by kernel_rfl
@[go_sem] theorem z51 : tzO Tryz.prog 51 = some [.d (.int .i64 0)] := by kernel_rfl
@[go_sem] theorem i51 : ikind Tryz.prog 51 = some .i64 := by kernel_rfl
@[go_sem] theorem u51 : (Tryz.prog.underlying 51).isSome = true := by kernel_rfl
@[go_sem] theorem k55 : tyk Tryz.prog 55 = .slice 5 := by kernel_rfl
@[go_sem] theorem c55 : Tryz.prog.cellsOf 55 = 1 := by kernel_rfl
@[go_sem] theorem b55 : Tryz.prog.bytesOf 55 = 24 := by kernel_rfl
@[go_sem] theorem z55 : tzO Tryz.prog 55 = some [.nil] := by kernel_rfl
@[go_sem] theorem u55 : (Tryz.prog.underlying 55).isSome = true := by kernel_rfl
@[go_sem] theorem k56 : tyk Tryz.prog 56 = .struct [(0, 23), (32, 55), (33, 2), (34, 23)] := by kernel_rfl
@[go_sem] theorem c56 : Tryz.prog.cellsOf 56 = 66 := by kernel_rfl
@[go_sem] theorem b56 : Tryz.prog.bytesOf 56 = 96 := by kernel_rfl
@[go_sem] theorem u56 : (Tryz.prog.underlying 56).isSome = true := by kernel_rfl
@[go_sem] theorem k57 : tyk Tryz.prog 57 = .struct [(0, 23), (32, 55), (33, 2), (34, 23)] := by kernel_rfl
@[go_sem] theorem c57 : Tryz.prog.cellsOf 57 = 66 := by kernel_rfl
@[go_sem] theorem b57 : Tryz.prog.bytesOf 57 = 96 := by kernel_rfl
@[go_sem] theorem u57 : (Tryz.prog.underlying 57).isSome = true := by kernel_rfl
@[go_sem] theorem k58 : tyk Tryz.prog 58 = .slice 43 := by kernel_rfl
@[go_sem] theorem c58 : Tryz.prog.cellsOf 58 = 1 := by kernel_rfl
@[go_sem] theorem b58 : Tryz.prog.bytesOf 58 = 24 := by kernel_rfl
@[go_sem] theorem z58 : tzO Tryz.prog 58 = some [.nil] := by kernel_rfl
@[go_sem] theorem u58 : (Tryz.prog.underlying 58).isSome = true := by kernel_rfl
@[go_sem] theorem k59 : tyk Tryz.prog 59 = .slice 74 := by kernel_rfl
@[go_sem] theorem c59 : Tryz.prog.cellsOf 59 = 1 := by kernel_rfl
@[go_sem] theorem b59 : Tryz.prog.bytesOf 59 = 24 := by kernel_rfl
@[go_sem] theorem z59 : tzO Tryz.prog 59 = some [.nil] := by kernel_rfl
@[go_sem] theorem u59 : (Tryz.prog.underlying 59).isSome = true := by kernel_rfl
@[go_sem] theorem k60 : tyk Tryz.prog 60 = .struct [(0, 59), (1, 43), (2, 58)] := by kernel_rfl
@[go_sem] theorem c60 : Tryz.prog.cellsOf 60 = 3 := by kernel_rfl
@[go_sem] theorem b60 : Tryz.prog.bytesOf 60 = 72 := by kernel_rfl
@[go_sem] theorem z60 : tzO Tryz.prog 60 = some [.nil, .nil, .nil] := by kernel_rfl
@[go_sem] theorem u60 : (Tryz.prog.underlying 60).isSome = true := by kernel_rfl
@[go_sem] theorem k61 : tyk Tryz.prog 61 = .struct [(0, 59), (1, 43), (2, 58)] := by kernel_rfl
@[go_sem] theorem c61 : Tryz.prog.cellsOf 61 = 3 := by kernel_rfl
@[go_sem] theorem b61 : Tryz.prog.bytesOf 61 = 72 := by kernel_rfl
@[go_sem] theorem z61 : tzO Tryz.prog 61 = some [.nil, .nil, .nil] := by kernel_rfl
@[go_sem] theorem u61 : (Tryz.prog.underlying 61).isSome = true := by kernel_rfl
@[go_sem] theorem k67 : tyk Tryz.prog 67 = .struct [(0, 35), (1, 55)] := by kernel_rfl
@[go_sem] theorem c67 : Tryz.prog.cellsOf 67 = 2 := by kernel_rfl
@[go_sem] theorem b67 : Tryz.prog.bytesOf 67 = 32 := by kernel_rfl
@[go_sem] theorem z67 : tzO Tryz.prog 67 = some [.d (.int .u64 0), .nil] := by kernel_rfl
@[go_sem] theorem u67 : (Tryz.prog.underlying 67).isSome = true := by kernel_rfl
@[go_sem] theorem k68 : tyk Tryz.prog 68 = .struct [(0, 35), (1, 55)] := by kernel_rfl
@[go_sem] theorem c68 : Tryz.prog.cellsOf 68 = 2 := by kernel_rfl
@[go_sem] theorem b68 : Tryz.prog.bytesOf 68 = 32 := by kernel_rfl
@[go_sem] theorem z68 : tzO Tryz.prog 68 = some [.d (.int .u64 0), .nil] := by kernel_rfl
@[go_sem] theorem u68 : (Tryz.prog.underlying 68).isSome = true := by kernel_rfl
@[go_sem] theorem k69 : tyk Tryz.prog 69 = .slice 55 := by kernel_rfl
@[go_sem] theorem c69 : Tryz.prog.cellsOf 69 = 1 := by kernel_rfl
@[go_sem] theorem b69 : Tryz.prog.bytesOf 69 = 24 := by kernel_rfl
@[go_sem] theorem z69 : tzO Tryz.prog 69 = some [.nil] := by kernel_rfl
@[go_sem] theorem u69 : (Tryz.prog.underlying 69).isSome = true := by kernel_rfl
@[go_sem] theorem k70 : tyk Tryz.prog 70 = .struct [(0, 30), (33, 22), (34, 69)] := by kernel_rfl
@[go_sem] theorem c70 : Tryz.prog.cellsOf 70 = 35 := by kernel_rfl
@[go_sem] theorem b70 : Tryz.prog.bytesOf 70 = 64 := by kernel_rfl
@[go_sem] theorem u70 : (Tryz.prog.underlying 70).isSome = true := by kernel_rfl
@[go_sem] theorem k71 : tyk Tryz.prog 71 = .struct [(0, 30), (33, 22), (34, 69)] := by kernel_rfl
@[go_sem] theorem c71 : Tryz.prog.cellsOf 71 = 35 := by kernel_rfl
@[go_sem] theorem b71 : Tryz.prog.bytesOf 71 = 64 := by kernel_rfl
@[go_sem] theorem u71 : (Tryz.prog.underlying 71).isSome = true := by kernel_rfl
@[go_sem] theorem k72 : tyk Tryz.prog 72 = .slice 57 := by kernel_rfl
@[go_sem] theorem c72 : Tryz.prog.cellsOf 72 = 1 := by kernel_rfl
@[go_sem] theorem b72 : Tryz.prog.bytesOf 72 = 24 := by kernel_rfl
@[go_sem] theorem z72 : tzO Tryz.prog 72 = some [.nil] := by kernel_rfl
@[go_sem] theorem u72 : (Tryz.prog.underlying 72).isSome = true := by kernel_rfl
@[go_sem] theorem k73 : tyk Tryz.prog 73 = .struct [(0, 57), (66, 55), (67, 55), (68, 55)] := by kernel_rfl
@[go_sem] theorem c73 : Tryz.prog.cellsOf 73 = 69 := by kernel_rfl
@[go_sem] theorem b73 : Tryz.prog.bytesOf 73 = 168 := by kernel_rfl
@[go_sem] theorem u73 : (Tryz.prog.underlying 73).isSome = true := by kernel_rfl
@[go_sem] theorem k74 : tyk Tryz.prog 74 = .struct [(0, 57), (66, 55), (67, 55), (68, 55)] := by kernel_rfl
@[go_sem] theorem c74 : Tryz.prog.cellsOf 74 = 69 := by kernel_rfl
@[go_sem] theorem b74 : Tryz.prog.bytesOf 74 = 168 := by kernel_rfl
@[go_sem] theorem u74 : (Tryz.prog.underlying 74).isSome = true := by kernel_rfl
@[go_sem] theorem k77 : tyk Tryz.prog 77 = .slice 97 := by kernel_rfl
@[go_sem] theorem c77 : Tryz.prog.cellsOf 77 = 1 := by kernel_rfl
@[go_sem] theorem b77 : Tryz.prog.bytesOf 77 = 24 := by kernel_rfl
@[go_sem] theorem z77 : tzO Tryz.prog 77 = some [.nil] := by kernel_rfl
@[go_sem] theorem u77 : (Tryz.prog.underlying 77).isSome = true := by kernel_rfl
@[go_sem] theorem k82 : tyk Tryz.prog 82 = .slice 89 := by kernel_rfl
@[go_sem] theorem c82 : Tryz.prog.cellsOf 82 = 1 := by kernel_rfl
@[go_sem] theorem b82 : Tryz.prog.bytesOf 82 = 24 := by kernel_rfl
@[go_sem] theorem z82 : tzO Tryz.prog 82 = some [.nil] := by kernel_rfl
@[go_sem] theorem u82 : (Tryz.prog.underlying 82).isSome = true := by kernel_rfl
@[go_sem] theorem k87 : tyk Tryz.prog 87 = .slice 23 := by kernel_rfl
@[go_sem] theorem c87 : Tryz.prog.cellsOf 87 = 1 := by kernel_rfl
@[go_sem] theorem b87 : Tryz.prog.bytesOf 87 = 24 := by kernel_rfl
@[go_sem] theorem z87 : tzO Tryz.prog 87 = some [.nil] := by kernel_rfl
@[go_sem] theorem u87 : (Tryz.prog.underlying 87).isSome = true := by kernel_rfl
@[go_sem] theorem k88 : tyk Tryz.prog 88 = .struct [(0, 23), (32, 87), (33, 55)] := by kernel_rfl
@[go_sem] theorem c88 : Tryz.prog.cellsOf 88 = 34 := by kernel_rfl
@[go_sem] theorem b88 : Tryz.prog.bytesOf 88 = 80 := by kernel_rfl
@[go_sem] theorem u88 : (Tryz.prog.underlying 88).isSome = true := by kernel_rfl
@[go_sem] theorem k89 : tyk Tryz.prog 89 = .struct [(0, 23), (32, 87), (33, 55)] := by kernel_rfl
@[go_sem] theorem c89 : Tryz.prog.cellsOf 89 = 34 := by kernel_rfl
@[go_sem] theorem b89 : Tryz.prog.bytesOf 89 = 80 := by kernel_rfl
@[go_sem] theorem u89 : (Tryz.prog.underlying 89).isSome = true := by kernel_rfl
@[go_sem] theorem k93 : tyk Tryz.prog 93 = .scal := by kernel_rfl
@[go_sem] theorem c93 : Tryz.prog.cellsOf 93 = 1 := by kernel_rfl
@[go_sem] theorem b93 : Tryz.prog.bytesOf 93 = 8 := by kernel_rfl
@[go_sem] theorem z93 : tzO Tryz.prog 93 = some [.d .nilp] := by kernel_rfl
@[go_sem] theorem u93 : (Tryz.prog.underlying 93).isSome = true := by kernel_rfl
@[go_sem] theorem k96 : tyk Tryz.prog 96 = .struct [(0, 3), (1, 23), (33, 55)] := by kernel_rfl
@[go_sem] theorem c96 : Tryz.prog.cellsOf 96 = 34 := by kernel_rfl
@[go_sem] theorem b96 : Tryz.prog.bytesOf 96 = 64 := by kernel_rfl
@[go_sem] theorem u96 : (Tryz.prog.underlying 96).isSome = true := by kernel_rfl
@[go_sem] theorem k97 : tyk Tryz.prog 97 = .struct [(0, 3), (1, 23), (33, 55)] := by kernel_rfl
@[go_sem] theorem c97 : Tryz.prog.cellsOf 97 = 34 := by kernel_rfl
@[go_sem] theorem b97 : Tryz.prog.bytesOf 97 = 64 := by kernel_rfl
@[go_sem] theorem u97 : (Tryz.prog.underlying 97).isSome = true := by kernel_rfl
@[go_sem] theorem k112 : tyk Tryz.prog 112 = .slice 114 := by kernel_rfl
@[go_sem] theorem c112 : Tryz.prog.cellsOf 112 = 1 := by kernel_rfl
@[go_sem] theorem b112 : Tryz.prog.bytesOf 112 = 24 := by kernel_rfl
@[go_sem] theorem z112 : tzO Tryz.prog 112 = some [.nil] := by kernel_rfl
@[go_sem] theorem u112 : (Tryz.prog.underlying 112).isSome = true := by kernel_rfl
@[go_sem] theorem k113 : tyk Tryz.prog 113 = .struct [(0, 23), (32, 3), (33, 3)] := by kernel_rfl
@[go_sem] theorem c113 : Tryz.prog.cellsOf 113 = 34 := by kernel_rfl
@[go_sem] theorem b113 : Tryz.prog.bytesOf 113 = 48 := by kernel_rfl
@[go_sem] theorem u113 : (Tryz.prog.underlying 113).isSome = true := by kernel_rfl
@[go_sem] theorem k114 : tyk Tryz.prog 114 = .struct [(0, 23), (32, 3), (33, 3)] := by kernel_rfl
@[go_sem] theorem c114 : Tryz.prog.cellsOf 114 = 34 := by kernel_rfl
@[go_sem] theorem b114 : Tryz.prog.bytesOf 114 = 48 := by kernel_rfl
@[go_sem] theorem u114 : (Tryz.prog.underlying 114).isSome = true := by kernel_rfl
@[go_sem] theorem k119 : tyk Tryz.prog 119 = .struct [(0, 5), (1, 55)] := by kernel_rfl
@[go_sem] theorem c119 : Tryz.prog.cellsOf 119 = 2 := by kernel_rfl
@[go_sem] theorem b119 : Tryz.prog.bytesOf 119 = 32 := by kernel_rfl
@[go_sem] theorem z119 : tzO Tryz.prog 119 = some [.d (.int .u8 0), .nil] := by kernel_rfl
@[go_sem] theorem u119 : (Tryz.prog.underlying 119).isSome = true := by kernel_rfl
@[go_sem] theorem k120 : tyk Tryz.prog 120 = .struct [(0, 5), (1, 55)] := by kernel_rfl
@[go_sem] theorem c120 : Tryz.prog.cellsOf 120 = 2 := by kernel_rfl
@[go_sem] theorem b120 : Tryz.prog.bytesOf 120 = 32 := by kernel_rfl
@[go_sem] theorem z120 : tzO Tryz.prog 120 = some [.d (.int .u8 0), .nil] := by kernel_rfl
@[go_sem] theorem u120 : (Tryz.prog.underlying 120).isSome = true := by kernel_rfl
@[go_sem] theorem k130 : tyk Tryz.prog 130 = .scal := by kernel_rfl
@[go_sem] theorem c130 : Tryz.prog.cellsOf 130 = 1 := by kernel_rfl
@[go_sem] theorem b130 : Tryz.prog.bytesOf 130 = 8 := by kernel_rfl
@[go_sem] theorem z130 : tzO Tryz.prog 130 = some [.d .nilp] := by kernel_rfl
@[go_sem] theorem u130 : (Tryz.prog.underlying 130).isSome = true := by kernel_rfl
@[go_sem] theorem k137 : tyk Tryz.prog 137 = .scal := by kernel_rfl
@[go_sem] theorem c137 : Tryz.prog.cellsOf 137 = 1 := by kernel_rfl
@[go_sem] theorem b137 : Tryz.prog.bytesOf 137 = 2 := by kernel_rfl
@[go_sem] theorem z137 : tzO Tryz.prog 137 = some [.d (.int .u16 0)] := by kernel_rfl
@[go_sem] theorem i137 : ikind Tryz.prog 137 = some .u16 := by kernel_rfl
@[go_sem] theorem u137 : (Tryz.prog.underlying 137).isSome = true := by kernel_rfl
@[go_sem] theorem k140 : tyk Tryz.prog 140 = .scal := by kernel_rfl
@[go_sem] theorem c140 : Tryz.prog.cellsOf 140 = 1 := by kernel_rfl
@[go_sem] theorem b140 : Tryz.prog.bytesOf 140 = 8 := by kernel_rfl
@[go_sem] theorem z140 : tzO Tryz.prog 140 = some [.d .nilp] := by kernel_rfl
@[go_sem] theorem u140 : (Tryz.prog.underlying 140).isSome = true := by kernel_rfl
@[go_sem] theorem k143 : tyk Tryz.prog 143 = .slice 120 := by kernel_rfl
@[go_sem] theorem c143 : Tryz.prog.cellsOf 143 = 1 := by kernel_rfl
@[go_sem] theorem b143 : Tryz.prog.bytesOf 143 = 24 := by kernel_rfl
@[go_sem] theorem z143 : tzO Tryz.prog 143 = some [.nil] := by kernel_rfl
@[go_sem] theorem u143 : (Tryz.prog.underlying 143).isSome = true := by kernel_rfl
@[go_sem] theorem k146 : tyk Tryz.prog 146 = .arr 4 35 := by kernel_rfl
@[go_sem] theorem c146 : Tryz.prog.cellsOf 146 = 4 := by kernel_rfl
@[go_sem] theorem b146 : Tryz.prog.bytesOf 146 = 32 := by kernel_rfl
@[go_sem] theorem z146 : tzO Tryz.prog 146 = some [.d (.int .u64 0), .d (.int .u64 0), .d (.int .u64 0), .d (.int .u64 0)] := by kernel_rfl
@[go_sem] theorem u146 : (Tryz.prog.underlying 146).isSome = true := by kernel_rfl
@[go_sem] theorem k147 : tyk Tryz.prog 147 = .arr 4 35 := by kernel_rfl
@[go_sem] theorem c147 : Tryz.prog.cellsOf 147 = 4 := by kernel_rfl
@[go_sem] theorem b147 : Tryz.prog.bytesOf 147 = 32 := by kernel_rfl
@[go_sem] theorem z147 : tzO Tryz.prog 147 = some [.d (.int .u64 0), .d (.int .u64 0), .d (.int .u64 0), .d (.int .u64 0)] := by kernel_rfl
@[go_sem] theorem u147 : (Tryz.prog.underlying 147).isSome = true := by kernel_rfl
@[go_sem] theorem k148 : tyk Tryz.prog 148 = .struct [(0, 147), (4, 147), (8, 4)] := by kernel_rfl
@[go_sem] theorem c148 : Tryz.prog.cellsOf 148 = 9 := by kernel_rfl
@[go_sem] theorem b148 : Tryz.prog.bytesOf 148 = 72 := by kernel_rfl
@[go_sem] theorem z148 : tzO Tryz.prog 148 = some [.d (.int .u64 0), .d (.int .u64 0), .d (.int .u64 0), .d (.int .u64 0), .d (.int .u64 0), .d (.int .u64 0), .d (.int .u64 0), .d (.int .u64 0), .d (.bool false)] := by kernel_rfl
@[go_sem] theorem u148 : (Tryz.prog.underlying 148).isSome = true := by kernel_rfl
@[go_sem] theorem k149 : tyk Tryz.prog 149 = .struct [(0, 147), (4, 147), (8, 4)] := by kernel_rfl
@[go_sem] theorem c149 : Tryz.prog.cellsOf 149 = 9 := by kernel_rfl
@[go_sem] theorem b149 : Tryz.prog.bytesOf 149 = 72 := by kernel_rfl
@[go_sem] theorem z149 : tzO Tryz.prog 149 = some [.d (.int .u64 0), .d (.int .u64 0), .d (.int .u64 0), .d (.int .u64 0), .d (.int .u64 0), .d (.int .u64 0), .d (.int .u64 0), .d (.int .u64 0), .d (.bool false)] := by kernel_rfl
@[go_sem] theorem u149 : (Tryz.prog.underlying 149).isSome = true := by kernel_rfl
@[go_sem] theorem k161 : tyk Tryz.prog 161 = .arr 8 22 := by kernel_rfl
@[go_sem] theorem c161 : Tryz.prog.cellsOf 161 = 8 := by kernel_rfl
@[go_sem] theorem b161 : Tryz.prog.bytesOf 161 = 32 := by kernel_rfl
@[go_sem] theorem z161 : tzO Tryz.prog 161 = some [.d (.int .u32 0), .d (.int .u32 0), .d (.int .u32 0), .d (.int .u32 0), .d (.int .u32 0), .d (.int .u32 0), .d (.int .u32 0), .d (.int .u32 0)] := by kernel_rfl
@[go_sem] theorem u161 : (Tryz.prog.underlying 161).isSome = true := by kernel_rfl
@[go_sem] theorem k162 : tyk Tryz.prog 162 = .arr 8 22 := by kernel_rfl
@[go_sem] theorem c162 : Tryz.prog.cellsOf 162 = 8 := by kernel_rfl
@[go_sem] theorem b162 : Tryz.prog.bytesOf 162 = 32 := by kernel_rfl
@[go_sem] theorem z162 : tzO Tryz.prog 162 = some [.d (.int .u32 0), .d (.int .u32 0), .d (.int .u32 0), .d (.int .u32 0), .d (.int .u32 0), .d (.int .u32 0), .d (.int .u32 0), .d (.int .u32 0)] := by kernel_rfl
@[go_sem] theorem u162 : (Tryz.prog.underlying 162).isSome = true := by kernel_rfl
@[go_sem] theorem k164 : tyk Tryz.prog 164 = .struct [(0, 162), (8, 55), (9, 35)] := by kernel_rfl
@[go_sem] theorem c164 : Tryz.prog.cellsOf 164 = 10 := by kernel_rfl
@[go_sem] theorem b164 : Tryz.prog.bytesOf 164 = 64 := by kernel_rfl
@[go_sem] theorem z164 : tzO Tryz.prog 164 = some [.d (.int .u32 0), .d (.int .u32 0), .d (.int .u32 0), .d (.int .u32 0), .d (.int .u32 0), .d (.int .u32 0), .d (.int .u32 0), .d (.int .u32 0), .nil, .d (.int .u64 0)] := by kernel_rfl
@[go_sem] theorem u164 : (Tryz.prog.underlying 164).isSome = true := by kernel_rfl
@[go_sem] theorem k165 : tyk Tryz.prog 165 = .struct [(0, 162), (8, 55), (9, 35)] := by kernel_rfl
@[go_sem] theorem c165 : Tryz.prog.cellsOf 165 = 10 := by kernel_rfl
@[go_sem] theorem b165 : Tryz.prog.bytesOf 165 = 64 := by kernel_rfl
@[go_sem] theorem z165 : tzO Tryz.prog 165 = some [.d (.int .u32 0), .d (.int .u32 0), .d (.int .u32 0), .d (.int .u32 0), .d (.int .u32 0), .d (.int .u32 0), .d (.int .u32 0), .d (.int .u32 0), .nil, .d (.int .u64 0)] := by kernel_rfl
@[go_sem] theorem u165 : (Tryz.prog.underlying 165).isSome = true := by kernel_rfl
@[go_sem] theorem k166 : tyk Tryz.prog 166 = .scal := by kernel_rfl
@[go_sem] theorem c166 : Tryz.prog.cellsOf 166 = 1 := by kernel_rfl
@[go_sem] theorem b166 : Tryz.prog.bytesOf 166 = 8 := by kernel_rfl
@[go_sem] theorem z166 : tzO Tryz.prog 166 = some [.d (.int .u64 0)] := by kernel_rfl
@[go_sem] theorem i166 : ikind Tryz.prog 166 = some .u64 := by kernel_rfl
@[go_sem] theorem u166 : (Tryz.prog.underlying 166).isSome = true := by kernel_rfl
@[go_sem] theorem k177 : tyk Tryz.prog 177 = .struct [(0, 147), (4, 147), (8, 147)] := by kernel_rfl
@[go_sem] theorem c177 : Tryz.prog.cellsOf 177 = 12 := by kernel_rfl
@[go_sem] theorem b177 : Tryz.prog.bytesOf 177 = 96 := by kernel_rfl
@[go_sem] theorem z177 : tzO Tryz.prog 177 = some [.d (.int .u64 0), .d (.int .u64 0), .d (.int .u64 0), .d (.int .u64 0), .d (.int .u64 0), .d (.int .u64 0), .d (.int .u64 0), .d (.int .u64 0), .d (.int .u64 0), .d (.int .u64 0), .d (.int .u64 0), .d (.int .u64 0)] := by kernel_rfl
@[go_sem] theorem u177 : (Tryz.prog.underlying 177).isSome = true := by kernel_rfl
@[go_sem] theorem k178 : tyk Tryz.prog 178 = .struct [(0, 147), (4, 147), (8, 147)] := by kernel_rfl
@[go_sem] theorem c178 : Tryz.prog.cellsOf 178 = 12 := by kernel_rfl
@[go_sem] theorem b178 : Tryz.prog.bytesOf 178 = 96 := by kernel_rfl
@[go_sem] theorem z178 : tzO Tryz.prog 178 = some [.d (.int .u64 0), .d (.int .u64 0), .d (.int .u64 0), .d (.int .u64 0), .d (.int .u64 0), .d (.int .u64 0), .d (.int .u64 0), .d (.int .u64 0), .d (.int .u64 0), .d (.int .u64 0), .d (.int .u64 0), .d (.int .u64 0)] := by kernel_rfl
@[go_sem] theorem u178 : (Tryz.prog.underlying 178).isSome = true := by kernel_rfl
@[go_sem] theorem k186 : tyk Tryz.prog 186 = .scal := by kernel_rfl
@[go_sem] theorem c186 : Tryz.prog.cellsOf 186 = 1 := by kernel_rfl
@[go_sem] theorem b186 : Tryz.prog.bytesOf 186 = 8 := by kernel_rfl
@[go_sem] theorem z186 : tzO Tryz.prog 186 = some [.d .nilp] := by kernel_rfl
@[go_sem] theorem u186 : (Tryz.prog.underlying 186).isSome = true := by kernel_rfl
@[go_sem] theorem k187 : tyk Tryz.prog 187 = .arr 64 22 := by kernel_rfl
@[go_sem] theorem c187 : Tryz.prog.cellsOf 187 = 64 := by kernel_rfl
@[go_sem] theorem b187 : Tryz.prog.bytesOf 187 = 256 := by kernel_rfl
@[go_sem] theorem u187 : (Tryz.prog.underlying 187).isSome = true := by kernel_rfl
@[go_sem] theorem k205 : tyk Tryz.prog 205 = .arr 8 35 := by kernel_rfl
@[go_sem] theorem c205 : Tryz.prog.cellsOf 205 = 8 := by kernel_rfl
@[go_sem] theorem b205 : Tryz.prog.bytesOf 205 = 64 := by kernel_rfl
@[go_sem] theorem z205 : tzO Tryz.prog 205 = some [.d (.int .u64 0), .d (.int .u64 0), .d (.int .u64 0), .d (.int .u64 0), .d (.int .u64 0), .d (.int .u64 0), .d (.int .u64 0), .d (.int .u64 0)] := by kernel_rfl
@[go_sem] theorem u205 : (Tryz.prog.underlying 205).isSome = true := by kernel_rfl
@[go_sem] theorem k207 : tyk Tryz.prog 207 = .slice 35 := by kernel_rfl
@[go_sem] theorem c207 : Tryz.prog.cellsOf 207 = 1 := by kernel_rfl
@[go_sem] theorem b207 : Tryz.prog.bytesOf 207 = 24 := by kernel_rfl
@[go_sem] theorem z207 : tzO Tryz.prog 207 = some [.nil] := by kernel_rfl
@[go_sem] theorem u207 : (Tryz.prog.underlying 207).isSome = true := by kernel_rfl
@[go_sem] theorem k210 : tyk Tryz.prog 210 = .struct [(0, 17), (1, 17), (2, 17), (3, 9)] := by kernel_rfl
@[go_sem] theorem c210 : Tryz.prog.cellsOf 210 = 4 := by kernel_rfl
@[go_sem] theorem b210 : Tryz.prog.bytesOf 210 = 40 := by kernel_rfl
@[go_sem] theorem z210 : tzO Tryz.prog 210 = some [.d .nilp, .d .nilp, .d .nilp, .d (.str [])] := by kernel_rfl
@[go_sem] theorem u210 : (Tryz.prog.underlying 210).isSome = true := by kernel_rfl
@[go_sem] theorem k211 : tyk Tryz.prog 211 = .struct [(0, 17), (1, 17), (2, 17), (3, 9)] := by kernel_rfl
@[go_sem] theorem c211 : Tryz.prog.cellsOf 211 = 4 := by kernel_rfl
@[go_sem] theorem b211 : Tryz.prog.bytesOf 211 = 40 := by kernel_rfl
@[go_sem] theorem z211 : tzO Tryz.prog 211 = some [.d .nilp, .d .nilp, .d .nilp, .d (.str [])] := by kernel_rfl
@[go_sem] theorem u211 : (Tryz.prog.underlying 211).isSome = true := by kernel_rfl
@[go_sem] theorem k212 : tyk Tryz.prog 212 = .arr 0 16 := by kernel_rfl
@[go_sem] theorem c212 : Tryz.prog.cellsOf 212 = 0 := by kernel_rfl
@[go_sem] theorem u212 : (Tryz.prog.underlying 212).isSome = true := by kernel_rfl
@[go_sem] theorem k213 : tyk Tryz.prog 213 = .struct [(0, 212)] := by kernel_rfl
@[go_sem] theorem c213 : Tryz.prog.cellsOf 213 = 0 := by kernel_rfl
@[go_sem] theorem u213 : (Tryz.prog.underlying 213).isSome = true := by kernel_rfl
@[go_sem] theorem k214 : tyk Tryz.prog 214 = .struct [(0, 212)] := by kernel_rfl
@[go_sem] theorem c214 : Tryz.prog.cellsOf 214 = 0 := by kernel_rfl
@[go_sem] theorem u214 : (Tryz.prog.underlying 214).isSome = true := by kernel_rfl
@[go_sem] theorem k215 : tyk Tryz.prog 215 = .scal := by kernel_rfl
@[go_sem] theorem c215 : Tryz.prog.cellsOf 215 = 1 := by kernel_rfl
@[go_sem] theorem b215 : Tryz.prog.bytesOf 215 = 1 := by kernel_rfl
@[go_sem] theorem z215 : tzO Tryz.prog 215 = some [.d (.int .u8 0)] := by kernel_rfl
@[go_sem] theorem i215 : ikind Tryz.prog 215 = some .u8 := by kernel_rfl
@[go_sem] theorem u215 : (Tryz.prog.underlying 215).isSome = true := by kernel_rfl
@[go_sem] theorem k216 : tyk Tryz.prog 216 = .scal := by kernel_rfl
@[go_sem] theorem c216 : Tryz.prog.cellsOf 216 = 1 := by kernel_rfl
@[go_sem] theorem b216 : Tryz.prog.bytesOf 216 = 1 := by kernel_rfl
@[go_sem] theorem z216 : tzO Tryz.prog 216 = some [.d (.int .u8 0)] := by kernel_rfl
@[go_sem] theorem i216 : ikind Tryz.prog 216 = some .u8 := by kernel_rfl
@[go_sem] theorem u216 : (Tryz.prog.underlying 216).isSome = true := by kernel_rfl
@[go_sem] theorem k218 : tyk Tryz.prog 218 = .scal := by kernel_rfl
@[go_sem] theorem c218 : Tryz.prog.cellsOf 218 = 1 := by kernel_rfl
@[go_sem] theorem b218 : Tryz.prog.bytesOf 218 = 8 := by kernel_rfl
@[go_sem] theorem z218 : tzO Tryz.prog 218 = some [.d .nilp] := by kernel_rfl
@[go_sem] theorem u218 : (Tryz.prog.underlying 218).isSome = true := by kernel_rfl
@[go_sem] theorem k219 : tyk Tryz.prog 219 = .scal := by kernel_rfl
@[go_sem] theorem c219 : Tryz.prog.cellsOf 219 = 1 := by kernel_rfl
@[go_sem] theorem b219 : Tryz.prog.bytesOf 219 = 4 := by kernel_rfl
@[go_sem] theorem z219 : tzO Tryz.prog 219 = some [.d (.int .i32 0)] := by kernel_rfl
@[go_sem] theorem i219 : ikind Tryz.prog 219 = some .i32 := by kernel_rfl
@[go_sem] theorem u219 : (Tryz.prog.underlying 219).isSome = true := by kernel_rfl
@[go_sem] theorem k220 : tyk Tryz.prog 220 = .scal := by kernel_rfl
@[go_sem] theorem c220 : Tryz.prog.cellsOf 220 = 1 := by kernel_rfl
@[go_sem] theorem b220 : Tryz.prog.bytesOf 220 = 4 := by kernel_rfl
@[go_sem] theorem z220 : tzO Tryz.prog 220 = some [.d (.int .i32 0)] := by kernel_rfl
@[go_sem] theorem i220 : ikind Tryz.prog 220 = some .i32 := by kernel_rfl
@[go_sem] theorem u220 : (Tryz.prog.underlying 220).isSome = true := by kernel_rfl
end Go.Proofs.YtgeabjjgeeakdaaGreat
