/-
  Facts of types, printed by a program of ours.
-/
import Derived.Test.YtcchgbhjnaooiaaRows
import Derived.Test.YtcchgbhjnaooiaaAmRun
namespace Go.Proofs.Ytcchgbhjnaooiaa
open Go.Am
set_option maxRecDepth 100000
@[go_sem] theorem k2 : tyk Try.prog 2 = .scal := by kernel_rfl
@[go_sem] theorem c2 : Try.prog.cellsOf 2 = 1 := by kernel_rfl
@[go_sem] theorem b2 : Try.prog.bytesOf 2 = 8 := by kernel_rfl
@[go_sem] theorem z2 : tzO Try.prog 2 = some [.d (.int .i64 0)] := by kernel_rfl
@[go_sem] theorem i2 : ikind Try.prog 2 = some .i64 := by kernel_rfl
@[go_sem] theorem u2 : (Try.prog.underlying 2).isSome = true := by kernel_rfl
@[go_sem] theorem k3 : tyk Try.prog 3 = .scal := by kernel_rfl
@[go_sem] theorem c3 : Try.prog.cellsOf 3 = 1 := by kernel_rfl
@[go_sem] theorem b3 : Try.prog.bytesOf 3 = 8 := by kernel_rfl
@[go_sem] theorem z3 : tzO Try.prog 3 = some [.d (.int .i64 0)] := by kernel_rfl
@[go_sem] theorem i3 : ikind Try.prog 3 = some .i64 := by kernel_rfl
@[go_sem] theorem u3 : (Try.prog.underlying 3).isSome = true := by kernel_rfl
@[go_sem] theorem k4 : tyk Try.prog 4 = .scal := by kernel_rfl
@[go_sem] theorem c4 : Try.prog.cellsOf 4 = 1 := by kernel_rfl
@[go_sem] theorem b4 : Try.prog.bytesOf 4 = 1 := by kernel_rfl
@[go_sem] theorem z4 : tzO Try.prog 4 = some [.d (.bool false)] := by kernel_rfl
@[go_sem] theorem u4 : (Try.prog.underlying 4).isSome = true := by kernel_rfl
@[go_sem] theorem k5 : tyk Try.prog 5 = .scal := by kernel_rfl
@[go_sem] theorem c5 : Try.prog.cellsOf 5 = 1 := by kernel_rfl
@[go_sem] theorem b5 : Try.prog.bytesOf 5 = 1 := by kernel_rfl
@[go_sem] theorem z5 : tzO Try.prog 5 = some [.d (.int .u8 0)] := by kernel_rfl
@[go_sem] theorem i5 : ikind Try.prog 5 = some .u8 := by kernel_rfl
@[go_sem] theorem u5 : (Try.prog.underlying 5).isSome = true := by kernel_rfl
@[go_sem] theorem k6 : tyk Try.prog 6 = .scal := by kernel_rfl
@[go_sem] theorem c6 : Try.prog.cellsOf 6 = 1 := by kernel_rfl
@[go_sem] theorem b6 : Try.prog.bytesOf 6 = 1 := by kernel_rfl
@[go_sem] theorem z6 : tzO Try.prog 6 = some [.d (.int .u8 0)] := by kernel_rfl
@[go_sem] theorem i6 : ikind Try.prog 6 = some .u8 := by kernel_rfl
@[go_sem] theorem u6 : (Try.prog.underlying 6).isSome = true := by kernel_rfl
@[go_sem] theorem k7 : tyk Try.prog 7 = .struct [(0, 2), (1, 3), (2, 4), (3, 6)] := by kernel_rfl
@[go_sem] theorem c7 : Try.prog.cellsOf 7 = 4 := by kernel_rfl
@[go_sem] theorem b7 : Try.prog.bytesOf 7 = 24 := by kernel_rfl
@[go_sem] theorem z7 : tzO Try.prog 7 = some [.d (.int .i64 0), .d (.int .i64 0), .d (.bool false), .d (.int .u8 0)] := by kernel_rfl
@[go_sem] theorem u7 : (Try.prog.underlying 7).isSome = true := by kernel_rfl
@[go_sem] theorem k8 : tyk Try.prog 8 = .struct [(0, 2), (1, 3), (2, 4), (3, 6)] := by kernel_rfl
@[go_sem] theorem c8 : Try.prog.cellsOf 8 = 4 := by kernel_rfl
@[go_sem] theorem b8 : Try.prog.bytesOf 8 = 24 := by kernel_rfl
@[go_sem] theorem z8 : tzO Try.prog 8 = some [.d (.int .i64 0), .d (.int .i64 0), .d (.bool false), .d (.int .u8 0)] := by kernel_rfl
@[go_sem] theorem u8 : (Try.prog.underlying 8).isSome = true := by kernel_rfl
@[go_sem] theorem k9 : tyk Try.prog 9 = .str := by kernel_rfl
@[go_sem] theorem c9 : Try.prog.cellsOf 9 = 1 := by kernel_rfl
@[go_sem] theorem b9 : Try.prog.bytesOf 9 = 16 := by kernel_rfl
@[go_sem] theorem z9 : tzO Try.prog 9 = some [.d (.str [])] := by kernel_rfl
@[go_sem] theorem u9 : (Try.prog.underlying 9).isSome = true := by kernel_rfl
@[go_sem] theorem k10 : tyk Try.prog 10 = .str := by kernel_rfl
@[go_sem] theorem c10 : Try.prog.cellsOf 10 = 1 := by kernel_rfl
@[go_sem] theorem b10 : Try.prog.bytesOf 10 = 16 := by kernel_rfl
@[go_sem] theorem z10 : tzO Try.prog 10 = some [.d (.str [])] := by kernel_rfl
@[go_sem] theorem u10 : (Try.prog.underlying 10).isSome = true := by kernel_rfl
@[go_sem] theorem k11 : tyk Try.prog 11 = .str := by kernel_rfl
@[go_sem] theorem c11 : Try.prog.cellsOf 11 = 1 := by kernel_rfl
@[go_sem] theorem b11 : Try.prog.bytesOf 11 = 16 := by kernel_rfl
@[go_sem] theorem z11 : tzO Try.prog 11 = some [.d (.str [])] := by kernel_rfl
@[go_sem] theorem u11 : (Try.prog.underlying 11).isSome = true := by kernel_rfl
@[go_sem] theorem k12 : tyk Try.prog 12 = .scal := by kernel_rfl
@[go_sem] theorem c12 : Try.prog.cellsOf 12 = 1 := by kernel_rfl
@[go_sem] theorem b12 : Try.prog.bytesOf 12 = 8 := by kernel_rfl
@[go_sem] theorem z12 : tzO Try.prog 12 = some [.d (.int .u64 0)] := by kernel_rfl
@[go_sem] theorem i12 : ikind Try.prog 12 = some .u64 := by kernel_rfl
@[go_sem] theorem u12 : (Try.prog.underlying 12).isSome = true := by kernel_rfl
@[go_sem] theorem k13 : tyk Try.prog 13 = .struct [(0, 9), (1, 12)] := by kernel_rfl
@[go_sem] theorem c13 : Try.prog.cellsOf 13 = 2 := by kernel_rfl
@[go_sem] theorem b13 : Try.prog.bytesOf 13 = 24 := by kernel_rfl
@[go_sem] theorem z13 : tzO Try.prog 13 = some [.d (.str []), .d (.int .u64 0)] := by kernel_rfl
@[go_sem] theorem u13 : (Try.prog.underlying 13).isSome = true := by kernel_rfl
@[go_sem] theorem k14 : tyk Try.prog 14 = .struct [(0, 9), (1, 12)] := by kernel_rfl
@[go_sem] theorem c14 : Try.prog.cellsOf 14 = 2 := by kernel_rfl
@[go_sem] theorem b14 : Try.prog.bytesOf 14 = 24 := by kernel_rfl
@[go_sem] theorem z14 : tzO Try.prog 14 = some [.d (.str []), .d (.int .u64 0)] := by kernel_rfl
@[go_sem] theorem u14 : (Try.prog.underlying 14).isSome = true := by kernel_rfl
@[go_sem] theorem k15 : tyk Try.prog 15 = .scal := by kernel_rfl
@[go_sem] theorem c15 : Try.prog.cellsOf 15 = 1 := by kernel_rfl
@[go_sem] theorem b15 : Try.prog.bytesOf 15 = 8 := by kernel_rfl
@[go_sem] theorem z15 : tzO Try.prog 15 = some [.d .nilp] := by kernel_rfl
@[go_sem] theorem u15 : (Try.prog.underlying 15).isSome = true := by kernel_rfl
@[go_sem] theorem k16 : tyk Try.prog 16 = .scal := by kernel_rfl
@[go_sem] theorem c16 : Try.prog.cellsOf 16 = 1 := by kernel_rfl
@[go_sem] theorem b16 : Try.prog.bytesOf 16 = 8 := by kernel_rfl
@[go_sem] theorem z16 : tzO Try.prog 16 = some [.d .nilp] := by kernel_rfl
@[go_sem] theorem u16 : (Try.prog.underlying 16).isSome = true := by kernel_rfl
@[go_sem] theorem k17 : tyk Try.prog 17 = .scal := by kernel_rfl
@[go_sem] theorem c17 : Try.prog.cellsOf 17 = 1 := by kernel_rfl
@[go_sem] theorem b17 : Try.prog.bytesOf 17 = 8 := by kernel_rfl
@[go_sem] theorem z17 : tzO Try.prog 17 = some [.d .nilp] := by kernel_rfl
@[go_sem] theorem u17 : (Try.prog.underlying 17).isSome = true := by kernel_rfl
@[go_sem] theorem k18 : tyk Try.prog 18 = .struct [(0, 17)] := by kernel_rfl
@[go_sem] theorem c18 : Try.prog.cellsOf 18 = 1 := by kernel_rfl
@[go_sem] theorem b18 : Try.prog.bytesOf 18 = 8 := by kernel_rfl
@[go_sem] theorem z18 : tzO Try.prog 18 = some [.d .nilp] := by kernel_rfl
@[go_sem] theorem u18 : (Try.prog.underlying 18).isSome = true := by kernel_rfl
@[go_sem] theorem k19 : tyk Try.prog 19 = .struct [(0, 17)] := by kernel_rfl
@[go_sem] theorem c19 : Try.prog.cellsOf 19 = 1 := by kernel_rfl
@[go_sem] theorem b19 : Try.prog.bytesOf 19 = 8 := by kernel_rfl
@[go_sem] theorem z19 : tzO Try.prog 19 = some [.d .nilp] := by kernel_rfl
@[go_sem] theorem u19 : (Try.prog.underlying 19).isSome = true := by kernel_rfl
@[go_sem] theorem k21 : tyk Try.prog 21 = .scal := by kernel_rfl
@[go_sem] theorem c21 : Try.prog.cellsOf 21 = 1 := by kernel_rfl
@[go_sem] theorem b21 : Try.prog.bytesOf 21 = 4 := by kernel_rfl
@[go_sem] theorem z21 : tzO Try.prog 21 = some [.d (.int .i32 0)] := by kernel_rfl
@[go_sem] theorem i21 : ikind Try.prog 21 = some .i32 := by kernel_rfl
@[go_sem] theorem u21 : (Try.prog.underlying 21).isSome = true := by kernel_rfl
@[go_sem] theorem k22 : tyk Try.prog 22 = .slice 35 := by kernel_rfl
@[go_sem] theorem c22 : Try.prog.cellsOf 22 = 1 := by kernel_rfl
@[go_sem] theorem b22 : Try.prog.bytesOf 22 = 24 := by kernel_rfl
@[go_sem] theorem z22 : tzO Try.prog 22 = some [.nil] := by kernel_rfl
@[go_sem] theorem u22 : (Try.prog.underlying 22).isSome = true := by kernel_rfl
@[go_sem] theorem k23 : tyk Try.prog 23 = .slice 32 := by kernel_rfl
@[go_sem] theorem c23 : Try.prog.cellsOf 23 = 1 := by kernel_rfl
@[go_sem] theorem b23 : Try.prog.bytesOf 23 = 24 := by kernel_rfl
@[go_sem] theorem z23 : tzO Try.prog 23 = some [.nil] := by kernel_rfl
@[go_sem] theorem u23 : (Try.prog.underlying 23).isSome = true := by kernel_rfl
@[go_sem] theorem k25 : tyk Try.prog 25 = .scal := by kernel_rfl
@[go_sem] theorem c25 : Try.prog.cellsOf 25 = 1 := by kernel_rfl
@[go_sem] theorem b25 : Try.prog.bytesOf 25 = 8 := by kernel_rfl
@[go_sem] theorem z25 : tzO Try.prog 25 = some [.d (.int .u64 0)] := by kernel_rfl
@[go_sem] theorem i25 : ikind Try.prog 25 = some .u64 := by kernel_rfl
@[go_sem] theorem u25 : (Try.prog.underlying 25).isSome = true := by kernel_rfl
@[go_sem] theorem k26 : tyk Try.prog 26 = .scal := by kernel_rfl
@[go_sem] theorem c26 : Try.prog.cellsOf 26 = 1 := by kernel_rfl
@[go_sem] theorem b26 : Try.prog.bytesOf 26 = 8 := by kernel_rfl
@[go_sem] theorem z26 : tzO Try.prog 26 = some [.d (.int .i64 0)] := by kernel_rfl
@[go_sem] theorem i26 : ikind Try.prog 26 = some .i64 := by kernel_rfl
@[go_sem] theorem u26 : (Try.prog.underlying 26).isSome = true := by kernel_rfl
@[go_sem] theorem k31 : tyk Try.prog 31 = .struct [(0, 3), (1, 25)] := by kernel_rfl
@[go_sem] theorem c31 : Try.prog.cellsOf 31 = 2 := by kernel_rfl
@[go_sem] theorem b31 : Try.prog.bytesOf 31 = 16 := by kernel_rfl
@[go_sem] theorem z31 : tzO Try.prog 31 = some [.d (.int .i64 0), .d (.int .u64 0)] := by kernel_rfl
@[go_sem] theorem u31 : (Try.prog.underlying 31).isSome = true := by kernel_rfl
@[go_sem] theorem k32 : tyk Try.prog 32 = .struct [(0, 3), (1, 25)] := by kernel_rfl
@[go_sem] theorem c32 : Try.prog.cellsOf 32 = 2 := by kernel_rfl
@[go_sem] theorem b32 : Try.prog.bytesOf 32 = 16 := by kernel_rfl
@[go_sem] theorem z32 : tzO Try.prog 32 = some [.d (.int .i64 0), .d (.int .u64 0)] := by kernel_rfl
@[go_sem] theorem u32 : (Try.prog.underlying 32).isSome = true := by kernel_rfl
@[go_sem] theorem k33 : tyk Try.prog 33 = .slice 5 := by kernel_rfl
@[go_sem] theorem c33 : Try.prog.cellsOf 33 = 1 := by kernel_rfl
@[go_sem] theorem b33 : Try.prog.bytesOf 33 = 24 := by kernel_rfl
@[go_sem] theorem z33 : tzO Try.prog 33 = some [.nil] := by kernel_rfl
@[go_sem] theorem u33 : (Try.prog.underlying 33).isSome = true := by kernel_rfl
@[go_sem] theorem k34 : tyk Try.prog 34 = .struct [(0, 25), (1, 33)] := by kernel_rfl
@[go_sem] theorem c34 : Try.prog.cellsOf 34 = 2 := by kernel_rfl
@[go_sem] theorem b34 : Try.prog.bytesOf 34 = 32 := by kernel_rfl
@[go_sem] theorem z34 : tzO Try.prog 34 = some [.d (.int .u64 0), .nil] := by kernel_rfl
@[go_sem] theorem u34 : (Try.prog.underlying 34).isSome = true := by kernel_rfl
@[go_sem] theorem k35 : tyk Try.prog 35 = .struct [(0, 25), (1, 33)] := by kernel_rfl
@[go_sem] theorem c35 : Try.prog.cellsOf 35 = 2 := by kernel_rfl
@[go_sem] theorem b35 : Try.prog.bytesOf 35 = 32 := by kernel_rfl
@[go_sem] theorem z35 : tzO Try.prog 35 = some [.d (.int .u64 0), .nil] := by kernel_rfl
@[go_sem] theorem u35 : (Try.prog.underlying 35).isSome = true := by kernel_rfl
@[go_sem] theorem k38 : tyk Try.prog 38 = .slice 33 := by kernel_rfl
@[go_sem] theorem c38 : Try.prog.cellsOf 38 = 1 := by kernel_rfl
@[go_sem] theorem b38 : Try.prog.bytesOf 38 = 24 := by kernel_rfl
@[go_sem] theorem z38 : tzO Try.prog 38 = some [.nil] := by kernel_rfl
@[go_sem] theorem u38 : (Try.prog.underlying 38).isSome = true := by kernel_rfl
@[go_sem] theorem k40 : tyk Try.prog 40 = .struct [(0, 5), (1, 33)] := by kernel_rfl
@[go_sem] theorem c40 : Try.prog.cellsOf 40 = 2 := by kernel_rfl
@[go_sem] theorem b40 : Try.prog.bytesOf 40 = 32 := by kernel_rfl
@[go_sem] theorem z40 : tzO Try.prog 40 = some [.d (.int .u8 0), .nil] := by kernel_rfl
@[go_sem] theorem u40 : (Try.prog.underlying 40).isSome = true := by kernel_rfl
@[go_sem] theorem k41 : tyk Try.prog 41 = .struct [(0, 5), (1, 33)] := by kernel_rfl
@[go_sem] theorem c41 : Try.prog.cellsOf 41 = 2 := by kernel_rfl
@[go_sem] theorem b41 : Try.prog.bytesOf 41 = 32 := by kernel_rfl
@[go_sem] theorem z41 : tzO Try.prog 41 = some [.d (.int .u8 0), .nil] := by kernel_rfl
@[go_sem] theorem u41 : (Try.prog.underlying 41).isSome = true := by kernel_rfl
@[go_sem] theorem k43 : tyk Try.prog 43 = .slice 41 := by kernel_rfl
@[go_sem] theorem c43 : Try.prog.cellsOf 43 = 1 := by kernel_rfl
@[go_sem] theorem b43 : Try.prog.bytesOf 43 = 24 := by kernel_rfl
@[go_sem] theorem z43 : tzO Try.prog 43 = some [.nil] := by kernel_rfl
@[go_sem] theorem u43 : (Try.prog.underlying 43).isSome = true := by kernel_rfl
@[go_sem] theorem k47 : tyk Try.prog 47 = .scal := by kernel_rfl
@[go_sem] theorem c47 : Try.prog.cellsOf 47 = 1 := by kernel_rfl
@[go_sem] theorem b47 : Try.prog.bytesOf 47 = 8 := by kernel_rfl
@[go_sem] theorem z47 : tzO Try.prog 47 = some [.d (.int .u64 0)] := by kernel_rfl
@[go_sem] theorem i47 : ikind Try.prog 47 = some .u64 := by kernel_rfl
@[go_sem] theorem u47 : (Try.prog.underlying 47).isSome = true := by kernel_rfl
end Go.Proofs.Ytcchgbhjnaooiaa
