/-
 Part 4 of what the claim rests on.
-/
import Derived.Test.YtldccnbokbieiaaGreatM2
import Derived.Test.YtldccnbokbieiaaGreatRows
import Derived.Lib.BytesEntry
set_option linter.unusedVariables false
set_option linter.unusedSimpArgs false
set_option maxRecDepth 100000
set_option maxHeartbeats 16000000
namespace Go.Proofs.YtldccnbokbieiaaGreat
open Go.Am
@[go_sem] theorem k2:bK Tryz.prog 2=.scal:=by kernel_rfl
@[go_sem] theorem c2:Tryz.prog.cellsOf 2=1:=by kernel_rfl
@[go_sem] theorem b2:Tryz.prog.bytesOf 2=8:=by kernel_rfl
@[go_sem] theorem z2:eH Tryz.prog 2=some [.d (.int .i64 0)]:=by kernel_rfl
@[go_sem] theorem i2:gy Tryz.prog 2=some .i64:=by kernel_rfl
@[go_sem] theorem u2:(Tryz.prog.underlying 2).isSome=true:=by kernel_rfl
@[go_sem] theorem k3:bK Tryz.prog 3=.scal:=by kernel_rfl
@[go_sem] theorem c3:Tryz.prog.cellsOf 3=1:=by kernel_rfl
@[go_sem] theorem b3:Tryz.prog.bytesOf 3=8:=by kernel_rfl
@[go_sem] theorem z3:eH Tryz.prog 3=some [.d (.int .i64 0)]:=by kernel_rfl
@[go_sem] theorem i3:gy Tryz.prog 3=some .i64:=by kernel_rfl
@[go_sem] theorem u3:(Tryz.prog.underlying 3).isSome=true:=by kernel_rfl
@[go_sem] theorem k4:bK Tryz.prog 4=.scal:=by kernel_rfl
@[go_sem] theorem c4:Tryz.prog.cellsOf 4=1:=by kernel_rfl
@[go_sem] theorem b4:Tryz.prog.bytesOf 4=1:=by kernel_rfl
@[go_sem] theorem z4:eH Tryz.prog 4=some [.d (.bool false)]:=by kernel_rfl
@[go_sem] theorem u4:(Tryz.prog.underlying 4).isSome=true:=by kernel_rfl
@[go_sem] theorem k5:bK Tryz.prog 5=.scal:=by kernel_rfl
@[go_sem] theorem c5:Tryz.prog.cellsOf 5=1:=by kernel_rfl
@[go_sem] theorem b5:Tryz.prog.bytesOf 5=1:=by kernel_rfl
@[go_sem] theorem z5:eH Tryz.prog 5=some [.d (.int .u8 0)]:=by kernel_rfl
@[go_sem] theorem i5:gy Tryz.prog 5=some .u8:=by kernel_rfl
@[go_sem] theorem u5:(Tryz.prog.underlying 5).isSome=true:=by kernel_rfl
@[go_sem] theorem k9:bK Tryz.prog 9=.str:=by kernel_rfl
@[go_sem] theorem c9:Tryz.prog.cellsOf 9=1:=by kernel_rfl
@[go_sem] theorem b9:Tryz.prog.bytesOf 9=16:=by kernel_rfl
@[go_sem] theorem z9:eH Tryz.prog 9=some [.d (.str [])]:=by kernel_rfl
@[go_sem] theorem u9:(Tryz.prog.underlying 9).isSome=true:=by kernel_rfl
@[go_sem] theorem k22:bK Tryz.prog 22=.slice 5:=by kernel_rfl
@[go_sem] theorem c22:Tryz.prog.cellsOf 22=1:=by kernel_rfl
@[go_sem] theorem b22:Tryz.prog.bytesOf 22=24:=by kernel_rfl
@[go_sem] theorem z22:eH Tryz.prog 22=some [.nil]:=by kernel_rfl
@[go_sem] theorem u22:(Tryz.prog.underlying 22).isSome=true:=by kernel_rfl
@[go_sem] theorem k23:bK Tryz.prog 23=.arr 32 5:=by kernel_rfl
@[go_sem] theorem c23:Tryz.prog.cellsOf 23=32:=by kernel_rfl
@[go_sem] theorem b23:Tryz.prog.bytesOf 23=32:=by kernel_rfl
@[go_sem] theorem u23:(Tryz.prog.underlying 23).isSome=true:=by kernel_rfl
@[go_sem] theorem k25:bK Tryz.prog 25=.slice 23:=by kernel_rfl
@[go_sem] theorem c25:Tryz.prog.cellsOf 25=1:=by kernel_rfl
@[go_sem] theorem b25:Tryz.prog.bytesOf 25=24:=by kernel_rfl
@[go_sem] theorem z25:eH Tryz.prog 25=some [.nil]:=by kernel_rfl
@[go_sem] theorem u25:(Tryz.prog.underlying 25).isSome=true:=by kernel_rfl
@[go_sem] theorem k27:bK Tryz.prog 27=.struct [(0,23),(32,25),(33,22)]:=by kernel_rfl
@[go_sem] theorem c27:Tryz.prog.cellsOf 27=34:=by kernel_rfl
@[go_sem] theorem b27:Tryz.prog.bytesOf 27=80:=by kernel_rfl
@[go_sem] theorem u27:(Tryz.prog.underlying 27).isSome=true:=by kernel_rfl
@[go_sem] theorem k28:bK Tryz.prog 28=.scal:=by kernel_rfl
@[go_sem] theorem c28:Tryz.prog.cellsOf 28=1:=by kernel_rfl
@[go_sem] theorem b28:Tryz.prog.bytesOf 28=8:=by kernel_rfl
@[go_sem] theorem z28:eH Tryz.prog 28=some [.d (.int .i64 0)]:=by kernel_rfl
@[go_sem] theorem i28:gy Tryz.prog 28=some .i64:=by kernel_rfl
@[go_sem] theorem u28:(Tryz.prog.underlying 28).isSome=true:=by kernel_rfl
@[go_sem] theorem k41:bK Tryz.prog 41=.slice 22:=by kernel_rfl
@[go_sem] theorem c41:Tryz.prog.cellsOf 41=1:=by kernel_rfl
@[go_sem] theorem b41:Tryz.prog.bytesOf 41=24:=by kernel_rfl
@[go_sem] theorem z41:eH Tryz.prog 41=some [.nil]:=by kernel_rfl
@[go_sem] theorem u41:(Tryz.prog.underlying 41).isSome=true:=by kernel_rfl
@[go_sem] theorem k42:bK Tryz.prog 42=.slice 27:=by kernel_rfl
@[go_sem] theorem c42:Tryz.prog.cellsOf 42=1:=by kernel_rfl
@[go_sem] theorem b42:Tryz.prog.bytesOf 42=24:=by kernel_rfl
@[go_sem] theorem z42:eH Tryz.prog 42=some [.nil]:=by kernel_rfl
@[go_sem] theorem u42:(Tryz.prog.underlying 42).isSome=true:=by kernel_rfl
@[go_sem] theorem k47:bK Tryz.prog 47=.struct [(0,23),(32,22),(33,2),(34,23)]:=by kernel_rfl
@[go_sem] theorem c47:Tryz.prog.cellsOf 47=66:=by kernel_rfl
@[go_sem] theorem b47:Tryz.prog.bytesOf 47=96:=by kernel_rfl
@[go_sem] theorem u47:(Tryz.prog.underlying 47).isSome=true:=by kernel_rfl
@[go_sem] theorem k53:bK Tryz.prog 53=.scal:=by kernel_rfl
@[go_sem] theorem c53:Tryz.prog.cellsOf 53=1:=by kernel_rfl
@[go_sem] theorem b53:Tryz.prog.bytesOf 53=4:=by kernel_rfl
@[go_sem] theorem z53:eH Tryz.prog 53=some [.d (.int .u32 0)]:=by kernel_rfl
@[go_sem] theorem i53:gy Tryz.prog 53=some .u32:=by kernel_rfl
@[go_sem] theorem u53:(Tryz.prog.underlying 53).isSome=true:=by kernel_rfl
@[go_sem] theorem k70:bK Tryz.prog 70=.scal:=by kernel_rfl
@[go_sem] theorem c70:Tryz.prog.cellsOf 70=1:=by kernel_rfl
@[go_sem] theorem b70:Tryz.prog.bytesOf 70=8:=by kernel_rfl
@[go_sem] theorem z70:eH Tryz.prog 70=some [.d (.int .u64 0)]:=by kernel_rfl
@[go_sem] theorem i70:gy Tryz.prog 70=some .u64:=by kernel_rfl
@[go_sem] theorem u70:(Tryz.prog.underlying 70).isSome=true:=by kernel_rfl
@[go_sem] theorem k94:bK Tryz.prog 94=.slice 96:=by kernel_rfl
@[go_sem] theorem c94:Tryz.prog.cellsOf 94=1:=by kernel_rfl
@[go_sem] theorem b94:Tryz.prog.bytesOf 94=24:=by kernel_rfl
@[go_sem] theorem z94:eH Tryz.prog 94=some [.nil]:=by kernel_rfl
@[go_sem] theorem u94:(Tryz.prog.underlying 94).isSome=true:=by kernel_rfl
@[go_sem] theorem k96:bK Tryz.prog 96=.struct [(0,23),(32,3),(33,3)]:=by kernel_rfl
@[go_sem] theorem c96:Tryz.prog.cellsOf 96=34:=by kernel_rfl
@[go_sem] theorem b96:Tryz.prog.bytesOf 96=48:=by kernel_rfl
@[go_sem] theorem u96:(Tryz.prog.underlying 96).isSome=true:=by kernel_rfl
@[go_sem] theorem k99:bK Tryz.prog 99=.slice 102:=by kernel_rfl
@[go_sem] theorem c99:Tryz.prog.cellsOf 99=1:=by kernel_rfl
@[go_sem] theorem b99:Tryz.prog.bytesOf 99=24:=by kernel_rfl
@[go_sem] theorem z99:eH Tryz.prog 99=some [.nil]:=by kernel_rfl
@[go_sem] theorem u99:(Tryz.prog.underlying 99).isSome=true:=by kernel_rfl
@[go_sem] theorem k100:bK Tryz.prog 100=.slice 3:=by kernel_rfl
@[go_sem] theorem c100:Tryz.prog.cellsOf 100=1:=by kernel_rfl
@[go_sem] theorem b100:Tryz.prog.bytesOf 100=24:=by kernel_rfl
@[go_sem] theorem z100:eH Tryz.prog 100=some [.nil]:=by kernel_rfl
@[go_sem] theorem u100:(Tryz.prog.underlying 100).isSome=true:=by kernel_rfl
@[go_sem] theorem k102:bK Tryz.prog 102=.struct [(0,23),(32,100)]:=by kernel_rfl
@[go_sem] theorem c102:Tryz.prog.cellsOf 102=33:=by kernel_rfl
@[go_sem] theorem b102:Tryz.prog.bytesOf 102=56:=by kernel_rfl
@[go_sem] theorem u102:(Tryz.prog.underlying 102).isSome=true:=by kernel_rfl
@[go_sem] theorem k130:bK Tryz.prog 130=.struct [(0,5),(1,22)]:=by kernel_rfl
@[go_sem] theorem c130:Tryz.prog.cellsOf 130=2:=by kernel_rfl
@[go_sem] theorem b130:Tryz.prog.bytesOf 130=32:=by kernel_rfl
@[go_sem] theorem z130:eH Tryz.prog 130=some [.d (.int .u8 0),.nil]:=by kernel_rfl
@[go_sem] theorem u130:(Tryz.prog.underlying 130).isSome=true:=by kernel_rfl
@[go_sem] theorem k134:bK Tryz.prog 134=.slice 130:=by kernel_rfl
@[go_sem] theorem c134:Tryz.prog.cellsOf 134=1:=by kernel_rfl
@[go_sem] theorem b134:Tryz.prog.bytesOf 134=24:=by kernel_rfl
@[go_sem] theorem z134:eH Tryz.prog 134=some [.nil]:=by kernel_rfl
@[go_sem] theorem u134:(Tryz.prog.underlying 134).isSome=true:=by kernel_rfl
@[go_sem] theorem k146:bK Tryz.prog 146=.scal:=by kernel_rfl
@[go_sem] theorem c146:Tryz.prog.cellsOf 146=1:=by kernel_rfl
@[go_sem] theorem b146:Tryz.prog.bytesOf 146=8:=by kernel_rfl
@[go_sem] theorem z146:eH Tryz.prog 146=some [.d (.int .u64 0)]:=by kernel_rfl
@[go_sem] theorem i146:gy Tryz.prog 146=some .u64:=by kernel_rfl
@[go_sem] theorem u146:(Tryz.prog.underlying 146).isSome=true:=by kernel_rfl
@[go_sem] theorem k160:bK Tryz.prog 160=.arr 4 70:=by kernel_rfl
@[go_sem] theorem c160:Tryz.prog.cellsOf 160=4:=by kernel_rfl
@[go_sem] theorem b160:Tryz.prog.bytesOf 160=32:=by kernel_rfl
@[go_sem] theorem z160:eH Tryz.prog 160=some [.d (.int .u64 0),.d (.int .u64 0),.d (.int .u64 0),.d (.int .u64 0)]:=by kernel_rfl
@[go_sem] theorem u160:(Tryz.prog.underlying 160).isSome=true:=by kernel_rfl
@[go_sem] theorem k162:bK Tryz.prog 162=.struct [(0,160),(4,160),(8,4)]:=by kernel_rfl
@[go_sem] theorem c162:Tryz.prog.cellsOf 162=9:=by kernel_rfl
@[go_sem] theorem b162:Tryz.prog.bytesOf 162=72:=by kernel_rfl
@[go_sem] theorem z162:eH Tryz.prog 162=some [.d (.int .u64 0),.d (.int .u64 0),.d (.int .u64 0),.d (.int .u64 0),.d (.int .u64 0),.d (.int .u64 0),.d (.int .u64 0),.d (.int .u64 0),.d (.bool false)]:=by kernel_rfl
@[go_sem] theorem u162:(Tryz.prog.underlying 162).isSome=true:=by kernel_rfl
@[go_sem] theorem k181:bK Tryz.prog 181=.slice 53:=by kernel_rfl
@[go_sem] theorem c181:Tryz.prog.cellsOf 181=1:=by kernel_rfl
@[go_sem] theorem b181:Tryz.prog.bytesOf 181=24:=by kernel_rfl
@[go_sem] theorem z181:eH Tryz.prog 181=some [.nil]:=by kernel_rfl
@[go_sem] theorem u181:(Tryz.prog.underlying 181).isSome=true:=by kernel_rfl
@[go_sem] theorem k185:bK Tryz.prog 185=.arr 8 53:=by kernel_rfl
@[go_sem] theorem c185:Tryz.prog.cellsOf 185=8:=by kernel_rfl
@[go_sem] theorem b185:Tryz.prog.bytesOf 185=32:=by kernel_rfl
@[go_sem] theorem z185:eH Tryz.prog 185=some [.d (.int .u32 0),.d (.int .u32 0),.d (.int .u32 0),.d (.int .u32 0),.d (.int .u32 0),.d (.int .u32 0),.d (.int .u32 0),.d (.int .u32 0)]:=by kernel_rfl
@[go_sem] theorem u185:(Tryz.prog.underlying 185).isSome=true:=by kernel_rfl
@[go_sem] theorem k188:bK Tryz.prog 188=.struct [(0,185),(8,22),(9,70)]:=by kernel_rfl
@[go_sem] theorem c188:Tryz.prog.cellsOf 188=10:=by kernel_rfl
@[go_sem] theorem b188:Tryz.prog.bytesOf 188=64:=by kernel_rfl
@[go_sem] theorem z188:eH Tryz.prog 188=some [.d (.int .u32 0),.d (.int .u32 0),.d (.int .u32 0),.d (.int .u32 0),.d (.int .u32 0),.d (.int .u32 0),.d (.int .u32 0),.d (.int .u32 0),.nil,.d (.int .u64 0)]:=by kernel_rfl
@[go_sem] theorem u188:(Tryz.prog.underlying 188).isSome=true:=by kernel_rfl
@[go_sem] theorem k191:bK Tryz.prog 191=.scal:=by kernel_rfl
@[go_sem] theorem c191:Tryz.prog.cellsOf 191=1:=by kernel_rfl
@[go_sem] theorem b191:Tryz.prog.bytesOf 191=2:=by kernel_rfl
@[go_sem] theorem z191:eH Tryz.prog 191=some [.d (.int .u16 0)]:=by kernel_rfl
@[go_sem] theorem i191:gy Tryz.prog 191=some .u16:=by kernel_rfl
@[go_sem] theorem u191:(Tryz.prog.underlying 191).isSome=true:=by kernel_rfl
@[go_sem] theorem k199:bK Tryz.prog 199=.struct [(0,160),(4,160),(8,160)]:=by kernel_rfl
@[go_sem] theorem c199:Tryz.prog.cellsOf 199=12:=by kernel_rfl
@[go_sem] theorem b199:Tryz.prog.bytesOf 199=96:=by kernel_rfl
@[go_sem] theorem z199:eH Tryz.prog 199=some [.d (.int .u64 0),.d (.int .u64 0),.d (.int .u64 0),.d (.int .u64 0),.d (.int .u64 0),.d (.int .u64 0),.d (.int .u64 0),.d (.int .u64 0),.d (.int .u64 0),.d (.int .u64 0),.d (.int .u64 0),.d (.int .u64 0)]:=by kernel_rfl
@[go_sem] theorem u199:(Tryz.prog.underlying 199).isSome=true:=by kernel_rfl
@[go_sem] theorem k208:bK Tryz.prog 208=.struct [(0,160),(4,160),(8,160)]:=by kernel_rfl
@[go_sem] theorem c208:Tryz.prog.cellsOf 208=12:=by kernel_rfl
@[go_sem] theorem b208:Tryz.prog.bytesOf 208=96:=by kernel_rfl
@[go_sem] theorem z208:eH Tryz.prog 208=some [.d (.int .u64 0),.d (.int .u64 0),.d (.int .u64 0),.d (.int .u64 0),.d (.int .u64 0),.d (.int .u64 0),.d (.int .u64 0),.d (.int .u64 0),.d (.int .u64 0),.d (.int .u64 0),.d (.int .u64 0),.d (.int .u64 0)]:=by kernel_rfl
@[go_sem] theorem u208:(Tryz.prog.underlying 208).isSome=true:=by kernel_rfl
@[go_sem] theorem k219:bK Tryz.prog 219=.arr 64 53:=by kernel_rfl
@[go_sem] theorem c219:Tryz.prog.cellsOf 219=64:=by kernel_rfl
@[go_sem] theorem b219:Tryz.prog.bytesOf 219=256:=by kernel_rfl
@[go_sem] theorem u219:(Tryz.prog.underlying 219).isSome=true:=by kernel_rfl
@[go_sem] theorem k230:bK Tryz.prog 230=.arr 8 70:=by kernel_rfl
@[go_sem] theorem c230:Tryz.prog.cellsOf 230=8:=by kernel_rfl
@[go_sem] theorem b230:Tryz.prog.bytesOf 230=64:=by kernel_rfl
@[go_sem] theorem z230:eH Tryz.prog 230=some [.d (.int .u64 0),.d (.int .u64 0),.d (.int .u64 0),.d (.int .u64 0),.d (.int .u64 0),.d (.int .u64 0),.d (.int .u64 0),.d (.int .u64 0)]:=by kernel_rfl
@[go_sem] theorem u230:(Tryz.prog.underlying 230).isSome=true:=by kernel_rfl
@[go_sem] theorem k232:bK Tryz.prog 232=.arr 16 70:=by kernel_rfl
@[go_sem] theorem c232:Tryz.prog.cellsOf 232=16:=by kernel_rfl
@[go_sem] theorem b232:Tryz.prog.bytesOf 232=128:=by kernel_rfl
@[go_sem] theorem u232:(Tryz.prog.underlying 232).isSome=true:=by kernel_rfl
@[go_sem] theorem k242:bK Tryz.prog 242=.arr 10 70:=by kernel_rfl
@[go_sem] theorem c242:Tryz.prog.cellsOf 242=10:=by kernel_rfl
@[go_sem] theorem b242:Tryz.prog.bytesOf 242=80:=by kernel_rfl
@[go_sem] theorem z242:eH Tryz.prog 242=some [.d (.int .u64 0),.d (.int .u64 0),.d (.int .u64 0),.d (.int .u64 0),.d (.int .u64 0),.d (.int .u64 0),.d (.int .u64 0),.d (.int .u64 0),.d (.int .u64 0),.d (.int .u64 0)]:=by kernel_rfl
@[go_sem] theorem u242:(Tryz.prog.underlying 242).isSome=true:=by kernel_rfl
end Go.Proofs.YtldccnbokbieiaaGreat
namespace Go.Sha
open Go.Am
def M:Nat:=4294967296
def fK (a b:Nat):Nat:=(a+b) % 4294967296
def fV (a b:Nat):Nat:=(a ^^^ b) % 4294967296
def r9 (a b:Nat):Nat:=(a &&& b) % 4294967296
def Cl (a b:Nat):Nat:=(a ||| b) % 4294967296
def c32 (a:Nat):Nat:=(4294967295 ^^^ a) % 4294967296
def Cm (n a:Nat):Nat:=a*2 ^ n % 4294967296
def c7 (n a:Nat):Nat:=a / 2 ^ n
def pi (a:Nat):Nat:=a % 4294967296
def t8 (a:Nat):Nat:=a % 256
def ku (s x:Nat):Nat:=Cl (Cm s x) (c7 (32 - s) x)
theorem K4 (x:Int):IntKind.u32.wrap x=x % 4294967296:=by simp [IntKind.wrap,IntKind.bits,IntKind.signed]
theorem fU (x:Int):IntKind.u64.wrap x=x % 18446744073709551616:=by simp [IntKind.wrap,IntKind.bits,IntKind.signed]
theorem AW (x:Int):IntKind.u8.wrap x=x % 256:=by simp [IntKind.wrap,IntKind.bits,IntKind.signed]
theorem fw (k:Nat) (a:Nat):(BitVec.ofInt k (a:Int)).toNat=a % 2 ^ k:=by
 rw [BitVec.toNat_ofInt]
 omega
theorem cY (a b:Nat):IntKind.u32.wrap ((a:Int)+(b:Int))=((fK a b:Nat):Int):=by rw [K4];unfold fK;omega
theorem te (a:Nat):IntKind.u32.wrap (a:Int)=((pi a:Nat):Int):=by rw [K4];unfold pi;omega
theorem cm (a:Nat):IntKind.u8.wrap (a:Int)=((t8 a:Nat):Int):=by rw [AW];unfold t8;omega
theorem AX (a b:Nat):IntKind.u32.wrap ((a:Int)*(b:Int))=((a*b % 4294967296:Nat):Int):=by
 rw [K4,← Int.natCast_mul];omega
theorem Ja (a n:Nat):IntKind.u32.wrap ((a:Int)*2 ^ n)=((Cm n a:Nat):Int):=by
 have:=AX a (2 ^ n)
 rw [Int.natCast_pow] at this
 exact this
theorem Nn (a:Nat):IntKind.u32.wrap ((a:Int)*256)=((Cm 8 a:Nat):Int):=AX a 256
theorem dg (a b:Nat):bits .xor .u32 (a:Int) (b:Int)=((fV a b:Nat):Int):=by
 show IntKind.u32.wrap (((BitVec.ofInt 32 (a:Int)) ^^^ (BitVec.ofInt 32 (b:Int))).toNat:Int)=_
 rw [BitVec.toNat_xor,fw,fw,← Nat.xor_mod_two_pow,te]
 unfold fV pi
 congr 1
 omega
theorem ed (a b:Nat):bits .and .u32 (a:Int) (b:Int)=((r9 a b:Nat):Int):=by
 show IntKind.u32.wrap (((BitVec.ofInt 32 (a:Int)) &&& (BitVec.ofInt 32 (b:Int))).toNat:Int)=_
 rw [BitVec.toNat_and,fw,fw,← Nat.and_mod_two_pow,te]
 unfold r9 pi
 congr 1
 omega
theorem HO (a b:Nat):bits .or .u32 (a:Int) (b:Int)=((Cl a b:Nat):Int):=by
 show IntKind.u32.wrap (((BitVec.ofInt 32 (a:Int)) ||| (BitVec.ofInt 32 (b:Int))).toNat:Int)=_
 rw [BitVec.toNat_or,fw,fw,← Nat.or_mod_two_pow,te]
 unfold Cl pi
 congr 1
 omega
theorem Jb (a:Nat):bits .xor .u32 4294967295 (a:Int)=((c32 a:Nat):Int):=dg 4294967295 a
theorem eD (a b:Nat):Int.fdiv (a:Int) (b:Int)=((a / b:Nat):Int):=by
 rw [Int.fdiv_eq_ediv_of_nonneg _ (by omega)]
 exact (Int.natCast_ediv a b).symm
theorem Jc (a n:Nat):Int.fdiv (a:Int) (2 ^ n)=((c7 n a:Nat):Int):=by
 have:=eD a (2 ^ n)
 rw [Int.natCast_pow] at this
 exact this
theorem Np (a:Nat):Int.fdiv (a:Int) 8=((c7 3 a:Nat):Int):=eD a 8
theorem Jd (a:Nat):Int.fdiv (a:Int) 1024=((c7 10 a:Nat):Int):=eD a 1024
def cw (l:List Nat):List AV:=l.map fun (x:Nat)=>AV.d (.int .u32 (x:Int))
theorem uP (l:List Nat):(cw l).length=l.length:=by simp [cw]
theorem jV (l:List Nat) (i:Nat):(cw l)[i]?=(l[i]?).map fun (x:Nat)=>AV.d (.int .u32 (x:Int)):=by simp [cw]
theorem zK (l:List Nat) (i x:Nat):(cw l).set i (.d (.int .u32 (x:Int)))=cw (l.set i x):=by simp [cw,List.map_set]
theorem EA (ρ:Nat→Nat):∀ l:List Nat,AV.renL ρ (cw l)=cw l
 | []=>by simp [cw,AV.renL]
 | x :: r=>by
  have:=EA ρ r
  simp only [cw] at this
  simp only [cw,List.map_cons,AV.renL,AV.ren,this]
def nb (bs:List Nat):DV:=.ro 1 (bs.map fun (b:Nat)=>[.int .u8 (b:Int)])
structure S8 where
 a:Nat
 b:Nat
 c:Nat
 d:Nat
 e:Nat
 f:Nat
 g:Nat
 h:Nat
def S8.l (s:S8):List Nat:=[s.a,s.b,s.c,s.d,s.e,s.f,s.g,s.h]
def T1 (s:S8) (k w:Nat):Nat:=fK (fK (fK (fK s.h (fV (fV (ku 26 s.e) (ku 21 s.e)) (ku 7 s.e))) (fV (r9 s.e s.f) (r9 (c32 s.e) s.g))) k) w
def T2 (s:S8):Nat:=fK (fV (fV (ku 30 s.a) (ku 19 s.a)) (ku 10 s.a)) (fV (fV (r9 s.a s.b) (r9 s.a s.c)) (r9 s.b s.c))
def rd (s:S8) (k w:Nat):S8:=⟨fK (T1 s k w) (T2 s),s.a,s.b,s.c,fK s.d (T1 s k w),s.e,s.f,s.g⟩
def tf (s:S8) (p:Nat × Nat):S8:=rd s p.1 p.2
section
variable {α β:Type} (f:β→α→β)
def kn (t:Nat) (l:List α) (s:β):β:=(l.drop t).foldl f s
theorem mK {l:List α} {p:α} {s:β} {t:Nat} (h:l[t]?=some p):kn f t l s=kn f (t+1) l (f s p):=by
 obtain ⟨h1,h2⟩:=List.getElem?_eq_some_iff.1 h
 unfold kn
 rw [List.drop_eq_getElem_cons h1,List.foldl_cons,h2]
theorem oF {l:List α} {s:β} {t:Nat} (h:l.length≤t):kn f t l s=s:=by
 unfold kn
 rw [List.drop_eq_nil_of_le h,List.foldl_nil]
end
def uQ (ks ws:List Nat) (s:S8):S8:=kn tf 0 (ks.zip ws) s
def pj (s v:S8):S8:=⟨fK s.a v.a,fK s.b v.b,fK s.c v.c,fK s.d v.d,fK s.e v.e,fK s.f v.f,fK s.g v.g,fK s.h v.h⟩
def kv (b:List Nat):Nat:=b.foldl (fun x c=>Cl (Cm 8 x) (pi c)) 0
def wx (w:List Nat):Nat :=
 let t:=w.length
 let x:=w.getD (t - 15) 0
 let y:=w.getD (t - 2) 0
 let s0:=fV (fV (ku 25 x) (ku 14 x)) (c7 3 x)
 let s1:=fV (fV (ku 15 y) (ku 13 y)) (c7 10 y)
 fK (fK (fK (w.getD (t - 16) 0) s0) (w.getD (t - 7) 0)) s1
def fk (b:List Nat):Nat→List Nat
 | 0=>[]
 | n+1=>fk b n ++ [kv ((b.take (4*n+4)).drop (4*n))]
def ci (b:List Nat):Nat→List Nat
 | 0=>fk b 16
 | n+1=>ci b n ++ [wx (ci b n)]
theorem jW (b:List Nat):∀ n,(fk b n).length=n
 | 0=>rfl
 | n+1=>by simp [fk,jW b n]
theorem jz (b:List Nat):∀ n,(ci b n).length=n+16
 | 0=>jW b 16
 | n+1=>by
  have:=jz b n
  simp only [ci,List.length_append,this,List.length_singleton]
def jA (b:List Nat):List Nat:=ci b 48
theorem lM (b:List Nat):(jA b).length=64:=jz b 48
def K:List Nat:=[0x428a2f98,0x71374491,0xb5c0fbcf,0xe9b5dba5,0x3956c25b,0x59f111f1,0x923f82a4,0xab1c5ed5] ++ [0xd807aa98,0x12835b01,0x243185be,0x550c7dc3,0x72be5d74,0x80deb1fe,0x9bdc06a7,0xc19bf174] ++
 [0xe49b69c1,0xefbe4786,0x0fc19dc6,0x240ca1cc,0x2de92c6f,0x4a7484aa,0x5cb0a9dc,0x76f988da] ++ [0x983e5152,0xa831c66d,0xb00327c8,0xbf597fc7,0xc6e00bf3,0xd5a79147,0x06ca6351,0x14292967] ++
 [0x27b70a85,0x2e1b2138,0x4d2c6dfc,0x53380d13,0x650a7354,0x766a0abb,0x81c2c92e,0x92722c85] ++ [0xa2bfe8a1,0xa81a664b,0xc24b8b70,0xc76c51a3,0xd192e819,0xd6990624,0xf40e3585,0x106aa070] ++
 [0x19a4c116,0x1e376c08,0x2748774c,0x34b0bcb5,0x391c0cb3,0x4ed8aa4a,0x5b9cca4f,0x682e6ff3] ++ [0x748f82ee,0x78a5636f,0x84c87814,0x8cc70208,0x90befffa,0xa4506ceb,0xbef9a3f7,0xc67178f2]
def H0:S8:=⟨0x6a09e667,0xbb67ae85,0x3c6ef372,0xa54ff53a,0x510e527f,0x9b05688c,0x1f83d9ab,0x5be0cd19⟩
def take (s:S8) (b:List Nat):S8:=pj s (uQ K (jA b) s)
def pk:Nat→S8→List Nat→S8 × List Nat
 | 0,s,b=>(s,b)
 | n+1,s,b=>if 64≤b.length then pk n (Go.Sha.take s (b.take 64)) (b.drop 64) else (s,b)
def uR (x:Nat):Nat→List Nat
 | 0=>[]
 | k+1=>uR x k ++ [t8 (c7 (24 - 8*k) x)]
theorem pU (x:Nat):∀ k,(uR x k).length=k
 | 0=>rfl
 | k+1=>by simp [uR,pU x k]
def pre (l:List Nat):Nat→List Nat
 | 0=>[]
 | i+1=>pre l i ++ uR (l.getD i 0) 4
theorem gr (l:List Nat):∀ i,(pre l i).length=4*i
 | 0=>rfl
 | i+1=>by simp [pre,gr l i,pU];omega
def wr (s:S8):List Nat:=pre s.l 8
end Go.Sha
namespace Go.Proofs.YtldccnbokbieiaaGreat
open Go.Am Go.Sha
def z64:List Nat:=List.replicate 64 0
theorem HP:z64.length=64:=rfl
@[go_sem] theorem Rg:eH Tryz.prog 219=some (cw z64):=by kernel_rfl
attribute [go_sem] HP uP
def cb (l:List Nat):List AV:=l.map fun (x:Nat)=>AV.d (.int .u8 (x:Int))
theorem am (l:List Nat):(cb l).length=l.length:=by simp [cb]
theorem uS (l:List Nat) (i:Nat):(cb l)[i]?=(l[i]?).map fun (x:Nat)=>AV.d (.int .u8 (x:Int)):=by simp [cb]
theorem rt (l:List Nat) (i x:Nat):(cb l).set i (.d (.int .u8 (x:Int)))=cb (l.set i x):=by simp [cb,List.map_set]
theorem aF (n:Nat) (l:List Nat):∀ v,v ∈ cb l→v.low1 n:=by
 intro c hc
 simp only [cb,List.mem_map] at hc
 obtain ⟨x,_,rfl⟩:=hc
 trivial
theorem aL (l:List Nat):∀ c,c ∈ cb l→c.deep1:=by
 intro c hc
 simp only [cb,List.mem_map] at hc
 obtain ⟨x,_,rfl⟩:=hc
 trivial
def z32:List Nat:=List.replicate 32 0
theorem HQ:z32.length=32:=rfl
@[go_sem] theorem Rh:eH Tryz.prog 23=some (cb z32):=by kernel_rfl
attribute [go_sem] HQ am
theorem K5:Ar Tryz.prog 155=true:=by kernel_rfl
attribute [go_sem] K5
theorem eN (x s:Nat) (k:Int) (hs:bits .and .u64 (IntKind.u64.wrap k) 31=(s:Int)) (h1:s≤31) :
  aq Tryz.prog 199 [.d (.int .u32 (x:Int)),.d (.int .i64 k)] (fun r=>r=.d (.int .u32 ((ku s x:Nat):Int))):=by
 refine aS Tryz.func199 Tryz.ntmps199 (rs:=[.tmp 4]) (by simp [AV.deep,AV.deep1]) ?_
 have e1:IntKind.u64.wrap (32 - (s:Int))=((32 - s:Nat):Int):=by rw [fU];omega
 have e2:min s 32=s:=by omega
 have e3:min (32 - s) 32=32 - s:=by omega
 simp [go_sem,hs,e1,e2,e3,IntKind.bits,ak]
 refine ae (by simp [AV.deep,AV.deep1]) ?_
 rw [Ja,Jc,HO]
 rfl
theorem Cn:aq Tryz.prog 155 [] (fun r=>r=.agg (cw H0.l)):=by
 refine aS Tryz.func155 Tryz.ntmps155 (rs:=[.cell 0 185]) (by simp [AV.deep,AV.deep1]) ?_
 simp [go_sem,ak,je]
 exact ae (by simp [AV.deep,AV.deep1]) rfl
theorem HR (l:List Nat):∀ c,c ∈ cw l→c.deep1:=by
 intro c hc
 simp only [cw,List.mem_map] at hc
 obtain ⟨x,_,rfl⟩:=hc
 trivial
theorem xW:aq Tryz.prog 198 [] (fun r=>r=.agg (cw K)):=by
 refine aS Tryz.func198 Tryz.ntmps198 (rs:=[.cell 0 219]) (by simp [AV.deep,AV.deep1]) ?_
 have zz:eH Tryz.prog 219=some (List.replicate 64 (.d (.int .u32 0))):=by kernel_rfl
 simp [go_sem,ak,zz]
 exact ae (by simp [AV.deep,AV.deep1]) rfl
theorem cN {α:Type} {l:List α} {k:Nat} (h:k<l.length):∃ c,l[k]?=some c∧l.drop k=c :: l.drop (k+1) :=
 ⟨l[k],List.getElem?_eq_getElem h,List.drop_eq_getElem_cons h⟩
theorem ax {k:Nat} (h:k<4611686018427387904):IntKind.i64.wrap ((k:Int)+1)=((k+1:Nat):Int):=by
 rw [IntWalk.i64_in _ (by omega)];omega
theorem P3 {n:Nat} (h:n<4611686018427387904):IntKind.i64.wrap (n:Int)=(n:Int):=IntWalk.i64_in _ (by omega)
theorem ce (n:Nat) (l:List Nat):∀ v,v ∈ cw l→v.low1 n:=by
 intro c hc
 simp only [cw,List.mem_map] at hc
 obtain ⟨x,_,rfl⟩:=hc
 trivial
def gb (w:List Nat):List Nat:=w ++ List.replicate (64 - w.length) 0
theorem xX {w:List Nat} (h:w.length≤64):(gb w).length=64:=by simp [gb];omega
theorem xY {w:List Nat} {i:Nat} (h:i<w.length):(gb w)[i]?=some w[i]:=by
 unfold gb
 rw [List.getElem?_append_left h,List.getElem?_eq_getElem h]
theorem ru {w:List Nat} {x:Nat} (h:w.length<64):(gb w).set w.length x=gb (w ++ [x]):=by
 unfold gb
 rw [List.set_append_right _ _ (Nat.le_refl _),Nat.sub_self]
 obtain ⟨k,hk⟩:∃ k,64 - w.length=k+1:=⟨63 - w.length,by omega⟩
 rw [hk,List.replicate_succ,List.set_cons_zero,List.append_assoc]
 simp only [List.length_append,List.length_singleton,List.singleton_append]
 rw [show 64 - (w.length+1)=k by omega]
theorem Co {w:List Nat} {x y:Nat} (h:w.length<64):(gb (w ++ [x])).set w.length y=gb (w ++ [y]):=by
 rw [← ru h,← ru h,List.set_set]
theorem EB {w:List Nat} {x:Nat} (h:w.length<64):(gb (w ++ [x]))[w.length]?=some x:=by
 rw [xY (by simp)]
 simp
theorem Cp {w:List Nat} (h:w.length<64):gb (w ++ [0])=gb w:=by
 unfold gb
 obtain ⟨k,hk⟩:∃ k,64 - w.length=k+1:=⟨63 - w.length,by omega⟩
 rw [hk,List.replicate_succ,List.append_assoc]
 simp only [List.length_append,List.length_singleton,List.singleton_append]
 rw [show 64 - (w.length+1)=k by omega]
theorem Cq (q:List Nat) {j c:Nat} (h:q[j]?=some c):kv (q.take (j+1))=Cl (Cm 8 (kv (q.take j))) (pi c):=by
 unfold kv
 rw [List.take_add_one,h,List.foldl_append]
 rfl
theorem tg (b:List Nat) (hb:b.length=64):aq Tryz.prog 197 [.d (nb b)] (fun r=>r=.agg (cw (jA b))):=by
 refine aS Tryz.func197 Tryz.ntmps197 (rs:=[.cell 2 219]) (by simp [AV.deep,AV.deep1]) ?_
 simp only [go_sem,Nat.reduceEqDiff,Nat.reduceAdd,Nat.reduceLT,↓reduceIte,Nat.reduceMul,List.length_replicate]
 refine au (fun t:Nat=>⟨[(0,.d (nb b)),(2,.ptr 0 0 0 1),(3,.ptr 32 0 0 1),(12,.d (.int .i64 t))],[(32,⟨219,64,[cw (gb (fk b t))]⟩),(0,⟨219,64,[cw z64]⟩)],96⟩)
  (fun t=>t≤16) (fun t=>16 - t) 0 (by omega) (by
   simp [av,ag,fv,lk,AV.low,AV.low1]
   refine ⟨⟨rfl,ce _ _⟩,ce _ _⟩) ?_
 intro t ht
 have e1:=jW b t
 have w1:IntKind.i64.wrap (4*(t:Int))=((4*t:Nat):Int):=by rw [IntWalk.i64_in _ (by omega)];omega
 have w2:IntKind.i64.wrap (((4*t:Nat):Int)+4)=((4*t+4:Nat):Int):=by rw [IntWalk.i64_in _ (by omega)];omega
 simp only [go_sem,Nat.reduceEqDiff,Nat.reduceAdd,Nat.reduceLT,↓reduceIte]
 refine ⟨fun h=>?_,fun h=>?_⟩
 ·have hl4:((b.take (4*t+4)).drop (4*t)).length=4:=by simp;omega
  have hnb:((b.map fun (b:Nat)=>[DV.int .u8 (b:Int)]).take (4*t+4)).drop (4*t)=((b.take (4*t+4)).drop (4*t)).map fun (b:Nat)=>[DV.int .u8 (b:Int)]:=by simp [List.map_drop,List.map_take]
  simp only [go_sem,Nat.reduceEqDiff,Nat.reduceAdd,Nat.reduceLT,↓reduceIte,w1,w2,nb,Int.toNat_natCast,hnb,List.length_map,hl4]
  refine ⟨by omega,by omega,?_⟩
  refine au (fun j:Nat=>⟨[(0,.d (nb b)),(2,.ptr 0 0 0 1),(3,.ptr 32 0 0 1),(12,.d (.int .i64 t)),(4,.d (.int .i64 t)),(21,.d (nb ((b.take (4*t+4)).drop (4*t)))),(22,.d (.int .i64 (4:Nat))),(23,.d (.int .i64 j))],
    [(32,⟨219,64,[cw (gb (fk b t ++ [kv (((b.take (4*t+4)).drop (4*t)).take j)]))]⟩),(0,⟨219,64,[cw z64]⟩)],480⟩)
   (fun j=>j≤4) (fun j=>4 - j) 0 (by omega) (by
    simp [av,ag,fv,lk,AV.low,AV.low1,nb,List.map_drop,List.map_take]
    exact ⟨⟨by rw [show kv []=0 from rfl,Cp (by omega)],ce _ _⟩,ce _ _⟩) ?_
  intro j hj
  simp only [go_sem,Nat.reduceEqDiff,Nat.reduceAdd,Nat.reduceLT,↓reduceIte]
  refine ⟨fun h2=>?_,fun h2=>?_⟩
  ·obtain ⟨c,hc,_⟩:=cN (l:=(b.take (4*t+4)).drop (4*t)) (k:=j) (by omega)
   have g1:(gb (fk b t ++ [kv (((b.take (4*t+4)).drop (4*t)).take j)]))[t]?=some (kv (((b.take (4*t+4)).drop (4*t)).take j)):=by
    have:=EB (w:=fk b t) (x:=kv (((b.take (4*t+4)).drop (4*t)).take j)) (by omega)
    rw [e1] at this
    exact this
   have g2:∀ y,(gb (fk b t ++ [kv (((b.take (4*t+4)).drop (4*t)).take j)])).set t y=gb (fk b t ++ [y]):=by
    intro y
    have:=Co (w:=fk b t) (x:=kv (((b.take (4*t+4)).drop (4*t)).take j)) (y:=y) (by omega)
    rw [e1] at this
    exact this
   have w3:=P3 (n:=j+1) (by omega)
   have g3:(gb (fk b t ++ [kv (((b.take (4*t+4)).drop (4*t)).take j)])).length=64:=xX (by simp;omega)
   generalize hq:(b.take (4*t+4)).drop (4*t)=q at *
   simp [go_sem,nb,hc,jV,g1,IntKind.bits,Nn,te,HO,zK,g2,g3,e1]
   refine ⟨by omega,by omega,?_⟩
   have w3:=ax (k:=j) (by omega)
   rw [w3]
   refine ai (j+1) (by omega) (by omega) ?_
   simp [av,ag,fv,lk,AV.low,AV.low1,Cq q hc]
   exact ⟨ce _ _,ce _ _⟩
  ·have hj4:j=4:=by omega
   subst hj4
   have w3:=ax (k:=t) (by omega)
   rw [w3]
   refine ai (t+1) (by omega) (by omega) ?_
   have hfull:kv (((b.take (4*t+4)).drop (4*t)).take 4)=kv ((b.take (4*t+4)).drop (4*t)):=by rw [List.take_of_length_le (by omega)]
   simp [av,ag,fv,lk,AV.low,AV.low1,fk]
   exact ⟨rfl,⟨by rw [hfull],ce _ _⟩,ce _ _⟩
 ·have ht16:t=16:=by omega
  subst ht16
  refine au (fun t:Nat=>⟨[(2,.ptr 0 0 0 1),(3,.ptr 32 0 0 1),(7,.d (.int .i64 ((t+16:Nat):Int)))],[(32,⟨219,64,[cw (gb (ci b t))]⟩),(0,⟨219,64,[cw z64]⟩)],128⟩)
   (fun t=>t≤48) (fun t=>48 - t) 0 (by omega) (by
    simp [av,ag,fv,lk,AV.low,AV.low1,ci]
    exact ⟨ce _ _,ce _ _⟩) ?_
  intro t ht
  have e1:=jz b t
  simp only [go_sem,Nat.reduceEqDiff,Nat.reduceAdd,Nat.reduceLT,↓reduceIte]
  refine ⟨fun h=>?_,fun h=>?_⟩
  ·have i1:IntKind.i64.wrap (((t+16:Nat):Int) - 15)=((t+16 - 15:Nat):Int):=by rw [IntWalk.i64_in _ (by omega)];omega
   have i2:IntKind.i64.wrap (((t+16:Nat):Int) - 2)=((t+16 - 2:Nat):Int):=by rw [IntWalk.i64_in _ (by omega)];omega
   have i3:IntKind.i64.wrap (((t+16:Nat):Int) - 16)=((t+16 - 16:Nat):Int):=by rw [IntWalk.i64_in _ (by omega)];omega
   have i4:IntKind.i64.wrap (((t+16:Nat):Int) - 7)=((t+16 - 7:Nat):Int):=by rw [IntWalk.i64_in _ (by omega)];omega
   have gg:∀ i,i<t+16→(gb (ci b t))[i]?=some ((ci b t).getD i 0):=by
    intro i hi
    rw [xY (by omega),List.getD_eq_getElem?_getD,List.getElem?_eq_getElem (by omega)]
    rfl
   have w3:=ax (k:=t+16) (by omega)
   generalize hT:t+16=T at *
   apply Eo (0 :: 1 :: 2 :: 3 :: 4 :: 5 :: 6 :: 7 :: 8 :: 9 :: []) ([]) 0 (k:=10) (by kernel_rfl) (by kernel_rfl) rfl
   case hz=>repeat (first | exact Its.nil | apply Its.plain rfl | apply Its.guard rfl rfl)
   case hj=>exact Jts.nil
   intro G hG
   have g15:=gg (T - 15) (by omega)
   have g2:=gg (T - 2) (by omega)
   have g16:=gg (T - 16) (by omega)
   have g7:=gg (T - 7) (by omega)
   have hwx:wx (ci b t)=fK (fK (fK ((ci b t).getD (T - 16) 0) (fV (fV (ku 25 ((ci b t).getD (T - 15) 0)) (ku 14 ((ci b t).getD (T - 15) 0))) (c7 3 ((ci b t).getD (T - 15) 0)))) ((ci b t).getD (T - 7) 0)) (fV (fV (ku 15 ((ci b t).getD (T - 2) 0)) (ku 13 ((ci b t).getD (T - 2) 0))) (c7 10 ((ci b t).getD (T - 2) 0))):=by
    unfold wx
    rw [e1]
   generalize (ci b t).getD (T - 15) 0=x at g15 hwx
   generalize (ci b t).getD (T - 2) 0=y at g2 hwx
   generalize (ci b t).getD (T - 16) 0=u at g16 hwx
   generalize (ci b t).getD (T - 7) 0=v at g7 hwx
   simp [go_sem,i1,i2,jV,g15,g2]
   refine ⟨by omega,by omega,hG _ _ ?_⟩
   simp only [go_sem,Nat.reduceEqDiff,Nat.reduceAdd,Nat.reduceLT,↓reduceIte,Nat.reduceMul]
   refine ab (eN x 25 (-7) (by decide) (by omega)) (by simp [AV.deep,AV.deep1]) ?_
   simp only [go_sem,Nat.reduceEqDiff,Nat.reduceAdd,Nat.reduceLT,↓reduceIte]
   refine ab (eN x 14 (-18) (by decide) (by omega)) (by simp [AV.deep,AV.deep1]) ?_
   simp [go_sem,dg,IntKind.bits,Np]
   refine ab (eN y 15 (-17) (by decide) (by omega)) (by simp [AV.deep,AV.deep1]) ?_
   simp only [go_sem,Nat.reduceEqDiff,Nat.reduceAdd,Nat.reduceLT,↓reduceIte]
   refine ab (eN y 13 (-19) (by decide) (by omega)) (by simp [AV.deep,AV.deep1]) ?_
   simp [go_sem,dg,IntKind.bits,Jd]
   apply Eo (0 :: 1 :: 2 :: 3 :: 4 :: 5 :: 6 :: 7 :: 8 :: 9 :: 10 :: 11 :: 12 :: 13 :: 14 :: []) ((15,([])) :: []) 0 (k:=16) (by kernel_rfl) (by kernel_rfl) rfl
   case hz=>repeat (first | exact Its.nil | apply Its.plain rfl | apply Its.guard rfl rfl)
   case hj=>exact Jts.plain rfl Its.nil Jts.nil
   intro G hG
   have hset:(gb (ci b t)).set T (wx (ci b t))=gb (ci b (t+1)):=by
    have:=ru (w:=ci b t) (x:=wx (ci b t)) (by omega)
    rw [e1] at this
    exact this
   rw [hwx] at hset
   have hlen:(gb (ci b t)).length=64:=xX (by omega)
   simp [go_sem,i3,i4,jV,g16,g7,cY,zK,hset,hlen]
   refine ⟨by omega,by omega,by omega,by omega,hG _ _ ?_⟩
   simp [go_sem,w3]
   refine ai (t+1) (by omega) (by omega) ?_
   subst hT
   simp [av,ag,fv,lk,AV.low,AV.low1]
   exact ⟨by omega,ce _ _,ce _ _⟩
  ·have ht48:t=48:=by omega
   subst ht48
   have hfull:gb (ci b 48)=jA b:=by
    have h0:∀ w:List Nat,w.length=64→gb w=w:=fun w hw=>by unfold gb;rw [hw,Nat.sub_self,List.replicate_zero,List.append_nil]
    exact h0 _ e1
   rw [hfull]
   have hsl:=lM b
   generalize jA b=sb at hsl
   have htk:(cw sb).take 64=cw sb:=List.take_of_length_le (by rw [uP];omega)
   simp [go_sem,ak,hsl,htk]
   exact ae (by simp [AV.deep];exact HR _) rfl
def de (s:S8):List AV:=[.d (.int .u32 (s.a:Int)),.d (.int .u32 (s.b:Int)),.d (.int .u32 (s.c:Int)),.d (.int .u32 (s.d:Int)),.d (.int .u32 (s.e:Int)),.d (.int .u32 (s.f:Int)),.d (.int .u32 (s.g:Int)),.d (.int .u32 (s.h:Int))]
theorem oG (s:S8):de s=cw s.l:=rfl
theorem pn:K.length=64:=rfl
def fL (s v:S8) (i:Nat):List Nat:=(List.zipWith fK s.l v.l).take i ++ s.l.drop i
theorem xZ (s v:S8) {i:Nat} (h:i≤8):(fL s v i).length=8:=by simp [fL,S8.l];omega
theorem th (s v:S8):fL s v 0=s.l:=by simp [fL]
theorem x4 (s v:S8):fL s v 8=(pj s v).l:=by simp [fL,S8.l,pj]
theorem ti (s v:S8) {i:Nat} (h:i<8):∃ x y,v.l[i]?=some y∧(fL s v i)[i]?=some x∧(fL s v i).set i (fK x y)=fL s v (i+1):=by
 rcases (by omega:i=0 ∨ i=1 ∨ i=2 ∨ i=3 ∨ i=4 ∨ i=5 ∨ i=6 ∨ i=7) with rfl | rfl | rfl | rfl | rfl | rfl | rfl | rfl
 ·exact ⟨s.a,v.a,by simp [S8.l],by simp [fL,S8.l],by simp [fL,S8.l]⟩
 ·exact ⟨s.b,v.b,by simp [S8.l],by simp [fL,S8.l],by simp [fL,S8.l]⟩
 ·exact ⟨s.c,v.c,by simp [S8.l],by simp [fL,S8.l],by simp [fL,S8.l]⟩
 ·exact ⟨s.d,v.d,by simp [S8.l],by simp [fL,S8.l],by simp [fL,S8.l]⟩
 ·exact ⟨s.e,v.e,by simp [S8.l],by simp [fL,S8.l],by simp [fL,S8.l]⟩
 ·exact ⟨s.f,v.f,by simp [S8.l],by simp [fL,S8.l],by simp [fL,S8.l]⟩
 ·exact ⟨s.g,v.g,by simp [S8.l],by simp [fL,S8.l],by simp [fL,S8.l]⟩
 ·exact ⟨s.h,v.h,by simp [S8.l],by simp [fL,S8.l],by simp [fL,S8.l]⟩
theorem AY {l:List Nat} {tail:List AV} {i x:Nat} (h:l[i]?=some x):(cw l ++ tail)[i]?=some (.d (.int .u32 (x:Int))):=by
 have hl:i<(cw l).length:=by rw [uP];exact (List.getElem?_eq_some_iff.1 h).1
 rw [List.getElem?_append_left hl,jV,h]
 rfl
theorem AZ {l:List Nat} {tail:List AV} {i x:Nat} (h:i<l.length):(cw l ++ tail).set i (.d (.int .u32 (x:Int)))=cw (l.set i x) ++ tail:=by
 rw [List.set_append_left _ _ (by rw [uP];exact h),zK]
theorem Je:(if IntKind.u32.signed=true then -1 else IntKind.u32.max)=(4294967295:Int):=by decide
theorem pV (ty:TypeId) (e:Nat) (s:S8) (tail:List AV) (b:List Nat) (hb:b.length=64) (htail:∀ n,∀ v,v ∈ tail→v.low1 n) :
  dO Tryz.prog 156 1 [(0,⟨ty,e,[de s ++ tail]⟩)] [.ptr 0 0 0 1,.d (nb b)] (fun r hp'=>r=.tup []∧lk 0 hp'=some ⟨ty,e,[de (take s b) ++ tail]⟩):=by
 refine b7 Tryz.func156 (by kernel_rfl) rfl Tryz.ntmps156 (rs:=[]) rfl (jy rfl) (by decide) ?_
 simp only [go_sem,Nat.reduceEqDiff,Nat.reduceAdd,Nat.reduceLT,↓reduceIte,Nat.reduceMul]
 refine ab (tg b hb) (by simp [AV.deep,AV.deep1]) ?_
 simp only [go_sem,Nat.reduceEqDiff,Nat.reduceAdd,Nat.reduceLT,↓reduceIte,Nat.reduceMul]
 refine ab xW (by simp [AV.deep,AV.deep1]) ?_
 have hsl:=lM b
 have hzl:(K.zip (jA b)).length=64:=by rw [List.length_zip,hsl,pn];rfl
 unfold Go.Sha.take uQ
 generalize jA b=ws at *
 have hz64:(cw z64).drop 64=[]:=rfl
 generalize hR:kn tf 0 (K.zip ws) s=R
 simp [go_sem,pn,hsl,de,hz64]
 refine au (fun t:Nat × S8=>⟨[(0,.ptr 0 0 0 1),(4,.ptr 98 0 0 1),(5,.ptr 130 0 0 1),(6,.ptr 322 0 0 1),(19,.d (.int .i64 t.1))],
   [(322,⟨185,8,[de t.2]⟩),(130,⟨219,64,[cw K]⟩),(98,⟨219,64,[cw ws]⟩),(0,⟨ty,e,[de s ++ tail]⟩)],418⟩)
  (fun t=>t.1≤64∧kn tf t.1 (K.zip ws) t.2=R) (fun t=>64 - t.1) (0,s) ⟨by omega,hR⟩ (by
   simp [av,ag,fv,lk,AV.low,AV.low1,de]
   exact ⟨ce _ _,ce _ _,fun v hv=>htail _ v hv⟩) ?_
 clear hR
 rintro ⟨t,v⟩ ⟨ht,hR⟩
 simp only at ht hR
 simp only [go_sem,Nat.reduceEqDiff,Nat.reduceAdd,Nat.reduceLT,↓reduceIte]
 refine ⟨fun h=>?_,fun h=>?_⟩
 ·obtain ⟨k,hk,_⟩:=cN (l:=K) (k:=t) (by rw [pn];omega)
  obtain ⟨w,hw,_⟩:=cN (l:=ws) (k:=t) (by omega)
  have hz:(K.zip ws)[t]?=some (k,w):=by rw [List.getElem?_zip_eq_some];exact ⟨hk,hw⟩
  rw [mK tf hz] at hR
  simp only [go_sem,Nat.reduceEqDiff,Nat.reduceAdd,Nat.reduceLT,↓reduceIte,de]
  simp [go_sem]
  refine bk [0,1,2,4,7,11,12,13,14,15,16,17,18,19,20,22,23,24,26,27,28] [(3,[]),(5,[6]),(8,[9,10,21,25,29,30])] 3 (k:=31) ?_
  intro G hG
  simp [go_sem,jV,hk,hw,dg,ed,Je,Jb,cY]
  refine ⟨by omega,?_⟩
  refine ab (eN v.e 26 (-6) (by decide) (by omega)) (by simp [AV.deep,AV.deep1]) ?_
  simp [go_sem,dg,ed,cY]
  refine ab (eN v.e 21 (-11) (by decide) (by omega)) (by simp [AV.deep,AV.deep1]) ?_
  simp [go_sem,dg,ed,cY]
  refine ab (eN v.e 7 (-25) (by decide) (by omega)) (by simp [AV.deep,AV.deep1]) ?_
  simp [go_sem,dg,ed,cY]
  have hT1:fK (fK (fK (fK v.h (fV (fV (ku 26 v.e) (ku 21 v.e)) (ku 7 v.e))) (fV (r9 v.e v.f) (r9 (c32 v.e) v.g))) k) w=T1 v k w:=by unfold T1;with_reducible rfl
  rw [hT1]
  refine hG _ _ ?_
  clear hG G
  simp [go_sem]
  refine bk [0,2,5,8,9,10,11,12,13,14,15,16,17,18,19,20,21,22] [(1,[]),(3,[4]),(6,[7,23,24])] 3 (k:=25) ?_
  intro G hG
  simp [go_sem,dg,ed,cY]
  refine ab (eN v.a 30 (-2) (by decide) (by omega)) (by simp [AV.deep,AV.deep1]) ?_
  simp [go_sem,dg,ed,cY]
  refine ab (eN v.a 19 (-13) (by decide) (by omega)) (by simp [AV.deep,AV.deep1]) ?_
  simp [go_sem,dg,ed,cY]
  refine ab (eN v.a 10 (-22) (by decide) (by omega)) (by simp [AV.deep,AV.deep1]) ?_
  simp [go_sem,dg,ed,cY]
  have hT2:fK (fV (fV (ku 30 v.a) (ku 19 v.a)) (ku 10 v.a)) (fV (fV (r9 v.a v.b) (r9 v.a v.c)) (r9 v.b v.c))=T2 v:=by unfold T2;with_reducible rfl
  rw [hT2]
  refine hG _ _ ?_
  clear hG G
  have w3:=ax (k:=t) (by omega)
  simp [go_sem,cY,je,w3]
  refine ai (t+1,tf v (k,w)) ⟨by simp only;omega,hR⟩ (by simp only;omega) ?_
  simp [av,ag,fv,lk,AV.low,AV.low1,de,tf,rd]
  exact ⟨ce _ _,ce _ _,fun v hv=>htail _ v hv⟩
 ·have ht64:t=64:=by omega
  subst ht64
  rw [oF tf (by omega)] at hR
  subst hR
  refine au (fun i:Nat=>⟨[(0,.ptr 0 0 0 1),(6,.ptr 322 0 0 1),(101,.d (.int .i64 i))],[(322,⟨185,8,[cw v.l]⟩),(0,⟨ty,e,[cw (fL s v i) ++ tail]⟩)],482⟩)
   (fun i=>i≤8) (fun i=>8 - i) 0 (by omega) (by
    simp [av,ag,fv,lk,AV.low,AV.low1,th,oG]
    refine ⟨ce _ _,fun v hv=>?_⟩
    rcases hv with hv | hv
    ·exact ce _ _ v hv
    ·exact htail _ v hv) ?_
  intro i hi
  simp only [go_sem,Nat.reduceEqDiff,Nat.reduceAdd,Nat.reduceLT,↓reduceIte]
  refine ⟨fun h=>?_,fun h=>?_⟩
  ·obtain ⟨x,y,hy,hx,hset⟩:=ti s v (i:=i) (by omega)
   have hml:=xZ s v hi
   refine bk [0,1,2,3,4,5,6,7,8,9,10] [(11,[])] 0 (k:=12) ?_
   intro G hG
   have hs2:=AZ (l:=fL s v i) (tail:=tail) (i:=i) (x:=fK x y) (by omega)
   rw [hset] at hs2
   simp [go_sem,AY hx,jV,hy,cY,hs2,hml]
   refine ⟨by omega,by omega,hG _ _ ?_⟩
   have w3:=ax (k:=i) (by omega)
   simp [go_sem,w3]
   refine ai (i+1) (by omega) (by omega) ?_
   simp [av,ag,fv,lk,AV.low,AV.low1]
   refine ⟨ce _ _,fun v hv=>?_⟩
   rcases hv with hv | hv
   ·exact ce _ _ v hv
   ·exact htail _ v hv
  ·have hi8:i=8:=by omega
   subst hi8
   simp [go_sem,ak,x4,oG]
   simp [cw,S8.l]
def rb (L:List Nat):List (List AV):=L.map fun (x:Nat)=>[.d (.int .u8 (x:Int))]
theorem aC (L:List Nat):(rb L).length=L.length:=by simp [rb]
theorem aV (n:Nat) (L:List Nat):∀ r,r ∈ rb L→∀ v,v ∈ r→v.low1 n:=by
 intro r hr v hv
 simp only [rb,List.mem_map] at hr
 obtain ⟨x,_,rfl⟩:=hr
 simp at hv
 subst hv
 trivial
theorem HS (l:List Nat):∀ c,c ∈ cw l→c.flat1:=by
 intro c hc
 simp only [cw,List.mem_map] at hc
 obtain ⟨x,_,rfl⟩:=hc
 trivial
theorem A0 {hp:Hp} {I:Nat→Prop}:∀ (L:List Nat),RowsR hp I (rb L) (L.map fun (x:Nat)=>[.int .u8 (x:Int)])
 | []=>.nil
 | x :: r=>.cons (.cons (.d _) .nil) (A0 r)
theorem nB {hp:Hp} {I:Nat→Prop} {id i0 n:Nat} {L:List Nat} (hb:lk id hp=some ⟨5,1,rb L⟩) (hI:I id) (h:i0+n≤L.length):SnapD hp I (.own id i0 n L.length) (nb ((L.drop i0).take n)):=by
 refine qI hb hI (aC L) (es:=((L.drop i0).take n).map fun (x:Nat)=>[.int .u8 (x:Int)]) ?_ (by simp;omega) (fun r hr=>by
  rw [List.mem_map] at hr
  obtain ⟨c,_,rfl⟩:=hr
  rfl)
 have:((rb L).drop i0).take n=rb ((L.drop i0).take n):=by simp [rb,List.map_drop,List.map_take]
 rw [this]
 exact A0 _
theorem po (ty:TypeId) (e:Nat) (s:S8) (tail:List AV) (L:List Nat) (i0:Nat) (hi0:i0+64≤L.length) (htail:∀ n,∀ v,v ∈ tail→v.low1 n) :
  dO Tryz.prog 156 2 [(0,⟨ty,e,[de s ++ tail]⟩),(1,⟨5,1,rb L⟩)] [.ptr 0 0 0 1,.own 1 i0 64 L.length] (fun r hp'=>r=.tup []∧lk 0 hp'=some ⟨ty,e,[de (take s ((L.drop i0).take 64)) ++ tail]⟩∧lk 1 hp'=some ⟨5,1,rb L⟩):=by
 refine b7 Tryz.func156 (by kernel_rfl) rfl Tryz.ntmps156 (rs:=[]) rfl (jy rfl) (by decide) ?_
 simp only [go_sem,Nat.reduceEqDiff,Nat.reduceAdd,Nat.reduceLT,↓reduceIte,Nat.reduceMul]
 have hb:((L.drop i0).take 64).length=64:=by simp;omega
 refine nA (tg ((L.drop i0).take 64) hb) rfl (ay (.one (aw (nB rfl trivial hi0))) aT) (by simp [AV.flat];exact HS _) ?_
 generalize (L.drop i0).take 64=b at *
 simp only [go_sem,Nat.reduceEqDiff,Nat.reduceAdd,Nat.reduceLT,↓reduceIte,Nat.reduceMul]
 refine ab xW (by simp [AV.deep,AV.deep1]) ?_
 have hsl:=lM b
 have hzl:(K.zip (jA b)).length=64:=by rw [List.length_zip,hsl,pn];rfl
 unfold Go.Sha.take uQ
 generalize jA b=ws at *
 have hz64:(cw z64).drop 64=[]:=rfl
 generalize hR:kn tf 0 (K.zip ws) s=R
 simp [go_sem,pn,hsl,de,hz64]
 refine au (fun t:Nat × S8=>⟨[(0,.ptr 0 0 0 1),(4,.ptr 99 0 0 1),(5,.ptr 131 0 0 1),(6,.ptr 323 0 0 1),(19,.d (.int .i64 t.1))],
   [(323,⟨185,8,[de t.2]⟩),(131,⟨219,64,[cw K]⟩),(99,⟨219,64,[cw ws]⟩),(0,⟨ty,e,[de s ++ tail]⟩),(1,⟨5,1,rb L⟩)],419⟩)
  (fun t=>t.1≤64∧kn tf t.1 (K.zip ws) t.2=R) (fun t=>64 - t.1) (0,s) ⟨by omega,hR⟩ (by
   simp [av,ag,fv,lk,AV.low,AV.low1,de]
   exact ⟨ce _ _,ce _ _,fun v hv=>htail _ v hv,aV _ _⟩) ?_
 clear hR
 rintro ⟨t,v⟩ ⟨ht,hR⟩
 simp only at ht hR
 simp only [go_sem,Nat.reduceEqDiff,Nat.reduceAdd,Nat.reduceLT,↓reduceIte]
 refine ⟨fun h=>?_,fun h=>?_⟩
 ·obtain ⟨k,hk,_⟩:=cN (l:=K) (k:=t) (by rw [pn];omega)
  obtain ⟨w,hw,_⟩:=cN (l:=ws) (k:=t) (by omega)
  have hz:(K.zip ws)[t]?=some (k,w):=by rw [List.getElem?_zip_eq_some];exact ⟨hk,hw⟩
  rw [mK tf hz] at hR
  simp only [go_sem,Nat.reduceEqDiff,Nat.reduceAdd,Nat.reduceLT,↓reduceIte,de]
  simp [go_sem]
  refine bk [0,1,2,4,7,11,12,13,14,15,16,17,18,19,20,22,23,24,26,27,28] [(3,[]),(5,[6]),(8,[9,10,21,25,29,30])] 3 (k:=31) ?_
  intro G hG
  simp [go_sem,jV,hk,hw,dg,ed,Je,Jb,cY]
  refine ⟨by omega,?_⟩
  refine ab (eN v.e 26 (-6) (by decide) (by omega)) (by simp [AV.deep,AV.deep1]) ?_
  simp [go_sem,dg,ed,cY]
  refine ab (eN v.e 21 (-11) (by decide) (by omega)) (by simp [AV.deep,AV.deep1]) ?_
  simp [go_sem,dg,ed,cY]
  refine ab (eN v.e 7 (-25) (by decide) (by omega)) (by simp [AV.deep,AV.deep1]) ?_
  simp [go_sem,dg,ed,cY]
  have hT1:fK (fK (fK (fK v.h (fV (fV (ku 26 v.e) (ku 21 v.e)) (ku 7 v.e))) (fV (r9 v.e v.f) (r9 (c32 v.e) v.g))) k) w=T1 v k w:=by unfold T1;with_reducible rfl
  rw [hT1]
  refine hG _ _ ?_
  clear hG G
  simp [go_sem]
  refine bk [0,2,5,8,9,10,11,12,13,14,15,16,17,18,19,20,21,22] [(1,[]),(3,[4]),(6,[7,23,24])] 3 (k:=25) ?_
  intro G hG
  simp [go_sem,dg,ed,cY]
  refine ab (eN v.a 30 (-2) (by decide) (by omega)) (by simp [AV.deep,AV.deep1]) ?_
  simp [go_sem,dg,ed,cY]
  refine ab (eN v.a 19 (-13) (by decide) (by omega)) (by simp [AV.deep,AV.deep1]) ?_
  simp [go_sem,dg,ed,cY]
  refine ab (eN v.a 10 (-22) (by decide) (by omega)) (by simp [AV.deep,AV.deep1]) ?_
  simp [go_sem,dg,ed,cY]
  have hT2:fK (fV (fV (ku 30 v.a) (ku 19 v.a)) (ku 10 v.a)) (fV (fV (r9 v.a v.b) (r9 v.a v.c)) (r9 v.b v.c))=T2 v:=by unfold T2;with_reducible rfl
  rw [hT2]
  refine hG _ _ ?_
  clear hG G
  have w3:=ax (k:=t) (by omega)
  simp [go_sem,cY,je,w3]
  refine ai (t+1,tf v (k,w)) ⟨by simp only;omega,hR⟩ (by simp only;omega) ?_
  simp [av,ag,fv,lk,AV.low,AV.low1,de,tf,rd]
  exact ⟨ce _ _,ce _ _,fun v hv=>htail _ v hv,aV _ _⟩
 ·have ht64:t=64:=by omega
  subst ht64
  rw [oF tf (by omega)] at hR
  subst hR
  refine au (fun i:Nat=>⟨[(0,.ptr 0 0 0 1),(6,.ptr 323 0 0 1),(101,.d (.int .i64 i))],[(323,⟨185,8,[cw v.l]⟩),(0,⟨ty,e,[cw (fL s v i) ++ tail]⟩),(1,⟨5,1,rb L⟩)],483⟩)
   (fun i=>i≤8) (fun i=>8 - i) 0 (by omega) (by
    simp [av,ag,fv,lk,AV.low,AV.low1,th,oG]
    refine ⟨ce _ _,fun v hv=>?_,aV _ _⟩
    rcases hv with hv | hv
    ·exact ce _ _ v hv
    ·exact htail _ v hv) ?_
  intro i hi
  simp only [go_sem,Nat.reduceEqDiff,Nat.reduceAdd,Nat.reduceLT,↓reduceIte]
  refine ⟨fun h=>?_,fun h=>?_⟩
  ·obtain ⟨x,y,hy,hx,hset⟩:=ti s v (i:=i) (by omega)
   have hml:=xZ s v hi
   refine bk [0,1,2,3,4,5,6,7,8,9,10] [(11,[])] 0 (k:=12) ?_
   intro G hG
   have hs2:=AZ (l:=fL s v i) (tail:=tail) (i:=i) (x:=fK x y) (by omega)
   rw [hset] at hs2
   simp [go_sem,AY hx,jV,hy,cY,hs2,hml]
   refine ⟨by omega,by omega,hG _ _ ?_⟩
   have w3:=ax (k:=i) (by omega)
   simp [go_sem,w3]
   refine ai (i+1) (by omega) (by omega) ?_
   simp [av,ag,fv,lk,AV.low,AV.low1]
   refine ⟨ce _ _,fun v hv=>?_,aV _ _⟩
   rcases hv with hv | hv
   ·exact ce _ _ v hv
   ·exact htail _ v hv
  ·have hi8:i=8:=by omega
   subst hi8
   simp [go_sem,ak,x4,oG]
   simp [cw,S8.l]
theorem EC:dO Tryz.prog 117 0 [] [] (fun r hp'=>r=.ptr 97 0 0 1∧lk 97 hp'=some ⟨188,10,[de H0 ++ [.nil,.d (.int .u64 0)]]⟩):=by
 refine b7 Tryz.func117 (by kernel_rfl) rfl Tryz.ntmps117 (rs:=[.tmp 0]) rfl (jy rfl) (by decide) ?_
 simp only [go_sem,Nat.reduceEqDiff,Nat.reduceAdd,Nat.reduceLT,↓reduceIte,Nat.reduceMul]
 refine ab Cn (by simp [AV.deep,AV.deep1]) ?_
 simp [go_sem,ak,je,gz,← oG,de]
theorem lN {β:Type} (f:β→List DV) (b:List β) {P:Program} {el:TypeId} {e:Nat} {es:List (List DV)} {nx:Nat} {Kk:AV→Hp→Prop} {hp:Hp}:d5 P el (.d (.rof e es)) (some (List.map ((fun r=>List.map AV.d r) ∘ f) b)) nx Kk hp=(e=P.cellsOf el∧(eH P el).isSome=true∧P.bytesOf el ≠ 0∧(es.length+b.length)*P.bytesOf el≤140737488355328∧uK (Kk (.d (.ro e (es ++ b.map f))) hp) (b.map f ≠ []∧Kk (.own nx 0 (es.length+b.length) (es.length+b.length)) ((nx,⟨el,P.cellsOf el,es.map (fun r=>r.map AV.d) ++ List.map ((fun r=>List.map AV.d r) ∘ f) b⟩) :: hp))):=by
 have:=xS (P:=P) (K:=Kk) (hp:=hp) (nx:=nx) el e es (b.map f)
 rw [List.map_map,List.length_map] at this
 exact this
theorem jb {α β:Type} (f:α→β) (l:List α):(l.map f).take l.length=l.map f:=by
 rw [List.take_of_length_le (by simp)]
theorem eat_none (k:Nat) (s:S8) (b:List Nat) (h:b.length<64):pk k s b=(s,b):=by
 cases k with
 | zero=>rfl
 | succ k=>simp [pk];omega
theorem eat_more {k:Nat} {s:S8} {b:List Nat} (h:64≤b.length) (hk:b.length≤k):pk k s b=pk (k - 1) (Go.Sha.take s (b.take 64)) (b.drop 64):=by
 obtain ⟨j,rfl⟩:∃ j,k=j+1:=⟨k - 1,by omega⟩
 rw [pk,if_pos h]
 rfl
theorem ED (s:S8) (R:AV) (rest b:List Nat) (n:Int) (hR:R=.d (nb rest) ∨ (R=.nil∧rest=[])) (hl:rest.length+b.length≤1000000000000) :
  dO Tryz.prog 118 1 [(0,⟨188,10,[de s ++ [R,.d (.int .u64 n)]]⟩)] [.ptr 0 0 0 1,.d (nb b)]
   (fun r hp'=>r=.tup []∧lk 0 hp'=some ⟨188,10,[de (pk ((rest ++ b).length) s (rest ++ b)).1 ++ [.d (nb (pk ((rest ++ b).length) s (rest ++ b)).2),.d (.int .u64 (IntKind.u64.wrap (n+(IntKind.u64.wrap (b.length:Int)))))]]⟩):=by
 refine b7 Tryz.func118 (by kernel_rfl) rfl Tryz.ntmps118 (rs:=[]) rfl (jy rfl) (by decide) ?_
 generalize hn':IntKind.u64.wrap (n+(IntKind.u64.wrap (b.length:Int)))=n'
 generalize hE0:pk ((rest ++ b).length) s (rest ++ b)=E
 rcases hR with rfl | ⟨rfl,rfl⟩
 ·simp [go_sem,nb,de,hn']
  refine bk [0,1,2,3,4,5,6,7,8,9,10,11,12,13,14,15,16] [(17,[18,19]),(20,[])] 1 (k:=21) ?_
  intro G hG
  simp [go_sem,jb,lN]
  refine ⟨by have:=hl;simp only [List.length_append,List.length_nil] at *;omega,.inl (hG _ _ ?_)⟩
  clear hG G
  refine au (fun t:S8 × List Nat=>⟨[(0,.ptr 0 0 0 1)],[(0,⟨188,10,[de t.1 ++ [.d (nb t.2),.d (.int .u64 n')]]⟩)],1090⟩)
   (fun t=>t.2.length≤1000000000000∧∃ k,t.2.length≤k∧pk k t.1 t.2=E) (fun t=>t.2.length) (s,rest ++ b) ⟨by have:=hl;simp only [List.length_append,List.length_nil] at *;omega,_,Nat.le_refl _,hE0⟩ (by
    simp [av,ag,fv,lk,AV.low,AV.low1,nb,de]) ?_
  rintro ⟨s1,q⟩ ⟨hq,k,hk,hE⟩
  simp only at hq hk hE
  simp only [go_sem,Nat.reduceEqDiff,Nat.reduceAdd,Nat.reduceLT,↓reduceIte,de,nb,List.length_map]
  refine ⟨fun h=>?_,fun h=>?_⟩
  ·have h64:64≤q.length:=by omega
   rw [eat_more h64 hk] at hE
   refine bk [0,1,2,3,4,5,6,7] [(8,[])] 0 (k:=9) ?_
   intro G hG
   simp [go_sem]
   refine ⟨by omega,?_⟩
   refine c8 [(0,0)] (pV 188 10 s1 [.d (nb q),.d (.int .u64 n')] (q.take 64) (by simp;omega) (by simp [AV.low1])) rfl (by simp) (by simp [lk]) (by simp [lk,Blk.ren,cZ,AV.renL,AV.ren,dL,jG,de,nb]) (by simp [AV.renL,AV.ren,dL,jG,lk,nb,List.map_take]) ?_
   rintro r hp' ⟨rfl,h0⟩
   refine ⟨[],rfl,?_⟩
   simp [go_sem,fj,et,h0,Blk.ren,cZ,AV.renL,AV.ren,dL,de]
   refine hG _ _ ?_
   clear hG G
   simp [go_sem,nb]
   refine ⟨by omega,?_⟩
   refine ai (Go.Sha.take s1 (q.take 64),q.drop 64) ⟨by simp only [List.length_drop];omega,k - 1,by simp only [List.length_drop];omega,hE⟩ (by simp only [List.length_drop];omega) ?_
   simp [av,ag,fv,lk,AV.low,AV.low1,nb,de,List.map_drop,jb]
  ·rw [eat_none k s1 q (by omega)] at hE
   subst hE
   rfl
 ·simp [go_sem,nb,de,hn']
  refine bk [0,1,2,3,4,5,6,7,8,9,10,11,12,13,14,15,16] [(17,[18,19]),(20,[])] 1 (k:=21) ?_
  intro G hG
  simp [go_sem,jb,lN]
  refine ⟨by have:=hl;simp only [List.length_append,List.length_nil] at *;omega,.inl (hG _ _ ?_)⟩
  clear hG G
  refine au (fun t:S8 × List Nat=>⟨[(0,.ptr 0 0 0 1)],[(0,⟨188,10,[de t.1 ++ [.d (nb t.2),.d (.int .u64 n')]]⟩)],1090⟩)
   (fun t=>t.2.length≤1000000000000∧∃ k,t.2.length≤k∧pk k t.1 t.2=E) (fun t=>t.2.length) (s,[] ++ b) ⟨by have:=hl;simp only [List.length_append,List.length_nil] at *;omega,_,Nat.le_refl _,hE0⟩ (by
    simp [av,ag,fv,lk,AV.low,AV.low1,nb,de]) ?_
  rintro ⟨s1,q⟩ ⟨hq,k,hk,hE⟩
  simp only at hq hk hE
  simp only [go_sem,Nat.reduceEqDiff,Nat.reduceAdd,Nat.reduceLT,↓reduceIte,de,nb,List.length_map]
  refine ⟨fun h=>?_,fun h=>?_⟩
  ·have h64:64≤q.length:=by omega
   rw [eat_more h64 hk] at hE
   refine bk [0,1,2,3,4,5,6,7] [(8,[])] 0 (k:=9) ?_
   intro G hG
   simp [go_sem]
   refine ⟨by omega,?_⟩
   refine c8 [(0,0)] (pV 188 10 s1 [.d (nb q),.d (.int .u64 n')] (q.take 64) (by simp;omega) (by simp [AV.low1])) rfl (by simp) (by simp [lk]) (by simp [lk,Blk.ren,cZ,AV.renL,AV.ren,dL,jG,de,nb]) (by simp [AV.renL,AV.ren,dL,jG,lk,nb,List.map_take]) ?_
   rintro r hp' ⟨rfl,h0⟩
   refine ⟨[],rfl,?_⟩
   simp [go_sem,fj,et,h0,Blk.ren,cZ,AV.renL,AV.ren,dL,de]
   refine hG _ _ ?_
   clear hG G
   simp [go_sem,nb]
   refine ⟨by omega,?_⟩
   refine ai (Go.Sha.take s1 (q.take 64),q.drop 64) ⟨by simp only [List.length_drop];omega,k - 1,by simp only [List.length_drop];omega,hE⟩ (by simp only [List.length_drop];omega) ?_
   simp [av,ag,fv,lk,AV.low,AV.low1,nb,de,List.map_drop,jb]
  ·rw [eat_none k s1 q (by omega)] at hE
   subst hE
   rfl
def padTo:Nat→List Nat→List Nat
 | 0,l=>l
 | n+1,l=>if l.length % 64=56 then l else padTo n (l ++ [0])
theorem mL {k:Nat} {l:List Nat} (h:l.length % 64 ≠ 56) (hk:0<k):padTo k l=padTo (k - 1) (l ++ [0]):=by
 obtain ⟨j,rfl⟩:∃ j,k=j+1:=⟨k - 1,by omega⟩
 rw [padTo,if_neg h]
 rfl
theorem oH {k:Nat} {l:List Nat} (h:l.length % 64=56):padTo k l=l:=by
 cases k with
 | zero=>rfl
 | succ k=>rw [padTo,if_pos h]
theorem jc (a b:List Nat):rb a ++ rb b=rb (a ++ b):=by simp [rb]
theorem ee (a:List Nat) (x:Nat):rb a ++ [[AV.d (.int .u8 (x:Int))]]=rb (a ++ [x]):=by simp [rb]
theorem mM (a:List Nat):rb a ++ [[AV.d (.int .u8 128)]]=rb (a ++ [128]):=by simp [rb]
theorem rx (a:List Nat):rb a ++ [[AV.d (.int .u8 0)]]=rb (a ++ [0]):=by simp [rb]
theorem cB (a:List Nat):List.map ((fun r=>List.map AV.d r) ∘ fun (x:Nat)=>[DV.int .u8 (x:Int)]) a=rb a:=by simp [rb]
def len8 (m:Nat):Nat→List Nat
 | 0=>[]
 | j+1=>len8 m j ++ [t8 (c7 (56 - 8*j) m)]
theorem len8_len (m:Nat):∀ j,(len8 m j).length=j
 | 0=>rfl
 | j+1=>by simp [len8,len8_len m j]
def lastOf (rest:List Nat) (n:Nat):List Nat:=padTo 64 (rest ++ [128]) ++ len8 (n*8 % 18446744073709551616) 8
theorem EE (n:Nat):IntKind.u64.wrap ((n:Int)*8)=((n*8 % 18446744073709551616:Nat):Int):=by rw [fU];omega
theorem zL (n:Nat):Int.tmod (n:Int) 64=((n % 64:Nat):Int):=by
 have:=Int.ofNat_tmod n 64
 simpa using this.symm
theorem EG (s:S8) (a b:AV) (ha:∀ n,a.low1 n) (hb:∀ n,b.low1 n) (n:Nat):∀ v,v ∈ de s ++ [a,b]→v.low1 n:=by
 intro v hv
 rcases List.mem_append.1 hv with h | h
 ·exact ce n s.l v h
 ·simp only [List.mem_cons,List.mem_nil_iff,or_false] at h
  rcases h with rfl | rfl
  ·exact ha n
  ·exact hb n
theorem fW (s:S8) (a b:AV) (ha:∀ n,a.low1 n) (hb:∀ n,b.low1 n) (n:Nat):∀ v,v ∈ de s ∨ v=a ∨ v=b→v.low1 n:=by
 intro v hv
 refine EG s a b ha hb n v ?_
 simpa using hv
theorem fe (s:S8) (n:Nat):∀ v,v ∈ de s→v.low1 n:=ce n s.l
theorem A3 (ρ:Nat→Nat) (s:S8):AV.renL ρ (de s)=de s:=EA ρ s.l
theorem iC (ρ:Nat→Nat) (L:List Nat):List.map (AV.renL ρ) (rb L)=rb L:=by
 simp [rb,AV.renL,AV.ren]
def fM (w:List Nat):List Nat:=w ++ List.replicate (32 - w.length) 0
theorem tj {w:List Nat} (h:w.length≤32):(fM w).length=32:=by simp [fM];omega
theorem tk {w:List Nat} {x:Nat} (h:w.length<32):(fM w).set w.length x=fM (w ++ [x]):=by
 unfold fM
 rw [List.set_append_right _ _ (Nat.le_refl _),Nat.sub_self]
 obtain ⟨k,hk⟩:∃ k,32 - w.length=k+1:=⟨31 - w.length,by omega⟩
 rw [hk,List.replicate_succ,List.set_cons_zero,List.append_assoc]
 simp only [List.length_append,List.length_singleton,List.singleton_append]
 rw [show 32 - (w.length+1)=k by omega]
theorem ry {w:List Nat} (h:w.length=32):fM w=w:=by unfold fM;rw [h];simp
theorem Nq (s:S8):List.take 8 (de s)=de s:=rfl
theorem A4 (s:S8) {i:Nat} (h:i<8):(de s)[i]?=some (.d (.int .u32 ((s.l.getD i 0:Nat):Int))):=by
 rw [oG,jV,List.getD_eq_getElem?_getD]
 have:i<s.l.length:=h
 rw [List.getElem?_eq_getElem this]
 rfl
theorem Q7 (s:S8) (a b:AV):(List.drop 9 (de s ++ [a,b])).head?=some b:=rfl
theorem Q8 (s:S8) (a b:AV):List.take 8 (de s ++ [a,b])=de s:=rfl
theorem pW (s:S8):(de s).length=8:=rfl
theorem EH (s:S8) (R:AV) (rest:List Nat) (n:Nat) (hR:R=.d (nb rest) ∨ (R=.nil∧rest=[])) (hl:rest.length≤1000000000000) :
  dO Tryz.prog 119 1 [(0,⟨188,10,[de s ++ [R,.d (.int .u64 (n:Int))]]⟩)] [.ptr 0 0 0 1]
   (fun r hp'=>r=.agg (cb (wr (pk (lastOf rest n).length s (lastOf rest n)).1))∧lk 0 hp'=some ⟨188,10,[de s ++ [R,.d (.int .u64 (n:Int))]]⟩):=by
 refine b7 Tryz.func119 (by kernel_rfl) rfl Tryz.ntmps119 (rs:=[.cell 2 23]) rfl (jy rfl) (by decide) ?_
 rcases hR with rfl | ⟨rfl,rfl⟩
 ·simp [go_sem,nb,de,cB,mM,aC]
  refine ⟨by omega,by omega,?_⟩
  refine au (fun l:List Nat=>⟨[(0,.ptr 0 0 0 1),(2,.ptr 2 0 0 1),(3,.own 98 0 l.length l.length)],[(98,⟨5,1,rb l⟩),(2,⟨23,32,[cb z32]⟩),(0,⟨188,10,[de s ++ [.d (nb rest),.d (.int .u64 (n:Int))]]⟩)],450⟩)
   (fun l=>l.length≤1000000000000+65∧∃ k,(120 - l.length % 64) % 64≤k∧(k+l.length≤1000000000000+65)∧padTo k l=padTo 64 (rest ++ [128])) (fun l=>(120 - l.length % 64) % 64) (rest ++ [128]) ⟨by have:=hl;simp only [List.length_append,List.length_nil,List.length_singleton] at *;omega,64,by omega,by have:=hl;simp only [List.length_append,List.length_nil,List.length_singleton] at *;omega,rfl⟩ (by
    simp [av,ag,fv,lk,AV.low,AV.low1,nb,de]
    exact ⟨aV _ _,aF _ _⟩) ?_
  rintro l ⟨hl1,k,hk,hk2,hP⟩
  have em:Int.tmod (l.length:Int) 64=((l.length % 64:Nat):Int):=zL _
  simp only [go_sem,Nat.reduceEqDiff,Nat.reduceAdd,Nat.reduceLT,↓reduceIte,em]
  refine ⟨by decide,fun h=>?_,fun h=>?_⟩
  ·have h56:l.length % 64 ≠ 56:=by omega
   rw [mL h56 (by omega)] at hP
   refine ⟨by decide,aC l,by omega,?_⟩
   rw [rx]
   refine ai (l ++ [0]) ⟨by simp only [List.length_append,List.length_singleton];omega,k - 1,by simp only [List.length_append,List.length_singleton];omega,by simp only [List.length_append,List.length_singleton];omega,hP⟩ (by simp only [List.length_append,List.length_singleton];omega) ?_
   simp [av,ag,fv,lk,AV.low,AV.low1]
   exact ⟨aV _ _,aF _ _,fW s (.d (nb rest)) (.d (.int .u64 n)) (fun _=>trivial) (fun _=>trivial) _⟩
  ·have h56:l.length % 64=56:=by omega
   rw [oH h56] at hP
   simp only [go_sem,Nat.reduceEqDiff,Nat.reduceAdd,Nat.reduceLT,↓reduceIte,Q7,EE]
   have hm:lastOf rest n=l ++ len8 (n*8 % 18446744073709551616) 8:=by unfold lastOf;rw [← hP]
   generalize n*8 % 18446744073709551616=m at hm
   generalize lastOf rest n=L at hm
   clear hP hk hk2 hl
   refine au (fun j:Nat=>⟨[(0,.ptr 0 0 0 1),(2,.ptr 2 0 0 1),(3,.own 98 0 (l ++ len8 m j).length (l ++ len8 m j).length),(4,.d (.int .u64 (m:Int))),(5,.d (.int .i64 (56 - 8*(j:Int))))],[(98,⟨5,1,rb (l ++ len8 m j)⟩),(2,⟨23,32,[cb z32]⟩),(0,⟨188,10,[de s ++ [.d (nb rest),.d (.int .u64 (n:Int))]]⟩)],642⟩)
    (fun j=>j≤8) (fun j=>8 - j) 0 (by omega) (by
     simp [av,ag,fv,lk,AV.low,AV.low1,len8]
     exact ⟨aV _ _,aF _ _,fW s (.d (nb rest)) (.d (.int .u64 n)) (fun _=>trivial) (fun _=>trivial) _⟩) ?_
   intro j hj
   have hll:(l ++ len8 m j).length=l.length+j:=by rw [List.length_append,len8_len]
   have e8:(56:Int) - 8*(j:Int) - 8=56 - 8*((j+1:Nat):Int):=by omega
   have w8:IntKind.i64.wrap (56 - 8*(j:Int) - 8)=56 - 8*((j+1:Nat):Int):=by rw [IntWalk.i64_in _ (by omega)];omega
   simp only [go_sem,Nat.reduceEqDiff,Nat.reduceAdd,Nat.reduceLT,↓reduceIte]
   refine ⟨fun h=>?_,fun h=>?_⟩
   ·have hj7:j≤7:=by omega
    have eb:IntKind.u8.wrap (Int.fdiv (m:Int) (2 ^ (min (56 - 8*(j:Int)).toNat 64)))=((t8 (c7 (56 - 8*j) m):Nat):Int):=by
     rw [show min (56 - 8*(j:Int)).toNat 64=56 - 8*j by omega,Jc,cm]
    have es:rb (l ++ len8 m j) ++ [[AV.d (.int .u8 ((t8 (c7 (56 - 8*j) m):Nat):Int))]]=rb (l ++ len8 m (j+1)):=by rw [ee,List.append_assoc];rfl
    simp only [go_sem,Nat.reduceEqDiff,Nat.reduceAdd,Nat.reduceLT,↓reduceIte,IntKind.bits,eb,aC,es,w8]
    refine ⟨by omega,by decide,by have:=len8_len m j;omega,?_⟩
    refine ai (j+1) (by omega) (by omega) ?_
    have hl8:(len8 m (j+1)).length=(len8 m j).length+1:=by rw [len8_len,len8_len]
    simp [av,ag,fv,lk,AV.low,AV.low1,hl8]
    exact ⟨by omega,aV _ _,aF _ _,fW s (.d (nb rest)) (.d (.int .u64 n)) (fun _=>trivial) (fun _=>trivial) _⟩
   ·have hj8:j=8:=by omega
    subst hj8
    rw [← hm]
    have hL64:L.length % 64=0:=by rw [hm,List.length_append,len8_len];omega
    have hLl:L.length≤2000000000000:=by rw [hm,List.length_append,len8_len];omega
    have hLen:l.length+(len8 m 8).length=L.length:=by rw [hm,List.length_append]
    clear hm hll e8 w8 h56 h em
    simp [go_sem,Q8,pW,hLen]
    generalize hE0:pk L.length s L=E
    refine au (fun t:Nat × S8=>⟨[(0,.ptr 0 0 0 1),(2,.ptr 2 0 0 1),(3,.own 98 (64*t.1) (L.length - 64*t.1) L.length),(6,.ptr 834 0 0 1)],[(834,⟨185,8,[de t.2]⟩),(98,⟨5,1,rb L⟩),(2,⟨23,32,[cb z32]⟩),(0,⟨188,10,[de s ++ [.d (nb rest),.d (.int .u64 (n:Int))]]⟩)],898⟩)
     (fun t=>64*t.1≤L.length∧∃ k,L.length - 64*t.1≤k∧pk k t.2 (L.drop (64*t.1))=E) (fun t=>L.length - 64*t.1) (0,s) ⟨by omega,L.length,by omega,hE0⟩ (by
      simp [av,ag,fv,lk,AV.low,AV.low1]
      exact ⟨fe _ _,aV _ _,aF _ _,fW s (.d (nb rest)) (.d (.int .u64 n)) (fun _=>trivial) (fun _=>trivial) _⟩) ?_
    rintro ⟨j,s1⟩ ⟨hj64,k,hk,hE⟩
    simp only at hj64 hk hE
    have hdl:(L.drop (64*j)).length=L.length - 64*j:=List.length_drop
    simp only [go_sem,Nat.reduceEqDiff,Nat.reduceAdd,Nat.reduceLT,↓reduceIte]
    refine ⟨fun h=>?_,fun h=>?_⟩
    ·have h64:64≤L.length - 64*j:=by omega
     rw [eat_more (by omega) (by omega)] at hE
     simp [go_sem]
     refine ⟨by omega,?_⟩
     refine c8 [(0,834),(1,98)] (po 185 8 s1 [] L (64*j) (by omega) (by simp)) rfl (by simp) (by simp [lk]) (by simp [lk,Blk.ren,cZ,AV.renL,AV.ren,dL,jG,de,rb]) (by simp [AV.renL,AV.ren,dL,jG,lk]) ?_
     rintro r hp' ⟨rfl,h0,h1⟩
     refine ⟨[],rfl,?_⟩
     simp [go_sem,fj,et,h0,h1,Blk.ren,cZ,A3,iC,AV.renL,AV.ren,dL]
     refine ⟨by omega,?_⟩
     refine ai (j+1,Go.Sha.take s1 ((L.drop (64*j)).take 64)) ⟨by simp only;omega,k - 1,by simp only;omega,?_⟩ (by simp only;omega) ?_
     ·rw [List.drop_drop] at hE
      exact hE
     ·simp [av,ag,fv,lk,AV.low,AV.low1]
      exact ⟨⟨by omega,by omega⟩,fe _ _,aV _ _,aF _ _,fW s (.d (nb rest)) (.d (.int .u64 n)) (fun _=>trivial) (fun _=>trivial) _⟩
    ·have hnil:L.drop (64*j)=[]:=List.drop_eq_nil_of_le (by omega)
     rw [hnil,eat_none k s1 [] (by simp)] at hE
     have hs1:s1=E.1:=by rw [← hE]
     clear hE hE0 hdl hnil
     simp [go_sem,pW]
     refine au (fun i:Nat=>⟨[(0,.ptr 0 0 0 1),(2,.ptr 2 0 0 1),(7,.ptr 994 0 0 1),(59,.agg (de s1)),(60,.d (.int .i64 i))],[(994,⟨23,32,[cb (fM (pre s1.l i))]⟩),(2,⟨23,32,[cb z32]⟩),(0,⟨188,10,[de s ++ [.d (nb rest),.d (.int .u64 (n:Int))]]⟩)],1090⟩)
      (fun i=>i≤8) (fun i=>8 - i) 0 (by omega) (by
       simp [av,ag,fv,lk,AV.low,AV.low1,Nq]
       exact ⟨fe _ _,⟨rfl,aF _ _⟩,aF _ _,fW s (.d (nb rest)) (.d (.int .u64 n)) (fun _=>trivial) (fun _=>trivial) _⟩) ?_
     intro i hi
     have hpl:=gr s1.l i
     simp only [go_sem,Nat.reduceEqDiff,Nat.reduceAdd,Nat.reduceLT,↓reduceIte]
     refine ⟨fun h2=>?_,fun h2=>?_⟩
     ·have hg:=A4 s1 (i:=i) (by omega)
      have hpre:pre s1.l (i+1)=pre s1.l i ++ uR (s1.l.getD i 0) 4:=rfl
      generalize s1.l.getD i 0=x at hg hpre
      simp [go_sem,hg]
      refine ⟨by omega,?_⟩
      refine au (fun k:Nat=>⟨[(0,.ptr 0 0 0 1),(2,.ptr 2 0 0 1),(7,.ptr 994 0 0 1),(59,.agg (de s1)),(60,.d (.int .i64 i)),(8,.d (.int .i64 i)),(9,.d (.int .u32 (x:Int))),(64,.d (.int .i64 k))],[(994,⟨23,32,[cb (fM (pre s1.l i ++ uR x k))]⟩),(2,⟨23,32,[cb z32]⟩),(0,⟨188,10,[de s ++ [.d (nb rest),.d (.int .u64 (n:Int))]]⟩)],1300⟩)
       (fun k=>k≤4) (fun k=>4 - k) 0 (by omega) (by
        simp [av,ag,fv,lk,AV.low,AV.low1,uR]
        exact ⟨fe _ _,aF _ _,aF _ _,fW s (.d (nb rest)) (.d (.int .u64 n)) (fun _=>trivial) (fun _=>trivial) _⟩) ?_
      intro k hk4
      have hkl:=pU x k
      simp only [go_sem,Nat.reduceEqDiff,Nat.reduceAdd,Nat.reduceLT,↓reduceIte]
      refine ⟨fun h3=>?_,fun h3=>?_⟩
      ·have w1:IntKind.i64.wrap (4*(i:Int))=((4*i:Nat):Int):=by rw [IntWalk.i64_in _ (by omega)];omega
       have w2:IntKind.i64.wrap (((4*i:Nat):Int)+(k:Int))=((4*i+k:Nat):Int):=by rw [IntWalk.i64_in _ (by omega)];omega
       have w3:IntKind.i64.wrap (8*(k:Int))=((8*k:Nat):Int):=by rw [IntWalk.i64_in _ (by omega)];omega
       have w4:IntKind.i64.wrap (24 - ((8*k:Nat):Int))=((24 - 8*k:Nat):Int):=by rw [IntWalk.i64_in _ (by omega)];omega
       have w5:=ax (k:=k) (by omega)
       have eb:IntKind.u8.wrap (Int.fdiv (x:Int) (2 ^ (min (24 - 8*k) 32)))=((t8 (c7 (24 - 8*k) x):Nat):Int):=by
        rw [show min (24 - 8*k) 32=24 - 8*k by omega,Jc,cm]
       have hset:(fM (pre s1.l i ++ uR x k)).set (4*i+k) (t8 (c7 (24 - 8*k) x))=fM (pre s1.l i ++ uR x (k+1)):=by
        have h:=tk (w:=pre s1.l i ++ uR x k) (x:=t8 (c7 (24 - 8*k) x)) (by rw [List.length_append];omega)
        rw [List.length_append,hpl,hkl,List.append_assoc] at h
        exact h
       have hrl:(fM (pre s1.l i ++ uR x k)).length=32:=tj (by rw [List.length_append];omega)
       simp only [go_sem,Nat.reduceEqDiff,Nat.reduceAdd,Nat.reduceLT,↓reduceIte,w1,w2,w3,w4,IntKind.bits,Int.toNat_natCast,eb,Nat.mul_one,rt,hset,hrl,w5]
       refine ⟨by omega,by omega,?_⟩
       refine ai (k+1) (by omega) (by omega) ?_
       simp [av,ag,fv,lk,AV.low,AV.low1]
       exact ⟨fe _ _,aF _ _,aF _ _,fW s (.d (nb rest)) (.d (.int .u64 n)) (fun _=>trivial) (fun _=>trivial) _⟩
      ·have hk4':k=4:=by omega
       subst hk4'
       rw [← hpre]
       have w5:=ax (k:=i) (by omega)
       simp only [go_sem,Nat.reduceEqDiff,Nat.reduceAdd,Nat.reduceLT,↓reduceIte,w5]
       refine ai (i+1) (by omega) (by omega) ?_
       simp [av,ag,fv,lk,AV.low,AV.low1]
       exact ⟨fe _ _,aF _ _,aF _ _,fW s (.d (nb rest)) (.d (.int .u64 n)) (fun _=>trivial) (fun _=>trivial) _⟩
     ·have hi8:i=8:=by omega
      subst hi8
      have hfull:fM (pre s1.l 8)=wr s1:=ry hpl
      rw [hfull,hs1]
      have hdl2:(wr E.1).length=32:=gr _ 8
      have htk:List.take 32 (cb (wr E.1))=cb (wr E.1):=List.take_of_length_le (by rw [am];omega)
      simp [go_sem,ak,hdl2,htk]
      rfl
 ·simp [go_sem,nb,de,cB,mM,aC]
  refine au (fun l:List Nat=>⟨[(0,.ptr 0 0 0 1),(2,.ptr 2 0 0 1),(3,.own 98 0 l.length l.length)],[(98,⟨5,1,rb l⟩),(2,⟨23,32,[cb z32]⟩),(0,⟨188,10,[de s ++ [.nil,.d (.int .u64 (n:Int))]]⟩)],450⟩)
   (fun l=>l.length≤1000000000000+65∧∃ k,(120 - l.length % 64) % 64≤k∧(k+l.length≤1000000000000+65)∧padTo k l=padTo 64 ([] ++ [128])) (fun l=>(120 - l.length % 64) % 64) ([] ++ [128]) ⟨by have:=hl;simp only [List.length_append,List.length_nil,List.length_singleton] at *;omega,64,by omega,by have:=hl;simp only [List.length_append,List.length_nil,List.length_singleton] at *;omega,rfl⟩ (by
    simp [av,ag,fv,lk,AV.low,AV.low1,nb,de]
    exact ⟨⟨rfl,aV _ _⟩,aF _ _⟩) ?_
  rintro l ⟨hl1,k,hk,hk2,hP⟩
  have em:Int.tmod (l.length:Int) 64=((l.length % 64:Nat):Int):=zL _
  simp only [go_sem,Nat.reduceEqDiff,Nat.reduceAdd,Nat.reduceLT,↓reduceIte,em]
  refine ⟨by decide,fun h=>?_,fun h=>?_⟩
  ·have h56:l.length % 64 ≠ 56:=by omega
   rw [mL h56 (by omega)] at hP
   refine ⟨by decide,aC l,by omega,?_⟩
   rw [rx]
   refine ai (l ++ [0]) ⟨by simp only [List.length_append,List.length_singleton];omega,k - 1,by simp only [List.length_append,List.length_singleton];omega,by simp only [List.length_append,List.length_singleton];omega,hP⟩ (by simp only [List.length_append,List.length_singleton];omega) ?_
   simp [av,ag,fv,lk,AV.low,AV.low1]
   exact ⟨aV _ _,aF _ _,fW s (.nil) (.d (.int .u64 n)) (fun _=>trivial) (fun _=>trivial) _⟩
  ·have h56:l.length % 64=56:=by omega
   rw [oH h56] at hP
   simp only [go_sem,Nat.reduceEqDiff,Nat.reduceAdd,Nat.reduceLT,↓reduceIte,Q7,EE]
   have hm:lastOf [] n=l ++ len8 (n*8 % 18446744073709551616) 8:=by unfold lastOf;rw [← hP]
   generalize n*8 % 18446744073709551616=m at hm
   generalize lastOf [] n=L at hm
   clear hP hk hk2 hl
   refine au (fun j:Nat=>⟨[(0,.ptr 0 0 0 1),(2,.ptr 2 0 0 1),(3,.own 98 0 (l ++ len8 m j).length (l ++ len8 m j).length),(4,.d (.int .u64 (m:Int))),(5,.d (.int .i64 (56 - 8*(j:Int))))],[(98,⟨5,1,rb (l ++ len8 m j)⟩),(2,⟨23,32,[cb z32]⟩),(0,⟨188,10,[de s ++ [.nil,.d (.int .u64 (n:Int))]]⟩)],642⟩)
    (fun j=>j≤8) (fun j=>8 - j) 0 (by omega) (by
     simp [av,ag,fv,lk,AV.low,AV.low1,len8]
     exact ⟨aV _ _,aF _ _,fW s (.nil) (.d (.int .u64 n)) (fun _=>trivial) (fun _=>trivial) _⟩) ?_
   intro j hj
   have hll:(l ++ len8 m j).length=l.length+j:=by rw [List.length_append,len8_len]
   have e8:(56:Int) - 8*(j:Int) - 8=56 - 8*((j+1:Nat):Int):=by omega
   have w8:IntKind.i64.wrap (56 - 8*(j:Int) - 8)=56 - 8*((j+1:Nat):Int):=by rw [IntWalk.i64_in _ (by omega)];omega
   simp only [go_sem,Nat.reduceEqDiff,Nat.reduceAdd,Nat.reduceLT,↓reduceIte]
   refine ⟨fun h=>?_,fun h=>?_⟩
   ·have hj7:j≤7:=by omega
    have eb:IntKind.u8.wrap (Int.fdiv (m:Int) (2 ^ (min (56 - 8*(j:Int)).toNat 64)))=((t8 (c7 (56 - 8*j) m):Nat):Int):=by
     rw [show min (56 - 8*(j:Int)).toNat 64=56 - 8*j by omega,Jc,cm]
    have es:rb (l ++ len8 m j) ++ [[AV.d (.int .u8 ((t8 (c7 (56 - 8*j) m):Nat):Int))]]=rb (l ++ len8 m (j+1)):=by rw [ee,List.append_assoc];rfl
    simp only [go_sem,Nat.reduceEqDiff,Nat.reduceAdd,Nat.reduceLT,↓reduceIte,IntKind.bits,eb,aC,es,w8]
    refine ⟨by omega,by decide,by have:=len8_len m j;omega,?_⟩
    refine ai (j+1) (by omega) (by omega) ?_
    have hl8:(len8 m (j+1)).length=(len8 m j).length+1:=by rw [len8_len,len8_len]
    simp [av,ag,fv,lk,AV.low,AV.low1,hl8]
    exact ⟨by omega,aV _ _,aF _ _,fW s (.nil) (.d (.int .u64 n)) (fun _=>trivial) (fun _=>trivial) _⟩
   ·have hj8:j=8:=by omega
    subst hj8
    rw [← hm]
    have hL64:L.length % 64=0:=by rw [hm,List.length_append,len8_len];omega
    have hLl:L.length≤2000000000000:=by rw [hm,List.length_append,len8_len];omega
    have hLen:l.length+(len8 m 8).length=L.length:=by rw [hm,List.length_append]
    clear hm hll e8 w8 h56 h em
    simp [go_sem,Q8,pW,hLen]
    generalize hE0:pk L.length s L=E
    refine au (fun t:Nat × S8=>⟨[(0,.ptr 0 0 0 1),(2,.ptr 2 0 0 1),(3,.own 98 (64*t.1) (L.length - 64*t.1) L.length),(6,.ptr 834 0 0 1)],[(834,⟨185,8,[de t.2]⟩),(98,⟨5,1,rb L⟩),(2,⟨23,32,[cb z32]⟩),(0,⟨188,10,[de s ++ [.nil,.d (.int .u64 (n:Int))]]⟩)],898⟩)
     (fun t=>64*t.1≤L.length∧∃ k,L.length - 64*t.1≤k∧pk k t.2 (L.drop (64*t.1))=E) (fun t=>L.length - 64*t.1) (0,s) ⟨by omega,L.length,by omega,hE0⟩ (by
      simp [av,ag,fv,lk,AV.low,AV.low1]
      exact ⟨fe _ _,aV _ _,aF _ _,fW s (.nil) (.d (.int .u64 n)) (fun _=>trivial) (fun _=>trivial) _⟩) ?_
    rintro ⟨j,s1⟩ ⟨hj64,k,hk,hE⟩
    simp only at hj64 hk hE
    have hdl:(L.drop (64*j)).length=L.length - 64*j:=List.length_drop
    simp only [go_sem,Nat.reduceEqDiff,Nat.reduceAdd,Nat.reduceLT,↓reduceIte]
    refine ⟨fun h=>?_,fun h=>?_⟩
    ·have h64:64≤L.length - 64*j:=by omega
     rw [eat_more (by omega) (by omega)] at hE
     simp [go_sem]
     refine ⟨by omega,?_⟩
     refine c8 [(0,834),(1,98)] (po 185 8 s1 [] L (64*j) (by omega) (by simp)) rfl (by simp) (by simp [lk]) (by simp [lk,Blk.ren,cZ,AV.renL,AV.ren,dL,jG,de,rb]) (by simp [AV.renL,AV.ren,dL,jG,lk]) ?_
     rintro r hp' ⟨rfl,h0,h1⟩
     refine ⟨[],rfl,?_⟩
     simp [go_sem,fj,et,h0,h1,Blk.ren,cZ,A3,iC,AV.renL,AV.ren,dL]
     refine ⟨by omega,?_⟩
     refine ai (j+1,Go.Sha.take s1 ((L.drop (64*j)).take 64)) ⟨by simp only;omega,k - 1,by simp only;omega,?_⟩ (by simp only;omega) ?_
     ·rw [List.drop_drop] at hE
      exact hE
     ·simp [av,ag,fv,lk,AV.low,AV.low1]
      exact ⟨⟨by omega,by omega⟩,fe _ _,aV _ _,aF _ _,fW s (.nil) (.d (.int .u64 n)) (fun _=>trivial) (fun _=>trivial) _⟩
    ·have hnil:L.drop (64*j)=[]:=List.drop_eq_nil_of_le (by omega)
     rw [hnil,eat_none k s1 [] (by simp)] at hE
     have hs1:s1=E.1:=by rw [← hE]
     clear hE hE0 hdl hnil
     simp [go_sem,pW]
     refine au (fun i:Nat=>⟨[(0,.ptr 0 0 0 1),(2,.ptr 2 0 0 1),(7,.ptr 994 0 0 1),(59,.agg (de s1)),(60,.d (.int .i64 i))],[(994,⟨23,32,[cb (fM (pre s1.l i))]⟩),(2,⟨23,32,[cb z32]⟩),(0,⟨188,10,[de s ++ [.nil,.d (.int .u64 (n:Int))]]⟩)],1090⟩)
      (fun i=>i≤8) (fun i=>8 - i) 0 (by omega) (by
       simp [av,ag,fv,lk,AV.low,AV.low1,Nq]
       exact ⟨fe _ _,⟨rfl,aF _ _⟩,aF _ _,fW s (.nil) (.d (.int .u64 n)) (fun _=>trivial) (fun _=>trivial) _⟩) ?_
     intro i hi
     have hpl:=gr s1.l i
     simp only [go_sem,Nat.reduceEqDiff,Nat.reduceAdd,Nat.reduceLT,↓reduceIte]
     refine ⟨fun h2=>?_,fun h2=>?_⟩
     ·have hg:=A4 s1 (i:=i) (by omega)
      have hpre:pre s1.l (i+1)=pre s1.l i ++ uR (s1.l.getD i 0) 4:=rfl
      generalize s1.l.getD i 0=x at hg hpre
      simp [go_sem,hg]
      refine ⟨by omega,?_⟩
      refine au (fun k:Nat=>⟨[(0,.ptr 0 0 0 1),(2,.ptr 2 0 0 1),(7,.ptr 994 0 0 1),(59,.agg (de s1)),(60,.d (.int .i64 i)),(8,.d (.int .i64 i)),(9,.d (.int .u32 (x:Int))),(64,.d (.int .i64 k))],[(994,⟨23,32,[cb (fM (pre s1.l i ++ uR x k))]⟩),(2,⟨23,32,[cb z32]⟩),(0,⟨188,10,[de s ++ [.nil,.d (.int .u64 (n:Int))]]⟩)],1300⟩)
       (fun k=>k≤4) (fun k=>4 - k) 0 (by omega) (by
        simp [av,ag,fv,lk,AV.low,AV.low1,uR]
        exact ⟨fe _ _,aF _ _,aF _ _,fW s (.nil) (.d (.int .u64 n)) (fun _=>trivial) (fun _=>trivial) _⟩) ?_
      intro k hk4
      have hkl:=pU x k
      simp only [go_sem,Nat.reduceEqDiff,Nat.reduceAdd,Nat.reduceLT,↓reduceIte]
      refine ⟨fun h3=>?_,fun h3=>?_⟩
      ·have w1:IntKind.i64.wrap (4*(i:Int))=((4*i:Nat):Int):=by rw [IntWalk.i64_in _ (by omega)];omega
       have w2:IntKind.i64.wrap (((4*i:Nat):Int)+(k:Int))=((4*i+k:Nat):Int):=by rw [IntWalk.i64_in _ (by omega)];omega
       have w3:IntKind.i64.wrap (8*(k:Int))=((8*k:Nat):Int):=by rw [IntWalk.i64_in _ (by omega)];omega
       have w4:IntKind.i64.wrap (24 - ((8*k:Nat):Int))=((24 - 8*k:Nat):Int):=by rw [IntWalk.i64_in _ (by omega)];omega
       have w5:=ax (k:=k) (by omega)
       have eb:IntKind.u8.wrap (Int.fdiv (x:Int) (2 ^ (min (24 - 8*k) 32)))=((t8 (c7 (24 - 8*k) x):Nat):Int):=by
        rw [show min (24 - 8*k) 32=24 - 8*k by omega,Jc,cm]
       have hset:(fM (pre s1.l i ++ uR x k)).set (4*i+k) (t8 (c7 (24 - 8*k) x))=fM (pre s1.l i ++ uR x (k+1)):=by
        have h:=tk (w:=pre s1.l i ++ uR x k) (x:=t8 (c7 (24 - 8*k) x)) (by rw [List.length_append];omega)
        rw [List.length_append,hpl,hkl,List.append_assoc] at h
        exact h
       have hrl:(fM (pre s1.l i ++ uR x k)).length=32:=tj (by rw [List.length_append];omega)
       simp only [go_sem,Nat.reduceEqDiff,Nat.reduceAdd,Nat.reduceLT,↓reduceIte,w1,w2,w3,w4,IntKind.bits,Int.toNat_natCast,eb,Nat.mul_one,rt,hset,hrl,w5]
       refine ⟨by omega,by omega,?_⟩
       refine ai (k+1) (by omega) (by omega) ?_
       simp [av,ag,fv,lk,AV.low,AV.low1]
       exact ⟨fe _ _,aF _ _,aF _ _,fW s (.nil) (.d (.int .u64 n)) (fun _=>trivial) (fun _=>trivial) _⟩
      ·have hk4':k=4:=by omega
       subst hk4'
       rw [← hpre]
       have w5:=ax (k:=i) (by omega)
       simp only [go_sem,Nat.reduceEqDiff,Nat.reduceAdd,Nat.reduceLT,↓reduceIte,w5]
       refine ai (i+1) (by omega) (by omega) ?_
       simp [av,ag,fv,lk,AV.low,AV.low1]
       exact ⟨fe _ _,aF _ _,aF _ _,fW s (.nil) (.d (.int .u64 n)) (fun _=>trivial) (fun _=>trivial) _⟩
     ·have hi8:i=8:=by omega
      subst hi8
      have hfull:fM (pre s1.l 8)=wr s1:=ry hpl
      rw [hfull,hs1]
      have hdl2:(wr E.1).length=32:=gr _ 8
      have htk:List.take 32 (cb (wr E.1))=cb (wr E.1):=List.take_of_length_le (by rw [am];omega)
      simp [go_sem,ak,hdl2,htk]
      rfl
end Go.Proofs.YtldccnbokbieiaaGreat
namespace Go.Sha
theorem x5:∀ (k j:Nat) (s:S8) (b:List Nat),b.length≤k→b.length≤j→pk k s b=pk j s b
 | 0,j,s,b,h,_=>by
  have hb:b.length<64:=by omega
  rw [Go.Proofs.YtldccnbokbieiaaGreat.eat_none 0 s b hb,Go.Proofs.YtldccnbokbieiaaGreat.eat_none j s b hb]
 | k+1,j,s,b,h,h2=>by
  by_cases h64:64≤b.length
  ·rw [Go.Proofs.YtldccnbokbieiaaGreat.eat_more h64 h,Go.Proofs.YtldccnbokbieiaaGreat.eat_more h64 h2]
   exact x5 k (j - 1) _ _ (by rw [List.length_drop];omega) (by rw [List.length_drop];omega)
  ·rw [Go.Proofs.YtldccnbokbieiaaGreat.eat_none _ s b (by omega),Go.Proofs.YtldccnbokbieiaaGreat.eat_none _ s b (by omega)]
def E (s:S8) (b:List Nat):S8 × List Nat:=pk b.length s b
theorem kU {s:S8} {b:List Nat} (h:b.length<64):E s b=(s,b):=Go.Proofs.YtldccnbokbieiaaGreat.eat_none _ s b h
theorem mO {s:S8} {b:List Nat} (h:64≤b.length):E s b=E (Go.Sha.take s (b.take 64)) (b.drop 64):=by
 unfold E
 rw [Go.Proofs.YtldccnbokbieiaaGreat.eat_more h (Nat.le_refl _)]
 exact x5 _ _ _ _ (by rw [List.length_drop];omega) (Nat.le_refl _)
theorem EI (b:List Nat):∀ (n:Nat) (s:S8) (a:List Nat),a.length≤n→E s (a ++ b)=E (E s a).1 ((E s a).2 ++ b)
 | 0,s,a,h=>by rw [kU (b:=a) (by omega)]
 | n+1,s,a,h=>by
  by_cases h64:64≤a.length
  ·rw [mO (b:=a) h64,mO (b:=a ++ b) (by rw [List.length_append];omega)]
   rw [List.take_append_of_le_length h64,List.drop_append_of_le_length h64]
   exact EI b n _ _ (by rw [List.length_drop];omega)
  ·rw [kU (b:=a) (by omega)]
theorem EJ:∀ (n:Nat) (s:S8) (a:List Nat),a.length≤n→(E s a).2.length≤a.length
 | 0,s,a,h=>by rw [kU (by omega)];exact Nat.le_refl _
 | n+1,s,a,h=>by
  by_cases h64:64≤a.length
  ·rw [mO h64]
   have:=EJ n (Go.Sha.take s (a.take 64)) (a.drop 64) (by rw [List.length_drop];omega)
   rw [List.length_drop] at this
   omega
  ·rw [kU (by omega)];exact Nat.le_refl _
def oI (p:S8 × List Nat) (n:Nat):List Nat:=wr (E p.1 (Go.Proofs.YtldccnbokbieiaaGreat.lastOf p.2 n)).1
def dU (b:List Nat):List Nat:=oI (E H0 b) b.length
def c6 (t b:List Nat):List Nat:=dU (dU t ++ (dU t ++ b))
theorem cE (b:List Nat):(dU b).length=32:=gr _ 8
end Go.Sha
namespace Go.Proofs.YtldccnbokbieiaaGreat
open Go.Am Go.Sha
theorem wn (a b:Nat) (h:a+b<18446744073709551616):IntKind.u64.wrap ((a:Int)+IntKind.u64.wrap (b:Int))=((a+b:Nat):Int):=by rw [fU,fU];omega
theorem jd (ρ:Nat→Nat) (b:List Nat):(AV.d (nb b)).ren ρ=.d (nb b):=rfl
theorem jX (ρ:Nat→Nat):∀ l:List Nat,AV.renL ρ (cb l)=cb l
 | []=>by simp [cb,AV.renL]
 | x :: r=>by
  have:=jX ρ r
  simp only [cb] at this
  simp only [cb,List.map_cons,AV.renL,AV.ren,this]
theorem aj {l:List Nat} (h:l.length=32):List.take 32 (cb l)=cb l:=List.take_of_length_le (by rw [am];omega)
theorem bR:List.drop 32 (cb z32)=[]:=rfl
theorem iU (ρ:Nat→Nat) (s:S8) (a b:AV):AV.renL ρ (de s ++ [a,b])=de s ++ [a.ren ρ,b.ren ρ]:=by simp [de,AV.renL,AV.ren]
theorem Nr (s:S8) (R:AV) (rest b:List Nat) (n:Nat) (hR:R=.d (nb rest) ∨ (R=.nil∧rest=[])) (hl:rest.length+b.length≤1000000000000) (hn:n+b.length<18446744073709551616) :
  dO Tryz.prog 118 1 [(0,⟨188,10,[de s ++ [R,.d (.int .u64 (n:Int))]]⟩)] [.ptr 0 0 0 1,.d (nb b)]
   (fun r hp'=>r=.tup []∧lk 0 hp'=some ⟨188,10,[de (E s (rest ++ b)).1 ++ [.d (nb (E s (rest ++ b)).2),.d (.int .u64 ((n+b.length:Nat):Int))]]⟩):=by
 have:=ED s R rest b n hR hl
 rw [wn n b.length hn] at this
 exact this
theorem Cr (b:List Nat) (hb:b.length≤100000000000):aq Tryz.prog 112 [.d (nb b)] (fun r=>r=.agg (cb (dU b))):=by
 refine aS Tryz.func112 Tryz.ntmps112 (rs:=[.cell 2 23]) (by simp [AV.deep,AV.deep1]) ?_
 simp only [go_sem,Nat.reduceEqDiff,Nat.reduceAdd,Nat.reduceLT,↓reduceIte,Nat.reduceMul]
 refine c8 [] EC rfl (by simp) (by simp) (by simp) (by simp [AV.renL]) ?_
 rintro r hp' ⟨rfl,h0⟩
 refine ⟨[(97,0)],rfl,?_⟩
 simp [go_sem,fj,et,h0,Blk.ren,cZ,iU,AV.ren,dL]
 refine c8 [(0,32)] (Nr H0 .nil [] b 0 (.inr ⟨rfl,rfl⟩) (by simp;omega) (by omega)) rfl (by simp) (by simp [lk]) (by simp [lk,Blk.ren,cZ,iU,AV.ren,dL,jG]) (by simp [AV.renL,AV.ren,dL,jG,lk]) ?_
 rintro r hp' ⟨rfl,h0⟩
 refine ⟨[],rfl,?_⟩
 simp [go_sem,fj,et,h0,Blk.ren,cZ,iU,jd,AV.renL,AV.ren,dL]
 refine c8 [(0,32)] (EH (E H0 b).1 (.d (nb (E H0 b).2)) (E H0 b).2 b.length (.inl rfl) (by have:=EJ _ H0 b (Nat.le_refl _);omega)) rfl (by simp) (by simp [lk]) (by simp [lk,Blk.ren,cZ,iU,jd,AV.ren,dL,jG]) (by simp [AV.renL,AV.ren,dL,jG,lk]) ?_
 rintro r hp' ⟨rfl,h0⟩
 refine ⟨[],rfl,?_⟩
 have hf:wr (pk (lastOf (E H0 b).2 b.length).length (E H0 b).1 (lastOf (E H0 b).2 b.length)).1=dU b:=rfl
 rw [hf] at *
 simp [go_sem,fj,et,h0,Blk.ren,cZ,iU,jd,jX,AV.ren,dL,ak,cE,aj (cE b),bR]
 exact ae (by simp [AV.deep];exact aL _) rfl
theorem iD {hp:Hp} {I:Nat→Prop} {id:Nat} {ty:TypeId} {l:List Nat} (hb:lk id hp=some ⟨ty,32,[cb l]⟩) (hI:I id) (hl:l.length=32):SnapD hp I (.sub id 0 0 1 32 32 1) (nb l):=by
 refine .sub (es:=l.map fun (x:Nat)=>[.int .u8 (x:Int)]) hI hb rfl rfl (by omega) (by simp [hl]) (fun r hr=>by
  rw [List.mem_map] at hr
  obtain ⟨c,_,rfl⟩:=hr
  rfl) fun k j c r y hc hr hy=>?_
 simp only [Nat.zero_add,Nat.mul_one,List.getElem?_map,Option.map_eq_some_iff] at hc hr
 obtain ⟨x,hx,rfl⟩:=hr
 cases j with
 | succ j=>simp at hy
 | zero =>
  simp at hy
  subst hy
  rw [Nat.add_zero,uS,hx] at hc
  simp at hc
  subst hc
  exact .d _
theorem fN {b:List Nat} (hb:b.length=32):(List.range 32).map (fun k=>((cb b).drop k).take 1)=List.map ((fun r=>List.map AV.d r) ∘ fun (x:Nat)=>[DV.int .u8 (x:Int)]) b:=by
 apply List.ext_getElem?
 intro i
 by_cases hi:i<32
 ·rw [List.getElem?_map,List.getElem?_map,List.getElem?_range hi,List.getElem?_eq_getElem (by omega:i<b.length)]
  have h:i<(cb b).length:=by rw [am];omega
  have h1:(cb b)[i]?=some (.d (.int .u8 ((b[i]:Nat):Int))):=by rw [uS,List.getElem?_eq_getElem (by omega:i<b.length)];rfl
  have h2:(cb b)[i]=.d (.int .u8 ((b[i]:Nat):Int)):=by
   rw [List.getElem?_eq_getElem h] at h1
   exact Option.some.inj h1
  rw [Option.map_some,Option.map_some,List.drop_eq_getElem_cons h,h2]
  rfl
 ·rw [List.getElem?_eq_none (by simp;omega),List.getElem?_eq_none (by simp;omega)]
theorem uT (s:S8) (R:AV) (rest b:List Nat) (n:Int) (hR:R=.d (nb rest) ∨ (R=.nil∧rest=[])) (hl:rest.length+b.length≤1000000000000) (hb32:b.length=32) :
  dO Tryz.prog 118 2 [(0,⟨188,10,[de s ++ [R,.d (.int .u64 n)]]⟩),(1,⟨23,32,[cb b]⟩)] [.ptr 0 0 0 1,.sub 1 0 0 1 32 32 1]
   (fun r hp'=>r=.tup []∧lk 0 hp'=some ⟨188,10,[de (pk ((rest ++ b).length) s (rest ++ b)).1 ++ [.d (nb (pk ((rest ++ b).length) s (rest ++ b)).2),.d (.int .u64 (IntKind.u64.wrap (n+(IntKind.u64.wrap (b.length:Int)))))]]⟩∧lk 1 hp'=some ⟨23,32,[cb b]⟩):=by
 refine b7 Tryz.func118 (by kernel_rfl) rfl Tryz.ntmps118 (rs:=[]) rfl (jy rfl) (by decide) ?_
 rw [hb32]
 generalize hn':IntKind.u64.wrap (n+(IntKind.u64.wrap ((32:Nat):Int)))=n'
 generalize hE0:pk ((rest ++ b).length) s (rest ++ b)=E
 have hx:=fN hb32
 generalize hX:List.map ((fun r=>List.map AV.d r) ∘ fun (x:Nat)=>[DV.int .u8 (x:Int)]) b=X at hx
 simp [go_sem] at hx
 have hn2:IntKind.u64.wrap (n+IntKind.u64.wrap 32)=n':=hn'
 rcases hR with rfl | ⟨rfl,rfl⟩
 ·simp [go_sem,nb,de,hn2]
  refine bk [0,1,2,3,4,5,6,7,8,9,10,11,12,13,14,15,16] [(17,[18,19]),(20,[])] 1 (k:=21) ?_
  intro G hG
  simp [go_sem,jb,hx]
  rw [← hX,lN]
  simp [go_sem,jb]
  refine ⟨by have:=hl;simp only [List.length_append,List.length_nil] at *;omega,.inl (hG _ _ ?_)⟩
  clear hG G
  refine au (fun t:S8 × List Nat=>⟨[(0,.ptr 0 0 0 1)],[(0,⟨188,10,[de t.1 ++ [.d (nb t.2),.d (.int .u64 n')]]⟩),(1,⟨23,32,[cb b]⟩)],1091⟩)
   (fun t=>t.2.length≤1000000000000∧∃ k,t.2.length≤k∧pk k t.1 t.2=E) (fun t=>t.2.length) (s,rest ++ b) ⟨by have:=hl;simp only [List.length_append,List.length_nil] at *;omega,_,Nat.le_refl _,hE0⟩ (by
    simp [av,ag,fv,lk,AV.low,AV.low1,nb,de]
    exact aF _ _) ?_
  rintro ⟨s1,q⟩ ⟨hq,k,hk,hE⟩
  simp only at hq hk hE
  simp only [go_sem,Nat.reduceEqDiff,Nat.reduceAdd,Nat.reduceLT,↓reduceIte,de,nb,List.length_map]
  refine ⟨fun h=>?_,fun h=>?_⟩
  ·have h64:64≤q.length:=by omega
   rw [eat_more h64 hk] at hE
   refine bk [0,1,2,3,4,5,6,7] [(8,[])] 0 (k:=9) ?_
   intro G hG
   simp [go_sem]
   refine ⟨by omega,?_⟩
   refine c8 [(0,0)] (pV 188 10 s1 [.d (nb q),.d (.int .u64 n')] (q.take 64) (by simp;omega) (by simp [AV.low1])) rfl (by simp) (by simp [lk]) (by simp [lk,Blk.ren,cZ,AV.renL,AV.ren,dL,jG,de,nb]) (by simp [AV.renL,AV.ren,dL,jG,lk,nb,List.map_take]) ?_
   rintro r hp' ⟨rfl,h0⟩
   refine ⟨[],rfl,?_⟩
   simp [go_sem,fj,et,h0,Blk.ren,cZ,AV.renL,AV.ren,dL,de]
   refine hG _ _ ?_
   clear hG G
   simp [go_sem,nb]
   refine ⟨by omega,?_⟩
   refine ai (Go.Sha.take s1 (q.take 64),q.drop 64) ⟨by simp only [List.length_drop];omega,k - 1,by simp only [List.length_drop];omega,hE⟩ (by simp only [List.length_drop];omega) ?_
   simp [av,ag,fv,lk,AV.low,AV.low1,nb,de,List.map_drop,jb]
   exact aF _ _
  ·rw [eat_none k s1 q (by omega)] at hE
   subst hE
   rfl
 ·simp [go_sem,nb,de,hn2]
  refine bk [0,1,2,3,4,5,6,7,8,9,10,11,12,13,14,15,16] [(17,[18,19]),(20,[])] 1 (k:=21) ?_
  intro G hG
  simp [go_sem,jb,hx]
  rw [← hX,lN]
  simp [go_sem,jb]
  refine ⟨by have:=hl;simp only [List.length_append,List.length_nil] at *;omega,.inl (hG _ _ ?_)⟩
  clear hG G
  refine au (fun t:S8 × List Nat=>⟨[(0,.ptr 0 0 0 1)],[(0,⟨188,10,[de t.1 ++ [.d (nb t.2),.d (.int .u64 n')]]⟩),(1,⟨23,32,[cb b]⟩)],1091⟩)
   (fun t=>t.2.length≤1000000000000∧∃ k,t.2.length≤k∧pk k t.1 t.2=E) (fun t=>t.2.length) (s,[] ++ b) ⟨by have:=hl;simp only [List.length_append,List.length_nil] at *;omega,_,Nat.le_refl _,hE0⟩ (by
    simp [av,ag,fv,lk,AV.low,AV.low1,nb,de]
    exact aF _ _) ?_
  rintro ⟨s1,q⟩ ⟨hq,k,hk,hE⟩
  simp only at hq hk hE
  simp only [go_sem,Nat.reduceEqDiff,Nat.reduceAdd,Nat.reduceLT,↓reduceIte,de,nb,List.length_map]
  refine ⟨fun h=>?_,fun h=>?_⟩
  ·have h64:64≤q.length:=by omega
   rw [eat_more h64 hk] at hE
   refine bk [0,1,2,3,4,5,6,7] [(8,[])] 0 (k:=9) ?_
   intro G hG
   simp [go_sem]
   refine ⟨by omega,?_⟩
   refine c8 [(0,0)] (pV 188 10 s1 [.d (nb q),.d (.int .u64 n')] (q.take 64) (by simp;omega) (by simp [AV.low1])) rfl (by simp) (by simp [lk]) (by simp [lk,Blk.ren,cZ,AV.renL,AV.ren,dL,jG,de,nb]) (by simp [AV.renL,AV.ren,dL,jG,lk,nb,List.map_take]) ?_
   rintro r hp' ⟨rfl,h0⟩
   refine ⟨[],rfl,?_⟩
   simp [go_sem,fj,et,h0,Blk.ren,cZ,AV.renL,AV.ren,dL,de]
   refine hG _ _ ?_
   clear hG G
   simp [go_sem,nb]
   refine ⟨by omega,?_⟩
   refine ai (Go.Sha.take s1 (q.take 64),q.drop 64) ⟨by simp only [List.length_drop];omega,k - 1,by simp only [List.length_drop];omega,hE⟩ (by simp only [List.length_drop];omega) ?_
   simp [av,ag,fv,lk,AV.low,AV.low1,nb,de,List.map_drop,jb]
   exact aF _ _
  ·rw [eat_none k s1 q (by omega)] at hE
   subst hE
   rfl
theorem A5 (s:S8) (R:AV) (rest b:List Nat) (n:Nat) (hR:R=.d (nb rest) ∨ (R=.nil∧rest=[])) (hl:rest.length+b.length≤1000000000000) (hb32:b.length=32) (hn:n+b.length<18446744073709551616) :
  dO Tryz.prog 118 2 [(0,⟨188,10,[de s ++ [R,.d (.int .u64 (n:Int))]]⟩),(1,⟨23,32,[cb b]⟩)] [.ptr 0 0 0 1,.sub 1 0 0 1 32 32 1]
   (fun r hp'=>r=.tup []∧lk 0 hp'=some ⟨188,10,[de (E s (rest ++ b)).1 ++ [.d (nb (E s (rest ++ b)).2),.d (.int .u64 ((n+b.length:Nat):Int))]]⟩∧lk 1 hp'=some ⟨23,32,[cb b]⟩):=by
 have:=uT s R rest b n hR hl hb32
 rw [wn n b.length hn] at this
 exact this
theorem jB (tag:List Nat) (ts:DV) (hts:ts=.str (tag.map fun (x:Nat)=>(x:Int))) (b:List Nat) (ht:tag.length≤1000) (hb:b.length≤10000000000):aq Tryz.prog 87 [.d ts,.d (nb b)] (fun r=>r=.agg (cb (c6 tag b))):=by
 subst hts
 refine aS Tryz.func87 Tryz.ntmps87 (rs:=[.cell 4 23]) (by simp [AV.deep,AV.deep1]) ?_
 simp [go_sem,Tryz.underlying5]
 refine ab (Cr tag (by omega)) (by simp [AV.deep,AV.deep1]) ?_
 have hD:=cE tag
 have hg:c6 tag b=dU (dU tag ++ (dU tag ++ b)):=rfl
 rw [hg]
 generalize dU tag=D at hD
 simp [go_sem,hD,bR]
 refine c8 [] EC rfl (by simp) (by simp) (by simp) (by simp [AV.renL]) ?_
 rintro r hp' ⟨rfl,h0⟩
 refine ⟨[(97,0)],rfl,?_⟩
 simp [go_sem,fj,et,h0,Blk.ren,cZ,iU,AV.ren,dL]
 have hp1:E H0 (D ++ (D ++ b))=E (E (E H0 D).1 ((E H0 D).2 ++ D)).1 ((E (E H0 D).1 ((E H0 D).2 ++ D)).2 ++ b):=by
  rw [EI _ _ _ D (Nat.le_refl _),← List.append_assoc,EI _ _ _ ((E H0 D).2 ++ D) (Nat.le_refl _)]
 have hfin:oI (E (E (E H0 D).1 ((E H0 D).2 ++ D)).1 ((E (E H0 D).1 ((E H0 D).2 ++ D)).2 ++ b)) (0+D.length+D.length+b.length)=dU (D ++ (D ++ b)):=by
  unfold dU
  rw [hp1]
  congr 1
  simp only [List.length_append]
  omega
 have l1:=EJ _ H0 D (Nat.le_refl _)
 refine c8 [(0,192),(1,128)] (A5 H0 .nil [] D 0 (.inr ⟨rfl,rfl⟩) (by simp;omega) hD (by omega)) rfl (by simp) (by simp [lk]) (by simp [lk,Blk.ren,cZ,iU,jX,AV.renL,AV.ren,dL,jG]) (by simp [AV.renL,AV.ren,dL,jG,lk]) ?_
 rintro r hp' ⟨rfl,h0,h1⟩
 refine ⟨[],rfl,?_⟩
 rw [List.nil_append] at h0
 generalize E H0 D=p1 at *
 have l2:=EJ _ p1.1 (p1.2 ++ D) (Nat.le_refl _)
 rw [List.length_append] at l2
 simp [go_sem,fj,et,h0,h1,Blk.ren,cZ,iU,jX,jd,AV.renL,AV.ren,dL]
 refine c8 [(0,192),(1,128)] (A5 p1.1 (.d (nb p1.2)) p1.2 D (0+D.length) (.inl rfl) (by omega) hD (by omega)) rfl (by simp) (by simp [lk]) (by simp [lk,Blk.ren,cZ,iU,jX,jd,AV.renL,AV.ren,dL,jG]) (by simp [AV.renL,AV.ren,dL,jG,lk]) ?_
 rintro r hp' ⟨rfl,h0,h1⟩
 refine ⟨[],rfl,?_⟩
 generalize E p1.1 (p1.2 ++ D)=p2 at *
 have l3:=EJ _ p2.1 (p2.2 ++ b) (Nat.le_refl _)
 rw [List.length_append] at l3
 simp [go_sem,fj,et,h0,h1,Blk.ren,cZ,iU,jX,jd,AV.renL,AV.ren,dL]
 refine c8 [(0,192)] (Nr p2.1 (.d (nb p2.2)) p2.2 b (0+D.length+D.length) (.inl rfl) (by omega) (by omega)) rfl (by simp) (by simp [lk]) (by simp [lk,Blk.ren,cZ,iU,jX,jd,AV.renL,AV.ren,dL,jG]) (by simp [AV.renL,AV.ren,dL,jG,lk]) ?_
 rintro r hp' ⟨rfl,h0⟩
 refine ⟨[],rfl,?_⟩
 generalize E p2.1 (p2.2 ++ b)=p3 at *
 simp [go_sem,fj,et,h0,h1,Blk.ren,cZ,iU,jX,jd,AV.renL,AV.ren,dL]
 refine c8 [(0,192)] (EH p3.1 (.d (nb p3.2)) p3.2 (0+D.length+D.length+b.length) (.inl rfl) (by omega)) rfl (by simp) (by simp [lk]) (by simp [lk,Blk.ren,cZ,iU,jd,AV.ren,dL,jG]) (by simp [AV.renL,AV.ren,dL,jG,lk]) ?_
 rintro r hp' ⟨rfl,h0⟩
 refine ⟨[],rfl,?_⟩
 have hf:wr (pk (lastOf p3.2 (0+D.length+D.length+b.length)).length p3.1 (lastOf p3.2 (0+D.length+D.length+b.length))).1=dU (D ++ (D ++ b)):=hfin
 rw [hf]
 have hL:=cE (D ++ (D ++ b))
 generalize dU (D ++ (D ++ b))=R at *
 simp [go_sem,fj,et,h0,Blk.ren,cZ,iU,jd,jX,AV.ren,dL,ak,hL,aj hL,bR]
 exact ae (by simp [AV.deep];exact aL _) rfl
end Go.Proofs.YtldccnbokbieiaaGreat
namespace Go.Sha
def le (x:Nat):Nat→List Nat
 | 0=>[]
 | k+1=>le x k ++ [t8 (c7 (8*k) x)]
theorem cn (x:Nat):∀ k,(le x k).length=k
 | 0=>rfl
 | k+1=>by simp [le,cn x k]
end Go.Sha
namespace Go.Proofs.YtldccnbokbieiaaGreat
open Go.Am Go.Sha
theorem tl (k x:Nat):c7 8 (c7 (8*k) x)=c7 (8*(k+1)) x:=by
 unfold c7
 rw [Nat.div_div_eq_div_mul,← Nat.pow_add]
 congr 1
theorem zM (a:Nat):Int.fdiv (a:Int) 256=((c7 8 a:Nat):Int):=eD a 256
theorem oJ (b:List Nat):List.take b.length (rb b) ++ List.drop b.length (rb (List.replicate b.length 0))=rb b:=by
 rw [List.take_of_length_le (by rw [aC];exact Nat.le_refl _),List.drop_eq_nil_of_le (by rw [aC];simp),List.append_nil]
theorem gc {Q:AV→Prop} {st:St} {id:Nat} {L:List Nat} (hb:lk id st.hp=some ⟨5,1,rb L⟩) (hq:Q (.d (nb L))):dW Q (.own id 0 L.length L.length) st:=by
 have h:=nB (I:=fun _=>True) (i0:=0) (n:=L.length) hb trivial (by omega)
 rw [List.drop_zero,List.take_length] at h
 exact ca (aw h) (by simp [AV.deep,AV.deep1]) hq
theorem A6 (b:List Nat) (x n:Nat) (hb:b.length≤1000000) (hx:x<256) (hn:n≤8):aq Tryz.prog 157 [.d (nb b),.d (.int .u8 (x:Int)),.d (.int .i64 (n:Int))] (fun r=>r=.d (nb (b ++ le x n))):=by
 refine aS Tryz.func157 Tryz.ntmps157 (rs:=[.tmp 6]) (by simp [AV.deep,AV.deep1]) ?_
 have w1:IntKind.i64.wrap ((b.length:Int)+(n:Int))=((b.length+n:Nat):Int):=by rw [IntWalk.i64_in _ (by omega)];omega
 have w2:IntKind.u64.wrap (x:Int)=(x:Int):=by rw [fU];omega
 have hr:List.replicate b.length [AV.d (.int .u8 0)]=rb (List.replicate b.length 0):=by simp [rb]
 simp only [go_sem,Nat.reduceEqDiff,Nat.reduceAdd,Nat.reduceLT,↓reduceIte,Nat.reduceMul,w1,w2,nb,List.length_map,Int.toNat_natCast,hr]
 simp [go_sem,cB,aC]
 rw [oJ]
 refine ⟨by omega,by omega,by omega,by omega,?_⟩
 refine au (fun k:Nat=>⟨[(7,.own 224 0 (b ++ le x k).length (b ++ le x k).length),(8,.d (.int .u64 ((c7 (8*k) x:Nat):Int))),(21,.d (.int .i64 (n:Int))),(22,.d (.int .i64 (k:Int)))],[(224,⟨5,1,rb (b ++ le x k)⟩)],544⟩)
  (fun k=>k≤n) (fun k=>n - k) 0 (by omega) (by
   simp [av,ag,fv,lk,AV.low,AV.low1,le,c7]
   exact aV _ _) ?_
 intro k hk
 have hl:(b ++ le x k).length=b.length+k:=by rw [List.length_append,cn]
 have hs:rb (b ++ le x k) ++ [[AV.d (.int .u8 ((t8 (c7 (8*k) x):Nat):Int))]]=rb (b ++ le x (k+1)):=by rw [ee,List.append_assoc];rfl
 have w5:=ax (k:=k) (by omega)
 simp only [go_sem,Nat.reduceEqDiff,Nat.reduceAdd,Nat.reduceLT,↓reduceIte]
 refine ⟨fun h=>?_,fun h=>?_⟩
 ·simp [go_sem,cm,aC,hs,cn,IntKind.bits,zM,tl,w5]
  refine ⟨by omega,?_⟩
  refine ai (k+1) (by omega) (by omega) ?_
  simp [av,ag,fv,lk,AV.low,AV.low1,cn]
  exact ⟨by omega,aV _ _⟩
 ·have hkn:k=n:=by omega
  subst hkn
  simp [go_sem,ak]
  have hl2:b.length+(le x k).length=(b ++ le x k).length:=by rw [List.length_append]
  rw [hl2]
  exact gc rfl (by simp [nb])
theorem Ns (b:List Nat) (x n:Nat) (hb:b.length≤1000000) (hx:x<65536) (hn:n≤8):aq Tryz.prog 158 [.d (nb b),.d (.int .u16 (x:Int)),.d (.int .i64 (n:Int))] (fun r=>r=.d (nb (b ++ le x n))):=by
 refine aS Tryz.func158 Tryz.ntmps158 (rs:=[.tmp 6]) (by simp [AV.deep,AV.deep1]) ?_
 have w1:IntKind.i64.wrap ((b.length:Int)+(n:Int))=((b.length+n:Nat):Int):=by rw [IntWalk.i64_in _ (by omega)];omega
 have w2:IntKind.u64.wrap (x:Int)=(x:Int):=by rw [fU];omega
 have hr:List.replicate b.length [AV.d (.int .u8 0)]=rb (List.replicate b.length 0):=by simp [rb]
 simp only [go_sem,Nat.reduceEqDiff,Nat.reduceAdd,Nat.reduceLT,↓reduceIte,Nat.reduceMul,w1,w2,nb,List.length_map,Int.toNat_natCast,hr]
 simp [go_sem,cB,aC]
 rw [oJ]
 refine ⟨by omega,by omega,by omega,by omega,?_⟩
 refine au (fun k:Nat=>⟨[(7,.own 224 0 (b ++ le x k).length (b ++ le x k).length),(8,.d (.int .u64 ((c7 (8*k) x:Nat):Int))),(21,.d (.int .i64 (n:Int))),(22,.d (.int .i64 (k:Int)))],[(224,⟨5,1,rb (b ++ le x k)⟩)],544⟩)
  (fun k=>k≤n) (fun k=>n - k) 0 (by omega) (by
   simp [av,ag,fv,lk,AV.low,AV.low1,le,c7]
   exact aV _ _) ?_
 intro k hk
 have hl:(b ++ le x k).length=b.length+k:=by rw [List.length_append,cn]
 have hs:rb (b ++ le x k) ++ [[AV.d (.int .u8 ((t8 (c7 (8*k) x):Nat):Int))]]=rb (b ++ le x (k+1)):=by rw [ee,List.append_assoc];rfl
 have w5:=ax (k:=k) (by omega)
 simp only [go_sem,Nat.reduceEqDiff,Nat.reduceAdd,Nat.reduceLT,↓reduceIte]
 refine ⟨fun h=>?_,fun h=>?_⟩
 ·simp [go_sem,cm,aC,hs,cn,IntKind.bits,zM,tl,w5]
  refine ⟨by omega,?_⟩
  refine ai (k+1) (by omega) (by omega) ?_
  simp [av,ag,fv,lk,AV.low,AV.low1,cn]
  exact ⟨by omega,aV _ _⟩
 ·have hkn:k=n:=by omega
  subst hkn
  simp [go_sem,ak]
  have hl2:b.length+(le x k).length=(b ++ le x k).length:=by rw [List.length_append]
  rw [hl2]
  exact gc rfl (by simp [nb])
theorem Nt (b:List Nat) (x n:Nat) (hb:b.length≤1000000) (hx:x<4294967296) (hn:n≤8):aq Tryz.prog 146 [.d (nb b),.d (.int .u32 (x:Int)),.d (.int .i64 (n:Int))] (fun r=>r=.d (nb (b ++ le x n))):=by
 refine aS Tryz.func146 Tryz.ntmps146 (rs:=[.tmp 6]) (by simp [AV.deep,AV.deep1]) ?_
 have w1:IntKind.i64.wrap ((b.length:Int)+(n:Int))=((b.length+n:Nat):Int):=by rw [IntWalk.i64_in _ (by omega)];omega
 have w2:IntKind.u64.wrap (x:Int)=(x:Int):=by rw [fU];omega
 have hr:List.replicate b.length [AV.d (.int .u8 0)]=rb (List.replicate b.length 0):=by simp [rb]
 simp only [go_sem,Nat.reduceEqDiff,Nat.reduceAdd,Nat.reduceLT,↓reduceIte,Nat.reduceMul,w1,w2,nb,List.length_map,Int.toNat_natCast,hr]
 simp [go_sem,cB,aC]
 rw [oJ]
 refine ⟨by omega,by omega,by omega,by omega,?_⟩
 refine au (fun k:Nat=>⟨[(7,.own 224 0 (b ++ le x k).length (b ++ le x k).length),(8,.d (.int .u64 ((c7 (8*k) x:Nat):Int))),(21,.d (.int .i64 (n:Int))),(22,.d (.int .i64 (k:Int)))],[(224,⟨5,1,rb (b ++ le x k)⟩)],544⟩)
  (fun k=>k≤n) (fun k=>n - k) 0 (by omega) (by
   simp [av,ag,fv,lk,AV.low,AV.low1,le,c7]
   exact aV _ _) ?_
 intro k hk
 have hl:(b ++ le x k).length=b.length+k:=by rw [List.length_append,cn]
 have hs:rb (b ++ le x k) ++ [[AV.d (.int .u8 ((t8 (c7 (8*k) x):Nat):Int))]]=rb (b ++ le x (k+1)):=by rw [ee,List.append_assoc];rfl
 have w5:=ax (k:=k) (by omega)
 simp only [go_sem,Nat.reduceEqDiff,Nat.reduceAdd,Nat.reduceLT,↓reduceIte]
 refine ⟨fun h=>?_,fun h=>?_⟩
 ·simp [go_sem,cm,aC,hs,cn,IntKind.bits,zM,tl,w5]
  refine ⟨by omega,?_⟩
  refine ai (k+1) (by omega) (by omega) ?_
  simp [av,ag,fv,lk,AV.low,AV.low1,cn]
  exact ⟨by omega,aV _ _⟩
 ·have hkn:k=n:=by omega
  subst hkn
  simp [go_sem,ak]
  have hl2:b.length+(le x k).length=(b ++ le x k).length:=by rw [List.length_append]
  rw [hl2]
  exact gc rfl (by simp [nb])
end Go.Proofs.YtldccnbokbieiaaGreat
namespace Go.Sha
def CW (a:Nat):Nat:=a % 65536
def aI (n:Nat):List Nat:=if n<253 then le (t8 n) 1 else if n<65536 then le 253 1 ++ le (CW n) 2 else le 254 1 ++ le (pi n) 4
theorem fx (n:Nat):(aI n).length≤5:=by
 unfold aI
 split
 ·simp [cn]
 ·split <;> simp [cn]
end Go.Sha
namespace Go.Proofs.YtldccnbokbieiaaGreat
open Go.Am Go.Sha
theorem EK (b:List Nat) (x n:Nat) (hb:b.length≤1000000) (hx:x<256) (hn:n≤8):dO Tryz.prog 157 0 [] [.d (nb b),.d (.int .u8 (x:Int)),.d (.int .i64 (n:Int))] (fun r hp'=>r=.own 225 0 (b ++ le x n).length (b ++ le x n).length∧lk 225 hp'=some ⟨5,1,rb (b ++ le x n)⟩):=by
 refine b7 Tryz.func157 (by kernel_rfl) rfl Tryz.ntmps157 (rs:=[.tmp 6]) rfl (jy rfl) (by decide) ?_
 have w1:IntKind.i64.wrap ((b.length:Int)+(n:Int))=((b.length+n:Nat):Int):=by rw [IntWalk.i64_in _ (by omega)];omega
 have w2:IntKind.u64.wrap (x:Int)=(x:Int):=by rw [fU];omega
 have hr:List.replicate b.length [AV.d (.int .u8 0)]=rb (List.replicate b.length 0):=by simp [rb]
 simp only [go_sem,Nat.reduceEqDiff,Nat.reduceAdd,Nat.reduceLT,↓reduceIte,Nat.reduceMul,w1,w2,nb,List.length_map,Int.toNat_natCast,hr]
 simp [go_sem,cB,aC]
 rw [oJ]
 refine ⟨by omega,by omega,by omega,by omega,?_⟩
 refine au (fun k:Nat=>⟨[(7,.own 225 0 (b ++ le x k).length (b ++ le x k).length),(8,.d (.int .u64 ((c7 (8*k) x:Nat):Int))),(21,.d (.int .i64 (n:Int))),(22,.d (.int .i64 (k:Int)))],[(225,⟨5,1,rb (b ++ le x k)⟩)],545⟩)
  (fun k=>k≤n) (fun k=>n - k) 0 (by omega) (by
   simp [av,ag,fv,lk,AV.low,AV.low1,le,c7]
   exact aV _ _) ?_
 intro k hk
 have hl:(b ++ le x k).length=b.length+k:=by rw [List.length_append,cn]
 have hs:rb (b ++ le x k) ++ [[AV.d (.int .u8 ((t8 (c7 (8*k) x):Nat):Int))]]=rb (b ++ le x (k+1)):=by rw [ee,List.append_assoc];rfl
 have w5:=ax (k:=k) (by omega)
 simp only [go_sem,Nat.reduceEqDiff,Nat.reduceAdd,Nat.reduceLT,↓reduceIte]
 refine ⟨fun h=>?_,fun h=>?_⟩
 ·simp [go_sem,cm,aC,hs,cn,IntKind.bits,zM,tl,w5]
  refine ⟨by omega,?_⟩
  refine ai (k+1) (by omega) (by omega) ?_
  simp [av,ag,fv,lk,AV.low,AV.low1,cn]
  exact ⟨by omega,aV _ _⟩
 ·have hkn:k=n:=by omega
  subst hkn
  simp [go_sem,ak]
theorem Cs (b:List Nat) (x n:Nat) (hb:b.length≤1000000) (hx:x<65536) (hn:n≤8):dO Tryz.prog 158 0 [] [.d (nb b),.d (.int .u16 (x:Int)),.d (.int .i64 (n:Int))] (fun r hp'=>r=.own 225 0 (b ++ le x n).length (b ++ le x n).length∧lk 225 hp'=some ⟨5,1,rb (b ++ le x n)⟩):=by
 refine b7 Tryz.func158 (by kernel_rfl) rfl Tryz.ntmps158 (rs:=[.tmp 6]) rfl (jy rfl) (by decide) ?_
 have w1:IntKind.i64.wrap ((b.length:Int)+(n:Int))=((b.length+n:Nat):Int):=by rw [IntWalk.i64_in _ (by omega)];omega
 have w2:IntKind.u64.wrap (x:Int)=(x:Int):=by rw [fU];omega
 have hr:List.replicate b.length [AV.d (.int .u8 0)]=rb (List.replicate b.length 0):=by simp [rb]
 simp only [go_sem,Nat.reduceEqDiff,Nat.reduceAdd,Nat.reduceLT,↓reduceIte,Nat.reduceMul,w1,w2,nb,List.length_map,Int.toNat_natCast,hr]
 simp [go_sem,cB,aC]
 rw [oJ]
 refine ⟨by omega,by omega,by omega,by omega,?_⟩
 refine au (fun k:Nat=>⟨[(7,.own 225 0 (b ++ le x k).length (b ++ le x k).length),(8,.d (.int .u64 ((c7 (8*k) x:Nat):Int))),(21,.d (.int .i64 (n:Int))),(22,.d (.int .i64 (k:Int)))],[(225,⟨5,1,rb (b ++ le x k)⟩)],545⟩)
  (fun k=>k≤n) (fun k=>n - k) 0 (by omega) (by
   simp [av,ag,fv,lk,AV.low,AV.low1,le,c7]
   exact aV _ _) ?_
 intro k hk
 have hl:(b ++ le x k).length=b.length+k:=by rw [List.length_append,cn]
 have hs:rb (b ++ le x k) ++ [[AV.d (.int .u8 ((t8 (c7 (8*k) x):Nat):Int))]]=rb (b ++ le x (k+1)):=by rw [ee,List.append_assoc];rfl
 have w5:=ax (k:=k) (by omega)
 simp only [go_sem,Nat.reduceEqDiff,Nat.reduceAdd,Nat.reduceLT,↓reduceIte]
 refine ⟨fun h=>?_,fun h=>?_⟩
 ·simp [go_sem,cm,aC,hs,cn,IntKind.bits,zM,tl,w5]
  refine ⟨by omega,?_⟩
  refine ai (k+1) (by omega) (by omega) ?_
  simp [av,ag,fv,lk,AV.low,AV.low1,cn]
  exact ⟨by omega,aV _ _⟩
 ·have hkn:k=n:=by omega
  subst hkn
  simp [go_sem,ak]
theorem Ct (b:List Nat) (x n:Nat) (hb:b.length≤1000000) (hx:x<4294967296) (hn:n≤8):dO Tryz.prog 146 0 [] [.d (nb b),.d (.int .u32 (x:Int)),.d (.int .i64 (n:Int))] (fun r hp'=>r=.own 225 0 (b ++ le x n).length (b ++ le x n).length∧lk 225 hp'=some ⟨5,1,rb (b ++ le x n)⟩):=by
 refine b7 Tryz.func146 (by kernel_rfl) rfl Tryz.ntmps146 (rs:=[.tmp 6]) rfl (jy rfl) (by decide) ?_
 have w1:IntKind.i64.wrap ((b.length:Int)+(n:Int))=((b.length+n:Nat):Int):=by rw [IntWalk.i64_in _ (by omega)];omega
 have w2:IntKind.u64.wrap (x:Int)=(x:Int):=by rw [fU];omega
 have hr:List.replicate b.length [AV.d (.int .u8 0)]=rb (List.replicate b.length 0):=by simp [rb]
 simp only [go_sem,Nat.reduceEqDiff,Nat.reduceAdd,Nat.reduceLT,↓reduceIte,Nat.reduceMul,w1,w2,nb,List.length_map,Int.toNat_natCast,hr]
 simp [go_sem,cB,aC]
 rw [oJ]
 refine ⟨by omega,by omega,by omega,by omega,?_⟩
 refine au (fun k:Nat=>⟨[(7,.own 225 0 (b ++ le x k).length (b ++ le x k).length),(8,.d (.int .u64 ((c7 (8*k) x:Nat):Int))),(21,.d (.int .i64 (n:Int))),(22,.d (.int .i64 (k:Int)))],[(225,⟨5,1,rb (b ++ le x k)⟩)],545⟩)
  (fun k=>k≤n) (fun k=>n - k) 0 (by omega) (by
   simp [av,ag,fv,lk,AV.low,AV.low1,le,c7]
   exact aV _ _) ?_
 intro k hk
 have hl:(b ++ le x k).length=b.length+k:=by rw [List.length_append,cn]
 have hs:rb (b ++ le x k) ++ [[AV.d (.int .u8 ((t8 (c7 (8*k) x):Nat):Int))]]=rb (b ++ le x (k+1)):=by rw [ee,List.append_assoc];rfl
 have w5:=ax (k:=k) (by omega)
 simp only [go_sem,Nat.reduceEqDiff,Nat.reduceAdd,Nat.reduceLT,↓reduceIte]
 refine ⟨fun h=>?_,fun h=>?_⟩
 ·simp [go_sem,cm,aC,hs,cn,IntKind.bits,zM,tl,w5]
  refine ⟨by omega,?_⟩
  refine ai (k+1) (by omega) (by omega) ?_
  simp [av,ag,fv,lk,AV.low,AV.low1,cn]
  exact ⟨by omega,aV _ _⟩
 ·have hkn:k=n:=by omega
  subst hkn
  simp [go_sem,ak]
theorem HT (a:Nat):IntKind.u16.wrap (a:Int)=((CW a:Nat):Int):=by
 have:IntKind.u16.wrap (a:Int)=(a:Int) % 65536:=by simp [IntKind.wrap,IntKind.bits,IntKind.signed]
 rw [this];unfold CW;omega
theorem x6 (b:List Nat) (n:Nat) (hb:b.length≤100000) (hn:n<4294967296):dO Tryz.prog 120 0 [] [.d (nb b),.d (.int .u64 (n:Int))] (fun r hp'=>∃ I,r=.own I 0 (b ++ aI n).length (b ++ aI n).length∧lk I hp'=some ⟨5,1,rb (b ++ aI n)⟩):=by
 refine b7 Tryz.func120 (by kernel_rfl) rfl Tryz.ntmps120 (rs:=[.tmp 4]) rfl (jy rfl) (by decide) ?_
 by_cases h1:n<253
 ·have e:aI n=le (t8 n) 1:=by unfold aI;rw [if_pos h1]
  rw [e]
  have i1:(n:Int)<253:=by omega
  simp [go_sem,i1,cm]
  refine c8 [] (EK b (t8 n) 1 (by omega) (by unfold t8;omega) (by omega)) rfl (by simp) (by simp) (by simp) (by simp [AV.renL,AV.ren]) ?_
  rintro r hp' ⟨rfl,h0⟩
  refine ⟨[(225,0)],rfl,?_⟩
  simp [go_sem,fj,et,h0,Blk.ren,cZ,iC,AV.renL,AV.ren,dL,ak]
 ·have i1:¬ (n:Int)<253:=by omega
  by_cases h2:n<65536
  ·have e:aI n=le 253 1 ++ le (CW n) 2:=by unfold aI;rw [if_neg h1,if_pos h2]
   have i2:(n:Int)<65536:=by omega
   rw [e,← List.append_assoc]
   simp [go_sem,i1,i2,-List.append_assoc]
   refine ab (A6 b 253 1 (by omega) (by omega) (by omega)) (by simp [AV.deep,AV.deep1]) ?_
   simp [go_sem,HT,-List.append_assoc]
   refine c8 [] (Cs (b ++ le 253 1) (CW n) 2 (by rw [List.length_append,cn];omega) (by unfold CW;omega) (by omega)) rfl (by simp) (by simp) (by simp) (by simp [AV.renL,AV.ren]) ?_
   rintro r hp' ⟨rfl,h0⟩
   refine ⟨[(225,0)],rfl,?_⟩
   simp [go_sem,fj,et,h0,Blk.ren,cZ,iC,AV.renL,AV.ren,dL,ak]
   omega
  ·have e:aI n=le 254 1 ++ le (pi n) 4:=by unfold aI;rw [if_neg h1,if_neg h2]
   have i2:¬ (n:Int)<65536:=by omega
   have i3:(n:Int)<4294967296:=by omega
   rw [e,← List.append_assoc]
   simp [go_sem,i1,i2,i3,-List.append_assoc]
   refine ab (A6 b 254 1 (by omega) (by omega) (by omega)) (by simp [AV.deep,AV.deep1]) ?_
   simp [go_sem,te,-List.append_assoc]
   refine c8 [] (Ct (b ++ le 254 1) (pi n) 4 (by rw [List.length_append,cn];omega) (by unfold pi;omega) (by omega)) rfl (by simp) (by simp) (by simp) (by simp [AV.renL,AV.ren]) ?_
   rintro r hp' ⟨rfl,h0⟩
   refine ⟨[(225,0)],rfl,?_⟩
   simp [go_sem,fj,et,h0,Blk.ren,cZ,iC,AV.renL,AV.ren,dL,ak]
   omega
theorem pp (b x:List Nat) (hb:b.length≤100000) (hx:x.length<1000000):aq Tryz.prog 88 [.d (nb b),.d (nb x)] (fun r=>r=.d (nb (b ++ (aI x.length ++ x)))):=by
 refine aS Tryz.func88 Tryz.ntmps88 (rs:=[.tmp 4]) (by simp [AV.deep,AV.deep1]) ?_
 have w:IntKind.u64.wrap (x.length:Int)=(x.length:Int):=by rw [fU];omega
 have hp5:=fx x.length
 simp only [go_sem,Nat.reduceEqDiff,Nat.reduceAdd,Nat.reduceLT,↓reduceIte,nb,List.length_map,w]
 refine c8 [] (x6 b x.length (by omega) (by omega)) rfl (by simp) (by simp) (by simp) (by simp [AV.renL,AV.ren,nb]) ?_
 rintro r hp' ⟨I,rfl,h0⟩
 refine ⟨[(I,0)],by simp [s9,rk],?_⟩
 simp [go_sem,fj,et,h0,Blk.ren,cZ,iC,AV.renL,AV.ren,dL,cB,aC,ak]
 refine ⟨by omega,?_⟩
 rw [jc,show b.length+(aI x.length).length+x.length=(b ++ aI x.length ++ x).length by simp;omega]
 exact gc rfl (by simp [nb])
theorem pq (x:List Nat) (hx:x.length≤100000):aq Tryz.prog 51 [.d (nb x)] (fun r=>r=.agg (cb (c6 [84,97,112,76,101,97,102] (192 :: (aI x.length ++ x))))):=by
 refine aS Tryz.func51 Tryz.ntmps51 (rs:=[.cell 2 23]) (by simp [AV.deep,AV.deep1]) ?_
 have hp5:=fx x.length
 simp [go_sem]
 have hs:∀ (hp:Hp),lk 32 hp=some ⟨5,1,rb [192]⟩→SnapD hp (fun id=>id ∈ [32]) (.own 32 0 1 1) (nb [192]):=fun hp h=>by
  have:=nB (I:=fun id=>id ∈ [32]) (i0:=0) (n:=1) (L:=[192]) h (by simp) (by simp)
  exact this
 refine bU [32] (pp [192] x (by simp) (by omega)) rfl (ay (.one (aw (hs _ rfl))) (ay (.deep (by simp [AV.deep,AV.deep1])) aT)) ?_
 simp [go_sem,aQ]
 refine ab (jB [84,97,112,76,101,97,102] (.str [84,97,112,76,101,97,102]) rfl (192 :: (aI x.length ++ x)) (by simp) (by simp;omega)) (by simp [AV.deep,AV.deep1]) ?_
 have hL:(c6 [84,97,112,76,101,97,102] (192 :: (aI x.length ++ x))).length=32:=cE _
 generalize c6 [84,97,112,76,101,97,102] (192 :: (aI x.length ++ x))=R at *
 simp [go_sem,ak,hL,aj hL,bR]
 exact ae (by simp [AV.deep];exact aL _) rfl
def fO (a:List Nat):List UInt8:=Lib.bytesOf (a.map fun (x:Nat)=>(x:Int))
theorem tn {P:Program} {w:World} {S:Nat→Prop} {σ:Nat→Option Nat} {hp:Hp} {U:Nat→Prop} {a:List Nat} {x:Value} (h:AIs w S σ hp U (.d (nb a)) x):(Extern.Bytes.bytesOf x).run P w=.ok ⟨(fO a).toArray⟩ w:=by
 cases h with
 | d h =>
  unfold nb at h
  generalize hes:(a.map fun (b:Nat)=>[DV.int .u8 (b:Int)])=es at h
  cases h with
  | ro _ _ A c vs hc he hA hv hd =>
   have hlen:es.length=a.length:=by rw [← hes,List.length_map]
   cases A with
   | none =>
    have:a=[]:=by
     cases a with
     | nil=>rfl
     | cons y r =>
      obtain ⟨ad,h1,_⟩:=hA [DV.int .u8 (y:Int)] (by rw [← hes];simp)
      cases h1
    subst this
    simp [Extern.Bytes.bytesOf,fO,Lib.bytesOf]
    rfl
   | some ad =>
    have hl:=Lib.run_loadBytesX (P:=P) w (a.map fun (x:Nat)=>(x:Int)) ad .empty (fun j y hj=>by
     simp only [List.getElem?_map,Option.map_eq_some_iff] at hj
     obtain ⟨z,hz,rfl⟩:=hj
     have h1:es[j]?=some [DV.int .u8 (z:Int)]:=by rw [← hes,List.getElem?_map,hz];rfl
     have h2:=hv ad rfl j 0 _ _ h1 rfl
     have h3:=hd j 0 _ _ h1 rfl
     rw [Nat.mul_one,Nat.add_zero] at h2
     rw [h2]
     generalize vs j 0=u at h3
     cases h3
     rfl)
    rw [List.length_map] at hl
    show (Extern.Bytes.loadBytes ad es.length .empty).run P w=_
    rw [hlen,hl]
    congr 2
    simp [fO]
theorem HU (a b:List Nat):mY Tryz.prog 154 [.d (nb a),.d (nb b)] (.d (.int .i64 (Lib.compareBytes (fO a) (fO b)))):=by
 intro w S σ hp U vs hl hv
 match vs,hl with
 | [x,y],_ =>
  have hx:=tn (P:=Tryz.prog) (hv 0 _ x rfl rfl)
  have hy:=tn (P:=Tryz.prog) (hv 1 _ y rfl rfl)
  refine ⟨.int .i64 (Lib.compareBytes (fO a) (fO b)),?_,.d (.int _ _)⟩
  have hc:(Extern.BytealgCompare.compare #[x,y]).run Tryz.prog w=.ok (.int .i64 (Lib.compareBytes (fO a) (fO b))) w:=by
   change Sem.run Tryz.prog (do pure (goInt (Extern.BytealgCompare.cmp (← Extern.Bytes.bytesOf x) (← Extern.Bytes.bytesOf y)))) w=_
   simp only [Sem.run_bind,hx,hy,Result.andThen_ok,Sem.run_pure,Lib.cmp_eq]
   rfl
  rw [run_callFunc_extern Tryz.func154 (by kernel_rfl) (by kernel_rfl) (by kernel_rfl) (e:=Extern.BytealgCompare.compare) (by kernel_rfl),hc]
  rfl
theorem zN (a b:List Nat):aq Tryz.prog 116 [.d (nb a),.d (nb b)] (fun r=>r=.d (.int .i64 (Lib.compareBytes (fO a) (fO b)))):=by
 refine aS Tryz.func116 Tryz.ntmps116 (rs:=[.tmp 4]) (by simp [AV.deep,AV.deep1]) ?_
 simp only [go_sem,Nat.reduceEqDiff,Nat.reduceAdd,Nat.reduceLT,↓reduceIte]
 refine oE (HU a b) ?_
 simp [go_sem,ak]
 exact ae (by simp [AV.deep,AV.deep1]) rfl
def bo:List Nat:=[84,97,112,66,114,97,110,99,104]
def aO (a b:List Nat):List Nat:=c6 bo (if 0<Lib.compareBytes (fO a) (fO b) then b ++ a else a ++ b)
theorem x7 {hp:Hp} {I:Nat→Prop} {id:Nat} {L:List Nat} (hl:L.length=64) (hb:lk id hp=some ⟨5,1,rb L⟩) (hI:I id):SnapD hp I (.own id 0 64 64) (nb L):=by
 have h:=nB (i0:=0) (n:=64) (L:=L) hb hI (by omega)
 rw [List.drop_zero,List.take_of_length_le (by omega),hl] at h
 exact h
theorem tp (a b:List Nat) (ha:a.length=32) (hb:b.length=32):aq Tryz.prog 86 [.agg (cb a),.agg (cb b)] (fun r=>r=.agg (cb (aO a b))):=by
 refine aS Tryz.func86 Tryz.ntmps86 (rs:=[.cell 4 23]) (by simp [AV.deep];exact ⟨aL _,aL _⟩) ?_
 simp [go_sem,ha,hb]
 refine bk [0,1] [(2,[3])] 1 (k:=4) ?_
 intro G hG
 simp [go_sem]
 refine nA (zN a b) rfl (ay (.one (aw (iD rfl trivial ha))) (ay (.one (aw (iD rfl trivial hb))) aT)) trivial ?_
 simp [go_sem]
 refine hG _ _ ?_
 clear hG G
 by_cases hc:0<Lib.compareBytes (fO a) (fO b)
 ·have hda:List.drop 32 (cb a)=[]:=List.drop_eq_nil_of_le (by rw [am];omega)
  have hdb:List.drop 32 (cb b)=[]:=List.drop_eq_nil_of_le (by rw [am];omega)
  simp [go_sem,hc,ha,hb,hda,hdb,aj ha,aj hb]
  refine bk [0,1] [(2,[]),(3,[]),(4,[])] 0 (k:=5) ?_
  intro G hG
  have hx1:=fN hb
  have hx2:=fN ha
  rw [cB] at hx1 hx2
  simp [go_sem] at hx1 hx2
  have hl:(b ++ a).length=64:=by rw [List.length_append];omega
  simp [go_sem]
  refine bU [416] (jB bo (.str [84,97,112,66,114,97,110,99,104]) rfl (b ++ a) (by simp [bo]) (by omega)) rfl (ay (.deep (by simp [AV.deep,AV.deep1])) (ay (.one (aw (x7 (L:=b ++ a) hl (by simp [lk];rw [← jc,← hx1,← hx2];rfl) (by simp)))) aT)) ?_
  have hR:aO a b=c6 bo (b ++ a):=by unfold aO;rw [if_pos hc]
  rw [hR] at hG
  have hL:(c6 bo (b ++ a)).length=32:=cE _
  generalize c6 bo (b ++ a)=R at *
  simp [go_sem,aQ,hL]
  refine hG _ _ ?_
  clear hG G
  simp [go_sem,ak,hL,aj hL,bR]
  exact ae (by simp [AV.deep];exact aL _) rfl
 ·have hda:List.drop 32 (cb a)=[]:=List.drop_eq_nil_of_le (by rw [am];omega)
  have hdb:List.drop 32 (cb b)=[]:=List.drop_eq_nil_of_le (by rw [am];omega)
  simp [go_sem,hc,ha,hb,hda,hdb,aj ha,aj hb]
  refine bk [0,1] [(2,[]),(3,[]),(4,[])] 0 (k:=5) ?_
  intro G hG
  have hx1:=fN ha
  have hx2:=fN hb
  rw [cB] at hx1 hx2
  simp [go_sem] at hx1 hx2
  have hl:(a ++ b).length=64:=by rw [List.length_append];omega
  simp [go_sem]
  refine bU [288] (jB bo (.str [84,97,112,66,114,97,110,99,104]) rfl (a ++ b) (by simp [bo]) (by omega)) rfl (ay (.deep (by simp [AV.deep,AV.deep1])) (ay (.one (aw (x7 (L:=a ++ b) hl (by simp [lk];rw [← jc,← hx1,← hx2];rfl) (by simp)))) aT)) ?_
  have hR:aO a b=c6 bo (a ++ b):=by unfold aO;rw [if_neg hc]
  rw [hR] at hG
  have hL:(c6 bo (a ++ b)).length=32:=cE _
  generalize c6 bo (a ++ b)=R at *
  simp [go_sem,aQ,hL]
  refine hG _ _ ?_
  clear hG G
  simp [go_sem,ak,hL,aj hL,bR]
  exact ae (by simp [AV.deep];exact aL _) rfl
def cd (l:List Nat):List DV:=l.map fun (x:Nat)=>DV.int .u8 (x:Int)
theorem dJ (l:List Nat):(cd l).length=l.length:=by simp [cd]
theorem fP (l:List Nat):(cd l).map AV.d=cb l:=by simp [cd,cb]
def cF (ps:List (List Nat)):DV:=.ro 32 (ps.map cd)
def aB (inner:List Nat) (path script:AV):List AV:=cb inner ++ [path,script]
def dP (ps:List (List Nat)) (h:List Nat):List Nat:=ps.foldl aO h
def HV:List Nat:=[84,97,112,76,101,97,102]
def ct (x:List Nat):List Nat:=c6 HV (192 :: (aI x.length ++ x))
theorem ie (x:List Nat):(ct x).length=32:=cE _
theorem dQ (a b:List Nat):(aO a b).length=32:=cE _
theorem Nu:eH Tryz.prog 27=some (aB z32 .nil .nil):=by kernel_rfl
attribute [go_sem] Nu
theorem dr {l:List Nat} (h:l.length=32):List.drop 32 (cb l)=[]:=List.drop_eq_nil_of_le (by rw [am];omega)
theorem da {inner:List Nat} (hi:inner.length=32) (a b:AV):(cb inner ++ [a,b])[32]?=some a:=by
 rw [List.getElem?_append_right (by rw [am];omega),am,hi];rfl
theorem dV {inner:List Nat} (hi:inner.length=32) (a b:AV):(cb inner ++ [a,b])[33]?=some b:=by
 rw [List.getElem?_append_right (by rw [am];omega),am,hi];rfl
theorem rz {ps:List (List Nat)} {k:Nat} {p h:List Nat} (hk:ps[k]?=some p):dP (ps.drop k) h=dP (ps.drop (k+1)) (aO h p):=by
 obtain ⟨h1,h2⟩:=List.getElem?_eq_some_iff.1 hk
 unfold dP
 rw [List.drop_eq_getElem_cons h1,List.foldl_cons,h2]
theorem HW (inner:List Nat) (ps:List (List Nat)) (x:List Nat) (hi:inner.length=32) (hp32:∀ p,p ∈ ps→p.length=32) (hps:ps.length≤1000) (hx:x.length≤100000) :
  aq Tryz.prog 50 [.agg (aB inner (.d (cF ps)) (.d (nb x)))] (fun r=>r=.agg (cb (dP ps (ct x)))):=by
 refine aS Tryz.func50 Tryz.ntmps50 (rs:=[.cell 2 23]) (by
  simp [AV.deep,aB]
  intro c hc
  rcases hc with hc | rfl | rfl
  ·exact aL _ _ hc
  ·trivial
  ·trivial) ?_
 simp [go_sem,aB,dV hi]
 refine ab (pq x hx) (by simp [AV.deep,AV.deep1]) ?_
 have hL:(c6 [84,97,112,76,101,97,102] (192 :: (aI x.length ++ x))).length=32:=cE _
 have hR:dP ps (ct x)=dP (ps.drop 0) (c6 [84,97,112,76,101,97,102] (192 :: (aI x.length ++ x))):=by rw [List.drop_zero];rfl
 rw [hR]
 generalize c6 [84,97,112,76,101,97,102] (192 :: (aI x.length ++ x))=R at *
 generalize hT:dP (ps.drop 0) R=T
 clear hR
 simp [go_sem,da hi,cF,hL,aj hL,bR]
 refine au (fun t:Nat × List Nat=>⟨[(2,.ptr 32 0 0 1),(3,.ptr 160 0 0 1),(10,.d (cF ps)),(11,.d (.int .i64 (ps.length:Int))),(12,.d (.int .i64 (t.1:Int)))],[(32,⟨23,32,[cb z32]⟩),(160,⟨23,32,[cb t.2]⟩)],1000⟩)
  (fun t=>t.1≤ps.length∧t.2.length=32∧dP (ps.drop t.1) t.2=T) (fun t=>ps.length - t.1) (0,R) ⟨by omega,hL,hT⟩ (by
   simp [av,ag,fv,lk,AV.low,AV.low1,cF]
   exact ⟨aF _ _,aF _ _⟩) ?_
 rintro ⟨k,h⟩ ⟨hk,hh,hT'⟩
 simp only at hk hh hT'
 simp only [go_sem,Nat.reduceEqDiff,Nat.reduceAdd,Nat.reduceLT,↓reduceIte]
 refine ⟨fun hlt=>?_,fun hge=>?_⟩
 ·have hlt':k<ps.length:=by omega
  have hp:=List.getElem?_eq_getElem hlt'
  generalize ps[k]=p at hp
  have hpl:p.length=32:=hp32 p (List.mem_of_getElem? hp)
  rw [rz hp] at hT'
  simp [go_sem,cF,hp,dJ,hpl,fP,aj hpl,am,hh,aj hh,bR]
  refine ab (tp h p hh hpl) (by simp [AV.deep];exact ⟨aL _,aL _⟩) ?_
  have hB:=dQ h p
  generalize aO h p=B at *
  simp [go_sem,am,hB,hh,aj hB,dr hh]
  refine ai (k+1,B) ⟨by omega,hB,hT'⟩ (by omega) ?_
  have w:=ax (k:=k) (by omega)
  simp [av,ag,fv,lk,AV.low,AV.low1,cF,w]
  exact ⟨aF _ _,aF _ _⟩
 ·have hkn:k=ps.length:=by omega
  subst hkn
  have:T=h:=by rw [← hT',List.drop_length];rfl
  subst this
  simp [go_sem,ak,hh,aj hh,bR]
  exact ae (by simp [AV.deep];exact aL _) rfl
end Go.Proofs.YtldccnbokbieiaaGreat
namespace Go.Sha
def pF {α:Type}:Nat→(Nat→α)→α
 | 0,k=>k 0
 | n+1,k=>k (n+1)
theorem iE {α:Type} (n:Nat) (k:Nat→α):pF n k=k n:=by cases n <;> rfl
def P4 {α:Type} (s:S8) (k w:Nat) (C:S8→α):α:=pF (T1 s k w) fun t=>pF (fK t (T2 s)) fun x=>pF (fK s.d t) fun y=>C ⟨x,s.a,s.b,s.c,y,s.e,s.f,s.g⟩
theorem K6 {α:Type} (s:S8) (k w:Nat) (C:S8→α):P4 s k w C=C (rd s k w):=by simp only [P4,iE,rd]
def rA {α:Type}:List Nat→List Nat→S8→(S8→α)→α
 | k :: ks,w :: ws,s,C=>P4 s k w fun s'=>rA ks ws s' C
 | _,_,s,C=>C s
theorem x8 {α:Type}:∀ (ks ws:List Nat) (s:S8) (C:S8→α),rA ks ws s C=C ((ks.zip ws).foldl tf s)
 | [],_,s,C=>by simp [rA]
 | k :: ks,[],s,C=>by simp [rA]
 | k :: ks,w :: ws,s,C=>by simp only [rA,K6,x8 ks ws,List.zip_cons_cons,List.foldl_cons];rfl
def x9 {α:Type}:List Nat→(List Nat→α)→α
 | [],C=>C []
 | x :: r,C=>pF x fun y=>x9 r fun q=>C (y :: q)
theorem rB {α:Type}:∀ (l:List Nat) (C:List Nat→α),x9 l C=C l
 | [],C=>rfl
 | x :: r,C=>by simp only [x9,iE,rB r]
def OQ (l:List Nat):Nat :=
 fK (fK (fK (l.getD 15 0) (fV (fV (ku 25 (l.getD 14 0)) (ku 14 (l.getD 14 0))) (c7 3 (l.getD 14 0)))) (l.getD 6 0)) (fV (fV (ku 15 (l.getD 1 0)) (ku 13 (l.getD 1 0))) (c7 10 (l.getD 1 0)))
theorem nC (w:List Nat) (i:Nat) (h:i<w.length):w.reverse.getD i 0=w.getD (w.length - 1 - i) 0:=by
 rw [List.getD_eq_getElem?_getD,List.getD_eq_getElem?_getD,List.getElem?_reverse h]
theorem K7 (w:List Nat) (h:16≤w.length):OQ w.reverse=wx w:=by
 unfold OQ wx
 rw [nC w 15 (by omega),nC w 14 (by omega),nC w 6 (by omega),nC w 1 (by omega)]
 rw [show w.length - 1 - 15=w.length - 16 by omega,show w.length - 1 - 14=w.length - 15 by omega,show w.length - 1 - 6=w.length - 7 by omega,show w.length - 1 - 1=w.length - 2 by omega]
def HX {α:Type}:Nat→List Nat→(List Nat→α)→α
 | 0,l,C=>C l
 | n+1,l,C=>pF (OQ l) fun x=>HX n (x :: l) C
theorem A7 {α:Type} (b:List Nat):∀ (n m:Nat) (C:List Nat→α),HX n (ci b m).reverse C=C (ci b (m+n)).reverse
 | 0,m,C=>rfl
 | n+1,m,C=>by
  have h:OQ (ci b m).reverse :: (ci b m).reverse=(ci b (m+1)).reverse:=by
   rw [K7 _ (by rw [jz];omega)]
   simp [ci]
  simp only [HX,iE,h]
  rw [A7 b n (m+1) C,show m+1+n=m+(n+1) by omega]
def EL {α:Type} (s:S8) (b:List Nat) (C:S8→α):α :=
 x9 (fk b 16) fun q=>HX 48 q.reverse fun l=>rA K l.reverse s fun v=>C (pj s v)
theorem EM {α:Type} (s:S8) (b:List Nat) (C:S8→α):EL s b C=C (take s b):=by
 unfold EL
 rw [rB]
 have:=A7 b 48 0 (fun l=>rA K l.reverse s fun v=>C (pj s v))
 simp only [ci,Nat.zero_add] at this
 rw [this,List.reverse_reverse,x8]
 rfl
def OP:S8:=⟨2631984358,2081516601,951306994,3272560777,3555955564,1197698656,2108899050,3720802505⟩
end Go.Sha
namespace Go.Proofs.YtldccnbokbieiaaGreat
open Go.Am Go.Sha
theorem A8 (l:List Nat):bz .u8 (cb l)=some (l.map fun (x:Nat)=>(x:Int)):=by
 have:=xR .u8 (l.map fun (x:Nat)=>(x:Int))
 rw [List.map_map] at this
 exact this
theorem zO {a b:List Nat}:(a.map fun (x:Nat)=>(x:Int))=b.map (fun (x:Nat)=>(x:Int)) ↔ a=b:=by
 constructor
 ·intro h
  have:=congrArg (List.map Int.toNat) h
  simpa [List.map_map,Function.comp_def] using this
 ·rintro rfl;rfl
theorem tq {hp:Hp} {I:Nat→Prop} {a a':List AV}:∀ (l:List AV),(∀ c,c ∈ l→c.deep1)→(∀ (i:Nat) (c c':AV),a[i]?=some c→a'[i]?=some c'→gS hp I c c')→∀ (i:Nat) (c c':AV),(l ++ a)[i]?=some c→(l ++ a')[i]?=some c'→gS hp I c c'
 | [],_,h=>h
 | x :: l,hl,h=>aG (cf (hl x (List.mem_cons_self ..))) (tq l (fun c hc=>hl c (List.mem_cons_of_mem _ hc)) h)
theorem OR (l:List Nat):∀ c,c ∈ cb l→c.flat1:=by
 intro c hc
 simp only [cb,List.mem_map] at hc
 obtain ⟨x,_,rfl⟩:=hc
 trivial
theorem nD:∀ (x y:List UInt8),(0<Lib.compareBytes x y ↔ Lib.compareBytes y x<0)∧(Lib.compareBytes x y=0→x=y)
 | [],[]=>by simp [Lib.compareBytes]
 | [],_ :: _=>by simp [Lib.compareBytes]
 | _ :: _,[]=>by simp [Lib.compareBytes]
 | a :: x,b :: y=>by
  have ih:=nD x y
  simp only [Lib.compareBytes]
  by_cases h1:a<b
  ·have h2:¬ b<a:=fun h=>by
    have:=UInt8.lt_iff_toNat_lt.1 h
    have:=UInt8.lt_iff_toNat_lt.1 h1
    omega
   simp [h1,h2]
  ·by_cases h2:b<a
   ·simp [h1,h2]
   ·have:a=b:=UInt8.toNat_inj.1 (by
     have e1:¬ a.toNat<b.toNat:=fun h=>h1 (UInt8.lt_iff_toNat_lt.2 h)
     have e2:¬ b.toNat<a.toNat:=fun h=>h2 (UInt8.lt_iff_toNat_lt.2 h)
     omega)
    subst this
    simp only [h1,if_false]
    exact ⟨ih.1,fun h=>by rw [ih.2 h]⟩
def bytes (l:List Nat):Prop:=∀ x,x ∈ l→x<256
theorem uU:∀ {a b:List Nat},bytes a→bytes b→fO a=fO b→a=b
 | [],[],_,_,_=>rfl
 | [],_ :: _,_,_,h=>by simp [fO,Lib.bytesOf] at h
 | _ :: _,[],_,_,h=>by simp [fO,Lib.bytesOf] at h
 | x :: a,y :: b,ha,hb,h=>by
  have hx:=ha x (List.mem_cons_self ..)
  have hy:=hb y (List.mem_cons_self ..)
  simp [fO,Lib.bytesOf] at h
  obtain ⟨h1,h2⟩:=h
  have:=uU (fun z hz=>ha z (List.mem_cons_of_mem _ hz)) (fun z hz=>hb z (List.mem_cons_of_mem _ hz)) (by simpa [fO,Lib.bytesOf] using h2)
  have e:x=y:=by
   have:=congrArg UInt8.toNat h1
   rw [UInt8.toNat_ofNat',UInt8.toNat_ofNat',Nat.mod_eq_of_lt (by omega),Nat.mod_eq_of_lt (by omega)] at this
   exact this
  rw [this,e]
theorem uV {a b:List Nat} (ha:bytes a) (hb:bytes b):aO a b=aO b a:=by
 unfold aO
 obtain ⟨h1,h2⟩:=nD (fO a) (fO b)
 obtain ⟨h3,h4⟩:=nD (fO b) (fO a)
 by_cases c1:0<Lib.compareBytes (fO a) (fO b)
 ·have c2:¬ 0<Lib.compareBytes (fO b) (fO a):=by have:=h1.1 c1;omega
  rw [if_pos c1,if_neg c2]
 ·by_cases c2:0<Lib.compareBytes (fO b) (fO a)
  ·rw [if_neg c1,if_pos c2]
  ·have h0:Lib.compareBytes (fO a) (fO b)=0:=by
    have:¬ Lib.compareBytes (fO a) (fO b)<0:=fun h=>c2 (h3.2 h)
    omega
   have:=uU ha hb (h2 h0)
   subst this
   rfl
theorem Cu {inner:List Nat} {a b:AV} (ha:a.deep1) (hb:b.deep1):(AV.agg (aB inner a b)).deep:=by
 intro c hc
 simp only [aB,List.mem_append,List.mem_cons,List.mem_nil_iff,or_false] at hc
 rcases hc with hc | rfl | rfl
 ·exact aL _ _ hc
 ·exact ha
 ·exact hb
theorem fQ (l:List Nat):(AV.agg (cb l)).deep:=aL l
theorem ya {n:Nat}:∀ (m:Nat) {ds:List DV},Cj (mf Tryz.prog (n+1)) Tryz.prog.cellsOf (List.replicate m 5) ds→∃ l:List Nat,ds=cd l∧l.length=m∧bytes l
 | 0,ds,h=>⟨[],by simpa [Cj,cd] using h,rfl,fun _ h=>by simp at h⟩
 | m+1,ds,h=>by
  rw [List.replicate_succ] at h
  obtain ⟨a,b,rfl,_,h2,h3⟩:=h
  simp only [mf,Tryz.underlying5] at h2
  obtain ⟨x,rfl,hx⟩:=h2
  obtain ⟨l,rfl,hl,hb⟩:=ya m h3
  have hx':0≤x∧x<256:=by simp [IntKind.has,IntKind.min,IntKind.max,IntKind.signed,IntKind.bits] at hx;omega
  refine ⟨x.toNat :: l,?_,by simp [hl],fun y hy=>?_⟩
  ·simp only [cd,List.map_cons,List.cons_append,List.nil_append]
   rw [show ((x.toNat:Nat):Int)=x by omega]
  ·rcases List.mem_cons.1 hy with rfl | hy
   ·omega
   ·exact hb y hy
theorem zP {n:Nat} {ds:List DV} (h:mf Tryz.prog (n+2) 23 ds):∃ l:List Nat,ds=cd l∧l.length=32∧bytes l:=by
 rw [mf] at h
 simp only [Tryz.underlying23] at h
 exact ya 32 h
theorem HY {n:Nat} {a:AV} (h:rn Tryz.prog (n+2) 23 a):∃ l:List Nat,a=.agg (cb l)∧l.length=32∧bytes l:=by
 unfold rn at h
 simp only [Tryz.underlying23] at h
 obtain ⟨ds,rfl,h⟩:=h
 obtain ⟨l,rfl,h1,h2⟩:=zP h
 exact ⟨l,by rw [fP],h1,h2⟩
theorem EN {n:Nat} {d:DV} (h:mf Tryz.prog (n+2) 22 [d]):∃ bs:List Nat,d=nb bs∧bs.length≤maxLen∧bytes bs:=by
 simp only [mf,Tryz.underlying22,List.cons.injEq,and_true] at h
 obtain ⟨es,rfl,hl,hr⟩:=h
 obtain ⟨bs,rfl,hbs⟩:=Ey (enc:=fun b:Nat=>[DV.int .u8 (b:Int)]) (R:=fun b=>b<256) (es:=es) (fun r hr'=>by
  obtain ⟨h1,h2⟩:=hr r hr'
  simp only [Tryz.underlying5] at h1
  obtain ⟨x,rfl,hx⟩:=h1
  have hx':0≤x∧x<256:=by simp [IntKind.has,IntKind.min,IntKind.max,IntKind.signed,IntKind.bits] at hx;omega
  exact ⟨x.toNat,by rw [show ((x.toNat:Nat):Int)=x by omega],by omega⟩)
 exact ⟨bs,by rw [show Tryz.prog.cellsOf 5=1 by kernel_rfl];rfl,by simpa using hl,hbs⟩
end Go.Proofs.YtldccnbokbieiaaGreat
namespace Go.Sha
open Go.Am
def yb (n x:Nat):Nat:=Cl (c7 n x) (Cm (32 - n) x)
theorem gt {n x:Nat} (h:n≤32):yb n x=ku (32 - n) x:=by
 unfold yb ku Cl
 rw [Nat.or_comm,show 32 - (32 - n)=n by omega]
theorem EO (a b:Nat):fK a b=fK b a:=by unfold fK;rw [Nat.add_comm]
theorem Nv (e:Nat):fV e 4294967295=c32 e:=by unfold fV c32;rw [Nat.xor_comm]
theorem Nw {x i c:Nat} (h:c<2 ^ i):x*2 ^ i ||| c=x*2 ^ i+c:=by
 rw [← Nat.shiftLeft_eq,Nat.shiftLeft_add_eq_or_of_lt h]
def EP (a b c d:Nat):Nat:=Cl (Cl (Cl (Cm 24 (pi a)) (Cm 16 (pi b))) (Cm 8 (pi c))) (pi d)
theorem uW {x i c:Nat} (hx:x*2 ^ i+c<4294967296) (h:c<2 ^ i):Cl (x*2 ^ i) c=x*2 ^ i+c:=by
 unfold Cl
 rw [Nw h,Nat.mod_eq_of_lt hx]
theorem rD {x:Nat} (h:x<4294967296):pi x=x:=Nat.mod_eq_of_lt h
theorem uX {x i:Nat} (h:x*2 ^ i<4294967296):Cm i x=x*2 ^ i:=Nat.mod_eq_of_lt h
theorem o8 {x y:Nat} (hx:x<16777216) (hy:y<256):Cl (Cm 8 x) (pi y)=x*256+y:=by
 rw [rD (by omega),uX (by omega),uW (by omega) (by omega)]
theorem EQ {a b c d:Nat} (ha:a<256) (hb:b<256) (hc:c<256) (hd:d<256):EP a b c d=kv [a,b,c,d]:=by
 have r:kv [a,b,c,d]=((a*256+b)*256+c)*256+d:=by
  unfold kv
  simp only [List.foldl_cons,List.foldl_nil]
  rw [o8 (by omega) ha,o8 (by omega) hb,o8 (by omega) hc,o8 (by omega) hd]
  omega
 rw [r]
 unfold EP
 rw [rD (by omega:a<4294967296),rD (by omega:b<4294967296),rD (by omega:c<4294967296),rD (by omega:d<4294967296),uX (by omega),uX (by omega),uX (by omega)]
 rw [uW (by omega) (by omega)]
 rw [show a*2 ^ 24+b*2 ^ 16=(a*2 ^ 8+b)*2 ^ 16 by omega]
 rw [uW (by omega) (by omega)]
 rw [show (a*2 ^ 8+b)*2 ^ 16+c*2 ^ 8=((a*2 ^ 8+b)*2 ^ 8+c)*2 ^ 8 by omega]
 rw [uW (by omega) (by omega)]
def OS (w:List Nat):Nat :=
 let t:=w.length
 let x:=w.getD (t - 15) 0
 let y:=w.getD (t - 2) 0
 let s0:=fV (fV (yb 7 x) (yb 18 x)) (c7 3 x)
 let s1:=fV (fV (yb 17 y) (yb 19 y)) (c7 10 y)
 fK (fK (fK s1 (w.getD (t - 7) 0)) s0) (w.getD (t - 16) 0)
theorem K8 (w:List Nat):OS w=wx w:=by
 unfold OS wx
 simp only [gt (show 7≤32 by omega),gt (show 18≤32 by omega),gt (show 17≤32 by omega),gt (show 19≤32 by omega)]
 generalize fV (fV (ku (32 - 7) (w.getD (w.length - 15) 0)) (ku (32 - 18) (w.getD (w.length - 15) 0))) (c7 3 (w.getD (w.length - 15) 0))=s0
 generalize fV (fV (ku (32 - 17) (w.getD (w.length - 2) 0)) (ku (32 - 19) (w.getD (w.length - 2) 0))) (c7 10 (w.getD (w.length - 2) 0))=s1
 unfold fK
 omega
def nW (b:List Nat) (t:Nat):List Nat:=if t≤16 then fk b t else ci b (t - 16)
theorem HZ (b:List Nat) (t:Nat):(nW b t).length=t:=by
 unfold nW
 split
 ·exact jW b t
 ·rw [jz];omega
theorem K9 {b:List Nat} {t:Nat} (h:t<16):nW b (t+1)=nW b t ++ [kv ((b.take (4*t+4)).drop (4*t))]:=by
 unfold nW
 rw [if_pos (by omega),if_pos (by omega)]
 rfl
theorem Lc {b:List Nat} {t:Nat} (h:16≤t):nW b (t+1)=nW b t ++ [wx (nW b t)]:=by
 have e:nW b t=ci b (t - 16):=by
  unfold nW
  split
  ·have:t=16:=by omega
   subst this
   rfl
  ·rfl
 rw [e]
 unfold nW
 rw [if_neg (by omega),show t+1 - 16=(t - 16)+1 by omega]
 rfl
theorem H1 (b:List Nat):nW b 64=jA b:=rfl
theorem tt {a:List Nat} (ha:a.length % 64=0):∀ (n:Nat) (l:List Nat),Go.Proofs.YtldccnbokbieiaaGreat.padTo n (a ++ l)=a ++ Go.Proofs.YtldccnbokbieiaaGreat.padTo n l
 | 0,l=>rfl
 | n+1,l=>by
  unfold Go.Proofs.YtldccnbokbieiaaGreat.padTo
  have:(a ++ l).length % 64=l.length % 64:=by rw [List.length_append];omega
  rw [this]
  split
  ·rfl
  ·rw [List.append_assoc]
   exact tt ha n (l ++ [0])
theorem zQ {a l:List Nat} (ha:a.length % 64=0) (n:Nat):Go.Proofs.YtldccnbokbieiaaGreat.lastOf (a ++ l) n=a ++ Go.Proofs.YtldccnbokbieiaaGreat.lastOf l n:=by
 unfold Go.Proofs.YtldccnbokbieiaaGreat.lastOf
 rw [List.append_assoc,tt ha,List.append_assoc]
theorem zR (n:Nat):∀ (k:Nat) (s:S8) (b:List Nat),b.length≤k→E s (Go.Proofs.YtldccnbokbieiaaGreat.lastOf b n)=E (E s b).1 (Go.Proofs.YtldccnbokbieiaaGreat.lastOf (E s b).2 n)
 | 0,s,b,h=>by rw [kU (b:=b) (by omega)]
 | k+1,s,b,h=>by
  by_cases h64:64≤b.length
  ·rw [mO (b:=b) h64]
   have e:Go.Proofs.YtldccnbokbieiaaGreat.lastOf b n=b.take 64 ++ Go.Proofs.YtldccnbokbieiaaGreat.lastOf (b.drop 64) n:=by
    rw [← zQ (by rw [List.length_take];omega),List.take_append_drop]
   have h3:64≤(b.take 64 ++ Go.Proofs.YtldccnbokbieiaaGreat.lastOf (b.drop 64) n).length:=by simp;omega
   rw [e,mO h3]
   have hl:(b.take 64).length=64:=by rw [List.length_take];omega
   rw [List.take_append_of_le_length (by omega),List.drop_append_of_le_length (by omega),List.take_of_length_le (by omega:(b.take 64).length≤64),List.drop_eq_nil_of_le (by omega),List.nil_append]
   exact zR n k _ _ (by rw [List.length_drop];omega)
  ·rw [kU (b:=b) (by omega)]
theorem zS (b:List Nat):dU b=wr (E H0 (Go.Proofs.YtldccnbokbieiaaGreat.lastOf b b.length)).1:=by
 unfold dU oI
 rw [zR b.length b.length H0 b (Nat.le_refl _)]
def jY (h:List Nat):Nat→List Nat→List Nat
 | 0,v=>v
 | i+1,v=>(jY h i v).set i (fK ((jY h i v).getD i 0) (h.getD i 0))
theorem yc (h:List Nat) (v:List Nat):∀ i,(jY h i v).length=v.length
 | 0=>rfl
 | i+1=>by simp [jY,yc h v i]
theorem ER (s v:S8):jY s.l 8 v.l=(pj s v).l:=by
 simp [jY,S8.l,pj,EO]
end Go.Sha
namespace Go.Proofs.YtldccnbokbieiaaGreat
open Go.Am Go.Sha
def nw (l:List Nat):DV:=.ro 1 (l.map fun (x:Nat)=>[.int .u32 (x:Int)])
def pG (l:List Nat):List (List AV):=l.map fun (x:Nat)=>[.d (.int .u32 (x:Int))]
theorem nE (l:List Nat):(pG l).length=l.length:=by simp [pG]
theorem jZ (n:Nat) (l:List Nat):∀ r,r ∈ pG l→∀ v,v ∈ r→v.low1 n:=by
 intro r hr v hv
 simp only [pG,List.mem_map] at hr
 obtain ⟨x,_,rfl⟩:=hr
 simp at hv
 subst hv
 trivial
theorem yd (a:List Nat) (x:Nat):pG a ++ [[AV.d (.int .u32 (x:Int))]]=pG (a ++ [x]):=by simp [pG]
theorem Ld (a:List Nat):List.map ((fun r=>List.map AV.d r) ∘ fun (x:Nat)=>[DV.int .u32 (x:Int)]) a=pG a:=by simp [pG]
theorem uY (l:List Nat) (i:Nat):(pG l)[i]?=(l[i]?).map fun (x:Nat)=>[AV.d (.int .u32 (x:Int))]:=by simp [pG]
theorem H2 (l:List Nat) (i x:Nat):(pG l).set i [.d (.int .u32 (x:Int))]=pG (l.set i x):=by simp [pG,List.map_set]
theorem H3 (l:List Nat):pG l=(l.map fun (x:Nat)=>[DV.int .u32 (x:Int)]).map fun r=>r.map .d:=by simp [pG]
theorem ye {hp:Hp} {I:Nat→Prop} {id:Nat} {L:List Nat} (hb:lk id hp=some ⟨53,1,pG L⟩) (hI:I id):SnapD hp I (.own id 0 L.length L.length) (nw L):=by
 rw [H3] at hb
 exact cq hb hI (by simp) (fun r hr=>by
  rw [List.mem_map] at hr
  obtain ⟨x,_,rfl⟩:=hr
  rfl)
theorem rE {Q:AV→Prop} {st:St} {id:Nat} {L:List Nat} (hb:lk id st.hp=some ⟨53,1,pG L⟩) (hq:Q (.d (nw L))):dW Q (.own id 0 L.length L.length) st :=
 ca (aw (ye hb trivial)) trivial hq
theorem gv (x n:Nat) (m:Int) (hm:m=(n:Int)) (h:n≤32):aq Tryz.prog 196 [.d (.int .u32 (x:Int)),.d (.int .u64 m)] (fun r=>r=.d (.int .u32 ((yb n x:Nat):Int))):=by
 subst hm
 refine aS Tryz.func196 Tryz.ntmps196 (rs:=[.tmp 4]) (by simp [AV.deep,AV.deep1]) ?_
 have w1:IntKind.u64.wrap (32 - (n:Int))=((32 - n:Nat):Int):=by rw [fU];omega
 have m1:min n 32=n:=by omega
 have m2:min (32 - n) 32=32 - n:=by omega
 simp [go_sem,w1,IntKind.bits,m1,m2,Jc,Ja,HO,ak]
 exact ae (by simp [AV.deep,AV.deep1]) rfl
theorem Cv:aq Tryz.prog 151 [] (fun r=>r=.d (nw K)):=by
 refine aS Tryz.func151 Tryz.ntmps151 (rs:=[.tmp 0]) (by simp) ?_
 simp [go_sem,ak]
 exact rE (L:=K) (by kernel_rfl) rfl
theorem Cw (b:List Nat) (hb:b.length≤100000000000):aq Tryz.prog 152 [.d (nb b)] (fun r=>r=.d (nb (lastOf b b.length))):=by
 refine aS Tryz.func152 Tryz.ntmps152 (rs:=[.tmp 2]) (by simp [AV.deep,AV.deep1]) ?_
 simp [go_sem,nb,cB,mM,aC]
 refine ⟨by omega,by omega,?_⟩
 refine au (fun l:List Nat=>⟨[(0,.d (nb b)),(3,.own 32 0 l.length l.length)],[(32,⟨5,1,rb l⟩)],288⟩)
  (fun l=>l.length≤100000000000+65∧∃ k,(120 - l.length % 64) % 64≤k∧(k+l.length≤100000000000+65)∧padTo k l=padTo 64 (b ++ [128])) (fun l=>(120 - l.length % 64) % 64) (b ++ [128]) ⟨by simp;omega,64,by omega,by simp;omega,rfl⟩ (by
   simp [av,ag,fv,lk,AV.low,AV.low1,nb]
   exact aV _ _) ?_
 rintro l ⟨hl1,k,hk,hk2,hP⟩
 have em:Int.tmod (l.length:Int) 64=((l.length % 64:Nat):Int):=zL _
 simp only [go_sem,Nat.reduceEqDiff,Nat.reduceAdd,Nat.reduceLT,↓reduceIte,em]
 refine ⟨by decide,fun h=>?_,fun h=>?_⟩
 ·have h56:l.length % 64 ≠ 56:=by omega
  rw [mL h56 (by omega)] at hP
  refine ⟨by decide,aC l,by omega,?_⟩
  rw [rx]
  refine ai (l ++ [0]) ⟨by simp;omega,k - 1,by simp;omega,by simp;omega,hP⟩ (by simp;omega) ?_
  simp [av,ag,fv,lk,AV.low,AV.low1,nb]
  exact aV _ _
 ·have h56:l.length % 64=56:=by omega
  rw [oH h56] at hP
  have hm8:IntKind.u64.wrap (IntKind.u64.wrap (b.length:Int)*8)=((b.length*8 % 18446744073709551616:Nat):Int):=by rw [fU,fU];omega
  simp only [go_sem,Nat.reduceEqDiff,Nat.reduceAdd,Nat.reduceLT,↓reduceIte,nb,hm8]
  have hm:lastOf b b.length=l ++ len8 (b.length*8 % 18446744073709551616) 8:=by unfold lastOf;rw [← hP]
  rw [hm]
  generalize b.length*8 % 18446744073709551616=m
  clear hm hm8 hP hk hk2
  refine au (fun j:Nat=>⟨[(3,.own 32 0 (l ++ len8 m j).length (l ++ len8 m j).length),(4,.d (.int .u64 (m:Int))),(5,.d (.int .i64 (j:Int)))],[(32,⟨5,1,rb (l ++ len8 m j)⟩)],800⟩)
   (fun j=>j≤8) (fun j=>8 - j) 0 (by omega) (by
    simp [av,ag,fv,lk,AV.low,AV.low1,len8]
    exact aV _ _) ?_
  intro j hj
  have hll:(l ++ len8 m j).length=l.length+j:=by rw [List.length_append,len8_len]
  simp only [go_sem,Nat.reduceEqDiff,Nat.reduceAdd,Nat.reduceLT,↓reduceIte]
  refine ⟨fun h=>?_,fun h=>?_⟩
  ·have hj7:j≤7:=by omega
   have w1:IntKind.i64.wrap (8*(j:Int))=((8*j:Nat):Int):=by rw [IntWalk.i64_in _ (by omega)];omega
   have w2:IntKind.i64.wrap (56 - ((8*j:Nat):Int))=((56 - 8*j:Nat):Int):=by rw [IntWalk.i64_in _ (by omega)];omega
   have w3:IntKind.u64.wrap ((56 - 8*j:Nat):Int)=((56 - 8*j:Nat):Int):=by rw [fU];omega
   have w4:min (56 - 8*j) 64=56 - 8*j:=by omega
   have w5:=ax (k:=j) (by omega)
   have es:rb (l ++ len8 m j) ++ [[AV.d (.int .u8 ((t8 (c7 (56 - 8*j) m):Nat):Int))]]=rb (l ++ len8 m (j+1)):=by rw [ee,List.append_assoc];rfl
   simp only [go_sem,Nat.reduceEqDiff,Nat.reduceAdd,Nat.reduceLT,↓reduceIte,IntKind.bits,w1,w2,w3,w4,Jc,cm,es,aC,w5]
   refine ⟨by omega,by have:=len8_len m j;omega,?_⟩
   refine ai (j+1) (by omega) (by omega) ?_
   have hl8:(len8 m (j+1)).length=(len8 m j).length+1:=by rw [len8_len,len8_len]
   simp [av,ag,fv,lk,AV.low,AV.low1,hl8]
   exact ⟨by omega,aV _ _⟩
  ·have hj8:j=8:=by omega
   subst hj8
   rw [← List.length_append]
   exact gc (id:=32) (L:=l ++ len8 m 8) rfl rfl
theorem Nx (a:Nat):IntKind.u32.wrap ((a:Int)*65536)=((Cm 16 a:Nat):Int):=AX a 65536
theorem Ny (a:Nat):IntKind.u32.wrap ((a:Int)*16777216)=((Cm 24 a:Nat):Int):=AX a 16777216
theorem Le (a:Nat):bits .xor .u32 (a:Int) 4294967295=((c32 a:Nat):Int):=(dg a 4294967295).trans (by rw [Nv])
theorem four {b:List Nat} {k:Nat} (h:k+4≤b.length):∃ x0 x1 x2 x3,b[k]?=some x0∧b[k+1]?=some x1∧b[k+2]?=some x2∧b[k+3]?=some x3∧(b.take (k+4)).drop k=[x0,x1,x2,x3]:=by
 refine ⟨b[k],b[k+1],b[k+2],b[k+3],List.getElem?_eq_getElem _,List.getElem?_eq_getElem _,List.getElem?_eq_getElem _,List.getElem?_eq_getElem _,?_⟩
 rw [List.drop_take,show k+4 - k=4 by omega,List.drop_eq_getElem_cons (by omega:k<b.length),List.drop_eq_getElem_cons (by omega:k+1<b.length),List.drop_eq_getElem_cons (by omega:k+1+1<b.length),List.drop_eq_getElem_cons (by omega:k+1+1+1<b.length)]
 rfl
theorem Cx (s:S8) (b:List Nat) (hb:b.length=64) (hby:∀ x,x ∈ b→x<256):aq Tryz.prog 153 [.d (nw s.l),.d (nw K),.d (nb b)] (fun r=>r=.d (nw (Go.Sha.take s b).l)):=by
 refine aS Tryz.func153 Tryz.ntmps153 (rs:=[.tmp 6]) (by simp [AV.deep,AV.deep1]) ?_
 simp only [go_sem,Nat.reduceEqDiff,Nat.reduceAdd,Nat.reduceLT,↓reduceIte,Nat.reduceMul]
 refine ⟨by omega,?_⟩
 refine au (fun t:Nat=>⟨[(0,.d (nw s.l)),(1,.d (nw K)),(2,.d (nb b)),(7,.own 32 0 t t),(8,.d (.int .i64 (t:Int)))],[(32,⟨53,1,pG (nW b t)⟩)],128⟩)
  (fun t=>t≤64) (fun t=>64 - t) 0 (by omega) (by
   simp [av,ag,fv,lk,AV.low,AV.low1,nw,nb]
   exact ⟨rfl,jZ _ _⟩) ?_
 intro t ht
 have hwl:=HZ b t
 simp only [go_sem,Nat.reduceEqDiff,Nat.reduceAdd,Nat.reduceLT,↓reduceIte,Nat.reduceMul]
 refine ⟨fun h=>?_,fun h=>?_⟩
 ·by_cases h16:t<16
  ·have i16:(t:Int)<16:=by omega
   obtain ⟨x0,x1,x2,x3,g0,g1,g2,g3,g4⟩:=four (b:=b) (k:=4*t) (by omega)
   have hw4:=EQ (hby x0 (List.mem_of_getElem? g0)) (hby x1 (List.mem_of_getElem? g1)) (hby x2 (List.mem_of_getElem? g2)) (hby x3 (List.mem_of_getElem? g3))
   rw [← g4] at hw4
   have hst:=K9 (b:=b) h16
   rw [← hw4] at hst
   unfold EP at hst
   have w1:IntKind.i64.wrap (4*(t:Int))=((4*t:Nat):Int):=by rw [IntWalk.i64_in _ (by omega)];omega
   have w2:IntKind.i64.wrap (((4*t:Nat):Int)+1)=((4*t+1:Nat):Int):=by rw [IntWalk.i64_in _ (by omega)];omega
   have w3:IntKind.i64.wrap (((4*t:Nat):Int)+2)=((4*t+2:Nat):Int):=by rw [IntWalk.i64_in _ (by omega)];omega
   have w4:IntKind.i64.wrap (((4*t:Nat):Int)+3)=((4*t+3:Nat):Int):=by rw [IntWalk.i64_in _ (by omega)];omega
   generalize 4*t=q at *
   generalize q+1=q1 at g1 w2
   generalize q+2=q2 at g2 w3
   generalize q+3=q3 at g3 w4
   simp [go_sem,i16]
   refine bk [0,1,2,3,4,5,6,7,8,9,10,11,12,13,14,15,16,17,18,19,20,21,22,23,24,25,26,27,28,29,30,31,32,33] [(34,[]),(35,[]),(36,[])] 1 (k:=37) ?_
   intro G hG
   simp [go_sem,nb,w1,w2,w3,w4,g0,g1,g2,g3,IntKind.bits,te,Nn,Nx,Ny,HO]
   rw [yd,← hst]
   refine ⟨nE _ ▸ hwl,by omega,hG _ _ ?_⟩
   clear hG G
   have w5:=ax (k:=t) (by omega)
   simp [go_sem,w5]
   refine ai (t+1) (by omega) (by omega) ?_
   simp [av,ag,fv,lk,AV.low,AV.low1,nw,nb]
   exact jZ _ _
  ·have i16:¬ (t:Int)<16:=by omega
   have w1:IntKind.i64.wrap ((t:Int) - 15)=((t - 15:Nat):Int):=by rw [IntWalk.i64_in _ (by omega)];omega
   have w2:IntKind.i64.wrap ((t:Int) - 2)=((t - 2:Nat):Int):=by rw [IntWalk.i64_in _ (by omega)];omega
   have w3:IntKind.i64.wrap ((t:Int) - 7)=((t - 7:Nat):Int):=by rw [IntWalk.i64_in _ (by omega)];omega
   have w4:IntKind.i64.wrap ((t:Int) - 16)=((t - 16:Nat):Int):=by rw [IntWalk.i64_in _ (by omega)];omega
   have hst:=Lc (b:=b) (t:=t) (by omega)
   have hx2:OS (nW b t)=fK (fK (fK (fV (fV (yb 17 ((nW b t).getD (t - 2) 0)) (yb 19 ((nW b t).getD (t - 2) 0))) (c7 10 ((nW b t).getD (t - 2) 0))) ((nW b t).getD (t - 7) 0)) (fV (fV (yb 7 ((nW b t).getD (t - 15) 0)) (yb 18 ((nW b t).getD (t - 15) 0))) (c7 3 ((nW b t).getD (t - 15) 0)))) ((nW b t).getD (t - 16) 0):=by
    unfold OS
    rw [hwl]
   rw [← K8,hx2] at hst
   clear hx2
   have gg:∀ i,i<t→(nW b t)[i]?=some ((nW b t).getD i 0):=fun i hi=>by
    rw [List.getD_eq_getElem?_getD,List.getElem?_eq_getElem (by omega)];rfl
   have g15:=gg (t - 15) (by omega)
   have g2:=gg (t - 2) (by omega)
   have g7:=gg (t - 7) (by omega)
   have g16:=gg (t - 16) (by omega)
   clear gg
   generalize (nW b t).getD (t - 15) 0=x at g15 hst
   generalize (nW b t).getD (t - 2) 0=y at g2 hst
   generalize (nW b t).getD (t - 7) 0=u at g7 hst
   generalize (nW b t).getD (t - 16) 0=v at g16 hst
   have o15:((t - 15:Nat):Int)<(t:Int):=by omega
   have o2:((t - 2:Nat):Int)<(t:Int):=by omega
   have o7:((t - 7:Nat):Int)<(t:Int):=by omega
   have o16:((t - 16:Nat):Int)<(t:Int):=by omega
   generalize t - 15=t15 at *
   generalize t - 2=t2 at *
   generalize t - 7=t7 at *
   generalize t - 16=CW at *
   simp [go_sem,i16]
   refine bk [0,1,2,3,4,5,6,7,8,9,10,11] [] 0 (k:=12) ?_
   intro G hG
   simp [go_sem,w1,w2,uY,nE,hwl,g15,g2]
   refine ⟨by omega,by omega,hG _ _ ?_⟩
   clear hG G
   simp [go_sem]
   refine ab (gv x 7 7 rfl (by omega)) (by simp [AV.deep,AV.deep1]) ?_
   simp [go_sem]
   refine ab (gv x 18 18 rfl (by omega)) (by simp [AV.deep,AV.deep1]) ?_
   simp [go_sem,dg,IntKind.bits,Np]
   refine ab (gv y 17 17 rfl (by omega)) (by simp [AV.deep,AV.deep1]) ?_
   simp [go_sem]
   refine ab (gv y 19 19 rfl (by omega)) (by simp [AV.deep,AV.deep1]) ?_
   simp [go_sem,dg,IntKind.bits,Jd]
   refine bk [0,1,2,3,4,5,6,7,8,9,10,11,12,13,14,15] [(16,[]),(17,[]),(18,[])] 1 (k:=19) ?_
   intro G hG
   simp [go_sem,w3,w4,uY,nE,hwl,g7,g16,cY]
   rw [yd,← hst]
   refine ⟨by omega,by omega,by omega,hG _ _ ?_⟩
   clear hG G
   have w5:=ax (k:=t) (by omega)
   simp [go_sem,w5]
   refine ai (t+1) (by omega) (by omega) ?_
   simp [av,ag,fv,lk,AV.low,AV.low1,nw,nb]
   exact jZ _ _
 ·have ht64:t=64:=by omega
  subst ht64
  rw [H1] at *
  unfold Go.Sha.take uQ
  generalize hR:kn tf 0 (K.zip (jA b)) s=R
  have hzl:(K.zip (jA b)).length=64:=by rw [List.length_zip,lM,pn];rfl
  generalize jA b=ws at *
  simp [go_sem,nw,Ld]
  refine ⟨by simp [nE,S8.l],?_⟩
  refine au (fun t:Nat × S8=>⟨[(0,.d (nw s.l)),(1,.d (nw K)),(7,.own 32 0 64 64),(13,.own 192 0 8 8),(14,.d (.int .i64 (t.1:Int)))],[(32,⟨53,1,pG ws⟩),(192,⟨53,1,pG t.2.l⟩)],3000⟩)
   (fun t=>t.1≤64∧kn tf t.1 (K.zip ws) t.2=R) (fun t=>64 - t.1) (0,s) ⟨by omega,hR⟩ (by
    simp [av,ag,fv,lk,AV.low,AV.low1,nw]
    exact ⟨rfl,jZ _ _,jZ _ _⟩) ?_
  clear hR
  rintro ⟨t,v⟩ ⟨ht,hR⟩
  simp only at ht hR
  simp only [go_sem,Nat.reduceEqDiff,Nat.reduceAdd,Nat.reduceLT,↓reduceIte,Nat.reduceMul]
  refine ⟨fun h=>?_,fun h=>?_⟩
  ·obtain ⟨k,hk,_⟩:=cN (l:=K) (k:=t) (by rw [pn];omega)
   obtain ⟨w,hw,_⟩:=cN (l:=ws) (k:=t) (by omega)
   have hz:(K.zip ws)[t]?=some (k,w):=by rw [List.getElem?_zip_eq_some];exact ⟨hk,hw⟩
   rw [mK tf hz] at hR
   refine bk [0,1,2,3,4,5,6,7,8,9,10,11] [] 0 (k:=12) ?_
   intro G hG
   simp [go_sem,pG,S8.l]
   refine hG _ _ ?_
   clear hG G
   simp [go_sem]
   refine bk [0,1,2,3,5,8,12,13,14,15,16,17,18,19,20,21,22,23,25,26,27,28,30,31,32,33] [(4,[]),(6,[7]),(9,[10,11,24,29,34,35])] 3 (k:=36) ?_
   intro G hG
   simp [go_sem,nw,hk,hw,dg,ed,Le,cY]
   refine ⟨by omega,hwl,?_⟩
   refine ab (gv v.e 6 6 rfl (by omega)) (by simp [AV.deep,AV.deep1]) ?_
   simp [go_sem,dg,ed,cY]
   refine ab (gv v.e 11 11 rfl (by omega)) (by simp [AV.deep,AV.deep1]) ?_
   simp [go_sem,dg,ed,cY]
   refine ab (gv v.e 25 25 rfl (by omega)) (by simp [AV.deep,AV.deep1]) ?_
   simp [go_sem,dg,ed,cY]
   have hT1:fK (fK (fK (fK v.h (fV (fV (yb 6 v.e) (yb 11 v.e)) (yb 25 v.e))) (fV (r9 v.e v.f) (r9 (c32 v.e) v.g))) k) w=T1 v k w:=by
    rw [gt (by omega),gt (by omega),gt (by omega)]
    unfold T1;with_reducible rfl
   rw [hT1]
   refine hG _ _ ?_
   clear hG G
   simp [go_sem]
   refine bk [0,2,5,8,9,10,11,12,13,14,15,16,17,18,19,20,21,22] [(1,[]),(3,[4]),(6,[7,23,24])] 3 (k:=25) ?_
   intro G hG
   simp [go_sem,dg,ed,cY]
   refine ab (gv v.a 2 2 rfl (by omega)) (by simp [AV.deep,AV.deep1]) ?_
   simp [go_sem,dg,ed,cY]
   refine ab (gv v.a 13 13 rfl (by omega)) (by simp [AV.deep,AV.deep1]) ?_
   simp [go_sem,dg,ed,cY]
   refine ab (gv v.a 22 22 rfl (by omega)) (by simp [AV.deep,AV.deep1]) ?_
   simp [go_sem,dg,ed,cY]
   have hT2:fK (fV (fV (yb 2 v.a) (yb 13 v.a)) (yb 22 v.a)) (fV (fV (r9 v.a v.b) (r9 v.a v.c)) (r9 v.b v.c))=T2 v:=by
    rw [gt (by omega),gt (by omega),gt (by omega)]
    unfold T2;with_reducible rfl
   rw [hT2]
   refine hG _ _ ?_
   clear hG G
   simp [go_sem]
   refine bk [0,1,2,3,4,5,6,7,8,9,10,11,12,13,14,15,16,17,18,19,20,21,22,23,24,25] [(26,[]),(27,[])] 0 (k:=28) ?_
   intro G hG
   simp [go_sem,cY]
   refine hG _ _ ?_
   clear hG G
   have w3:=ax (k:=t) (by omega)
   simp [go_sem,w3]
   refine Ev (t+1,tf v (k,w)) ⟨by simp only;omega,hR⟩ (by simp only;omega) [(32,32),(6232,192)] 2000 (by decide) (by decide) (by decide) (by decide) ?_
   simp [zH,xQ,dL,AV.ren,Blk.ren,cZ,av,ag,fv,lk,AV.low,AV.low1,nw,AV.renL,tf,rd,pG,S8.l]
  ·have ht64:t=64:=by omega
   subst ht64
   rw [oF tf (by omega)] at hR
   subst hR
   rw [show (pj s v).l=jY s.l 8 v.l from (ER s v).symm]
   have hsl:s.l.length=8:=rfl
   have hvl:v.l.length=8:=rfl
   generalize s.l=sl at *
   generalize v.l=vl at *
   refine au (fun i:Nat=>⟨[(0,.d (nw sl)),(13,.own 192 0 8 8),(20,.d (.int .i64 (i:Int)))],[(192,⟨53,1,pG (jY sl i vl)⟩)],3200⟩)
    (fun i=>i≤8) (fun i=>8 - i) 0 (by omega) (by
     simp [av,ag,fv,lk,AV.low,AV.low1,nw,jY]
     exact jZ _ _) ?_
   intro i hi
   have hal:=yc sl vl i
   simp only [go_sem,Nat.reduceEqDiff,Nat.reduceAdd,Nat.reduceLT,↓reduceIte,Nat.reduceMul]
   refine ⟨fun h=>?_,fun h=>?_⟩
   ·have e1:(jY sl i vl)[i]?=some ((jY sl i vl).getD i 0):=by rw [List.getD_eq_getElem?_getD,List.getElem?_eq_getElem (by omega)];rfl
    have e2:sl[i]?=some (sl.getD i 0):=by rw [List.getD_eq_getElem?_getD,List.getElem?_eq_getElem (by omega)];rfl
    have e3:jY sl (i+1) vl=(jY sl i vl).set i (fK ((jY sl i vl).getD i 0) (sl.getD i 0)):=rfl
    generalize (jY sl i vl).getD i 0=x at *
    generalize sl.getD i 0=y at *
    generalize jY sl i vl=A at *
    refine bk [0,1,2,3,4,5,6,7,8,9,10,11] [(12,[])] 0 (k:=13) ?_
    intro G hG
    simp [go_sem,nw,uY,e1,e2,cY,nE,H2]
    refine ⟨by omega,by omega,by omega,by omega,hG _ _ ?_⟩
    clear hG G
    have w5:=ax (k:=i) (by omega)
    simp [go_sem,w5]
    refine ai (i+1) (by omega) (by omega) ?_
    simp [av,ag,fv,lk,AV.low,AV.low1,nw,e3]
    exact jZ _ _
   ·have hi8:i=8:=by omega
    subst hi8
    simp [go_sem,ak]
    have:=rE (id:=192) (L:=jY sl 8 vl) (Q:=fun r=>r=AV.d (nw (jY sl 8 vl))) (st:=⟨[],[(192,⟨53,1,pG (jY sl 8 vl)⟩)],0⟩) rfl rfl
    rw [hal,hvl] at this
    exact this
end Go.Proofs.YtldccnbokbieiaaGreat
namespace Go.Sha
theorem jC (x:Nat):t8 x<256:=Nat.mod_lt _ (by decide)
theorem rF (m:Nat):∀ j x,x ∈ Go.Proofs.YtldccnbokbieiaaGreat.len8 m j→x<256
 | 0,x,h=>by simp [Go.Proofs.YtldccnbokbieiaaGreat.len8] at h
 | j+1,x,h=>by
  rcases List.mem_append.1 h with h | h
  ·exact rF m j x h
  ·rw [List.mem_singleton] at h;rw [h];exact jC _
theorem pu:∀ (n:Nat) (l:List Nat),(∀ x,x ∈ l→x<256)→∀ x,x ∈ Go.Proofs.YtldccnbokbieiaaGreat.padTo n l→x<256
 | 0,l,hl=>hl
 | n+1,l,hl=>by
  unfold Go.Proofs.YtldccnbokbieiaaGreat.padTo
  split
  ·exact hl
  ·refine pu n _ fun x hx=>?_
   rcases List.mem_append.1 hx with h | h
   ·exact hl x h
   ·rw [List.mem_singleton] at h;omega
theorem uZ {b:List Nat} (n:Nat) (hb:∀ x,x ∈ b→x<256):∀ x,x ∈ Go.Proofs.YtldccnbokbieiaaGreat.lastOf b n→x<256:=by
 intro x hx
 rcases List.mem_append.1 hx with h | h
 ·refine pu _ _ (fun y hy=>?_) x h
  rcases List.mem_append.1 hy with h | h
  ·exact hb y h
  ·rw [List.mem_singleton] at h;omega
 ·exact rF _ _ x h
theorem tw:∀ (n:Nat) (l:List Nat),(120 - l.length % 64) % 64≤n→(Go.Proofs.YtldccnbokbieiaaGreat.padTo n l).length % 64=56∧(Go.Proofs.YtldccnbokbieiaaGreat.padTo n l).length≤l.length+n
 | 0,l,h=>by
  unfold Go.Proofs.YtldccnbokbieiaaGreat.padTo
  omega
 | n+1,l,h=>by
  unfold Go.Proofs.YtldccnbokbieiaaGreat.padTo
  split
  ·omega
  ·have:=tw n (l ++ [0]) (by rw [List.length_append,List.length_singleton];omega)
   rw [List.length_append,List.length_singleton] at this
   omega
theorem zT (b:List Nat) (n:Nat):(Go.Proofs.YtldccnbokbieiaaGreat.lastOf b n).length % 64=0∧(Go.Proofs.YtldccnbokbieiaaGreat.lastOf b n).length≤b.length+73:=by
 have:=tw 64 (b ++ [128]) (by omega)
 rw [List.length_append,List.length_singleton] at this
 unfold Go.Proofs.YtldccnbokbieiaaGreat.lastOf
 rw [List.length_append,Go.Proofs.YtldccnbokbieiaaGreat.len8_len]
 omega
theorem A9 (l:List Nat):∀ (n i:Nat),i<4*n→(pre l n)[i]?=some (t8 (c7 (24 - 8*(i % 4)) (l.getD (i / 4) 0)))
 | 0,i,h=>by omega
 | n+1,i,h=>by
  unfold pre
  by_cases hi:i<4*n
  ·rw [List.getElem?_append_left (by rw [gr];exact hi)]
   exact A9 l n i hi
  ·rw [List.getElem?_append_right (by rw [gr];omega),gr]
   have h4:i / 4=n:=by omega
   rw [h4]
   obtain ⟨j,rfl,hj⟩:∃ j,i=4*n+j∧j<4:=⟨i - 4*n,by omega,by omega⟩
   rw [show 4*n+j - 4*n=j by omega,show (4*n+j) % 4=j by omega]
   rcases (by omega:j=0 ∨ j=1 ∨ j=2 ∨ j=3) with rfl | rfl | rfl | rfl <;> rfl
theorem tA (l:List Nat):∀ n x,x ∈ pre l n→x<256
 | 0,x,h=>by simp [pre] at h
 | n+1,x,h=>by
  rcases List.mem_append.1 h with h | h
  ·exact tA l n x h
  ·simp [uR] at h
   rcases h with rfl | rfl | rfl | rfl <;> exact jC _
theorem cQ (b:List Nat):∀ x,x ∈ dU b→x<256:=fun x h=>tA _ 8 x h
theorem pX (s:S8):(wr s).length=32:=gr _ 8
end Go.Sha
namespace Go.Proofs.YtldccnbokbieiaaGreat
open Go.Am Go.Sha
theorem aM {hp:Hp} {I:Nat→Prop} {id n:Nat} {L:List Nat} (hl:L.length=n) (hb:lk id hp=some ⟨5,1,rb L⟩) (hI:I id):SnapD hp I (.own id 0 n n) (nb L):=by
 subst hl
 have h:=nB (i0:=0) (n:=L.length) (L:=L) hb hI (by omega)
 rw [List.drop_zero,List.take_of_length_le (Nat.le_refl _)] at h
 exact h
def u6 (s:S8) (i:Nat):List Nat:=(wr s).take i ++ List.replicate (32 - i) 0
theorem ES (s:S8) {i:Nat} (h:i≤32):(u6 s i).length=32:=by
 unfold u6
 rw [List.length_append,List.length_take,pX,List.length_replicate]
 omega
theorem ET (s:S8):u6 s 32=wr s:=by
 unfold u6
 rw [List.take_of_length_le (by rw [pX];omega)]
 simp
theorem Cy (s:S8) {i:Nat} (h:i<32):(u6 s i).set i (t8 (c7 (24 - 8*(i % 4)) (s.l.getD (i / 4) 0)))=u6 s (i+1):=by
 have hg:=A9 s.l 8 i (by omega)
 unfold u6
 rw [List.set_append_right _ _ (by rw [List.length_take,pX];omega),List.length_take,pX,show i - min i 32=0 by omega]
 obtain ⟨k,hk⟩:∃ k,32 - i=k+1:=⟨31 - i,by omega⟩
 rw [hk,List.replicate_succ,List.set_cons_zero,show 32 - (i+1)=k by omega]
 rw [List.take_add_one,show (wr s)[i]?=_ from hg]
 simp
theorem Ba (b:List Nat) (hb:b.length≤10000000000) (hby:∀ x,x ∈ b→x<256):aq Tryz.prog 115 [.d (nb b)] (fun r=>r=.agg (cb (dU b))):=by
 rw [zS]
 refine aS Tryz.func115 Tryz.ntmps115 (rs:=[.cell 2 23]) (by simp [AV.deep,AV.deep1]) ?_
 simp [go_sem]
 refine ab Cv (by simp) ?_
 simp [go_sem]
 refine ab (Cw b (by omega)) (by simp [AV.deep,AV.deep1]) ?_
 have hLb:=uZ b.length hby
 obtain ⟨hLm,hLl⟩:=zT b b.length
 generalize lastOf b b.length=L at *
 simp [go_sem]
 generalize hP:E H0 L=P
 refine xU (fun t:Nat × S8=>⟨[(2,.ptr 0 0 0 1),(3,.d (nw t.2.l)),(4,.d (nw K)),(5,.d (nb L)),(6,.d (.int .i64 ((64*t.1:Nat):Int)))],[(0,⟨23,32,[cb z32]⟩)],288⟩)
  (fun t=>64*t.1≤L.length∧E t.2 (L.drop (64*t.1))=P) (fun t=>L.length - 64*t.1) (0,H0) ⟨by omega,hP⟩ [32] [(3,.d (nw H0.l))] (by
   intro p hp
   simp only [List.mem_singleton] at hp
   subst hp
   exact .one (aw (ye (L:=H0.l) rfl (by simp)))) (by
   simp [av,ag,fv,lk,AV.low,AV.low1,aQ]
   exact aF _ _) ?_
 clear hP
 rintro ⟨j,s⟩ ⟨hj,hP⟩
 simp only at hj hP
 simp only [go_sem,Nat.reduceEqDiff,Nat.reduceAdd,Nat.reduceLT,↓reduceIte,Nat.reduceMul]
 refine ⟨fun h=>?_,fun h=>?_⟩
 ·have hlt:64*j<L.length:=by simp only [nb,AV.slen,List.length_map] at h;omega
  have h64:64≤(L.drop (64*j)).length:=by rw [List.length_drop];omega
  rw [mO h64,List.drop_drop] at hP
  have hbl:((L.drop (64*j)).take 64).length=64:=by rw [List.length_take];omega
  have hbb:∀ x,x ∈ (L.drop (64*j)).take 64→x<256:=fun x hx=>hLb x (List.mem_of_mem_drop (List.mem_of_mem_take hx))
  have w1:IntKind.i64.wrap (((64*j:Nat):Int)+64)=((64*j+64:Nat):Int):=by rw [IntWalk.i64_in _ (by omega)];omega
  have hsl:((L.map fun (b:Nat)=>[DV.int .u8 (b:Int)]).take (64*j+64)).drop (64*j)=((L.drop (64*j)).take 64).map fun (b:Nat)=>[DV.int .u8 (b:Int)]:=by
   rw [List.drop_take,show 64*j+64 - 64*j=64 by omega,List.map_take,List.map_drop]
  simp only [go_sem,Nat.reduceEqDiff,Nat.reduceAdd,Nat.reduceLT,↓reduceIte,nb,w1,hsl]
  refine ⟨by omega,by omega,?_⟩
  refine ab (Cx s ((L.drop (64*j)).take 64) hbl hbb) (by simp [AV.deep,AV.deep1]) ?_
  simp only [go_sem,Nat.reduceEqDiff,Nat.reduceAdd,Nat.reduceLT,↓reduceIte,w1]
  refine ai (j+1,Go.Sha.take s ((L.drop (64*j)).take 64)) ⟨by simp only;omega,by simp only;exact hP⟩ (by simp only;omega) ?_
  simp [av,ag,fv,lk,AV.low,AV.low1,nb]
  exact ⟨by omega,aF _ _⟩
 ·have hnil:L.drop (64*j)=[]:=List.drop_eq_nil_of_le (by simp only [nb,AV.slen,List.length_map] at h;omega)
  rw [hnil,kU (by simp)] at hP
  have hs:P.1=s:=by rw [← hP]
  rw [hs]
  clear hP hs hnil h
  simp [go_sem]
  refine au (fun i:Nat=>⟨[(2,.ptr 0 0 0 1),(3,.d (nw s.l)),(7,.ptr 448 0 0 1),(8,.d (.int .i64 (i:Int)))],[(0,⟨23,32,[cb z32]⟩),(448,⟨23,32,[cb (u6 s i)]⟩)],700⟩)
   (fun i=>i≤32) (fun i=>32 - i) 0 (by omega) (by
    simp [av,ag,fv,lk,AV.low,AV.low1]
    exact ⟨aF _ _,rfl,aF _ _⟩) ?_
  intro i hi
  have hol:=ES s hi
  simp only [go_sem,Nat.reduceEqDiff,Nat.reduceAdd,Nat.reduceLT,↓reduceIte,Nat.reduceMul]
  refine ⟨fun h2=>?_,fun h2=>?_⟩
  ·have w1:IntKind.i64.wrap (Int.tdiv (i:Int) 4)=((i / 4:Nat):Int):=by
    have e:Int.tdiv (i:Int) 4=((i / 4:Nat):Int):=(Int.ofNat_tdiv i 4).symm
    rw [e,IntWalk.i64_in _ (by omega)]
   have w2:Int.tmod (i:Int) 4=((i % 4:Nat):Int):=by have:=Int.ofNat_tmod i 4;simpa using this.symm
   have w3:IntKind.i64.wrap (8*((i % 4:Nat):Int))=((8*(i % 4):Nat):Int):=by rw [IntWalk.i64_in _ (by omega)];omega
   have w4:IntKind.i64.wrap (24 - ((8*(i % 4):Nat):Int))=((24 - 8*(i % 4):Nat):Int):=by rw [IntWalk.i64_in _ (by omega)];omega
   have w5:IntKind.u64.wrap ((24 - 8*(i % 4):Nat):Int)=((24 - 8*(i % 4):Nat):Int):=by rw [fU];omega
   have w6:min (24 - 8*(i % 4)) 32=24 - 8*(i % 4):=by omega
   have w7:=ax (k:=i) (by omega)
   have hst:=Cy s (i:=i) (by omega)
   have hg:s.l[i / 4]?=some (s.l.getD (i / 4) 0):=by
    have:i / 4<s.l.length:=by show i / 4<8;omega
    rw [List.getD_eq_getElem?_getD,List.getElem?_eq_getElem this];rfl
   generalize s.l.getD (i / 4) 0=x at *
   generalize hA:u6 s i=A at *
   generalize s.l=sl at *
   simp only [go_sem,Nat.reduceEqDiff,Nat.reduceAdd,Nat.reduceLT,↓reduceIte,nw,w1,w2,w3,w4,w5,w6,w7,hg,IntKind.bits,Jc,cm,rt,hst]
   refine ⟨by decide,by decide,by omega,by omega,?_⟩
   refine ai (i+1) (by omega) (by omega) ?_
   simp [av,ag,fv,lk,AV.low,AV.low1,hst]
   exact ⟨aF _ _,aF _ _⟩
  ·have hi32:i=32:=by omega
   subst hi32
   rw [ET] at hol ⊢
   simp [go_sem,ak,hol,aj hol,bR]
   exact ae (by simp [AV.deep];exact aL _) rfl
theorem iF (tag:List Nat) (ts:DV) (hts:ts=.str (tag.map fun (x:Nat)=>(x:Int))) (b:List Nat) (ht:tag.length≤1000) (htb:∀ x,x ∈ tag→x<256) (hb:b.length≤1000000000) (hbb:∀ x,x ∈ b→x<256):aq Tryz.prog 93 [.d ts,.d (nb b)] (fun r=>r=.agg (cb (c6 tag b))):=by
 subst hts
 refine aS Tryz.func93 Tryz.ntmps93 (rs:=[.cell 4 23]) (by simp [AV.deep,AV.deep1]) ?_
 simp [go_sem,Tryz.underlying5]
 refine ab (Ba tag (by omega) htb) (by simp [AV.deep,AV.deep1]) ?_
 have hD:=cE tag
 have hg:c6 tag b=dU (dU tag ++ (dU tag ++ b)):=rfl
 rw [hg]
 have hDb:=cQ tag
 generalize dU tag=D at hD hDb
 have hx:=fN hD
 rw [cB] at hx
 simp [go_sem] at hx
 simp [go_sem,hD,bR,hx,nb,cB,aC]
 refine ⟨by omega,?_⟩
 have hl:(D ++ (D ++ b)).length=64+b.length:=by simp [hD];omega
 have hDb:∀ x,x ∈ D→x<256:=hDb
 refine bU [192] (Ba (D ++ (D ++ b)) (by omega) (fun x hx=>by
  rcases List.mem_append.1 hx with h | h
  ·exact hDb x h
  ·rcases List.mem_append.1 h with h | h
   ·exact hDb x h
   ·exact hbb x h)) rfl (ay (.one (aw (aM hl (by simp [lk,← jc]) (by simp)))) aT) ?_
 have hR:=cE (D ++ (D ++ b))
 generalize dU (D ++ (D ++ b))=R at *
 simp [go_sem,aQ,ak,hR,aj hR,bR]
 exact ae (by simp [AV.deep];exact aL _) rfl
end Go.Proofs.YtldccnbokbieiaaGreat
namespace Go.Sha
theorem Nz (a:Nat):t8 (t8 a)=t8 a:=by unfold t8;omega
theorem NA (n:Nat):le (t8 n) 1=le n 1:=by simp [le,c7,Nz]
theorem Lg (n:Nat):le (CW n) 2=le n 2:=by
 have e0:t8 (c7 (8*0) (CW n))=t8 (c7 (8*0) n):=by simp only [t8,c7,CW];omega
 have e1:t8 (c7 (8*1) (CW n))=t8 (c7 (8*1) n):=by simp only [t8,c7,CW];omega
 simp only [le,e0,e1]
theorem Lh (n:Nat):le (pi n) 4=le n 4:=by
 have e0:t8 (c7 (8*0) (pi n))=t8 (c7 (8*0) n):=by simp only [t8,c7,pi];omega
 have e1:t8 (c7 (8*1) (pi n))=t8 (c7 (8*1) n):=by simp only [t8,c7,pi];omega
 have e2:t8 (c7 (8*2) (pi n))=t8 (c7 (8*2) n):=by simp only [t8,c7,pi];omega
 have e3:t8 (c7 (8*3) (pi n))=t8 (c7 (8*3) n):=by simp only [t8,c7,pi];omega
 simp only [le,e0,e1,e2,e3]
theorem H4 (x:Nat):∀ k y,y ∈ le x k→y<256
 | 0,y,h=>by simp [le] at h
 | k+1,y,h=>by
  rcases List.mem_append.1 h with h | h
  ·exact H4 x k y h
  ·rw [List.mem_singleton] at h;rw [h];exact jC _
theorem tB (n:Nat):∀ y,y ∈ aI n→y<256:=by
 intro y h
 unfold aI at h
 split at h
 ·exact H4 _ _ y h
 ·split at h
  ·rcases List.mem_append.1 h with h | h <;> exact H4 _ _ y h
  ·rcases List.mem_append.1 h with h | h <;> exact H4 _ _ y h
end Go.Sha
namespace Go.Proofs.YtldccnbokbieiaaGreat
open Go.Am Go.Sha
theorem nF (b:List Nat) (x n:Nat) (m:Int) (hm:m=(n:Int)) (hb:b.length≤10000000000) (hx:x<18446744073709551616) (hn:n≤8):dO Tryz.prog 113 0 [] [.d (nb b),.d (.int .u64 (x:Int)),.d (.int .i64 m)] (fun r hp'=>r=.own 33 0 (b ++ le x n).length (b ++ le x n).length∧lk 33 hp'=some ⟨5,1,rb (b ++ le x n)⟩):=by
 subst hm
 refine b7 Tryz.func113 (by kernel_rfl) rfl Tryz.ntmps113 (rs:=[.tmp 6]) rfl (jy rfl) (by decide) ?_
 simp [go_sem,nb,cB,aC]
 refine ⟨by omega,?_⟩
 refine au (fun k:Nat=>⟨[(1,.d (.int .u64 ((c7 (8*k) x:Nat):Int))),(2,.d (.int .i64 (n:Int))),(7,.own 33 0 (b ++ le x k).length (b ++ le x k).length),(8,.d (.int .i64 (k:Int)))],[(33,⟨5,1,rb (b ++ le x k)⟩)],300⟩)
  (fun k=>k≤n) (fun k=>n - k) 0 (by omega) (by
   simp [av,ag,fv,lk,AV.low,AV.low1,le,c7]
   exact aV _ _) ?_
 intro k hk
 have hl:(b ++ le x k).length=b.length+k:=by rw [List.length_append,cn]
 have hs:rb (b ++ le x k) ++ [[AV.d (.int .u8 ((t8 (c7 (8*k) x):Nat):Int))]]=rb (b ++ le x (k+1)):=by rw [ee,List.append_assoc];rfl
 have hxk:c7 (8*k) x<18446744073709551616:=Nat.lt_of_le_of_lt (Nat.div_le_self _ _) hx
 have hq:IntKind.u64.wrap (Int.tdiv ((c7 (8*k) x:Nat):Int) 256)=((c7 (8*(k+1)) x:Nat):Int):=by
  have e1:Int.tdiv ((c7 (8*k) x:Nat):Int) 256=((c7 (8*k) x / 256:Nat):Int):=(Int.ofNat_tdiv _ 256).symm
  have e2:c7 (8*k) x / 256=c7 (8*(k+1)) x:=by
   unfold c7
   rw [Nat.div_div_eq_div_mul,show 2 ^ (8*k)*256=2 ^ (8*(k+1)) by rw [show 8*(k+1)=8*k+8 by omega,Nat.pow_add]]
  have h3:c7 (8*k) x / 256≤c7 (8*k) x:=Nat.div_le_self _ _
  rw [e1,fU,← e2]
  omega
 have w5:=ax (k:=k) (by omega)
 simp only [go_sem,Nat.reduceEqDiff,Nat.reduceAdd,Nat.reduceLT,↓reduceIte,Nat.reduceMul]
 refine ⟨fun h=>?_,fun h=>?_⟩
 ·simp only [go_sem,Nat.reduceEqDiff,Nat.reduceAdd,Nat.reduceLT,↓reduceIte,cm,aC,hs,cn,hq,w5]
  refine ⟨by omega,by omega,by decide,?_⟩
  refine ai (k+1) (by omega) (by omega) ?_
  simp [av,ag,fv,lk,AV.low,AV.low1,cn]
  exact ⟨by omega,aV _ _⟩
 ·have hkn:k=n:=by omega
  subst hkn
  simp [go_sem,ak]
def Cz (L:List Nat) (r:AV) (hp':Hp):Prop:=∃ I,r=.own I 0 L.length L.length∧lk I hp'=some ⟨5,1,rb L⟩
theorem yf {g:FuncId} {args:List AV} {L:List Nat} (h:dO Tryz.prog g 0 [] args (Cz L)) (hd:∀ v,v ∈ args→v.deep):aq Tryz.prog g args (fun r=>r=.d (nb L)) :=
 Ci h hd fun r hp' ⟨I,hr,hb⟩=>⟨.d (nb L),by subst hr;exact .one (aw (aM rfl hb trivial)),trivial,rfl⟩
theorem Li {g:FuncId} {k:Nat} {hp0:Hp} {args:List AV} {Q Q':AV→Hp→Prop} (h:dO Tryz.prog g k hp0 args Q) (hq:∀ r hp',Q r hp'→Q' r hp'):dO Tryz.prog g k hp0 args Q':=by
 obtain ⟨h1,hk,h2⟩:=h
 refine ⟨h1,hk,fun w S σ vs a b c=>(h2 w S σ vs a b c).mono fun e w' he=>?_⟩
 obtain ⟨x,r,hp',U',σ',e1,hQ,rest⟩:=he
 exact ⟨x,r,hp',U',σ',e1,hq r hp' hQ,rest⟩
theorem Bb (b:List Nat) (x n:Nat) (m:Int) (hm:m=(n:Int)) (hb:b.length≤10000000000) (hx:x<18446744073709551616) (hn:n≤8):aq Tryz.prog 113 [.d (nb b),.d (.int .u64 (x:Int)),.d (.int .i64 m)] (fun r=>r=.d (nb (b ++ le x n))) :=
 yf (Li (nF b x n m hm hb hx hn) fun r hp' h=>⟨33,h.1,h.2⟩) (by simp [AV.deep,AV.deep1])
theorem u7 (b:List Nat) (n:Nat) (hb:b.length≤1000000) (hn:n<4294967296):dO Tryz.prog 135 0 [] [.d (nb b),.d (.int .u64 (n:Int))] (Cz (b ++ aI n)):=by
 refine b7 Tryz.func135 (by kernel_rfl) rfl Tryz.ntmps135 (rs:=[.tmp 4]) rfl (jy rfl) (by decide) ?_
 by_cases h1:n<253
 ·have e:aI n=le n 1:=by unfold aI;rw [if_pos h1,NA]
  rw [e]
  have i1:(n:Int)<253:=by omega
  simp [go_sem,i1]
  refine c8 [] (nF b n 1 1 rfl (by omega) (by omega) (by omega)) rfl (by simp) (by simp) (by simp) (by simp [AV.renL,AV.ren]) ?_
  rintro r hp' ⟨rfl,h0⟩
  refine ⟨[(33,0)],rfl,?_⟩
  simp [go_sem,fj,et,h0,Blk.ren,cZ,iC,AV.renL,AV.ren,dL,ak,Cz]
 ·have i1:¬ (n:Int)<253:=by omega
  by_cases h2:n<65536
  ·have e:aI n=le 253 1 ++ le n 2:=by unfold aI;rw [if_neg h1,if_pos h2,Lg]
   have i2:(n:Int)<65536:=by omega
   rw [e,← List.append_assoc]
   simp [go_sem,i1,i2,-List.append_assoc]
   refine ab (Bb b 253 1 1 rfl (by omega) (by omega) (by omega)) (by simp [AV.deep,AV.deep1]) ?_
   simp [go_sem,-List.append_assoc]
   refine c8 [] (nF (b ++ le 253 1) n 2 2 rfl (by rw [List.length_append,cn];omega) (by omega) (by omega)) rfl (by simp) (by simp) (by simp) (by simp [AV.renL,AV.ren]) ?_
   rintro r hp' ⟨rfl,h0⟩
   refine ⟨[(33,0)],rfl,?_⟩
   simp [go_sem,fj,et,h0,Blk.ren,cZ,iC,AV.renL,AV.ren,dL,ak,Cz,-List.append_assoc]
  ·have e:aI n=le 254 1 ++ le n 4:=by unfold aI;rw [if_neg h1,if_neg h2,Lh]
   have i2:¬ (n:Int)<65536:=by omega
   have i3:(n:Int)<4294967296:=by omega
   rw [e,← List.append_assoc]
   simp [go_sem,i1,i2,i3,-List.append_assoc]
   refine ab (Bb b 254 1 1 rfl (by omega) (by omega) (by omega)) (by simp [AV.deep,AV.deep1]) ?_
   simp [go_sem,-List.append_assoc]
   refine c8 [] (nF (b ++ le 254 1) n 4 4 rfl (by rw [List.length_append,cn];omega) (by omega) (by omega)) rfl (by simp) (by simp) (by simp) (by simp [AV.renL,AV.ren]) ?_
   rintro r hp' ⟨rfl,h0⟩
   refine ⟨[(33,0)],rfl,?_⟩
   simp [go_sem,fj,et,h0,Blk.ren,cZ,iC,AV.renL,AV.ren,dL,ak,Cz,-List.append_assoc]
theorem sx (b x:List Nat) (hb:b.length≤1000000) (hx:x.length<1000000):dO Tryz.prog 94 0 [] [.d (nb b),.d (nb x)] (Cz (b ++ aI x.length ++ x)):=by
 refine b7 Tryz.func94 (by kernel_rfl) rfl Tryz.ntmps94 (rs:=[.tmp 4]) rfl (jy rfl) (by decide) ?_
 have w:IntKind.u64.wrap (x.length:Int)=(x.length:Int):=by rw [fU];omega
 have hp5:=fx x.length
 simp only [go_sem,Nat.reduceEqDiff,Nat.reduceAdd,Nat.reduceLT,↓reduceIte,nb,List.length_map,w]
 refine c8 [] (u7 b x.length (by omega) (by omega)) rfl (by simp) (by simp) (by simp) (by simp [AV.renL,AV.ren,nb]) ?_
 rintro r hp' ⟨I,rfl,h0⟩
 refine ⟨[(I,0)],by simp [s9,rk],?_⟩
 simp [go_sem,fj,et,h0,Blk.ren,cZ,iC,AV.renL,AV.ren,dL,cB,aC,ak]
 refine ⟨by omega,161,?_,?_⟩
 ·rw [show (b ++ (aI x.length ++ x)).length=b.length+(aI x.length).length+x.length by simp;omega]
 ·simp [lk,← jc]
theorem nG (b x:List Nat) (hb:b.length≤1000000) (hx:x.length<1000000):aq Tryz.prog 94 [.d (nb b),.d (nb x)] (fun r=>r=.d (nb (b ++ (aI x.length ++ x)))):=by
 rw [← List.append_assoc]
 exact yf (sx b x hb hx) (by simp [AV.deep,AV.deep1])
theorem nH (x:List Nat) (hx:x.length≤100000) (hxb:bytes x):aq Tryz.prog 59 [.d (nb x)] (fun r=>r=.agg (cb (ct x))):=by
 refine aS Tryz.func59 Tryz.ntmps59 (rs:=[.cell 2 23]) (by simp [AV.deep,AV.deep1]) ?_
 have hp5:=fx x.length
 simp [go_sem]
 refine bU [32] (nG [192] x (by simp) (by omega)) rfl (ay (.one (aw (aM rfl rfl (by simp)))) (ay (.deep (by simp [AV.deep,AV.deep1])) aT)) ?_
 simp [go_sem,aQ]
 refine ab (iF [84,97,112,76,101,97,102] (.str [84,97,112,76,101,97,102]) rfl (192 :: (aI x.length ++ x)) (by simp) (by simp) (by simp;omega) (by
  intro y hy
  rcases List.mem_cons.1 hy with rfl | hy
  ·omega
  ·rcases List.mem_append.1 hy with h | h
   ·exact tB _ y h
   ·exact hxb y h)) (by simp [AV.deep,AV.deep1]) ?_
 have hL:(c6 [84,97,112,76,101,97,102] (192 :: (aI x.length ++ x))).length=32:=cE _
 have hR:ct x=c6 [84,97,112,76,101,97,102] (192 :: (aI x.length ++ x)):=rfl
 rw [hR]
 generalize c6 [84,97,112,76,101,97,102] (192 :: (aI x.length ++ x))=R at *
 simp [go_sem,ak,hL,aj hL,bR]
 exact ae (by simp [AV.deep];exact aL _) rfl
def sb (l:List Nat):List Int:=l.map fun (x:Nat)=>(x:Int)
theorem Lj {a b:List Nat}:sb a=sb b ↔ a=b:=zO
theorem EU {P:Program} {s t:TypeId} {Kk:AV→Hp→Prop} {hp:Hp} (l:List Nat) (el:TypeId) (hb:bytes l) (h1:bK P s=.slice el) (h2:bK P t=.str) (h3:P.underlying el=some (.int .u8)) (hK:Kk (.d (.str (sb l))) hp):QP P s t (some (rb l)) Kk hp:=by
 refine ⟨sb l,by simp [rb,sb],fun b h=>?_,?_⟩
 ·simp only [sb,List.mem_map] at h
  obtain ⟨x,hx,rfl⟩:=h
  have:=hb x hx
  omega
 ·rw [h1,h2]
  exact ⟨h3,hK⟩
theorem yg:∀ (x y:List UInt8),Lib.compareBytes x y<0 ↔ Op.bytesLess x y=true
 | [],[]=>by simp [Lib.compareBytes,Op.bytesLess]
 | [],_ :: _=>by simp [Lib.compareBytes,Op.bytesLess]
 | _ :: _,[]=>by simp [Lib.compareBytes,Op.bytesLess]
 | a :: x,b :: y=>by
  have ih:=yg x y
  simp only [Lib.compareBytes,Op.bytesLess]
  by_cases h1:a<b
  ·simp [h1]
  ·by_cases h2:b<a
   ·have:a ≠ b:=fun e=>by subst e;exact h1 h2
    simp [h1,h2,this]
   ·have:a=b:=UInt8.toNat_inj.1 (by
     have e1:¬ a.toNat<b.toNat:=fun h=>h1 (UInt8.lt_iff_toNat_lt.2 h)
     have e2:¬ b.toNat<a.toNat:=fun h=>h2 (UInt8.lt_iff_toNat_lt.2 h)
     omega)
    subst this
    simp only [h1,if_false,decide_false,Bool.false_or,beq_self_eq_true,Bool.true_and]
    exact ih
theorem EV {a:List Nat} (h:bytes a):(fO a).map (fun c=>(c.toNat:Int))=sb a:=by
 unfold fO Lib.bytesOf sb
 rw [List.map_map,List.map_map]
 apply List.map_congr_left
 intro x hx
 have:=h x hx
 simp only [Function.comp_apply,Int.toNat_natCast]
 rw [UInt8.toNat_ofNat',Nat.mod_eq_of_lt (by omega)]
theorem EW {a b:List Nat} (ha:bytes a) (hb:bytes b):(!(cJ (sb a) (sb b) || decide (sb a=sb b)))=decide (0<Lib.compareBytes (fO a) (fO b)):=by
 have h1:=yg (fO a) (fO b)
 rw [qw,EV ha,EV hb] at h1
 obtain ⟨h3,h4⟩:=nD (fO a) (fO b)
 by_cases e:a=b
 ·subst e
  have h0:¬ 0<Lib.compareBytes (fO a) (fO a):=fun h=>by have:=h3.1 h;omega
  simp [h0]
 ·have hne:sb a ≠ sb b:=fun h=>e (Lj.1 h)
  have h0:Lib.compareBytes (fO a) (fO b) ≠ 0:=fun h=>e (uU ha hb (h4 h))
  cases hl:cJ (sb a) (sb b) with
  | true =>
   have:=h1.2 hl
   have h5:¬ 0<Lib.compareBytes (fO a) (fO b):=by omega
   simp [h5]
  | false =>
   have h6:¬ Lib.compareBytes (fO a) (fO b)<0:=fun h=>by rw [h1.1 h] at hl;cases hl
   have h5:0<Lib.compareBytes (fO a) (fO b):=by omega
   simp [h5,hne]
theorem rG (a b:List Nat) (ha:a.length=32) (hb:b.length=32) (hab:bytes a) (hbb:bytes b):aq Tryz.prog 60 [.agg (cb a),.agg (cb b)] (fun r=>r=.agg (cb (aO a b))):=by
 refine aS Tryz.func60 Tryz.ntmps60 (rs:=[.cell 4 23]) (by simp [AV.deep];exact ⟨aL _,aL _⟩) ?_
 have hx1:=fN ha
 have hx2:=fN hb
 rw [cB] at hx1 hx2
 simp [go_sem] at hx1 hx2
 simp [go_sem,ha,hb]
 refine bk [0,1,2,3] [] 0 (k:=4) ?_
 intro G hG
 simp [go_sem]
 refine hG _ _ ?_
 clear hG G
 simp [go_sem,hx1,hx2]
 refine EU a 5 hab (by simp [go_sem]) (by simp [go_sem]) Tryz.underlying5 ?_
 simp [go_sem,hx1,hx2]
 refine EU b 5 hbb (by simp [go_sem]) (by simp [go_sem]) Tryz.underlying5 ?_
 by_cases hc:0<Lib.compareBytes (fO a) (fO b)
 ·simp [go_sem,EW hab hbb,hc,hx1,hx2,aC,ha,hb]
  have hl:(b ++ a).length=64:=by rw [List.length_append];omega
  refine bU [512] (iF bo (.str [84,97,112,66,114,97,110,99,104]) rfl (b ++ a) (by simp [bo]) (by simp [bo]) (by omega) (fun z hz=>by
   rcases List.mem_append.1 hz with h | h
   ·exact hbb z h
   ·exact hab z h)) rfl (ay (.deep (by simp [AV.deep,AV.deep1])) (ay (.one (aw (aM hl (by simp [lk,← jc]) (by simp)))) aT)) ?_
  have hR:aO a b=c6 bo (b ++ a):=by unfold aO;rw [if_pos hc]
  rw [hR]
  have hL:(c6 bo (b ++ a)).length=32:=cE _
  generalize c6 bo (b ++ a)=R at *
  simp [go_sem,aQ,hL,ak,aj hL,bR]
  exact ae (by simp [AV.deep];exact aL _) rfl
 ·simp [go_sem,EW hab hbb,hc,hx1,hx2,aC,ha,hb]
  have hl:(a ++ b).length=64:=by rw [List.length_append];omega
  refine bU [384] (iF bo (.str [84,97,112,66,114,97,110,99,104]) rfl (a ++ b) (by simp [bo]) (by simp [bo]) (by omega) (fun z hz=>by
   rcases List.mem_append.1 hz with h | h
   ·exact hab z h
   ·exact hbb z h)) rfl (ay (.deep (by simp [AV.deep,AV.deep1])) (ay (.one (aw (aM hl (by simp [lk,← jc]) (by simp)))) aT)) ?_
  have hR:aO a b=c6 bo (a ++ b):=by unfold aO;rw [if_neg hc]
  rw [hR]
  have hL:(c6 bo (a ++ b)).length=32:=cE _
  generalize c6 bo (a ++ b)=R at *
  simp [go_sem,aQ,hL,ak,aj hL,bR]
  exact ae (by simp [AV.deep];exact aL _) rfl
theorem EX (inner:List Nat) (ps:List (List Nat)) (x:List Nat) (hi:inner.length=32) (hp32:∀ p,p ∈ ps→p.length=32∧bytes p) (hps:ps.length≤1000) (hx:x.length≤100000) (hxb:bytes x) :
  aq Tryz.prog 90 [.agg (aB inner (.d (cF ps)) (.d (nb x)))] (fun r=>r=.agg (cb (dP ps (ct x)))):=by
 have hleaf:(AV.agg (aB inner (.d (cF ps)) (.d (nb x)))).deep:=Cu trivial trivial
 refine aS Tryz.func90 Tryz.ntmps90 (rs:=[.cell 2 23]) (by intro v hv;simp at hv;subst hv;exact hleaf) ?_
 simp [go_sem,aB,dV hi]
 refine ab (nH x hx hxb) (by simp [AV.deep,AV.deep1]) ?_
 have hL:(ct x).length=32:=ie x
 have hLb:bytes (ct x):=cQ _
 have hR:dP ps (ct x)=dP (ps.drop 0) (ct x):=by rw [List.drop_zero]
 rw [hR]
 generalize ct x=R at *
 generalize hT:dP (ps.drop 0) R=T
 clear hR
 simp [go_sem,hL,aj hL,bR,hi]
 refine au (fun t:Nat × List Nat=>⟨[(1,.ptr 0 0 0 1),(2,.ptr 32 0 0 1),(3,.ptr 160 0 0 1),(4,.d (.int .i64 (t.1:Int)))],[(0,⟨27,34,[aB inner (.d (cF ps)) (.d (nb x))]⟩),(32,⟨23,32,[cb z32]⟩),(160,⟨23,32,[cb t.2]⟩)],256⟩)
  (fun t=>t.1≤ps.length∧t.2.length=32∧bytes t.2∧dP (ps.drop t.1) t.2=T) (fun t=>ps.length - t.1) (0,R) ⟨by omega,hL,hLb,hT⟩ (by
   simp [av,ag,fv,lk,AV.low,AV.low1,aB]
   refine ⟨fun v hv=>?_,aF _ _,aF _ _⟩
   rcases hv with hv | rfl | rfl
   ·exact aF _ _ v hv
   ·trivial
   ·trivial) ?_
 clear hT hL hLb
 rintro ⟨k,h⟩ ⟨hk,hh,hhb,hT'⟩
 simp only at hk hh hhb hT'
 simp only [go_sem,Nat.reduceEqDiff,Nat.reduceAdd,Nat.reduceLT,↓reduceIte]
 simp [go_sem,aB,da hi,cF]
 refine ⟨fun hlt=>?_,fun hge=>?_⟩
 ·have hlt':k<ps.length:=by omega
  have hp:=List.getElem?_eq_getElem hlt'
  generalize ps[k]=p at hp
  obtain ⟨hpl,hpb⟩:=hp32 p (List.mem_of_getElem? hp)
  rw [rz hp] at hT'
  refine bk [0,1,2,3,4,5] [(6,[]),(7,[])] 0 (k:=8) ?_
  intro G hG
  simp [go_sem,aB,da hi,cF,hp,dJ,hpl,fP,aj hpl,am,hh,aj hh,bR]
  refine ab (rG h p hh hpl hhb hpb) (by simp [AV.deep];exact ⟨aL _,aL _⟩) ?_
  have hB:=dQ h p
  have hBb:bytes (aO h p):=cQ _
  generalize aO h p=B at *
  simp [go_sem,am,hB,hh,aj hB,dr hh]
  refine hG _ _ ?_
  clear hG G
  have w:=ax (k:=k) (by omega)
  simp [go_sem,w]
  refine ai (k+1,B) ⟨by omega,hB,hBb,hT'⟩ (by simp only;omega) ?_
  simp [av,ag,fv,lk,AV.low,AV.low1,aB,cF]
  refine ⟨fun v hv=>?_,aF _ _,aF _ _⟩
  rcases hv with hv | rfl | rfl
  ·exact aF _ _ v hv
  ·trivial
  ·trivial
 ·have hkn:k=ps.length:=by omega
  subst hkn
  have:T=h:=by rw [← hT',List.drop_length];rfl
  subst this
  simp [go_sem,ak,hh,aj hh,bR]
  exact ae (by simp [AV.deep];exact aL _) rfl
end Go.Proofs.YtldccnbokbieiaaGreat
