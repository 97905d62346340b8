/-
 Part 4 of what the claim rests on.
-/
import Derived.Test.YtldccnbokbieiaaGreatN2
import Derived.Test.YtldccnbokbieiaaGreatRows
import Derived.Lib.BytesEntry
set_option linter.unusedVariables false
set_option linter.unusedSimpArgs false
set_option maxRecDepth 100000
set_option maxHeartbeats 16000000
namespace Go.Proofs.YtldccnbokbieiaaGreat
open Go.Am
@[go_sem] theorem k2:B7 Tryz.prog 2=.scal:=by kernel_rfl
@[go_sem] theorem c2:Tryz.prog.cellsOf 2=1:=by kernel_rfl
@[go_sem] theorem b2:Tryz.prog.bytesOf 2=8:=by kernel_rfl
@[go_sem] theorem z2:P2 Tryz.prog 2=some [.d (.int .i64 0)]:=by kernel_rfl
@[go_sem] theorem i2:SU Tryz.prog 2=some .i64:=by kernel_rfl
@[go_sem] theorem u2:(Tryz.prog.underlying 2).isSome=true:=by kernel_rfl
@[go_sem] theorem k3:B7 Tryz.prog 3=.scal:=by kernel_rfl
@[go_sem] theorem c3:Tryz.prog.cellsOf 3=1:=by kernel_rfl
@[go_sem] theorem b3:Tryz.prog.bytesOf 3=8:=by kernel_rfl
@[go_sem] theorem z3:P2 Tryz.prog 3=some [.d (.int .i64 0)]:=by kernel_rfl
@[go_sem] theorem i3:SU Tryz.prog 3=some .i64:=by kernel_rfl
@[go_sem] theorem u3:(Tryz.prog.underlying 3).isSome=true:=by kernel_rfl
@[go_sem] theorem k4:B7 Tryz.prog 4=.scal:=by kernel_rfl
@[go_sem] theorem c4:Tryz.prog.cellsOf 4=1:=by kernel_rfl
@[go_sem] theorem b4:Tryz.prog.bytesOf 4=1:=by kernel_rfl
@[go_sem] theorem z4:P2 Tryz.prog 4=some [.d (.bool false)]:=by kernel_rfl
@[go_sem] theorem u4:(Tryz.prog.underlying 4).isSome=true:=by kernel_rfl
@[go_sem] theorem k5:B7 Tryz.prog 5=.scal:=by kernel_rfl
@[go_sem] theorem c5:Tryz.prog.cellsOf 5=1:=by kernel_rfl
@[go_sem] theorem b5:Tryz.prog.bytesOf 5=1:=by kernel_rfl
@[go_sem] theorem z5:P2 Tryz.prog 5=some [.d (.int .u8 0)]:=by kernel_rfl
@[go_sem] theorem i5:SU Tryz.prog 5=some .u8:=by kernel_rfl
@[go_sem] theorem u5:(Tryz.prog.underlying 5).isSome=true:=by kernel_rfl
@[go_sem] theorem k9:B7 Tryz.prog 9=.str:=by kernel_rfl
@[go_sem] theorem c9:Tryz.prog.cellsOf 9=1:=by kernel_rfl
@[go_sem] theorem b9:Tryz.prog.bytesOf 9=16:=by kernel_rfl
@[go_sem] theorem z9:P2 Tryz.prog 9=some [.d (.str [])]:=by kernel_rfl
@[go_sem] theorem u9:(Tryz.prog.underlying 9).isSome=true:=by kernel_rfl
@[go_sem] theorem k22:B7 Tryz.prog 22=.slice 5:=by kernel_rfl
@[go_sem] theorem c22:Tryz.prog.cellsOf 22=1:=by kernel_rfl
@[go_sem] theorem b22:Tryz.prog.bytesOf 22=24:=by kernel_rfl
@[go_sem] theorem z22:P2 Tryz.prog 22=some [.nil]:=by kernel_rfl
@[go_sem] theorem u22:(Tryz.prog.underlying 22).isSome=true:=by kernel_rfl
@[go_sem] theorem k23:B7 Tryz.prog 23=.arr 32 5:=by kernel_rfl
@[go_sem] theorem c23:Tryz.prog.cellsOf 23=32:=by kernel_rfl
@[go_sem] theorem b23:Tryz.prog.bytesOf 23=32:=by kernel_rfl
@[go_sem] theorem u23:(Tryz.prog.underlying 23).isSome=true:=by kernel_rfl
@[go_sem] theorem k25:B7 Tryz.prog 25=.slice 23:=by kernel_rfl
@[go_sem] theorem c25:Tryz.prog.cellsOf 25=1:=by kernel_rfl
@[go_sem] theorem b25:Tryz.prog.bytesOf 25=24:=by kernel_rfl
@[go_sem] theorem z25:P2 Tryz.prog 25=some [.nil]:=by kernel_rfl
@[go_sem] theorem u25:(Tryz.prog.underlying 25).isSome=true:=by kernel_rfl
@[go_sem] theorem k27:B7 Tryz.prog 27=.struct [(0,23),(32,25),(33,22)]:=by kernel_rfl
@[go_sem] theorem c27:Tryz.prog.cellsOf 27=34:=by kernel_rfl
@[go_sem] theorem b27:Tryz.prog.bytesOf 27=80:=by kernel_rfl
@[go_sem] theorem u27:(Tryz.prog.underlying 27).isSome=true:=by kernel_rfl
@[go_sem] theorem k41:B7 Tryz.prog 41=.slice 22:=by kernel_rfl
@[go_sem] theorem c41:Tryz.prog.cellsOf 41=1:=by kernel_rfl
@[go_sem] theorem b41:Tryz.prog.bytesOf 41=24:=by kernel_rfl
@[go_sem] theorem z41:P2 Tryz.prog 41=some [.nil]:=by kernel_rfl
@[go_sem] theorem u41:(Tryz.prog.underlying 41).isSome=true:=by kernel_rfl
@[go_sem] theorem k42:B7 Tryz.prog 42=.slice 27:=by kernel_rfl
@[go_sem] theorem c42:Tryz.prog.cellsOf 42=1:=by kernel_rfl
@[go_sem] theorem b42:Tryz.prog.bytesOf 42=24:=by kernel_rfl
@[go_sem] theorem z42:P2 Tryz.prog 42=some [.nil]:=by kernel_rfl
@[go_sem] theorem u42:(Tryz.prog.underlying 42).isSome=true:=by kernel_rfl
@[go_sem] theorem k47:B7 Tryz.prog 47=.struct [(0,23),(32,22),(33,2),(34,23)]:=by kernel_rfl
@[go_sem] theorem c47:Tryz.prog.cellsOf 47=66:=by kernel_rfl
@[go_sem] theorem b47:Tryz.prog.bytesOf 47=96:=by kernel_rfl
@[go_sem] theorem u47:(Tryz.prog.underlying 47).isSome=true:=by kernel_rfl
@[go_sem] theorem k53:B7 Tryz.prog 53=.scal:=by kernel_rfl
@[go_sem] theorem c53:Tryz.prog.cellsOf 53=1:=by kernel_rfl
@[go_sem] theorem b53:Tryz.prog.bytesOf 53=4:=by kernel_rfl
@[go_sem] theorem z53:P2 Tryz.prog 53=some [.d (.int .u32 0)]:=by kernel_rfl
@[go_sem] theorem i53:SU Tryz.prog 53=some .u32:=by kernel_rfl
@[go_sem] theorem u53:(Tryz.prog.underlying 53).isSome=true:=by kernel_rfl
@[go_sem] theorem k60:B7 Tryz.prog 60=.arr 2 2:=by kernel_rfl
@[go_sem] theorem c60:Tryz.prog.cellsOf 60=2:=by kernel_rfl
@[go_sem] theorem b60:Tryz.prog.bytesOf 60=16:=by kernel_rfl
@[go_sem] theorem z60:P2 Tryz.prog 60=some [.d (.int .i64 0),.d (.int .i64 0)]:=by kernel_rfl
@[go_sem] theorem u60:(Tryz.prog.underlying 60).isSome=true:=by kernel_rfl
@[go_sem] theorem k70:B7 Tryz.prog 70=.scal:=by kernel_rfl
@[go_sem] theorem c70:Tryz.prog.cellsOf 70=1:=by kernel_rfl
@[go_sem] theorem b70:Tryz.prog.bytesOf 70=8:=by kernel_rfl
@[go_sem] theorem z70:P2 Tryz.prog 70=some [.d (.int .u64 0)]:=by kernel_rfl
@[go_sem] theorem i70:SU Tryz.prog 70=some .u64:=by kernel_rfl
@[go_sem] theorem u70:(Tryz.prog.underlying 70).isSome=true:=by kernel_rfl
@[go_sem] theorem k79:B7 Tryz.prog 79=.struct [(0,22),(1,23),(33,60),(35,2)]:=by kernel_rfl
@[go_sem] theorem c79:Tryz.prog.cellsOf 79=36:=by kernel_rfl
@[go_sem] theorem b79:Tryz.prog.bytesOf 79=80:=by kernel_rfl
@[go_sem] theorem u79:(Tryz.prog.underlying 79).isSome=true:=by kernel_rfl
@[go_sem] theorem k94:B7 Tryz.prog 94=.slice 96:=by kernel_rfl
@[go_sem] theorem c94:Tryz.prog.cellsOf 94=1:=by kernel_rfl
@[go_sem] theorem b94:Tryz.prog.bytesOf 94=24:=by kernel_rfl
@[go_sem] theorem z94:P2 Tryz.prog 94=some [.nil]:=by kernel_rfl
@[go_sem] theorem u94:(Tryz.prog.underlying 94).isSome=true:=by kernel_rfl
@[go_sem] theorem k96:B7 Tryz.prog 96=.struct [(0,23),(32,3),(33,3)]:=by kernel_rfl
@[go_sem] theorem c96:Tryz.prog.cellsOf 96=34:=by kernel_rfl
@[go_sem] theorem b96:Tryz.prog.bytesOf 96=48:=by kernel_rfl
@[go_sem] theorem u96:(Tryz.prog.underlying 96).isSome=true:=by kernel_rfl
@[go_sem] theorem k99:B7 Tryz.prog 99=.slice 102:=by kernel_rfl
@[go_sem] theorem c99:Tryz.prog.cellsOf 99=1:=by kernel_rfl
@[go_sem] theorem b99:Tryz.prog.bytesOf 99=24:=by kernel_rfl
@[go_sem] theorem z99:P2 Tryz.prog 99=some [.nil]:=by kernel_rfl
@[go_sem] theorem u99:(Tryz.prog.underlying 99).isSome=true:=by kernel_rfl
@[go_sem] theorem k100:B7 Tryz.prog 100=.slice 3:=by kernel_rfl
@[go_sem] theorem c100:Tryz.prog.cellsOf 100=1:=by kernel_rfl
@[go_sem] theorem b100:Tryz.prog.bytesOf 100=24:=by kernel_rfl
@[go_sem] theorem z100:P2 Tryz.prog 100=some [.nil]:=by kernel_rfl
@[go_sem] theorem u100:(Tryz.prog.underlying 100).isSome=true:=by kernel_rfl
@[go_sem] theorem k102:B7 Tryz.prog 102=.struct [(0,23),(32,100)]:=by kernel_rfl
@[go_sem] theorem c102:Tryz.prog.cellsOf 102=33:=by kernel_rfl
@[go_sem] theorem b102:Tryz.prog.bytesOf 102=56:=by kernel_rfl
@[go_sem] theorem u102:(Tryz.prog.underlying 102).isSome=true:=by kernel_rfl
@[go_sem] theorem k130:B7 Tryz.prog 130=.struct [(0,5),(1,22)]:=by kernel_rfl
@[go_sem] theorem c130:Tryz.prog.cellsOf 130=2:=by kernel_rfl
@[go_sem] theorem b130:Tryz.prog.bytesOf 130=32:=by kernel_rfl
@[go_sem] theorem z130:P2 Tryz.prog 130=some [.d (.int .u8 0),.nil]:=by kernel_rfl
@[go_sem] theorem u130:(Tryz.prog.underlying 130).isSome=true:=by kernel_rfl
@[go_sem] theorem k134:B7 Tryz.prog 134=.slice 130:=by kernel_rfl
@[go_sem] theorem c134:Tryz.prog.cellsOf 134=1:=by kernel_rfl
@[go_sem] theorem b134:Tryz.prog.bytesOf 134=24:=by kernel_rfl
@[go_sem] theorem z134:P2 Tryz.prog 134=some [.nil]:=by kernel_rfl
@[go_sem] theorem u134:(Tryz.prog.underlying 134).isSome=true:=by kernel_rfl
@[go_sem] theorem k146:B7 Tryz.prog 146=.scal:=by kernel_rfl
@[go_sem] theorem c146:Tryz.prog.cellsOf 146=1:=by kernel_rfl
@[go_sem] theorem b146:Tryz.prog.bytesOf 146=8:=by kernel_rfl
@[go_sem] theorem z146:P2 Tryz.prog 146=some [.d (.int .u64 0)]:=by kernel_rfl
@[go_sem] theorem i146:SU Tryz.prog 146=some .u64:=by kernel_rfl
@[go_sem] theorem u146:(Tryz.prog.underlying 146).isSome=true:=by kernel_rfl
@[go_sem] theorem k160:B7 Tryz.prog 160=.arr 4 70:=by kernel_rfl
@[go_sem] theorem c160:Tryz.prog.cellsOf 160=4:=by kernel_rfl
@[go_sem] theorem b160:Tryz.prog.bytesOf 160=32:=by kernel_rfl
@[go_sem] theorem z160:P2 Tryz.prog 160=some [.d (.int .u64 0),.d (.int .u64 0),.d (.int .u64 0),.d (.int .u64 0)]:=by kernel_rfl
@[go_sem] theorem u160:(Tryz.prog.underlying 160).isSome=true:=by kernel_rfl
@[go_sem] theorem k162:B7 Tryz.prog 162=.struct [(0,160),(4,160),(8,4)]:=by kernel_rfl
@[go_sem] theorem c162:Tryz.prog.cellsOf 162=9:=by kernel_rfl
@[go_sem] theorem b162:Tryz.prog.bytesOf 162=72:=by kernel_rfl
@[go_sem] theorem z162:P2 Tryz.prog 162=some [.d (.int .u64 0),.d (.int .u64 0),.d (.int .u64 0),.d (.int .u64 0),.d (.int .u64 0),.d (.int .u64 0),.d (.int .u64 0),.d (.int .u64 0),.d (.bool false)]:=by kernel_rfl
@[go_sem] theorem u162:(Tryz.prog.underlying 162).isSome=true:=by kernel_rfl
@[go_sem] theorem k181:B7 Tryz.prog 181=.slice 53:=by kernel_rfl
@[go_sem] theorem c181:Tryz.prog.cellsOf 181=1:=by kernel_rfl
@[go_sem] theorem b181:Tryz.prog.bytesOf 181=24:=by kernel_rfl
@[go_sem] theorem z181:P2 Tryz.prog 181=some [.nil]:=by kernel_rfl
@[go_sem] theorem u181:(Tryz.prog.underlying 181).isSome=true:=by kernel_rfl
@[go_sem] theorem k185:B7 Tryz.prog 185=.arr 8 53:=by kernel_rfl
@[go_sem] theorem c185:Tryz.prog.cellsOf 185=8:=by kernel_rfl
@[go_sem] theorem b185:Tryz.prog.bytesOf 185=32:=by kernel_rfl
@[go_sem] theorem z185:P2 Tryz.prog 185=some [.d (.int .u32 0),.d (.int .u32 0),.d (.int .u32 0),.d (.int .u32 0),.d (.int .u32 0),.d (.int .u32 0),.d (.int .u32 0),.d (.int .u32 0)]:=by kernel_rfl
@[go_sem] theorem u185:(Tryz.prog.underlying 185).isSome=true:=by kernel_rfl
@[go_sem] theorem k188:B7 Tryz.prog 188=.struct [(0,185),(8,22),(9,70)]:=by kernel_rfl
@[go_sem] theorem c188:Tryz.prog.cellsOf 188=10:=by kernel_rfl
@[go_sem] theorem b188:Tryz.prog.bytesOf 188=64:=by kernel_rfl
@[go_sem] theorem z188:P2 Tryz.prog 188=some [.d (.int .u32 0),.d (.int .u32 0),.d (.int .u32 0),.d (.int .u32 0),.d (.int .u32 0),.d (.int .u32 0),.d (.int .u32 0),.d (.int .u32 0),.nil,.d (.int .u64 0)]:=by kernel_rfl
@[go_sem] theorem u188:(Tryz.prog.underlying 188).isSome=true:=by kernel_rfl
@[go_sem] theorem k191:B7 Tryz.prog 191=.scal:=by kernel_rfl
@[go_sem] theorem c191:Tryz.prog.cellsOf 191=1:=by kernel_rfl
@[go_sem] theorem b191:Tryz.prog.bytesOf 191=2:=by kernel_rfl
@[go_sem] theorem z191:P2 Tryz.prog 191=some [.d (.int .u16 0)]:=by kernel_rfl
@[go_sem] theorem i191:SU Tryz.prog 191=some .u16:=by kernel_rfl
@[go_sem] theorem u191:(Tryz.prog.underlying 191).isSome=true:=by kernel_rfl
@[go_sem] theorem k199:B7 Tryz.prog 199=.struct [(0,160),(4,160),(8,160)]:=by kernel_rfl
@[go_sem] theorem c199:Tryz.prog.cellsOf 199=12:=by kernel_rfl
@[go_sem] theorem b199:Tryz.prog.bytesOf 199=96:=by kernel_rfl
@[go_sem] theorem z199:P2 Tryz.prog 199=some [.d (.int .u64 0),.d (.int .u64 0),.d (.int .u64 0),.d (.int .u64 0),.d (.int .u64 0),.d (.int .u64 0),.d (.int .u64 0),.d (.int .u64 0),.d (.int .u64 0),.d (.int .u64 0),.d (.int .u64 0),.d (.int .u64 0)]:=by kernel_rfl
@[go_sem] theorem u199:(Tryz.prog.underlying 199).isSome=true:=by kernel_rfl
@[go_sem] theorem k208:B7 Tryz.prog 208=.struct [(0,160),(4,160),(8,160)]:=by kernel_rfl
@[go_sem] theorem c208:Tryz.prog.cellsOf 208=12:=by kernel_rfl
@[go_sem] theorem b208:Tryz.prog.bytesOf 208=96:=by kernel_rfl
@[go_sem] theorem z208:P2 Tryz.prog 208=some [.d (.int .u64 0),.d (.int .u64 0),.d (.int .u64 0),.d (.int .u64 0),.d (.int .u64 0),.d (.int .u64 0),.d (.int .u64 0),.d (.int .u64 0),.d (.int .u64 0),.d (.int .u64 0),.d (.int .u64 0),.d (.int .u64 0)]:=by kernel_rfl
@[go_sem] theorem u208:(Tryz.prog.underlying 208).isSome=true:=by kernel_rfl
@[go_sem] theorem k219:B7 Tryz.prog 219=.arr 64 53:=by kernel_rfl
@[go_sem] theorem c219:Tryz.prog.cellsOf 219=64:=by kernel_rfl
@[go_sem] theorem b219:Tryz.prog.bytesOf 219=256:=by kernel_rfl
@[go_sem] theorem u219:(Tryz.prog.underlying 219).isSome=true:=by kernel_rfl
@[go_sem] theorem k230:B7 Tryz.prog 230=.arr 8 70:=by kernel_rfl
@[go_sem] theorem c230:Tryz.prog.cellsOf 230=8:=by kernel_rfl
@[go_sem] theorem b230:Tryz.prog.bytesOf 230=64:=by kernel_rfl
@[go_sem] theorem z230:P2 Tryz.prog 230=some [.d (.int .u64 0),.d (.int .u64 0),.d (.int .u64 0),.d (.int .u64 0),.d (.int .u64 0),.d (.int .u64 0),.d (.int .u64 0),.d (.int .u64 0)]:=by kernel_rfl
@[go_sem] theorem u230:(Tryz.prog.underlying 230).isSome=true:=by kernel_rfl
@[go_sem] theorem k232:B7 Tryz.prog 232=.arr 16 70:=by kernel_rfl
@[go_sem] theorem c232:Tryz.prog.cellsOf 232=16:=by kernel_rfl
@[go_sem] theorem b232:Tryz.prog.bytesOf 232=128:=by kernel_rfl
@[go_sem] theorem u232:(Tryz.prog.underlying 232).isSome=true:=by kernel_rfl
@[go_sem] theorem k242:B7 Tryz.prog 242=.arr 10 70:=by kernel_rfl
@[go_sem] theorem c242:Tryz.prog.cellsOf 242=10:=by kernel_rfl
@[go_sem] theorem b242:Tryz.prog.bytesOf 242=80:=by kernel_rfl
@[go_sem] theorem z242:P2 Tryz.prog 242=some [.d (.int .u64 0),.d (.int .u64 0),.d (.int .u64 0),.d (.int .u64 0),.d (.int .u64 0),.d (.int .u64 0),.d (.int .u64 0),.d (.int .u64 0),.d (.int .u64 0),.d (.int .u64 0)]:=by kernel_rfl
@[go_sem] theorem u242:(Tryz.prog.underlying 242).isSome=true:=by kernel_rfl
end Go.Proofs.YtldccnbokbieiaaGreat
namespace Go.Sha
open Go.Am
def M:Nat:=4294967296
def RQ (a b:Nat):Nat:=(a+b) % 4294967296
def R4 (a b:Nat):Nat:=(a ^^^ b) % 4294967296
def n32 (a b:Nat):Nat:=(a &&& b) % 4294967296
def o32 (a b:Nat):Nat:=(a ||| b) % 4294967296
def c32 (a:Nat):Nat:=(4294967295 ^^^ a) % 4294967296
def s32 (n a:Nat):Nat:=a*2 ^ n % 4294967296
def I0 (n a:Nat):Nat:=a / 2 ^ n
def YD (a:Nat):Nat:=a % 4294967296
def t8 (a:Nat):Nat:=a % 256
def Vb (s x:Nat):Nat:=o32 (s32 s x) (I0 (32 - s) x)
theorem aqR (x:Int):IntKind.u32.wrap x=x % 4294967296:=by simp [IntKind.wrap,IntKind.bits,IntKind.signed]
theorem R3 (x:Int):IntKind.u64.wrap x=x % 18446744073709551616:=by simp [IntKind.wrap,IntKind.bits,IntKind.signed]
theorem u8w (x:Int):IntKind.u8.wrap x=x % 256:=by simp [IntKind.wrap,IntKind.bits,IntKind.signed]
theorem Ru (k:Nat) (a:Nat):(BitVec.ofInt k (a:Int)).toNat=a % 2 ^ k:=by
 rw [BitVec.toNat_ofInt];omega
theorem H8 (a b:Nat):IntKind.u32.wrap ((a:Int)+(b:Int))=((RQ a b:Nat):Int):=by rw [aqR];unfold RQ;omega
theorem abi (a:Nat):IntKind.u32.wrap (a:Int)=((YD a:Nat):Int):=by rw [aqR];unfold YD;omega
theorem E0 (a:Nat):IntKind.u8.wrap (a:Int)=((t8 a:Nat):Int):=by rw [u8w];unfold t8;omega
theorem agU (a b:Nat):IntKind.u32.wrap ((a:Int)*(b:Int))=((a*b % 4294967296:Nat):Int):=by
 rw [aqR,← Int.natCast_mul];omega
theorem apc (a n:Nat):IntKind.u32.wrap ((a:Int)*2 ^ n)=((s32 n a:Nat):Int):=by
 have:=agU a (2 ^ n);rw [Int.natCast_pow] at this;exact this
theorem as9 (a:Nat):IntKind.u32.wrap ((a:Int)*256)=((s32 8 a:Nat):Int):=agU a 256
theorem I7 (a b:Nat):bits .xor .u32 (a:Int) (b:Int)=((R4 a b:Nat):Int):=by
 show IntKind.u32.wrap (((BitVec.ofInt 32 (a:Int)) ^^^ (BitVec.ofInt 32 (b:Int))).toNat:Int)=_;rw [BitVec.toNat_xor,Ru,Ru,← Nat.xor_mod_two_pow,abi];unfold R4 YD;congr 1;omega
theorem M6 (a b:Nat):bits .and .u32 (a:Int) (b:Int)=((n32 a b:Nat):Int):=by
 show IntKind.u32.wrap (((BitVec.ofInt 32 (a:Int)) &&& (BitVec.ofInt 32 (b:Int))).toNat:Int)=_;rw [BitVec.toNat_and,Ru,Ru,← Nat.and_mod_two_pow,abi];unfold n32 YD;congr 1;omega
theorem anE (a b:Nat):bits .or .u32 (a:Int) (b:Int)=((o32 a b:Nat):Int):=by
 show IntKind.u32.wrap (((BitVec.ofInt 32 (a:Int)) ||| (BitVec.ofInt 32 (b:Int))).toNat:Int)=_;rw [BitVec.toNat_or,Ru,Ru,← Nat.or_mod_two_pow,abi];unfold o32 YD;congr 1;omega
theorem apd (a:Nat):bits .xor .u32 4294967295 (a:Int)=((c32 a:Nat):Int):=I7 4294967295 a
theorem O4 (a b:Nat):Int.fdiv (a:Int) (b:Int)=((a / b:Nat):Int):=by
 rw [Int.fdiv_eq_ediv_of_nonneg _ aa];exact (Int.natCast_ediv a b).symm
theorem d_r (a n:Nat):Int.fdiv (a:Int) (2 ^ n)=((I0 n a:Nat):Int):=by
 have:=O4 a (2 ^ n);rw [Int.natCast_pow] at this;exact this
theorem ata (a:Nat):Int.fdiv (a:Int) 8=((I0 3 a:Nat):Int):=O4 a 8
theorem apf (a:Nat):Int.fdiv (a:Int) 1024=((I0 10 a:Nat):Int):=O4 a 1024
def cw (l:List Nat):List AV:=l.map fun (x:Nat)=>AV.d (.int .u32 (x:Int))
theorem acl (l:List Nat):(cw l).length=l.length:=by simp [cw]
theorem UG (l:List Nat) (i:Nat):(cw l)[i]?=(l[i]?).map fun (x:Nat)=>AV.d (.int .u32 (x:Int)):=by simp [cw]
theorem afG (l:List Nat) (i x:Nat):(cw l).set i (.d (.int .u32 (x:Int)))=cw (l.set i x):=by simp [cw,List.map_set]
theorem akj (ρ:Nat→Nat):∀ l:List Nat,AV.renL ρ (cw l)=cw l
 | []=>by simp [cw,AV.renL]
 | x :: r=>by
  have:=akj ρ r;simp only [cw] at this;simp only [cw,List.map_cons,AV.renL,AV.ren,this]
def nb (bs:List Nat):DV:=.ro 1 (bs.map fun (b:Nat)=>[.int .u8 (b:Int)])
structure S8 where
 a:Nat
 b:Nat
 c:Nat
 d:Nat
 e:Nat
 f:Nat
 g:Nat
 h:Nat
def S8.l (s:S8):List Nat:=[s.a,s.b,s.c,s.d,s.e,s.f,s.g,s.h]
def T1 (s:S8) (k w:Nat):Nat:=RQ (RQ (RQ (RQ s.h (R4 (R4 (Vb 26 s.e) (Vb 21 s.e)) (Vb 7 s.e))) (R4 (n32 s.e s.f) (n32 (c32 s.e) s.g))) k) w
def T2 (s:S8):Nat:=RQ (R4 (R4 (Vb 30 s.a) (Vb 19 s.a)) (Vb 10 s.a)) (R4 (R4 (n32 s.a s.b) (n32 s.a s.c)) (n32 s.b s.c))
def rd (s:S8) (k w:Nat):S8:=⟨RQ (T1 s k w) (T2 s),s.a,s.b,s.c,RQ s.d (T1 s k w),s.e,s.f,s.g⟩
def rdp (s:S8) (p:Nat × Nat):S8:=rd s p.1 p.2
section
variable {α β:Type} (f:β→α→β)
def U6 (t:Nat) (l:List α) (s:β):β:=(l.drop t).foldl f s
theorem WG {l:List α} {p:α} {s:β} {t:Nat} (h:l[t]?=some p):U6 f t l s=U6 f (t+1) l (f s p):=by
 obtain ⟨h1,h2⟩:=List.getElem?_eq_some_iff.1 h;unfold U6;rw [List.drop_eq_getElem_cons h1,List.foldl_cons,h2]
theorem Yb {l:List α} {s:β} {t:Nat} (h:l.length≤t):U6 f t l s=s:=by
 unfold U6;rw [List.drop_eq_nil_of_le h,List.foldl_nil]
end
def acm (ks ws:List Nat) (s:S8):S8:=U6 rdp 0 (ks.zip ws) s
def YE (s v:S8):S8:=⟨RQ s.a v.a,RQ s.b v.b,RQ s.c v.c,RQ s.d v.d,RQ s.e v.e,RQ s.f v.f,RQ s.g v.g,RQ s.h v.h⟩
def Vd (b:List Nat):Nat:=b.foldl (fun x c=>o32 (s32 8 x) (YD c)) 0
def wx (w:List Nat):Nat :=
 let t:=w.length
 let x:=w.getD (t - 15) 0
 let y:=w.getD (t - 2) 0
 let s0:=R4 (R4 (Vb 25 x) (Vb 14 x)) (I0 3 x)
 let s1:=R4 (R4 (Vb 15 y) (Vb 13 y)) (I0 10 y)
 RQ (RQ (RQ (w.getD (t - 16) 0) s0) (w.getD (t - 7) 0)) s1
def Rq (b:List Nat):Nat→List Nat
 | 0=>[]
 | n+1=>Rq b n ++ [Vd ((b.take (4*n+4)).drop (4*n))]
def D7 (b:List Nat):Nat→List Nat
 | 0=>Rq b 16
 | n+1=>D7 b n ++ [wx (D7 b n)]
theorem UH (b:List Nat):∀ n,(Rq b n).length=n
 | 0=>rfl
 | n+1=>by simp [Rq,UH b n]
theorem Uf (b:List Nat):∀ n,(D7 b n).length=n+16
 | 0=>UH b 16
 | n+1=>by
  have:=Uf b n;simp only [D7,List.length_append,this,List.length_singleton]
def Ug (b:List Nat):List Nat:=D7 b 48
theorem VX (b:List Nat):(Ug b).length=64:=Uf b 48
def K:List Nat:=[0x428a2f98,0x71374491,0xb5c0fbcf,0xe9b5dba5,0x3956c25b,0x59f111f1,0x923f82a4,0xab1c5ed5] ++ [0xd807aa98,0x12835b01,0x243185be,0x550c7dc3,0x72be5d74,0x80deb1fe,0x9bdc06a7,0xc19bf174] ++
 [0xe49b69c1,0xefbe4786,0x0fc19dc6,0x240ca1cc,0x2de92c6f,0x4a7484aa,0x5cb0a9dc,0x76f988da] ++ [0x983e5152,0xa831c66d,0xb00327c8,0xbf597fc7,0xc6e00bf3,0xd5a79147,0x06ca6351,0x14292967] ++
 [0x27b70a85,0x2e1b2138,0x4d2c6dfc,0x53380d13,0x650a7354,0x766a0abb,0x81c2c92e,0x92722c85] ++ [0xa2bfe8a1,0xa81a664b,0xc24b8b70,0xc76c51a3,0xd192e819,0xd6990624,0xf40e3585,0x106aa070] ++
 [0x19a4c116,0x1e376c08,0x2748774c,0x34b0bcb5,0x391c0cb3,0x4ed8aa4a,0x5b9cca4f,0x682e6ff3] ++ [0x748f82ee,0x78a5636f,0x84c87814,0x8cc70208,0x90befffa,0xa4506ceb,0xbef9a3f7,0xc67178f2]
def H0:S8:=⟨0x6a09e667,0xbb67ae85,0x3c6ef372,0xa54ff53a,0x510e527f,0x9b05688c,0x1f83d9ab,0x5be0cd19⟩
def take (s:S8) (b:List Nat):S8:=YE s (acm K (Ug b) s)
def YF:Nat→S8→List Nat→S8 × List Nat
 | 0,s,b=>(s,b)
 | n+1,s,b=>if 64≤b.length then YF n (Go.Sha.take s (b.take 64)) (b.drop 64) else (s,b)
def wbk (x:Nat):Nat→List Nat
 | 0=>[]
 | k+1=>wbk x k ++ [t8 (I0 (24 - 8*k) x)]
theorem Y9 (x:Nat):∀ k,(wbk x k).length=k
 | 0=>rfl
 | k+1=>by simp [wbk,Y9 x k]
def pre (l:List Nat):Nat→List Nat
 | 0=>[]
 | i+1=>pre l i ++ wbk (l.getD i 0) 4
theorem Sk (l:List Nat):∀ i,(pre l i).length=4*i
 | 0=>rfl
 | i+1=>by simp [pre,Sk l i,Y9];omega
def dig (s:S8):List Nat:=pre s.l 8
end Go.Sha
namespace Go.Proofs.YtldccnbokbieiaaGreat
open Go.Am Go.Sha
def z64:List Nat:=List.replicate 64 0
theorem anF:z64.length=64:=rfl
@[go_sem] theorem axd:P2 Tryz.prog 219=some (cw z64):=by kernel_rfl
attribute [go_sem] anF acl
def cb (l:List Nat):List AV:=l.map fun (x:Nat)=>AV.d (.int .u8 (x:Int))
theorem d0 (l:List Nat):(cb l).length=l.length:=by simp [cb]
theorem aco (l:List Nat) (i:Nat):(cb l)[i]?=(l[i]?).map fun (x:Nat)=>AV.d (.int .u8 (x:Int)):=by simp [cb]
theorem ZQ (l:List Nat) (i x:Nat):(cb l).set i (.d (.int .u8 (x:Int)))=cb (l.set i x):=by simp [cb,List.map_set]
theorem p9 (n:Nat) (l:List Nat):∀ v,v ∈ cb l→v.low1 n:=by
 intro c hc;simp only [cb,List.mem_map] at hc;obtain ⟨x,_,rfl⟩:=hc
 trivial
theorem s6 (l:List Nat):∀ c,c ∈ cb l→c.deep1:=by
 intro c hc;simp only [cb,List.mem_map] at hc;obtain ⟨x,_,rfl⟩:=hc
 trivial
def z32:List Nat:=List.replicate 32 0
theorem anG:z32.length=32:=rfl
@[go_sem] theorem axe:P2 Tryz.prog 23=some (cb z32):=by kernel_rfl
attribute [go_sem] anG d0
theorem aqS:agA Tryz.prog 155=true:=by kernel_rfl
attribute [go_sem] aqS
theorem P5 (x s:Nat) (k:Int) (hs:bits .and .u64 (IntKind.u64.wrap k) 31=(s:Int)) (h1:s≤31) :
  d9 Tryz.prog 199 [.d (.int .u32 (x:Int)),.d (.int .i64 k)] (fun r=>r=.d (.int .u32 ((Vb s x:Nat):Int))):=by
 refine s8 Tryz.func199 Tryz.ntmps199 (rs:=[.tmp 4]) ae ?_;have e1:IntKind.u64.wrap (32 - (s:Int))=((32 - s:Nat):Int):=by rw [R3];omega
 have e2:min s 32=s:=aa;have e3:min (32 - s) 32=32 - s:=aa;simp [go_sem,hs,e1,e2,e3,IntKind.bits,d6];refine b7 ae ?_;rw [apc,d_r,anE];rfl
theorem aim:d9 Tryz.prog 155 [] (fun r=>r=.agg (cw H0.l)):=by
 refine s8 Tryz.func155 Tryz.ntmps155 (rs:=[.cell 0 185]) ae ?_;simp [go_sem,d6,Ub];exact b7 ae rfl
theorem anH (l:List Nat):∀ c,c ∈ cw l→c.deep1:=by
 intro c hc;simp only [cw,List.mem_map] at hc;obtain ⟨x,_,rfl⟩:=hc
 trivial
theorem adU:d9 Tryz.prog 198 [] (fun r=>r=.agg (cw K)):=by
 refine s8 Tryz.func198 Tryz.ntmps198 (rs:=[.cell 0 219]) ae ?_;have zz:P2 Tryz.prog 219=some (List.replicate 64 (.d (.int .u32 0))):=by kernel_rfl
 simp [go_sem,d6,zz];exact b7 ae rfl
theorem G3 {α:Type} {l:List α} {k:Nat} (h:k<l.length):∃ c,l[k]?=some c∧l.drop k=c :: l.drop (k+1) :=
 ⟨l[k],List.getElem?_eq_getElem h,List.drop_eq_getElem_cons h⟩
theorem m9 {k:Nat} (h:k<4611686018427387904):IntKind.i64.wrap ((k:Int)+1)=((k+1:Nat):Int):=by
 rw [IntWalk.i64_in _ aa];omega
theorem avT {n:Nat} (h:n<4611686018427387904):IntKind.i64.wrap (n:Int)=(n:Int):=IntWalk.i64_in _ aa
theorem D3 (n:Nat) (l:List Nat):∀ v,v ∈ cw l→v.low1 n:=by
 intro c hc;simp only [cw,List.mem_map] at hc;obtain ⟨x,_,rfl⟩:=hc
 trivial
def R9 (w:List Nat):List Nat:=w ++ List.replicate (64 - w.length) 0
theorem adV {w:List Nat} (h:w.length≤64):(R9 w).length=64:=by simp [R9];omega
theorem adW {w:List Nat} {i:Nat} (h:i<w.length):(R9 w)[i]?=some w[i]:=by
 unfold R9;rw [List.getElem?_append_left h,List.getElem?_eq_getElem h]
theorem ZR {w:List Nat} {x:Nat} (h:w.length<64):(R9 w).set w.length x=R9 (w ++ [x]):=by
 unfold R9;rw [List.set_append_right _ _ (Nat.le_refl _),Nat.sub_self];obtain ⟨k,hk⟩:∃ k,64 - w.length=k+1:=⟨63 - w.length,aa⟩;rw [hk,List.replicate_succ,List.set_cons_zero,List.append_assoc];simp only [List.length_append,List.length_singleton,List.singleton_append];rw [show 64 - (w.length+1)=k by omega]
theorem ain {w:List Nat} {x y:Nat} (h:w.length<64):(R9 (w ++ [x])).set w.length y=R9 (w ++ [y]):=by
 rw [← ZR h,← ZR h,List.set_set]
theorem akk {w:List Nat} {x:Nat} (h:w.length<64):(R9 (w ++ [x]))[w.length]?=some x:=by
 rw [adW ab];simp
theorem aio {w:List Nat} (h:w.length<64):R9 (w ++ [0])=R9 w:=by
 unfold R9;obtain ⟨k,hk⟩:∃ k,64 - w.length=k+1:=⟨63 - w.length,aa⟩;rw [hk,List.replicate_succ,List.append_assoc];simp only [List.length_append,List.length_singleton,List.singleton_append];rw [show 64 - (w.length+1)=k by omega]
theorem aip (q:List Nat) {j c:Nat} (h:q[j]?=some c):Vd (q.take (j+1))=o32 (s32 8 (Vd (q.take j))) (YD c):=by
 unfold Vd;rw [List.take_add_one,h,List.foldl_append];rfl
theorem abk (b:List Nat) (hb:b.length=64):d9 Tryz.prog 197 [.d (nb b)] (fun r=>r=.agg (cw (Ug b))):=by
 refine s8 Tryz.func197 Tryz.ntmps197 (rs:=[.cell 2 219]) ae ?_;simp only [go_sem,Nat.reduceEqDiff,Nat.reduceAdd,Nat.reduceLT,↓reduceIte,Nat.reduceMul,List.length_replicate]
 refine j6 (fun t:Nat=>⟨[(0,.d (nb b)),(2,.ptr 0 0 0 1),(3,.ptr 32 0 0 1),(12,.d (.int .i64 t))],[(32,⟨219,64,[cw (R9 (Rq b t))]⟩),(0,⟨219,64,[cw z64]⟩)],96⟩)
  (fun t=>t≤16) (fun t=>16 - t) 0 aa (by
   simp [m6,c6,fv,lk,AV.low,AV.low1]
   refine ⟨⟨rfl,D3 _ _⟩,D3 _ _⟩) ?_
 intro t ht;have e1:=UH b t;have w1:IntKind.i64.wrap (4*(t:Int))=((4*t:Nat):Int):=by rw [IntWalk.i64_in _ aa];omega
 have w2:IntKind.i64.wrap (((4*t:Nat):Int)+4)=((4*t+4:Nat):Int):=by rw [IntWalk.i64_in _ aa];omega
 simp only [go_sem,Nat.reduceEqDiff,Nat.reduceAdd,Nat.reduceLT,↓reduceIte];refine ⟨fun h=>?_,fun h=>?_⟩
 ·have hl4:((b.take (4*t+4)).drop (4*t)).length=4:=by simp;omega
  have hnb:((b.map fun (b:Nat)=>[DV.int .u8 (b:Int)]).take (4*t+4)).drop (4*t)=((b.take (4*t+4)).drop (4*t)).map fun (b:Nat)=>[DV.int .u8 (b:Int)]:=by simp [List.map_drop,List.map_take]
  simp only [go_sem,Nat.reduceEqDiff,Nat.reduceAdd,Nat.reduceLT,↓reduceIte,w1,w2,nb,Int.toNat_natCast,hnb,List.length_map,hl4];refine ⟨aa,aa,?_⟩
  refine j6 (fun j:Nat=>⟨[(0,.d (nb b)),(2,.ptr 0 0 0 1),(3,.ptr 32 0 0 1),(12,.d (.int .i64 t)),(4,.d (.int .i64 t)),(21,.d (nb ((b.take (4*t+4)).drop (4*t)))),(22,.d (.int .i64 (4:Nat))),(23,.d (.int .i64 j))],
    [(32,⟨219,64,[cw (R9 (Rq b t ++ [Vd (((b.take (4*t+4)).drop (4*t)).take j)]))]⟩),(0,⟨219,64,[cw z64]⟩)],480⟩)
   (fun j=>j≤4) (fun j=>4 - j) 0 aa (by
    simp [m6,c6,fv,lk,AV.low,AV.low1,nb,List.map_drop,List.map_take]
    exact ⟨⟨by rw [show Vd []=0 from rfl,aio aa],D3 _ _⟩,D3 _ _⟩) ?_
  intro j hj;simp only [go_sem,Nat.reduceEqDiff,Nat.reduceAdd,Nat.reduceLT,↓reduceIte];refine ⟨fun h2=>?_,fun h2=>?_⟩
  ·obtain ⟨c,hc,_⟩:=G3 (l:=(b.take (4*t+4)).drop (4*t)) (k:=j) aa
   have g1:(R9 (Rq b t ++ [Vd (((b.take (4*t+4)).drop (4*t)).take j)]))[t]?=some (Vd (((b.take (4*t+4)).drop (4*t)).take j)):=by
    have:=akk (w:=Rq b t) (x:=Vd (((b.take (4*t+4)).drop (4*t)).take j)) aa;rw [e1] at this;exact this
   have g2:∀ y,(R9 (Rq b t ++ [Vd (((b.take (4*t+4)).drop (4*t)).take j)])).set t y=R9 (Rq b t ++ [y]):=by
    intro y;have:=ain (w:=Rq b t) (x:=Vd (((b.take (4*t+4)).drop (4*t)).take j)) (y:=y) aa;rw [e1] at this;exact this
   have w3:=avT (n:=j+1) aa;have g3:(R9 (Rq b t ++ [Vd (((b.take (4*t+4)).drop (4*t)).take j)])).length=64:=adV (by simp;omega);generalize hq:(b.take (4*t+4)).drop (4*t)=q at *;simp [go_sem,nb,hc,UG,g1,IntKind.bits,as9,abi,anE,afG,g2,g3,e1];refine ⟨aa,aa,?_⟩;have w3:=m9 (k:=j) aa;rw [w3];refine c8 (j+1) aa aa ?_;simp [m6,c6,fv,lk,AV.low,AV.low1,aip q hc];exact ⟨D3 _ _,D3 _ _⟩
  ·have hj4:j=4:=aa;subst hj4;have w3:=m9 (k:=t) aa;rw [w3];refine c8 (t+1) aa aa ?_;have hfull:Vd (((b.take (4*t+4)).drop (4*t)).take 4)=Vd ((b.take (4*t+4)).drop (4*t)):=by rw [List.take_of_length_le aa]
   simp [m6,c6,fv,lk,AV.low,AV.low1,Rq];exact ⟨rfl,⟨by rw [hfull],D3 _ _⟩,D3 _ _⟩
 ·have ht16:t=16:=aa;subst ht16
  refine j6 (fun t:Nat=>⟨[(2,.ptr 0 0 0 1),(3,.ptr 32 0 0 1),(7,.d (.int .i64 ((t+16:Nat):Int)))],[(32,⟨219,64,[cw (R9 (D7 b t))]⟩),(0,⟨219,64,[cw z64]⟩)],128⟩)
   (fun t=>t≤48) (fun t=>48 - t) 0 aa (by
    simp [m6,c6,fv,lk,AV.low,AV.low1,D7]
    exact ⟨D3 _ _,D3 _ _⟩) ?_
  intro t ht;have e1:=Uf b t;simp only [go_sem,Nat.reduceEqDiff,Nat.reduceAdd,Nat.reduceLT,↓reduceIte];refine ⟨fun h=>?_,fun h=>?_⟩
  ·have i1:IntKind.i64.wrap (((t+16:Nat):Int) - 15)=((t+16 - 15:Nat):Int):=by rw [IntWalk.i64_in _ aa];omega
   have i2:IntKind.i64.wrap (((t+16:Nat):Int) - 2)=((t+16 - 2:Nat):Int):=by rw [IntWalk.i64_in _ aa];omega
   have i3:IntKind.i64.wrap (((t+16:Nat):Int) - 16)=((t+16 - 16:Nat):Int):=by rw [IntWalk.i64_in _ aa];omega
   have i4:IntKind.i64.wrap (((t+16:Nat):Int) - 7)=((t+16 - 7:Nat):Int):=by rw [IntWalk.i64_in _ aa];omega
   have gg:∀ i,i<t+16→(R9 (D7 b t))[i]?=some ((D7 b t).getD i 0):=by
    intro i hi;rw [adW aa,List.getD_eq_getElem?_getD,List.getElem?_eq_getElem aa];rfl
   have w3:=m9 (k:=t+16) aa;generalize hT:t+16=T at *;apply aj9 (0 :: 1 :: 2 :: 3 :: 4 :: 5 :: 6 :: 7 :: 8 :: 9 :: []) ([]) 0 (k:=10) (by kernel_rfl) (by kernel_rfl) rfl
   case hz=>repeat (first | exact Its.nil | apply Its.plain rfl | apply Its.guard rfl rfl)
   case hj=>exact Jts.nil
   intro G hG;have g15:=gg (T - 15) aa;have g2:=gg (T - 2) aa;have g16:=gg (T - 16) aa;have g7:=gg (T - 7) aa
   have hwx:wx (D7 b t)=RQ (RQ (RQ ((D7 b t).getD (T - 16) 0) (R4 (R4 (Vb 25 ((D7 b t).getD (T - 15) 0)) (Vb 14 ((D7 b t).getD (T - 15) 0))) (I0 3 ((D7 b t).getD (T - 15) 0)))) ((D7 b t).getD (T - 7) 0)) (R4 (R4 (Vb 15 ((D7 b t).getD (T - 2) 0)) (Vb 13 ((D7 b t).getD (T - 2) 0))) (I0 10 ((D7 b t).getD (T - 2) 0))):=by
    unfold wx;rw [e1]
   generalize (D7 b t).getD (T - 15) 0=x at g15 hwx;generalize (D7 b t).getD (T - 2) 0=y at g2 hwx;generalize (D7 b t).getD (T - 16) 0=u at g16 hwx;generalize (D7 b t).getD (T - 7) 0=v at g7 hwx;simp [go_sem,i1,i2,UG,g15,g2];refine ⟨aa,aa,hG _ _ ?_⟩;simp only [go_sem,Nat.reduceEqDiff,Nat.reduceAdd,Nat.reduceLT,↓reduceIte,Nat.reduceMul];refine a9 (P5 x 25 (-7) (by decide) aa) ae ?_;simp only [go_sem,Nat.reduceEqDiff,Nat.reduceAdd,Nat.reduceLT,↓reduceIte];refine a9 (P5 x 14 (-18) (by decide) aa) ae ?_;simp [go_sem,I7,IntKind.bits,ata];refine a9 (P5 y 15 (-17) (by decide) aa) ae ?_;simp only [go_sem,Nat.reduceEqDiff,Nat.reduceAdd,Nat.reduceLT,↓reduceIte];refine a9 (P5 y 13 (-19) (by decide) aa) ae ?_;simp [go_sem,I7,IntKind.bits,apf];apply aj9 (0 :: 1 :: 2 :: 3 :: 4 :: 5 :: 6 :: 7 :: 8 :: 9 :: 10 :: 11 :: 12 :: 13 :: 14 :: []) ((15,([])) :: []) 0 (k:=16) (by kernel_rfl) (by kernel_rfl) rfl
   case hz=>repeat (first | exact Its.nil | apply Its.plain rfl | apply Its.guard rfl rfl)
   case hj=>exact Jts.plain rfl Its.nil Jts.nil
   intro G hG
   have hset:(R9 (D7 b t)).set T (wx (D7 b t))=R9 (D7 b (t+1)):=by
    have:=ZR (w:=D7 b t) (x:=wx (D7 b t)) aa;rw [e1] at this;exact this
   rw [hwx] at hset;have hlen:(R9 (D7 b t)).length=64:=adV aa;simp [go_sem,i3,i4,UG,g16,g7,H8,afG,hset,hlen];refine ⟨aa,aa,aa,aa,hG _ _ ?_⟩;simp [go_sem,w3];refine c8 (t+1) aa aa ?_;subst hT;simp [m6,c6,fv,lk,AV.low,AV.low1];exact ⟨aa,D3 _ _,D3 _ _⟩
  ·have ht48:t=48:=aa;subst ht48
   have hfull:R9 (D7 b 48)=Ug b:=by
    have h0:∀ w:List Nat,w.length=64→R9 w=w:=fun w hw=>by unfold R9;rw [hw,Nat.sub_self,List.replicate_zero,List.append_nil]
    exact h0 _ e1
   rw [hfull];have hsl:=VX b;generalize Ug b=sb at hsl;have htk:(cw sb).take 64=cw sb:=List.take_of_length_le (by rw [acl];omega);simp [go_sem,d6,hsl,htk];exact b7 (by simp [AV.deep];exact anH _) rfl
def I5 (s:S8):List AV:=[.d (.int .u32 (s.a:Int)),.d (.int .u32 (s.b:Int)),.d (.int .u32 (s.c:Int)),.d (.int .u32 (s.d:Int)),.d (.int .u32 (s.e:Int)),.d (.int .u32 (s.f:Int)),.d (.int .u32 (s.g:Int)),.d (.int .u32 (s.h:Int))]
theorem Yc (s:S8):I5 s=cw s.l:=rfl
theorem YG:K.length=64:=rfl
def RR (s v:S8) (i:Nat):List Nat:=(List.zipWith RQ s.l v.l).take i ++ s.l.drop i
theorem adX (s v:S8) {i:Nat} (h:i≤8):(RR s v i).length=8:=by simp [RR,S8.l];omega
theorem abl (s v:S8):RR s v 0=s.l:=by simp [RR]
theorem adY (s v:S8):RR s v 8=(YE s v).l:=by simp [RR,S8.l,YE]
theorem abm (s v:S8) {i:Nat} (h:i<8):∃ x y,v.l[i]?=some y∧(RR s v i)[i]?=some x∧(RR s v i).set i (RQ x y)=RR s v (i+1):=by
 rcases (by omega:i=0 ∨ i=1 ∨ i=2 ∨ i=3 ∨ i=4 ∨ i=5 ∨ i=6 ∨ i=7) with rfl | rfl | rfl | rfl | rfl | rfl | rfl | rfl
 ·exact ⟨s.a,v.a,by simp [S8.l],by simp [RR,S8.l],by simp [RR,S8.l]⟩
 ·exact ⟨s.b,v.b,by simp [S8.l],by simp [RR,S8.l],by simp [RR,S8.l]⟩
 ·exact ⟨s.c,v.c,by simp [S8.l],by simp [RR,S8.l],by simp [RR,S8.l]⟩
 ·exact ⟨s.d,v.d,by simp [S8.l],by simp [RR,S8.l],by simp [RR,S8.l]⟩
 ·exact ⟨s.e,v.e,by simp [S8.l],by simp [RR,S8.l],by simp [RR,S8.l]⟩
 ·exact ⟨s.f,v.f,by simp [S8.l],by simp [RR,S8.l],by simp [RR,S8.l]⟩
 ·exact ⟨s.g,v.g,by simp [S8.l],by simp [RR,S8.l],by simp [RR,S8.l]⟩
 ·exact ⟨s.h,v.h,by simp [S8.l],by simp [RR,S8.l],by simp [RR,S8.l]⟩
theorem agV {l:List Nat} {tail:List AV} {i x:Nat} (h:l[i]?=some x):(cw l ++ tail)[i]?=some (.d (.int .u32 (x:Int))):=by
 have hl:i<(cw l).length:=by rw [acl];exact (List.getElem?_eq_some_iff.1 h).1
 rw [List.getElem?_append_left hl,UG,h];rfl
theorem agX {l:List Nat} {tail:List AV} {i x:Nat} (h:i<l.length):(cw l ++ tail).set i (.d (.int .u32 (x:Int)))=cw (l.set i x) ++ tail:=by
 rw [List.set_append_left _ _ (by rw [acl];exact h),afG]
theorem apg:(if IntKind.u32.signed=true then -1 else IntKind.u32.max)=(4294967295:Int):=by decide
theorem Za (ty:TypeId) (e:Nat) (s:S8) (tail:List AV) (b:List Nat) (hb:b.length=64) (htail:∀ n,∀ v,v ∈ tail→v.low1 n) :
  J9 Tryz.prog 156 1 [(0,⟨ty,e,[I5 s ++ tail]⟩)] [.ptr 0 0 0 1,.d (nb b)] (fun r hp'=>r=.tup []∧lk 0 hp'=some ⟨ty,e,[I5 (take s b) ++ tail]⟩):=by
 refine B9 Tryz.func156 (by kernel_rfl) rfl Tryz.ntmps156 (rs:=[]) rfl (TG rfl) (by decide) ?_;simp only [go_sem,Nat.reduceEqDiff,Nat.reduceAdd,Nat.reduceLT,↓reduceIte,Nat.reduceMul];refine a9 (abk b hb) ae ?_;simp only [go_sem,Nat.reduceEqDiff,Nat.reduceAdd,Nat.reduceLT,↓reduceIte,Nat.reduceMul];refine a9 adU ae ?_;have hsl:=VX b;have hzl:(K.zip (Ug b)).length=64:=by rw [List.length_zip,hsl,YG];rfl
 unfold Go.Sha.take acm;generalize Ug b=ws at *;have hz64:(cw z64).drop 64=[]:=rfl;generalize hR:U6 rdp 0 (K.zip ws) s=R;simp [go_sem,YG,hsl,I5,hz64]
 refine j6 (fun t:Nat × S8=>⟨[(0,.ptr 0 0 0 1),(4,.ptr 98 0 0 1),(5,.ptr 130 0 0 1),(6,.ptr 322 0 0 1),(19,.d (.int .i64 t.1))],
   [(322,⟨185,8,[I5 t.2]⟩),(130,⟨219,64,[cw K]⟩),(98,⟨219,64,[cw ws]⟩),(0,⟨ty,e,[I5 s ++ tail]⟩)],418⟩)
  (fun t=>t.1≤64∧U6 rdp t.1 (K.zip ws) t.2=R) (fun t=>64 - t.1) (0,s) ⟨aa,hR⟩ (by
   simp [m6,c6,fv,lk,AV.low,AV.low1,I5]
   exact ⟨D3 _ _,D3 _ _,fun v hv=>htail _ v hv⟩) ?_
 clear hR;rintro ⟨t,v⟩ ⟨ht,hR⟩;simp only at ht hR;simp only [go_sem,Nat.reduceEqDiff,Nat.reduceAdd,Nat.reduceLT,↓reduceIte];refine ⟨fun h=>?_,fun h=>?_⟩
 ·obtain ⟨k,hk,_⟩:=G3 (l:=K) (k:=t) (by rw [YG];omega);obtain ⟨w,hw,_⟩:=G3 (l:=ws) (k:=t) aa;have hz:(K.zip ws)[t]?=some (k,w):=by rw [List.getElem?_zip_eq_some];exact ⟨hk,hw⟩
  rw [WG rdp hz] at hR;simp only [go_sem,Nat.reduceEqDiff,Nat.reduceAdd,Nat.reduceLT,↓reduceIte,I5];simp [go_sem];refine z6 [0,1,2,4,7,11,12,13,14,15,16,17,18,19,20,22,23,24,26,27,28] [(3,[]),(5,[6]),(8,[9,10,21,25,29,30])] 3 (k:=31) ?_;intro G hG;simp [go_sem,UG,hk,hw,I7,M6,apg,apd,H8];refine ⟨aa,?_⟩;refine a9 (P5 v.e 26 (-6) (by decide) aa) ae ?_;simp [go_sem,I7,M6,H8];refine a9 (P5 v.e 21 (-11) (by decide) aa) ae ?_;simp [go_sem,I7,M6,H8];refine a9 (P5 v.e 7 (-25) (by decide) aa) ae ?_;simp [go_sem,I7,M6,H8];have hT1:RQ (RQ (RQ (RQ v.h (R4 (R4 (Vb 26 v.e) (Vb 21 v.e)) (Vb 7 v.e))) (R4 (n32 v.e v.f) (n32 (c32 v.e) v.g))) k) w=T1 v k w:=by unfold T1;with_reducible rfl
  rw [hT1];refine hG _ _ ?_;clear hG G;simp [go_sem];refine z6 [0,2,5,8,9,10,11,12,13,14,15,16,17,18,19,20,21,22] [(1,[]),(3,[4]),(6,[7,23,24])] 3 (k:=25) ?_;intro G hG;simp [go_sem,I7,M6,H8];refine a9 (P5 v.a 30 (-2) (by decide) aa) ae ?_;simp [go_sem,I7,M6,H8];refine a9 (P5 v.a 19 (-13) (by decide) aa) ae ?_;simp [go_sem,I7,M6,H8];refine a9 (P5 v.a 10 (-22) (by decide) aa) ae ?_;simp [go_sem,I7,M6,H8];have hT2:RQ (R4 (R4 (Vb 30 v.a) (Vb 19 v.a)) (Vb 10 v.a)) (R4 (R4 (n32 v.a v.b) (n32 v.a v.c)) (n32 v.b v.c))=T2 v:=by unfold T2;with_reducible rfl
  rw [hT2];refine hG _ _ ?_;clear hG G;have w3:=m9 (k:=t) aa;simp [go_sem,H8,Ub,w3];refine c8 (t+1,rdp v (k,w)) ⟨by simp only;omega,hR⟩ (by simp only;omega) ?_;simp [m6,c6,fv,lk,AV.low,AV.low1,I5,rdp,rd];exact ⟨D3 _ _,D3 _ _,fun v hv=>htail _ v hv⟩
 ·have ht64:t=64:=aa;subst ht64;rw [Yb rdp aa] at hR;subst hR
  refine j6 (fun i:Nat=>⟨[(0,.ptr 0 0 0 1),(6,.ptr 322 0 0 1),(101,.d (.int .i64 i))],[(322,⟨185,8,[cw v.l]⟩),(0,⟨ty,e,[cw (RR s v i) ++ tail]⟩)],482⟩)
   (fun i=>i≤8) (fun i=>8 - i) 0 aa (by
    simp [m6,c6,fv,lk,AV.low,AV.low1,abl,Yc];refine ⟨D3 _ _,fun v hv=>?_⟩;rcases hv with hv | hv
    ·exact D3 _ _ v hv
    ·exact htail _ v hv) ?_
  intro i hi;simp only [go_sem,Nat.reduceEqDiff,Nat.reduceAdd,Nat.reduceLT,↓reduceIte];refine ⟨fun h=>?_,fun h=>?_⟩
  ·obtain ⟨x,y,hy,hx,hset⟩:=abm s v (i:=i) aa;have hml:=adX s v hi;refine z6 [0,1,2,3,4,5,6,7,8,9,10] [(11,[])] 0 (k:=12) ?_;intro G hG;have hs2:=agX (l:=RR s v i) (tail:=tail) (i:=i) (x:=RQ x y) aa;rw [hset] at hs2;simp [go_sem,agV hx,UG,hy,H8,hs2,hml];refine ⟨aa,aa,hG _ _ ?_⟩;have w3:=m9 (k:=i) aa;simp [go_sem,w3];refine c8 (i+1) aa aa ?_;simp [m6,c6,fv,lk,AV.low,AV.low1];refine ⟨D3 _ _,fun v hv=>?_⟩;rcases hv with hv | hv
   ·exact D3 _ _ v hv
   ·exact htail _ v hv
  ·have hi8:i=8:=aa;subst hi8;simp [go_sem,d6,adY,Yc];simp [cw,S8.l]
def rb (L:List Nat):List (List AV):=L.map fun (x:Nat)=>[.d (.int .u8 (x:Int))]
theorem n9 (L:List Nat):(rb L).length=L.length:=by simp [rb]
theorem r5 (n:Nat) (L:List Nat):∀ r,r ∈ rb L→∀ v,v ∈ r→v.low1 n:=by
 intro r hr v hv;simp only [rb,List.mem_map] at hr;obtain ⟨x,_,rfl⟩:=hr;simp at hv;subst hv
 trivial
theorem anI (l:List Nat):∀ c,c ∈ cw l→c.flat1:=by
 intro c hc;simp only [cw,List.mem_map] at hc;obtain ⟨x,_,rfl⟩:=hc
 trivial
theorem agY {hp:Hp} {I:Nat→Prop}:∀ (L:List Nat),RowsR hp I (rb L) (L.map fun (x:Nat)=>[.int .u8 (x:Int)])
 | []=>.nil
 | x :: r=>.cons (.cons (.d _) .nil) (agY r)
theorem Xl {hp:Hp} {I:Nat→Prop} {id i0 n:Nat} {L:List Nat} (hb:lk id hp=some ⟨5,1,rb L⟩) (hI:I id) (h:i0+n≤L.length):SnapD hp I (.own id i0 n L.length) (nb ((L.drop i0).take n)):=by
 refine ZL hb hI (n9 L) (es:=((L.drop i0).take n).map fun (x:Nat)=>[.int .u8 (x:Int)]) ?_ (by simp;omega) (fun r hr=>by
  rw [List.mem_map] at hr;obtain ⟨c,_,rfl⟩:=hr
  rfl)
 have:((rb L).drop i0).take n=rb ((L.drop i0).take n):=by simp [rb,List.map_drop,List.map_take]
 rw [this];exact agY _
theorem YH (ty:TypeId) (e:Nat) (s:S8) (tail:List AV) (L:List Nat) (i0:Nat) (hi0:i0+64≤L.length) (htail:∀ n,∀ v,v ∈ tail→v.low1 n) :
  J9 Tryz.prog 156 2 [(0,⟨ty,e,[I5 s ++ tail]⟩),(1,⟨5,1,rb L⟩)] [.ptr 0 0 0 1,.own 1 i0 64 L.length] (fun r hp'=>r=.tup []∧lk 0 hp'=some ⟨ty,e,[I5 (take s ((L.drop i0).take 64)) ++ tail]⟩∧lk 1 hp'=some ⟨5,1,rb L⟩):=by
 refine B9 Tryz.func156 (by kernel_rfl) rfl Tryz.ntmps156 (rs:=[]) rfl (TG rfl) (by decide) ?_;simp only [go_sem,Nat.reduceEqDiff,Nat.reduceAdd,Nat.reduceLT,↓reduceIte,Nat.reduceMul];have hb:((L.drop i0).take 64).length=64:=by simp;omega
 refine Xj (abk ((L.drop i0).take 64) hb) rfl (m7 (.one (m8 (Xl rfl trivial hi0))) t4) (by simp [AV.flat];exact anI _) ?_;generalize (L.drop i0).take 64=b at *;simp only [go_sem,Nat.reduceEqDiff,Nat.reduceAdd,Nat.reduceLT,↓reduceIte,Nat.reduceMul];refine a9 adU ae ?_;have hsl:=VX b;have hzl:(K.zip (Ug b)).length=64:=by rw [List.length_zip,hsl,YG];rfl
 unfold Go.Sha.take acm;generalize Ug b=ws at *;have hz64:(cw z64).drop 64=[]:=rfl;generalize hR:U6 rdp 0 (K.zip ws) s=R;simp [go_sem,YG,hsl,I5,hz64]
 refine j6 (fun t:Nat × S8=>⟨[(0,.ptr 0 0 0 1),(4,.ptr 99 0 0 1),(5,.ptr 131 0 0 1),(6,.ptr 323 0 0 1),(19,.d (.int .i64 t.1))],
   [(323,⟨185,8,[I5 t.2]⟩),(131,⟨219,64,[cw K]⟩),(99,⟨219,64,[cw ws]⟩),(0,⟨ty,e,[I5 s ++ tail]⟩),(1,⟨5,1,rb L⟩)],419⟩)
  (fun t=>t.1≤64∧U6 rdp t.1 (K.zip ws) t.2=R) (fun t=>64 - t.1) (0,s) ⟨aa,hR⟩ (by
   simp [m6,c6,fv,lk,AV.low,AV.low1,I5]
   exact ⟨D3 _ _,D3 _ _,fun v hv=>htail _ v hv,r5 _ _⟩) ?_
 clear hR;rintro ⟨t,v⟩ ⟨ht,hR⟩;simp only at ht hR;simp only [go_sem,Nat.reduceEqDiff,Nat.reduceAdd,Nat.reduceLT,↓reduceIte];refine ⟨fun h=>?_,fun h=>?_⟩
 ·obtain ⟨k,hk,_⟩:=G3 (l:=K) (k:=t) (by rw [YG];omega);obtain ⟨w,hw,_⟩:=G3 (l:=ws) (k:=t) aa;have hz:(K.zip ws)[t]?=some (k,w):=by rw [List.getElem?_zip_eq_some];exact ⟨hk,hw⟩
  rw [WG rdp hz] at hR;simp only [go_sem,Nat.reduceEqDiff,Nat.reduceAdd,Nat.reduceLT,↓reduceIte,I5];simp [go_sem];refine z6 [0,1,2,4,7,11,12,13,14,15,16,17,18,19,20,22,23,24,26,27,28] [(3,[]),(5,[6]),(8,[9,10,21,25,29,30])] 3 (k:=31) ?_;intro G hG;simp [go_sem,UG,hk,hw,I7,M6,apg,apd,H8];refine ⟨aa,?_⟩;refine a9 (P5 v.e 26 (-6) (by decide) aa) ae ?_;simp [go_sem,I7,M6,H8];refine a9 (P5 v.e 21 (-11) (by decide) aa) ae ?_;simp [go_sem,I7,M6,H8];refine a9 (P5 v.e 7 (-25) (by decide) aa) ae ?_;simp [go_sem,I7,M6,H8];have hT1:RQ (RQ (RQ (RQ v.h (R4 (R4 (Vb 26 v.e) (Vb 21 v.e)) (Vb 7 v.e))) (R4 (n32 v.e v.f) (n32 (c32 v.e) v.g))) k) w=T1 v k w:=by unfold T1;with_reducible rfl
  rw [hT1];refine hG _ _ ?_;clear hG G;simp [go_sem];refine z6 [0,2,5,8,9,10,11,12,13,14,15,16,17,18,19,20,21,22] [(1,[]),(3,[4]),(6,[7,23,24])] 3 (k:=25) ?_;intro G hG;simp [go_sem,I7,M6,H8];refine a9 (P5 v.a 30 (-2) (by decide) aa) ae ?_;simp [go_sem,I7,M6,H8];refine a9 (P5 v.a 19 (-13) (by decide) aa) ae ?_;simp [go_sem,I7,M6,H8];refine a9 (P5 v.a 10 (-22) (by decide) aa) ae ?_;simp [go_sem,I7,M6,H8];have hT2:RQ (R4 (R4 (Vb 30 v.a) (Vb 19 v.a)) (Vb 10 v.a)) (R4 (R4 (n32 v.a v.b) (n32 v.a v.c)) (n32 v.b v.c))=T2 v:=by unfold T2;with_reducible rfl
  rw [hT2];refine hG _ _ ?_;clear hG G;have w3:=m9 (k:=t) aa;simp [go_sem,H8,Ub,w3];refine c8 (t+1,rdp v (k,w)) ⟨by simp only;omega,hR⟩ (by simp only;omega) ?_;simp [m6,c6,fv,lk,AV.low,AV.low1,I5,rdp,rd];exact ⟨D3 _ _,D3 _ _,fun v hv=>htail _ v hv,r5 _ _⟩
 ·have ht64:t=64:=aa;subst ht64;rw [Yb rdp aa] at hR;subst hR
  refine j6 (fun i:Nat=>⟨[(0,.ptr 0 0 0 1),(6,.ptr 323 0 0 1),(101,.d (.int .i64 i))],[(323,⟨185,8,[cw v.l]⟩),(0,⟨ty,e,[cw (RR s v i) ++ tail]⟩),(1,⟨5,1,rb L⟩)],483⟩)
   (fun i=>i≤8) (fun i=>8 - i) 0 aa (by
    simp [m6,c6,fv,lk,AV.low,AV.low1,abl,Yc];refine ⟨D3 _ _,fun v hv=>?_,r5 _ _⟩;rcases hv with hv | hv
    ·exact D3 _ _ v hv
    ·exact htail _ v hv) ?_
  intro i hi;simp only [go_sem,Nat.reduceEqDiff,Nat.reduceAdd,Nat.reduceLT,↓reduceIte];refine ⟨fun h=>?_,fun h=>?_⟩
  ·obtain ⟨x,y,hy,hx,hset⟩:=abm s v (i:=i) aa;have hml:=adX s v hi;refine z6 [0,1,2,3,4,5,6,7,8,9,10] [(11,[])] 0 (k:=12) ?_;intro G hG;have hs2:=agX (l:=RR s v i) (tail:=tail) (i:=i) (x:=RQ x y) aa;rw [hset] at hs2;simp [go_sem,agV hx,UG,hy,H8,hs2,hml];refine ⟨aa,aa,hG _ _ ?_⟩;have w3:=m9 (k:=i) aa;simp [go_sem,w3];refine c8 (i+1) aa aa ?_;simp [m6,c6,fv,lk,AV.low,AV.low1];refine ⟨D3 _ _,fun v hv=>?_,r5 _ _⟩;rcases hv with hv | hv
   ·exact D3 _ _ v hv
   ·exact htail _ v hv
  ·have hi8:i=8:=aa;subst hi8;simp [go_sem,d6,adY,Yc];simp [cw,S8.l]
theorem akl:J9 Tryz.prog 117 0 [] [] (fun r hp'=>r=.ptr 97 0 0 1∧lk 97 hp'=some ⟨188,10,[I5 H0 ++ [.nil,.d (.int .u64 0)]]⟩):=by
 refine B9 Tryz.func117 (by kernel_rfl) rfl Tryz.ntmps117 (rs:=[.tmp 0]) rfl (TG rfl) (by decide) ?_;simp only [go_sem,Nat.reduceEqDiff,Nat.reduceAdd,Nat.reduceLT,↓reduceIte,Nat.reduceMul];refine a9 aim ae ?_;simp [go_sem,d6,Ub,Sy,← Yc,I5]
theorem VY {β:Type} (f:β→List DV) (b:List β) {P:Program} {el:TypeId} {e:Nat} {es:List (List DV)} {nx:Nat} {Kk:AV→Hp→Prop} {hp:Hp}:M5 P el (.d (.rof e es)) (some (List.map ((fun r=>List.map AV.d r) ∘ f) b)) nx Kk hp=(e=P.cellsOf el∧(P2 P el).isSome=true∧P.bytesOf el ≠ 0∧(es.length+b.length)*P.bytesOf el≤140737488355328∧ach (Kk (.d (.ro e (es ++ b.map f))) hp) (b.map f ≠ []∧Kk (.own nx 0 (es.length+b.length) (es.length+b.length)) ((nx,⟨el,P.cellsOf el,es.map (fun r=>r.map AV.d) ++ List.map ((fun r=>List.map AV.d r) ∘ f) b⟩) :: hp))):=by
 have:=adQ (P:=P) (K:=Kk) (hp:=hp) (nx:=nx) el e es (b.map f);rw [List.map_map,List.length_map] at this;exact this
theorem TZ {α β:Type} (f:α→β) (l:List α):(l.map f).take l.length=l.map f:=by
 rw [List.take_of_length_le ab]
theorem eat_none (k:Nat) (s:S8) (b:List Nat) (h:b.length<64):YF k s b=(s,b):=by
 cases k with
 | zero=>rfl
 | succ k=>simp [YF];omega
theorem eat_more {k:Nat} {s:S8} {b:List Nat} (h:64≤b.length) (hk:b.length≤k):YF k s b=YF (k - 1) (Go.Sha.take s (b.take 64)) (b.drop 64):=by
 obtain ⟨j,rfl⟩:∃ j,k=j+1:=⟨k - 1,aa⟩;rw [YF,if_pos h];rfl
theorem akm (s:S8) (R:AV) (rest b:List Nat) (n:Int) (hR:R=.d (nb rest) ∨ (R=.nil∧rest=[])) (hl:rest.length+b.length≤1000000000000) :
  J9 Tryz.prog 118 1 [(0,⟨188,10,[I5 s ++ [R,.d (.int .u64 n)]]⟩)] [.ptr 0 0 0 1,.d (nb b)]
   (fun r hp'=>r=.tup []∧lk 0 hp'=some ⟨188,10,[I5 (YF ((rest ++ b).length) s (rest ++ b)).1 ++ [.d (nb (YF ((rest ++ b).length) s (rest ++ b)).2),.d (.int .u64 (IntKind.u64.wrap (n+(IntKind.u64.wrap (b.length:Int)))))]]⟩):=by
 refine B9 Tryz.func118 (by kernel_rfl) rfl Tryz.ntmps118 (rs:=[]) rfl (TG rfl) (by decide) ?_;generalize hn':IntKind.u64.wrap (n+(IntKind.u64.wrap (b.length:Int)))=n';generalize hE0:YF ((rest ++ b).length) s (rest ++ b)=E;rcases hR with rfl | ⟨rfl,rfl⟩
 ·simp [go_sem,nb,I5,hn'];refine z6 [0,1,2,3,4,5,6,7,8,9,10,11,12,13,14,15,16] [(17,[18,19]),(20,[])] 1 (k:=21) ?_;intro G hG;simp [go_sem,TZ,VY];refine ⟨by have:=hl;simp only [List.length_append,List.length_nil] at *;omega,.inl (hG _ _ ?_)⟩;clear hG G
  refine j6 (fun t:S8 × List Nat=>⟨[(0,.ptr 0 0 0 1)],[(0,⟨188,10,[I5 t.1 ++ [.d (nb t.2),.d (.int .u64 n')]]⟩)],1090⟩)
   (fun t=>t.2.length≤1000000000000∧∃ k,t.2.length≤k∧YF k t.1 t.2=E) (fun t=>t.2.length) (s,rest ++ b) ⟨by have:=hl;simp only [List.length_append,List.length_nil] at *;omega,_,Nat.le_refl _,hE0⟩ (by
    simp [m6,c6,fv,lk,AV.low,AV.low1,nb,I5]) ?_
  rintro ⟨s1,q⟩ ⟨hq,k,hk,hE⟩;simp only at hq hk hE;simp only [go_sem,Nat.reduceEqDiff,Nat.reduceAdd,Nat.reduceLT,↓reduceIte,I5,nb,List.length_map];refine ⟨fun h=>?_,fun h=>?_⟩
  ·have h64:64≤q.length:=aa;rw [eat_more h64 hk] at hE;refine z6 [0,1,2,3,4,5,6,7] [(8,[])] 0 (k:=9) ?_;intro G hG;simp [go_sem];refine ⟨aa,?_⟩;refine G6 [(0,0)] (Za 188 10 s1 [.d (nb q),.d (.int .u64 n')] (q.take 64) (by simp;omega) (by simp [AV.low1])) rfl ab (by simp [lk]) (by simp [lk,Blk.ren,H1,AV.renL,AV.ren,J6,TP,I5,nb]) (by simp [AV.renL,AV.ren,J6,TP,lk,nb,List.map_take]) ?_;rintro r hp' ⟨rfl,h0⟩;refine ⟨[],rfl,?_⟩;simp [go_sem,O0,L6,h0,Blk.ren,H1,AV.renL,AV.ren,J6,I5];refine hG _ _ ?_;clear hG G;simp [go_sem,nb];refine ⟨aa,?_⟩;refine c8 (Go.Sha.take s1 (q.take 64),q.drop 64) ⟨by simp only [List.length_drop];omega,k - 1,by simp only [List.length_drop];omega,hE⟩ (by simp only [List.length_drop];omega) ?_;simp [m6,c6,fv,lk,AV.low,AV.low1,nb,I5,List.map_drop,TZ]
  ·rw [eat_none k s1 q aa] at hE;subst hE;rfl
 ·simp [go_sem,nb,I5,hn'];refine z6 [0,1,2,3,4,5,6,7,8,9,10,11,12,13,14,15,16] [(17,[18,19]),(20,[])] 1 (k:=21) ?_;intro G hG;simp [go_sem,TZ,VY];refine ⟨by have:=hl;simp only [List.length_append,List.length_nil] at *;omega,.inl (hG _ _ ?_)⟩;clear hG G
  refine j6 (fun t:S8 × List Nat=>⟨[(0,.ptr 0 0 0 1)],[(0,⟨188,10,[I5 t.1 ++ [.d (nb t.2),.d (.int .u64 n')]]⟩)],1090⟩)
   (fun t=>t.2.length≤1000000000000∧∃ k,t.2.length≤k∧YF k t.1 t.2=E) (fun t=>t.2.length) (s,[] ++ b) ⟨by have:=hl;simp only [List.length_append,List.length_nil] at *;omega,_,Nat.le_refl _,hE0⟩ (by
    simp [m6,c6,fv,lk,AV.low,AV.low1,nb,I5]) ?_
  rintro ⟨s1,q⟩ ⟨hq,k,hk,hE⟩;simp only at hq hk hE;simp only [go_sem,Nat.reduceEqDiff,Nat.reduceAdd,Nat.reduceLT,↓reduceIte,I5,nb,List.length_map];refine ⟨fun h=>?_,fun h=>?_⟩
  ·have h64:64≤q.length:=aa;rw [eat_more h64 hk] at hE;refine z6 [0,1,2,3,4,5,6,7] [(8,[])] 0 (k:=9) ?_;intro G hG;simp [go_sem];refine ⟨aa,?_⟩;refine G6 [(0,0)] (Za 188 10 s1 [.d (nb q),.d (.int .u64 n')] (q.take 64) (by simp;omega) (by simp [AV.low1])) rfl ab (by simp [lk]) (by simp [lk,Blk.ren,H1,AV.renL,AV.ren,J6,TP,I5,nb]) (by simp [AV.renL,AV.ren,J6,TP,lk,nb,List.map_take]) ?_;rintro r hp' ⟨rfl,h0⟩;refine ⟨[],rfl,?_⟩;simp [go_sem,O0,L6,h0,Blk.ren,H1,AV.renL,AV.ren,J6,I5];refine hG _ _ ?_;clear hG G;simp [go_sem,nb];refine ⟨aa,?_⟩;refine c8 (Go.Sha.take s1 (q.take 64),q.drop 64) ⟨by simp only [List.length_drop];omega,k - 1,by simp only [List.length_drop];omega,hE⟩ (by simp only [List.length_drop];omega) ?_;simp [m6,c6,fv,lk,AV.low,AV.low1,nb,I5,List.map_drop,TZ]
  ·rw [eat_none k s1 q aa] at hE;subst hE;rfl
def padTo:Nat→List Nat→List Nat
 | 0,l=>l
 | n+1,l=>if l.length % 64=56 then l else padTo n (l ++ [0])
theorem WH {k:Nat} {l:List Nat} (h:l.length % 64 ≠ 56) (hk:0<k):padTo k l=padTo (k - 1) (l ++ [0]):=by
 obtain ⟨j,rfl⟩:∃ j,k=j+1:=⟨k - 1,aa⟩;rw [padTo,if_neg h];rfl
theorem Yd {k:Nat} {l:List Nat} (h:l.length % 64=56):padTo k l=l:=by
 cases k with
 | zero=>rfl
 | succ k=>rw [padTo,if_pos h]
theorem T0 (a b:List Nat):rb a ++ rb b=rb (a ++ b):=by simp [rb]
theorem M7 (a:List Nat) (x:Nat):rb a ++ [[AV.d (.int .u8 (x:Int))]]=rb (a ++ [x]):=by simp [rb]
theorem WI (a:List Nat):rb a ++ [[AV.d (.int .u8 128)]]=rb (a ++ [128]):=by simp [rb]
theorem ZS (a:List Nat):rb a ++ [[AV.d (.int .u8 0)]]=rb (a ++ [0]):=by simp [rb]
theorem F2 (a:List Nat):List.map ((fun r=>List.map AV.d r) ∘ fun (x:Nat)=>[DV.int .u8 (x:Int)]) a=rb a:=by simp [rb]
def len8 (m:Nat):Nat→List Nat
 | 0=>[]
 | j+1=>len8 m j ++ [t8 (I0 (56 - 8*j) m)]
theorem len8_len (m:Nat):∀ j,(len8 m j).length=j
 | 0=>rfl
 | j+1=>by simp [len8,len8_len m j]
def lastOf (rest:List Nat) (n:Nat):List Nat:=padTo 64 (rest ++ [128]) ++ len8 (n*8 % 18446744073709551616) 8
theorem akn (n:Nat):IntKind.u64.wrap ((n:Int)*8)=((n*8 % 18446744073709551616:Nat):Int):=by rw [R3];omega
theorem afH (n:Nat):Int.tmod (n:Int) 64=((n % 64:Nat):Int):=by
 have:=Int.ofNat_tmod n 64
 simpa using this.symm
theorem ako (s:S8) (a b:AV) (ha:∀ n,a.low1 n) (hb:∀ n,b.low1 n) (n:Nat):∀ v,v ∈ I5 s ++ [a,b]→v.low1 n:=by
 intro v hv;rcases List.mem_append.1 hv with h | h
 ·exact D3 n s.l v h
 ·simp only [List.mem_cons,List.mem_nil_iff,or_false] at h;rcases h with rfl | rfl
  ·exact ha n
  ·exact hb n
theorem R5 (s:S8) (a b:AV) (ha:∀ n,a.low1 n) (hb:∀ n,b.low1 n) (n:Nat):∀ v,v ∈ I5 s ∨ v=a ∨ v=b→v.low1 n:=by
 intro v hv;refine ako s a b ha hb n v ?_
 simpa using hv
theorem Q7 (s:S8) (n:Nat):∀ v,v ∈ I5 s→v.low1 n:=D3 n s.l
theorem agZ (ρ:Nat→Nat) (s:S8):AV.renL ρ (I5 s)=I5 s:=akj ρ s.l
theorem Tl (ρ:Nat→Nat) (L:List Nat):List.map (AV.renL ρ) (rb L)=rb L:=by
 simp [rb,AV.renL,AV.ren]
def RS (w:List Nat):List Nat:=w ++ List.replicate (32 - w.length) 0
theorem abn {w:List Nat} (h:w.length≤32):(RS w).length=32:=by simp [RS];omega
theorem abo {w:List Nat} {x:Nat} (h:w.length<32):(RS w).set w.length x=RS (w ++ [x]):=by
 unfold RS;rw [List.set_append_right _ _ (Nat.le_refl _),Nat.sub_self];obtain ⟨k,hk⟩:∃ k,32 - w.length=k+1:=⟨31 - w.length,aa⟩;rw [hk,List.replicate_succ,List.set_cons_zero,List.append_assoc];simp only [List.length_append,List.length_singleton,List.singleton_append];rw [show 32 - (w.length+1)=k by omega]
theorem ZT {w:List Nat} (h:w.length=32):RS w=w:=by unfold RS;rw [h];simp
theorem atb (s:S8):List.take 8 (I5 s)=I5 s:=rfl
theorem ag0 (s:S8) {i:Nat} (h:i<8):(I5 s)[i]?=some (.d (.int .u32 ((s.l.getD i 0:Nat):Int))):=by
 rw [Yc,UG,List.getD_eq_getElem?_getD];have:i<s.l.length:=h;rw [List.getElem?_eq_getElem this];rfl
theorem hd9 (s:S8) (a b:AV):(List.drop 9 (I5 s ++ [a,b])).head?=some b:=rfl
theorem tk8 (s:S8) (a b:AV):List.take 8 (I5 s ++ [a,b])=I5 s:=rfl
theorem Zb (s:S8):(I5 s).length=8:=rfl
theorem akp (s:S8) (R:AV) (rest:List Nat) (n:Nat) (hR:R=.d (nb rest) ∨ (R=.nil∧rest=[])) (hl:rest.length≤1000000000000) :
  J9 Tryz.prog 119 1 [(0,⟨188,10,[I5 s ++ [R,.d (.int .u64 (n:Int))]]⟩)] [.ptr 0 0 0 1]
   (fun r hp'=>r=.agg (cb (dig (YF (lastOf rest n).length s (lastOf rest n)).1))∧lk 0 hp'=some ⟨188,10,[I5 s ++ [R,.d (.int .u64 (n:Int))]]⟩):=by
 refine B9 Tryz.func119 (by kernel_rfl) rfl Tryz.ntmps119 (rs:=[.cell 2 23]) rfl (TG rfl) (by decide) ?_;rcases hR with rfl | ⟨rfl,rfl⟩
 ·simp [go_sem,nb,I5,F2,WI,n9];refine ⟨aa,aa,?_⟩
  refine j6 (fun l:List Nat=>⟨[(0,.ptr 0 0 0 1),(2,.ptr 2 0 0 1),(3,.own 98 0 l.length l.length)],[(98,⟨5,1,rb l⟩),(2,⟨23,32,[cb z32]⟩),(0,⟨188,10,[I5 s ++ [.d (nb rest),.d (.int .u64 (n:Int))]]⟩)],450⟩)
   (fun l=>l.length≤1000000000000+65∧∃ k,(120 - l.length % 64) % 64≤k∧(k+l.length≤1000000000000+65)∧padTo k l=padTo 64 (rest ++ [128])) (fun l=>(120 - l.length % 64) % 64) (rest ++ [128]) ⟨by have:=hl;simp only [List.length_append,List.length_nil,List.length_singleton] at *;omega,64,aa,by have:=hl;simp only [List.length_append,List.length_nil,List.length_singleton] at *;omega,rfl⟩ (by
    simp [m6,c6,fv,lk,AV.low,AV.low1,nb,I5]
    exact ⟨r5 _ _,p9 _ _⟩) ?_
  rintro l ⟨hl1,k,hk,hk2,hP⟩;have em:Int.tmod (l.length:Int) 64=((l.length % 64:Nat):Int):=afH _;simp only [go_sem,Nat.reduceEqDiff,Nat.reduceAdd,Nat.reduceLT,↓reduceIte,em];refine ⟨by decide,fun h=>?_,fun h=>?_⟩
  ·have h56:l.length % 64 ≠ 56:=aa;rw [WH h56 aa] at hP;refine ⟨by decide,n9 l,aa,?_⟩;rw [ZS];refine c8 (l ++ [0]) ⟨by simp only [List.length_append,List.length_singleton];omega,k - 1,by simp only [List.length_append,List.length_singleton];omega,by simp only [List.length_append,List.length_singleton];omega,hP⟩ (by simp only [List.length_append,List.length_singleton];omega) ?_;simp [m6,c6,fv,lk,AV.low,AV.low1];exact ⟨r5 _ _,p9 _ _,R5 s (.d (nb rest)) (.d (.int .u64 n)) (fun _=>trivial) (fun _=>trivial) _⟩
  ·have h56:l.length % 64=56:=aa;rw [Yd h56] at hP;simp only [go_sem,Nat.reduceEqDiff,Nat.reduceAdd,Nat.reduceLT,↓reduceIte,hd9,akn];have hm:lastOf rest n=l ++ len8 (n*8 % 18446744073709551616) 8:=by unfold lastOf;rw [← hP]
   generalize n*8 % 18446744073709551616=m at hm;generalize lastOf rest n=L at hm;clear hP hk hk2 hl
   refine j6 (fun j:Nat=>⟨[(0,.ptr 0 0 0 1),(2,.ptr 2 0 0 1),(3,.own 98 0 (l ++ len8 m j).length (l ++ len8 m j).length),(4,.d (.int .u64 (m:Int))),(5,.d (.int .i64 (56 - 8*(j:Int))))],[(98,⟨5,1,rb (l ++ len8 m j)⟩),(2,⟨23,32,[cb z32]⟩),(0,⟨188,10,[I5 s ++ [.d (nb rest),.d (.int .u64 (n:Int))]]⟩)],642⟩)
    (fun j=>j≤8) (fun j=>8 - j) 0 aa (by
     simp [m6,c6,fv,lk,AV.low,AV.low1,len8]
     exact ⟨r5 _ _,p9 _ _,R5 s (.d (nb rest)) (.d (.int .u64 n)) (fun _=>trivial) (fun _=>trivial) _⟩) ?_
   intro j hj;have hll:(l ++ len8 m j).length=l.length+j:=by rw [List.length_append,len8_len]
   have e8:(56:Int) - 8*(j:Int) - 8=56 - 8*((j+1:Nat):Int):=aa;have w8:IntKind.i64.wrap (56 - 8*(j:Int) - 8)=56 - 8*((j+1:Nat):Int):=by rw [IntWalk.i64_in _ aa];omega
   simp only [go_sem,Nat.reduceEqDiff,Nat.reduceAdd,Nat.reduceLT,↓reduceIte];refine ⟨fun h=>?_,fun h=>?_⟩
   ·have hj7:j≤7:=aa
    have eb:IntKind.u8.wrap (Int.fdiv (m:Int) (2 ^ (min (56 - 8*(j:Int)).toNat 64)))=((t8 (I0 (56 - 8*j) m):Nat):Int):=by
     rw [show min (56 - 8*(j:Int)).toNat 64=56 - 8*j by omega,d_r,E0]
    have es:rb (l ++ len8 m j) ++ [[AV.d (.int .u8 ((t8 (I0 (56 - 8*j) m):Nat):Int))]]=rb (l ++ len8 m (j+1)):=by rw [M7,List.append_assoc];rfl
    simp only [go_sem,Nat.reduceEqDiff,Nat.reduceAdd,Nat.reduceLT,↓reduceIte,IntKind.bits,eb,n9,es,w8];refine ⟨aa,by decide,by have:=len8_len m j;omega,?_⟩;refine c8 (j+1) aa aa ?_;have hl8:(len8 m (j+1)).length=(len8 m j).length+1:=by rw [len8_len,len8_len]
    simp [m6,c6,fv,lk,AV.low,AV.low1,hl8];exact ⟨aa,r5 _ _,p9 _ _,R5 s (.d (nb rest)) (.d (.int .u64 n)) (fun _=>trivial) (fun _=>trivial) _⟩
   ·have hj8:j=8:=aa;subst hj8;rw [← hm];have hL64:L.length % 64=0:=by rw [hm,List.length_append,len8_len];omega
    have hLl:L.length≤2000000000000:=by rw [hm,List.length_append,len8_len];omega
    have hLen:l.length+(len8 m 8).length=L.length:=by rw [hm,List.length_append]
    clear hm hll e8 w8 h56 h em;simp [go_sem,tk8,Zb,hLen];generalize hE0:YF L.length s L=E
    refine j6 (fun t:Nat × S8=>⟨[(0,.ptr 0 0 0 1),(2,.ptr 2 0 0 1),(3,.own 98 (64*t.1) (L.length - 64*t.1) L.length),(6,.ptr 834 0 0 1)],[(834,⟨185,8,[I5 t.2]⟩),(98,⟨5,1,rb L⟩),(2,⟨23,32,[cb z32]⟩),(0,⟨188,10,[I5 s ++ [.d (nb rest),.d (.int .u64 (n:Int))]]⟩)],898⟩)
     (fun t=>64*t.1≤L.length∧∃ k,L.length - 64*t.1≤k∧YF k t.2 (L.drop (64*t.1))=E) (fun t=>L.length - 64*t.1) (0,s) ⟨aa,L.length,aa,hE0⟩ (by
      simp [m6,c6,fv,lk,AV.low,AV.low1]
      exact ⟨Q7 _ _,r5 _ _,p9 _ _,R5 s (.d (nb rest)) (.d (.int .u64 n)) (fun _=>trivial) (fun _=>trivial) _⟩) ?_
    rintro ⟨j,s1⟩ ⟨hj64,k,hk,hE⟩;simp only at hj64 hk hE;have hdl:(L.drop (64*j)).length=L.length - 64*j:=List.length_drop;simp only [go_sem,Nat.reduceEqDiff,Nat.reduceAdd,Nat.reduceLT,↓reduceIte];refine ⟨fun h=>?_,fun h=>?_⟩
    ·have h64:64≤L.length - 64*j:=aa;rw [eat_more aa aa] at hE;simp [go_sem];refine ⟨aa,?_⟩;refine G6 [(0,834),(1,98)] (YH 185 8 s1 [] L (64*j) aa ab) rfl ab (by simp [lk]) (by simp [lk,Blk.ren,H1,AV.renL,AV.ren,J6,TP,I5,rb]) (by simp [AV.renL,AV.ren,J6,TP,lk]) ?_;rintro r hp' ⟨rfl,h0,h1⟩;refine ⟨[],rfl,?_⟩;simp [go_sem,O0,L6,h0,h1,Blk.ren,H1,agZ,Tl,AV.renL,AV.ren,J6];refine ⟨aa,?_⟩;refine c8 (j+1,Go.Sha.take s1 ((L.drop (64*j)).take 64)) ⟨by simp only;omega,k - 1,by simp only;omega,?_⟩ (by simp only;omega) ?_
     ·rw [List.drop_drop] at hE;exact hE
     ·simp [m6,c6,fv,lk,AV.low,AV.low1];exact ⟨⟨aa,aa⟩,Q7 _ _,r5 _ _,p9 _ _,R5 s (.d (nb rest)) (.d (.int .u64 n)) (fun _=>trivial) (fun _=>trivial) _⟩
    ·have hnil:L.drop (64*j)=[]:=List.drop_eq_nil_of_le aa;rw [hnil,eat_none k s1 [] ab] at hE;have hs1:s1=E.1:=by rw [← hE]
     clear hE hE0 hdl hnil;simp [go_sem,Zb]
     refine j6 (fun i:Nat=>⟨[(0,.ptr 0 0 0 1),(2,.ptr 2 0 0 1),(7,.ptr 994 0 0 1),(59,.agg (I5 s1)),(60,.d (.int .i64 i))],[(994,⟨23,32,[cb (RS (pre s1.l i))]⟩),(2,⟨23,32,[cb z32]⟩),(0,⟨188,10,[I5 s ++ [.d (nb rest),.d (.int .u64 (n:Int))]]⟩)],1090⟩)
      (fun i=>i≤8) (fun i=>8 - i) 0 aa (by
       simp [m6,c6,fv,lk,AV.low,AV.low1,atb]
       exact ⟨Q7 _ _,⟨rfl,p9 _ _⟩,p9 _ _,R5 s (.d (nb rest)) (.d (.int .u64 n)) (fun _=>trivial) (fun _=>trivial) _⟩) ?_
     intro i hi;have hpl:=Sk s1.l i;simp only [go_sem,Nat.reduceEqDiff,Nat.reduceAdd,Nat.reduceLT,↓reduceIte];refine ⟨fun h2=>?_,fun h2=>?_⟩
     ·have hg:=ag0 s1 (i:=i) aa;have hpre:pre s1.l (i+1)=pre s1.l i ++ wbk (s1.l.getD i 0) 4:=rfl;generalize s1.l.getD i 0=x at hg hpre;simp [go_sem,hg];refine ⟨aa,?_⟩
      refine j6 (fun k:Nat=>⟨[(0,.ptr 0 0 0 1),(2,.ptr 2 0 0 1),(7,.ptr 994 0 0 1),(59,.agg (I5 s1)),(60,.d (.int .i64 i)),(8,.d (.int .i64 i)),(9,.d (.int .u32 (x:Int))),(64,.d (.int .i64 k))],[(994,⟨23,32,[cb (RS (pre s1.l i ++ wbk x k))]⟩),(2,⟨23,32,[cb z32]⟩),(0,⟨188,10,[I5 s ++ [.d (nb rest),.d (.int .u64 (n:Int))]]⟩)],1300⟩)
       (fun k=>k≤4) (fun k=>4 - k) 0 aa (by
        simp [m6,c6,fv,lk,AV.low,AV.low1,wbk]
        exact ⟨Q7 _ _,p9 _ _,p9 _ _,R5 s (.d (nb rest)) (.d (.int .u64 n)) (fun _=>trivial) (fun _=>trivial) _⟩) ?_
      intro k hk4;have hkl:=Y9 x k;simp only [go_sem,Nat.reduceEqDiff,Nat.reduceAdd,Nat.reduceLT,↓reduceIte];refine ⟨fun h3=>?_,fun h3=>?_⟩
      ·have w1:IntKind.i64.wrap (4*(i:Int))=((4*i:Nat):Int):=by rw [IntWalk.i64_in _ aa];omega
       have w2:IntKind.i64.wrap (((4*i:Nat):Int)+(k:Int))=((4*i+k:Nat):Int):=by rw [IntWalk.i64_in _ aa];omega
       have w3:IntKind.i64.wrap (8*(k:Int))=((8*k:Nat):Int):=by rw [IntWalk.i64_in _ aa];omega
       have w4:IntKind.i64.wrap (24 - ((8*k:Nat):Int))=((24 - 8*k:Nat):Int):=by rw [IntWalk.i64_in _ aa];omega
       have w5:=m9 (k:=k) aa
       have eb:IntKind.u8.wrap (Int.fdiv (x:Int) (2 ^ (min (24 - 8*k) 32)))=((t8 (I0 (24 - 8*k) x):Nat):Int):=by
        rw [show min (24 - 8*k) 32=24 - 8*k by omega,d_r,E0]
       have hset:(RS (pre s1.l i ++ wbk x k)).set (4*i+k) (t8 (I0 (24 - 8*k) x))=RS (pre s1.l i ++ wbk x (k+1)):=by
        have h:=abo (w:=pre s1.l i ++ wbk x k) (x:=t8 (I0 (24 - 8*k) x)) (by rw [List.length_append];omega);rw [List.length_append,hpl,hkl,List.append_assoc] at h;exact h
       have hrl:(RS (pre s1.l i ++ wbk x k)).length=32:=abn (by rw [List.length_append];omega);simp only [go_sem,Nat.reduceEqDiff,Nat.reduceAdd,Nat.reduceLT,↓reduceIte,w1,w2,w3,w4,IntKind.bits,Int.toNat_natCast,eb,Nat.mul_one,ZQ,hset,hrl,w5];refine ⟨aa,aa,?_⟩;refine c8 (k+1) aa aa ?_;simp [m6,c6,fv,lk,AV.low,AV.low1];exact ⟨Q7 _ _,p9 _ _,p9 _ _,R5 s (.d (nb rest)) (.d (.int .u64 n)) (fun _=>trivial) (fun _=>trivial) _⟩
      ·have hk4':k=4:=aa;subst hk4';rw [← hpre];have w5:=m9 (k:=i) aa;simp only [go_sem,Nat.reduceEqDiff,Nat.reduceAdd,Nat.reduceLT,↓reduceIte,w5];refine c8 (i+1) aa aa ?_;simp [m6,c6,fv,lk,AV.low,AV.low1];exact ⟨Q7 _ _,p9 _ _,p9 _ _,R5 s (.d (nb rest)) (.d (.int .u64 n)) (fun _=>trivial) (fun _=>trivial) _⟩
     ·have hi8:i=8:=aa;subst hi8;have hfull:RS (pre s1.l 8)=dig s1:=ZT hpl;rw [hfull,hs1];have hdl2:(dig E.1).length=32:=Sk _ 8;have htk:List.take 32 (cb (dig E.1))=cb (dig E.1):=List.take_of_length_le (by rw [d0];omega);simp [go_sem,d6,hdl2,htk];rfl
 ·simp [go_sem,nb,I5,F2,WI,n9]
  refine j6 (fun l:List Nat=>⟨[(0,.ptr 0 0 0 1),(2,.ptr 2 0 0 1),(3,.own 98 0 l.length l.length)],[(98,⟨5,1,rb l⟩),(2,⟨23,32,[cb z32]⟩),(0,⟨188,10,[I5 s ++ [.nil,.d (.int .u64 (n:Int))]]⟩)],450⟩)
   (fun l=>l.length≤1000000000000+65∧∃ k,(120 - l.length % 64) % 64≤k∧(k+l.length≤1000000000000+65)∧padTo k l=padTo 64 ([] ++ [128])) (fun l=>(120 - l.length % 64) % 64) ([] ++ [128]) ⟨by have:=hl;simp only [List.length_append,List.length_nil,List.length_singleton] at *;omega,64,aa,by have:=hl;simp only [List.length_append,List.length_nil,List.length_singleton] at *;omega,rfl⟩ (by
    simp [m6,c6,fv,lk,AV.low,AV.low1,nb,I5]
    exact ⟨⟨rfl,r5 _ _⟩,p9 _ _⟩) ?_
  rintro l ⟨hl1,k,hk,hk2,hP⟩;have em:Int.tmod (l.length:Int) 64=((l.length % 64:Nat):Int):=afH _;simp only [go_sem,Nat.reduceEqDiff,Nat.reduceAdd,Nat.reduceLT,↓reduceIte,em];refine ⟨by decide,fun h=>?_,fun h=>?_⟩
  ·have h56:l.length % 64 ≠ 56:=aa;rw [WH h56 aa] at hP;refine ⟨by decide,n9 l,aa,?_⟩;rw [ZS];refine c8 (l ++ [0]) ⟨by simp only [List.length_append,List.length_singleton];omega,k - 1,by simp only [List.length_append,List.length_singleton];omega,by simp only [List.length_append,List.length_singleton];omega,hP⟩ (by simp only [List.length_append,List.length_singleton];omega) ?_;simp [m6,c6,fv,lk,AV.low,AV.low1];exact ⟨r5 _ _,p9 _ _,R5 s (.nil) (.d (.int .u64 n)) (fun _=>trivial) (fun _=>trivial) _⟩
  ·have h56:l.length % 64=56:=aa;rw [Yd h56] at hP;simp only [go_sem,Nat.reduceEqDiff,Nat.reduceAdd,Nat.reduceLT,↓reduceIte,hd9,akn];have hm:lastOf [] n=l ++ len8 (n*8 % 18446744073709551616) 8:=by unfold lastOf;rw [← hP]
   generalize n*8 % 18446744073709551616=m at hm;generalize lastOf [] n=L at hm;clear hP hk hk2 hl
   refine j6 (fun j:Nat=>⟨[(0,.ptr 0 0 0 1),(2,.ptr 2 0 0 1),(3,.own 98 0 (l ++ len8 m j).length (l ++ len8 m j).length),(4,.d (.int .u64 (m:Int))),(5,.d (.int .i64 (56 - 8*(j:Int))))],[(98,⟨5,1,rb (l ++ len8 m j)⟩),(2,⟨23,32,[cb z32]⟩),(0,⟨188,10,[I5 s ++ [.nil,.d (.int .u64 (n:Int))]]⟩)],642⟩)
    (fun j=>j≤8) (fun j=>8 - j) 0 aa (by
     simp [m6,c6,fv,lk,AV.low,AV.low1,len8]
     exact ⟨r5 _ _,p9 _ _,R5 s (.nil) (.d (.int .u64 n)) (fun _=>trivial) (fun _=>trivial) _⟩) ?_
   intro j hj;have hll:(l ++ len8 m j).length=l.length+j:=by rw [List.length_append,len8_len]
   have e8:(56:Int) - 8*(j:Int) - 8=56 - 8*((j+1:Nat):Int):=aa;have w8:IntKind.i64.wrap (56 - 8*(j:Int) - 8)=56 - 8*((j+1:Nat):Int):=by rw [IntWalk.i64_in _ aa];omega
   simp only [go_sem,Nat.reduceEqDiff,Nat.reduceAdd,Nat.reduceLT,↓reduceIte];refine ⟨fun h=>?_,fun h=>?_⟩
   ·have hj7:j≤7:=aa
    have eb:IntKind.u8.wrap (Int.fdiv (m:Int) (2 ^ (min (56 - 8*(j:Int)).toNat 64)))=((t8 (I0 (56 - 8*j) m):Nat):Int):=by
     rw [show min (56 - 8*(j:Int)).toNat 64=56 - 8*j by omega,d_r,E0]
    have es:rb (l ++ len8 m j) ++ [[AV.d (.int .u8 ((t8 (I0 (56 - 8*j) m):Nat):Int))]]=rb (l ++ len8 m (j+1)):=by rw [M7,List.append_assoc];rfl
    simp only [go_sem,Nat.reduceEqDiff,Nat.reduceAdd,Nat.reduceLT,↓reduceIte,IntKind.bits,eb,n9,es,w8];refine ⟨aa,by decide,by have:=len8_len m j;omega,?_⟩;refine c8 (j+1) aa aa ?_;have hl8:(len8 m (j+1)).length=(len8 m j).length+1:=by rw [len8_len,len8_len]
    simp [m6,c6,fv,lk,AV.low,AV.low1,hl8];exact ⟨aa,r5 _ _,p9 _ _,R5 s (.nil) (.d (.int .u64 n)) (fun _=>trivial) (fun _=>trivial) _⟩
   ·have hj8:j=8:=aa;subst hj8;rw [← hm];have hL64:L.length % 64=0:=by rw [hm,List.length_append,len8_len];omega
    have hLl:L.length≤2000000000000:=by rw [hm,List.length_append,len8_len];omega
    have hLen:l.length+(len8 m 8).length=L.length:=by rw [hm,List.length_append]
    clear hm hll e8 w8 h56 h em;simp [go_sem,tk8,Zb,hLen];generalize hE0:YF L.length s L=E
    refine j6 (fun t:Nat × S8=>⟨[(0,.ptr 0 0 0 1),(2,.ptr 2 0 0 1),(3,.own 98 (64*t.1) (L.length - 64*t.1) L.length),(6,.ptr 834 0 0 1)],[(834,⟨185,8,[I5 t.2]⟩),(98,⟨5,1,rb L⟩),(2,⟨23,32,[cb z32]⟩),(0,⟨188,10,[I5 s ++ [.nil,.d (.int .u64 (n:Int))]]⟩)],898⟩)
     (fun t=>64*t.1≤L.length∧∃ k,L.length - 64*t.1≤k∧YF k t.2 (L.drop (64*t.1))=E) (fun t=>L.length - 64*t.1) (0,s) ⟨aa,L.length,aa,hE0⟩ (by
      simp [m6,c6,fv,lk,AV.low,AV.low1]
      exact ⟨Q7 _ _,r5 _ _,p9 _ _,R5 s (.nil) (.d (.int .u64 n)) (fun _=>trivial) (fun _=>trivial) _⟩) ?_
    rintro ⟨j,s1⟩ ⟨hj64,k,hk,hE⟩;simp only at hj64 hk hE;have hdl:(L.drop (64*j)).length=L.length - 64*j:=List.length_drop;simp only [go_sem,Nat.reduceEqDiff,Nat.reduceAdd,Nat.reduceLT,↓reduceIte];refine ⟨fun h=>?_,fun h=>?_⟩
    ·have h64:64≤L.length - 64*j:=aa;rw [eat_more aa aa] at hE;simp [go_sem];refine ⟨aa,?_⟩;refine G6 [(0,834),(1,98)] (YH 185 8 s1 [] L (64*j) aa ab) rfl ab (by simp [lk]) (by simp [lk,Blk.ren,H1,AV.renL,AV.ren,J6,TP,I5,rb]) (by simp [AV.renL,AV.ren,J6,TP,lk]) ?_;rintro r hp' ⟨rfl,h0,h1⟩;refine ⟨[],rfl,?_⟩;simp [go_sem,O0,L6,h0,h1,Blk.ren,H1,agZ,Tl,AV.renL,AV.ren,J6];refine ⟨aa,?_⟩;refine c8 (j+1,Go.Sha.take s1 ((L.drop (64*j)).take 64)) ⟨by simp only;omega,k - 1,by simp only;omega,?_⟩ (by simp only;omega) ?_
     ·rw [List.drop_drop] at hE;exact hE
     ·simp [m6,c6,fv,lk,AV.low,AV.low1];exact ⟨⟨aa,aa⟩,Q7 _ _,r5 _ _,p9 _ _,R5 s (.nil) (.d (.int .u64 n)) (fun _=>trivial) (fun _=>trivial) _⟩
    ·have hnil:L.drop (64*j)=[]:=List.drop_eq_nil_of_le aa;rw [hnil,eat_none k s1 [] ab] at hE;have hs1:s1=E.1:=by rw [← hE]
     clear hE hE0 hdl hnil;simp [go_sem,Zb]
     refine j6 (fun i:Nat=>⟨[(0,.ptr 0 0 0 1),(2,.ptr 2 0 0 1),(7,.ptr 994 0 0 1),(59,.agg (I5 s1)),(60,.d (.int .i64 i))],[(994,⟨23,32,[cb (RS (pre s1.l i))]⟩),(2,⟨23,32,[cb z32]⟩),(0,⟨188,10,[I5 s ++ [.nil,.d (.int .u64 (n:Int))]]⟩)],1090⟩)
      (fun i=>i≤8) (fun i=>8 - i) 0 aa (by
       simp [m6,c6,fv,lk,AV.low,AV.low1,atb]
       exact ⟨Q7 _ _,⟨rfl,p9 _ _⟩,p9 _ _,R5 s (.nil) (.d (.int .u64 n)) (fun _=>trivial) (fun _=>trivial) _⟩) ?_
     intro i hi;have hpl:=Sk s1.l i;simp only [go_sem,Nat.reduceEqDiff,Nat.reduceAdd,Nat.reduceLT,↓reduceIte];refine ⟨fun h2=>?_,fun h2=>?_⟩
     ·have hg:=ag0 s1 (i:=i) aa;have hpre:pre s1.l (i+1)=pre s1.l i ++ wbk (s1.l.getD i 0) 4:=rfl;generalize s1.l.getD i 0=x at hg hpre;simp [go_sem,hg];refine ⟨aa,?_⟩
      refine j6 (fun k:Nat=>⟨[(0,.ptr 0 0 0 1),(2,.ptr 2 0 0 1),(7,.ptr 994 0 0 1),(59,.agg (I5 s1)),(60,.d (.int .i64 i)),(8,.d (.int .i64 i)),(9,.d (.int .u32 (x:Int))),(64,.d (.int .i64 k))],[(994,⟨23,32,[cb (RS (pre s1.l i ++ wbk x k))]⟩),(2,⟨23,32,[cb z32]⟩),(0,⟨188,10,[I5 s ++ [.nil,.d (.int .u64 (n:Int))]]⟩)],1300⟩)
       (fun k=>k≤4) (fun k=>4 - k) 0 aa (by
        simp [m6,c6,fv,lk,AV.low,AV.low1,wbk]
        exact ⟨Q7 _ _,p9 _ _,p9 _ _,R5 s (.nil) (.d (.int .u64 n)) (fun _=>trivial) (fun _=>trivial) _⟩) ?_
      intro k hk4;have hkl:=Y9 x k;simp only [go_sem,Nat.reduceEqDiff,Nat.reduceAdd,Nat.reduceLT,↓reduceIte];refine ⟨fun h3=>?_,fun h3=>?_⟩
      ·have w1:IntKind.i64.wrap (4*(i:Int))=((4*i:Nat):Int):=by rw [IntWalk.i64_in _ aa];omega
       have w2:IntKind.i64.wrap (((4*i:Nat):Int)+(k:Int))=((4*i+k:Nat):Int):=by rw [IntWalk.i64_in _ aa];omega
       have w3:IntKind.i64.wrap (8*(k:Int))=((8*k:Nat):Int):=by rw [IntWalk.i64_in _ aa];omega
       have w4:IntKind.i64.wrap (24 - ((8*k:Nat):Int))=((24 - 8*k:Nat):Int):=by rw [IntWalk.i64_in _ aa];omega
       have w5:=m9 (k:=k) aa
       have eb:IntKind.u8.wrap (Int.fdiv (x:Int) (2 ^ (min (24 - 8*k) 32)))=((t8 (I0 (24 - 8*k) x):Nat):Int):=by
        rw [show min (24 - 8*k) 32=24 - 8*k by omega,d_r,E0]
       have hset:(RS (pre s1.l i ++ wbk x k)).set (4*i+k) (t8 (I0 (24 - 8*k) x))=RS (pre s1.l i ++ wbk x (k+1)):=by
        have h:=abo (w:=pre s1.l i ++ wbk x k) (x:=t8 (I0 (24 - 8*k) x)) (by rw [List.length_append];omega);rw [List.length_append,hpl,hkl,List.append_assoc] at h;exact h
       have hrl:(RS (pre s1.l i ++ wbk x k)).length=32:=abn (by rw [List.length_append];omega);simp only [go_sem,Nat.reduceEqDiff,Nat.reduceAdd,Nat.reduceLT,↓reduceIte,w1,w2,w3,w4,IntKind.bits,Int.toNat_natCast,eb,Nat.mul_one,ZQ,hset,hrl,w5];refine ⟨aa,aa,?_⟩;refine c8 (k+1) aa aa ?_;simp [m6,c6,fv,lk,AV.low,AV.low1];exact ⟨Q7 _ _,p9 _ _,p9 _ _,R5 s (.nil) (.d (.int .u64 n)) (fun _=>trivial) (fun _=>trivial) _⟩
      ·have hk4':k=4:=aa;subst hk4';rw [← hpre];have w5:=m9 (k:=i) aa;simp only [go_sem,Nat.reduceEqDiff,Nat.reduceAdd,Nat.reduceLT,↓reduceIte,w5];refine c8 (i+1) aa aa ?_;simp [m6,c6,fv,lk,AV.low,AV.low1];exact ⟨Q7 _ _,p9 _ _,p9 _ _,R5 s (.nil) (.d (.int .u64 n)) (fun _=>trivial) (fun _=>trivial) _⟩
     ·have hi8:i=8:=aa;subst hi8;have hfull:RS (pre s1.l 8)=dig s1:=ZT hpl;rw [hfull,hs1];have hdl2:(dig E.1).length=32:=Sk _ 8;have htk:List.take 32 (cb (dig E.1))=cb (dig E.1):=List.take_of_length_le (by rw [d0];omega);simp [go_sem,d6,hdl2,htk];rfl
end Go.Proofs.YtldccnbokbieiaaGreat
namespace Go.Sha
theorem adZ:∀ (k j:Nat) (s:S8) (b:List Nat),b.length≤k→b.length≤j→YF k s b=YF j s b
 | 0,j,s,b,h,_=>by
  have hb:b.length<64:=aa;rw [Go.Proofs.YtldccnbokbieiaaGreat.eat_none 0 s b hb,Go.Proofs.YtldccnbokbieiaaGreat.eat_none j s b hb]
 | k+1,j,s,b,h,h2=>by
  by_cases h64:64≤b.length
  ·rw [Go.Proofs.YtldccnbokbieiaaGreat.eat_more h64 h,Go.Proofs.YtldccnbokbieiaaGreat.eat_more h64 h2];exact adZ k (j - 1) _ _ (by rw [List.length_drop];omega) (by rw [List.length_drop];omega)
  ·rw [Go.Proofs.YtldccnbokbieiaaGreat.eat_none _ s b aa,Go.Proofs.YtldccnbokbieiaaGreat.eat_none _ s b aa]
def E (s:S8) (b:List Nat):S8 × List Nat:=YF b.length s b
theorem Vu {s:S8} {b:List Nat} (h:b.length<64):E s b=(s,b):=Go.Proofs.YtldccnbokbieiaaGreat.eat_none _ s b h
theorem WJ {s:S8} {b:List Nat} (h:64≤b.length):E s b=E (Go.Sha.take s (b.take 64)) (b.drop 64):=by
 unfold E;rw [Go.Proofs.YtldccnbokbieiaaGreat.eat_more h (Nat.le_refl _)];exact adZ _ _ _ _ (by rw [List.length_drop];omega) (Nat.le_refl _)
theorem akq (b:List Nat):∀ (n:Nat) (s:S8) (a:List Nat),a.length≤n→E s (a ++ b)=E (E s a).1 ((E s a).2 ++ b)
 | 0,s,a,h=>by rw [Vu (b:=a) aa]
 | n+1,s,a,h=>by
  by_cases h64:64≤a.length
  ·rw [WJ (b:=a) h64,WJ (b:=a ++ b) (by rw [List.length_append];omega)];rw [List.take_append_of_le_length h64,List.drop_append_of_le_length h64];exact akq b n _ _ (by rw [List.length_drop];omega)
  ·rw [Vu (b:=a) aa]
theorem akr:∀ (n:Nat) (s:S8) (a:List Nat),a.length≤n→(E s a).2.length≤a.length
 | 0,s,a,h=>by rw [Vu aa];exact Nat.le_refl _
 | n+1,s,a,h=>by
  by_cases h64:64≤a.length
  ·rw [WJ h64];have:=akr n (Go.Sha.take s (a.take 64)) (a.drop 64) (by rw [List.length_drop];omega);rw [List.length_drop] at this;omega
  ·rw [Vu aa];exact Nat.le_refl _
def Ye (p:S8 × List Nat) (n:Nat):List Nat:=dig (E p.1 (Go.Proofs.YtldccnbokbieiaaGreat.lastOf p.2 n)).1
def L7 (b:List Nat):List Nat:=Ye (E H0 b) b.length
def H9 (t b:List Nat):List Nat:=L7 (L7 t ++ (L7 t ++ b))
theorem F8 (b:List Nat):(L7 b).length=32:=Sk _ 8
end Go.Sha
namespace Go.Proofs.YtldccnbokbieiaaGreat
open Go.Am Go.Sha
theorem wn (a b:Nat) (h:a+b<18446744073709551616):IntKind.u64.wrap ((a:Int)+IntKind.u64.wrap (b:Int))=((a+b:Nat):Int):=by rw [R3,R3];omega
theorem T5 (ρ:Nat→Nat) (b:List Nat):(AV.d (nb b)).ren ρ=.d (nb b):=rfl
theorem UI (ρ:Nat→Nat):∀ l:List Nat,AV.renL ρ (cb l)=cb l
 | []=>by simp [cb,AV.renL]
 | x :: r=>by
  have:=UI ρ r;simp only [cb] at this;simp only [cb,List.map_cons,AV.renL,AV.ren,this]
theorem d5 {l:List Nat} (h:l.length=32):List.take 32 (cb l)=cb l:=List.take_of_length_le (by rw [d0];omega)
theorem B4:List.drop 32 (cb z32)=[]:=rfl
theorem TR (ρ:Nat→Nat) (s:S8) (a b:AV):AV.renL ρ (I5 s ++ [a,b])=I5 s ++ [a.ren ρ,b.ren ρ]:=by simp [I5,AV.renL,AV.ren]
theorem atc (s:S8) (R:AV) (rest b:List Nat) (n:Nat) (hR:R=.d (nb rest) ∨ (R=.nil∧rest=[])) (hl:rest.length+b.length≤1000000000000) (hn:n+b.length<18446744073709551616) :
  J9 Tryz.prog 118 1 [(0,⟨188,10,[I5 s ++ [R,.d (.int .u64 (n:Int))]]⟩)] [.ptr 0 0 0 1,.d (nb b)]
   (fun r hp'=>r=.tup []∧lk 0 hp'=some ⟨188,10,[I5 (E s (rest ++ b)).1 ++ [.d (nb (E s (rest ++ b)).2),.d (.int .u64 ((n+b.length:Nat):Int))]]⟩):=by
 have:=akm s R rest b n hR hl;rw [wn n b.length hn] at this;exact this
theorem aiq (b:List Nat) (hb:b.length≤100000000000):d9 Tryz.prog 112 [.d (nb b)] (fun r=>r=.agg (cb (L7 b))):=by
 refine s8 Tryz.func112 Tryz.ntmps112 (rs:=[.cell 2 23]) ae ?_;simp only [go_sem,Nat.reduceEqDiff,Nat.reduceAdd,Nat.reduceLT,↓reduceIte,Nat.reduceMul];refine G6 [] akl rfl ab ab ab (by simp [AV.renL]) ?_;rintro r hp' ⟨rfl,h0⟩;refine ⟨[(97,0)],rfl,?_⟩;simp [go_sem,O0,L6,h0,Blk.ren,H1,TR,AV.ren,J6];refine G6 [(0,32)] (atc H0 .nil [] b 0 (.inr ⟨rfl,rfl⟩) (by simp;omega) aa) rfl ab (by simp [lk]) (by simp [lk,Blk.ren,H1,TR,AV.ren,J6,TP]) (by simp [AV.renL,AV.ren,J6,TP,lk]) ?_;rintro r hp' ⟨rfl,h0⟩;refine ⟨[],rfl,?_⟩;simp [go_sem,O0,L6,h0,Blk.ren,H1,TR,T5,AV.renL,AV.ren,J6];refine G6 [(0,32)] (akp (E H0 b).1 (.d (nb (E H0 b).2)) (E H0 b).2 b.length (.inl rfl) (by have:=akr _ H0 b (Nat.le_refl _);omega)) rfl ab (by simp [lk]) (by simp [lk,Blk.ren,H1,TR,T5,AV.ren,J6,TP]) (by simp [AV.renL,AV.ren,J6,TP,lk]) ?_;rintro r hp' ⟨rfl,h0⟩;refine ⟨[],rfl,?_⟩;have hf:dig (YF (lastOf (E H0 b).2 b.length).length (E H0 b).1 (lastOf (E H0 b).2 b.length)).1=L7 b:=rfl;rw [hf] at *;simp [go_sem,O0,L6,h0,Blk.ren,H1,TR,T5,UI,AV.ren,J6,d6,F8,d5 (F8 b),B4];exact b7 (by simp [AV.deep];exact s6 _) rfl
theorem Tm {hp:Hp} {I:Nat→Prop} {id:Nat} {ty:TypeId} {l:List Nat} (hb:lk id hp=some ⟨ty,32,[cb l]⟩) (hI:I id) (hl:l.length=32):SnapD hp I (.sub id 0 0 1 32 32 1) (nb l):=by
 refine .sub (es:=l.map fun (x:Nat)=>[.int .u8 (x:Int)]) hI hb rfl rfl aa (by simp [hl]) (fun r hr=>by
  rw [List.mem_map] at hr;obtain ⟨c,_,rfl⟩:=hr
  rfl) fun k j c r y hc hr hy=>?_
 simp only [Nat.zero_add,Nat.mul_one,List.getElem?_map,Option.map_eq_some_iff] at hc hr;obtain ⟨x,hx,rfl⟩:=hr
 cases j with
 | succ j=>simp at hy
 | zero =>
  simp at hy;subst hy;rw [Nat.add_zero,aco,hx] at hc;simp at hc;subst hc;exact .d _
theorem RU {b:List Nat} (hb:b.length=32):(List.range 32).map (fun k=>((cb b).drop k).take 1)=List.map ((fun r=>List.map AV.d r) ∘ fun (x:Nat)=>[DV.int .u8 (x:Int)]) b:=by
 apply List.ext_getElem?;intro i;by_cases hi:i<32
 ·rw [List.getElem?_map,List.getElem?_map,List.getElem?_range hi,List.getElem?_eq_getElem (by omega:i<b.length)];have h:i<(cb b).length:=by rw [d0];omega
  have h1:(cb b)[i]?=some (.d (.int .u8 ((b[i]:Nat):Int))):=by rw [aco,List.getElem?_eq_getElem (by omega:i<b.length)];rfl
  have h2:(cb b)[i]=.d (.int .u8 ((b[i]:Nat):Int)):=by
   rw [List.getElem?_eq_getElem h] at h1;exact Option.some.inj h1
  rw [Option.map_some,Option.map_some,List.drop_eq_getElem_cons h,h2];rfl
 ·rw [List.getElem?_eq_none (by simp;omega),List.getElem?_eq_none (by simp;omega)]
theorem acp (ty:TypeId) (e:Nat) (row:List AV) (s:S8) (R:AV) (rest b:List Nat) (n:Int) (hx0:(List.range 32).map (fun k=>(row.drop k).take 1)=List.map ((fun r=>List.map AV.d r) ∘ fun (x:Nat)=>[DV.int .u8 (x:Int)]) b) (hlow:∀ n v,v ∈ row→v.low1 n) (hR:R=.d (nb rest) ∨ (R=.nil∧rest=[])) (hl:rest.length+b.length≤1000000000000) (hb32:b.length=32) :
  J9 Tryz.prog 118 2 [(0,⟨188,10,[I5 s ++ [R,.d (.int .u64 n)]]⟩),(1,⟨ty,e,[row]⟩)] [.ptr 0 0 0 1,.sub 1 0 0 1 32 32 1]
   (fun r hp'=>r=.tup []∧lk 0 hp'=some ⟨188,10,[I5 (YF ((rest ++ b).length) s (rest ++ b)).1 ++ [.d (nb (YF ((rest ++ b).length) s (rest ++ b)).2),.d (.int .u64 (IntKind.u64.wrap (n+(IntKind.u64.wrap (b.length:Int)))))]]⟩∧lk 1 hp'=some ⟨ty,e,[row]⟩):=by
 refine B9 Tryz.func118 (by kernel_rfl) rfl Tryz.ntmps118 (rs:=[]) rfl (TG rfl) (by decide) ?_;rw [hb32];generalize hn':IntKind.u64.wrap (n+(IntKind.u64.wrap ((32:Nat):Int)))=n';generalize hE0:YF ((rest ++ b).length) s (rest ++ b)=E;have hx:=hx0;generalize hX:List.map ((fun r=>List.map AV.d r) ∘ fun (x:Nat)=>[DV.int .u8 (x:Int)]) b=X at hx;simp [go_sem] at hx;have hn2:IntKind.u64.wrap (n+IntKind.u64.wrap 32)=n':=hn';rcases hR with rfl | ⟨rfl,rfl⟩
 ·simp [go_sem,nb,I5,hn2];refine z6 [0,1,2,3,4,5,6,7,8,9,10,11,12,13,14,15,16] [(17,[18,19]),(20,[])] 1 (k:=21) ?_;intro G hG;simp [go_sem,TZ,hx];rw [← hX,VY];simp [go_sem,TZ];refine ⟨by have:=hl;simp only [List.length_append,List.length_nil] at *;omega,.inl (hG _ _ ?_)⟩;clear hG G
  refine j6 (fun t:S8 × List Nat=>⟨[(0,.ptr 0 0 0 1)],[(0,⟨188,10,[I5 t.1 ++ [.d (nb t.2),.d (.int .u64 n')]]⟩),(1,⟨ty,e,[row]⟩)],1091⟩)
   (fun t=>t.2.length≤1000000000000∧∃ k,t.2.length≤k∧YF k t.1 t.2=E) (fun t=>t.2.length) (s,rest ++ b) ⟨by have:=hl;simp only [List.length_append,List.length_nil] at *;omega,_,Nat.le_refl _,hE0⟩ (by
    simp [m6,c6,fv,lk,AV.low,AV.low1,nb,I5]
    exact hlow _) ?_
  rintro ⟨s1,q⟩ ⟨hq,k,hk,hE⟩;simp only at hq hk hE;simp only [go_sem,Nat.reduceEqDiff,Nat.reduceAdd,Nat.reduceLT,↓reduceIte,I5,nb,List.length_map];refine ⟨fun h=>?_,fun h=>?_⟩
  ·have h64:64≤q.length:=aa;rw [eat_more h64 hk] at hE;refine z6 [0,1,2,3,4,5,6,7] [(8,[])] 0 (k:=9) ?_;intro G hG;simp [go_sem];refine ⟨aa,?_⟩;refine G6 [(0,0)] (Za 188 10 s1 [.d (nb q),.d (.int .u64 n')] (q.take 64) (by simp;omega) (by simp [AV.low1])) rfl ab (by simp [lk]) (by simp [lk,Blk.ren,H1,AV.renL,AV.ren,J6,TP,I5,nb]) (by simp [AV.renL,AV.ren,J6,TP,lk,nb,List.map_take]) ?_;rintro r hp' ⟨rfl,h0⟩;refine ⟨[],rfl,?_⟩;simp [go_sem,O0,L6,h0,Blk.ren,H1,AV.renL,AV.ren,J6,I5];refine hG _ _ ?_;clear hG G;simp [go_sem,nb];refine ⟨aa,?_⟩;refine c8 (Go.Sha.take s1 (q.take 64),q.drop 64) ⟨by simp only [List.length_drop];omega,k - 1,by simp only [List.length_drop];omega,hE⟩ (by simp only [List.length_drop];omega) ?_;simp [m6,c6,fv,lk,AV.low,AV.low1,nb,I5,List.map_drop,TZ];exact hlow _
  ·rw [eat_none k s1 q aa] at hE;subst hE;rfl
 ·simp [go_sem,nb,I5,hn2];refine z6 [0,1,2,3,4,5,6,7,8,9,10,11,12,13,14,15,16] [(17,[18,19]),(20,[])] 1 (k:=21) ?_;intro G hG;simp [go_sem,TZ,hx];rw [← hX,VY];simp [go_sem,TZ];refine ⟨by have:=hl;simp only [List.length_append,List.length_nil] at *;omega,.inl (hG _ _ ?_)⟩;clear hG G
  refine j6 (fun t:S8 × List Nat=>⟨[(0,.ptr 0 0 0 1)],[(0,⟨188,10,[I5 t.1 ++ [.d (nb t.2),.d (.int .u64 n')]]⟩),(1,⟨ty,e,[row]⟩)],1091⟩)
   (fun t=>t.2.length≤1000000000000∧∃ k,t.2.length≤k∧YF k t.1 t.2=E) (fun t=>t.2.length) (s,[] ++ b) ⟨by have:=hl;simp only [List.length_append,List.length_nil] at *;omega,_,Nat.le_refl _,hE0⟩ (by
    simp [m6,c6,fv,lk,AV.low,AV.low1,nb,I5]
    exact hlow _) ?_
  rintro ⟨s1,q⟩ ⟨hq,k,hk,hE⟩;simp only at hq hk hE;simp only [go_sem,Nat.reduceEqDiff,Nat.reduceAdd,Nat.reduceLT,↓reduceIte,I5,nb,List.length_map];refine ⟨fun h=>?_,fun h=>?_⟩
  ·have h64:64≤q.length:=aa;rw [eat_more h64 hk] at hE;refine z6 [0,1,2,3,4,5,6,7] [(8,[])] 0 (k:=9) ?_;intro G hG;simp [go_sem];refine ⟨aa,?_⟩;refine G6 [(0,0)] (Za 188 10 s1 [.d (nb q),.d (.int .u64 n')] (q.take 64) (by simp;omega) (by simp [AV.low1])) rfl ab (by simp [lk]) (by simp [lk,Blk.ren,H1,AV.renL,AV.ren,J6,TP,I5,nb]) (by simp [AV.renL,AV.ren,J6,TP,lk,nb,List.map_take]) ?_;rintro r hp' ⟨rfl,h0⟩;refine ⟨[],rfl,?_⟩;simp [go_sem,O0,L6,h0,Blk.ren,H1,AV.renL,AV.ren,J6,I5];refine hG _ _ ?_;clear hG G;simp [go_sem,nb];refine ⟨aa,?_⟩;refine c8 (Go.Sha.take s1 (q.take 64),q.drop 64) ⟨by simp only [List.length_drop];omega,k - 1,by simp only [List.length_drop];omega,hE⟩ (by simp only [List.length_drop];omega) ?_;simp [m6,c6,fv,lk,AV.low,AV.low1,nb,I5,List.map_drop,TZ];exact hlow _
  ·rw [eat_none k s1 q aa] at hE;subst hE;rfl
theorem ag1 (s:S8) (R:AV) (rest b:List Nat) (n:Nat) (hR:R=.d (nb rest) ∨ (R=.nil∧rest=[])) (hl:rest.length+b.length≤1000000000000) (hb32:b.length=32) (hn:n+b.length<18446744073709551616) :
  J9 Tryz.prog 118 2 [(0,⟨188,10,[I5 s ++ [R,.d (.int .u64 (n:Int))]]⟩),(1,⟨23,32,[cb b]⟩)] [.ptr 0 0 0 1,.sub 1 0 0 1 32 32 1]
   (fun r hp'=>r=.tup []∧lk 0 hp'=some ⟨188,10,[I5 (E s (rest ++ b)).1 ++ [.d (nb (E s (rest ++ b)).2),.d (.int .u64 ((n+b.length:Nat):Int))]]⟩∧lk 1 hp'=some ⟨23,32,[cb b]⟩):=by
 have:=acp 23 32 (cb b) s R rest b n (RU hb32) (fun n=>p9 n _) hR hl hb32;rw [wn n b.length hn] at this;exact this
theorem Uh (tag:List Nat) (ts:DV) (hts:ts=.str (tag.map fun (x:Nat)=>(x:Int))) (b:List Nat) (ht:tag.length≤1000) (hb:b.length≤10000000000):d9 Tryz.prog 87 [.d ts,.d (nb b)] (fun r=>r=.agg (cb (H9 tag b))):=by
 subst hts;refine s8 Tryz.func87 Tryz.ntmps87 (rs:=[.cell 4 23]) ae ?_;simp [go_sem,Tryz.underlying5];refine a9 (aiq tag aa) ae ?_;have hD:=F8 tag;have hg:H9 tag b=L7 (L7 tag ++ (L7 tag ++ b)):=rfl;rw [hg];generalize L7 tag=D at hD;simp [go_sem,hD,B4];refine G6 [] akl rfl ab ab ab (by simp [AV.renL]) ?_;rintro r hp' ⟨rfl,h0⟩;refine ⟨[(97,0)],rfl,?_⟩;simp [go_sem,O0,L6,h0,Blk.ren,H1,TR,AV.ren,J6]
 have hp1:E H0 (D ++ (D ++ b))=E (E (E H0 D).1 ((E H0 D).2 ++ D)).1 ((E (E H0 D).1 ((E H0 D).2 ++ D)).2 ++ b):=by
  rw [akq _ _ _ D (Nat.le_refl _),← List.append_assoc,akq _ _ _ ((E H0 D).2 ++ D) (Nat.le_refl _)]
 have hfin:Ye (E (E (E H0 D).1 ((E H0 D).2 ++ D)).1 ((E (E H0 D).1 ((E H0 D).2 ++ D)).2 ++ b)) (0+D.length+D.length+b.length)=L7 (D ++ (D ++ b)):=by
  unfold L7;rw [hp1];congr 1;simp only [List.length_append];omega
 have l1:=akr _ H0 D (Nat.le_refl _);refine G6 [(0,192),(1,128)] (ag1 H0 .nil [] D 0 (.inr ⟨rfl,rfl⟩) (by simp;omega) hD aa) rfl ab (by simp [lk]) (by simp [lk,Blk.ren,H1,TR,UI,AV.renL,AV.ren,J6,TP]) (by simp [AV.renL,AV.ren,J6,TP,lk]) ?_;rintro r hp' ⟨rfl,h0,h1⟩;refine ⟨[],rfl,?_⟩;rw [List.nil_append] at h0;generalize E H0 D=p1 at *;have l2:=akr _ p1.1 (p1.2 ++ D) (Nat.le_refl _);rw [List.length_append] at l2;simp [go_sem,O0,L6,h0,h1,Blk.ren,H1,TR,UI,T5,AV.renL,AV.ren,J6];refine G6 [(0,192),(1,128)] (ag1 p1.1 (.d (nb p1.2)) p1.2 D (0+D.length) (.inl rfl) aa hD aa) rfl ab (by simp [lk]) (by simp [lk,Blk.ren,H1,TR,UI,T5,AV.renL,AV.ren,J6,TP]) (by simp [AV.renL,AV.ren,J6,TP,lk]) ?_;rintro r hp' ⟨rfl,h0,h1⟩;refine ⟨[],rfl,?_⟩;generalize E p1.1 (p1.2 ++ D)=p2 at *;have l3:=akr _ p2.1 (p2.2 ++ b) (Nat.le_refl _);rw [List.length_append] at l3;simp [go_sem,O0,L6,h0,h1,Blk.ren,H1,TR,UI,T5,AV.renL,AV.ren,J6];refine G6 [(0,192)] (atc p2.1 (.d (nb p2.2)) p2.2 b (0+D.length+D.length) (.inl rfl) aa aa) rfl ab (by simp [lk]) (by simp [lk,Blk.ren,H1,TR,UI,T5,AV.renL,AV.ren,J6,TP]) (by simp [AV.renL,AV.ren,J6,TP,lk]) ?_;rintro r hp' ⟨rfl,h0⟩;refine ⟨[],rfl,?_⟩;generalize E p2.1 (p2.2 ++ b)=p3 at *;simp [go_sem,O0,L6,h0,h1,Blk.ren,H1,TR,UI,T5,AV.renL,AV.ren,J6];refine G6 [(0,192)] (akp p3.1 (.d (nb p3.2)) p3.2 (0+D.length+D.length+b.length) (.inl rfl) aa) rfl ab (by simp [lk]) (by simp [lk,Blk.ren,H1,TR,T5,AV.ren,J6,TP]) (by simp [AV.renL,AV.ren,J6,TP,lk]) ?_;rintro r hp' ⟨rfl,h0⟩;refine ⟨[],rfl,?_⟩;have hf:dig (YF (lastOf p3.2 (0+D.length+D.length+b.length)).length p3.1 (lastOf p3.2 (0+D.length+D.length+b.length))).1=L7 (D ++ (D ++ b)):=hfin;rw [hf];have hL:=F8 (D ++ (D ++ b));generalize L7 (D ++ (D ++ b))=R at *;simp [go_sem,O0,L6,h0,Blk.ren,H1,TR,T5,UI,AV.ren,J6,d6,hL,d5 hL,B4];exact b7 (by simp [AV.deep];exact s6 _) rfl
end Go.Proofs.YtldccnbokbieiaaGreat
namespace Go.Sha
def le (x:Nat):Nat→List Nat
 | 0=>[]
 | k+1=>le x k ++ [t8 (I0 (8*k) x)]
theorem E4 (x:Nat):∀ k,(le x k).length=k
 | 0=>rfl
 | k+1=>by simp [le,E4 x k]
end Go.Sha
namespace Go.Proofs.YtldccnbokbieiaaGreat
open Go.Am Go.Sha
theorem abp (k x:Nat):I0 8 (I0 (8*k) x)=I0 (8*(k+1)) x:=by
 unfold I0;rw [Nat.div_div_eq_div_mul,← Nat.pow_add];congr 1
theorem afI (a:Nat):Int.fdiv (a:Int) 256=((I0 8 a:Nat):Int):=O4 a 256
theorem Yf (b:List Nat):List.take b.length (rb b) ++ List.drop b.length (rb (List.replicate b.length 0))=rb b:=by
 rw [List.take_of_length_le (by rw [n9];exact Nat.le_refl _),List.drop_eq_nil_of_le (by rw [n9];simp),List.append_nil]
theorem Sa {Q:AV→Prop} {st:St} {id:Nat} {L:List Nat} (hb:lk id st.hp=some ⟨5,1,rb L⟩) (hq:Q (.d (nb L))):K9 Q (.own id 0 L.length L.length) st:=by
 have h:=Xl (I:=fun _=>True) (i0:=0) (n:=L.length) hb trivial aa;rw [List.drop_zero,List.take_length] at h;exact D1 (m8 h) ae hq
theorem ag2 (b:List Nat) (x n:Nat) (hb:b.length≤1000000) (hx:x<256) (hn:n≤8):d9 Tryz.prog 157 [.d (nb b),.d (.int .u8 (x:Int)),.d (.int .i64 (n:Int))] (fun r=>r=.d (nb (b ++ le x n))):=by
 refine s8 Tryz.func157 Tryz.ntmps157 (rs:=[.tmp 6]) ae ?_;have w1:IntKind.i64.wrap ((b.length:Int)+(n:Int))=((b.length+n:Nat):Int):=by rw [IntWalk.i64_in _ aa];omega
 have w2:IntKind.u64.wrap (x:Int)=(x:Int):=by rw [R3];omega
 have hr:List.replicate b.length [AV.d (.int .u8 0)]=rb (List.replicate b.length 0):=by simp [rb]
 simp only [go_sem,Nat.reduceEqDiff,Nat.reduceAdd,Nat.reduceLT,↓reduceIte,Nat.reduceMul,w1,w2,nb,List.length_map,Int.toNat_natCast,hr];simp [go_sem,F2,n9];rw [Yf];refine ⟨aa,aa,aa,aa,?_⟩
 refine j6 (fun k:Nat=>⟨[(7,.own 224 0 (b ++ le x k).length (b ++ le x k).length),(8,.d (.int .u64 ((I0 (8*k) x:Nat):Int))),(21,.d (.int .i64 (n:Int))),(22,.d (.int .i64 (k:Int)))],[(224,⟨5,1,rb (b ++ le x k)⟩)],544⟩)
  (fun k=>k≤n) (fun k=>n - k) 0 aa (by
   simp [m6,c6,fv,lk,AV.low,AV.low1,le,I0]
   exact r5 _ _) ?_
 intro k hk;have hl:(b ++ le x k).length=b.length+k:=by rw [List.length_append,E4]
 have hs:rb (b ++ le x k) ++ [[AV.d (.int .u8 ((t8 (I0 (8*k) x):Nat):Int))]]=rb (b ++ le x (k+1)):=by rw [M7,List.append_assoc];rfl
 have w5:=m9 (k:=k) aa;simp only [go_sem,Nat.reduceEqDiff,Nat.reduceAdd,Nat.reduceLT,↓reduceIte];refine ⟨fun h=>?_,fun h=>?_⟩
 ·simp [go_sem,E0,n9,hs,E4,IntKind.bits,afI,abp,w5];refine ⟨aa,?_⟩;refine c8 (k+1) aa aa ?_;simp [m6,c6,fv,lk,AV.low,AV.low1,E4];exact ⟨aa,r5 _ _⟩
 ·have hkn:k=n:=aa;subst hkn;simp [go_sem,d6];have hl2:b.length+(le x k).length=(b ++ le x k).length:=by rw [List.length_append]
  rw [hl2];exact Sa rfl (by simp [nb])
theorem atd (b:List Nat) (x n:Nat) (hb:b.length≤1000000) (hx:x<65536) (hn:n≤8):d9 Tryz.prog 158 [.d (nb b),.d (.int .u16 (x:Int)),.d (.int .i64 (n:Int))] (fun r=>r=.d (nb (b ++ le x n))):=by
 refine s8 Tryz.func158 Tryz.ntmps158 (rs:=[.tmp 6]) ae ?_;have w1:IntKind.i64.wrap ((b.length:Int)+(n:Int))=((b.length+n:Nat):Int):=by rw [IntWalk.i64_in _ aa];omega
 have w2:IntKind.u64.wrap (x:Int)=(x:Int):=by rw [R3];omega
 have hr:List.replicate b.length [AV.d (.int .u8 0)]=rb (List.replicate b.length 0):=by simp [rb]
 simp only [go_sem,Nat.reduceEqDiff,Nat.reduceAdd,Nat.reduceLT,↓reduceIte,Nat.reduceMul,w1,w2,nb,List.length_map,Int.toNat_natCast,hr];simp [go_sem,F2,n9];rw [Yf];refine ⟨aa,aa,aa,aa,?_⟩
 refine j6 (fun k:Nat=>⟨[(7,.own 224 0 (b ++ le x k).length (b ++ le x k).length),(8,.d (.int .u64 ((I0 (8*k) x:Nat):Int))),(21,.d (.int .i64 (n:Int))),(22,.d (.int .i64 (k:Int)))],[(224,⟨5,1,rb (b ++ le x k)⟩)],544⟩)
  (fun k=>k≤n) (fun k=>n - k) 0 aa (by
   simp [m6,c6,fv,lk,AV.low,AV.low1,le,I0]
   exact r5 _ _) ?_
 intro k hk;have hl:(b ++ le x k).length=b.length+k:=by rw [List.length_append,E4]
 have hs:rb (b ++ le x k) ++ [[AV.d (.int .u8 ((t8 (I0 (8*k) x):Nat):Int))]]=rb (b ++ le x (k+1)):=by rw [M7,List.append_assoc];rfl
 have w5:=m9 (k:=k) aa;simp only [go_sem,Nat.reduceEqDiff,Nat.reduceAdd,Nat.reduceLT,↓reduceIte];refine ⟨fun h=>?_,fun h=>?_⟩
 ·simp [go_sem,E0,n9,hs,E4,IntKind.bits,afI,abp,w5];refine ⟨aa,?_⟩;refine c8 (k+1) aa aa ?_;simp [m6,c6,fv,lk,AV.low,AV.low1,E4];exact ⟨aa,r5 _ _⟩
 ·have hkn:k=n:=aa;subst hkn;simp [go_sem,d6];have hl2:b.length+(le x k).length=(b ++ le x k).length:=by rw [List.length_append]
  rw [hl2];exact Sa rfl (by simp [nb])
theorem ate (b:List Nat) (x n:Nat) (hb:b.length≤1000000) (hx:x<4294967296) (hn:n≤8):d9 Tryz.prog 146 [.d (nb b),.d (.int .u32 (x:Int)),.d (.int .i64 (n:Int))] (fun r=>r=.d (nb (b ++ le x n))):=by
 refine s8 Tryz.func146 Tryz.ntmps146 (rs:=[.tmp 6]) ae ?_;have w1:IntKind.i64.wrap ((b.length:Int)+(n:Int))=((b.length+n:Nat):Int):=by rw [IntWalk.i64_in _ aa];omega
 have w2:IntKind.u64.wrap (x:Int)=(x:Int):=by rw [R3];omega
 have hr:List.replicate b.length [AV.d (.int .u8 0)]=rb (List.replicate b.length 0):=by simp [rb]
 simp only [go_sem,Nat.reduceEqDiff,Nat.reduceAdd,Nat.reduceLT,↓reduceIte,Nat.reduceMul,w1,w2,nb,List.length_map,Int.toNat_natCast,hr];simp [go_sem,F2,n9];rw [Yf];refine ⟨aa,aa,aa,aa,?_⟩
 refine j6 (fun k:Nat=>⟨[(7,.own 224 0 (b ++ le x k).length (b ++ le x k).length),(8,.d (.int .u64 ((I0 (8*k) x:Nat):Int))),(21,.d (.int .i64 (n:Int))),(22,.d (.int .i64 (k:Int)))],[(224,⟨5,1,rb (b ++ le x k)⟩)],544⟩)
  (fun k=>k≤n) (fun k=>n - k) 0 aa (by
   simp [m6,c6,fv,lk,AV.low,AV.low1,le,I0]
   exact r5 _ _) ?_
 intro k hk;have hl:(b ++ le x k).length=b.length+k:=by rw [List.length_append,E4]
 have hs:rb (b ++ le x k) ++ [[AV.d (.int .u8 ((t8 (I0 (8*k) x):Nat):Int))]]=rb (b ++ le x (k+1)):=by rw [M7,List.append_assoc];rfl
 have w5:=m9 (k:=k) aa;simp only [go_sem,Nat.reduceEqDiff,Nat.reduceAdd,Nat.reduceLT,↓reduceIte];refine ⟨fun h=>?_,fun h=>?_⟩
 ·simp [go_sem,E0,n9,hs,E4,IntKind.bits,afI,abp,w5];refine ⟨aa,?_⟩;refine c8 (k+1) aa aa ?_;simp [m6,c6,fv,lk,AV.low,AV.low1,E4];exact ⟨aa,r5 _ _⟩
 ·have hkn:k=n:=aa;subst hkn;simp [go_sem,d6];have hl2:b.length+(le x k).length=(b ++ le x k).length:=by rw [List.length_append]
  rw [hl2];exact Sa rfl (by simp [nb])
end Go.Proofs.YtldccnbokbieiaaGreat
namespace Go.Sha
def t16 (a:Nat):Nat:=a % 65536
def r7 (n:Nat):List Nat:=if n<253 then le (t8 n) 1 else if n<65536 then le 253 1 ++ le (t16 n) 2 else le 254 1 ++ le (YD n) 4
theorem Rv (n:Nat):(r7 n).length≤5:=by
 unfold r7
 split
 ·simp [E4]
 ·split <;> simp [E4]
end Go.Sha
namespace Go.Proofs.YtldccnbokbieiaaGreat
open Go.Am Go.Sha
theorem aks (b:List Nat) (x n:Nat) (hb:b.length≤1000000) (hx:x<256) (hn:n≤8):J9 Tryz.prog 157 0 [] [.d (nb b),.d (.int .u8 (x:Int)),.d (.int .i64 (n:Int))] (fun r hp'=>r=.own 225 0 (b ++ le x n).length (b ++ le x n).length∧lk 225 hp'=some ⟨5,1,rb (b ++ le x n)⟩):=by
 refine B9 Tryz.func157 (by kernel_rfl) rfl Tryz.ntmps157 (rs:=[.tmp 6]) rfl (TG rfl) (by decide) ?_;have w1:IntKind.i64.wrap ((b.length:Int)+(n:Int))=((b.length+n:Nat):Int):=by rw [IntWalk.i64_in _ aa];omega
 have w2:IntKind.u64.wrap (x:Int)=(x:Int):=by rw [R3];omega
 have hr:List.replicate b.length [AV.d (.int .u8 0)]=rb (List.replicate b.length 0):=by simp [rb]
 simp only [go_sem,Nat.reduceEqDiff,Nat.reduceAdd,Nat.reduceLT,↓reduceIte,Nat.reduceMul,w1,w2,nb,List.length_map,Int.toNat_natCast,hr];simp [go_sem,F2,n9];rw [Yf];refine ⟨aa,aa,aa,aa,?_⟩
 refine j6 (fun k:Nat=>⟨[(7,.own 225 0 (b ++ le x k).length (b ++ le x k).length),(8,.d (.int .u64 ((I0 (8*k) x:Nat):Int))),(21,.d (.int .i64 (n:Int))),(22,.d (.int .i64 (k:Int)))],[(225,⟨5,1,rb (b ++ le x k)⟩)],545⟩)
  (fun k=>k≤n) (fun k=>n - k) 0 aa (by
   simp [m6,c6,fv,lk,AV.low,AV.low1,le,I0]
   exact r5 _ _) ?_
 intro k hk;have hl:(b ++ le x k).length=b.length+k:=by rw [List.length_append,E4]
 have hs:rb (b ++ le x k) ++ [[AV.d (.int .u8 ((t8 (I0 (8*k) x):Nat):Int))]]=rb (b ++ le x (k+1)):=by rw [M7,List.append_assoc];rfl
 have w5:=m9 (k:=k) aa;simp only [go_sem,Nat.reduceEqDiff,Nat.reduceAdd,Nat.reduceLT,↓reduceIte];refine ⟨fun h=>?_,fun h=>?_⟩
 ·simp [go_sem,E0,n9,hs,E4,IntKind.bits,afI,abp,w5];refine ⟨aa,?_⟩;refine c8 (k+1) aa aa ?_;simp [m6,c6,fv,lk,AV.low,AV.low1,E4];exact ⟨aa,r5 _ _⟩
 ·have hkn:k=n:=aa;subst hkn;simp [go_sem,d6]
theorem air (b:List Nat) (x n:Nat) (hb:b.length≤1000000) (hx:x<65536) (hn:n≤8):J9 Tryz.prog 158 0 [] [.d (nb b),.d (.int .u16 (x:Int)),.d (.int .i64 (n:Int))] (fun r hp'=>r=.own 225 0 (b ++ le x n).length (b ++ le x n).length∧lk 225 hp'=some ⟨5,1,rb (b ++ le x n)⟩):=by
 refine B9 Tryz.func158 (by kernel_rfl) rfl Tryz.ntmps158 (rs:=[.tmp 6]) rfl (TG rfl) (by decide) ?_;have w1:IntKind.i64.wrap ((b.length:Int)+(n:Int))=((b.length+n:Nat):Int):=by rw [IntWalk.i64_in _ aa];omega
 have w2:IntKind.u64.wrap (x:Int)=(x:Int):=by rw [R3];omega
 have hr:List.replicate b.length [AV.d (.int .u8 0)]=rb (List.replicate b.length 0):=by simp [rb]
 simp only [go_sem,Nat.reduceEqDiff,Nat.reduceAdd,Nat.reduceLT,↓reduceIte,Nat.reduceMul,w1,w2,nb,List.length_map,Int.toNat_natCast,hr];simp [go_sem,F2,n9];rw [Yf];refine ⟨aa,aa,aa,aa,?_⟩
 refine j6 (fun k:Nat=>⟨[(7,.own 225 0 (b ++ le x k).length (b ++ le x k).length),(8,.d (.int .u64 ((I0 (8*k) x:Nat):Int))),(21,.d (.int .i64 (n:Int))),(22,.d (.int .i64 (k:Int)))],[(225,⟨5,1,rb (b ++ le x k)⟩)],545⟩)
  (fun k=>k≤n) (fun k=>n - k) 0 aa (by
   simp [m6,c6,fv,lk,AV.low,AV.low1,le,I0]
   exact r5 _ _) ?_
 intro k hk;have hl:(b ++ le x k).length=b.length+k:=by rw [List.length_append,E4]
 have hs:rb (b ++ le x k) ++ [[AV.d (.int .u8 ((t8 (I0 (8*k) x):Nat):Int))]]=rb (b ++ le x (k+1)):=by rw [M7,List.append_assoc];rfl
 have w5:=m9 (k:=k) aa;simp only [go_sem,Nat.reduceEqDiff,Nat.reduceAdd,Nat.reduceLT,↓reduceIte];refine ⟨fun h=>?_,fun h=>?_⟩
 ·simp [go_sem,E0,n9,hs,E4,IntKind.bits,afI,abp,w5];refine ⟨aa,?_⟩;refine c8 (k+1) aa aa ?_;simp [m6,c6,fv,lk,AV.low,AV.low1,E4];exact ⟨aa,r5 _ _⟩
 ·have hkn:k=n:=aa;subst hkn;simp [go_sem,d6]
theorem ais (b:List Nat) (x n:Nat) (hb:b.length≤1000000) (hx:x<4294967296) (hn:n≤8):J9 Tryz.prog 146 0 [] [.d (nb b),.d (.int .u32 (x:Int)),.d (.int .i64 (n:Int))] (fun r hp'=>r=.own 225 0 (b ++ le x n).length (b ++ le x n).length∧lk 225 hp'=some ⟨5,1,rb (b ++ le x n)⟩):=by
 refine B9 Tryz.func146 (by kernel_rfl) rfl Tryz.ntmps146 (rs:=[.tmp 6]) rfl (TG rfl) (by decide) ?_;have w1:IntKind.i64.wrap ((b.length:Int)+(n:Int))=((b.length+n:Nat):Int):=by rw [IntWalk.i64_in _ aa];omega
 have w2:IntKind.u64.wrap (x:Int)=(x:Int):=by rw [R3];omega
 have hr:List.replicate b.length [AV.d (.int .u8 0)]=rb (List.replicate b.length 0):=by simp [rb]
 simp only [go_sem,Nat.reduceEqDiff,Nat.reduceAdd,Nat.reduceLT,↓reduceIte,Nat.reduceMul,w1,w2,nb,List.length_map,Int.toNat_natCast,hr];simp [go_sem,F2,n9];rw [Yf];refine ⟨aa,aa,aa,aa,?_⟩
 refine j6 (fun k:Nat=>⟨[(7,.own 225 0 (b ++ le x k).length (b ++ le x k).length),(8,.d (.int .u64 ((I0 (8*k) x:Nat):Int))),(21,.d (.int .i64 (n:Int))),(22,.d (.int .i64 (k:Int)))],[(225,⟨5,1,rb (b ++ le x k)⟩)],545⟩)
  (fun k=>k≤n) (fun k=>n - k) 0 aa (by
   simp [m6,c6,fv,lk,AV.low,AV.low1,le,I0]
   exact r5 _ _) ?_
 intro k hk;have hl:(b ++ le x k).length=b.length+k:=by rw [List.length_append,E4]
 have hs:rb (b ++ le x k) ++ [[AV.d (.int .u8 ((t8 (I0 (8*k) x):Nat):Int))]]=rb (b ++ le x (k+1)):=by rw [M7,List.append_assoc];rfl
 have w5:=m9 (k:=k) aa;simp only [go_sem,Nat.reduceEqDiff,Nat.reduceAdd,Nat.reduceLT,↓reduceIte];refine ⟨fun h=>?_,fun h=>?_⟩
 ·simp [go_sem,E0,n9,hs,E4,IntKind.bits,afI,abp,w5];refine ⟨aa,?_⟩;refine c8 (k+1) aa aa ?_;simp [m6,c6,fv,lk,AV.low,AV.low1,E4];exact ⟨aa,r5 _ _⟩
 ·have hkn:k=n:=aa;subst hkn;simp [go_sem,d6]
theorem anJ (a:Nat):IntKind.u16.wrap (a:Int)=((t16 a:Nat):Int):=by
 have:IntKind.u16.wrap (a:Int)=(a:Int) % 65536:=by simp [IntKind.wrap,IntKind.bits,IntKind.signed]
 rw [this];unfold t16;omega
theorem ad0 (b:List Nat) (n:Nat) (hb:b.length≤100000) (hn:n<4294967296):J9 Tryz.prog 120 0 [] [.d (nb b),.d (.int .u64 (n:Int))] (fun r hp'=>∃ I,r=.own I 0 (b ++ r7 n).length (b ++ r7 n).length∧lk I hp'=some ⟨5,1,rb (b ++ r7 n)⟩):=by
 refine B9 Tryz.func120 (by kernel_rfl) rfl Tryz.ntmps120 (rs:=[.tmp 4]) rfl (TG rfl) (by decide) ?_;by_cases h1:n<253
 ·have e:r7 n=le (t8 n) 1:=by unfold r7;rw [if_pos h1]
  rw [e];have i1:(n:Int)<253:=aa;simp [go_sem,i1,E0];refine G6 [] (aks b (t8 n) 1 aa (by unfold t8;omega) aa) rfl ab ab ab (by simp [AV.renL,AV.ren]) ?_;rintro r hp' ⟨rfl,h0⟩;refine ⟨[(225,0)],rfl,?_⟩;simp [go_sem,O0,L6,h0,Blk.ren,H1,Tl,AV.renL,AV.ren,J6,d6]
 ·have i1:¬ (n:Int)<253:=aa;by_cases h2:n<65536
  ·have e:r7 n=le 253 1 ++ le (t16 n) 2:=by unfold r7;rw [if_neg h1,if_pos h2]
   have i2:(n:Int)<65536:=aa;rw [e,← List.append_assoc];simp [go_sem,i1,i2,-List.append_assoc];refine a9 (ag2 b 253 1 aa aa aa) ae ?_;simp [go_sem,anJ,-List.append_assoc];refine G6 [] (air (b ++ le 253 1) (t16 n) 2 (by rw [List.length_append,E4];omega) (by unfold t16;omega) aa) rfl ab ab ab (by simp [AV.renL,AV.ren]) ?_;rintro r hp' ⟨rfl,h0⟩;refine ⟨[(225,0)],rfl,?_⟩;simp [go_sem,O0,L6,h0,Blk.ren,H1,Tl,AV.renL,AV.ren,J6,d6];omega
  ·have e:r7 n=le 254 1 ++ le (YD n) 4:=by unfold r7;rw [if_neg h1,if_neg h2]
   have i2:¬ (n:Int)<65536:=aa;have i3:(n:Int)<4294967296:=aa;rw [e,← List.append_assoc];simp [go_sem,i1,i2,i3,-List.append_assoc];refine a9 (ag2 b 254 1 aa aa aa) ae ?_;simp [go_sem,abi,-List.append_assoc];refine G6 [] (ais (b ++ le 254 1) (YD n) 4 (by rw [List.length_append,E4];omega) (by unfold YD;omega) aa) rfl ab ab ab (by simp [AV.renL,AV.ren]) ?_;rintro r hp' ⟨rfl,h0⟩;refine ⟨[(225,0)],rfl,?_⟩;simp [go_sem,O0,L6,h0,Blk.ren,H1,Tl,AV.renL,AV.ren,J6,d6];omega
theorem YI (b x:List Nat) (hb:b.length≤100000) (hx:x.length<1000000):d9 Tryz.prog 88 [.d (nb b),.d (nb x)] (fun r=>r=.d (nb (b ++ (r7 x.length ++ x)))):=by
 refine s8 Tryz.func88 Tryz.ntmps88 (rs:=[.tmp 4]) ae ?_;have w:IntKind.u64.wrap (x.length:Int)=(x.length:Int):=by rw [R3];omega
 have hp5:=Rv x.length;simp only [go_sem,Nat.reduceEqDiff,Nat.reduceAdd,Nat.reduceLT,↓reduceIte,nb,List.length_map,w];refine G6 [] (ad0 b x.length aa aa) rfl ab ab ab (by simp [AV.renL,AV.ren,nb]) ?_;rintro r hp' ⟨I,rfl,h0⟩;refine ⟨[(I,0)],by simp [abf,X7],?_⟩;simp [go_sem,O0,L6,h0,Blk.ren,H1,Tl,AV.renL,AV.ren,J6,F2,n9,d6];refine ⟨aa,?_⟩;rw [T0,show b.length+(r7 x.length).length+x.length=(b ++ r7 x.length ++ x).length by simp;omega];exact Sa rfl (by simp [nb])
theorem YJ (x:List Nat) (hx:x.length≤100000):d9 Tryz.prog 51 [.d (nb x)] (fun r=>r=.agg (cb (H9 [84,97,112,76,101,97,102] (192 :: (r7 x.length ++ x))))):=by
 refine s8 Tryz.func51 Tryz.ntmps51 (rs:=[.cell 2 23]) ae ?_;have hp5:=Rv x.length;simp [go_sem]
 have hs:∀ (hp:Hp),lk 32 hp=some ⟨5,1,rb [192]⟩→SnapD hp (fun id=>id ∈ [32]) (.own 32 0 1 1) (nb [192]):=fun hp h=>by
  have:=Xl (I:=fun id=>id ∈ [32]) (i0:=0) (n:=1) (L:=[192]) h ab ab;exact this
 refine B2 [32] (YI [192] x ab aa) rfl (m7 (.one (m8 (hs _ rfl))) (m7 (.deep ae) t4)) ?_;simp [go_sem,s7];refine a9 (Uh [84,97,112,76,101,97,102] (.str [84,97,112,76,101,97,102]) rfl (192 :: (r7 x.length ++ x)) ab (by simp;omega)) ae ?_;have hL:(H9 [84,97,112,76,101,97,102] (192 :: (r7 x.length ++ x))).length=32:=F8 _;generalize H9 [84,97,112,76,101,97,102] (192 :: (r7 x.length ++ x))=R at *;simp [go_sem,d6,hL,d5 hL,B4];exact b7 (by simp [AV.deep];exact s6 _) rfl
def RV (a:List Nat):List UInt8:=Lib.bytesOf (a.map fun (x:Nat)=>(x:Int))
theorem abq {P:Program} {w:World} {S:Nat→Prop} {σ:Nat→Option Nat} {hp:Hp} {U:Nat→Prop} {a:List Nat} {x:Value} (h:AIs w S σ hp U (.d (nb a)) x):(Extern.Bytes.bytesOf x).run P w=.ok ⟨(RV a).toArray⟩ w:=by
 cases h with
 | d h =>
  unfold nb at h;generalize hes:(a.map fun (b:Nat)=>[DV.int .u8 (b:Int)])=es at h
  cases h with
  | ro _ _ A c vs hc he hA hv hd =>
   have hlen:es.length=a.length:=by rw [← hes,List.length_map]
   cases A with
   | none =>
    have:a=[]:=by
     cases a with
     | nil=>rfl
     | cons y r =>
      obtain ⟨ad,h1,_⟩:=hA [DV.int .u8 (y:Int)] (by rw [← hes];simp)
      cases h1
    subst this;simp [Extern.Bytes.bytesOf,RV,Lib.bytesOf];rfl
   | some ad =>
    have hl:=Lib.run_loadBytesX (P:=P) w (a.map fun (x:Nat)=>(x:Int)) ad .empty (fun j y hj=>by
     simp only [List.getElem?_map,Option.map_eq_some_iff] at hj;obtain ⟨z,hz,rfl⟩:=hj;have h1:es[j]?=some [DV.int .u8 (z:Int)]:=by rw [← hes,List.getElem?_map,hz];rfl
     have h2:=hv ad rfl j 0 _ _ h1 rfl;have h3:=hd j 0 _ _ h1 rfl;rw [Nat.mul_one,Nat.add_zero] at h2;rw [h2];generalize vs j 0=u at h3
     cases h3
     rfl)
    rw [List.length_map] at hl;show (Extern.Bytes.loadBytes ad es.length .empty).run P w=_;rw [hlen,hl];congr 2;simp [RV]
theorem anK (a b:List Nat):W4 Tryz.prog 154 [.d (nb a),.d (nb b)] (.d (.int .i64 (Lib.compareBytes (RV a) (RV b)))):=by
 intro w S σ hp U vs hl hv
 match vs,hl with
 | [x,y],_ =>
  have hx:=abq (P:=Tryz.prog) (hv 0 _ x rfl rfl);have hy:=abq (P:=Tryz.prog) (hv 1 _ y rfl rfl);refine ⟨.int .i64 (Lib.compareBytes (RV a) (RV b)),?_,.d (.int _ _)⟩
  have hc:(Extern.BytealgCompare.compare #[x,y]).run Tryz.prog w=.ok (.int .i64 (Lib.compareBytes (RV a) (RV b))) w:=by
   change Sem.run Tryz.prog (do pure (goInt (Extern.BytealgCompare.cmp (← Extern.Bytes.bytesOf x) (← Extern.Bytes.bytesOf y)))) w=_
   simp only [Sem.run_bind,hx,hy,Result.andThen_ok,Sem.run_pure,Lib.cmp_eq];rfl
  rw [run_callFunc_extern Tryz.func154 (by kernel_rfl) (by kernel_rfl) (by kernel_rfl) (e:=Extern.BytealgCompare.compare) (by kernel_rfl),hc];rfl
theorem afJ (a b:List Nat):d9 Tryz.prog 116 [.d (nb a),.d (nb b)] (fun r=>r=.d (.int .i64 (Lib.compareBytes (RV a) (RV b)))):=by
 refine s8 Tryz.func116 Tryz.ntmps116 (rs:=[.tmp 4]) ae ?_;simp only [go_sem,Nat.reduceEqDiff,Nat.reduceAdd,Nat.reduceLT,↓reduceIte];refine X9 (anK a b) ?_;simp [go_sem,d6];exact b7 ae rfl
def A3:List Nat:=[84,97,112,66,114,97,110,99,104]
def t6 (a b:List Nat):List Nat:=H9 A3 (if 0<Lib.compareBytes (RV a) (RV b) then b ++ a else a ++ b)
theorem ad1 {hp:Hp} {I:Nat→Prop} {id:Nat} {L:List Nat} (hl:L.length=64) (hb:lk id hp=some ⟨5,1,rb L⟩) (hI:I id):SnapD hp I (.own id 0 64 64) (nb L):=by
 have h:=Xl (i0:=0) (n:=64) (L:=L) hb hI aa;rw [List.drop_zero,List.take_of_length_le aa,hl] at h;exact h
theorem abr (a b:List Nat) (ha:a.length=32) (hb:b.length=32):d9 Tryz.prog 86 [.agg (cb a),.agg (cb b)] (fun r=>r=.agg (cb (t6 a b))):=by
 refine s8 Tryz.func86 Tryz.ntmps86 (rs:=[.cell 4 23]) (by simp [AV.deep];exact ⟨s6 _,s6 _⟩) ?_;simp [go_sem,ha,hb];refine z6 [0,1] [(2,[3])] 1 (k:=4) ?_;intro G hG;simp [go_sem];refine Xj (afJ a b) rfl (m7 (.one (m8 (Tm rfl trivial ha))) (m7 (.one (m8 (Tm rfl trivial hb))) t4)) trivial ?_;simp [go_sem];refine hG _ _ ?_;clear hG G;by_cases hc:0<Lib.compareBytes (RV a) (RV b)
 ·have hda:List.drop 32 (cb a)=[]:=List.drop_eq_nil_of_le (by rw [d0];omega);have hdb:List.drop 32 (cb b)=[]:=List.drop_eq_nil_of_le (by rw [d0];omega);simp [go_sem,hc,ha,hb,hda,hdb,d5 ha,d5 hb];refine z6 [0,1] [(2,[]),(3,[]),(4,[])] 0 (k:=5) ?_;intro G hG;have hx1:=RU hb;have hx2:=RU ha;rw [F2] at hx1 hx2;simp [go_sem] at hx1 hx2;have hl:(b ++ a).length=64:=by rw [List.length_append];omega
  simp [go_sem];refine B2 [416] (Uh A3 (.str [84,97,112,66,114,97,110,99,104]) rfl (b ++ a) (by simp [A3]) aa) rfl (m7 (.deep ae) (m7 (.one (m8 (ad1 (L:=b ++ a) hl (by simp [lk];rw [← T0,← hx1,← hx2];rfl) ab))) t4)) ?_;have hR:t6 a b=H9 A3 (b ++ a):=by unfold t6;rw [if_pos hc]
  rw [hR] at hG;have hL:(H9 A3 (b ++ a)).length=32:=F8 _;generalize H9 A3 (b ++ a)=R at *;simp [go_sem,s7,hL];refine hG _ _ ?_;clear hG G;simp [go_sem,d6,hL,d5 hL,B4];exact b7 (by simp [AV.deep];exact s6 _) rfl
 ·have hda:List.drop 32 (cb a)=[]:=List.drop_eq_nil_of_le (by rw [d0];omega);have hdb:List.drop 32 (cb b)=[]:=List.drop_eq_nil_of_le (by rw [d0];omega);simp [go_sem,hc,ha,hb,hda,hdb,d5 ha,d5 hb];refine z6 [0,1] [(2,[]),(3,[]),(4,[])] 0 (k:=5) ?_;intro G hG;have hx1:=RU ha;have hx2:=RU hb;rw [F2] at hx1 hx2;simp [go_sem] at hx1 hx2;have hl:(a ++ b).length=64:=by rw [List.length_append];omega
  simp [go_sem];refine B2 [288] (Uh A3 (.str [84,97,112,66,114,97,110,99,104]) rfl (a ++ b) (by simp [A3]) aa) rfl (m7 (.deep ae) (m7 (.one (m8 (ad1 (L:=a ++ b) hl (by simp [lk];rw [← T0,← hx1,← hx2];rfl) ab))) t4)) ?_;have hR:t6 a b=H9 A3 (a ++ b):=by unfold t6;rw [if_neg hc]
  rw [hR] at hG;have hL:(H9 A3 (a ++ b)).length=32:=F8 _;generalize H9 A3 (a ++ b)=R at *;simp [go_sem,s7,hL];refine hG _ _ ?_;clear hG G;simp [go_sem,d6,hL,d5 hL,B4];exact b7 (by simp [AV.deep];exact s6 _) rfl
def cd (l:List Nat):List DV:=l.map fun (x:Nat)=>DV.int .u8 (x:Int)
theorem C8 (l:List Nat):(cd l).length=l.length:=by simp [cd]
theorem K4 (l:List Nat):(cd l).map AV.d=cb l:=by simp [cd,cb]
def r6 (ps:List (List Nat)):DV:=.ro 32 (ps.map cd)
def n7 (inner:List Nat) (path script:AV):List AV:=cb inner ++ [path,script]
def L0 (ps:List (List Nat)) (h:List Nat):List Nat:=ps.foldl t6 h
def anL:List Nat:=[84,97,112,76,101,97,102]
def E6 (x:List Nat):List Nat:=H9 anL (192 :: (r7 x.length ++ x))
theorem S7 (x:List Nat):(E6 x).length=32:=F8 _
theorem L2 (a b:List Nat):(t6 a b).length=32:=F8 _
theorem atf:P2 Tryz.prog 27=some (n7 z32 .nil .nil):=by kernel_rfl
attribute [go_sem] atf
theorem F5 {l:List Nat} (h:l.length=32):List.drop 32 (cb l)=[]:=List.drop_eq_nil_of_le (by rw [d0];omega)
theorem D4 {inner:List Nat} (hi:inner.length=32) (a b:AV):(cb inner ++ [a,b])[32]?=some a:=by
 rw [List.getElem?_append_right (by rw [d0];omega),d0,hi];rfl
theorem H5 {inner:List Nat} (hi:inner.length=32) (a b:AV):(cb inner ++ [a,b])[33]?=some b:=by
 rw [List.getElem?_append_right (by rw [d0];omega),d0,hi];rfl
theorem ZU {ps:List (List Nat)} {k:Nat} {p h:List Nat} (hk:ps[k]?=some p):L0 (ps.drop k) h=L0 (ps.drop (k+1)) (t6 h p):=by
 obtain ⟨h1,h2⟩:=List.getElem?_eq_some_iff.1 hk;unfold L0;rw [List.drop_eq_getElem_cons h1,List.foldl_cons,h2]
theorem anM (inner:List Nat) (ps:List (List Nat)) (x:List Nat) (hi:inner.length=32) (hp32:∀ p,p ∈ ps→p.length=32) (hps:ps.length≤1000) (hx:x.length≤100000) :
  d9 Tryz.prog 50 [.agg (n7 inner (.d (r6 ps)) (.d (nb x)))] (fun r=>r=.agg (cb (L0 ps (E6 x)))):=by
 refine s8 Tryz.func50 Tryz.ntmps50 (rs:=[.cell 2 23]) (by
  simp [AV.deep,n7];intro c hc;rcases hc with hc | rfl | rfl
  ·exact s6 _ _ hc
  ·trivial
  ·trivial) ?_
 simp [go_sem,n7,H5 hi];refine a9 (YJ x hx) ae ?_;have hL:(H9 [84,97,112,76,101,97,102] (192 :: (r7 x.length ++ x))).length=32:=F8 _;have hR:L0 ps (E6 x)=L0 (ps.drop 0) (H9 [84,97,112,76,101,97,102] (192 :: (r7 x.length ++ x))):=by rw [List.drop_zero];rfl
 rw [hR];generalize H9 [84,97,112,76,101,97,102] (192 :: (r7 x.length ++ x))=R at *;generalize hT:L0 (ps.drop 0) R=T;clear hR;simp [go_sem,D4 hi,r6,hL,d5 hL,B4]
 refine j6 (fun t:Nat × List Nat=>⟨[(2,.ptr 32 0 0 1),(3,.ptr 160 0 0 1),(10,.d (r6 ps)),(11,.d (.int .i64 (ps.length:Int))),(12,.d (.int .i64 (t.1:Int)))],[(32,⟨23,32,[cb z32]⟩),(160,⟨23,32,[cb t.2]⟩)],1000⟩)
  (fun t=>t.1≤ps.length∧t.2.length=32∧L0 (ps.drop t.1) t.2=T) (fun t=>ps.length - t.1) (0,R) ⟨aa,hL,hT⟩ (by
   simp [m6,c6,fv,lk,AV.low,AV.low1,r6]
   exact ⟨p9 _ _,p9 _ _⟩) ?_
 rintro ⟨k,h⟩ ⟨hk,hh,hT'⟩;simp only at hk hh hT';simp only [go_sem,Nat.reduceEqDiff,Nat.reduceAdd,Nat.reduceLT,↓reduceIte];refine ⟨fun hlt=>?_,fun hge=>?_⟩
 ·have hlt':k<ps.length:=aa;have hp:=List.getElem?_eq_getElem hlt';generalize ps[k]=p at hp;have hpl:p.length=32:=hp32 p (List.mem_of_getElem? hp);rw [ZU hp] at hT';simp [go_sem,r6,hp,C8,hpl,K4,d5 hpl,d0,hh,d5 hh,B4];refine a9 (abr h p hh hpl) (by simp [AV.deep];exact ⟨s6 _,s6 _⟩) ?_;have hB:=L2 h p;generalize t6 h p=B at *;simp [go_sem,d0,hB,hh,d5 hB,F5 hh];refine c8 (k+1,B) ⟨aa,hB,hT'⟩ aa ?_;have w:=m9 (k:=k) aa;simp [m6,c6,fv,lk,AV.low,AV.low1,r6,w];exact ⟨p9 _ _,p9 _ _⟩
 ·have hkn:k=ps.length:=aa;subst hkn;have:T=h:=by rw [← hT',List.drop_length];rfl
  subst this;simp [go_sem,d6,hh,d5 hh,B4];exact b7 (by simp [AV.deep];exact s6 _) rfl
end Go.Proofs.YtldccnbokbieiaaGreat
namespace Go.Sha
def YZ {α:Type}:Nat→(Nat→α)→α
 | 0,k=>k 0
 | n+1,k=>k (n+1)
theorem To {α:Type} (n:Nat) (k:Nat→α):YZ n k=k n:=by cases n <;> rfl
def rdF {α:Type} (s:S8) (k w:Nat) (C:S8→α):α:=YZ (T1 s k w) fun t=>YZ (RQ t (T2 s)) fun x=>YZ (RQ s.d t) fun y=>C ⟨x,s.a,s.b,s.c,y,s.e,s.f,s.g⟩
theorem aqT {α:Type} (s:S8) (k w:Nat) (C:S8→α):rdF s k w C=C (rd s k w):=by simp only [rdF,To,rd]
def ZV {α:Type}:List Nat→List Nat→S8→(S8→α)→α
 | k :: ks,w :: ws,s,C=>rdF s k w fun s'=>ZV ks ws s' C
 | _,_,s,C=>C s
theorem ad2 {α:Type}:∀ (ks ws:List Nat) (s:S8) (C:S8→α),ZV ks ws s C=C ((ks.zip ws).foldl rdp s)
 | [],_,s,C=>by simp [ZV]
 | k :: ks,[],s,C=>by simp [ZV]
 | k :: ks,w :: ws,s,C=>by simp only [ZV,aqT,ad2 ks ws,List.zip_cons_cons,List.foldl_cons];rfl
def ad3 {α:Type}:List Nat→(List Nat→α)→α
 | [],C=>C []
 | x :: r,C=>YZ x fun y=>ad3 r fun q=>C (y :: q)
theorem ZW {α:Type}:∀ (l:List Nat) (C:List Nat→α),ad3 l C=C l
 | [],C=>rfl
 | x :: r,C=>by simp only [ad3,To,ZW r]
def wxR (l:List Nat):Nat :=
 RQ (RQ (RQ (l.getD 15 0) (R4 (R4 (Vb 25 (l.getD 14 0)) (Vb 14 (l.getD 14 0))) (I0 3 (l.getD 14 0)))) (l.getD 6 0)) (R4 (R4 (Vb 15 (l.getD 1 0)) (Vb 13 (l.getD 1 0))) (I0 10 (l.getD 1 0)))
theorem Xm (w:List Nat) (i:Nat) (h:i<w.length):w.reverse.getD i 0=w.getD (w.length - 1 - i) 0:=by
 rw [List.getD_eq_getElem?_getD,List.getD_eq_getElem?_getD,List.getElem?_reverse h]
theorem aqU (w:List Nat) (h:16≤w.length):wxR w.reverse=wx w:=by
 unfold wxR wx;rw [Xm w 15 aa,Xm w 14 aa,Xm w 6 aa,Xm w 1 aa];rw [show w.length - 1 - 15=w.length - 16 by omega,show w.length - 1 - 14=w.length - 15 by omega,show w.length - 1 - 6=w.length - 7 by omega,show w.length - 1 - 1=w.length - 2 by omega]
def anN {α:Type}:Nat→List Nat→(List Nat→α)→α
 | 0,l,C=>C l
 | n+1,l,C=>YZ (wxR l) fun x=>anN n (x :: l) C
theorem ag3 {α:Type} (b:List Nat):∀ (n m:Nat) (C:List Nat→α),anN n (D7 b m).reverse C=C (D7 b (m+n)).reverse
 | 0,m,C=>rfl
 | n+1,m,C=>by
  have h:wxR (D7 b m).reverse :: (D7 b m).reverse=(D7 b (m+1)).reverse:=by
   rw [aqU _ (by rw [Uf];omega)];simp [D7]
  simp only [anN,To,h];rw [ag3 b n (m+1) C,show m+1+n=m+(n+1) by omega]
def akt {α:Type} (s:S8) (b:List Nat) (C:S8→α):α :=
 ad3 (Rq b 16) fun q=>anN 48 q.reverse fun l=>ZV K l.reverse s fun v=>C (YE s v)
theorem aku {α:Type} (s:S8) (b:List Nat) (C:S8→α):akt s b C=C (take s b):=by
 unfold akt;rw [ZW];have:=ag3 b 48 0 (fun l=>ZV K l.reverse s fun v=>C (YE s v));simp only [D7,Nat.zero_add] at this;rw [this,List.reverse_reverse,ad2];rfl
def stB:S8:=⟨2631984358,2081516601,951306994,3272560777,3555955564,1197698656,2108899050,3720802505⟩
end Go.Sha
namespace Go.Proofs.YtldccnbokbieiaaGreat
open Go.Am Go.Sha
theorem afK {a b:List Nat}:(a.map fun (x:Nat)=>(x:Int))=b.map (fun (x:Nat)=>(x:Int)) ↔ a=b:=by
 constructor
 ·intro h;have:=congrArg (List.map Int.toNat) h
  simpa [List.map_map,Function.comp_def] using this
 ·rintro rfl;rfl
theorem abt {hp:Hp} {I:Nat→Prop} {a a':List AV}:∀ (l:List AV),(∀ c,c ∈ l→c.deep1)→(∀ (i:Nat) (c c':AV),a[i]?=some c→a'[i]?=some c'→SV hp I c c')→∀ (i:Nat) (c c':AV),(l ++ a)[i]?=some c→(l ++ a')[i]?=some c'→SV hp I c c'
 | [],_,h=>h
 | x :: l,hl,h=>o9 (C7 (hl x (List.mem_cons_self ..))) (abt l (fun c hc=>hl c (List.mem_cons_of_mem _ hc)) h)
theorem auS (l:List Nat):∀ c,c ∈ cb l→c.flat1:=by
 intro c hc;simp only [cb,List.mem_map] at hc;obtain ⟨x,_,rfl⟩:=hc
 trivial
theorem Xn:∀ (x y:List UInt8),(0<Lib.compareBytes x y ↔ Lib.compareBytes y x<0)∧(Lib.compareBytes x y=0→x=y)
 | [],[]=>by simp [Lib.compareBytes]
 | [],_ :: _=>by simp [Lib.compareBytes]
 | _ :: _,[]=>by simp [Lib.compareBytes]
 | a :: x,b :: y=>by
  have ih:=Xn x y;simp only [Lib.compareBytes];by_cases h1:a<b
  ·have h2:¬ b<a:=fun h=>by
    have:=UInt8.lt_iff_toNat_lt.1 h;have:=UInt8.lt_iff_toNat_lt.1 h1;omega
   simp [h1,h2]
  ·by_cases h2:b<a
   ·simp [h1,h2]
   ·have:a=b:=UInt8.toNat_inj.1 (by
     have e1:¬ a.toNat<b.toNat:=fun h=>h1 (UInt8.lt_iff_toNat_lt.2 h);have e2:¬ b.toNat<a.toNat:=fun h=>h2 (UInt8.lt_iff_toNat_lt.2 h)
     omega)
    subst this;simp only [h1,if_false];exact ⟨ih.1,fun h=>by rw [ih.2 h]⟩
def bytes (l:List Nat):Prop:=∀ x,x ∈ l→x<256
theorem acq:∀ {a b:List Nat},bytes a→bytes b→RV a=RV b→a=b
 | [],[],_,_,_=>rfl
 | [],_ :: _,_,_,h=>by simp [RV,Lib.bytesOf] at h
 | _ :: _,[],_,_,h=>by simp [RV,Lib.bytesOf] at h
 | x :: a,y :: b,ha,hb,h=>by
  have hx:=ha x (List.mem_cons_self ..);have hy:=hb y (List.mem_cons_self ..);simp [RV,Lib.bytesOf] at h;obtain ⟨h1,h2⟩:=h;have:=acq (fun z hz=>ha z (List.mem_cons_of_mem _ hz)) (fun z hz=>hb z (List.mem_cons_of_mem _ hz)) (by simpa [RV,Lib.bytesOf] using h2)
  have e:x=y:=by
   have:=congrArg UInt8.toNat h1;rw [UInt8.toNat_ofNat',UInt8.toNat_ofNat',Nat.mod_eq_of_lt aa,Nat.mod_eq_of_lt aa] at this;exact this
  rw [this,e]
theorem acr {a b:List Nat} (ha:bytes a) (hb:bytes b):t6 a b=t6 b a:=by
 unfold t6;obtain ⟨h1,h2⟩:=Xn (RV a) (RV b);obtain ⟨h3,h4⟩:=Xn (RV b) (RV a);by_cases c1:0<Lib.compareBytes (RV a) (RV b)
 ·have c2:¬ 0<Lib.compareBytes (RV b) (RV a):=by have:=h1.1 c1;omega
  rw [if_pos c1,if_neg c2]
 ·by_cases c2:0<Lib.compareBytes (RV b) (RV a)
  ·rw [if_neg c1,if_pos c2]
  ·have h0:Lib.compareBytes (RV a) (RV b)=0:=by
    have:¬ Lib.compareBytes (RV a) (RV b)<0:=fun h=>c2 (h3.2 h);omega
   have:=acq ha hb (h2 h0);subst this;rfl
theorem ait {inner:List Nat} {a b:AV} (ha:a.deep1) (hb:b.deep1):(AV.agg (n7 inner a b)).deep:=by
 intro c hc;simp only [n7,List.mem_append,List.mem_cons,List.mem_nil_iff,or_false] at hc;rcases hc with hc | rfl | rfl
 ·exact s6 _ _ hc
 ·exact ha
 ·exact hb
theorem RX (l:List Nat):(AV.agg (cb l)).deep:=s6 l
theorem ad5 {n:Nat}:∀ (m:Nat) {ds:List DV},aii (UF Tryz.prog (n+1)) Tryz.prog.cellsOf (List.replicate m 5) ds→∃ l:List Nat,ds=cd l∧l.length=m∧bytes l
 | 0,ds,h=>⟨[],by simpa [aii,cd] using h,rfl,fun _ h=>by simp at h⟩
 | m+1,ds,h=>by
  rw [List.replicate_succ] at h;obtain ⟨a,b,rfl,_,h2,h3⟩:=h;simp only [UF,Tryz.underlying5] at h2;obtain ⟨x,rfl,hx⟩:=h2;obtain ⟨l,rfl,hl,hb⟩:=ad5 m h3;have hx':0≤x∧x<256:=by simp [IntKind.has,IntKind.min,IntKind.max,IntKind.signed,IntKind.bits] at hx;omega
  refine ⟨x.toNat :: l,?_,by simp [hl],fun y hy=>?_⟩
  ·simp only [cd,List.map_cons,List.cons_append,List.nil_append];rw [show ((x.toNat:Nat):Int)=x by omega]
  ·rcases List.mem_cons.1 hy with rfl | hy
   ·omega
   ·exact hb y hy
theorem ZX {n:Nat} {ds:List DV} (h:UF Tryz.prog (n+2) 23 ds):∃ l:List Nat,ds=cd l∧l.length=32∧bytes l:=by
 rw [UF] at h;simp only [Tryz.underlying23] at h;exact ad5 32 h
theorem ZY {n:Nat} {d:DV} (h:UF Tryz.prog (n+2) 22 [d]):∃ bs:List Nat,d=nb bs∧bs.length≤maxLen∧bytes bs:=by
 simp only [UF,Tryz.underlying22,List.cons.injEq,and_true] at h;obtain ⟨es,rfl,hl,hr⟩:=h
 obtain ⟨bs,rfl,hbs⟩:=afE (enc:=fun b:Nat=>[DV.int .u8 (b:Int)]) (R:=fun b=>b<256) (es:=es) (fun r hr'=>by
  obtain ⟨h1,h2⟩:=hr r hr';simp only [Tryz.underlying5] at h1;obtain ⟨x,rfl,hx⟩:=h1;have hx':0≤x∧x<256:=by simp [IntKind.has,IntKind.min,IntKind.max,IntKind.signed,IntKind.bits] at hx;omega
  exact ⟨x.toNat,by rw [show ((x.toNat:Nat):Int)=x by omega],aa⟩)
 exact ⟨bs,by rw [show Tryz.prog.cellsOf 5=1 by kernel_rfl];rfl,by simpa using hl,hbs⟩
theorem anO {n:Nat} {d:DV} (h:UF Tryz.prog (n+3) 25 [d]):∃ ps:List (List Nat),d=r6 ps∧∀ p,p ∈ ps→p.length=32∧bytes p:=by
 rw [UF] at h;simp only [Tryz.underlying25,List.cons.injEq,and_true] at h;obtain ⟨es,rfl,hl,hr⟩:=h
 obtain ⟨ps,rfl,hps⟩:=afE (enc:=cd) (R:=fun p=>p.length=32∧bytes p) (es:=es) (fun r hr'=>by
  obtain ⟨l,rfl,h1,h2⟩:=ZX (hr r hr').1
  exact ⟨l,rfl,h1,h2⟩)
 exact ⟨ps,by rw [show Tryz.prog.cellsOf 23=32 by kernel_rfl];rfl,hps⟩
theorem akv {n:Nat} {a:AV} (h:Xk Tryz.prog (n+4) 27 a):∃ (inner:List Nat) (ps:List (List Nat)) (x:List Nat),a=.agg (n7 inner (.d (r6 ps)) (.d (nb x)))∧inner.length=32∧bytes inner∧(∀ p,p ∈ ps→p.length=32∧bytes p)∧x.length≤maxLen∧bytes x:=by
 unfold Xk at h;simp only [Tryz.underlying27] at h;obtain ⟨ds,rfl,h⟩:=h;rw [UF] at h;simp only [Tryz.underlying27,List.map_cons,List.map_nil] at h;obtain ⟨a,b,rfl,ha,ha2,a',b',rfl,hb,hb2,a3,b3,rfl,hc,hc2,rfl⟩:=h;obtain ⟨inner,rfl,h1,h2⟩:=ZX ha2;rw [show Tryz.prog.cellsOf 25=1 by kernel_rfl] at hb;rw [show Tryz.prog.cellsOf 22=1 by kernel_rfl] at hc
 match a',hb,hb2,a3,hc,hc2 with
 | [y],_,hb2,[z],_,hc2 =>
  obtain ⟨ps,rfl,h3⟩:=anO hb2;obtain ⟨x,rfl,h4,h5⟩:=ZY hc2;exact ⟨inner,ps,x,by simp [n7,K4],h1,h2,h3,h4,h5⟩
end Go.Proofs.YtldccnbokbieiaaGreat
namespace Go.Sha
open Go.Am
def ror (n x:Nat):Nat:=o32 (I0 n x) (s32 (32 - n) x)
theorem Sl {n x:Nat} (h:n≤32):ror n x=Vb (32 - n) x:=by
 unfold ror Vb o32;rw [Nat.or_comm,show 32 - (32 - n)=n by omega]
theorem akw (a b:Nat):RQ a b=RQ b a:=by unfold RQ;rw [Nat.add_comm]
theorem atg (e:Nat):R4 e 4294967295=c32 e:=by unfold R4 c32;rw [Nat.xor_comm]
theorem ath {x i c:Nat} (h:c<2 ^ i):x*2 ^ i ||| c=x*2 ^ i+c:=by
 rw [← Nat.shiftLeft_eq,Nat.shiftLeft_add_eq_or_of_lt h]
def akx (a b c d:Nat):Nat:=o32 (o32 (o32 (s32 24 (YD a)) (s32 16 (YD b))) (s32 8 (YD c))) (YD d)
theorem acs {x i c:Nat} (hx:x*2 ^ i+c<4294967296) (h:c<2 ^ i):o32 (x*2 ^ i) c=x*2 ^ i+c:=by
 unfold o32;rw [ath h,Nat.mod_eq_of_lt hx]
theorem ZZ {x:Nat} (h:x<4294967296):YD x=x:=Nat.mod_eq_of_lt h
theorem acu {x i:Nat} (h:x*2 ^ i<4294967296):s32 i x=x*2 ^ i:=Nat.mod_eq_of_lt h
theorem o8 {x y:Nat} (hx:x<16777216) (hy:y<256):o32 (s32 8 x) (YD y)=x*256+y:=by
 rw [ZZ aa,acu aa,acs aa aa]
theorem aky {a b c d:Nat} (ha:a<256) (hb:b<256) (hc:c<256) (hd:d<256):akx a b c d=Vd [a,b,c,d]:=by
 have r:Vd [a,b,c,d]=((a*256+b)*256+c)*256+d:=by
  unfold Vd;simp only [List.foldl_cons,List.foldl_nil];rw [o8 aa ha,o8 aa hb,o8 aa hc,o8 aa hd];omega
 rw [r];unfold akx;rw [ZZ (by omega:a<4294967296),ZZ (by omega:b<4294967296),ZZ (by omega:c<4294967296),ZZ (by omega:d<4294967296),acu aa,acu aa,acu aa];rw [acs aa aa];rw [show a*2 ^ 24+b*2 ^ 16=(a*2 ^ 8+b)*2 ^ 16 by omega];rw [acs aa aa];rw [show (a*2 ^ 8+b)*2 ^ 16+c*2 ^ 8=((a*2 ^ 8+b)*2 ^ 8+c)*2 ^ 8 by omega];rw [acs aa aa]
def wx2 (w:List Nat):Nat :=
 let t:=w.length
 let x:=w.getD (t - 15) 0
 let y:=w.getD (t - 2) 0
 let s0:=R4 (R4 (ror 7 x) (ror 18 x)) (I0 3 x)
 let s1:=R4 (R4 (ror 17 y) (ror 19 y)) (I0 10 y)
 RQ (RQ (RQ s1 (w.getD (t - 7) 0)) s0) (w.getD (t - 16) 0)
theorem aqV (w:List Nat):wx2 w=wx w:=by
 unfold wx2 wx;simp only [Sl (show 7≤32 by omega),Sl (show 18≤32 by omega),Sl (show 17≤32 by omega),Sl (show 19≤32 by omega)];generalize R4 (R4 (Vb (32 - 7) (w.getD (w.length - 15) 0)) (Vb (32 - 18) (w.getD (w.length - 15) 0))) (I0 3 (w.getD (w.length - 15) 0))=s0;generalize R4 (R4 (Vb (32 - 17) (w.getD (w.length - 2) 0)) (Vb (32 - 19) (w.getD (w.length - 2) 0))) (I0 10 (w.getD (w.length - 2) 0))=s1;unfold RQ;omega
def XV (b:List Nat) (t:Nat):List Nat:=if t≤16 then Rq b t else D7 b (t - 16)
theorem anP (b:List Nat) (t:Nat):(XV b t).length=t:=by
 unfold XV
 split
 ·exact UH b t
 ·rw [Uf];omega
theorem aqW {b:List Nat} {t:Nat} (h:t<16):XV b (t+1)=XV b t ++ [Vd ((b.take (4*t+4)).drop (4*t))]:=by
 unfold XV;rw [if_pos aa,if_pos aa];rfl
theorem aqX {b:List Nat} {t:Nat} (h:16≤t):XV b (t+1)=XV b t ++ [wx (XV b t)]:=by
 have e:XV b t=D7 b (t - 16):=by
  unfold XV
  split
  ·have:t=16:=aa;subst this;rfl
  ·rfl
 rw [e];unfold XV;rw [if_neg aa,show t+1 - 16=(t - 16)+1 by omega];rfl
theorem anQ (b:List Nat):XV b 64=Ug b:=rfl
theorem abu {a:List Nat} (ha:a.length % 64=0):∀ (n:Nat) (l:List Nat),Go.Proofs.YtldccnbokbieiaaGreat.padTo n (a ++ l)=a ++ Go.Proofs.YtldccnbokbieiaaGreat.padTo n l
 | 0,l=>rfl
 | n+1,l=>by
  unfold Go.Proofs.YtldccnbokbieiaaGreat.padTo;have:(a ++ l).length % 64=l.length % 64:=by rw [List.length_append];omega
  rw [this]
  split
  ·rfl
  ·rw [List.append_assoc];exact abu ha n (l ++ [0])
theorem afL {a l:List Nat} (ha:a.length % 64=0) (n:Nat):Go.Proofs.YtldccnbokbieiaaGreat.lastOf (a ++ l) n=a ++ Go.Proofs.YtldccnbokbieiaaGreat.lastOf l n:=by
 unfold Go.Proofs.YtldccnbokbieiaaGreat.lastOf;rw [List.append_assoc,abu ha,List.append_assoc]
theorem afM (n:Nat):∀ (k:Nat) (s:S8) (b:List Nat),b.length≤k→E s (Go.Proofs.YtldccnbokbieiaaGreat.lastOf b n)=E (E s b).1 (Go.Proofs.YtldccnbokbieiaaGreat.lastOf (E s b).2 n)
 | 0,s,b,h=>by rw [Vu (b:=b) aa]
 | k+1,s,b,h=>by
  by_cases h64:64≤b.length
  ·rw [WJ (b:=b) h64]
   have e:Go.Proofs.YtldccnbokbieiaaGreat.lastOf b n=b.take 64 ++ Go.Proofs.YtldccnbokbieiaaGreat.lastOf (b.drop 64) n:=by
    rw [← afL (by rw [List.length_take];omega),List.take_append_drop]
   have h3:64≤(b.take 64 ++ Go.Proofs.YtldccnbokbieiaaGreat.lastOf (b.drop 64) n).length:=by simp;omega
   rw [e,WJ h3];have hl:(b.take 64).length=64:=by rw [List.length_take];omega
   rw [List.take_append_of_le_length aa,List.drop_append_of_le_length aa,List.take_of_length_le (by omega:(b.take 64).length≤64),List.drop_eq_nil_of_le aa,List.nil_append];exact afM n k _ _ (by rw [List.length_drop];omega)
  ·rw [Vu (b:=b) aa]
theorem afN (b:List Nat):L7 b=dig (E H0 (Go.Proofs.YtldccnbokbieiaaGreat.lastOf b b.length)).1:=by
 unfold L7 Ye;rw [afM b.length b.length H0 b (Nat.le_refl _)]
def UJ (h:List Nat):Nat→List Nat→List Nat
 | 0,v=>v
 | i+1,v=>(UJ h i v).set i (RQ ((UJ h i v).getD i 0) (h.getD i 0))
theorem ad7 (h:List Nat) (v:List Nat):∀ i,(UJ h i v).length=v.length
 | 0=>rfl
 | i+1=>by simp [UJ,ad7 h v i]
theorem akz (s v:S8):UJ s.l 8 v.l=(YE s v).l:=by
 simp [UJ,S8.l,YE,akw]
end Go.Sha
namespace Go.Proofs.YtldccnbokbieiaaGreat
open Go.Am Go.Sha
def nw (l:List Nat):DV:=.ro 1 (l.map fun (x:Nat)=>[.int .u32 (x:Int)])
def Y0 (l:List Nat):List (List AV):=l.map fun (x:Nat)=>[.d (.int .u32 (x:Int))]
theorem Xo (l:List Nat):(Y0 l).length=l.length:=by simp [Y0]
theorem UK (n:Nat) (l:List Nat):∀ r,r ∈ Y0 l→∀ v,v ∈ r→v.low1 n:=by
 intro r hr v hv;simp only [Y0,List.mem_map] at hr;obtain ⟨x,_,rfl⟩:=hr;simp at hv;subst hv
 trivial
theorem ad8 (a:List Nat) (x:Nat):Y0 a ++ [[AV.d (.int .u32 (x:Int))]]=Y0 (a ++ [x]):=by simp [Y0]
theorem aqY (a:List Nat):List.map ((fun r=>List.map AV.d r) ∘ fun (x:Nat)=>[DV.int .u32 (x:Int)]) a=Y0 a:=by simp [Y0]
theorem acv (l:List Nat) (i:Nat):(Y0 l)[i]?=(l[i]?).map fun (x:Nat)=>[AV.d (.int .u32 (x:Int))]:=by simp [Y0]
theorem anR (l:List Nat) (i x:Nat):(Y0 l).set i [.d (.int .u32 (x:Int))]=Y0 (l.set i x):=by simp [Y0,List.map_set]
theorem anS (l:List Nat):Y0 l=(l.map fun (x:Nat)=>[DV.int .u32 (x:Int)]).map fun r=>r.map .d:=by simp [Y0]
theorem ad9 {hp:Hp} {I:Nat→Prop} {id:Nat} {L:List Nat} (hb:lk id hp=some ⟨53,1,Y0 L⟩) (hI:I id):SnapD hp I (.own id 0 L.length L.length) (nw L):=by
 rw [anS] at hb
 exact C4 hb hI ab (fun r hr=>by
  rw [List.mem_map] at hr;obtain ⟨x,_,rfl⟩:=hr
  rfl)
theorem Z0 {Q:AV→Prop} {st:St} {id:Nat} {L:List Nat} (hb:lk id st.hp=some ⟨53,1,Y0 L⟩) (hq:Q (.d (nw L))):K9 Q (.own id 0 L.length L.length) st :=
 D1 (m8 (ad9 hb trivial)) trivial hq
theorem So (x n:Nat) (m:Int) (hm:m=(n:Int)) (h:n≤32):d9 Tryz.prog 196 [.d (.int .u32 (x:Int)),.d (.int .u64 m)] (fun r=>r=.d (.int .u32 ((ror n x:Nat):Int))):=by
 subst hm;refine s8 Tryz.func196 Tryz.ntmps196 (rs:=[.tmp 4]) ae ?_;have w1:IntKind.u64.wrap (32 - (n:Int))=((32 - n:Nat):Int):=by rw [R3];omega
 have m1:min n 32=n:=aa;have m2:min (32 - n) 32=32 - n:=aa;simp [go_sem,w1,IntKind.bits,m1,m2,d_r,apc,anE,d6];exact b7 ae rfl
theorem aiu:d9 Tryz.prog 151 [] (fun r=>r=.d (nw K)):=by
 refine s8 Tryz.func151 Tryz.ntmps151 (rs:=[.tmp 0]) ab ?_;simp [go_sem,d6];exact Z0 (L:=K) (by kernel_rfl) rfl
theorem aiv (b:List Nat) (hb:b.length≤100000000000):d9 Tryz.prog 152 [.d (nb b)] (fun r=>r=.d (nb (lastOf b b.length))):=by
 refine s8 Tryz.func152 Tryz.ntmps152 (rs:=[.tmp 2]) ae ?_;simp [go_sem,nb,F2,WI,n9];refine ⟨aa,aa,?_⟩
 refine j6 (fun l:List Nat=>⟨[(0,.d (nb b)),(3,.own 32 0 l.length l.length)],[(32,⟨5,1,rb l⟩)],288⟩)
  (fun l=>l.length≤100000000000+65∧∃ k,(120 - l.length % 64) % 64≤k∧(k+l.length≤100000000000+65)∧padTo k l=padTo 64 (b ++ [128])) (fun l=>(120 - l.length % 64) % 64) (b ++ [128]) ⟨by simp;omega,64,aa,by simp;omega,rfl⟩ (by
   simp [m6,c6,fv,lk,AV.low,AV.low1,nb]
   exact r5 _ _) ?_
 rintro l ⟨hl1,k,hk,hk2,hP⟩;have em:Int.tmod (l.length:Int) 64=((l.length % 64:Nat):Int):=afH _;simp only [go_sem,Nat.reduceEqDiff,Nat.reduceAdd,Nat.reduceLT,↓reduceIte,em];refine ⟨by decide,fun h=>?_,fun h=>?_⟩
 ·have h56:l.length % 64 ≠ 56:=aa;rw [WH h56 aa] at hP;refine ⟨by decide,n9 l,aa,?_⟩;rw [ZS];refine c8 (l ++ [0]) ⟨by simp;omega,k - 1,by simp;omega,by simp;omega,hP⟩ (by simp;omega) ?_;simp [m6,c6,fv,lk,AV.low,AV.low1,nb];exact r5 _ _
 ·have h56:l.length % 64=56:=aa;rw [Yd h56] at hP;have hm8:IntKind.u64.wrap (IntKind.u64.wrap (b.length:Int)*8)=((b.length*8 % 18446744073709551616:Nat):Int):=by rw [R3,R3];omega
  simp only [go_sem,Nat.reduceEqDiff,Nat.reduceAdd,Nat.reduceLT,↓reduceIte,nb,hm8];have hm:lastOf b b.length=l ++ len8 (b.length*8 % 18446744073709551616) 8:=by unfold lastOf;rw [← hP]
  rw [hm];generalize b.length*8 % 18446744073709551616=m;clear hm hm8 hP hk hk2
  refine j6 (fun j:Nat=>⟨[(3,.own 32 0 (l ++ len8 m j).length (l ++ len8 m j).length),(4,.d (.int .u64 (m:Int))),(5,.d (.int .i64 (j:Int)))],[(32,⟨5,1,rb (l ++ len8 m j)⟩)],800⟩)
   (fun j=>j≤8) (fun j=>8 - j) 0 aa (by
    simp [m6,c6,fv,lk,AV.low,AV.low1,len8]
    exact r5 _ _) ?_
  intro j hj;have hll:(l ++ len8 m j).length=l.length+j:=by rw [List.length_append,len8_len]
  simp only [go_sem,Nat.reduceEqDiff,Nat.reduceAdd,Nat.reduceLT,↓reduceIte];refine ⟨fun h=>?_,fun h=>?_⟩
  ·have hj7:j≤7:=aa;have w1:IntKind.i64.wrap (8*(j:Int))=((8*j:Nat):Int):=by rw [IntWalk.i64_in _ aa];omega
   have w2:IntKind.i64.wrap (56 - ((8*j:Nat):Int))=((56 - 8*j:Nat):Int):=by rw [IntWalk.i64_in _ aa];omega
   have w3:IntKind.u64.wrap ((56 - 8*j:Nat):Int)=((56 - 8*j:Nat):Int):=by rw [R3];omega
   have w4:min (56 - 8*j) 64=56 - 8*j:=aa;have w5:=m9 (k:=j) aa;have es:rb (l ++ len8 m j) ++ [[AV.d (.int .u8 ((t8 (I0 (56 - 8*j) m):Nat):Int))]]=rb (l ++ len8 m (j+1)):=by rw [M7,List.append_assoc];rfl
   simp only [go_sem,Nat.reduceEqDiff,Nat.reduceAdd,Nat.reduceLT,↓reduceIte,IntKind.bits,w1,w2,w3,w4,d_r,E0,es,n9,w5];refine ⟨aa,by have:=len8_len m j;omega,?_⟩;refine c8 (j+1) aa aa ?_;have hl8:(len8 m (j+1)).length=(len8 m j).length+1:=by rw [len8_len,len8_len]
   simp [m6,c6,fv,lk,AV.low,AV.low1,hl8];exact ⟨aa,r5 _ _⟩
  ·have hj8:j=8:=aa;subst hj8;rw [← List.length_append];exact Sa (id:=32) (L:=l ++ len8 m 8) rfl rfl
theorem ati (a:Nat):IntKind.u32.wrap ((a:Int)*65536)=((s32 16 a:Nat):Int):=agU a 65536
theorem atj (a:Nat):IntKind.u32.wrap ((a:Int)*16777216)=((s32 24 a:Nat):Int):=agU a 16777216
theorem aqZ (a:Nat):bits .xor .u32 (a:Int) 4294967295=((c32 a:Nat):Int):=(I7 a 4294967295).trans (by rw [atg])
theorem four {b:List Nat} {k:Nat} (h:k+4≤b.length):∃ x0 x1 x2 x3,b[k]?=some x0∧b[k+1]?=some x1∧b[k+2]?=some x2∧b[k+3]?=some x3∧(b.take (k+4)).drop k=[x0,x1,x2,x3]:=by
 refine ⟨b[k],b[k+1],b[k+2],b[k+3],List.getElem?_eq_getElem _,List.getElem?_eq_getElem _,List.getElem?_eq_getElem _,List.getElem?_eq_getElem _,?_⟩;rw [List.drop_take,show k+4 - k=4 by omega,List.drop_eq_getElem_cons (by omega:k<b.length),List.drop_eq_getElem_cons (by omega:k+1<b.length),List.drop_eq_getElem_cons (by omega:k+1+1<b.length),List.drop_eq_getElem_cons (by omega:k+1+1+1<b.length)];rfl
theorem aiw (s:S8) (b:List Nat) (hb:b.length=64) (hby:∀ x,x ∈ b→x<256):d9 Tryz.prog 153 [.d (nw s.l),.d (nw K),.d (nb b)] (fun r=>r=.d (nw (Go.Sha.take s b).l)):=by
 refine s8 Tryz.func153 Tryz.ntmps153 (rs:=[.tmp 6]) ae ?_;simp only [go_sem,Nat.reduceEqDiff,Nat.reduceAdd,Nat.reduceLT,↓reduceIte,Nat.reduceMul];refine ⟨aa,?_⟩
 refine j6 (fun t:Nat=>⟨[(0,.d (nw s.l)),(1,.d (nw K)),(2,.d (nb b)),(7,.own 32 0 t t),(8,.d (.int .i64 (t:Int)))],[(32,⟨53,1,Y0 (XV b t)⟩)],128⟩)
  (fun t=>t≤64) (fun t=>64 - t) 0 aa (by
   simp [m6,c6,fv,lk,AV.low,AV.low1,nw,nb]
   exact ⟨rfl,UK _ _⟩) ?_
 intro t ht;have hwl:=anP b t;simp only [go_sem,Nat.reduceEqDiff,Nat.reduceAdd,Nat.reduceLT,↓reduceIte,Nat.reduceMul];refine ⟨fun h=>?_,fun h=>?_⟩
 ·by_cases h16:t<16
  ·have i16:(t:Int)<16:=aa;obtain ⟨x0,x1,x2,x3,g0,g1,g2,g3,g4⟩:=four (b:=b) (k:=4*t) aa;have hw4:=aky (hby x0 (List.mem_of_getElem? g0)) (hby x1 (List.mem_of_getElem? g1)) (hby x2 (List.mem_of_getElem? g2)) (hby x3 (List.mem_of_getElem? g3));rw [← g4] at hw4;have hst:=aqW (b:=b) h16;rw [← hw4] at hst;unfold akx at hst;have w1:IntKind.i64.wrap (4*(t:Int))=((4*t:Nat):Int):=by rw [IntWalk.i64_in _ aa];omega
   have w2:IntKind.i64.wrap (((4*t:Nat):Int)+1)=((4*t+1:Nat):Int):=by rw [IntWalk.i64_in _ aa];omega
   have w3:IntKind.i64.wrap (((4*t:Nat):Int)+2)=((4*t+2:Nat):Int):=by rw [IntWalk.i64_in _ aa];omega
   have w4:IntKind.i64.wrap (((4*t:Nat):Int)+3)=((4*t+3:Nat):Int):=by rw [IntWalk.i64_in _ aa];omega
   generalize 4*t=q at *;generalize q+1=q1 at g1 w2;generalize q+2=q2 at g2 w3;generalize q+3=q3 at g3 w4;simp [go_sem,i16];refine z6 [0,1,2,3,4,5,6,7,8,9,10,11,12,13,14,15,16,17,18,19,20,21,22,23,24,25,26,27,28,29,30,31,32,33] [(34,[]),(35,[]),(36,[])] 1 (k:=37) ?_;intro G hG;simp [go_sem,nb,w1,w2,w3,w4,g0,g1,g2,g3,IntKind.bits,abi,as9,ati,atj,anE];rw [ad8,← hst];refine ⟨Xo _ ▸ hwl,aa,hG _ _ ?_⟩;clear hG G;have w5:=m9 (k:=t) aa;simp [go_sem,w5];refine c8 (t+1) aa aa ?_;simp [m6,c6,fv,lk,AV.low,AV.low1,nw,nb];exact UK _ _
  ·have i16:¬ (t:Int)<16:=aa;have w1:IntKind.i64.wrap ((t:Int) - 15)=((t - 15:Nat):Int):=by rw [IntWalk.i64_in _ aa];omega
   have w2:IntKind.i64.wrap ((t:Int) - 2)=((t - 2:Nat):Int):=by rw [IntWalk.i64_in _ aa];omega
   have w3:IntKind.i64.wrap ((t:Int) - 7)=((t - 7:Nat):Int):=by rw [IntWalk.i64_in _ aa];omega
   have w4:IntKind.i64.wrap ((t:Int) - 16)=((t - 16:Nat):Int):=by rw [IntWalk.i64_in _ aa];omega
   have hst:=aqX (b:=b) (t:=t) aa
   have hx2:wx2 (XV b t)=RQ (RQ (RQ (R4 (R4 (ror 17 ((XV b t).getD (t - 2) 0)) (ror 19 ((XV b t).getD (t - 2) 0))) (I0 10 ((XV b t).getD (t - 2) 0))) ((XV b t).getD (t - 7) 0)) (R4 (R4 (ror 7 ((XV b t).getD (t - 15) 0)) (ror 18 ((XV b t).getD (t - 15) 0))) (I0 3 ((XV b t).getD (t - 15) 0)))) ((XV b t).getD (t - 16) 0):=by
    unfold wx2;rw [hwl]
   rw [← aqV,hx2] at hst;clear hx2
   have gg:∀ i,i<t→(XV b t)[i]?=some ((XV b t).getD i 0):=fun i hi=>by
    rw [List.getD_eq_getElem?_getD,List.getElem?_eq_getElem aa];rfl
   have g15:=gg (t - 15) aa;have g2:=gg (t - 2) aa;have g7:=gg (t - 7) aa;have g16:=gg (t - 16) aa;clear gg;generalize (XV b t).getD (t - 15) 0=x at g15 hst;generalize (XV b t).getD (t - 2) 0=y at g2 hst;generalize (XV b t).getD (t - 7) 0=u at g7 hst;generalize (XV b t).getD (t - 16) 0=v at g16 hst;have o15:((t - 15:Nat):Int)<(t:Int):=aa;have o2:((t - 2:Nat):Int)<(t:Int):=aa;have o7:((t - 7:Nat):Int)<(t:Int):=aa;have o16:((t - 16:Nat):Int)<(t:Int):=aa;generalize t - 15=t15 at *;generalize t - 2=t2 at *;generalize t - 7=t7 at *;generalize t - 16=t16 at *;simp [go_sem,i16];refine z6 [0,1,2,3,4,5,6,7,8,9,10,11] [] 0 (k:=12) ?_;intro G hG;simp [go_sem,w1,w2,acv,Xo,hwl,g15,g2];refine ⟨aa,aa,hG _ _ ?_⟩;clear hG G;simp [go_sem];refine a9 (So x 7 7 rfl aa) ae ?_;simp [go_sem];refine a9 (So x 18 18 rfl aa) ae ?_;simp [go_sem,I7,IntKind.bits,ata];refine a9 (So y 17 17 rfl aa) ae ?_;simp [go_sem];refine a9 (So y 19 19 rfl aa) ae ?_;simp [go_sem,I7,IntKind.bits,apf];refine z6 [0,1,2,3,4,5,6,7,8,9,10,11,12,13,14,15] [(16,[]),(17,[]),(18,[])] 1 (k:=19) ?_;intro G hG;simp [go_sem,w3,w4,acv,Xo,hwl,g7,g16,H8];rw [ad8,← hst];refine ⟨aa,aa,aa,hG _ _ ?_⟩;clear hG G;have w5:=m9 (k:=t) aa;simp [go_sem,w5];refine c8 (t+1) aa aa ?_;simp [m6,c6,fv,lk,AV.low,AV.low1,nw,nb];exact UK _ _
 ·have ht64:t=64:=aa;subst ht64;rw [anQ] at *;unfold Go.Sha.take acm;generalize hR:U6 rdp 0 (K.zip (Ug b)) s=R;have hzl:(K.zip (Ug b)).length=64:=by rw [List.length_zip,VX,YG];rfl
  generalize Ug b=ws at *;simp [go_sem,nw,aqY];refine ⟨by simp [Xo,S8.l],?_⟩
  refine j6 (fun t:Nat × S8=>⟨[(0,.d (nw s.l)),(1,.d (nw K)),(7,.own 32 0 64 64),(13,.own 192 0 8 8),(14,.d (.int .i64 (t.1:Int)))],[(32,⟨53,1,Y0 ws⟩),(192,⟨53,1,Y0 t.2.l⟩)],3000⟩)
   (fun t=>t.1≤64∧U6 rdp t.1 (K.zip ws) t.2=R) (fun t=>64 - t.1) (0,s) ⟨aa,hR⟩ (by
    simp [m6,c6,fv,lk,AV.low,AV.low1,nw]
    exact ⟨rfl,UK _ _,UK _ _⟩) ?_
  clear hR;rintro ⟨t,v⟩ ⟨ht,hR⟩;simp only at ht hR;simp only [go_sem,Nat.reduceEqDiff,Nat.reduceAdd,Nat.reduceLT,↓reduceIte,Nat.reduceMul];refine ⟨fun h=>?_,fun h=>?_⟩
  ·obtain ⟨k,hk,_⟩:=G3 (l:=K) (k:=t) (by rw [YG];omega);obtain ⟨w,hw,_⟩:=G3 (l:=ws) (k:=t) aa;have hz:(K.zip ws)[t]?=some (k,w):=by rw [List.getElem?_zip_eq_some];exact ⟨hk,hw⟩
   rw [WG rdp hz] at hR;refine z6 [0,1,2,3,4,5,6,7,8,9,10,11] [] 0 (k:=12) ?_;intro G hG;simp [go_sem,Y0,S8.l];refine hG _ _ ?_;clear hG G;simp [go_sem];refine z6 [0,1,2,3,5,8,12,13,14,15,16,17,18,19,20,21,22,23,25,26,27,28,30,31,32,33] [(4,[]),(6,[7]),(9,[10,11,24,29,34,35])] 3 (k:=36) ?_;intro G hG;simp [go_sem,nw,hk,hw,I7,M6,aqZ,H8];refine ⟨aa,hwl,?_⟩;refine a9 (So v.e 6 6 rfl aa) ae ?_;simp [go_sem,I7,M6,H8];refine a9 (So v.e 11 11 rfl aa) ae ?_;simp [go_sem,I7,M6,H8];refine a9 (So v.e 25 25 rfl aa) ae ?_;simp [go_sem,I7,M6,H8]
   have hT1:RQ (RQ (RQ (RQ v.h (R4 (R4 (ror 6 v.e) (ror 11 v.e)) (ror 25 v.e))) (R4 (n32 v.e v.f) (n32 (c32 v.e) v.g))) k) w=T1 v k w:=by
    rw [Sl aa,Sl aa,Sl aa];unfold T1;with_reducible rfl
   rw [hT1];refine hG _ _ ?_;clear hG G;simp [go_sem];refine z6 [0,2,5,8,9,10,11,12,13,14,15,16,17,18,19,20,21,22] [(1,[]),(3,[4]),(6,[7,23,24])] 3 (k:=25) ?_;intro G hG;simp [go_sem,I7,M6,H8];refine a9 (So v.a 2 2 rfl aa) ae ?_;simp [go_sem,I7,M6,H8];refine a9 (So v.a 13 13 rfl aa) ae ?_;simp [go_sem,I7,M6,H8];refine a9 (So v.a 22 22 rfl aa) ae ?_;simp [go_sem,I7,M6,H8]
   have hT2:RQ (R4 (R4 (ror 2 v.a) (ror 13 v.a)) (ror 22 v.a)) (R4 (R4 (n32 v.a v.b) (n32 v.a v.c)) (n32 v.b v.c))=T2 v:=by
    rw [Sl aa,Sl aa,Sl aa];unfold T2;with_reducible rfl
   rw [hT2];refine hG _ _ ?_;clear hG G;simp [go_sem];refine z6 [0,1,2,3,4,5,6,7,8,9,10,11,12,13,14,15,16,17,18,19,20,21,22,23,24,25] [(26,[]),(27,[])] 0 (k:=28) ?_;intro G hG;simp [go_sem,H8];refine hG _ _ ?_;clear hG G;have w3:=m9 (k:=t) aa;simp [go_sem,w3];refine akf (t+1,rdp v (k,w)) ⟨by simp only;omega,hR⟩ (by simp only;omega) [(32,32),(6232,192)] 2000 (by decide) (by decide) (by decide) (by decide) ?_;simp [afD,adP,J6,AV.ren,Blk.ren,H1,m6,c6,fv,lk,AV.low,AV.low1,nw,AV.renL,rdp,rd,Y0,S8.l]
  ·have ht64:t=64:=aa;subst ht64;rw [Yb rdp aa] at hR;subst hR;rw [show (YE s v).l=UJ s.l 8 v.l from (akz s v).symm];have hsl:s.l.length=8:=rfl;have hvl:v.l.length=8:=rfl;generalize s.l=sl at *;generalize v.l=vl at *
   refine j6 (fun i:Nat=>⟨[(0,.d (nw sl)),(13,.own 192 0 8 8),(20,.d (.int .i64 (i:Int)))],[(192,⟨53,1,Y0 (UJ sl i vl)⟩)],3200⟩)
    (fun i=>i≤8) (fun i=>8 - i) 0 aa (by
     simp [m6,c6,fv,lk,AV.low,AV.low1,nw,UJ]
     exact UK _ _) ?_
   intro i hi;have hal:=ad7 sl vl i;simp only [go_sem,Nat.reduceEqDiff,Nat.reduceAdd,Nat.reduceLT,↓reduceIte,Nat.reduceMul];refine ⟨fun h=>?_,fun h=>?_⟩
   ·have e1:(UJ sl i vl)[i]?=some ((UJ sl i vl).getD i 0):=by rw [List.getD_eq_getElem?_getD,List.getElem?_eq_getElem aa];rfl
    have e2:sl[i]?=some (sl.getD i 0):=by rw [List.getD_eq_getElem?_getD,List.getElem?_eq_getElem aa];rfl
    have e3:UJ sl (i+1) vl=(UJ sl i vl).set i (RQ ((UJ sl i vl).getD i 0) (sl.getD i 0)):=rfl;generalize (UJ sl i vl).getD i 0=x at *;generalize sl.getD i 0=y at *;generalize UJ sl i vl=A at *;refine z6 [0,1,2,3,4,5,6,7,8,9,10,11] [(12,[])] 0 (k:=13) ?_;intro G hG;simp [go_sem,nw,acv,e1,e2,H8,Xo,anR];refine ⟨aa,aa,aa,aa,hG _ _ ?_⟩;clear hG G;have w5:=m9 (k:=i) aa;simp [go_sem,w5];refine c8 (i+1) aa aa ?_;simp [m6,c6,fv,lk,AV.low,AV.low1,nw,e3];exact UK _ _
   ·have hi8:i=8:=aa;subst hi8;simp [go_sem,d6];have:=Z0 (id:=192) (L:=UJ sl 8 vl) (Q:=fun r=>r=AV.d (nw (UJ sl 8 vl))) (st:=⟨[],[(192,⟨53,1,Y0 (UJ sl 8 vl)⟩)],0⟩) rfl rfl;rw [hal,hvl] at this;exact this
end Go.Proofs.YtldccnbokbieiaaGreat
namespace Go.Sha
theorem Ui (x:Nat):t8 x<256:=Nat.mod_lt _ (by decide)
theorem Z1 (m:Nat):∀ j x,x ∈ Go.Proofs.YtldccnbokbieiaaGreat.len8 m j→x<256
 | 0,x,h=>by simp [Go.Proofs.YtldccnbokbieiaaGreat.len8] at h
 | j+1,x,h=>by
  rcases List.mem_append.1 h with h | h
  ·exact Z1 m j x h
  ·rw [List.mem_singleton] at h;rw [h];exact Ui _
theorem YK:∀ (n:Nat) (l:List Nat),(∀ x,x ∈ l→x<256)→∀ x,x ∈ Go.Proofs.YtldccnbokbieiaaGreat.padTo n l→x<256
 | 0,l,hl=>hl
 | n+1,l,hl=>by
  unfold Go.Proofs.YtldccnbokbieiaaGreat.padTo
  split
  ·exact hl
  ·refine YK n _ fun x hx=>?_;rcases List.mem_append.1 hx with h | h
   ·exact hl x h
   ·rw [List.mem_singleton] at h;omega
theorem acw {b:List Nat} (n:Nat) (hb:∀ x,x ∈ b→x<256):∀ x,x ∈ Go.Proofs.YtldccnbokbieiaaGreat.lastOf b n→x<256:=by
 intro x hx;rcases List.mem_append.1 hx with h | h
 ·refine YK _ _ (fun y hy=>?_) x h;rcases List.mem_append.1 hy with h | h
  ·exact hb y h
  ·rw [List.mem_singleton] at h;omega
 ·exact Z1 _ _ x h
theorem abv:∀ (n:Nat) (l:List Nat),(120 - l.length % 64) % 64≤n→(Go.Proofs.YtldccnbokbieiaaGreat.padTo n l).length % 64=56∧(Go.Proofs.YtldccnbokbieiaaGreat.padTo n l).length≤l.length+n
 | 0,l,h=>by
  unfold Go.Proofs.YtldccnbokbieiaaGreat.padTo;omega
 | n+1,l,h=>by
  unfold Go.Proofs.YtldccnbokbieiaaGreat.padTo
  split
  ·omega
  ·have:=abv n (l ++ [0]) (by rw [List.length_append,List.length_singleton];omega);rw [List.length_append,List.length_singleton] at this;omega
theorem afO (b:List Nat) (n:Nat):(Go.Proofs.YtldccnbokbieiaaGreat.lastOf b n).length % 64=0∧(Go.Proofs.YtldccnbokbieiaaGreat.lastOf b n).length≤b.length+73:=by
 have:=abv 64 (b ++ [128]) aa;rw [List.length_append,List.length_singleton] at this;unfold Go.Proofs.YtldccnbokbieiaaGreat.lastOf;rw [List.length_append,Go.Proofs.YtldccnbokbieiaaGreat.len8_len];omega
theorem ag4 (l:List Nat):∀ (n i:Nat),i<4*n→(pre l n)[i]?=some (t8 (I0 (24 - 8*(i % 4)) (l.getD (i / 4) 0)))
 | 0,i,h=>by omega
 | n+1,i,h=>by
  unfold pre;by_cases hi:i<4*n
  ·rw [List.getElem?_append_left (by rw [Sk];exact hi)];exact ag4 l n i hi
  ·rw [List.getElem?_append_right (by rw [Sk];omega),Sk];have h4:i / 4=n:=aa;rw [h4];obtain ⟨j,rfl,hj⟩:∃ j,i=4*n+j∧j<4:=⟨i - 4*n,aa,aa⟩;rw [show 4*n+j - 4*n=j by omega,show (4*n+j) % 4=j by omega];rcases (by omega:j=0 ∨ j=1 ∨ j=2 ∨ j=3) with rfl | rfl | rfl | rfl <;> rfl
theorem abw (l:List Nat):∀ n x,x ∈ pre l n→x<256
 | 0,x,h=>by simp [pre] at h
 | n+1,x,h=>by
  rcases List.mem_append.1 h with h | h
  ·exact abw l n x h
  ·simp [wbk] at h;rcases h with rfl | rfl | rfl | rfl <;> exact Ui _
theorem G8 (b:List Nat):∀ x,x ∈ L7 b→x<256:=fun x h=>abw _ 8 x h
theorem Zc (s:S8):(dig s).length=32:=Sk _ 8
end Go.Sha
namespace Go.Proofs.YtldccnbokbieiaaGreat
open Go.Am Go.Sha
theorem s9 {hp:Hp} {I:Nat→Prop} {id n:Nat} {L:List Nat} (hl:L.length=n) (hb:lk id hp=some ⟨5,1,rb L⟩) (hI:I id):SnapD hp I (.own id 0 n n) (nb L):=by
 subst hl;have h:=Xl (i0:=0) (n:=L.length) (L:=L) hb hI aa;rw [List.drop_zero,List.take_of_length_le (Nat.le_refl _)] at h;exact h
def acx (s:S8) (i:Nat):List Nat:=(dig s).take i ++ List.replicate (32 - i) 0
theorem akA (s:S8) {i:Nat} (h:i≤32):(acx s i).length=32:=by
 unfold acx;rw [List.length_append,List.length_take,Zc,List.length_replicate];omega
theorem akB (s:S8):acx s 32=dig s:=by
 unfold acx;rw [List.take_of_length_le (by rw [Zc];omega)];simp
theorem aix (s:S8) {i:Nat} (h:i<32):(acx s i).set i (t8 (I0 (24 - 8*(i % 4)) (s.l.getD (i / 4) 0)))=acx s (i+1):=by
 have hg:=ag4 s.l 8 i aa;unfold acx;rw [List.set_append_right _ _ (by rw [List.length_take,Zc];omega),List.length_take,Zc,show i - min i 32=0 by omega];obtain ⟨k,hk⟩:∃ k,32 - i=k+1:=⟨31 - i,aa⟩;rw [hk,List.replicate_succ,List.set_cons_zero,show 32 - (i+1)=k by omega];rw [List.take_add_one,show (dig s)[i]?=_ from hg];simp
theorem ag5 (b:List Nat) (hb:b.length≤10000000000) (hby:∀ x,x ∈ b→x<256):d9 Tryz.prog 115 [.d (nb b)] (fun r=>r=.agg (cb (L7 b))):=by
 rw [afN];refine s8 Tryz.func115 Tryz.ntmps115 (rs:=[.cell 2 23]) ae ?_;simp [go_sem];refine a9 aiu ab ?_;simp [go_sem];refine a9 (aiv b aa) ae ?_;have hLb:=acw b.length hby;obtain ⟨hLm,hLl⟩:=afO b b.length;generalize lastOf b b.length=L at *;simp [go_sem];generalize hP:E H0 L=P
 refine adS (fun t:Nat × S8=>⟨[(2,.ptr 0 0 0 1),(3,.d (nw t.2.l)),(4,.d (nw K)),(5,.d (nb L)),(6,.d (.int .i64 ((64*t.1:Nat):Int)))],[(0,⟨23,32,[cb z32]⟩)],288⟩)
  (fun t=>64*t.1≤L.length∧E t.2 (L.drop (64*t.1))=P) (fun t=>L.length - 64*t.1) (0,H0) ⟨aa,hP⟩ [32] [(3,.d (nw H0.l))] (by
   intro p hp;simp only [List.mem_singleton] at hp;subst hp
   exact .one (m8 (ad9 (L:=H0.l) rfl ab))) (by
   simp [m6,c6,fv,lk,AV.low,AV.low1,s7]
   exact p9 _ _) ?_
 clear hP;rintro ⟨j,s⟩ ⟨hj,hP⟩;simp only at hj hP;simp only [go_sem,Nat.reduceEqDiff,Nat.reduceAdd,Nat.reduceLT,↓reduceIte,Nat.reduceMul];refine ⟨fun h=>?_,fun h=>?_⟩
 ·have hlt:64*j<L.length:=by simp only [nb,AV.slen,List.length_map] at h;omega
  have h64:64≤(L.drop (64*j)).length:=by rw [List.length_drop];omega
  rw [WJ h64,List.drop_drop] at hP;have hbl:((L.drop (64*j)).take 64).length=64:=by rw [List.length_take];omega
  have hbb:∀ x,x ∈ (L.drop (64*j)).take 64→x<256:=fun x hx=>hLb x (List.mem_of_mem_drop (List.mem_of_mem_take hx));have w1:IntKind.i64.wrap (((64*j:Nat):Int)+64)=((64*j+64:Nat):Int):=by rw [IntWalk.i64_in _ aa];omega
  have hsl:((L.map fun (b:Nat)=>[DV.int .u8 (b:Int)]).take (64*j+64)).drop (64*j)=((L.drop (64*j)).take 64).map fun (b:Nat)=>[DV.int .u8 (b:Int)]:=by
   rw [List.drop_take,show 64*j+64 - 64*j=64 by omega,List.map_take,List.map_drop]
  simp only [go_sem,Nat.reduceEqDiff,Nat.reduceAdd,Nat.reduceLT,↓reduceIte,nb,w1,hsl];refine ⟨aa,aa,?_⟩;refine a9 (aiw s ((L.drop (64*j)).take 64) hbl hbb) ae ?_;simp only [go_sem,Nat.reduceEqDiff,Nat.reduceAdd,Nat.reduceLT,↓reduceIte,w1];refine c8 (j+1,Go.Sha.take s ((L.drop (64*j)).take 64)) ⟨by simp only;omega,by simp only;exact hP⟩ (by simp only;omega) ?_;simp [m6,c6,fv,lk,AV.low,AV.low1,nb];exact ⟨aa,p9 _ _⟩
 ·have hnil:L.drop (64*j)=[]:=List.drop_eq_nil_of_le (by simp only [nb,AV.slen,List.length_map] at h;omega);rw [hnil,Vu ab] at hP;have hs:P.1=s:=by rw [← hP]
  rw [hs];clear hP hs hnil h;simp [go_sem]
  refine j6 (fun i:Nat=>⟨[(2,.ptr 0 0 0 1),(3,.d (nw s.l)),(7,.ptr 448 0 0 1),(8,.d (.int .i64 (i:Int)))],[(0,⟨23,32,[cb z32]⟩),(448,⟨23,32,[cb (acx s i)]⟩)],700⟩)
   (fun i=>i≤32) (fun i=>32 - i) 0 aa (by
    simp [m6,c6,fv,lk,AV.low,AV.low1]
    exact ⟨p9 _ _,rfl,p9 _ _⟩) ?_
  intro i hi;have hol:=akA s hi;simp only [go_sem,Nat.reduceEqDiff,Nat.reduceAdd,Nat.reduceLT,↓reduceIte,Nat.reduceMul];refine ⟨fun h2=>?_,fun h2=>?_⟩
  ·have w1:IntKind.i64.wrap (Int.tdiv (i:Int) 4)=((i / 4:Nat):Int):=by
    have e:Int.tdiv (i:Int) 4=((i / 4:Nat):Int):=(Int.ofNat_tdiv i 4).symm;rw [e,IntWalk.i64_in _ aa]
   have w2:Int.tmod (i:Int) 4=((i % 4:Nat):Int):=by have:=Int.ofNat_tmod i 4;simpa using this.symm
   have w3:IntKind.i64.wrap (8*((i % 4:Nat):Int))=((8*(i % 4):Nat):Int):=by rw [IntWalk.i64_in _ aa];omega
   have w4:IntKind.i64.wrap (24 - ((8*(i % 4):Nat):Int))=((24 - 8*(i % 4):Nat):Int):=by rw [IntWalk.i64_in _ aa];omega
   have w5:IntKind.u64.wrap ((24 - 8*(i % 4):Nat):Int)=((24 - 8*(i % 4):Nat):Int):=by rw [R3];omega
   have w6:min (24 - 8*(i % 4)) 32=24 - 8*(i % 4):=aa;have w7:=m9 (k:=i) aa;have hst:=aix s (i:=i) aa
   have hg:s.l[i / 4]?=some (s.l.getD (i / 4) 0):=by
    have:i / 4<s.l.length:=by show i / 4<8;omega
    rw [List.getD_eq_getElem?_getD,List.getElem?_eq_getElem this];rfl
   generalize s.l.getD (i / 4) 0=x at *;generalize hA:acx s i=A at *;generalize s.l=sl at *;simp only [go_sem,Nat.reduceEqDiff,Nat.reduceAdd,Nat.reduceLT,↓reduceIte,nw,w1,w2,w3,w4,w5,w6,w7,hg,IntKind.bits,d_r,E0,ZQ,hst];refine ⟨by decide,by decide,aa,aa,?_⟩;refine c8 (i+1) aa aa ?_;simp [m6,c6,fv,lk,AV.low,AV.low1,hst];exact ⟨p9 _ _,p9 _ _⟩
  ·have hi32:i=32:=aa;subst hi32;rw [akB] at hol ⊢;simp [go_sem,d6,hol,d5 hol,B4];exact b7 (by simp [AV.deep];exact s6 _) rfl
theorem Tp (tag:List Nat) (ts:DV) (hts:ts=.str (tag.map fun (x:Nat)=>(x:Int))) (b:List Nat) (ht:tag.length≤1000) (htb:∀ x,x ∈ tag→x<256) (hb:b.length≤1000000000) (hbb:∀ x,x ∈ b→x<256):d9 Tryz.prog 93 [.d ts,.d (nb b)] (fun r=>r=.agg (cb (H9 tag b))):=by
 subst hts;refine s8 Tryz.func93 Tryz.ntmps93 (rs:=[.cell 4 23]) ae ?_;simp [go_sem,Tryz.underlying5];refine a9 (ag5 tag aa htb) ae ?_;have hD:=F8 tag;have hg:H9 tag b=L7 (L7 tag ++ (L7 tag ++ b)):=rfl;rw [hg];have hDb:=G8 tag;generalize L7 tag=D at hD hDb;have hx:=RU hD;rw [F2] at hx;simp [go_sem] at hx;simp [go_sem,hD,B4,hx,nb,F2,n9];refine ⟨aa,?_⟩;have hl:(D ++ (D ++ b)).length=64+b.length:=by simp [hD];omega
 have hDb:∀ x,x ∈ D→x<256:=hDb
 refine B2 [192] (ag5 (D ++ (D ++ b)) aa (fun x hx=>by
  rcases List.mem_append.1 hx with h | h
  ·exact hDb x h
  ·rcases List.mem_append.1 h with h | h
   ·exact hDb x h
   ·exact hbb x h)) rfl (m7 (.one (m8 (s9 hl (by simp [lk,← T0]) ab))) t4) ?_
 have hR:=F8 (D ++ (D ++ b));generalize L7 (D ++ (D ++ b))=R at *;simp [go_sem,s7,d6,hR,d5 hR,B4];exact b7 (by simp [AV.deep];exact s6 _) rfl
end Go.Proofs.YtldccnbokbieiaaGreat
namespace Go.Sha
theorem atk (a:Nat):t8 (t8 a)=t8 a:=by unfold t8;omega
theorem atl (n:Nat):le (t8 n) 1=le n 1:=by simp [le,I0,atk]
theorem aq0 (n:Nat):le (t16 n) 2=le n 2:=by
 have e0:t8 (I0 (8*0) (t16 n))=t8 (I0 (8*0) n):=by simp only [t8,I0,t16];omega
 have e1:t8 (I0 (8*1) (t16 n))=t8 (I0 (8*1) n):=by simp only [t8,I0,t16];omega
 simp only [le,e0,e1]
theorem aq1 (n:Nat):le (YD n) 4=le n 4:=by
 have e0:t8 (I0 (8*0) (YD n))=t8 (I0 (8*0) n):=by simp only [t8,I0,YD];omega
 have e1:t8 (I0 (8*1) (YD n))=t8 (I0 (8*1) n):=by simp only [t8,I0,YD];omega
 have e2:t8 (I0 (8*2) (YD n))=t8 (I0 (8*2) n):=by simp only [t8,I0,YD];omega
 have e3:t8 (I0 (8*3) (YD n))=t8 (I0 (8*3) n):=by simp only [t8,I0,YD];omega
 simp only [le,e0,e1,e2,e3]
theorem anT (x:Nat):∀ k y,y ∈ le x k→y<256
 | 0,y,h=>by simp [le] at h
 | k+1,y,h=>by
  rcases List.mem_append.1 h with h | h
  ·exact anT x k y h
  ·rw [List.mem_singleton] at h;rw [h];exact Ui _
theorem abx (n:Nat):∀ y,y ∈ r7 n→y<256:=by
 intro y h;unfold r7 at h
 split at h
 ·exact anT _ _ y h
 ·split at h
  ·rcases List.mem_append.1 h with h | h <;> exact anT _ _ y h
  ·rcases List.mem_append.1 h with h | h <;> exact anT _ _ y h
end Go.Sha
namespace Go.Proofs.YtldccnbokbieiaaGreat
open Go.Am Go.Sha
theorem Xp (b:List Nat) (x n:Nat) (m:Int) (hm:m=(n:Int)) (hb:b.length≤10000000000) (hx:x<18446744073709551616) (hn:n≤8):J9 Tryz.prog 113 0 [] [.d (nb b),.d (.int .u64 (x:Int)),.d (.int .i64 m)] (fun r hp'=>r=.own 33 0 (b ++ le x n).length (b ++ le x n).length∧lk 33 hp'=some ⟨5,1,rb (b ++ le x n)⟩):=by
 subst hm;refine B9 Tryz.func113 (by kernel_rfl) rfl Tryz.ntmps113 (rs:=[.tmp 6]) rfl (TG rfl) (by decide) ?_;simp [go_sem,nb,F2,n9];refine ⟨aa,?_⟩
 refine j6 (fun k:Nat=>⟨[(1,.d (.int .u64 ((I0 (8*k) x:Nat):Int))),(2,.d (.int .i64 (n:Int))),(7,.own 33 0 (b ++ le x k).length (b ++ le x k).length),(8,.d (.int .i64 (k:Int)))],[(33,⟨5,1,rb (b ++ le x k)⟩)],300⟩)
  (fun k=>k≤n) (fun k=>n - k) 0 aa (by
   simp [m6,c6,fv,lk,AV.low,AV.low1,le,I0]
   exact r5 _ _) ?_
 intro k hk;have hl:(b ++ le x k).length=b.length+k:=by rw [List.length_append,E4]
 have hs:rb (b ++ le x k) ++ [[AV.d (.int .u8 ((t8 (I0 (8*k) x):Nat):Int))]]=rb (b ++ le x (k+1)):=by rw [M7,List.append_assoc];rfl
 have hxk:I0 (8*k) x<18446744073709551616:=Nat.lt_of_le_of_lt (Nat.div_le_self _ _) hx
 have hq:IntKind.u64.wrap (Int.tdiv ((I0 (8*k) x:Nat):Int) 256)=((I0 (8*(k+1)) x:Nat):Int):=by
  have e1:Int.tdiv ((I0 (8*k) x:Nat):Int) 256=((I0 (8*k) x / 256:Nat):Int):=(Int.ofNat_tdiv _ 256).symm
  have e2:I0 (8*k) x / 256=I0 (8*(k+1)) x:=by
   unfold I0;rw [Nat.div_div_eq_div_mul,show 2 ^ (8*k)*256=2 ^ (8*(k+1)) by rw [show 8*(k+1)=8*k+8 by omega,Nat.pow_add]]
  have h3:I0 (8*k) x / 256≤I0 (8*k) x:=Nat.div_le_self _ _;rw [e1,R3,← e2];omega
 have w5:=m9 (k:=k) aa;simp only [go_sem,Nat.reduceEqDiff,Nat.reduceAdd,Nat.reduceLT,↓reduceIte,Nat.reduceMul];refine ⟨fun h=>?_,fun h=>?_⟩
 ·simp only [go_sem,Nat.reduceEqDiff,Nat.reduceAdd,Nat.reduceLT,↓reduceIte,E0,n9,hs,E4,hq,w5];refine ⟨aa,aa,by decide,?_⟩;refine c8 (k+1) aa aa ?_;simp [m6,c6,fv,lk,AV.low,AV.low1,E4];exact ⟨aa,r5 _ _⟩
 ·have hkn:k=n:=aa;subst hkn;simp [go_sem,d6]
def aiy (L:List Nat) (r:AV) (hp':Hp):Prop:=∃ I,r=.own I 0 L.length L.length∧lk I hp'=some ⟨5,1,rb L⟩
theorem aea {g:FuncId} {args:List AV} {L:List Nat} (h:J9 Tryz.prog g 0 [] args (aiy L)) (hd:∀ v,v ∈ args→v.deep):d9 Tryz.prog g args (fun r=>r=.d (nb L)) :=
 aih h hd fun r hp' ⟨I,hr,hb⟩=>⟨.d (nb L),by subst hr;exact .one (m8 (s9 rfl hb trivial)),trivial,rfl⟩
theorem aq2 {g:FuncId} {k:Nat} {hp0:Hp} {args:List AV} {Q Q':AV→Hp→Prop} (h:J9 Tryz.prog g k hp0 args Q) (hq:∀ r hp',Q r hp'→Q' r hp'):J9 Tryz.prog g k hp0 args Q':=by
 obtain ⟨h1,hk,h2⟩:=h;refine ⟨h1,hk,fun w S σ vs a b c=>(h2 w S σ vs a b c).mono fun e w' he=>?_⟩;obtain ⟨x,r,hp',U',σ',e1,hQ,rest⟩:=he;exact ⟨x,r,hp',U',σ',e1,hq r hp' hQ,rest⟩
theorem ag6 (b:List Nat) (x n:Nat) (m:Int) (hm:m=(n:Int)) (hb:b.length≤10000000000) (hx:x<18446744073709551616) (hn:n≤8):d9 Tryz.prog 113 [.d (nb b),.d (.int .u64 (x:Int)),.d (.int .i64 m)] (fun r=>r=.d (nb (b ++ le x n))) :=
 aea (aq2 (Xp b x n m hm hb hx hn) fun r hp' h=>⟨33,h.1,h.2⟩) ae
theorem acy (b:List Nat) (n:Nat) (hb:b.length≤1000000) (hn:n<4294967296):J9 Tryz.prog 135 0 [] [.d (nb b),.d (.int .u64 (n:Int))] (aiy (b ++ r7 n)):=by
 refine B9 Tryz.func135 (by kernel_rfl) rfl Tryz.ntmps135 (rs:=[.tmp 4]) rfl (TG rfl) (by decide) ?_;by_cases h1:n<253
 ·have e:r7 n=le n 1:=by unfold r7;rw [if_pos h1,atl]
  rw [e];have i1:(n:Int)<253:=aa;simp [go_sem,i1];refine G6 [] (Xp b n 1 1 rfl aa aa aa) rfl ab ab ab (by simp [AV.renL,AV.ren]) ?_;rintro r hp' ⟨rfl,h0⟩;refine ⟨[(33,0)],rfl,?_⟩;simp [go_sem,O0,L6,h0,Blk.ren,H1,Tl,AV.renL,AV.ren,J6,d6,aiy]
 ·have i1:¬ (n:Int)<253:=aa;by_cases h2:n<65536
  ·have e:r7 n=le 253 1 ++ le n 2:=by unfold r7;rw [if_neg h1,if_pos h2,aq0]
   have i2:(n:Int)<65536:=aa;rw [e,← List.append_assoc];simp [go_sem,i1,i2,-List.append_assoc];refine a9 (ag6 b 253 1 1 rfl aa aa aa) ae ?_;simp [go_sem,-List.append_assoc];refine G6 [] (Xp (b ++ le 253 1) n 2 2 rfl (by rw [List.length_append,E4];omega) aa aa) rfl ab ab ab (by simp [AV.renL,AV.ren]) ?_;rintro r hp' ⟨rfl,h0⟩;refine ⟨[(33,0)],rfl,?_⟩;simp [go_sem,O0,L6,h0,Blk.ren,H1,Tl,AV.renL,AV.ren,J6,d6,aiy,-List.append_assoc]
  ·have e:r7 n=le 254 1 ++ le n 4:=by unfold r7;rw [if_neg h1,if_neg h2,aq1]
   have i2:¬ (n:Int)<65536:=aa;have i3:(n:Int)<4294967296:=aa;rw [e,← List.append_assoc];simp [go_sem,i1,i2,i3,-List.append_assoc];refine a9 (ag6 b 254 1 1 rfl aa aa aa) ae ?_;simp [go_sem,-List.append_assoc];refine G6 [] (Xp (b ++ le 254 1) n 4 4 rfl (by rw [List.length_append,E4];omega) aa aa) rfl ab ab ab (by simp [AV.renL,AV.ren]) ?_;rintro r hp' ⟨rfl,h0⟩;refine ⟨[(33,0)],rfl,?_⟩;simp [go_sem,O0,L6,h0,Blk.ren,H1,Tl,AV.renL,AV.ren,J6,d6,aiy,-List.append_assoc]
theorem aaR (b x:List Nat) (hb:b.length≤1000000) (hx:x.length<1000000):J9 Tryz.prog 94 0 [] [.d (nb b),.d (nb x)] (aiy (b ++ r7 x.length ++ x)):=by
 refine B9 Tryz.func94 (by kernel_rfl) rfl Tryz.ntmps94 (rs:=[.tmp 4]) rfl (TG rfl) (by decide) ?_;have w:IntKind.u64.wrap (x.length:Int)=(x.length:Int):=by rw [R3];omega
 have hp5:=Rv x.length;simp only [go_sem,Nat.reduceEqDiff,Nat.reduceAdd,Nat.reduceLT,↓reduceIte,nb,List.length_map,w];refine G6 [] (acy b x.length aa aa) rfl ab ab ab (by simp [AV.renL,AV.ren,nb]) ?_;rintro r hp' ⟨I,rfl,h0⟩;refine ⟨[(I,0)],by simp [abf,X7],?_⟩;simp [go_sem,O0,L6,h0,Blk.ren,H1,Tl,AV.renL,AV.ren,J6,F2,n9,d6];refine ⟨aa,161,?_,?_⟩
 ·rw [show (b ++ (r7 x.length ++ x)).length=b.length+(r7 x.length).length+x.length by simp;omega]
 ·simp [lk,← T0]
theorem Xq (b x:List Nat) (hb:b.length≤1000000) (hx:x.length<1000000):d9 Tryz.prog 94 [.d (nb b),.d (nb x)] (fun r=>r=.d (nb (b ++ (r7 x.length ++ x)))):=by
 rw [← List.append_assoc];exact aea (aaR b x hb hx) ae
theorem Xr (x:List Nat) (hx:x.length≤100000) (hxb:bytes x):d9 Tryz.prog 59 [.d (nb x)] (fun r=>r=.agg (cb (E6 x))):=by
 refine s8 Tryz.func59 Tryz.ntmps59 (rs:=[.cell 2 23]) ae ?_;have hp5:=Rv x.length;simp [go_sem];refine B2 [32] (Xq [192] x ab aa) rfl (m7 (.one (m8 (s9 rfl rfl ab))) (m7 (.deep ae) t4)) ?_;simp [go_sem,s7]
 refine a9 (Tp [84,97,112,76,101,97,102] (.str [84,97,112,76,101,97,102]) rfl (192 :: (r7 x.length ++ x)) ab ab (by simp;omega) (by
  intro y hy;rcases List.mem_cons.1 hy with rfl | hy
  ·omega
  ·rcases List.mem_append.1 hy with h | h
   ·exact abx _ y h
   ·exact hxb y h)) ae ?_
 have hL:(H9 [84,97,112,76,101,97,102] (192 :: (r7 x.length ++ x))).length=32:=F8 _;have hR:E6 x=H9 [84,97,112,76,101,97,102] (192 :: (r7 x.length ++ x)):=rfl;rw [hR];generalize H9 [84,97,112,76,101,97,102] (192 :: (r7 x.length ++ x))=R at *;simp [go_sem,d6,hL,d5 hL,B4];exact b7 (by simp [AV.deep];exact s6 _) rfl
def sb (l:List Nat):List Int:=l.map fun (x:Nat)=>(x:Int)
theorem aq3 {a b:List Nat}:sb a=sb b ↔ a=b:=afK
theorem akC {P:Program} {s t:TypeId} {Kk:AV→Hp→Prop} {hp:Hp} (l:List Nat) (el:TypeId) (hb:bytes l) (h1:B7 P s=.slice el) (h2:B7 P t=.str) (h3:P.underlying el=some (.int .u8)) (hK:Kk (.d (.str (sb l))) hp):cvO P s t (some (rb l)) Kk hp:=by
 refine ⟨sb l,by simp [rb,sb],fun b h=>?_,?_⟩
 ·simp only [sb,List.mem_map] at h;obtain ⟨x,hx,rfl⟩:=h;have:=hb x hx;omega
 ·rw [h1,h2];exact ⟨h3,hK⟩
theorem aeb:∀ (x y:List UInt8),Lib.compareBytes x y<0 ↔ Op.bytesLess x y=true
 | [],[]=>by simp [Lib.compareBytes,Op.bytesLess]
 | [],_ :: _=>by simp [Lib.compareBytes,Op.bytesLess]
 | _ :: _,[]=>by simp [Lib.compareBytes,Op.bytesLess]
 | a :: x,b :: y=>by
  have ih:=aeb x y;simp only [Lib.compareBytes,Op.bytesLess];by_cases h1:a<b
  ·simp [h1]
  ·by_cases h2:b<a
   ·have:a ≠ b:=fun e=>by subst e;exact h1 h2
    simp [h1,h2,this]
   ·have:a=b:=UInt8.toNat_inj.1 (by
     have e1:¬ a.toNat<b.toNat:=fun h=>h1 (UInt8.lt_iff_toNat_lt.2 h);have e2:¬ b.toNat<a.toNat:=fun h=>h2 (UInt8.lt_iff_toNat_lt.2 h)
     omega)
    subst this;simp only [h1,if_false,decide_false,Bool.false_or,beq_self_eq_true,Bool.true_and];exact ih
theorem akD {a:List Nat} (h:bytes a):(RV a).map (fun c=>(c.toNat:Int))=sb a:=by
 unfold RV Lib.bytesOf sb;rw [List.map_map,List.map_map];apply List.map_congr_left;intro x hx;have:=h x hx;simp only [Function.comp_apply,Int.toNat_natCast];rw [UInt8.toNat_ofNat',Nat.mod_eq_of_lt aa]
theorem akE {a b:List Nat} (ha:bytes a) (hb:bytes b):(!(G1 (sb a) (sb b) || decide (sb a=sb b)))=decide (0<Lib.compareBytes (RV a) (RV b)):=by
 have h1:=aeb (RV a) (RV b);rw [ZC,akD ha,akD hb] at h1;obtain ⟨h3,h4⟩:=Xn (RV a) (RV b);by_cases e:a=b
 ·subst e;have h0:¬ 0<Lib.compareBytes (RV a) (RV a):=fun h=>by have:=h3.1 h;omega
  simp [h0]
 ·have hne:sb a ≠ sb b:=fun h=>e (aq3.1 h);have h0:Lib.compareBytes (RV a) (RV b) ≠ 0:=fun h=>e (acq ha hb (h4 h))
  cases hl:G1 (sb a) (sb b) with
  | true =>
   have:=h1.2 hl;have h5:¬ 0<Lib.compareBytes (RV a) (RV b):=aa;simp [h5]
  | false =>
   have h6:¬ Lib.compareBytes (RV a) (RV b)<0:=fun h=>by rw [h1.1 h] at hl;cases hl
   have h5:0<Lib.compareBytes (RV a) (RV b):=aa;simp [h5,hne]
theorem Z2 (a b:List Nat) (ha:a.length=32) (hb:b.length=32) (hab:bytes a) (hbb:bytes b):d9 Tryz.prog 60 [.agg (cb a),.agg (cb b)] (fun r=>r=.agg (cb (t6 a b))):=by
 refine s8 Tryz.func60 Tryz.ntmps60 (rs:=[.cell 4 23]) (by simp [AV.deep];exact ⟨s6 _,s6 _⟩) ?_;have hx1:=RU ha;have hx2:=RU hb;rw [F2] at hx1 hx2;simp [go_sem] at hx1 hx2;simp [go_sem,ha,hb];refine z6 [0,1,2,3] [] 0 (k:=4) ?_;intro G hG;simp [go_sem];refine hG _ _ ?_;clear hG G;simp [go_sem,hx1,hx2];refine akC a 5 hab (by simp [go_sem]) (by simp [go_sem]) Tryz.underlying5 ?_;simp [go_sem,hx1,hx2];refine akC b 5 hbb (by simp [go_sem]) (by simp [go_sem]) Tryz.underlying5 ?_;by_cases hc:0<Lib.compareBytes (RV a) (RV b)
 ·simp [go_sem,akE hab hbb,hc,hx1,hx2,n9,ha,hb];have hl:(b ++ a).length=64:=by rw [List.length_append];omega
  refine B2 [512] (Tp A3 (.str [84,97,112,66,114,97,110,99,104]) rfl (b ++ a) (by simp [A3]) (by simp [A3]) aa (fun z hz=>by
   rcases List.mem_append.1 hz with h | h
   ·exact hbb z h
   ·exact hab z h)) rfl (m7 (.deep ae) (m7 (.one (m8 (s9 hl (by simp [lk,← T0]) ab))) t4)) ?_
  have hR:t6 a b=H9 A3 (b ++ a):=by unfold t6;rw [if_pos hc]
  rw [hR];have hL:(H9 A3 (b ++ a)).length=32:=F8 _;generalize H9 A3 (b ++ a)=R at *;simp [go_sem,s7,hL,d6,d5 hL,B4];exact b7 (by simp [AV.deep];exact s6 _) rfl
 ·simp [go_sem,akE hab hbb,hc,hx1,hx2,n9,ha,hb];have hl:(a ++ b).length=64:=by rw [List.length_append];omega
  refine B2 [384] (Tp A3 (.str [84,97,112,66,114,97,110,99,104]) rfl (a ++ b) (by simp [A3]) (by simp [A3]) aa (fun z hz=>by
   rcases List.mem_append.1 hz with h | h
   ·exact hab z h
   ·exact hbb z h)) rfl (m7 (.deep ae) (m7 (.one (m8 (s9 hl (by simp [lk,← T0]) ab))) t4)) ?_
  have hR:t6 a b=H9 A3 (a ++ b):=by unfold t6;rw [if_neg hc]
  rw [hR];have hL:(H9 A3 (a ++ b)).length=32:=F8 _;generalize H9 A3 (a ++ b)=R at *;simp [go_sem,s7,hL,d6,d5 hL,B4];exact b7 (by simp [AV.deep];exact s6 _) rfl
theorem akF (inner:List Nat) (ps:List (List Nat)) (x:List Nat) (hi:inner.length=32) (hp32:∀ p,p ∈ ps→p.length=32∧bytes p) (hps:ps.length≤1000) (hx:x.length≤100000) (hxb:bytes x) :
  d9 Tryz.prog 90 [.agg (n7 inner (.d (r6 ps)) (.d (nb x)))] (fun r=>r=.agg (cb (L0 ps (E6 x)))):=by
 have hleaf:(AV.agg (n7 inner (.d (r6 ps)) (.d (nb x)))).deep:=ait trivial trivial;refine s8 Tryz.func90 Tryz.ntmps90 (rs:=[.cell 2 23]) (by intro v hv;simp at hv;subst hv;exact hleaf) ?_;simp [go_sem,n7,H5 hi];refine a9 (Xr x hx hxb) ae ?_;have hL:(E6 x).length=32:=S7 x;have hLb:bytes (E6 x):=G8 _;have hR:L0 ps (E6 x)=L0 (ps.drop 0) (E6 x):=by rw [List.drop_zero]
 rw [hR];generalize E6 x=R at *;generalize hT:L0 (ps.drop 0) R=T;clear hR;simp [go_sem,hL,d5 hL,B4,hi]
 refine j6 (fun t:Nat × List Nat=>⟨[(1,.ptr 0 0 0 1),(2,.ptr 32 0 0 1),(3,.ptr 160 0 0 1),(4,.d (.int .i64 (t.1:Int)))],[(0,⟨27,34,[n7 inner (.d (r6 ps)) (.d (nb x))]⟩),(32,⟨23,32,[cb z32]⟩),(160,⟨23,32,[cb t.2]⟩)],256⟩)
  (fun t=>t.1≤ps.length∧t.2.length=32∧bytes t.2∧L0 (ps.drop t.1) t.2=T) (fun t=>ps.length - t.1) (0,R) ⟨aa,hL,hLb,hT⟩ (by
   simp [m6,c6,fv,lk,AV.low,AV.low1,n7];refine ⟨fun v hv=>?_,p9 _ _,p9 _ _⟩;rcases hv with hv | rfl | rfl
   ·exact p9 _ _ v hv
   ·trivial
   ·trivial) ?_
 clear hT hL hLb;rintro ⟨k,h⟩ ⟨hk,hh,hhb,hT'⟩;simp only at hk hh hhb hT';simp only [go_sem,Nat.reduceEqDiff,Nat.reduceAdd,Nat.reduceLT,↓reduceIte];simp [go_sem,n7,D4 hi,r6];refine ⟨fun hlt=>?_,fun hge=>?_⟩
 ·have hlt':k<ps.length:=aa;have hp:=List.getElem?_eq_getElem hlt';generalize ps[k]=p at hp;obtain ⟨hpl,hpb⟩:=hp32 p (List.mem_of_getElem? hp);rw [ZU hp] at hT';refine z6 [0,1,2,3,4,5] [(6,[]),(7,[])] 0 (k:=8) ?_;intro G hG;simp [go_sem,n7,D4 hi,r6,hp,C8,hpl,K4,d5 hpl,d0,hh,d5 hh,B4];refine a9 (Z2 h p hh hpl hhb hpb) (by simp [AV.deep];exact ⟨s6 _,s6 _⟩) ?_;have hB:=L2 h p;have hBb:bytes (t6 h p):=G8 _;generalize t6 h p=B at *;simp [go_sem,d0,hB,hh,d5 hB,F5 hh];refine hG _ _ ?_;clear hG G;have w:=m9 (k:=k) aa;simp [go_sem,w];refine c8 (k+1,B) ⟨aa,hB,hBb,hT'⟩ (by simp only;omega) ?_;simp [m6,c6,fv,lk,AV.low,AV.low1,n7,r6];refine ⟨fun v hv=>?_,p9 _ _,p9 _ _⟩;rcases hv with hv | rfl | rfl
  ·exact p9 _ _ v hv
  ·trivial
  ·trivial
 ·have hkn:k=ps.length:=aa;subst hkn;have:T=h:=by rw [← hT',List.drop_length];rfl
  subst this;simp [go_sem,d6,hh,d5 hh,B4];exact b7 (by simp [AV.deep];exact s6 _) rfl
end Go.Proofs.YtldccnbokbieiaaGreat
