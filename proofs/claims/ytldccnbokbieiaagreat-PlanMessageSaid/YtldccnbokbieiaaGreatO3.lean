/-
 Part 4 of what the claim rests on.
-/
import Derived.Test.YtldccnbokbieiaaGreatO2
import Derived.Test.YtldccnbokbieiaaGreatRows
import Derived.Lib.BytesEntry
set_option linter.unusedVariables false
set_option linter.unusedSimpArgs false
set_option maxRecDepth 100000
set_option maxHeartbeats 16000000
namespace Go.Proofs.YtldccnbokbieiaaGreat
open Go.Am
@[go_sem] theorem k2:C3 Tryz.prog 2=.scal:=by kernel_rfl
@[go_sem] theorem c2:Tryz.prog.cellsOf 2=1:=by kernel_rfl
@[go_sem] theorem b2:Tryz.prog.bytesOf 2=8:=by kernel_rfl
@[go_sem] theorem z2:O6 Tryz.prog 2=some [.d (.int .i64 0)]:=by kernel_rfl
@[go_sem] theorem i2:Ts Tryz.prog 2=some .i64:=by kernel_rfl
@[go_sem] theorem u2:(Tryz.prog.underlying 2).isSome=true:=by kernel_rfl
@[go_sem] theorem k3:C3 Tryz.prog 3=.scal:=by kernel_rfl
@[go_sem] theorem c3:Tryz.prog.cellsOf 3=1:=by kernel_rfl
@[go_sem] theorem b3:Tryz.prog.bytesOf 3=8:=by kernel_rfl
@[go_sem] theorem z3:O6 Tryz.prog 3=some [.d (.int .i64 0)]:=by kernel_rfl
@[go_sem] theorem i3:Ts Tryz.prog 3=some .i64:=by kernel_rfl
@[go_sem] theorem u3:(Tryz.prog.underlying 3).isSome=true:=by kernel_rfl
@[go_sem] theorem k4:C3 Tryz.prog 4=.scal:=by kernel_rfl
@[go_sem] theorem c4:Tryz.prog.cellsOf 4=1:=by kernel_rfl
@[go_sem] theorem b4:Tryz.prog.bytesOf 4=1:=by kernel_rfl
@[go_sem] theorem z4:O6 Tryz.prog 4=some [.d (.bool false)]:=by kernel_rfl
@[go_sem] theorem u4:(Tryz.prog.underlying 4).isSome=true:=by kernel_rfl
@[go_sem] theorem k5:C3 Tryz.prog 5=.scal:=by kernel_rfl
@[go_sem] theorem c5:Tryz.prog.cellsOf 5=1:=by kernel_rfl
@[go_sem] theorem b5:Tryz.prog.bytesOf 5=1:=by kernel_rfl
@[go_sem] theorem z5:O6 Tryz.prog 5=some [.d (.int .u8 0)]:=by kernel_rfl
@[go_sem] theorem i5:Ts Tryz.prog 5=some .u8:=by kernel_rfl
@[go_sem] theorem u5:(Tryz.prog.underlying 5).isSome=true:=by kernel_rfl
@[go_sem] theorem k9:C3 Tryz.prog 9=.str:=by kernel_rfl
@[go_sem] theorem c9:Tryz.prog.cellsOf 9=1:=by kernel_rfl
@[go_sem] theorem b9:Tryz.prog.bytesOf 9=16:=by kernel_rfl
@[go_sem] theorem z9:O6 Tryz.prog 9=some [.d (.str [])]:=by kernel_rfl
@[go_sem] theorem u9:(Tryz.prog.underlying 9).isSome=true:=by kernel_rfl
@[go_sem] theorem k22:C3 Tryz.prog 22=.slice 5:=by kernel_rfl
@[go_sem] theorem c22:Tryz.prog.cellsOf 22=1:=by kernel_rfl
@[go_sem] theorem b22:Tryz.prog.bytesOf 22=24:=by kernel_rfl
@[go_sem] theorem z22:O6 Tryz.prog 22=some [.nil]:=by kernel_rfl
@[go_sem] theorem u22:(Tryz.prog.underlying 22).isSome=true:=by kernel_rfl
@[go_sem] theorem k23:C3 Tryz.prog 23=.arr 32 5:=by kernel_rfl
@[go_sem] theorem c23:Tryz.prog.cellsOf 23=32:=by kernel_rfl
@[go_sem] theorem b23:Tryz.prog.bytesOf 23=32:=by kernel_rfl
@[go_sem] theorem u23:(Tryz.prog.underlying 23).isSome=true:=by kernel_rfl
@[go_sem] theorem k25:C3 Tryz.prog 25=.slice 23:=by kernel_rfl
@[go_sem] theorem c25:Tryz.prog.cellsOf 25=1:=by kernel_rfl
@[go_sem] theorem b25:Tryz.prog.bytesOf 25=24:=by kernel_rfl
@[go_sem] theorem z25:O6 Tryz.prog 25=some [.nil]:=by kernel_rfl
@[go_sem] theorem u25:(Tryz.prog.underlying 25).isSome=true:=by kernel_rfl
@[go_sem] theorem k27:C3 Tryz.prog 27=.struct [(0,23),(32,25),(33,22)]:=by kernel_rfl
@[go_sem] theorem c27:Tryz.prog.cellsOf 27=34:=by kernel_rfl
@[go_sem] theorem b27:Tryz.prog.bytesOf 27=80:=by kernel_rfl
@[go_sem] theorem u27:(Tryz.prog.underlying 27).isSome=true:=by kernel_rfl
@[go_sem] theorem k41:C3 Tryz.prog 41=.slice 22:=by kernel_rfl
@[go_sem] theorem c41:Tryz.prog.cellsOf 41=1:=by kernel_rfl
@[go_sem] theorem b41:Tryz.prog.bytesOf 41=24:=by kernel_rfl
@[go_sem] theorem z41:O6 Tryz.prog 41=some [.nil]:=by kernel_rfl
@[go_sem] theorem u41:(Tryz.prog.underlying 41).isSome=true:=by kernel_rfl
@[go_sem] theorem k42:C3 Tryz.prog 42=.slice 27:=by kernel_rfl
@[go_sem] theorem c42:Tryz.prog.cellsOf 42=1:=by kernel_rfl
@[go_sem] theorem b42:Tryz.prog.bytesOf 42=24:=by kernel_rfl
@[go_sem] theorem z42:O6 Tryz.prog 42=some [.nil]:=by kernel_rfl
@[go_sem] theorem u42:(Tryz.prog.underlying 42).isSome=true:=by kernel_rfl
@[go_sem] theorem k47:C3 Tryz.prog 47=.struct [(0,23),(32,22),(33,2),(34,23)]:=by kernel_rfl
@[go_sem] theorem c47:Tryz.prog.cellsOf 47=66:=by kernel_rfl
@[go_sem] theorem b47:Tryz.prog.bytesOf 47=96:=by kernel_rfl
@[go_sem] theorem u47:(Tryz.prog.underlying 47).isSome=true:=by kernel_rfl
@[go_sem] theorem k53:C3 Tryz.prog 53=.scal:=by kernel_rfl
@[go_sem] theorem c53:Tryz.prog.cellsOf 53=1:=by kernel_rfl
@[go_sem] theorem b53:Tryz.prog.bytesOf 53=4:=by kernel_rfl
@[go_sem] theorem z53:O6 Tryz.prog 53=some [.d (.int .u32 0)]:=by kernel_rfl
@[go_sem] theorem i53:Ts Tryz.prog 53=some .u32:=by kernel_rfl
@[go_sem] theorem u53:(Tryz.prog.underlying 53).isSome=true:=by kernel_rfl
@[go_sem] theorem k54:C3 Tryz.prog 54=.slice 139:=by kernel_rfl
@[go_sem] theorem c54:Tryz.prog.cellsOf 54=1:=by kernel_rfl
@[go_sem] theorem b54:Tryz.prog.bytesOf 54=24:=by kernel_rfl
@[go_sem] theorem z54:O6 Tryz.prog 54=some [.nil]:=by kernel_rfl
@[go_sem] theorem u54:(Tryz.prog.underlying 54).isSome=true:=by kernel_rfl
@[go_sem] theorem k55:C3 Tryz.prog 55=.slice 76:=by kernel_rfl
@[go_sem] theorem c55:Tryz.prog.cellsOf 55=1:=by kernel_rfl
@[go_sem] theorem b55:Tryz.prog.bytesOf 55=24:=by kernel_rfl
@[go_sem] theorem z55:O6 Tryz.prog 55=some [.nil]:=by kernel_rfl
@[go_sem] theorem u55:(Tryz.prog.underlying 55).isSome=true:=by kernel_rfl
@[go_sem] theorem k57:C3 Tryz.prog 57=.struct [(0,53),(1,54),(2,55),(3,53)]:=by kernel_rfl
@[go_sem] theorem c57:Tryz.prog.cellsOf 57=4:=by kernel_rfl
@[go_sem] theorem b57:Tryz.prog.bytesOf 57=64:=by kernel_rfl
@[go_sem] theorem z57:O6 Tryz.prog 57=some [.d (.int .u32 0),.nil,.nil,.d (.int .u32 0)]:=by kernel_rfl
@[go_sem] theorem u57:(Tryz.prog.underlying 57).isSome=true:=by kernel_rfl
@[go_sem] theorem k59:C3 Tryz.prog 59=.struct [(0,57),(4,3),(5,55)]:=by kernel_rfl
@[go_sem] theorem c59:Tryz.prog.cellsOf 59=6:=by kernel_rfl
@[go_sem] theorem b59:Tryz.prog.bytesOf 59=96:=by kernel_rfl
@[go_sem] theorem z59:O6 Tryz.prog 59=some [.d (.int .u32 0),.nil,.nil,.d (.int .u32 0),.d (.int .i64 0),.nil]:=by kernel_rfl
@[go_sem] theorem u59:(Tryz.prog.underlying 59).isSome=true:=by kernel_rfl
@[go_sem] theorem k70:C3 Tryz.prog 70=.scal:=by kernel_rfl
@[go_sem] theorem c70:Tryz.prog.cellsOf 70=1:=by kernel_rfl
@[go_sem] theorem b70:Tryz.prog.bytesOf 70=8:=by kernel_rfl
@[go_sem] theorem z70:O6 Tryz.prog 70=some [.d (.int .u64 0)]:=by kernel_rfl
@[go_sem] theorem i70:Ts Tryz.prog 70=some .u64:=by kernel_rfl
@[go_sem] theorem u70:(Tryz.prog.underlying 70).isSome=true:=by kernel_rfl
@[go_sem] theorem k76:C3 Tryz.prog 76=.struct [(0,70),(1,22)]:=by kernel_rfl
@[go_sem] theorem c76:Tryz.prog.cellsOf 76=2:=by kernel_rfl
@[go_sem] theorem b76:Tryz.prog.bytesOf 76=32:=by kernel_rfl
@[go_sem] theorem z76:O6 Tryz.prog 76=some [.d (.int .u64 0),.nil]:=by kernel_rfl
@[go_sem] theorem u76:(Tryz.prog.underlying 76).isSome=true:=by kernel_rfl
@[go_sem] theorem k94:C3 Tryz.prog 94=.slice 96:=by kernel_rfl
@[go_sem] theorem c94:Tryz.prog.cellsOf 94=1:=by kernel_rfl
@[go_sem] theorem b94:Tryz.prog.bytesOf 94=24:=by kernel_rfl
@[go_sem] theorem z94:O6 Tryz.prog 94=some [.nil]:=by kernel_rfl
@[go_sem] theorem u94:(Tryz.prog.underlying 94).isSome=true:=by kernel_rfl
@[go_sem] theorem k96:C3 Tryz.prog 96=.struct [(0,23),(32,3),(33,3)]:=by kernel_rfl
@[go_sem] theorem c96:Tryz.prog.cellsOf 96=34:=by kernel_rfl
@[go_sem] theorem b96:Tryz.prog.bytesOf 96=48:=by kernel_rfl
@[go_sem] theorem u96:(Tryz.prog.underlying 96).isSome=true:=by kernel_rfl
@[go_sem] theorem k99:C3 Tryz.prog 99=.slice 102:=by kernel_rfl
@[go_sem] theorem c99:Tryz.prog.cellsOf 99=1:=by kernel_rfl
@[go_sem] theorem b99:Tryz.prog.bytesOf 99=24:=by kernel_rfl
@[go_sem] theorem z99:O6 Tryz.prog 99=some [.nil]:=by kernel_rfl
@[go_sem] theorem u99:(Tryz.prog.underlying 99).isSome=true:=by kernel_rfl
@[go_sem] theorem k100:C3 Tryz.prog 100=.slice 3:=by kernel_rfl
@[go_sem] theorem c100:Tryz.prog.cellsOf 100=1:=by kernel_rfl
@[go_sem] theorem b100:Tryz.prog.bytesOf 100=24:=by kernel_rfl
@[go_sem] theorem z100:O6 Tryz.prog 100=some [.nil]:=by kernel_rfl
@[go_sem] theorem u100:(Tryz.prog.underlying 100).isSome=true:=by kernel_rfl
@[go_sem] theorem k102:C3 Tryz.prog 102=.struct [(0,23),(32,100)]:=by kernel_rfl
@[go_sem] theorem c102:Tryz.prog.cellsOf 102=33:=by kernel_rfl
@[go_sem] theorem b102:Tryz.prog.bytesOf 102=56:=by kernel_rfl
@[go_sem] theorem u102:(Tryz.prog.underlying 102).isSome=true:=by kernel_rfl
@[go_sem] theorem k130:C3 Tryz.prog 130=.struct [(0,5),(1,22)]:=by kernel_rfl
@[go_sem] theorem c130:Tryz.prog.cellsOf 130=2:=by kernel_rfl
@[go_sem] theorem b130:Tryz.prog.bytesOf 130=32:=by kernel_rfl
@[go_sem] theorem z130:O6 Tryz.prog 130=some [.d (.int .u8 0),.nil]:=by kernel_rfl
@[go_sem] theorem u130:(Tryz.prog.underlying 130).isSome=true:=by kernel_rfl
@[go_sem] theorem k134:C3 Tryz.prog 134=.slice 130:=by kernel_rfl
@[go_sem] theorem c134:Tryz.prog.cellsOf 134=1:=by kernel_rfl
@[go_sem] theorem b134:Tryz.prog.bytesOf 134=24:=by kernel_rfl
@[go_sem] theorem z134:O6 Tryz.prog 134=some [.nil]:=by kernel_rfl
@[go_sem] theorem u134:(Tryz.prog.underlying 134).isSome=true:=by kernel_rfl
@[go_sem] theorem k137:C3 Tryz.prog 137=.struct [(0,23),(32,53)]:=by kernel_rfl
@[go_sem] theorem c137:Tryz.prog.cellsOf 137=33:=by kernel_rfl
@[go_sem] theorem b137:Tryz.prog.bytesOf 137=36:=by kernel_rfl
@[go_sem] theorem u137:(Tryz.prog.underlying 137).isSome=true:=by kernel_rfl
@[go_sem] theorem k139:C3 Tryz.prog 139=.struct [(0,137),(33,53),(34,41)]:=by kernel_rfl
@[go_sem] theorem c139:Tryz.prog.cellsOf 139=35:=by kernel_rfl
@[go_sem] theorem b139:Tryz.prog.bytesOf 139=64:=by kernel_rfl
@[go_sem] theorem u139:(Tryz.prog.underlying 139).isSome=true:=by kernel_rfl
@[go_sem] theorem k146:C3 Tryz.prog 146=.scal:=by kernel_rfl
@[go_sem] theorem c146:Tryz.prog.cellsOf 146=1:=by kernel_rfl
@[go_sem] theorem b146:Tryz.prog.bytesOf 146=8:=by kernel_rfl
@[go_sem] theorem z146:O6 Tryz.prog 146=some [.d (.int .u64 0)]:=by kernel_rfl
@[go_sem] theorem i146:Ts Tryz.prog 146=some .u64:=by kernel_rfl
@[go_sem] theorem u146:(Tryz.prog.underlying 146).isSome=true:=by kernel_rfl
@[go_sem] theorem k148:C3 Tryz.prog 148=.arr 3 23:=by kernel_rfl
@[go_sem] theorem c148:Tryz.prog.cellsOf 148=96:=by kernel_rfl
@[go_sem] theorem b148:Tryz.prog.bytesOf 148=96:=by kernel_rfl
@[go_sem] theorem u148:(Tryz.prog.underlying 148).isSome=true:=by kernel_rfl
@[go_sem] theorem k152:C3 Tryz.prog 152=.arr 5 23:=by kernel_rfl
@[go_sem] theorem c152:Tryz.prog.cellsOf 152=160:=by kernel_rfl
@[go_sem] theorem b152:Tryz.prog.bytesOf 152=160:=by kernel_rfl
@[go_sem] theorem u152:(Tryz.prog.underlying 152).isSome=true:=by kernel_rfl
@[go_sem] theorem k160:C3 Tryz.prog 160=.arr 4 70:=by kernel_rfl
@[go_sem] theorem c160:Tryz.prog.cellsOf 160=4:=by kernel_rfl
@[go_sem] theorem b160:Tryz.prog.bytesOf 160=32:=by kernel_rfl
@[go_sem] theorem z160:O6 Tryz.prog 160=some [.d (.int .u64 0),.d (.int .u64 0),.d (.int .u64 0),.d (.int .u64 0)]:=by kernel_rfl
@[go_sem] theorem u160:(Tryz.prog.underlying 160).isSome=true:=by kernel_rfl
@[go_sem] theorem k162:C3 Tryz.prog 162=.struct [(0,160),(4,160),(8,4)]:=by kernel_rfl
@[go_sem] theorem c162:Tryz.prog.cellsOf 162=9:=by kernel_rfl
@[go_sem] theorem b162:Tryz.prog.bytesOf 162=72:=by kernel_rfl
@[go_sem] theorem z162:O6 Tryz.prog 162=some [.d (.int .u64 0),.d (.int .u64 0),.d (.int .u64 0),.d (.int .u64 0),.d (.int .u64 0),.d (.int .u64 0),.d (.int .u64 0),.d (.int .u64 0),.d (.bool false)]:=by kernel_rfl
@[go_sem] theorem u162:(Tryz.prog.underlying 162).isSome=true:=by kernel_rfl
@[go_sem] theorem k181:C3 Tryz.prog 181=.slice 53:=by kernel_rfl
@[go_sem] theorem c181:Tryz.prog.cellsOf 181=1:=by kernel_rfl
@[go_sem] theorem b181:Tryz.prog.bytesOf 181=24:=by kernel_rfl
@[go_sem] theorem z181:O6 Tryz.prog 181=some [.nil]:=by kernel_rfl
@[go_sem] theorem u181:(Tryz.prog.underlying 181).isSome=true:=by kernel_rfl
@[go_sem] theorem k185:C3 Tryz.prog 185=.arr 8 53:=by kernel_rfl
@[go_sem] theorem c185:Tryz.prog.cellsOf 185=8:=by kernel_rfl
@[go_sem] theorem b185:Tryz.prog.bytesOf 185=32:=by kernel_rfl
@[go_sem] theorem z185:O6 Tryz.prog 185=some [.d (.int .u32 0),.d (.int .u32 0),.d (.int .u32 0),.d (.int .u32 0),.d (.int .u32 0),.d (.int .u32 0),.d (.int .u32 0),.d (.int .u32 0)]:=by kernel_rfl
@[go_sem] theorem u185:(Tryz.prog.underlying 185).isSome=true:=by kernel_rfl
@[go_sem] theorem k188:C3 Tryz.prog 188=.struct [(0,185),(8,22),(9,70)]:=by kernel_rfl
@[go_sem] theorem c188:Tryz.prog.cellsOf 188=10:=by kernel_rfl
@[go_sem] theorem b188:Tryz.prog.bytesOf 188=64:=by kernel_rfl
@[go_sem] theorem z188:O6 Tryz.prog 188=some [.d (.int .u32 0),.d (.int .u32 0),.d (.int .u32 0),.d (.int .u32 0),.d (.int .u32 0),.d (.int .u32 0),.d (.int .u32 0),.d (.int .u32 0),.nil,.d (.int .u64 0)]:=by kernel_rfl
@[go_sem] theorem u188:(Tryz.prog.underlying 188).isSome=true:=by kernel_rfl
@[go_sem] theorem k191:C3 Tryz.prog 191=.scal:=by kernel_rfl
@[go_sem] theorem c191:Tryz.prog.cellsOf 191=1:=by kernel_rfl
@[go_sem] theorem b191:Tryz.prog.bytesOf 191=2:=by kernel_rfl
@[go_sem] theorem z191:O6 Tryz.prog 191=some [.d (.int .u16 0)]:=by kernel_rfl
@[go_sem] theorem i191:Ts Tryz.prog 191=some .u16:=by kernel_rfl
@[go_sem] theorem u191:(Tryz.prog.underlying 191).isSome=true:=by kernel_rfl
@[go_sem] theorem k199:C3 Tryz.prog 199=.struct [(0,160),(4,160),(8,160)]:=by kernel_rfl
@[go_sem] theorem c199:Tryz.prog.cellsOf 199=12:=by kernel_rfl
@[go_sem] theorem b199:Tryz.prog.bytesOf 199=96:=by kernel_rfl
@[go_sem] theorem z199:O6 Tryz.prog 199=some [.d (.int .u64 0),.d (.int .u64 0),.d (.int .u64 0),.d (.int .u64 0),.d (.int .u64 0),.d (.int .u64 0),.d (.int .u64 0),.d (.int .u64 0),.d (.int .u64 0),.d (.int .u64 0),.d (.int .u64 0),.d (.int .u64 0)]:=by kernel_rfl
@[go_sem] theorem u199:(Tryz.prog.underlying 199).isSome=true:=by kernel_rfl
@[go_sem] theorem k208:C3 Tryz.prog 208=.struct [(0,160),(4,160),(8,160)]:=by kernel_rfl
@[go_sem] theorem c208:Tryz.prog.cellsOf 208=12:=by kernel_rfl
@[go_sem] theorem b208:Tryz.prog.bytesOf 208=96:=by kernel_rfl
@[go_sem] theorem z208:O6 Tryz.prog 208=some [.d (.int .u64 0),.d (.int .u64 0),.d (.int .u64 0),.d (.int .u64 0),.d (.int .u64 0),.d (.int .u64 0),.d (.int .u64 0),.d (.int .u64 0),.d (.int .u64 0),.d (.int .u64 0),.d (.int .u64 0),.d (.int .u64 0)]:=by kernel_rfl
@[go_sem] theorem u208:(Tryz.prog.underlying 208).isSome=true:=by kernel_rfl
@[go_sem] theorem k219:C3 Tryz.prog 219=.arr 64 53:=by kernel_rfl
@[go_sem] theorem c219:Tryz.prog.cellsOf 219=64:=by kernel_rfl
@[go_sem] theorem b219:Tryz.prog.bytesOf 219=256:=by kernel_rfl
@[go_sem] theorem u219:(Tryz.prog.underlying 219).isSome=true:=by kernel_rfl
@[go_sem] theorem k230:C3 Tryz.prog 230=.arr 8 70:=by kernel_rfl
@[go_sem] theorem c230:Tryz.prog.cellsOf 230=8:=by kernel_rfl
@[go_sem] theorem b230:Tryz.prog.bytesOf 230=64:=by kernel_rfl
@[go_sem] theorem z230:O6 Tryz.prog 230=some [.d (.int .u64 0),.d (.int .u64 0),.d (.int .u64 0),.d (.int .u64 0),.d (.int .u64 0),.d (.int .u64 0),.d (.int .u64 0),.d (.int .u64 0)]:=by kernel_rfl
@[go_sem] theorem u230:(Tryz.prog.underlying 230).isSome=true:=by kernel_rfl
@[go_sem] theorem k232:C3 Tryz.prog 232=.arr 16 70:=by kernel_rfl
@[go_sem] theorem c232:Tryz.prog.cellsOf 232=16:=by kernel_rfl
@[go_sem] theorem b232:Tryz.prog.bytesOf 232=128:=by kernel_rfl
@[go_sem] theorem u232:(Tryz.prog.underlying 232).isSome=true:=by kernel_rfl
@[go_sem] theorem k242:C3 Tryz.prog 242=.arr 10 70:=by kernel_rfl
@[go_sem] theorem c242:Tryz.prog.cellsOf 242=10:=by kernel_rfl
@[go_sem] theorem b242:Tryz.prog.bytesOf 242=80:=by kernel_rfl
@[go_sem] theorem z242:O6 Tryz.prog 242=some [.d (.int .u64 0),.d (.int .u64 0),.d (.int .u64 0),.d (.int .u64 0),.d (.int .u64 0),.d (.int .u64 0),.d (.int .u64 0),.d (.int .u64 0),.d (.int .u64 0),.d (.int .u64 0)]:=by kernel_rfl
@[go_sem] theorem u242:(Tryz.prog.underlying 242).isSome=true:=by kernel_rfl
end Go.Proofs.YtldccnbokbieiaaGreat
namespace Go.Sha
open Go.Am
def M:Nat:=4294967296
def Sc (a b:Nat):Nat:=(a+b) % 4294967296
def Su (a b:Nat):Nat:=(a ^^^ b) % 4294967296
def n32 (a b:Nat):Nat:=(a &&& b) % 4294967296
def o32 (a b:Nat):Nat:=(a ||| b) % 4294967296
def c32 (a:Nat):Nat:=(4294967295 ^^^ a) % 4294967296
def s32 (n a:Nat):Nat:=a*2 ^ n % 4294967296
def I7 (n a:Nat):Nat:=a / 2 ^ n
def Zf (a:Nat):Nat:=a % 4294967296
def t8 (a:Nat):Nat:=a % 256
def VE (s x:Nat):Nat:=o32 (s32 s x) (I7 (32 - s) x)
theorem aoI (x:Int):IntKind.u32.wrap x=x % 4294967296:=by simp [IntKind.wrap,IntKind.bits,IntKind.signed]
theorem L0 (x:Int):IntKind.u64.wrap x=x % 18446744073709551616:=by simp [IntKind.wrap,IntKind.bits,IntKind.signed]
theorem u8w (x:Int):IntKind.u8.wrap x=x % 256:=by simp [IntKind.wrap,IntKind.bits,IntKind.signed]
theorem RQ (k:Nat) (a:Nat):(BitVec.ofInt k (a:Int)).toNat=a % 2 ^ k:=by
 rw [BitVec.toNat_ofInt];omega
theorem J0 (a b:Nat):IntKind.u32.wrap ((a:Int)+(b:Int))=((Sc a b:Nat):Int):=by rw [aoI];unfold Sc;omega
theorem abS (a:Nat):IntKind.u32.wrap (a:Int)=((Zf a:Nat):Int):=by rw [aoI];unfold Zf;omega
theorem F7 (a:Nat):IntKind.u8.wrap (a:Int)=((t8 a:Nat):Int):=by rw [u8w];unfold t8;omega
theorem ahG (a b:Nat):IntKind.u32.wrap ((a:Int)*(b:Int))=((a*b % 4294967296:Nat):Int):=by
 rw [aoI,← Int.natCast_mul];omega
theorem aqs (a n:Nat):IntKind.u32.wrap ((a:Int)*2 ^ n)=((s32 n a:Nat):Int):=by
 have:=ahG a (2 ^ n);rw [Int.natCast_pow] at this;exact this
theorem auF (a:Nat):IntKind.u32.wrap ((a:Int)*256)=((s32 8 a:Nat):Int):=ahG a 256
theorem J7 (a b:Nat):bits .xor .u32 (a:Int) (b:Int)=((Su a b:Nat):Int):=by
 show IntKind.u32.wrap (((BitVec.ofInt 32 (a:Int)) ^^^ (BitVec.ofInt 32 (b:Int))).toNat:Int)=_;rw [BitVec.toNat_xor,RQ,RQ,← Nat.xor_mod_two_pow,abS];unfold Su Zf;congr 1;omega
theorem O8 (a b:Nat):bits .and .u32 (a:Int) (b:Int)=((n32 a b:Nat):Int):=by
 show IntKind.u32.wrap (((BitVec.ofInt 32 (a:Int)) &&& (BitVec.ofInt 32 (b:Int))).toNat:Int)=_;rw [BitVec.toNat_and,RQ,RQ,← Nat.and_mod_two_pow,abS];unfold n32 Zf;congr 1;omega
theorem aoJ (a b:Nat):bits .or .u32 (a:Int) (b:Int)=((o32 a b:Nat):Int):=by
 show IntKind.u32.wrap (((BitVec.ofInt 32 (a:Int)) ||| (BitVec.ofInt 32 (b:Int))).toNat:Int)=_;rw [BitVec.toNat_or,RQ,RQ,← Nat.or_mod_two_pow,abS];unfold o32 Zf;congr 1;omega
theorem aqt (a:Nat):bits .xor .u32 4294967295 (a:Int)=((c32 a:Nat):Int):=J7 4294967295 a
theorem P8 (a b:Nat):Int.fdiv (a:Int) (b:Int)=((a / b:Nat):Int):=by
 rw [Int.fdiv_eq_ediv_of_nonneg _ aa];exact (Int.natCast_ediv a b).symm
theorem d_r (a n:Nat):Int.fdiv (a:Int) (2 ^ n)=((I7 n a:Nat):Int):=by
 have:=P8 a (2 ^ n);rw [Int.natCast_pow] at this;exact this
theorem auG (a:Nat):Int.fdiv (a:Int) 8=((I7 3 a:Nat):Int):=P8 a 8
theorem aqv (a:Nat):Int.fdiv (a:Int) 1024=((I7 10 a:Nat):Int):=P8 a 1024
def cw (l:List Nat):List AV:=l.map fun (x:Nat)=>AV.d (.int .u32 (x:Int))
theorem ac3 (l:List Nat):(cw l).length=l.length:=by simp [cw]
theorem U9 (l:List Nat) (i:Nat):(cw l)[i]?=(l[i]?).map fun (x:Nat)=>AV.d (.int .u32 (x:Int)):=by simp [cw]
theorem ago (l:List Nat) (i x:Nat):(cw l).set i (.d (.int .u32 (x:Int)))=cw (l.set i x):=by simp [cw,List.map_set]
theorem alq (ρ:Nat→Nat):∀ l:List Nat,AV.renL ρ (cw l)=cw l
 | []=>by simp [cw,AV.renL]
 | x :: r=>by
  have:=alq ρ r;simp only [cw] at this;simp only [cw,List.map_cons,AV.renL,AV.ren,this]
def nb (bs:List Nat):DV:=.ro 1 (bs.map fun (b:Nat)=>[.int .u8 (b:Int)])
structure S8 where
 a:Nat
 b:Nat
 c:Nat
 d:Nat
 e:Nat
 f:Nat
 g:Nat
 h:Nat
def S8.l (s:S8):List Nat:=[s.a,s.b,s.c,s.d,s.e,s.f,s.g,s.h]
def T1 (s:S8) (k w:Nat):Nat:=Sc (Sc (Sc (Sc s.h (Su (Su (VE 26 s.e) (VE 21 s.e)) (VE 7 s.e))) (Su (n32 s.e s.f) (n32 (c32 s.e) s.g))) k) w
def T2 (s:S8):Nat:=Sc (Su (Su (VE 30 s.a) (VE 19 s.a)) (VE 10 s.a)) (Su (Su (n32 s.a s.b) (n32 s.a s.c)) (n32 s.b s.c))
def rd (s:S8) (k w:Nat):S8:=⟨Sc (T1 s k w) (T2 s),s.a,s.b,s.c,Sc s.d (T1 s k w),s.e,s.f,s.g⟩
def rdp (s:S8) (p:Nat × Nat):S8:=rd s p.1 p.2
section
variable {α β:Type} (f:β→α→β)
def Vz (t:Nat) (l:List α) (s:β):β:=(l.drop t).foldl f s
theorem Xg {l:List α} {p:α} {s:β} {t:Nat} (h:l[t]?=some p):Vz f t l s=Vz f (t+1) l (f s p):=by
 obtain ⟨h1,h2⟩:=ak.1 h;unfold Vz;rw [List.drop_eq_getElem_cons h1,List.foldl_cons,h2]
theorem YJ {l:List α} {s:β} {t:Nat} (h:l.length≤t):Vz f t l s=s:=by
 unfold Vz;rw [az h,List.foldl_nil]
end
def ac4 (ks ws:List Nat) (s:S8):S8:=Vz rdp 0 (ks.zip ws) s
def Zg (s v:S8):S8:=⟨Sc s.a v.a,Sc s.b v.b,Sc s.c v.c,Sc s.d v.d,Sc s.e v.e,Sc s.f v.f,Sc s.g v.g,Sc s.h v.h⟩
def VF (b:List Nat):Nat:=b.foldl (fun x c=>o32 (s32 8 x) (Zf c)) 0
def wx (w:List Nat):Nat :=
 let t:=w.length
 let x:=w.getD (t - 15) 0
 let y:=w.getD (t - 2) 0
 let s0:=Su (Su (VE 25 x) (VE 14 x)) (I7 3 x)
 let s1:=Su (Su (VE 15 y) (VE 13 y)) (I7 10 y)
 Sc (Sc (Sc (w.getD (t - 16) 0) s0) (w.getD (t - 7) 0)) s1
def RH (b:List Nat):Nat→List Nat
 | 0=>[]
 | n+1=>RH b n ++ [VF ((b.take (4*n+4)).drop (4*n))]
def G1 (b:List Nat):Nat→List Nat
 | 0=>RH b 16
 | n+1=>G1 b n ++ [wx (G1 b n)]
theorem Vb (b:List Nat):∀ n,(RH b n).length=n
 | 0=>rfl
 | n+1=>by simp [RH,Vb b n]
theorem UH (b:List Nat):∀ n,(G1 b n).length=n+16
 | 0=>Vb b 16
 | n+1=>by
  have:=UH b n;simp only [G1,aj,this,List.length_singleton]
def UI (b:List Nat):List Nat:=G1 b 48
theorem Wy (b:List Nat):(UI b).length=64:=UH b 48
def K:List Nat:=[0x428a2f98,0x71374491,0xb5c0fbcf,0xe9b5dba5,0x3956c25b,0x59f111f1,0x923f82a4,0xab1c5ed5] ++ [0xd807aa98,0x12835b01,0x243185be,0x550c7dc3,0x72be5d74,0x80deb1fe,0x9bdc06a7,0xc19bf174] ++
 [0xe49b69c1,0xefbe4786,0x0fc19dc6,0x240ca1cc,0x2de92c6f,0x4a7484aa,0x5cb0a9dc,0x76f988da] ++ [0x983e5152,0xa831c66d,0xb00327c8,0xbf597fc7,0xc6e00bf3,0xd5a79147,0x06ca6351,0x14292967] ++
 [0x27b70a85,0x2e1b2138,0x4d2c6dfc,0x53380d13,0x650a7354,0x766a0abb,0x81c2c92e,0x92722c85] ++ [0xa2bfe8a1,0xa81a664b,0xc24b8b70,0xc76c51a3,0xd192e819,0xd6990624,0xf40e3585,0x106aa070] ++
 [0x19a4c116,0x1e376c08,0x2748774c,0x34b0bcb5,0x391c0cb3,0x4ed8aa4a,0x5b9cca4f,0x682e6ff3] ++ [0x748f82ee,0x78a5636f,0x84c87814,0x8cc70208,0x90befffa,0xa4506ceb,0xbef9a3f7,0xc67178f2]
def H0:S8:=⟨0x6a09e667,0xbb67ae85,0x3c6ef372,0xa54ff53a,0x510e527f,0x9b05688c,0x1f83d9ab,0x5be0cd19⟩
def take (s:S8) (b:List Nat):S8:=Zg s (ac4 K (UI b) s)
def Zh:Nat→S8→List Nat→S8 × List Nat
 | 0,s,b=>(s,b)
 | n+1,s,b=>if 64≤b.length then Zh n (Go.Sha.take s (b.take 64)) (b.drop 64) else (s,b)
def wbk (x:Nat):Nat→List Nat
 | 0=>[]
 | k+1=>wbk x k ++ [t8 (I7 (24 - 8*k) x)]
theorem ZH (x:Nat):∀ k,(wbk x k).length=k
 | 0=>rfl
 | k+1=>by simp [wbk,ZH x k]
def pre (l:List Nat):Nat→List Nat
 | 0=>[]
 | i+1=>pre l i ++ wbk (l.getD i 0) 4
theorem SO (l:List Nat):∀ i,(pre l i).length=4*i
 | 0=>rfl
 | i+1=>by simp [pre,SO l i,ZH];omega
def dig (s:S8):List Nat:=pre s.l 8
end Go.Sha
namespace Go.Proofs.YtldccnbokbieiaaGreat
open Go.Am Go.Sha
def z64:List Nat:=List.replicate 64 0
theorem aoK:z64.length=64:=rfl
@[go_sem] theorem ayO:O6 Tryz.prog 219=some (cw z64):=by kernel_rfl
attribute [go_sem] aoK ac3
def cb (l:List Nat):List AV:=l.map fun (x:Nat)=>AV.d (.int .u8 (x:Int))
theorem d0 (l:List Nat):(cb l).length=l.length:=by simp [cb]
theorem ac6 (l:List Nat) (i:Nat):(cb l)[i]?=(l[i]?).map fun (x:Nat)=>AV.d (.int .u8 (x:Int)):=by simp [cb]
theorem aan (l:List Nat) (i x:Nat):(cb l).set i (.d (.int .u8 (x:Int)))=cb (l.set i x):=by simp [cb,List.map_set]
theorem o5 (n:Nat) (l:List Nat):∀ v,v ∈ cb l→v.low1 n:=by
 intro c hc;simp only [cb,List.mem_map] at hc;obtain ⟨x,_,rfl⟩:=hc
 trivial
theorem r6 (l:List Nat):∀ c,c ∈ cb l→c.deep1:=by
 intro c hc;simp only [cb,List.mem_map] at hc;obtain ⟨x,_,rfl⟩:=hc
 trivial
def z32:List Nat:=List.replicate 32 0
theorem aoL:z32.length=32:=rfl
@[go_sem] theorem ayP:O6 Tryz.prog 23=some (cb z32):=by kernel_rfl
attribute [go_sem] aoL d0
theorem asd:ahn Tryz.prog 155=true:=by kernel_rfl
attribute [go_sem] asd
theorem Q9 (x s:Nat) (k:Int) (hs:bits .and .u64 (IntKind.u64.wrap k) 31=(s:Int)) (h1:s≤31) :
  m6 Tryz.prog 199 [.d (.int .u32 (x:Int)),.d (.int .i64 k)] (fun r=>r=.d (.int .u32 ((VE s x:Nat):Int))):=by
 refine t6 Tryz.func199 Tryz.ntmps199 (rs:=[.tmp 4]) ae ?_;have e1:IntKind.u64.wrap (32 - (s:Int))=((32 - s:Nat):Int):=by rw [L0];omega
 have e2:min s 32=s:=aa;have e3:min (32 - s) 32=32 - s:=aa;simp [go_sem,hs,e1,e2,e3,IntKind.bits,d7];refine b7 ae ?_;rw [aqs,d_r,aoJ];rfl
theorem ajd:m6 Tryz.prog 155 [] (fun r=>r=.agg (cw H0.l)):=by
 refine t6 Tryz.func155 Tryz.ntmps155 (rs:=[.cell 0 185]) ae ?_;simp [go_sem,d7,UB];exact b7 ae rfl
theorem aoM (l:List Nat):∀ c,c ∈ cw l→c.deep1:=by
 intro c hc;simp only [cw,List.mem_map] at hc;obtain ⟨x,_,rfl⟩:=hc
 trivial
theorem aeC:m6 Tryz.prog 198 [] (fun r=>r=.agg (cw K)):=by
 refine t6 Tryz.func198 Tryz.ntmps198 (rs:=[.cell 0 219]) ae ?_;have zz:O6 Tryz.prog 219=some (List.replicate 64 (.d (.int .u32 0))):=by kernel_rfl
 simp [go_sem,d7,zz];exact b7 ae rfl
theorem t5 {α:Type} {l:List α} {k:Nat} (h:k<l.length):∃ c,l[k]?=some c∧l.drop k=c :: l.drop (k+1) :=
 ⟨l[k],am h,List.drop_eq_getElem_cons h⟩
theorem j6 {k:Nat} (h:k<4611686018427387904):IntKind.i64.wrap ((k:Int)+1)=((k+1:Nat):Int):=by
 rw [IntWalk.i64_in _ aa];omega
theorem axs {n:Nat} (h:n<4611686018427387904):IntKind.i64.wrap (n:Int)=(n:Int):=IntWalk.i64_in _ aa
theorem F5 (n:Nat) (l:List Nat):∀ v,v ∈ cw l→v.low1 n:=by
 intro c hc;simp only [cw,List.mem_map] at hc;obtain ⟨x,_,rfl⟩:=hc
 trivial
def SB (w:List Nat):List Nat:=w ++ List.replicate (64 - w.length) 0
theorem aeD {w:List Nat} (h:w.length≤64):(SB w).length=64:=by simp [SB];omega
theorem aeE {w:List Nat} {i:Nat} (h:i<w.length):(SB w)[i]?=some w[i]:=by
 unfold SB;rw [List.getElem?_append_left h,am h]
theorem aao {w:List Nat} {x:Nat} (h:w.length<64):(SB w).set w.length x=SB (w ++ [x]):=by
 unfold SB;rw [List.set_append_right _ _ (av _),Nat.sub_self];obtain ⟨k,hk⟩:∃ k,64 - w.length=k+1:=⟨63 - w.length,aa⟩;rw [hk,List.replicate_succ,List.set_cons_zero,ar];simp only [aj,List.length_singleton,List.singleton_append];rw [show 64 - (w.length+1)=k by omega]
theorem aje {w:List Nat} {x y:Nat} (h:w.length<64):(SB (w ++ [x])).set w.length y=SB (w ++ [y]):=by
 rw [← aao h,← aao h,List.set_set]
theorem alr {w:List Nat} {x:Nat} (h:w.length<64):(SB (w ++ [x]))[w.length]?=some x:=by
 rw [aeE ab];simp
theorem ajf {w:List Nat} (h:w.length<64):SB (w ++ [0])=SB w:=by
 unfold SB;obtain ⟨k,hk⟩:∃ k,64 - w.length=k+1:=⟨63 - w.length,aa⟩;rw [hk,List.replicate_succ,ar];simp only [aj,List.length_singleton,List.singleton_append];rw [show 64 - (w.length+1)=k by omega]
theorem ajg (q:List Nat) {j c:Nat} (h:q[j]?=some c):VF (q.take (j+1))=o32 (s32 8 (VF (q.take j))) (Zf c):=by
 unfold VF;rw [List.take_add_one,h,List.foldl_append];rfl
theorem abU (b:List Nat) (hb:b.length=64):m6 Tryz.prog 197 [.d (nb b)] (fun r=>r=.agg (cw (UI b))):=by
 refine t6 Tryz.func197 Tryz.ntmps197 (rs:=[.cell 2 219]) ae ?_;simp only [go_sem,Nat.reduceEqDiff,Nat.reduceAdd,Nat.reduceLT,↓reduceIte,Nat.reduceMul,List.length_replicate]
 refine j9 (fun t:Nat=>⟨[(0,.d (nb b)),(2,.ptr 0 0 0 1),(3,.ptr 32 0 0 1),(12,.d (.int .i64 t))],[(32,⟨219,64,[cw (SB (RH b t))]⟩),(0,⟨219,64,[cw z64]⟩)],96⟩)
  (fun t=>t≤16) (fun t=>16 - t) 0 aa (by
   simp [m7,c6,fv,lk,AV.low,AV.low1]
   refine ⟨⟨rfl,F5 _ _⟩,F5 _ _⟩) ?_
 intro t ht;have e1:=Vb b t;have w1:IntKind.i64.wrap (4*(t:Int))=((4*t:Nat):Int):=by rw [IntWalk.i64_in _ aa];omega
 have w2:IntKind.i64.wrap (((4*t:Nat):Int)+4)=((4*t+4:Nat):Int):=by rw [IntWalk.i64_in _ aa];omega
 simp only [go_sem,Nat.reduceEqDiff,Nat.reduceAdd,Nat.reduceLT,↓reduceIte];refine ⟨fun h=>?_,fun h=>?_⟩
 ·have hl4:((b.take (4*t+4)).drop (4*t)).length=4:=by simp;omega
  have hnb:((b.map fun (b:Nat)=>[DV.int .u8 (b:Int)]).take (4*t+4)).drop (4*t)=((b.take (4*t+4)).drop (4*t)).map fun (b:Nat)=>[DV.int .u8 (b:Int)]:=by simp [List.map_drop,List.map_take]
  simp only [go_sem,Nat.reduceEqDiff,Nat.reduceAdd,Nat.reduceLT,↓reduceIte,w1,w2,nb,Int.toNat_natCast,hnb,List.length_map,hl4];refine ⟨aa,aa,?_⟩
  refine j9 (fun j:Nat=>⟨[(0,.d (nb b)),(2,.ptr 0 0 0 1),(3,.ptr 32 0 0 1),(12,.d (.int .i64 t)),(4,.d (.int .i64 t)),(21,.d (nb ((b.take (4*t+4)).drop (4*t)))),(22,.d (.int .i64 (4:Nat))),(23,.d (.int .i64 j))],
    [(32,⟨219,64,[cw (SB (RH b t ++ [VF (((b.take (4*t+4)).drop (4*t)).take j)]))]⟩),(0,⟨219,64,[cw z64]⟩)],480⟩)
   (fun j=>j≤4) (fun j=>4 - j) 0 aa (by
    simp [m7,c6,fv,lk,AV.low,AV.low1,nb,List.map_drop,List.map_take]
    exact ⟨⟨by rw [show VF []=0 from rfl,ajf aa],F5 _ _⟩,F5 _ _⟩) ?_
  intro j hj;simp only [go_sem,Nat.reduceEqDiff,Nat.reduceAdd,Nat.reduceLT,↓reduceIte];refine ⟨fun h2=>?_,fun h2=>?_⟩
  ·obtain ⟨c,hc,_⟩:=t5 (l:=(b.take (4*t+4)).drop (4*t)) (k:=j) aa
   have g1:(SB (RH b t ++ [VF (((b.take (4*t+4)).drop (4*t)).take j)]))[t]?=some (VF (((b.take (4*t+4)).drop (4*t)).take j)):=by
    have:=alr (w:=RH b t) (x:=VF (((b.take (4*t+4)).drop (4*t)).take j)) aa;rw [e1] at this;exact this
   have g2:∀ y,(SB (RH b t ++ [VF (((b.take (4*t+4)).drop (4*t)).take j)])).set t y=SB (RH b t ++ [y]):=by
    intro y;have:=aje (w:=RH b t) (x:=VF (((b.take (4*t+4)).drop (4*t)).take j)) (y:=y) aa;rw [e1] at this;exact this
   have w3:=axs (n:=j+1) aa;have g3:(SB (RH b t ++ [VF (((b.take (4*t+4)).drop (4*t)).take j)])).length=64:=aeD (by simp;omega);generalize hq:(b.take (4*t+4)).drop (4*t)=q at *;simp [go_sem,nb,hc,U9,g1,IntKind.bits,auF,abS,aoJ,ago,g2,g3,e1];refine ⟨aa,aa,?_⟩;have w3:=j6 (k:=j) aa;rw [w3];refine c8 (j+1) aa aa ?_;simp [m7,c6,fv,lk,AV.low,AV.low1,ajg q hc];exact ⟨F5 _ _,F5 _ _⟩
  ·have hj4:j=4:=aa;subst hj4;have w3:=j6 (k:=t) aa;rw [w3];refine c8 (t+1) aa aa ?_;have hfull:VF (((b.take (4*t+4)).drop (4*t)).take 4)=VF ((b.take (4*t+4)).drop (4*t)):=by rw [aq aa]
   simp [m7,c6,fv,lk,AV.low,AV.low1,RH];exact ⟨rfl,⟨by rw [hfull],F5 _ _⟩,F5 _ _⟩
 ·have ht16:t=16:=aa;subst ht16
  refine j9 (fun t:Nat=>⟨[(2,.ptr 0 0 0 1),(3,.ptr 32 0 0 1),(7,.d (.int .i64 ((t+16:Nat):Int)))],[(32,⟨219,64,[cw (SB (G1 b t))]⟩),(0,⟨219,64,[cw z64]⟩)],128⟩)
   (fun t=>t≤48) (fun t=>48 - t) 0 aa (by
    simp [m7,c6,fv,lk,AV.low,AV.low1,G1]
    exact ⟨F5 _ _,F5 _ _⟩) ?_
  intro t ht;have e1:=UH b t;simp only [go_sem,Nat.reduceEqDiff,Nat.reduceAdd,Nat.reduceLT,↓reduceIte];refine ⟨fun h=>?_,fun h=>?_⟩
  ·have i1:IntKind.i64.wrap (((t+16:Nat):Int) - 15)=((t+16 - 15:Nat):Int):=by rw [IntWalk.i64_in _ aa];omega
   have i2:IntKind.i64.wrap (((t+16:Nat):Int) - 2)=((t+16 - 2:Nat):Int):=by rw [IntWalk.i64_in _ aa];omega
   have i3:IntKind.i64.wrap (((t+16:Nat):Int) - 16)=((t+16 - 16:Nat):Int):=by rw [IntWalk.i64_in _ aa];omega
   have i4:IntKind.i64.wrap (((t+16:Nat):Int) - 7)=((t+16 - 7:Nat):Int):=by rw [IntWalk.i64_in _ aa];omega
   have gg:∀ i,i<t+16→(SB (G1 b t))[i]?=some ((G1 b t).getD i 0):=by
    intro i hi;rw [aeE aa,aw,am aa];rfl
   have w3:=j6 (k:=t+16) aa;generalize hT:t+16=T at *;apply alf (0 :: 1 :: 2 :: 3 :: 4 :: 5 :: 6 :: 7 :: 8 :: 9 :: []) ([]) 0 (k:=10) (by kernel_rfl) (by kernel_rfl) rfl
   case hz=>repeat (first | exact Its.nil | apply Its.plain rfl | apply Its.guard rfl rfl)
   case hj=>exact Jts.nil
   intro G hG;have g15:=gg (T - 15) aa;have g2:=gg (T - 2) aa;have g16:=gg (T - 16) aa;have g7:=gg (T - 7) aa
   have hwx:wx (G1 b t)=Sc (Sc (Sc ((G1 b t).getD (T - 16) 0) (Su (Su (VE 25 ((G1 b t).getD (T - 15) 0)) (VE 14 ((G1 b t).getD (T - 15) 0))) (I7 3 ((G1 b t).getD (T - 15) 0)))) ((G1 b t).getD (T - 7) 0)) (Su (Su (VE 15 ((G1 b t).getD (T - 2) 0)) (VE 13 ((G1 b t).getD (T - 2) 0))) (I7 10 ((G1 b t).getD (T - 2) 0))):=by
    unfold wx;rw [e1]
   generalize (G1 b t).getD (T - 15) 0=x at g15 hwx;generalize (G1 b t).getD (T - 2) 0=y at g2 hwx;generalize (G1 b t).getD (T - 16) 0=u at g16 hwx;generalize (G1 b t).getD (T - 7) 0=v at g7 hwx;simp [go_sem,i1,i2,U9,g15,g2];refine ⟨aa,aa,hG _ _ ?_⟩;simp only [go_sem,Nat.reduceEqDiff,Nat.reduceAdd,Nat.reduceLT,↓reduceIte,Nat.reduceMul];refine a9 (Q9 x 25 (-7) (by decide) aa) ae ?_;simp only [go_sem,Nat.reduceEqDiff,Nat.reduceAdd,Nat.reduceLT,↓reduceIte];refine a9 (Q9 x 14 (-18) (by decide) aa) ae ?_;simp [go_sem,J7,IntKind.bits,auG];refine a9 (Q9 y 15 (-17) (by decide) aa) ae ?_;simp only [go_sem,Nat.reduceEqDiff,Nat.reduceAdd,Nat.reduceLT,↓reduceIte];refine a9 (Q9 y 13 (-19) (by decide) aa) ae ?_;simp [go_sem,J7,IntKind.bits,aqv];apply alf (0 :: 1 :: 2 :: 3 :: 4 :: 5 :: 6 :: 7 :: 8 :: 9 :: 10 :: 11 :: 12 :: 13 :: 14 :: []) ((15,([])) :: []) 0 (k:=16) (by kernel_rfl) (by kernel_rfl) rfl
   case hz=>repeat (first | exact Its.nil | apply Its.plain rfl | apply Its.guard rfl rfl)
   case hj=>exact Jts.plain rfl Its.nil Jts.nil
   intro G hG
   have hset:(SB (G1 b t)).set T (wx (G1 b t))=SB (G1 b (t+1)):=by
    have:=aao (w:=G1 b t) (x:=wx (G1 b t)) aa;rw [e1] at this;exact this
   rw [hwx] at hset;have hlen:(SB (G1 b t)).length=64:=aeD aa;simp [go_sem,i3,i4,U9,g16,g7,J0,ago,hset,hlen];refine ⟨aa,aa,aa,aa,hG _ _ ?_⟩;simp [go_sem,w3];refine c8 (t+1) aa aa ?_;subst hT;simp [m7,c6,fv,lk,AV.low,AV.low1];exact ⟨aa,F5 _ _,F5 _ _⟩
  ·have ht48:t=48:=aa;subst ht48
   have hfull:SB (G1 b 48)=UI b:=by
    have h0:∀ w:List Nat,w.length=64→SB w=w:=fun w hw=>by unfold SB;rw [hw,Nat.sub_self,List.replicate_zero,List.append_nil]
    exact h0 _ e1
   rw [hfull];have hsl:=Wy b;generalize UI b=sb at hsl;have htk:(cw sb).take 64=cw sb:=aq (by rw [ac3];omega);simp [go_sem,d7,hsl,htk];exact b7 (by simp [AV.deep];exact aoM _) rfl
def I2 (s:S8):List AV:=[.d (.int .u32 (s.a:Int)),.d (.int .u32 (s.b:Int)),.d (.int .u32 (s.c:Int)),.d (.int .u32 (s.d:Int)),.d (.int .u32 (s.e:Int)),.d (.int .u32 (s.f:Int)),.d (.int .u32 (s.g:Int)),.d (.int .u32 (s.h:Int))]
theorem YK (s:S8):I2 s=cw s.l:=rfl
theorem Zi:K.length=64:=rfl
def Se (s v:S8) (i:Nat):List Nat:=(List.zipWith Sc s.l v.l).take i ++ s.l.drop i
theorem aeF (s v:S8) {i:Nat} (h:i≤8):(Se s v i).length=8:=by simp [Se,S8.l];omega
theorem abV (s v:S8):Se s v 0=s.l:=by simp [Se]
theorem aeG (s v:S8):Se s v 8=(Zg s v).l:=by simp [Se,S8.l,Zg]
theorem abW (s v:S8) {i:Nat} (h:i<8):∃ x y,v.l[i]?=some y∧(Se s v i)[i]?=some x∧(Se s v i).set i (Sc x y)=Se s v (i+1):=by
 rcases (by omega:i=0 ∨ i=1 ∨ i=2 ∨ i=3 ∨ i=4 ∨ i=5 ∨ i=6 ∨ i=7) with rfl | rfl | rfl | rfl | rfl | rfl | rfl | rfl
 ·exact ⟨s.a,v.a,by simp [S8.l],by simp [Se,S8.l],by simp [Se,S8.l]⟩
 ·exact ⟨s.b,v.b,by simp [S8.l],by simp [Se,S8.l],by simp [Se,S8.l]⟩
 ·exact ⟨s.c,v.c,by simp [S8.l],by simp [Se,S8.l],by simp [Se,S8.l]⟩
 ·exact ⟨s.d,v.d,by simp [S8.l],by simp [Se,S8.l],by simp [Se,S8.l]⟩
 ·exact ⟨s.e,v.e,by simp [S8.l],by simp [Se,S8.l],by simp [Se,S8.l]⟩
 ·exact ⟨s.f,v.f,by simp [S8.l],by simp [Se,S8.l],by simp [Se,S8.l]⟩
 ·exact ⟨s.g,v.g,by simp [S8.l],by simp [Se,S8.l],by simp [Se,S8.l]⟩
 ·exact ⟨s.h,v.h,by simp [S8.l],by simp [Se,S8.l],by simp [Se,S8.l]⟩
theorem ahH {l:List Nat} {tail:List AV} {i x:Nat} (h:l[i]?=some x):(cw l ++ tail)[i]?=some (.d (.int .u32 (x:Int))):=by
 have hl:i<(cw l).length:=by rw [ac3];exact (ak.1 h).1
 rw [List.getElem?_append_left hl,U9,h];rfl
theorem ahI {l:List Nat} {tail:List AV} {i x:Nat} (h:i<l.length):(cw l ++ tail).set i (.d (.int .u32 (x:Int)))=cw (l.set i x) ++ tail:=by
 rw [List.set_append_left _ _ (by rw [ac3];exact h),ago]
theorem aqw:(if IntKind.u32.signed=true then -1 else IntKind.u32.max)=(4294967295:Int):=by decide
theorem ZI (ty:TypeId) (e:Nat) (s:S8) (tail:List AV) (b:List Nat) (hb:b.length=64) (htail:∀ n,∀ v,v ∈ tail→v.low1 n) :
  I1 Tryz.prog 156 1 [(0,⟨ty,e,[I2 s ++ tail]⟩)] [.ptr 0 0 0 1,.d (nb b)] (fun r hp'=>r=.tup []∧lk 0 hp'=some ⟨ty,e,[I2 (take s b) ++ tail]⟩):=by
 refine C6 Tryz.func156 (by kernel_rfl) rfl Tryz.ntmps156 (rs:=[]) rfl (Ut rfl) (by decide) ?_;simp only [go_sem,Nat.reduceEqDiff,Nat.reduceAdd,Nat.reduceLT,↓reduceIte,Nat.reduceMul];refine a9 (abU b hb) ae ?_;simp only [go_sem,Nat.reduceEqDiff,Nat.reduceAdd,Nat.reduceLT,↓reduceIte,Nat.reduceMul];refine a9 aeC ae ?_;have hsl:=Wy b;have hzl:(K.zip (UI b)).length=64:=by rw [List.length_zip,hsl,Zi];rfl
 unfold Go.Sha.take ac4;generalize UI b=ws at *;have hz64:(cw z64).drop 64=[]:=rfl;generalize hR:Vz rdp 0 (K.zip ws) s=R;simp [go_sem,Zi,hsl,I2,hz64]
 refine j9 (fun t:Nat × S8=>⟨[(0,.ptr 0 0 0 1),(4,.ptr 98 0 0 1),(5,.ptr 130 0 0 1),(6,.ptr 322 0 0 1),(19,.d (.int .i64 t.1))],
   [(322,⟨185,8,[I2 t.2]⟩),(130,⟨219,64,[cw K]⟩),(98,⟨219,64,[cw ws]⟩),(0,⟨ty,e,[I2 s ++ tail]⟩)],418⟩)
  (fun t=>t.1≤64∧Vz rdp t.1 (K.zip ws) t.2=R) (fun t=>64 - t.1) (0,s) ⟨aa,hR⟩ (by
   simp [m7,c6,fv,lk,AV.low,AV.low1,I2]
   exact ⟨F5 _ _,F5 _ _,fun v hv=>htail _ v hv⟩) ?_
 clear hR;rintro ⟨t,v⟩ ⟨ht,hR⟩;simp only at ht hR;simp only [go_sem,Nat.reduceEqDiff,Nat.reduceAdd,Nat.reduceLT,↓reduceIte];refine ⟨fun h=>?_,fun h=>?_⟩
 ·obtain ⟨k,hk,_⟩:=t5 (l:=K) (k:=t) (by rw [Zi];omega);obtain ⟨w,hw,_⟩:=t5 (l:=ws) (k:=t) aa;have hz:(K.zip ws)[t]?=some (k,w):=by rw [List.getElem?_zip_eq_some];exact ⟨hk,hw⟩
  rw [Xg rdp hz] at hR;simp only [go_sem,Nat.reduceEqDiff,Nat.reduceAdd,Nat.reduceLT,↓reduceIte,I2];simp [go_sem];refine B7 [0,1,2,4,7,11,12,13,14,15,16,17,18,19,20,22,23,24,26,27,28] [(3,[]),(5,[6]),(8,[9,10,21,25,29,30])] 3 (k:=31) ?_;intro G hG;simp [go_sem,U9,hk,hw,J7,O8,aqw,aqt,J0];refine ⟨aa,?_⟩;refine a9 (Q9 v.e 26 (-6) (by decide) aa) ae ?_;simp [go_sem,J7,O8,J0];refine a9 (Q9 v.e 21 (-11) (by decide) aa) ae ?_;simp [go_sem,J7,O8,J0];refine a9 (Q9 v.e 7 (-25) (by decide) aa) ae ?_;simp [go_sem,J7,O8,J0];have hT1:Sc (Sc (Sc (Sc v.h (Su (Su (VE 26 v.e) (VE 21 v.e)) (VE 7 v.e))) (Su (n32 v.e v.f) (n32 (c32 v.e) v.g))) k) w=T1 v k w:=by unfold T1;with_reducible rfl
  rw [hT1];refine hG _ _ ?_;clear hG G;simp [go_sem];refine B7 [0,2,5,8,9,10,11,12,13,14,15,16,17,18,19,20,21,22] [(1,[]),(3,[4]),(6,[7,23,24])] 3 (k:=25) ?_;intro G hG;simp [go_sem,J7,O8,J0];refine a9 (Q9 v.a 30 (-2) (by decide) aa) ae ?_;simp [go_sem,J7,O8,J0];refine a9 (Q9 v.a 19 (-13) (by decide) aa) ae ?_;simp [go_sem,J7,O8,J0];refine a9 (Q9 v.a 10 (-22) (by decide) aa) ae ?_;simp [go_sem,J7,O8,J0];have hT2:Sc (Su (Su (VE 30 v.a) (VE 19 v.a)) (VE 10 v.a)) (Su (Su (n32 v.a v.b) (n32 v.a v.c)) (n32 v.b v.c))=T2 v:=by unfold T2;with_reducible rfl
  rw [hT2];refine hG _ _ ?_;clear hG G;have w3:=j6 (k:=t) aa;simp [go_sem,J0,UB,w3];refine c8 (t+1,rdp v (k,w)) ⟨by simp only;omega,hR⟩ (by simp only;omega) ?_;simp [m7,c6,fv,lk,AV.low,AV.low1,I2,rdp,rd];exact ⟨F5 _ _,F5 _ _,fun v hv=>htail _ v hv⟩
 ·have ht64:t=64:=aa;subst ht64;rw [YJ rdp aa] at hR;subst hR
  refine j9 (fun i:Nat=>⟨[(0,.ptr 0 0 0 1),(6,.ptr 322 0 0 1),(101,.d (.int .i64 i))],[(322,⟨185,8,[cw v.l]⟩),(0,⟨ty,e,[cw (Se s v i) ++ tail]⟩)],482⟩)
   (fun i=>i≤8) (fun i=>8 - i) 0 aa (by
    simp [m7,c6,fv,lk,AV.low,AV.low1,abV,YK];refine ⟨F5 _ _,fun v hv=>?_⟩;rcases hv with hv | hv
    ·exact F5 _ _ v hv
    ·exact htail _ v hv) ?_
  intro i hi;simp only [go_sem,Nat.reduceEqDiff,Nat.reduceAdd,Nat.reduceLT,↓reduceIte];refine ⟨fun h=>?_,fun h=>?_⟩
  ·obtain ⟨x,y,hy,hx,hset⟩:=abW s v (i:=i) aa;have hml:=aeF s v hi;refine B7 [0,1,2,3,4,5,6,7,8,9,10] [(11,[])] 0 (k:=12) ?_;intro G hG;have hs2:=ahI (l:=Se s v i) (tail:=tail) (i:=i) (x:=Sc x y) aa;rw [hset] at hs2;simp [go_sem,ahH hx,U9,hy,J0,hs2,hml];refine ⟨aa,aa,hG _ _ ?_⟩;have w3:=j6 (k:=i) aa;simp [go_sem,w3];refine c8 (i+1) aa aa ?_;simp [m7,c6,fv,lk,AV.low,AV.low1];refine ⟨F5 _ _,fun v hv=>?_⟩;rcases hv with hv | hv
   ·exact F5 _ _ v hv
   ·exact htail _ v hv
  ·have hi8:i=8:=aa;subst hi8;simp [go_sem,d7,aeG,YK];simp [cw,S8.l]
def rb (L:List Nat):List (List AV):=L.map fun (x:Nat)=>[.d (.int .u8 (x:Int))]
theorem o6 (L:List Nat):(rb L).length=L.length:=by simp [rb]
theorem s7 (n:Nat) (L:List Nat):∀ r,r ∈ rb L→∀ v,v ∈ r→v.low1 n:=by
 intro r hr v hv;simp only [rb,List.mem_map] at hr;obtain ⟨x,_,rfl⟩:=hr;simp at hv;subst hv
 trivial
theorem aoN (l:List Nat):∀ c,c ∈ cw l→c.flat1:=by
 intro c hc;simp only [cw,List.mem_map] at hc;obtain ⟨x,_,rfl⟩:=hc
 trivial
theorem ahJ {hp:Hp} {I:Nat→Prop}:∀ (L:List Nat),RowsR hp I (rb L) (L.map fun (x:Nat)=>[.int .u8 (x:Int)])
 | []=>.nil
 | x :: r=>.cons (.cons (.d _) .nil) (ahJ r)
theorem XY {hp:Hp} {I:Nat→Prop} {id i0 n:Nat} {L:List Nat} (hb:lk id hp=some ⟨5,1,rb L⟩) (hI:I id) (h:i0+n≤L.length):SnapD hp I (.own id i0 n L.length) (nb ((L.drop i0).take n)):=by
 refine aag hb hI (o6 L) (es:=((L.drop i0).take n).map fun (x:Nat)=>[.int .u8 (x:Int)]) ?_ (by simp;omega) (fun r hr=>by
  rw [List.mem_map] at hr;obtain ⟨c,_,rfl⟩:=hr
  rfl)
 have:((rb L).drop i0).take n=rb ((L.drop i0).take n):=by simp [rb,List.map_drop,List.map_take]
 rw [this];exact ahJ _
theorem Zj (ty:TypeId) (e:Nat) (s:S8) (tail:List AV) (L:List Nat) (i0:Nat) (hi0:i0+64≤L.length) (htail:∀ n,∀ v,v ∈ tail→v.low1 n) :
  I1 Tryz.prog 156 2 [(0,⟨ty,e,[I2 s ++ tail]⟩),(1,⟨5,1,rb L⟩)] [.ptr 0 0 0 1,.own 1 i0 64 L.length] (fun r hp'=>r=.tup []∧lk 0 hp'=some ⟨ty,e,[I2 (take s ((L.drop i0).take 64)) ++ tail]⟩∧lk 1 hp'=some ⟨5,1,rb L⟩):=by
 refine C6 Tryz.func156 (by kernel_rfl) rfl Tryz.ntmps156 (rs:=[]) rfl (Ut rfl) (by decide) ?_;simp only [go_sem,Nat.reduceEqDiff,Nat.reduceAdd,Nat.reduceLT,↓reduceIte,Nat.reduceMul];have hb:((L.drop i0).take 64).length=64:=by simp;omega
 refine U8 (abU ((L.drop i0).take 64) hb) rfl (c7 (.one (d9 (XY rfl trivial hi0))) n7) (by simp [AV.flat];exact aoN _) ?_;generalize (L.drop i0).take 64=b at *;simp only [go_sem,Nat.reduceEqDiff,Nat.reduceAdd,Nat.reduceLT,↓reduceIte,Nat.reduceMul];refine a9 aeC ae ?_;have hsl:=Wy b;have hzl:(K.zip (UI b)).length=64:=by rw [List.length_zip,hsl,Zi];rfl
 unfold Go.Sha.take ac4;generalize UI b=ws at *;have hz64:(cw z64).drop 64=[]:=rfl;generalize hR:Vz rdp 0 (K.zip ws) s=R;simp [go_sem,Zi,hsl,I2,hz64]
 refine j9 (fun t:Nat × S8=>⟨[(0,.ptr 0 0 0 1),(4,.ptr 99 0 0 1),(5,.ptr 131 0 0 1),(6,.ptr 323 0 0 1),(19,.d (.int .i64 t.1))],
   [(323,⟨185,8,[I2 t.2]⟩),(131,⟨219,64,[cw K]⟩),(99,⟨219,64,[cw ws]⟩),(0,⟨ty,e,[I2 s ++ tail]⟩),(1,⟨5,1,rb L⟩)],419⟩)
  (fun t=>t.1≤64∧Vz rdp t.1 (K.zip ws) t.2=R) (fun t=>64 - t.1) (0,s) ⟨aa,hR⟩ (by
   simp [m7,c6,fv,lk,AV.low,AV.low1,I2]
   exact ⟨F5 _ _,F5 _ _,fun v hv=>htail _ v hv,s7 _ _⟩) ?_
 clear hR;rintro ⟨t,v⟩ ⟨ht,hR⟩;simp only at ht hR;simp only [go_sem,Nat.reduceEqDiff,Nat.reduceAdd,Nat.reduceLT,↓reduceIte];refine ⟨fun h=>?_,fun h=>?_⟩
 ·obtain ⟨k,hk,_⟩:=t5 (l:=K) (k:=t) (by rw [Zi];omega);obtain ⟨w,hw,_⟩:=t5 (l:=ws) (k:=t) aa;have hz:(K.zip ws)[t]?=some (k,w):=by rw [List.getElem?_zip_eq_some];exact ⟨hk,hw⟩
  rw [Xg rdp hz] at hR;simp only [go_sem,Nat.reduceEqDiff,Nat.reduceAdd,Nat.reduceLT,↓reduceIte,I2];simp [go_sem];refine B7 [0,1,2,4,7,11,12,13,14,15,16,17,18,19,20,22,23,24,26,27,28] [(3,[]),(5,[6]),(8,[9,10,21,25,29,30])] 3 (k:=31) ?_;intro G hG;simp [go_sem,U9,hk,hw,J7,O8,aqw,aqt,J0];refine ⟨aa,?_⟩;refine a9 (Q9 v.e 26 (-6) (by decide) aa) ae ?_;simp [go_sem,J7,O8,J0];refine a9 (Q9 v.e 21 (-11) (by decide) aa) ae ?_;simp [go_sem,J7,O8,J0];refine a9 (Q9 v.e 7 (-25) (by decide) aa) ae ?_;simp [go_sem,J7,O8,J0];have hT1:Sc (Sc (Sc (Sc v.h (Su (Su (VE 26 v.e) (VE 21 v.e)) (VE 7 v.e))) (Su (n32 v.e v.f) (n32 (c32 v.e) v.g))) k) w=T1 v k w:=by unfold T1;with_reducible rfl
  rw [hT1];refine hG _ _ ?_;clear hG G;simp [go_sem];refine B7 [0,2,5,8,9,10,11,12,13,14,15,16,17,18,19,20,21,22] [(1,[]),(3,[4]),(6,[7,23,24])] 3 (k:=25) ?_;intro G hG;simp [go_sem,J7,O8,J0];refine a9 (Q9 v.a 30 (-2) (by decide) aa) ae ?_;simp [go_sem,J7,O8,J0];refine a9 (Q9 v.a 19 (-13) (by decide) aa) ae ?_;simp [go_sem,J7,O8,J0];refine a9 (Q9 v.a 10 (-22) (by decide) aa) ae ?_;simp [go_sem,J7,O8,J0];have hT2:Sc (Su (Su (VE 30 v.a) (VE 19 v.a)) (VE 10 v.a)) (Su (Su (n32 v.a v.b) (n32 v.a v.c)) (n32 v.b v.c))=T2 v:=by unfold T2;with_reducible rfl
  rw [hT2];refine hG _ _ ?_;clear hG G;have w3:=j6 (k:=t) aa;simp [go_sem,J0,UB,w3];refine c8 (t+1,rdp v (k,w)) ⟨by simp only;omega,hR⟩ (by simp only;omega) ?_;simp [m7,c6,fv,lk,AV.low,AV.low1,I2,rdp,rd];exact ⟨F5 _ _,F5 _ _,fun v hv=>htail _ v hv,s7 _ _⟩
 ·have ht64:t=64:=aa;subst ht64;rw [YJ rdp aa] at hR;subst hR
  refine j9 (fun i:Nat=>⟨[(0,.ptr 0 0 0 1),(6,.ptr 323 0 0 1),(101,.d (.int .i64 i))],[(323,⟨185,8,[cw v.l]⟩),(0,⟨ty,e,[cw (Se s v i) ++ tail]⟩),(1,⟨5,1,rb L⟩)],483⟩)
   (fun i=>i≤8) (fun i=>8 - i) 0 aa (by
    simp [m7,c6,fv,lk,AV.low,AV.low1,abV,YK];refine ⟨F5 _ _,fun v hv=>?_,s7 _ _⟩;rcases hv with hv | hv
    ·exact F5 _ _ v hv
    ·exact htail _ v hv) ?_
  intro i hi;simp only [go_sem,Nat.reduceEqDiff,Nat.reduceAdd,Nat.reduceLT,↓reduceIte];refine ⟨fun h=>?_,fun h=>?_⟩
  ·obtain ⟨x,y,hy,hx,hset⟩:=abW s v (i:=i) aa;have hml:=aeF s v hi;refine B7 [0,1,2,3,4,5,6,7,8,9,10] [(11,[])] 0 (k:=12) ?_;intro G hG;have hs2:=ahI (l:=Se s v i) (tail:=tail) (i:=i) (x:=Sc x y) aa;rw [hset] at hs2;simp [go_sem,ahH hx,U9,hy,J0,hs2,hml];refine ⟨aa,aa,hG _ _ ?_⟩;have w3:=j6 (k:=i) aa;simp [go_sem,w3];refine c8 (i+1) aa aa ?_;simp [m7,c6,fv,lk,AV.low,AV.low1];refine ⟨F5 _ _,fun v hv=>?_,s7 _ _⟩;rcases hv with hv | hv
   ·exact F5 _ _ v hv
   ·exact htail _ v hv
  ·have hi8:i=8:=aa;subst hi8;simp [go_sem,d7,aeG,YK];simp [cw,S8.l]
theorem Xh:I1 Tryz.prog 117 0 [] [] (fun r hp'=>r=.ptr 97 0 0 1∧lk 97 hp'=some ⟨188,10,[I2 H0 ++ [.nil,.d (.int .u64 0)]]⟩):=by
 refine C6 Tryz.func117 (by kernel_rfl) rfl Tryz.ntmps117 (rs:=[.tmp 0]) rfl (Ut rfl) (by decide) ?_;simp only [go_sem,Nat.reduceEqDiff,Nat.reduceAdd,Nat.reduceLT,↓reduceIte,Nat.reduceMul];refine a9 ajd ae ?_;simp [go_sem,d7,UB,SZ,← YK,I2]
theorem Wz {β:Type} (f:β→List DV) (b:List β) {P:Program} {el:TypeId} {e:Nat} {es:List (List DV)} {nx:Nat} {Kk:AV→Hp→Prop} {hp:Hp}:O7 P el (.d (.rof e es)) (some (List.map ((fun r=>List.map AV.d r) ∘ f) b)) nx Kk hp=(e=P.cellsOf el∧(O6 P el).isSome=true∧P.bytesOf el ≠ 0∧(es.length+b.length)*P.bytesOf el≤140737488355328∧acY (Kk (.d (.ro e (es ++ b.map f))) hp) (b.map f ≠ []∧Kk (.own nx 0 (es.length+b.length) (es.length+b.length)) ((nx,⟨el,P.cellsOf el,es.map (fun r=>r.map AV.d) ++ List.map ((fun r=>List.map AV.d r) ∘ f) b⟩) :: hp))):=by
 have:=aey (P:=P) (K:=Kk) (hp:=hp) (nx:=nx) el e es (b.map f);rw [List.map_map,List.length_map] at this;exact this
theorem Uu {α β:Type} (f:α→β) (l:List α):(l.map f).take l.length=l.map f:=by
 rw [aq ab]
theorem eat_none (k:Nat) (s:S8) (b:List Nat) (h:b.length<64):Zh k s b=(s,b):=by
 cases k with
 | zero=>rfl
 | succ k=>simp [Zh];omega
theorem eat_more {k:Nat} {s:S8} {b:List Nat} (h:64≤b.length) (hk:b.length≤k):Zh k s b=Zh (k - 1) (Go.Sha.take s (b.take 64)) (b.drop 64):=by
 obtain ⟨j,rfl⟩:∃ j,k=j+1:=⟨k - 1,aa⟩;rw [Zh,if_pos h];rfl
theorem als (s:S8) (R:AV) (rest b:List Nat) (n:Int) (hR:R=.d (nb rest) ∨ (R=.nil∧rest=[])) (hl:rest.length+b.length≤1000000000000) :
  I1 Tryz.prog 118 1 [(0,⟨188,10,[I2 s ++ [R,.d (.int .u64 n)]]⟩)] [.ptr 0 0 0 1,.d (nb b)]
   (fun r hp'=>r=.tup []∧lk 0 hp'=some ⟨188,10,[I2 (Zh ((rest ++ b).length) s (rest ++ b)).1 ++ [.d (nb (Zh ((rest ++ b).length) s (rest ++ b)).2),.d (.int .u64 (IntKind.u64.wrap (n+(IntKind.u64.wrap (b.length:Int)))))]]⟩):=by
 refine C6 Tryz.func118 (by kernel_rfl) rfl Tryz.ntmps118 (rs:=[]) rfl (Ut rfl) (by decide) ?_;generalize hn':IntKind.u64.wrap (n+(IntKind.u64.wrap (b.length:Int)))=n';generalize hE0:Zh ((rest ++ b).length) s (rest ++ b)=E;rcases hR with rfl | ⟨rfl,rfl⟩
 ·simp [go_sem,nb,I2,hn'];refine B7 [0,1,2,3,4,5,6,7,8,9,10,11,12,13,14,15,16] [(17,[18,19]),(20,[])] 1 (k:=21) ?_;intro G hG;simp [go_sem,Uu,Wz];refine ⟨by have:=hl;simp only [aj,List.length_nil] at *;omega,.inl (hG _ _ ?_)⟩;clear hG G
  refine j9 (fun t:S8 × List Nat=>⟨[(0,.ptr 0 0 0 1)],[(0,⟨188,10,[I2 t.1 ++ [.d (nb t.2),.d (.int .u64 n')]]⟩)],1090⟩)
   (fun t=>t.2.length≤1000000000000∧∃ k,t.2.length≤k∧Zh k t.1 t.2=E) (fun t=>t.2.length) (s,rest ++ b) ⟨by have:=hl;simp only [aj,List.length_nil] at *;omega,_,av _,hE0⟩ (by
    simp [m7,c6,fv,lk,AV.low,AV.low1,nb,I2]) ?_
  rintro ⟨s1,q⟩ ⟨hq,k,hk,hE⟩;simp only at hq hk hE;simp only [go_sem,Nat.reduceEqDiff,Nat.reduceAdd,Nat.reduceLT,↓reduceIte,I2,nb,List.length_map];refine ⟨fun h=>?_,fun h=>?_⟩
  ·have h64:64≤q.length:=aa;rw [eat_more h64 hk] at hE;refine B7 [0,1,2,3,4,5,6,7] [(8,[])] 0 (k:=9) ?_;intro G hG;simp [go_sem];refine ⟨aa,?_⟩;refine A3 [(0,0)] (ZI 188 10 s1 [.d (nb q),.d (.int .u64 n')] (q.take 64) (by simp;omega) (by simp [AV.low1])) rfl ab (by simp [lk]) (by simp [lk,Blk.ren,x7,AV.renL,AV.ren,D9,Tg,I2,nb]) (by simp [AV.renL,AV.ren,D9,Tg,lk,nb,List.map_take]) ?_;rintro r hp' ⟨rfl,h0⟩;refine ⟨[],rfl,?_⟩;simp [go_sem,D8,C8,h0,Blk.ren,x7,AV.renL,AV.ren,D9,I2];refine hG _ _ ?_;clear hG G;simp [go_sem,nb];refine ⟨aa,?_⟩;refine c8 (Go.Sha.take s1 (q.take 64),q.drop 64) ⟨by simp only [aG];omega,k - 1,by simp only [aG];omega,hE⟩ (by simp only [aG];omega) ?_;simp [m7,c6,fv,lk,AV.low,AV.low1,nb,I2,List.map_drop,Uu]
  ·rw [eat_none k s1 q aa] at hE;subst hE;rfl
 ·simp [go_sem,nb,I2,hn'];refine B7 [0,1,2,3,4,5,6,7,8,9,10,11,12,13,14,15,16] [(17,[18,19]),(20,[])] 1 (k:=21) ?_;intro G hG;simp [go_sem,Uu,Wz];refine ⟨by have:=hl;simp only [aj,List.length_nil] at *;omega,.inl (hG _ _ ?_)⟩;clear hG G
  refine j9 (fun t:S8 × List Nat=>⟨[(0,.ptr 0 0 0 1)],[(0,⟨188,10,[I2 t.1 ++ [.d (nb t.2),.d (.int .u64 n')]]⟩)],1090⟩)
   (fun t=>t.2.length≤1000000000000∧∃ k,t.2.length≤k∧Zh k t.1 t.2=E) (fun t=>t.2.length) (s,[] ++ b) ⟨by have:=hl;simp only [aj,List.length_nil] at *;omega,_,av _,hE0⟩ (by
    simp [m7,c6,fv,lk,AV.low,AV.low1,nb,I2]) ?_
  rintro ⟨s1,q⟩ ⟨hq,k,hk,hE⟩;simp only at hq hk hE;simp only [go_sem,Nat.reduceEqDiff,Nat.reduceAdd,Nat.reduceLT,↓reduceIte,I2,nb,List.length_map];refine ⟨fun h=>?_,fun h=>?_⟩
  ·have h64:64≤q.length:=aa;rw [eat_more h64 hk] at hE;refine B7 [0,1,2,3,4,5,6,7] [(8,[])] 0 (k:=9) ?_;intro G hG;simp [go_sem];refine ⟨aa,?_⟩;refine A3 [(0,0)] (ZI 188 10 s1 [.d (nb q),.d (.int .u64 n')] (q.take 64) (by simp;omega) (by simp [AV.low1])) rfl ab (by simp [lk]) (by simp [lk,Blk.ren,x7,AV.renL,AV.ren,D9,Tg,I2,nb]) (by simp [AV.renL,AV.ren,D9,Tg,lk,nb,List.map_take]) ?_;rintro r hp' ⟨rfl,h0⟩;refine ⟨[],rfl,?_⟩;simp [go_sem,D8,C8,h0,Blk.ren,x7,AV.renL,AV.ren,D9,I2];refine hG _ _ ?_;clear hG G;simp [go_sem,nb];refine ⟨aa,?_⟩;refine c8 (Go.Sha.take s1 (q.take 64),q.drop 64) ⟨by simp only [aG];omega,k - 1,by simp only [aG];omega,hE⟩ (by simp only [aG];omega) ?_;simp [m7,c6,fv,lk,AV.low,AV.low1,nb,I2,List.map_drop,Uu]
  ·rw [eat_none k s1 q aa] at hE;subst hE;rfl
def padTo:Nat→List Nat→List Nat
 | 0,l=>l
 | n+1,l=>if l.length % 64=56 then l else padTo n (l ++ [0])
theorem Xi {k:Nat} {l:List Nat} (h:l.length % 64 ≠ 56) (hk:0<k):padTo k l=padTo (k - 1) (l ++ [0]):=by
 obtain ⟨j,rfl⟩:∃ j,k=j+1:=⟨k - 1,aa⟩;rw [padTo,if_neg h];rfl
theorem YL {k:Nat} {l:List Nat} (h:l.length % 64=56):padTo k l=l:=by
 cases k with
 | zero=>rfl
 | succ k=>rw [padTo,if_pos h]
theorem RI (a b:List Nat):rb a ++ rb b=rb (a ++ b):=by simp [rb]
theorem N1 (a:List Nat) (x:Nat):rb a ++ [[AV.d (.int .u8 (x:Int))]]=rb (a ++ [x]):=by simp [rb]
theorem Xj (a:List Nat):rb a ++ [[AV.d (.int .u8 128)]]=rb (a ++ [128]):=by simp [rb]
theorem aap (a:List Nat):rb a ++ [[AV.d (.int .u8 0)]]=rb (a ++ [0]):=by simp [rb]
theorem E6 (a:List Nat):List.map ((fun r=>List.map AV.d r) ∘ fun (x:Nat)=>[DV.int .u8 (x:Int)]) a=rb a:=by simp [rb]
def len8 (m:Nat):Nat→List Nat
 | 0=>[]
 | j+1=>len8 m j ++ [t8 (I7 (56 - 8*j) m)]
theorem len8_len (m:Nat):∀ j,(len8 m j).length=j
 | 0=>rfl
 | j+1=>by simp [len8,len8_len m j]
def lastOf (rest:List Nat) (n:Nat):List Nat:=padTo 64 (rest ++ [128]) ++ len8 (n*8 % 18446744073709551616) 8
theorem alu (n:Nat):IntKind.u64.wrap ((n:Int)*8)=((n*8 % 18446744073709551616:Nat):Int):=by rw [L0];omega
theorem agp (n:Nat):Int.tmod (n:Int) 64=((n % 64:Nat):Int):=by
 have:=Int.ofNat_tmod n 64
 simpa using this.symm
theorem alv (s:S8) (a b:AV) (ha:∀ n,a.low1 n) (hb:∀ n,b.low1 n) (n:Nat):∀ v,v ∈ I2 s ++ [a,b]→v.low1 n:=by
 intro v hv;rcases au.1 hv with h | h
 ·exact F5 n s.l v h
 ·simp only [aF,List.mem_nil_iff,or_false] at h;rcases h with rfl | rfl
  ·exact ha n
  ·exact hb n
theorem Sv (s:S8) (a b:AV) (ha:∀ n,a.low1 n) (hb:∀ n,b.low1 n) (n:Nat):∀ v,v ∈ I2 s ∨ v=a ∨ v=b→v.low1 n:=by
 intro v hv;refine alv s a b ha hb n v ?_
 simpa using hv
theorem RA (s:S8) (n:Nat):∀ v,v ∈ I2 s→v.low1 n:=F5 n s.l
theorem ahK (ρ:Nat→Nat) (s:S8):AV.renL ρ (I2 s)=I2 s:=alq ρ s.l
theorem C7 (ρ:Nat→Nat) (L:List Nat):List.map (AV.renL ρ) (rb L)=rb L:=by
 simp [rb,AV.renL,AV.ren]
def Sf (w:List Nat):List Nat:=w ++ List.replicate (32 - w.length) 0
theorem abX {w:List Nat} (h:w.length≤32):(Sf w).length=32:=by simp [Sf];omega
theorem abY {w:List Nat} {x:Nat} (h:w.length<32):(Sf w).set w.length x=Sf (w ++ [x]):=by
 unfold Sf;rw [List.set_append_right _ _ (av _),Nat.sub_self];obtain ⟨k,hk⟩:∃ k,32 - w.length=k+1:=⟨31 - w.length,aa⟩;rw [hk,List.replicate_succ,List.set_cons_zero,ar];simp only [aj,List.length_singleton,List.singleton_append];rw [show 32 - (w.length+1)=k by omega]
theorem aaq {w:List Nat} (h:w.length=32):Sf w=w:=by unfold Sf;rw [h];simp
theorem auH (s:S8):List.take 8 (I2 s)=I2 s:=rfl
theorem ahL (s:S8) {i:Nat} (h:i<8):(I2 s)[i]?=some (.d (.int .u32 ((s.l.getD i 0:Nat):Int))):=by
 rw [YK,U9,aw];have:i<s.l.length:=h;rw [am this];rfl
theorem hd9 (s:S8) (a b:AV):(List.drop 9 (I2 s ++ [a,b])).head?=some b:=rfl
theorem tk8 (s:S8) (a b:AV):List.take 8 (I2 s ++ [a,b])=I2 s:=rfl
theorem ZJ (s:S8):(I2 s).length=8:=rfl
theorem agq (s:S8) (R:AV) (rest:List Nat) (n:Nat) (hR:R=.d (nb rest) ∨ (R=.nil∧rest=[])) (hl:rest.length≤1000000000000) :
  I1 Tryz.prog 119 1 [(0,⟨188,10,[I2 s ++ [R,.d (.int .u64 (n:Int))]]⟩)] [.ptr 0 0 0 1]
   (fun r hp'=>r=.agg (cb (dig (Zh (lastOf rest n).length s (lastOf rest n)).1))∧lk 0 hp'=some ⟨188,10,[I2 s ++ [R,.d (.int .u64 (n:Int))]]⟩):=by
 refine C6 Tryz.func119 (by kernel_rfl) rfl Tryz.ntmps119 (rs:=[.cell 2 23]) rfl (Ut rfl) (by decide) ?_;rcases hR with rfl | ⟨rfl,rfl⟩
 ·simp [go_sem,nb,I2,E6,Xj,o6];refine ⟨aa,aa,?_⟩
  refine j9 (fun l:List Nat=>⟨[(0,.ptr 0 0 0 1),(2,.ptr 2 0 0 1),(3,.own 98 0 l.length l.length)],[(98,⟨5,1,rb l⟩),(2,⟨23,32,[cb z32]⟩),(0,⟨188,10,[I2 s ++ [.d (nb rest),.d (.int .u64 (n:Int))]]⟩)],450⟩)
   (fun l=>l.length≤1000000000000+65∧∃ k,(120 - l.length % 64) % 64≤k∧(k+l.length≤1000000000000+65)∧padTo k l=padTo 64 (rest ++ [128])) (fun l=>(120 - l.length % 64) % 64) (rest ++ [128]) ⟨by have:=hl;simp only [aj,List.length_nil,List.length_singleton] at *;omega,64,aa,by have:=hl;simp only [aj,List.length_nil,List.length_singleton] at *;omega,rfl⟩ (by
    simp [m7,c6,fv,lk,AV.low,AV.low1,nb,I2]
    exact ⟨s7 _ _,o5 _ _⟩) ?_
  rintro l ⟨hl1,k,hk,hk2,hP⟩;have em:Int.tmod (l.length:Int) 64=((l.length % 64:Nat):Int):=agp _;simp only [go_sem,Nat.reduceEqDiff,Nat.reduceAdd,Nat.reduceLT,↓reduceIte,em];refine ⟨by decide,fun h=>?_,fun h=>?_⟩
  ·have h56:l.length % 64 ≠ 56:=aa;rw [Xi h56 aa] at hP;refine ⟨by decide,o6 l,aa,?_⟩;rw [aap];refine c8 (l ++ [0]) ⟨by simp only [aj,List.length_singleton];omega,k - 1,by simp only [aj,List.length_singleton];omega,by simp only [aj,List.length_singleton];omega,hP⟩ (by simp only [aj,List.length_singleton];omega) ?_;simp [m7,c6,fv,lk,AV.low,AV.low1];exact ⟨s7 _ _,o5 _ _,Sv s (.d (nb rest)) (.d (.int .u64 n)) (fun _=>trivial) (fun _=>trivial) _⟩
  ·have h56:l.length % 64=56:=aa;rw [YL h56] at hP;simp only [go_sem,Nat.reduceEqDiff,Nat.reduceAdd,Nat.reduceLT,↓reduceIte,hd9,alu];have hm:lastOf rest n=l ++ len8 (n*8 % 18446744073709551616) 8:=by unfold lastOf;rw [← hP]
   generalize n*8 % 18446744073709551616=m at hm;generalize lastOf rest n=L at hm;clear hP hk hk2 hl
   refine j9 (fun j:Nat=>⟨[(0,.ptr 0 0 0 1),(2,.ptr 2 0 0 1),(3,.own 98 0 (l ++ len8 m j).length (l ++ len8 m j).length),(4,.d (.int .u64 (m:Int))),(5,.d (.int .i64 (56 - 8*(j:Int))))],[(98,⟨5,1,rb (l ++ len8 m j)⟩),(2,⟨23,32,[cb z32]⟩),(0,⟨188,10,[I2 s ++ [.d (nb rest),.d (.int .u64 (n:Int))]]⟩)],642⟩)
    (fun j=>j≤8) (fun j=>8 - j) 0 aa (by
     simp [m7,c6,fv,lk,AV.low,AV.low1,len8]
     exact ⟨s7 _ _,o5 _ _,Sv s (.d (nb rest)) (.d (.int .u64 n)) (fun _=>trivial) (fun _=>trivial) _⟩) ?_
   intro j hj;have hll:(l ++ len8 m j).length=l.length+j:=by rw [aj,len8_len]
   have e8:(56:Int) - 8*(j:Int) - 8=56 - 8*((j+1:Nat):Int):=aa;have w8:IntKind.i64.wrap (56 - 8*(j:Int) - 8)=56 - 8*((j+1:Nat):Int):=by rw [IntWalk.i64_in _ aa];omega
   simp only [go_sem,Nat.reduceEqDiff,Nat.reduceAdd,Nat.reduceLT,↓reduceIte];refine ⟨fun h=>?_,fun h=>?_⟩
   ·have hj7:j≤7:=aa
    have eb:IntKind.u8.wrap (Int.fdiv (m:Int) (2 ^ (min (56 - 8*(j:Int)).toNat 64)))=((t8 (I7 (56 - 8*j) m):Nat):Int):=by
     rw [show min (56 - 8*(j:Int)).toNat 64=56 - 8*j by omega,d_r,F7]
    have es:rb (l ++ len8 m j) ++ [[AV.d (.int .u8 ((t8 (I7 (56 - 8*j) m):Nat):Int))]]=rb (l ++ len8 m (j+1)):=by rw [N1,ar];rfl
    simp only [go_sem,Nat.reduceEqDiff,Nat.reduceAdd,Nat.reduceLT,↓reduceIte,IntKind.bits,eb,o6,es,w8];refine ⟨aa,by decide,by have:=len8_len m j;omega,?_⟩;refine c8 (j+1) aa aa ?_;have hl8:(len8 m (j+1)).length=(len8 m j).length+1:=by rw [len8_len,len8_len]
    simp [m7,c6,fv,lk,AV.low,AV.low1,hl8];exact ⟨aa,s7 _ _,o5 _ _,Sv s (.d (nb rest)) (.d (.int .u64 n)) (fun _=>trivial) (fun _=>trivial) _⟩
   ·have hj8:j=8:=aa;subst hj8;rw [← hm];have hL64:L.length % 64=0:=by rw [hm,aj,len8_len];omega
    have hLl:L.length≤2000000000000:=by rw [hm,aj,len8_len];omega
    have hLen:l.length+(len8 m 8).length=L.length:=by rw [hm,aj]
    clear hm hll e8 w8 h56 h em;simp [go_sem,tk8,ZJ,hLen];generalize hE0:Zh L.length s L=E
    refine j9 (fun t:Nat × S8=>⟨[(0,.ptr 0 0 0 1),(2,.ptr 2 0 0 1),(3,.own 98 (64*t.1) (L.length - 64*t.1) L.length),(6,.ptr 834 0 0 1)],[(834,⟨185,8,[I2 t.2]⟩),(98,⟨5,1,rb L⟩),(2,⟨23,32,[cb z32]⟩),(0,⟨188,10,[I2 s ++ [.d (nb rest),.d (.int .u64 (n:Int))]]⟩)],898⟩)
     (fun t=>64*t.1≤L.length∧∃ k,L.length - 64*t.1≤k∧Zh k t.2 (L.drop (64*t.1))=E) (fun t=>L.length - 64*t.1) (0,s) ⟨aa,L.length,aa,hE0⟩ (by
      simp [m7,c6,fv,lk,AV.low,AV.low1]
      exact ⟨RA _ _,s7 _ _,o5 _ _,Sv s (.d (nb rest)) (.d (.int .u64 n)) (fun _=>trivial) (fun _=>trivial) _⟩) ?_
    rintro ⟨j,s1⟩ ⟨hj64,k,hk,hE⟩;simp only at hj64 hk hE;have hdl:(L.drop (64*j)).length=L.length - 64*j:=aG;simp only [go_sem,Nat.reduceEqDiff,Nat.reduceAdd,Nat.reduceLT,↓reduceIte];refine ⟨fun h=>?_,fun h=>?_⟩
    ·have h64:64≤L.length - 64*j:=aa;rw [eat_more aa aa] at hE;simp [go_sem];refine ⟨aa,?_⟩;refine A3 [(0,834),(1,98)] (Zj 185 8 s1 [] L (64*j) aa ab) rfl ab (by simp [lk]) (by simp [lk,Blk.ren,x7,AV.renL,AV.ren,D9,Tg,I2,rb]) (by simp [AV.renL,AV.ren,D9,Tg,lk]) ?_;rintro r hp' ⟨rfl,h0,h1⟩;refine ⟨[],rfl,?_⟩;simp [go_sem,D8,C8,h0,h1,Blk.ren,x7,ahK,C7,AV.renL,AV.ren,D9];refine ⟨aa,?_⟩;refine c8 (j+1,Go.Sha.take s1 ((L.drop (64*j)).take 64)) ⟨by simp only;omega,k - 1,by simp only;omega,?_⟩ (by simp only;omega) ?_
     ·rw [List.drop_drop] at hE;exact hE
     ·simp [m7,c6,fv,lk,AV.low,AV.low1];exact ⟨⟨aa,aa⟩,RA _ _,s7 _ _,o5 _ _,Sv s (.d (nb rest)) (.d (.int .u64 n)) (fun _=>trivial) (fun _=>trivial) _⟩
    ·have hnil:L.drop (64*j)=[]:=az aa;rw [hnil,eat_none k s1 [] ab] at hE;have hs1:s1=E.1:=by rw [← hE]
     clear hE hE0 hdl hnil;simp [go_sem,ZJ]
     refine j9 (fun i:Nat=>⟨[(0,.ptr 0 0 0 1),(2,.ptr 2 0 0 1),(7,.ptr 994 0 0 1),(59,.agg (I2 s1)),(60,.d (.int .i64 i))],[(994,⟨23,32,[cb (Sf (pre s1.l i))]⟩),(2,⟨23,32,[cb z32]⟩),(0,⟨188,10,[I2 s ++ [.d (nb rest),.d (.int .u64 (n:Int))]]⟩)],1090⟩)
      (fun i=>i≤8) (fun i=>8 - i) 0 aa (by
       simp [m7,c6,fv,lk,AV.low,AV.low1,auH]
       exact ⟨RA _ _,⟨rfl,o5 _ _⟩,o5 _ _,Sv s (.d (nb rest)) (.d (.int .u64 n)) (fun _=>trivial) (fun _=>trivial) _⟩) ?_
     intro i hi;have hpl:=SO s1.l i;simp only [go_sem,Nat.reduceEqDiff,Nat.reduceAdd,Nat.reduceLT,↓reduceIte];refine ⟨fun h2=>?_,fun h2=>?_⟩
     ·have hg:=ahL s1 (i:=i) aa;have hpre:pre s1.l (i+1)=pre s1.l i ++ wbk (s1.l.getD i 0) 4:=rfl;generalize s1.l.getD i 0=x at hg hpre;simp [go_sem,hg];refine ⟨aa,?_⟩
      refine j9 (fun k:Nat=>⟨[(0,.ptr 0 0 0 1),(2,.ptr 2 0 0 1),(7,.ptr 994 0 0 1),(59,.agg (I2 s1)),(60,.d (.int .i64 i)),(8,.d (.int .i64 i)),(9,.d (.int .u32 (x:Int))),(64,.d (.int .i64 k))],[(994,⟨23,32,[cb (Sf (pre s1.l i ++ wbk x k))]⟩),(2,⟨23,32,[cb z32]⟩),(0,⟨188,10,[I2 s ++ [.d (nb rest),.d (.int .u64 (n:Int))]]⟩)],1300⟩)
       (fun k=>k≤4) (fun k=>4 - k) 0 aa (by
        simp [m7,c6,fv,lk,AV.low,AV.low1,wbk]
        exact ⟨RA _ _,o5 _ _,o5 _ _,Sv s (.d (nb rest)) (.d (.int .u64 n)) (fun _=>trivial) (fun _=>trivial) _⟩) ?_
      intro k hk4;have hkl:=ZH x k;simp only [go_sem,Nat.reduceEqDiff,Nat.reduceAdd,Nat.reduceLT,↓reduceIte];refine ⟨fun h3=>?_,fun h3=>?_⟩
      ·have w1:IntKind.i64.wrap (4*(i:Int))=((4*i:Nat):Int):=by rw [IntWalk.i64_in _ aa];omega
       have w2:IntKind.i64.wrap (((4*i:Nat):Int)+(k:Int))=((4*i+k:Nat):Int):=by rw [IntWalk.i64_in _ aa];omega
       have w3:IntKind.i64.wrap (8*(k:Int))=((8*k:Nat):Int):=by rw [IntWalk.i64_in _ aa];omega
       have w4:IntKind.i64.wrap (24 - ((8*k:Nat):Int))=((24 - 8*k:Nat):Int):=by rw [IntWalk.i64_in _ aa];omega
       have w5:=j6 (k:=k) aa
       have eb:IntKind.u8.wrap (Int.fdiv (x:Int) (2 ^ (min (24 - 8*k) 32)))=((t8 (I7 (24 - 8*k) x):Nat):Int):=by
        rw [show min (24 - 8*k) 32=24 - 8*k by omega,d_r,F7]
       have hset:(Sf (pre s1.l i ++ wbk x k)).set (4*i+k) (t8 (I7 (24 - 8*k) x))=Sf (pre s1.l i ++ wbk x (k+1)):=by
        have h:=abY (w:=pre s1.l i ++ wbk x k) (x:=t8 (I7 (24 - 8*k) x)) (by rw [aj];omega);rw [aj,hpl,hkl,ar] at h;exact h
       have hrl:(Sf (pre s1.l i ++ wbk x k)).length=32:=abX (by rw [aj];omega);simp only [go_sem,Nat.reduceEqDiff,Nat.reduceAdd,Nat.reduceLT,↓reduceIte,w1,w2,w3,w4,IntKind.bits,Int.toNat_natCast,eb,Nat.mul_one,aan,hset,hrl,w5];refine ⟨aa,aa,?_⟩;refine c8 (k+1) aa aa ?_;simp [m7,c6,fv,lk,AV.low,AV.low1];exact ⟨RA _ _,o5 _ _,o5 _ _,Sv s (.d (nb rest)) (.d (.int .u64 n)) (fun _=>trivial) (fun _=>trivial) _⟩
      ·have hk4':k=4:=aa;subst hk4';rw [← hpre];have w5:=j6 (k:=i) aa;simp only [go_sem,Nat.reduceEqDiff,Nat.reduceAdd,Nat.reduceLT,↓reduceIte,w5];refine c8 (i+1) aa aa ?_;simp [m7,c6,fv,lk,AV.low,AV.low1];exact ⟨RA _ _,o5 _ _,o5 _ _,Sv s (.d (nb rest)) (.d (.int .u64 n)) (fun _=>trivial) (fun _=>trivial) _⟩
     ·have hi8:i=8:=aa;subst hi8;have hfull:Sf (pre s1.l 8)=dig s1:=aaq hpl;rw [hfull,hs1];have hdl2:(dig E.1).length=32:=SO _ 8;have htk:List.take 32 (cb (dig E.1))=cb (dig E.1):=aq (by rw [d0];omega);simp [go_sem,d7,hdl2,htk];rfl
 ·simp [go_sem,nb,I2,E6,Xj,o6]
  refine j9 (fun l:List Nat=>⟨[(0,.ptr 0 0 0 1),(2,.ptr 2 0 0 1),(3,.own 98 0 l.length l.length)],[(98,⟨5,1,rb l⟩),(2,⟨23,32,[cb z32]⟩),(0,⟨188,10,[I2 s ++ [.nil,.d (.int .u64 (n:Int))]]⟩)],450⟩)
   (fun l=>l.length≤1000000000000+65∧∃ k,(120 - l.length % 64) % 64≤k∧(k+l.length≤1000000000000+65)∧padTo k l=padTo 64 ([] ++ [128])) (fun l=>(120 - l.length % 64) % 64) ([] ++ [128]) ⟨by have:=hl;simp only [aj,List.length_nil,List.length_singleton] at *;omega,64,aa,by have:=hl;simp only [aj,List.length_nil,List.length_singleton] at *;omega,rfl⟩ (by
    simp [m7,c6,fv,lk,AV.low,AV.low1,nb,I2]
    exact ⟨⟨rfl,s7 _ _⟩,o5 _ _⟩) ?_
  rintro l ⟨hl1,k,hk,hk2,hP⟩;have em:Int.tmod (l.length:Int) 64=((l.length % 64:Nat):Int):=agp _;simp only [go_sem,Nat.reduceEqDiff,Nat.reduceAdd,Nat.reduceLT,↓reduceIte,em];refine ⟨by decide,fun h=>?_,fun h=>?_⟩
  ·have h56:l.length % 64 ≠ 56:=aa;rw [Xi h56 aa] at hP;refine ⟨by decide,o6 l,aa,?_⟩;rw [aap];refine c8 (l ++ [0]) ⟨by simp only [aj,List.length_singleton];omega,k - 1,by simp only [aj,List.length_singleton];omega,by simp only [aj,List.length_singleton];omega,hP⟩ (by simp only [aj,List.length_singleton];omega) ?_;simp [m7,c6,fv,lk,AV.low,AV.low1];exact ⟨s7 _ _,o5 _ _,Sv s (.nil) (.d (.int .u64 n)) (fun _=>trivial) (fun _=>trivial) _⟩
  ·have h56:l.length % 64=56:=aa;rw [YL h56] at hP;simp only [go_sem,Nat.reduceEqDiff,Nat.reduceAdd,Nat.reduceLT,↓reduceIte,hd9,alu];have hm:lastOf [] n=l ++ len8 (n*8 % 18446744073709551616) 8:=by unfold lastOf;rw [← hP]
   generalize n*8 % 18446744073709551616=m at hm;generalize lastOf [] n=L at hm;clear hP hk hk2 hl
   refine j9 (fun j:Nat=>⟨[(0,.ptr 0 0 0 1),(2,.ptr 2 0 0 1),(3,.own 98 0 (l ++ len8 m j).length (l ++ len8 m j).length),(4,.d (.int .u64 (m:Int))),(5,.d (.int .i64 (56 - 8*(j:Int))))],[(98,⟨5,1,rb (l ++ len8 m j)⟩),(2,⟨23,32,[cb z32]⟩),(0,⟨188,10,[I2 s ++ [.nil,.d (.int .u64 (n:Int))]]⟩)],642⟩)
    (fun j=>j≤8) (fun j=>8 - j) 0 aa (by
     simp [m7,c6,fv,lk,AV.low,AV.low1,len8]
     exact ⟨s7 _ _,o5 _ _,Sv s (.nil) (.d (.int .u64 n)) (fun _=>trivial) (fun _=>trivial) _⟩) ?_
   intro j hj;have hll:(l ++ len8 m j).length=l.length+j:=by rw [aj,len8_len]
   have e8:(56:Int) - 8*(j:Int) - 8=56 - 8*((j+1:Nat):Int):=aa;have w8:IntKind.i64.wrap (56 - 8*(j:Int) - 8)=56 - 8*((j+1:Nat):Int):=by rw [IntWalk.i64_in _ aa];omega
   simp only [go_sem,Nat.reduceEqDiff,Nat.reduceAdd,Nat.reduceLT,↓reduceIte];refine ⟨fun h=>?_,fun h=>?_⟩
   ·have hj7:j≤7:=aa
    have eb:IntKind.u8.wrap (Int.fdiv (m:Int) (2 ^ (min (56 - 8*(j:Int)).toNat 64)))=((t8 (I7 (56 - 8*j) m):Nat):Int):=by
     rw [show min (56 - 8*(j:Int)).toNat 64=56 - 8*j by omega,d_r,F7]
    have es:rb (l ++ len8 m j) ++ [[AV.d (.int .u8 ((t8 (I7 (56 - 8*j) m):Nat):Int))]]=rb (l ++ len8 m (j+1)):=by rw [N1,ar];rfl
    simp only [go_sem,Nat.reduceEqDiff,Nat.reduceAdd,Nat.reduceLT,↓reduceIte,IntKind.bits,eb,o6,es,w8];refine ⟨aa,by decide,by have:=len8_len m j;omega,?_⟩;refine c8 (j+1) aa aa ?_;have hl8:(len8 m (j+1)).length=(len8 m j).length+1:=by rw [len8_len,len8_len]
    simp [m7,c6,fv,lk,AV.low,AV.low1,hl8];exact ⟨aa,s7 _ _,o5 _ _,Sv s (.nil) (.d (.int .u64 n)) (fun _=>trivial) (fun _=>trivial) _⟩
   ·have hj8:j=8:=aa;subst hj8;rw [← hm];have hL64:L.length % 64=0:=by rw [hm,aj,len8_len];omega
    have hLl:L.length≤2000000000000:=by rw [hm,aj,len8_len];omega
    have hLen:l.length+(len8 m 8).length=L.length:=by rw [hm,aj]
    clear hm hll e8 w8 h56 h em;simp [go_sem,tk8,ZJ,hLen];generalize hE0:Zh L.length s L=E
    refine j9 (fun t:Nat × S8=>⟨[(0,.ptr 0 0 0 1),(2,.ptr 2 0 0 1),(3,.own 98 (64*t.1) (L.length - 64*t.1) L.length),(6,.ptr 834 0 0 1)],[(834,⟨185,8,[I2 t.2]⟩),(98,⟨5,1,rb L⟩),(2,⟨23,32,[cb z32]⟩),(0,⟨188,10,[I2 s ++ [.nil,.d (.int .u64 (n:Int))]]⟩)],898⟩)
     (fun t=>64*t.1≤L.length∧∃ k,L.length - 64*t.1≤k∧Zh k t.2 (L.drop (64*t.1))=E) (fun t=>L.length - 64*t.1) (0,s) ⟨aa,L.length,aa,hE0⟩ (by
      simp [m7,c6,fv,lk,AV.low,AV.low1]
      exact ⟨RA _ _,s7 _ _,o5 _ _,Sv s (.nil) (.d (.int .u64 n)) (fun _=>trivial) (fun _=>trivial) _⟩) ?_
    rintro ⟨j,s1⟩ ⟨hj64,k,hk,hE⟩;simp only at hj64 hk hE;have hdl:(L.drop (64*j)).length=L.length - 64*j:=aG;simp only [go_sem,Nat.reduceEqDiff,Nat.reduceAdd,Nat.reduceLT,↓reduceIte];refine ⟨fun h=>?_,fun h=>?_⟩
    ·have h64:64≤L.length - 64*j:=aa;rw [eat_more aa aa] at hE;simp [go_sem];refine ⟨aa,?_⟩;refine A3 [(0,834),(1,98)] (Zj 185 8 s1 [] L (64*j) aa ab) rfl ab (by simp [lk]) (by simp [lk,Blk.ren,x7,AV.renL,AV.ren,D9,Tg,I2,rb]) (by simp [AV.renL,AV.ren,D9,Tg,lk]) ?_;rintro r hp' ⟨rfl,h0,h1⟩;refine ⟨[],rfl,?_⟩;simp [go_sem,D8,C8,h0,h1,Blk.ren,x7,ahK,C7,AV.renL,AV.ren,D9];refine ⟨aa,?_⟩;refine c8 (j+1,Go.Sha.take s1 ((L.drop (64*j)).take 64)) ⟨by simp only;omega,k - 1,by simp only;omega,?_⟩ (by simp only;omega) ?_
     ·rw [List.drop_drop] at hE;exact hE
     ·simp [m7,c6,fv,lk,AV.low,AV.low1];exact ⟨⟨aa,aa⟩,RA _ _,s7 _ _,o5 _ _,Sv s (.nil) (.d (.int .u64 n)) (fun _=>trivial) (fun _=>trivial) _⟩
    ·have hnil:L.drop (64*j)=[]:=az aa;rw [hnil,eat_none k s1 [] ab] at hE;have hs1:s1=E.1:=by rw [← hE]
     clear hE hE0 hdl hnil;simp [go_sem,ZJ]
     refine j9 (fun i:Nat=>⟨[(0,.ptr 0 0 0 1),(2,.ptr 2 0 0 1),(7,.ptr 994 0 0 1),(59,.agg (I2 s1)),(60,.d (.int .i64 i))],[(994,⟨23,32,[cb (Sf (pre s1.l i))]⟩),(2,⟨23,32,[cb z32]⟩),(0,⟨188,10,[I2 s ++ [.nil,.d (.int .u64 (n:Int))]]⟩)],1090⟩)
      (fun i=>i≤8) (fun i=>8 - i) 0 aa (by
       simp [m7,c6,fv,lk,AV.low,AV.low1,auH]
       exact ⟨RA _ _,⟨rfl,o5 _ _⟩,o5 _ _,Sv s (.nil) (.d (.int .u64 n)) (fun _=>trivial) (fun _=>trivial) _⟩) ?_
     intro i hi;have hpl:=SO s1.l i;simp only [go_sem,Nat.reduceEqDiff,Nat.reduceAdd,Nat.reduceLT,↓reduceIte];refine ⟨fun h2=>?_,fun h2=>?_⟩
     ·have hg:=ahL s1 (i:=i) aa;have hpre:pre s1.l (i+1)=pre s1.l i ++ wbk (s1.l.getD i 0) 4:=rfl;generalize s1.l.getD i 0=x at hg hpre;simp [go_sem,hg];refine ⟨aa,?_⟩
      refine j9 (fun k:Nat=>⟨[(0,.ptr 0 0 0 1),(2,.ptr 2 0 0 1),(7,.ptr 994 0 0 1),(59,.agg (I2 s1)),(60,.d (.int .i64 i)),(8,.d (.int .i64 i)),(9,.d (.int .u32 (x:Int))),(64,.d (.int .i64 k))],[(994,⟨23,32,[cb (Sf (pre s1.l i ++ wbk x k))]⟩),(2,⟨23,32,[cb z32]⟩),(0,⟨188,10,[I2 s ++ [.nil,.d (.int .u64 (n:Int))]]⟩)],1300⟩)
       (fun k=>k≤4) (fun k=>4 - k) 0 aa (by
        simp [m7,c6,fv,lk,AV.low,AV.low1,wbk]
        exact ⟨RA _ _,o5 _ _,o5 _ _,Sv s (.nil) (.d (.int .u64 n)) (fun _=>trivial) (fun _=>trivial) _⟩) ?_
      intro k hk4;have hkl:=ZH x k;simp only [go_sem,Nat.reduceEqDiff,Nat.reduceAdd,Nat.reduceLT,↓reduceIte];refine ⟨fun h3=>?_,fun h3=>?_⟩
      ·have w1:IntKind.i64.wrap (4*(i:Int))=((4*i:Nat):Int):=by rw [IntWalk.i64_in _ aa];omega
       have w2:IntKind.i64.wrap (((4*i:Nat):Int)+(k:Int))=((4*i+k:Nat):Int):=by rw [IntWalk.i64_in _ aa];omega
       have w3:IntKind.i64.wrap (8*(k:Int))=((8*k:Nat):Int):=by rw [IntWalk.i64_in _ aa];omega
       have w4:IntKind.i64.wrap (24 - ((8*k:Nat):Int))=((24 - 8*k:Nat):Int):=by rw [IntWalk.i64_in _ aa];omega
       have w5:=j6 (k:=k) aa
       have eb:IntKind.u8.wrap (Int.fdiv (x:Int) (2 ^ (min (24 - 8*k) 32)))=((t8 (I7 (24 - 8*k) x):Nat):Int):=by
        rw [show min (24 - 8*k) 32=24 - 8*k by omega,d_r,F7]
       have hset:(Sf (pre s1.l i ++ wbk x k)).set (4*i+k) (t8 (I7 (24 - 8*k) x))=Sf (pre s1.l i ++ wbk x (k+1)):=by
        have h:=abY (w:=pre s1.l i ++ wbk x k) (x:=t8 (I7 (24 - 8*k) x)) (by rw [aj];omega);rw [aj,hpl,hkl,ar] at h;exact h
       have hrl:(Sf (pre s1.l i ++ wbk x k)).length=32:=abX (by rw [aj];omega);simp only [go_sem,Nat.reduceEqDiff,Nat.reduceAdd,Nat.reduceLT,↓reduceIte,w1,w2,w3,w4,IntKind.bits,Int.toNat_natCast,eb,Nat.mul_one,aan,hset,hrl,w5];refine ⟨aa,aa,?_⟩;refine c8 (k+1) aa aa ?_;simp [m7,c6,fv,lk,AV.low,AV.low1];exact ⟨RA _ _,o5 _ _,o5 _ _,Sv s (.nil) (.d (.int .u64 n)) (fun _=>trivial) (fun _=>trivial) _⟩
      ·have hk4':k=4:=aa;subst hk4';rw [← hpre];have w5:=j6 (k:=i) aa;simp only [go_sem,Nat.reduceEqDiff,Nat.reduceAdd,Nat.reduceLT,↓reduceIte,w5];refine c8 (i+1) aa aa ?_;simp [m7,c6,fv,lk,AV.low,AV.low1];exact ⟨RA _ _,o5 _ _,o5 _ _,Sv s (.nil) (.d (.int .u64 n)) (fun _=>trivial) (fun _=>trivial) _⟩
     ·have hi8:i=8:=aa;subst hi8;have hfull:Sf (pre s1.l 8)=dig s1:=aaq hpl;rw [hfull,hs1];have hdl2:(dig E.1).length=32:=SO _ 8;have htk:List.take 32 (cb (dig E.1))=cb (dig E.1):=aq (by rw [d0];omega);simp [go_sem,d7,hdl2,htk];rfl
end Go.Proofs.YtldccnbokbieiaaGreat
namespace Go.Sha
theorem aeH:∀ (k j:Nat) (s:S8) (b:List Nat),b.length≤k→b.length≤j→Zh k s b=Zh j s b
 | 0,j,s,b,h,_=>by
  have hb:b.length<64:=aa;rw [Go.Proofs.YtldccnbokbieiaaGreat.eat_none 0 s b hb,Go.Proofs.YtldccnbokbieiaaGreat.eat_none j s b hb]
 | k+1,j,s,b,h,h2=>by
  by_cases h64:64≤b.length
  ·rw [Go.Proofs.YtldccnbokbieiaaGreat.eat_more h64 h,Go.Proofs.YtldccnbokbieiaaGreat.eat_more h64 h2];exact aeH k (j - 1) _ _ (by rw [aG];omega) (by rw [aG];omega)
  ·rw [Go.Proofs.YtldccnbokbieiaaGreat.eat_none _ s b aa,Go.Proofs.YtldccnbokbieiaaGreat.eat_none _ s b aa]
def E (s:S8) (b:List Nat):S8 × List Nat:=Zh b.length s b
theorem VU {s:S8} {b:List Nat} (h:b.length<64):E s b=(s,b):=Go.Proofs.YtldccnbokbieiaaGreat.eat_none _ s b h
theorem Xk {s:S8} {b:List Nat} (h:64≤b.length):E s b=E (Go.Sha.take s (b.take 64)) (b.drop 64):=by
 unfold E;rw [Go.Proofs.YtldccnbokbieiaaGreat.eat_more h (av _)];exact aeH _ _ _ _ (by rw [aG];omega) (av _)
theorem aeI (b:List Nat):∀ (n:Nat) (s:S8) (a:List Nat),a.length≤n→E s (a ++ b)=E (E s a).1 ((E s a).2 ++ b)
 | 0,s,a,h=>by rw [VU (b:=a) aa]
 | n+1,s,a,h=>by
  by_cases h64:64≤a.length
  ·rw [Xk (b:=a) h64,Xk (b:=a ++ b) (by rw [aj];omega)];rw [List.take_append_of_le_length h64,List.drop_append_of_le_length h64];exact aeI b n _ _ (by rw [aG];omega)
  ·rw [VU (b:=a) aa]
theorem aeJ:∀ (n:Nat) (s:S8) (a:List Nat),a.length≤n→(E s a).2.length≤a.length
 | 0,s,a,h=>by rw [VU aa];exact av _
 | n+1,s,a,h=>by
  by_cases h64:64≤a.length
  ·rw [Xk h64];have:=aeJ n (Go.Sha.take s (a.take 64)) (a.drop 64) (by rw [aG];omega);rw [aG] at this;omega
  ·rw [VU aa];exact av _
def YM (p:S8 × List Nat) (n:Nat):List Nat:=dig (E p.1 (Go.Proofs.YtldccnbokbieiaaGreat.lastOf p.2 n)).1
def z7 (b:List Nat):List Nat:=YM (E H0 b) b.length
def G9 (t b:List Nat):List Nat:=z7 (z7 t ++ (z7 t ++ b))
theorem s8 (b:List Nat):(z7 b).length=32:=SO _ 8
end Go.Sha
namespace Go.Proofs.YtldccnbokbieiaaGreat
open Go.Am Go.Sha
theorem wn (a b:Nat) (h:a+b<18446744073709551616):IntKind.u64.wrap ((a:Int)+IntKind.u64.wrap (b:Int))=((a+b:Nat):Int):=by rw [L0,L0];omega
theorem Sg (ρ:Nat→Nat) (b:List Nat):(AV.d (nb b)).ren ρ=.d (nb b):=rfl
theorem O5 (ρ:Nat→Nat):∀ l:List Nat,AV.renL ρ (cb l)=cb l
 | []=>by simp [cb,AV.renL]
 | x :: r=>by
  have:=O5 ρ r;simp only [cb] at this;simp only [cb,List.map_cons,AV.renL,AV.ren,this]
theorem d6 {l:List Nat} (h:l.length=32):List.take 32 (cb l)=cb l:=aq (by rw [d0];omega)
theorem s9:List.drop 32 (cb z32)=[]:=rfl
theorem RR (ρ:Nat→Nat) (s:S8) (a b:AV):AV.renL ρ (I2 s ++ [a,b])=I2 s ++ [a.ren ρ,b.ren ρ]:=by simp [I2,AV.renL,AV.ren]
theorem ase (s:S8) (R:AV) (rest b:List Nat) (n:Nat) (hR:R=.d (nb rest) ∨ (R=.nil∧rest=[])) (hl:rest.length+b.length≤1000000000000) (hn:n+b.length<18446744073709551616) :
  I1 Tryz.prog 118 1 [(0,⟨188,10,[I2 s ++ [R,.d (.int .u64 (n:Int))]]⟩)] [.ptr 0 0 0 1,.d (nb b)]
   (fun r hp'=>r=.tup []∧lk 0 hp'=some ⟨188,10,[I2 (E s (rest ++ b)).1 ++ [.d (nb (E s (rest ++ b)).2),.d (.int .u64 ((n+b.length:Nat):Int))]]⟩):=by
 have:=als s R rest b n hR hl;rw [wn n b.length hn] at this;exact this
theorem ajh (b:List Nat) (hb:b.length≤100000000000):m6 Tryz.prog 112 [.d (nb b)] (fun r=>r=.agg (cb (z7 b))):=by
 refine t6 Tryz.func112 Tryz.ntmps112 (rs:=[.cell 2 23]) ae ?_;simp only [go_sem,Nat.reduceEqDiff,Nat.reduceAdd,Nat.reduceLT,↓reduceIte,Nat.reduceMul];refine A3 [] Xh rfl ab ab ab (by simp [AV.renL]) ?_;rintro r hp' ⟨rfl,h0⟩;refine ⟨[(97,0)],rfl,?_⟩;simp [go_sem,D8,C8,h0,Blk.ren,x7,RR,AV.ren,D9];refine A3 [(0,32)] (ase H0 .nil [] b 0 (.inr ⟨rfl,rfl⟩) (by simp;omega) aa) rfl ab (by simp [lk]) (by simp [lk,Blk.ren,x7,RR,AV.ren,D9,Tg]) (by simp [AV.renL,AV.ren,D9,Tg,lk]) ?_;rintro r hp' ⟨rfl,h0⟩;refine ⟨[],rfl,?_⟩;simp [go_sem,D8,C8,h0,Blk.ren,x7,RR,Sg,AV.renL,AV.ren,D9];refine A3 [(0,32)] (agq (E H0 b).1 (.d (nb (E H0 b).2)) (E H0 b).2 b.length (.inl rfl) (by have:=aeJ _ H0 b (av _);omega)) rfl ab (by simp [lk]) (by simp [lk,Blk.ren,x7,RR,Sg,AV.ren,D9,Tg]) (by simp [AV.renL,AV.ren,D9,Tg,lk]) ?_;rintro r hp' ⟨rfl,h0⟩;refine ⟨[],rfl,?_⟩;have hf:dig (Zh (lastOf (E H0 b).2 b.length).length (E H0 b).1 (lastOf (E H0 b).2 b.length)).1=z7 b:=rfl;rw [hf] at *;simp [go_sem,D8,C8,h0,Blk.ren,x7,RR,Sg,O5,AV.ren,D9,d7,s8,d6 (s8 b),s9];exact b7 (by simp [AV.deep];exact r6 _) rfl
theorem Si {hp:Hp} {I:Nat→Prop} {id:Nat} {ty:TypeId} {l:List Nat} (hb:lk id hp=some ⟨ty,32,[cb l]⟩) (hI:I id) (hl:l.length=32):SnapD hp I (.sub id 0 0 1 32 32 1) (nb l):=by
 refine .sub (es:=l.map fun (x:Nat)=>[.int .u8 (x:Int)]) hI hb rfl rfl aa (by simp [hl]) (fun r hr=>by
  rw [List.mem_map] at hr;obtain ⟨c,_,rfl⟩:=hr
  rfl) fun k j c r y hc hr hy=>?_
 simp only [Nat.zero_add,Nat.mul_one,ay,Option.map_eq_some_iff] at hc hr;obtain ⟨x,hx,rfl⟩:=hr
 cases j with
 | succ j=>simp at hy
 | zero =>
  simp at hy;subst hy;rw [Nat.add_zero,ac6,hx] at hc;simp at hc;subst hc;exact .d _
theorem K4 {b:List Nat} (hb:b.length=32):(List.range 32).map (fun k=>((cb b).drop k).take 1)=List.map ((fun r=>List.map AV.d r) ∘ fun (x:Nat)=>[DV.int .u8 (x:Int)]) b:=by
 apply List.ext_getElem?;intro i;by_cases hi:i<32
 ·rw [ay,ay,List.getElem?_range hi,am (by omega:i<b.length)];have h:i<(cb b).length:=by rw [d0];omega
  have h1:(cb b)[i]?=some (.d (.int .u8 ((b[i]:Nat):Int))):=by rw [ac6,am (by omega:i<b.length)];rfl
  have h2:(cb b)[i]=.d (.int .u8 ((b[i]:Nat):Int)):=by
   rw [am h] at h1;exact Option.some.inj h1
  rw [Option.map_some,Option.map_some,List.drop_eq_getElem_cons h,h2];rfl
 ·rw [List.getElem?_eq_none (by simp;omega),List.getElem?_eq_none (by simp;omega)]
theorem XZ (ty:TypeId) (e:Nat) (row:List AV) (s:S8) (R:AV) (rest b:List Nat) (n:Int) (hx0:(List.range 32).map (fun k=>(row.drop k).take 1)=List.map ((fun r=>List.map AV.d r) ∘ fun (x:Nat)=>[DV.int .u8 (x:Int)]) b) (hlow:∀ n v,v ∈ row→v.low1 n) (hR:R=.d (nb rest) ∨ (R=.nil∧rest=[])) (hl:rest.length+b.length≤1000000000000) (hb32:b.length=32) :
  I1 Tryz.prog 118 2 [(0,⟨188,10,[I2 s ++ [R,.d (.int .u64 n)]]⟩),(1,⟨ty,e,[row]⟩)] [.ptr 0 0 0 1,.sub 1 0 0 1 32 32 1]
   (fun r hp'=>r=.tup []∧lk 0 hp'=some ⟨188,10,[I2 (Zh ((rest ++ b).length) s (rest ++ b)).1 ++ [.d (nb (Zh ((rest ++ b).length) s (rest ++ b)).2),.d (.int .u64 (IntKind.u64.wrap (n+(IntKind.u64.wrap (b.length:Int)))))]]⟩∧lk 1 hp'=some ⟨ty,e,[row]⟩):=by
 refine C6 Tryz.func118 (by kernel_rfl) rfl Tryz.ntmps118 (rs:=[]) rfl (Ut rfl) (by decide) ?_;rw [hb32];generalize hn':IntKind.u64.wrap (n+(IntKind.u64.wrap ((32:Nat):Int)))=n';generalize hE0:Zh ((rest ++ b).length) s (rest ++ b)=E;have hx:=hx0;generalize hX:List.map ((fun r=>List.map AV.d r) ∘ fun (x:Nat)=>[DV.int .u8 (x:Int)]) b=X at hx;simp [go_sem] at hx;have hn2:IntKind.u64.wrap (n+IntKind.u64.wrap 32)=n':=hn';rcases hR with rfl | ⟨rfl,rfl⟩
 ·simp [go_sem,nb,I2,hn2];refine B7 [0,1,2,3,4,5,6,7,8,9,10,11,12,13,14,15,16] [(17,[18,19]),(20,[])] 1 (k:=21) ?_;intro G hG;simp [go_sem,Uu,hx];rw [← hX,Wz];simp [go_sem,Uu];refine ⟨by have:=hl;simp only [aj,List.length_nil] at *;omega,.inl (hG _ _ ?_)⟩;clear hG G
  refine j9 (fun t:S8 × List Nat=>⟨[(0,.ptr 0 0 0 1)],[(0,⟨188,10,[I2 t.1 ++ [.d (nb t.2),.d (.int .u64 n')]]⟩),(1,⟨ty,e,[row]⟩)],1091⟩)
   (fun t=>t.2.length≤1000000000000∧∃ k,t.2.length≤k∧Zh k t.1 t.2=E) (fun t=>t.2.length) (s,rest ++ b) ⟨by have:=hl;simp only [aj,List.length_nil] at *;omega,_,av _,hE0⟩ (by
    simp [m7,c6,fv,lk,AV.low,AV.low1,nb,I2]
    exact hlow _) ?_
  rintro ⟨s1,q⟩ ⟨hq,k,hk,hE⟩;simp only at hq hk hE;simp only [go_sem,Nat.reduceEqDiff,Nat.reduceAdd,Nat.reduceLT,↓reduceIte,I2,nb,List.length_map];refine ⟨fun h=>?_,fun h=>?_⟩
  ·have h64:64≤q.length:=aa;rw [eat_more h64 hk] at hE;refine B7 [0,1,2,3,4,5,6,7] [(8,[])] 0 (k:=9) ?_;intro G hG;simp [go_sem];refine ⟨aa,?_⟩;refine A3 [(0,0)] (ZI 188 10 s1 [.d (nb q),.d (.int .u64 n')] (q.take 64) (by simp;omega) (by simp [AV.low1])) rfl ab (by simp [lk]) (by simp [lk,Blk.ren,x7,AV.renL,AV.ren,D9,Tg,I2,nb]) (by simp [AV.renL,AV.ren,D9,Tg,lk,nb,List.map_take]) ?_;rintro r hp' ⟨rfl,h0⟩;refine ⟨[],rfl,?_⟩;simp [go_sem,D8,C8,h0,Blk.ren,x7,AV.renL,AV.ren,D9,I2];refine hG _ _ ?_;clear hG G;simp [go_sem,nb];refine ⟨aa,?_⟩;refine c8 (Go.Sha.take s1 (q.take 64),q.drop 64) ⟨by simp only [aG];omega,k - 1,by simp only [aG];omega,hE⟩ (by simp only [aG];omega) ?_;simp [m7,c6,fv,lk,AV.low,AV.low1,nb,I2,List.map_drop,Uu];exact hlow _
  ·rw [eat_none k s1 q aa] at hE;subst hE;rfl
 ·simp [go_sem,nb,I2,hn2];refine B7 [0,1,2,3,4,5,6,7,8,9,10,11,12,13,14,15,16] [(17,[18,19]),(20,[])] 1 (k:=21) ?_;intro G hG;simp [go_sem,Uu,hx];rw [← hX,Wz];simp [go_sem,Uu];refine ⟨by have:=hl;simp only [aj,List.length_nil] at *;omega,.inl (hG _ _ ?_)⟩;clear hG G
  refine j9 (fun t:S8 × List Nat=>⟨[(0,.ptr 0 0 0 1)],[(0,⟨188,10,[I2 t.1 ++ [.d (nb t.2),.d (.int .u64 n')]]⟩),(1,⟨ty,e,[row]⟩)],1091⟩)
   (fun t=>t.2.length≤1000000000000∧∃ k,t.2.length≤k∧Zh k t.1 t.2=E) (fun t=>t.2.length) (s,[] ++ b) ⟨by have:=hl;simp only [aj,List.length_nil] at *;omega,_,av _,hE0⟩ (by
    simp [m7,c6,fv,lk,AV.low,AV.low1,nb,I2]
    exact hlow _) ?_
  rintro ⟨s1,q⟩ ⟨hq,k,hk,hE⟩;simp only at hq hk hE;simp only [go_sem,Nat.reduceEqDiff,Nat.reduceAdd,Nat.reduceLT,↓reduceIte,I2,nb,List.length_map];refine ⟨fun h=>?_,fun h=>?_⟩
  ·have h64:64≤q.length:=aa;rw [eat_more h64 hk] at hE;refine B7 [0,1,2,3,4,5,6,7] [(8,[])] 0 (k:=9) ?_;intro G hG;simp [go_sem];refine ⟨aa,?_⟩;refine A3 [(0,0)] (ZI 188 10 s1 [.d (nb q),.d (.int .u64 n')] (q.take 64) (by simp;omega) (by simp [AV.low1])) rfl ab (by simp [lk]) (by simp [lk,Blk.ren,x7,AV.renL,AV.ren,D9,Tg,I2,nb]) (by simp [AV.renL,AV.ren,D9,Tg,lk,nb,List.map_take]) ?_;rintro r hp' ⟨rfl,h0⟩;refine ⟨[],rfl,?_⟩;simp [go_sem,D8,C8,h0,Blk.ren,x7,AV.renL,AV.ren,D9,I2];refine hG _ _ ?_;clear hG G;simp [go_sem,nb];refine ⟨aa,?_⟩;refine c8 (Go.Sha.take s1 (q.take 64),q.drop 64) ⟨by simp only [aG];omega,k - 1,by simp only [aG];omega,hE⟩ (by simp only [aG];omega) ?_;simp [m7,c6,fv,lk,AV.low,AV.low1,nb,I2,List.map_drop,Uu];exact hlow _
  ·rw [eat_none k s1 q aa] at hE;subst hE;rfl
theorem ahM (s:S8) (R:AV) (rest b:List Nat) (n:Nat) (hR:R=.d (nb rest) ∨ (R=.nil∧rest=[])) (hl:rest.length+b.length≤1000000000000) (hb32:b.length=32) (hn:n+b.length<18446744073709551616) :
  I1 Tryz.prog 118 2 [(0,⟨188,10,[I2 s ++ [R,.d (.int .u64 (n:Int))]]⟩),(1,⟨23,32,[cb b]⟩)] [.ptr 0 0 0 1,.sub 1 0 0 1 32 32 1]
   (fun r hp'=>r=.tup []∧lk 0 hp'=some ⟨188,10,[I2 (E s (rest ++ b)).1 ++ [.d (nb (E s (rest ++ b)).2),.d (.int .u64 ((n+b.length:Nat):Int))]]⟩∧lk 1 hp'=some ⟨23,32,[cb b]⟩):=by
 have:=XZ 23 32 (cb b) s R rest b n (K4 hb32) (fun n=>o5 n _) hR hl hb32;rw [wn n b.length hn] at this;exact this
theorem alw (ty:TypeId) (e:Nat) (row:List AV) (s:S8) (R:AV) (rest b:List Nat) (n:Nat) (hx0:(List.range 32).map (fun k=>(row.drop k).take 1)=List.map ((fun r=>List.map AV.d r) ∘ fun (x:Nat)=>[DV.int .u8 (x:Int)]) b) (hlow:∀ n v,v ∈ row→v.low1 n) (hR:R=.d (nb rest) ∨ (R=.nil∧rest=[])) (hl:rest.length+b.length≤1000000000000) (hb32:b.length=32) (hn:n+b.length<18446744073709551616) :
  I1 Tryz.prog 118 2 [(0,⟨188,10,[I2 s ++ [R,.d (.int .u64 (n:Int))]]⟩),(1,⟨ty,e,[row]⟩)] [.ptr 0 0 0 1,.sub 1 0 0 1 32 32 1]
   (fun r hp'=>r=.tup []∧lk 0 hp'=some ⟨188,10,[I2 (E s (rest ++ b)).1 ++ [.d (nb (E s (rest ++ b)).2),.d (.int .u64 ((n+b.length:Nat):Int))]]⟩∧lk 1 hp'=some ⟨ty,e,[row]⟩):=by
 have:=XZ ty e row s R rest b n hx0 hlow hR hl hb32;rw [wn n b.length hn] at this;exact this
theorem TG (tag:List Nat) (ts:DV) (hts:ts=.str (tag.map fun (x:Nat)=>(x:Int))) (b:List Nat) (ht:tag.length≤1000) (hb:b.length≤10000000000):m6 Tryz.prog 87 [.d ts,.d (nb b)] (fun r=>r=.agg (cb (G9 tag b))):=by
 subst hts;refine t6 Tryz.func87 Tryz.ntmps87 (rs:=[.cell 4 23]) ae ?_;simp [go_sem,Tryz.underlying5];refine a9 (ajh tag aa) ae ?_;have hD:=s8 tag;have hg:G9 tag b=z7 (z7 tag ++ (z7 tag ++ b)):=rfl;rw [hg];generalize z7 tag=D at hD;simp [go_sem,hD,s9];refine A3 [] Xh rfl ab ab ab (by simp [AV.renL]) ?_;rintro r hp' ⟨rfl,h0⟩;refine ⟨[(97,0)],rfl,?_⟩;simp [go_sem,D8,C8,h0,Blk.ren,x7,RR,AV.ren,D9]
 have hp1:E H0 (D ++ (D ++ b))=E (E (E H0 D).1 ((E H0 D).2 ++ D)).1 ((E (E H0 D).1 ((E H0 D).2 ++ D)).2 ++ b):=by
  rw [aeI _ _ _ D (av _),← ar,aeI _ _ _ ((E H0 D).2 ++ D) (av _)]
 have hfin:YM (E (E (E H0 D).1 ((E H0 D).2 ++ D)).1 ((E (E H0 D).1 ((E H0 D).2 ++ D)).2 ++ b)) (0+D.length+D.length+b.length)=z7 (D ++ (D ++ b)):=by
  unfold z7;rw [hp1];congr 1;simp only [aj];omega
 have l1:=aeJ _ H0 D (av _);refine A3 [(0,192),(1,128)] (ahM H0 .nil [] D 0 (.inr ⟨rfl,rfl⟩) (by simp;omega) hD aa) rfl ab (by simp [lk]) (by simp [lk,Blk.ren,x7,RR,O5,AV.renL,AV.ren,D9,Tg]) (by simp [AV.renL,AV.ren,D9,Tg,lk]) ?_;rintro r hp' ⟨rfl,h0,h1⟩;refine ⟨[],rfl,?_⟩;rw [List.nil_append] at h0;generalize E H0 D=p1 at *;have l2:=aeJ _ p1.1 (p1.2 ++ D) (av _);rw [aj] at l2;simp [go_sem,D8,C8,h0,h1,Blk.ren,x7,RR,O5,Sg,AV.renL,AV.ren,D9];refine A3 [(0,192),(1,128)] (ahM p1.1 (.d (nb p1.2)) p1.2 D (0+D.length) (.inl rfl) aa hD aa) rfl ab (by simp [lk]) (by simp [lk,Blk.ren,x7,RR,O5,Sg,AV.renL,AV.ren,D9,Tg]) (by simp [AV.renL,AV.ren,D9,Tg,lk]) ?_;rintro r hp' ⟨rfl,h0,h1⟩;refine ⟨[],rfl,?_⟩;generalize E p1.1 (p1.2 ++ D)=p2 at *;have l3:=aeJ _ p2.1 (p2.2 ++ b) (av _);rw [aj] at l3;simp [go_sem,D8,C8,h0,h1,Blk.ren,x7,RR,O5,Sg,AV.renL,AV.ren,D9];refine A3 [(0,192)] (ase p2.1 (.d (nb p2.2)) p2.2 b (0+D.length+D.length) (.inl rfl) aa aa) rfl ab (by simp [lk]) (by simp [lk,Blk.ren,x7,RR,O5,Sg,AV.renL,AV.ren,D9,Tg]) (by simp [AV.renL,AV.ren,D9,Tg,lk]) ?_;rintro r hp' ⟨rfl,h0⟩;refine ⟨[],rfl,?_⟩;generalize E p2.1 (p2.2 ++ b)=p3 at *;simp [go_sem,D8,C8,h0,h1,Blk.ren,x7,RR,O5,Sg,AV.renL,AV.ren,D9];refine A3 [(0,192)] (agq p3.1 (.d (nb p3.2)) p3.2 (0+D.length+D.length+b.length) (.inl rfl) aa) rfl ab (by simp [lk]) (by simp [lk,Blk.ren,x7,RR,Sg,AV.ren,D9,Tg]) (by simp [AV.renL,AV.ren,D9,Tg,lk]) ?_;rintro r hp' ⟨rfl,h0⟩;refine ⟨[],rfl,?_⟩;have hf:dig (Zh (lastOf p3.2 (0+D.length+D.length+b.length)).length p3.1 (lastOf p3.2 (0+D.length+D.length+b.length))).1=z7 (D ++ (D ++ b)):=hfin;rw [hf];have hL:=s8 (D ++ (D ++ b));generalize z7 (D ++ (D ++ b))=R at *;simp [go_sem,D8,C8,h0,Blk.ren,x7,RR,Sg,O5,AV.ren,D9,d7,hL,d6 hL,s9];exact b7 (by simp [AV.deep];exact r6 _) rfl
end Go.Proofs.YtldccnbokbieiaaGreat
namespace Go.Sha
def le (x:Nat):Nat→List Nat
 | 0=>[]
 | k+1=>le x k ++ [t8 (I7 (8*k) x)]
theorem r9 (x:Nat):∀ k,(le x k).length=k
 | 0=>rfl
 | k+1=>by simp [le,r9 x k]
end Go.Sha
namespace Go.Proofs.YtldccnbokbieiaaGreat
open Go.Am Go.Sha
theorem aar (k x:Nat):I7 8 (I7 (8*k) x)=I7 (8*(k+1)) x:=by
 unfold I7;rw [Nat.div_div_eq_div_mul,← Nat.pow_add];congr 1
theorem aeK (a:Nat):Int.fdiv (a:Int) 256=((I7 8 a:Nat):Int):=P8 a 256
theorem Xl (b:List Nat):List.take b.length (rb b) ++ List.drop b.length (rb (List.replicate b.length 0))=rb b:=by
 rw [aq (by rw [o6];exact av _),az (by rw [o6];simp),List.append_nil]
theorem SC {Q:AV→Prop} {st:St} {id:Nat} {L:List Nat} (hb:lk id st.hp=some ⟨5,1,rb L⟩) (hq:Q (.d (nb L))):N6 Q (.own id 0 L.length L.length) st:=by
 have h:=XY (I:=fun _=>True) (i0:=0) (n:=L.length) hb trivial aa;rw [List.drop_zero,List.take_length] at h;exact F3 (d9 h) ae hq
theorem ahN (b:List Nat) (x n:Nat) (hb:b.length≤1000000) (hx:x<256) (hn:n≤8):m6 Tryz.prog 157 [.d (nb b),.d (.int .u8 (x:Int)),.d (.int .i64 (n:Int))] (fun r=>r=.d (nb (b ++ le x n))):=by
 refine t6 Tryz.func157 Tryz.ntmps157 (rs:=[.tmp 6]) ae ?_;have w1:IntKind.i64.wrap ((b.length:Int)+(n:Int))=((b.length+n:Nat):Int):=by rw [IntWalk.i64_in _ aa];omega
 have w2:IntKind.u64.wrap (x:Int)=(x:Int):=by rw [L0];omega
 have hr:List.replicate b.length [AV.d (.int .u8 0)]=rb (List.replicate b.length 0):=by simp [rb]
 simp only [go_sem,Nat.reduceEqDiff,Nat.reduceAdd,Nat.reduceLT,↓reduceIte,Nat.reduceMul,w1,w2,nb,List.length_map,Int.toNat_natCast,hr];simp [go_sem,E6,o6];rw [Xl];refine ⟨aa,aa,aa,aa,?_⟩
 refine j9 (fun k:Nat=>⟨[(7,.own 224 0 (b ++ le x k).length (b ++ le x k).length),(8,.d (.int .u64 ((I7 (8*k) x:Nat):Int))),(21,.d (.int .i64 (n:Int))),(22,.d (.int .i64 (k:Int)))],[(224,⟨5,1,rb (b ++ le x k)⟩)],544⟩)
  (fun k=>k≤n) (fun k=>n - k) 0 aa (by
   simp [m7,c6,fv,lk,AV.low,AV.low1,le,I7]
   exact s7 _ _) ?_
 intro k hk;have hl:(b ++ le x k).length=b.length+k:=by rw [aj,r9]
 have hs:rb (b ++ le x k) ++ [[AV.d (.int .u8 ((t8 (I7 (8*k) x):Nat):Int))]]=rb (b ++ le x (k+1)):=by rw [N1,ar];rfl
 have w5:=j6 (k:=k) aa;simp only [go_sem,Nat.reduceEqDiff,Nat.reduceAdd,Nat.reduceLT,↓reduceIte];refine ⟨fun h=>?_,fun h=>?_⟩
 ·simp [go_sem,F7,o6,hs,r9,IntKind.bits,aeK,aar,w5];refine ⟨aa,?_⟩;refine c8 (k+1) aa aa ?_;simp [m7,c6,fv,lk,AV.low,AV.low1,r9];exact ⟨aa,s7 _ _⟩
 ·have hkn:k=n:=aa;subst hkn;simp [go_sem,d7];have hl2:b.length+(le x k).length=(b ++ le x k).length:=by rw [aj]
  rw [hl2];exact SC rfl (by simp [nb])
theorem auI (b:List Nat) (x n:Nat) (hb:b.length≤1000000) (hx:x<65536) (hn:n≤8):m6 Tryz.prog 158 [.d (nb b),.d (.int .u16 (x:Int)),.d (.int .i64 (n:Int))] (fun r=>r=.d (nb (b ++ le x n))):=by
 refine t6 Tryz.func158 Tryz.ntmps158 (rs:=[.tmp 6]) ae ?_;have w1:IntKind.i64.wrap ((b.length:Int)+(n:Int))=((b.length+n:Nat):Int):=by rw [IntWalk.i64_in _ aa];omega
 have w2:IntKind.u64.wrap (x:Int)=(x:Int):=by rw [L0];omega
 have hr:List.replicate b.length [AV.d (.int .u8 0)]=rb (List.replicate b.length 0):=by simp [rb]
 simp only [go_sem,Nat.reduceEqDiff,Nat.reduceAdd,Nat.reduceLT,↓reduceIte,Nat.reduceMul,w1,w2,nb,List.length_map,Int.toNat_natCast,hr];simp [go_sem,E6,o6];rw [Xl];refine ⟨aa,aa,aa,aa,?_⟩
 refine j9 (fun k:Nat=>⟨[(7,.own 224 0 (b ++ le x k).length (b ++ le x k).length),(8,.d (.int .u64 ((I7 (8*k) x:Nat):Int))),(21,.d (.int .i64 (n:Int))),(22,.d (.int .i64 (k:Int)))],[(224,⟨5,1,rb (b ++ le x k)⟩)],544⟩)
  (fun k=>k≤n) (fun k=>n - k) 0 aa (by
   simp [m7,c6,fv,lk,AV.low,AV.low1,le,I7]
   exact s7 _ _) ?_
 intro k hk;have hl:(b ++ le x k).length=b.length+k:=by rw [aj,r9]
 have hs:rb (b ++ le x k) ++ [[AV.d (.int .u8 ((t8 (I7 (8*k) x):Nat):Int))]]=rb (b ++ le x (k+1)):=by rw [N1,ar];rfl
 have w5:=j6 (k:=k) aa;simp only [go_sem,Nat.reduceEqDiff,Nat.reduceAdd,Nat.reduceLT,↓reduceIte];refine ⟨fun h=>?_,fun h=>?_⟩
 ·simp [go_sem,F7,o6,hs,r9,IntKind.bits,aeK,aar,w5];refine ⟨aa,?_⟩;refine c8 (k+1) aa aa ?_;simp [m7,c6,fv,lk,AV.low,AV.low1,r9];exact ⟨aa,s7 _ _⟩
 ·have hkn:k=n:=aa;subst hkn;simp [go_sem,d7];have hl2:b.length+(le x k).length=(b ++ le x k).length:=by rw [aj]
  rw [hl2];exact SC rfl (by simp [nb])
theorem auJ (b:List Nat) (x n:Nat) (hb:b.length≤1000000) (hx:x<4294967296) (hn:n≤8):m6 Tryz.prog 146 [.d (nb b),.d (.int .u32 (x:Int)),.d (.int .i64 (n:Int))] (fun r=>r=.d (nb (b ++ le x n))):=by
 refine t6 Tryz.func146 Tryz.ntmps146 (rs:=[.tmp 6]) ae ?_;have w1:IntKind.i64.wrap ((b.length:Int)+(n:Int))=((b.length+n:Nat):Int):=by rw [IntWalk.i64_in _ aa];omega
 have w2:IntKind.u64.wrap (x:Int)=(x:Int):=by rw [L0];omega
 have hr:List.replicate b.length [AV.d (.int .u8 0)]=rb (List.replicate b.length 0):=by simp [rb]
 simp only [go_sem,Nat.reduceEqDiff,Nat.reduceAdd,Nat.reduceLT,↓reduceIte,Nat.reduceMul,w1,w2,nb,List.length_map,Int.toNat_natCast,hr];simp [go_sem,E6,o6];rw [Xl];refine ⟨aa,aa,aa,aa,?_⟩
 refine j9 (fun k:Nat=>⟨[(7,.own 224 0 (b ++ le x k).length (b ++ le x k).length),(8,.d (.int .u64 ((I7 (8*k) x:Nat):Int))),(21,.d (.int .i64 (n:Int))),(22,.d (.int .i64 (k:Int)))],[(224,⟨5,1,rb (b ++ le x k)⟩)],544⟩)
  (fun k=>k≤n) (fun k=>n - k) 0 aa (by
   simp [m7,c6,fv,lk,AV.low,AV.low1,le,I7]
   exact s7 _ _) ?_
 intro k hk;have hl:(b ++ le x k).length=b.length+k:=by rw [aj,r9]
 have hs:rb (b ++ le x k) ++ [[AV.d (.int .u8 ((t8 (I7 (8*k) x):Nat):Int))]]=rb (b ++ le x (k+1)):=by rw [N1,ar];rfl
 have w5:=j6 (k:=k) aa;simp only [go_sem,Nat.reduceEqDiff,Nat.reduceAdd,Nat.reduceLT,↓reduceIte];refine ⟨fun h=>?_,fun h=>?_⟩
 ·simp [go_sem,F7,o6,hs,r9,IntKind.bits,aeK,aar,w5];refine ⟨aa,?_⟩;refine c8 (k+1) aa aa ?_;simp [m7,c6,fv,lk,AV.low,AV.low1,r9];exact ⟨aa,s7 _ _⟩
 ·have hkn:k=n:=aa;subst hkn;simp [go_sem,d7];have hl2:b.length+(le x k).length=(b ++ le x k).length:=by rw [aj]
  rw [hl2];exact SC rfl (by simp [nb])
end Go.Proofs.YtldccnbokbieiaaGreat
namespace Go.Sha
def t16 (a:Nat):Nat:=a % 65536
def m8 (n:Nat):List Nat:=if n<253 then le (t8 n) 1 else if n<65536 then le 253 1 ++ le (t16 n) 2 else le 254 1 ++ le (Zf n) 4
theorem y9 (n:Nat):(m8 n).length≤5:=by
 unfold m8
 split
 ·simp [r9]
 ·split <;> simp [r9]
end Go.Sha
namespace Go.Proofs.YtldccnbokbieiaaGreat
open Go.Am Go.Sha
theorem alx (b:List Nat) (x n:Nat) (hb:b.length≤1000000) (hx:x<256) (hn:n≤8):I1 Tryz.prog 157 0 [] [.d (nb b),.d (.int .u8 (x:Int)),.d (.int .i64 (n:Int))] (fun r hp'=>r=.own 225 0 (b ++ le x n).length (b ++ le x n).length∧lk 225 hp'=some ⟨5,1,rb (b ++ le x n)⟩):=by
 refine C6 Tryz.func157 (by kernel_rfl) rfl Tryz.ntmps157 (rs:=[.tmp 6]) rfl (Ut rfl) (by decide) ?_;have w1:IntKind.i64.wrap ((b.length:Int)+(n:Int))=((b.length+n:Nat):Int):=by rw [IntWalk.i64_in _ aa];omega
 have w2:IntKind.u64.wrap (x:Int)=(x:Int):=by rw [L0];omega
 have hr:List.replicate b.length [AV.d (.int .u8 0)]=rb (List.replicate b.length 0):=by simp [rb]
 simp only [go_sem,Nat.reduceEqDiff,Nat.reduceAdd,Nat.reduceLT,↓reduceIte,Nat.reduceMul,w1,w2,nb,List.length_map,Int.toNat_natCast,hr];simp [go_sem,E6,o6];rw [Xl];refine ⟨aa,aa,aa,aa,?_⟩
 refine j9 (fun k:Nat=>⟨[(7,.own 225 0 (b ++ le x k).length (b ++ le x k).length),(8,.d (.int .u64 ((I7 (8*k) x:Nat):Int))),(21,.d (.int .i64 (n:Int))),(22,.d (.int .i64 (k:Int)))],[(225,⟨5,1,rb (b ++ le x k)⟩)],545⟩)
  (fun k=>k≤n) (fun k=>n - k) 0 aa (by
   simp [m7,c6,fv,lk,AV.low,AV.low1,le,I7]
   exact s7 _ _) ?_
 intro k hk;have hl:(b ++ le x k).length=b.length+k:=by rw [aj,r9]
 have hs:rb (b ++ le x k) ++ [[AV.d (.int .u8 ((t8 (I7 (8*k) x):Nat):Int))]]=rb (b ++ le x (k+1)):=by rw [N1,ar];rfl
 have w5:=j6 (k:=k) aa;simp only [go_sem,Nat.reduceEqDiff,Nat.reduceAdd,Nat.reduceLT,↓reduceIte];refine ⟨fun h=>?_,fun h=>?_⟩
 ·simp [go_sem,F7,o6,hs,r9,IntKind.bits,aeK,aar,w5];refine ⟨aa,?_⟩;refine c8 (k+1) aa aa ?_;simp [m7,c6,fv,lk,AV.low,AV.low1,r9];exact ⟨aa,s7 _ _⟩
 ·have hkn:k=n:=aa;subst hkn;simp [go_sem,d7]
theorem aji (b:List Nat) (x n:Nat) (hb:b.length≤1000000) (hx:x<65536) (hn:n≤8):I1 Tryz.prog 158 0 [] [.d (nb b),.d (.int .u16 (x:Int)),.d (.int .i64 (n:Int))] (fun r hp'=>r=.own 225 0 (b ++ le x n).length (b ++ le x n).length∧lk 225 hp'=some ⟨5,1,rb (b ++ le x n)⟩):=by
 refine C6 Tryz.func158 (by kernel_rfl) rfl Tryz.ntmps158 (rs:=[.tmp 6]) rfl (Ut rfl) (by decide) ?_;have w1:IntKind.i64.wrap ((b.length:Int)+(n:Int))=((b.length+n:Nat):Int):=by rw [IntWalk.i64_in _ aa];omega
 have w2:IntKind.u64.wrap (x:Int)=(x:Int):=by rw [L0];omega
 have hr:List.replicate b.length [AV.d (.int .u8 0)]=rb (List.replicate b.length 0):=by simp [rb]
 simp only [go_sem,Nat.reduceEqDiff,Nat.reduceAdd,Nat.reduceLT,↓reduceIte,Nat.reduceMul,w1,w2,nb,List.length_map,Int.toNat_natCast,hr];simp [go_sem,E6,o6];rw [Xl];refine ⟨aa,aa,aa,aa,?_⟩
 refine j9 (fun k:Nat=>⟨[(7,.own 225 0 (b ++ le x k).length (b ++ le x k).length),(8,.d (.int .u64 ((I7 (8*k) x:Nat):Int))),(21,.d (.int .i64 (n:Int))),(22,.d (.int .i64 (k:Int)))],[(225,⟨5,1,rb (b ++ le x k)⟩)],545⟩)
  (fun k=>k≤n) (fun k=>n - k) 0 aa (by
   simp [m7,c6,fv,lk,AV.low,AV.low1,le,I7]
   exact s7 _ _) ?_
 intro k hk;have hl:(b ++ le x k).length=b.length+k:=by rw [aj,r9]
 have hs:rb (b ++ le x k) ++ [[AV.d (.int .u8 ((t8 (I7 (8*k) x):Nat):Int))]]=rb (b ++ le x (k+1)):=by rw [N1,ar];rfl
 have w5:=j6 (k:=k) aa;simp only [go_sem,Nat.reduceEqDiff,Nat.reduceAdd,Nat.reduceLT,↓reduceIte];refine ⟨fun h=>?_,fun h=>?_⟩
 ·simp [go_sem,F7,o6,hs,r9,IntKind.bits,aeK,aar,w5];refine ⟨aa,?_⟩;refine c8 (k+1) aa aa ?_;simp [m7,c6,fv,lk,AV.low,AV.low1,r9];exact ⟨aa,s7 _ _⟩
 ·have hkn:k=n:=aa;subst hkn;simp [go_sem,d7]
theorem abZ (b:List Nat) (x n:Nat) (hb:b.length≤1000000) (hx:x<4294967296) (hn:n≤8):I1 Tryz.prog 146 0 [] [.d (nb b),.d (.int .u32 (x:Int)),.d (.int .i64 (n:Int))] (fun r hp'=>r=.own 225 0 (b ++ le x n).length (b ++ le x n).length∧lk 225 hp'=some ⟨5,1,rb (b ++ le x n)⟩):=by
 refine C6 Tryz.func146 (by kernel_rfl) rfl Tryz.ntmps146 (rs:=[.tmp 6]) rfl (Ut rfl) (by decide) ?_;have w1:IntKind.i64.wrap ((b.length:Int)+(n:Int))=((b.length+n:Nat):Int):=by rw [IntWalk.i64_in _ aa];omega
 have w2:IntKind.u64.wrap (x:Int)=(x:Int):=by rw [L0];omega
 have hr:List.replicate b.length [AV.d (.int .u8 0)]=rb (List.replicate b.length 0):=by simp [rb]
 simp only [go_sem,Nat.reduceEqDiff,Nat.reduceAdd,Nat.reduceLT,↓reduceIte,Nat.reduceMul,w1,w2,nb,List.length_map,Int.toNat_natCast,hr];simp [go_sem,E6,o6];rw [Xl];refine ⟨aa,aa,aa,aa,?_⟩
 refine j9 (fun k:Nat=>⟨[(7,.own 225 0 (b ++ le x k).length (b ++ le x k).length),(8,.d (.int .u64 ((I7 (8*k) x:Nat):Int))),(21,.d (.int .i64 (n:Int))),(22,.d (.int .i64 (k:Int)))],[(225,⟨5,1,rb (b ++ le x k)⟩)],545⟩)
  (fun k=>k≤n) (fun k=>n - k) 0 aa (by
   simp [m7,c6,fv,lk,AV.low,AV.low1,le,I7]
   exact s7 _ _) ?_
 intro k hk;have hl:(b ++ le x k).length=b.length+k:=by rw [aj,r9]
 have hs:rb (b ++ le x k) ++ [[AV.d (.int .u8 ((t8 (I7 (8*k) x):Nat):Int))]]=rb (b ++ le x (k+1)):=by rw [N1,ar];rfl
 have w5:=j6 (k:=k) aa;simp only [go_sem,Nat.reduceEqDiff,Nat.reduceAdd,Nat.reduceLT,↓reduceIte];refine ⟨fun h=>?_,fun h=>?_⟩
 ·simp [go_sem,F7,o6,hs,r9,IntKind.bits,aeK,aar,w5];refine ⟨aa,?_⟩;refine c8 (k+1) aa aa ?_;simp [m7,c6,fv,lk,AV.low,AV.low1,r9];exact ⟨aa,s7 _ _⟩
 ·have hkn:k=n:=aa;subst hkn;simp [go_sem,d7]
theorem aoO (a:Nat):IntKind.u16.wrap (a:Int)=((t16 a:Nat):Int):=by
 have:IntKind.u16.wrap (a:Int)=(a:Int) % 65536:=by simp [IntKind.wrap,IntKind.bits,IntKind.signed]
 rw [this];unfold t16;omega
theorem VV (b:List Nat) (n:Nat) (hb:b.length≤100000) (hn:n<4294967296):I1 Tryz.prog 120 0 [] [.d (nb b),.d (.int .u64 (n:Int))] (fun r hp'=>∃ I,r=.own I 0 (b ++ m8 n).length (b ++ m8 n).length∧lk I hp'=some ⟨5,1,rb (b ++ m8 n)⟩):=by
 refine C6 Tryz.func120 (by kernel_rfl) rfl Tryz.ntmps120 (rs:=[.tmp 4]) rfl (Ut rfl) (by decide) ?_;by_cases h1:n<253
 ·have e:m8 n=le (t8 n) 1:=by unfold m8;rw [if_pos h1]
  rw [e];have i1:(n:Int)<253:=aa;simp [go_sem,i1,F7];refine A3 [] (alx b (t8 n) 1 aa (by unfold t8;omega) aa) rfl ab ab ab (by simp [AV.renL,AV.ren]) ?_;rintro r hp' ⟨rfl,h0⟩;refine ⟨[(225,0)],rfl,?_⟩;simp [go_sem,D8,C8,h0,Blk.ren,x7,C7,AV.renL,AV.ren,D9,d7]
 ·have i1:¬ (n:Int)<253:=aa;by_cases h2:n<65536
  ·have e:m8 n=le 253 1 ++ le (t16 n) 2:=by unfold m8;rw [if_neg h1,if_pos h2]
   have i2:(n:Int)<65536:=aa;rw [e,← ar];simp [go_sem,i1,i2,-List.append_assoc];refine a9 (ahN b 253 1 aa aa aa) ae ?_;simp [go_sem,aoO,-List.append_assoc];refine A3 [] (aji (b ++ le 253 1) (t16 n) 2 (by rw [aj,r9];omega) (by unfold t16;omega) aa) rfl ab ab ab (by simp [AV.renL,AV.ren]) ?_;rintro r hp' ⟨rfl,h0⟩;refine ⟨[(225,0)],rfl,?_⟩;simp [go_sem,D8,C8,h0,Blk.ren,x7,C7,AV.renL,AV.ren,D9,d7];omega
  ·have e:m8 n=le 254 1 ++ le (Zf n) 4:=by unfold m8;rw [if_neg h1,if_neg h2]
   have i2:¬ (n:Int)<65536:=aa;have i3:(n:Int)<4294967296:=aa;rw [e,← ar];simp [go_sem,i1,i2,i3,-List.append_assoc];refine a9 (ahN b 254 1 aa aa aa) ae ?_;simp [go_sem,abS,-List.append_assoc];refine A3 [] (abZ (b ++ le 254 1) (Zf n) 4 (by rw [aj,r9];omega) (by unfold Zf;omega) aa) rfl ab ab ab (by simp [AV.renL,AV.ren]) ?_;rintro r hp' ⟨rfl,h0⟩;refine ⟨[(225,0)],rfl,?_⟩;simp [go_sem,D8,C8,h0,Blk.ren,x7,C7,AV.renL,AV.ren,D9,d7];omega
theorem RS (b x:List Nat) (hb:b.length≤100000) (hx:x.length<1000000):m6 Tryz.prog 88 [.d (nb b),.d (nb x)] (fun r=>r=.d (nb (b ++ (m8 x.length ++ x)))):=by
 refine t6 Tryz.func88 Tryz.ntmps88 (rs:=[.tmp 4]) ae ?_;have w:IntKind.u64.wrap (x.length:Int)=(x.length:Int):=by rw [L0];omega
 have hp5:=y9 x.length;simp only [go_sem,Nat.reduceEqDiff,Nat.reduceAdd,Nat.reduceLT,↓reduceIte,nb,List.length_map,w];refine A3 [] (VV b x.length aa aa) rfl ab ab ab (by simp [AV.renL,AV.ren,nb]) ?_;rintro r hp' ⟨I,rfl,h0⟩;refine ⟨[(I,0)],by simp [M4,RG],?_⟩;simp [go_sem,D8,C8,h0,Blk.ren,x7,C7,AV.renL,AV.ren,D9,E6,o6,d7];refine ⟨aa,?_⟩;rw [RI,show b.length+(m8 x.length).length+x.length=(b ++ m8 x.length ++ x).length by simp;omega];exact SC rfl (by simp [nb])
theorem VW (x:List Nat) (hx:x.length≤100000):m6 Tryz.prog 51 [.d (nb x)] (fun r=>r=.agg (cb (G9 [84,97,112,76,101,97,102] (192 :: (m8 x.length ++ x))))):=by
 refine t6 Tryz.func51 Tryz.ntmps51 (rs:=[.cell 2 23]) ae ?_;have hp5:=y9 x.length;simp [go_sem]
 have hs:∀ (hp:Hp),lk 32 hp=some ⟨5,1,rb [192]⟩→SnapD hp (fun id=>id ∈ [32]) (.own 32 0 1 1) (nb [192]):=fun hp h=>by
  have:=XY (I:=fun id=>id ∈ [32]) (i0:=0) (n:=1) (L:=[192]) h ab ab;exact this
 refine u7 [32] (RS [192] x ab aa) rfl (c7 (.one (d9 (hs _ rfl))) (c7 (.deep ae) n7)) ?_;simp [go_sem,p9];refine a9 (TG [84,97,112,76,101,97,102] (.str [84,97,112,76,101,97,102]) rfl (192 :: (m8 x.length ++ x)) ab (by simp;omega)) ae ?_;have hL:(G9 [84,97,112,76,101,97,102] (192 :: (m8 x.length ++ x))).length=32:=s8 _;generalize G9 [84,97,112,76,101,97,102] (192 :: (m8 x.length ++ x))=R at *;simp [go_sem,d7,hL,d6 hL,s9];exact b7 (by simp [AV.deep];exact r6 _) rfl
def Sj (a:List Nat):List UInt8:=Lib.bytesOf (a.map fun (x:Nat)=>(x:Int))
theorem ab0 {P:Program} {w:World} {S:Nat→Prop} {σ:Nat→Option Nat} {hp:Hp} {U:Nat→Prop} {a:List Nat} {x:Value} (h:AIs w S σ hp U (.d (nb a)) x):(Extern.Bytes.bytesOf x).run P w=.ok ⟨(Sj a).toArray⟩ w:=by
 cases h with
 | d h =>
  unfold nb at h;generalize hes:(a.map fun (b:Nat)=>[DV.int .u8 (b:Int)])=es at h
  cases h with
  | ro _ _ A c vs hc he hA hv hd =>
   have hlen:es.length=a.length:=by rw [← hes,List.length_map]
   cases A with
   | none =>
    have:a=[]:=by
     cases a with
     | nil=>rfl
     | cons y r =>
      obtain ⟨ad,h1,_⟩:=hA [DV.int .u8 (y:Int)] (by rw [← hes];simp)
      cases h1
    subst this;simp [Extern.Bytes.bytesOf,Sj,Lib.bytesOf];rfl
   | some ad =>
    have hl:=Lib.run_loadBytesX (P:=P) w (a.map fun (x:Nat)=>(x:Int)) ad .empty (fun j y hj=>by
     simp only [ay,Option.map_eq_some_iff] at hj;obtain ⟨z,hz,rfl⟩:=hj;have h1:es[j]?=some [DV.int .u8 (z:Int)]:=by rw [← hes,ay,hz];rfl
     have h2:=hv ad rfl j 0 _ _ h1 rfl;have h3:=hd j 0 _ _ h1 rfl;rw [Nat.mul_one,Nat.add_zero] at h2;rw [h2];generalize vs j 0=u at h3
     cases h3
     rfl)
    rw [List.length_map] at hl;show (Extern.Bytes.loadBytes ad es.length .empty).run P w=_;rw [hlen,hl];congr 2;simp [Sj]
theorem aoP (a b:List Nat):XJ Tryz.prog 154 [.d (nb a),.d (nb b)] (.d (.int .i64 (Lib.compareBytes (Sj a) (Sj b)))):=by
 intro w S σ hp U vs hl hv
 match vs,hl with
 | [x,y],_ =>
  have hx:=ab0 (P:=Tryz.prog) (hv 0 _ x rfl rfl);have hy:=ab0 (P:=Tryz.prog) (hv 1 _ y rfl rfl);refine ⟨.int .i64 (Lib.compareBytes (Sj a) (Sj b)),?_,.d (.int _ _)⟩
  have hc:(Extern.BytealgCompare.compare #[x,y]).run Tryz.prog w=.ok (.int .i64 (Lib.compareBytes (Sj a) (Sj b))) w:=by
   change Sem.run Tryz.prog (do pure (goInt (Extern.BytealgCompare.cmp (← Extern.Bytes.bytesOf x) (← Extern.Bytes.bytesOf y)))) w=_
   simp only [Sem.run_bind,hx,hy,Result.andThen_ok,Sem.run_pure,Lib.cmp_eq];rfl
  rw [run_callFunc_extern Tryz.func154 (by kernel_rfl) (by kernel_rfl) (by kernel_rfl) (e:=Extern.BytealgCompare.compare) (by kernel_rfl),hc];rfl
theorem agr (a b:List Nat):m6 Tryz.prog 116 [.d (nb a),.d (nb b)] (fun r=>r=.d (.int .i64 (Lib.compareBytes (Sj a) (Sj b)))):=by
 refine t6 Tryz.func116 Tryz.ntmps116 (rs:=[.tmp 4]) ae ?_;simp only [go_sem,Nat.reduceEqDiff,Nat.reduceAdd,Nat.reduceLT,↓reduceIte];refine YH (aoP a b) ?_;simp [go_sem,d7];exact b7 ae rfl
def A9:List Nat:=[84,97,112,66,114,97,110,99,104]
def w9 (a b:List Nat):List Nat:=G9 A9 (if 0<Lib.compareBytes (Sj a) (Sj b) then b ++ a else a ++ b)
theorem aeL {hp:Hp} {I:Nat→Prop} {id:Nat} {L:List Nat} (hl:L.length=64) (hb:lk id hp=some ⟨5,1,rb L⟩) (hI:I id):SnapD hp I (.own id 0 64 64) (nb L):=by
 have h:=XY (i0:=0) (n:=64) (L:=L) hb hI aa;rw [List.drop_zero,aq aa,hl] at h;exact h
theorem ab1 (a b:List Nat) (ha:a.length=32) (hb:b.length=32):m6 Tryz.prog 86 [.agg (cb a),.agg (cb b)] (fun r=>r=.agg (cb (w9 a b))):=by
 refine t6 Tryz.func86 Tryz.ntmps86 (rs:=[.cell 4 23]) (by simp [AV.deep];exact ⟨r6 _,r6 _⟩) ?_;simp [go_sem,ha,hb];refine B7 [0,1] [(2,[3])] 1 (k:=4) ?_;intro G hG;simp [go_sem];refine U8 (agr a b) rfl (c7 (.one (d9 (Si rfl trivial ha))) (c7 (.one (d9 (Si rfl trivial hb))) n7)) trivial ?_;simp [go_sem];refine hG _ _ ?_;clear hG G;by_cases hc:0<Lib.compareBytes (Sj a) (Sj b)
 ·have hda:List.drop 32 (cb a)=[]:=az (by rw [d0];omega);have hdb:List.drop 32 (cb b)=[]:=az (by rw [d0];omega);simp [go_sem,hc,ha,hb,hda,hdb,d6 ha,d6 hb];refine B7 [0,1] [(2,[]),(3,[]),(4,[])] 0 (k:=5) ?_;intro G hG;have hx1:=K4 hb;have hx2:=K4 ha;rw [E6] at hx1 hx2;simp [go_sem] at hx1 hx2;have hl:(b ++ a).length=64:=by rw [aj];omega
  simp [go_sem];refine u7 [416] (TG A9 (.str [84,97,112,66,114,97,110,99,104]) rfl (b ++ a) (by simp [A9]) aa) rfl (c7 (.deep ae) (c7 (.one (d9 (aeL (L:=b ++ a) hl (by simp [lk];rw [← RI,← hx1,← hx2];rfl) ab))) n7)) ?_;have hR:w9 a b=G9 A9 (b ++ a):=by unfold w9;rw [if_pos hc]
  rw [hR] at hG;have hL:(G9 A9 (b ++ a)).length=32:=s8 _;generalize G9 A9 (b ++ a)=R at *;simp [go_sem,p9,hL];refine hG _ _ ?_;clear hG G;simp [go_sem,d7,hL,d6 hL,s9];exact b7 (by simp [AV.deep];exact r6 _) rfl
 ·have hda:List.drop 32 (cb a)=[]:=az (by rw [d0];omega);have hdb:List.drop 32 (cb b)=[]:=az (by rw [d0];omega);simp [go_sem,hc,ha,hb,hda,hdb,d6 ha,d6 hb];refine B7 [0,1] [(2,[]),(3,[]),(4,[])] 0 (k:=5) ?_;intro G hG;have hx1:=K4 ha;have hx2:=K4 hb;rw [E6] at hx1 hx2;simp [go_sem] at hx1 hx2;have hl:(a ++ b).length=64:=by rw [aj];omega
  simp [go_sem];refine u7 [288] (TG A9 (.str [84,97,112,66,114,97,110,99,104]) rfl (a ++ b) (by simp [A9]) aa) rfl (c7 (.deep ae) (c7 (.one (d9 (aeL (L:=a ++ b) hl (by simp [lk];rw [← RI,← hx1,← hx2];rfl) ab))) n7)) ?_;have hR:w9 a b=G9 A9 (a ++ b):=by unfold w9;rw [if_neg hc]
  rw [hR] at hG;have hL:(G9 A9 (a ++ b)).length=32:=s8 _;generalize G9 A9 (a ++ b)=R at *;simp [go_sem,p9,hL];refine hG _ _ ?_;clear hG G;simp [go_sem,d7,hL,d6 hL,s9];exact b7 (by simp [AV.deep];exact r6 _) rfl
def cd (l:List Nat):List DV:=l.map fun (x:Nat)=>DV.int .u8 (x:Int)
theorem H3 (l:List Nat):(cd l).length=l.length:=by simp [cd]
theorem Tj (l:List Nat):(cd l).map AV.d=cb l:=by simp [cd,cb]
def J1 (ps:List (List Nat)):DV:=.ro 32 (ps.map cd)
def s5 (inner:List Nat) (path script:AV):List AV:=cb inner ++ [path,script]
def M5 (ps:List (List Nat)) (h:List Nat):List Nat:=ps.foldl w9 h
def aoQ:List Nat:=[84,97,112,76,101,97,102]
def E9 (x:List Nat):List Nat:=G9 aoQ (192 :: (m8 x.length ++ x))
theorem RU (x:List Nat):(E9 x).length=32:=s8 _
theorem M6 (a b:List Nat):(w9 a b).length=32:=s8 _
theorem auK:O6 Tryz.prog 27=some (s5 z32 .nil .nil):=by kernel_rfl
attribute [go_sem] auK
theorem K5 {l:List Nat} (h:l.length=32):List.drop 32 (cb l)=[]:=az (by rw [d0];omega)
theorem K0 {inner:List Nat} (hi:inner.length=32) (a b:AV):(cb inner ++ [a,b])[32]?=some a:=by
 rw [aB (by rw [d0];omega),d0,hi];rfl
theorem P9 {inner:List Nat} (hi:inner.length=32) (a b:AV):(cb inner ++ [a,b])[33]?=some b:=by
 rw [aB (by rw [d0];omega),d0,hi];rfl
theorem aas {ps:List (List Nat)} {k:Nat} {p h:List Nat} (hk:ps[k]?=some p):M5 (ps.drop k) h=M5 (ps.drop (k+1)) (w9 h p):=by
 obtain ⟨h1,h2⟩:=ak.1 hk;unfold M5;rw [List.drop_eq_getElem_cons h1,List.foldl_cons,h2]
theorem aoR (inner:List Nat) (ps:List (List Nat)) (x:List Nat) (hi:inner.length=32) (hp32:∀ p,p ∈ ps→p.length=32) (hps:ps.length≤1000) (hx:x.length≤100000) :
  m6 Tryz.prog 50 [.agg (s5 inner (.d (J1 ps)) (.d (nb x)))] (fun r=>r=.agg (cb (M5 ps (E9 x)))):=by
 refine t6 Tryz.func50 Tryz.ntmps50 (rs:=[.cell 2 23]) (by
  simp [AV.deep,s5];intro c hc;rcases hc with hc | rfl | rfl
  ·exact r6 _ _ hc
  ·trivial
  ·trivial) ?_
 simp [go_sem,s5,P9 hi];refine a9 (VW x hx) ae ?_;have hL:(G9 [84,97,112,76,101,97,102] (192 :: (m8 x.length ++ x))).length=32:=s8 _;have hR:M5 ps (E9 x)=M5 (ps.drop 0) (G9 [84,97,112,76,101,97,102] (192 :: (m8 x.length ++ x))):=by rw [List.drop_zero];rfl
 rw [hR];generalize G9 [84,97,112,76,101,97,102] (192 :: (m8 x.length ++ x))=R at *;generalize hT:M5 (ps.drop 0) R=T;clear hR;simp [go_sem,K0 hi,J1,hL,d6 hL,s9]
 refine j9 (fun t:Nat × List Nat=>⟨[(2,.ptr 32 0 0 1),(3,.ptr 160 0 0 1),(10,.d (J1 ps)),(11,.d (.int .i64 (ps.length:Int))),(12,.d (.int .i64 (t.1:Int)))],[(32,⟨23,32,[cb z32]⟩),(160,⟨23,32,[cb t.2]⟩)],1000⟩)
  (fun t=>t.1≤ps.length∧t.2.length=32∧M5 (ps.drop t.1) t.2=T) (fun t=>ps.length - t.1) (0,R) ⟨aa,hL,hT⟩ (by
   simp [m7,c6,fv,lk,AV.low,AV.low1,J1]
   exact ⟨o5 _ _,o5 _ _⟩) ?_
 rintro ⟨k,h⟩ ⟨hk,hh,hT'⟩;simp only at hk hh hT';simp only [go_sem,Nat.reduceEqDiff,Nat.reduceAdd,Nat.reduceLT,↓reduceIte];refine ⟨fun hlt=>?_,fun hge=>?_⟩
 ·have hlt':k<ps.length:=aa;have hp:=am hlt';generalize ps[k]=p at hp;have hpl:p.length=32:=hp32 p (ao hp);rw [aas hp] at hT';simp [go_sem,J1,hp,H3,hpl,Tj,d6 hpl,d0,hh,d6 hh,s9];refine a9 (ab1 h p hh hpl) (by simp [AV.deep];exact ⟨r6 _,r6 _⟩) ?_;have hB:=M6 h p;generalize w9 h p=B at *;simp [go_sem,d0,hB,hh,d6 hB,K5 hh];refine c8 (k+1,B) ⟨aa,hB,hT'⟩ aa ?_;have w:=j6 (k:=k) aa;simp [m7,c6,fv,lk,AV.low,AV.low1,J1,w];exact ⟨o5 _ _,o5 _ _⟩
 ·have hkn:k=ps.length:=aa;subst hkn;have:T=h:=by rw [← hT',List.drop_length];rfl
  subst this;simp [go_sem,d7,hh,d6 hh,s9];exact b7 (by simp [AV.deep];exact r6 _) rfl
end Go.Proofs.YtldccnbokbieiaaGreat
namespace Go.Sha
def ZA {α:Type}:Nat→(Nat→α)→α
 | 0,k=>k 0
 | n+1,k=>k (n+1)
theorem TV {α:Type} (n:Nat) (k:Nat→α):ZA n k=k n:=by cases n <;> rfl
def rdF {α:Type} (s:S8) (k w:Nat) (C:S8→α):α:=ZA (T1 s k w) fun t=>ZA (Sc t (T2 s)) fun x=>ZA (Sc s.d t) fun y=>C ⟨x,s.a,s.b,s.c,y,s.e,s.f,s.g⟩
theorem asf {α:Type} (s:S8) (k w:Nat) (C:S8→α):rdF s k w C=C (rd s k w):=by simp only [rdF,TV,rd]
def aat {α:Type}:List Nat→List Nat→S8→(S8→α)→α
 | k :: ks,w :: ws,s,C=>rdF s k w fun s'=>aat ks ws s' C
 | _,_,s,C=>C s
theorem aeM {α:Type}:∀ (ks ws:List Nat) (s:S8) (C:S8→α),aat ks ws s C=C ((ks.zip ws).foldl rdp s)
 | [],_,s,C=>by simp [aat]
 | k :: ks,[],s,C=>by simp [aat]
 | k :: ks,w :: ws,s,C=>by simp only [aat,asf,aeM ks ws,List.zip_cons_cons,List.foldl_cons];rfl
def aeN {α:Type}:List Nat→(List Nat→α)→α
 | [],C=>C []
 | x :: r,C=>ZA x fun y=>aeN r fun q=>C (y :: q)
theorem aau {α:Type}:∀ (l:List Nat) (C:List Nat→α),aeN l C=C l
 | [],C=>rfl
 | x :: r,C=>by simp only [aeN,TV,aau r]
def wxR (l:List Nat):Nat :=
 Sc (Sc (Sc (l.getD 15 0) (Su (Su (VE 25 (l.getD 14 0)) (VE 14 (l.getD 14 0))) (I7 3 (l.getD 14 0)))) (l.getD 6 0)) (Su (Su (VE 15 (l.getD 1 0)) (VE 13 (l.getD 1 0))) (I7 10 (l.getD 1 0)))
theorem X0 (w:List Nat) (i:Nat) (h:i<w.length):w.reverse.getD i 0=w.getD (w.length - 1 - i) 0:=by
 rw [aw,aw,List.getElem?_reverse h]
theorem asg (w:List Nat) (h:16≤w.length):wxR w.reverse=wx w:=by
 unfold wxR wx;rw [X0 w 15 aa,X0 w 14 aa,X0 w 6 aa,X0 w 1 aa];rw [show w.length - 1 - 15=w.length - 16 by omega,show w.length - 1 - 14=w.length - 15 by omega,show w.length - 1 - 6=w.length - 7 by omega,show w.length - 1 - 1=w.length - 2 by omega]
def aoS {α:Type}:Nat→List Nat→(List Nat→α)→α
 | 0,l,C=>C l
 | n+1,l,C=>ZA (wxR l) fun x=>aoS n (x :: l) C
theorem ahO {α:Type} (b:List Nat):∀ (n m:Nat) (C:List Nat→α),aoS n (G1 b m).reverse C=C (G1 b (m+n)).reverse
 | 0,m,C=>rfl
 | n+1,m,C=>by
  have h:wxR (G1 b m).reverse :: (G1 b m).reverse=(G1 b (m+1)).reverse:=by
   rw [asg _ (by rw [UH];omega)];simp [G1]
  simp only [aoS,TV,h];rw [ahO b n (m+1) C,show m+1+n=m+(n+1) by omega]
def aly {α:Type} (s:S8) (b:List Nat) (C:S8→α):α :=
 aeN (RH b 16) fun q=>aoS 48 q.reverse fun l=>aat K l.reverse s fun v=>C (Zg s v)
theorem alz {α:Type} (s:S8) (b:List Nat) (C:S8→α):aly s b C=C (take s b):=by
 unfold aly;rw [aau];have:=ahO b 48 0 (fun l=>aat K l.reverse s fun v=>C (Zg s v));simp only [G1,Nat.zero_add] at this;rw [this,List.reverse_reverse,aeM];rfl
def stB:S8:=⟨2631984358,2081516601,951306994,3272560777,3555955564,1197698656,2108899050,3720802505⟩
end Go.Sha
namespace Go.Proofs.YtldccnbokbieiaaGreat
open Go.Am Go.Sha
theorem aoT (l:List Nat):C0 .u8 (cb l)=some (l.map fun (x:Nat)=>(x:Int)):=by
 have:=aex .u8 (l.map fun (x:Nat)=>(x:Int));rw [List.map_map] at this;exact this
theorem ags {a b:List Nat}:(a.map fun (x:Nat)=>(x:Int))=b.map (fun (x:Nat)=>(x:Int)) ↔ a=b:=by
 constructor
 ·intro h;have:=congrArg (List.map Int.toNat) h
  simpa [List.map_map,Function.comp_def] using this
 ·rintro rfl;rfl
theorem ab2 {hp:Hp} {I:Nat→Prop} {a a':List AV}:∀ (l:List AV),(∀ c,c ∈ l→c.deep1)→(∀ (i:Nat) (c c':AV),a[i]?=some c→a'[i]?=some c'→Tt hp I c c')→∀ (i:Nat) (c c':AV),(l ++ a)[i]?=some c→(l ++ a')[i]?=some c'→Tt hp I c c'
 | [],_,h=>h
 | x :: l,hl,h=>s6 (F6 (hl x (aC ..))) (ab2 l (fun c hc=>hl c (ax _ hc)) h)
theorem awo (l:List Nat):∀ c,c ∈ cb l→c.flat1:=by
 intro c hc;simp only [cb,List.mem_map] at hc;obtain ⟨x,_,rfl⟩:=hc
 trivial
theorem X1:∀ (x y:List UInt8),(0<Lib.compareBytes x y ↔ Lib.compareBytes y x<0)∧(Lib.compareBytes x y=0→x=y)
 | [],[]=>by simp [Lib.compareBytes]
 | [],_ :: _=>by simp [Lib.compareBytes]
 | _ :: _,[]=>by simp [Lib.compareBytes]
 | a :: x,b :: y=>by
  have ih:=X1 x y;simp only [Lib.compareBytes];by_cases h1:a<b
  ·have h2:¬ b<a:=fun h=>by
    have:=UInt8.lt_iff_toNat_lt.1 h;have:=UInt8.lt_iff_toNat_lt.1 h1;omega
   simp [h1,h2]
  ·by_cases h2:b<a
   ·simp [h1,h2]
   ·have:a=b:=UInt8.toNat_inj.1 (by
     have e1:¬ a.toNat<b.toNat:=fun h=>h1 (UInt8.lt_iff_toNat_lt.2 h);have e2:¬ b.toNat<a.toNat:=fun h=>h2 (UInt8.lt_iff_toNat_lt.2 h)
     omega)
    subst this;simp only [h1,if_false];exact ⟨ih.1,fun h=>by rw [ih.2 h]⟩
def bytes (l:List Nat):Prop:=∀ x,x ∈ l→x<256
theorem ac7:∀ {a b:List Nat},bytes a→bytes b→Sj a=Sj b→a=b
 | [],[],_,_,_=>rfl
 | [],_ :: _,_,_,h=>by simp [Sj,Lib.bytesOf] at h
 | _ :: _,[],_,_,h=>by simp [Sj,Lib.bytesOf] at h
 | x :: a,y :: b,ha,hb,h=>by
  have hx:=ha x (aC ..);have hy:=hb y (aC ..);simp [Sj,Lib.bytesOf] at h;obtain ⟨h1,h2⟩:=h;have:=ac7 (fun z hz=>ha z (ax _ hz)) (fun z hz=>hb z (ax _ hz)) (by simpa [Sj,Lib.bytesOf] using h2)
  have e:x=y:=by
   have:=congrArg UInt8.toNat h1;rw [UInt8.toNat_ofNat',UInt8.toNat_ofNat',Nat.mod_eq_of_lt aa,Nat.mod_eq_of_lt aa] at this;exact this
  rw [this,e]
theorem ac8 {a b:List Nat} (ha:bytes a) (hb:bytes b):w9 a b=w9 b a:=by
 unfold w9;obtain ⟨h1,h2⟩:=X1 (Sj a) (Sj b);obtain ⟨h3,h4⟩:=X1 (Sj b) (Sj a);by_cases c1:0<Lib.compareBytes (Sj a) (Sj b)
 ·have c2:¬ 0<Lib.compareBytes (Sj b) (Sj a):=by have:=h1.1 c1;omega
  rw [if_pos c1,if_neg c2]
 ·by_cases c2:0<Lib.compareBytes (Sj b) (Sj a)
  ·rw [if_neg c1,if_pos c2]
  ·have h0:Lib.compareBytes (Sj a) (Sj b)=0:=by
    have:¬ Lib.compareBytes (Sj a) (Sj b)<0:=fun h=>c2 (h3.2 h);omega
   have:=ac7 ha hb (h2 h0);subst this;rfl
theorem ajj {inner:List Nat} {a b:AV} (ha:a.deep1) (hb:b.deep1):(AV.agg (s5 inner a b)).deep:=by
 intro c hc;simp only [s5,au,aF,List.mem_nil_iff,or_false] at hc;rcases hc with hc | rfl | rfl
 ·exact r6 _ _ hc
 ·exact ha
 ·exact hb
theorem Sk (l:List Nat):(AV.agg (cb l)).deep:=r6 l
theorem aeO {n:Nat}:∀ (m:Nat) {ds:List DV},ai8 (S9 Tryz.prog (n+1)) Tryz.prog.cellsOf (List.replicate m 5) ds→∃ l:List Nat,ds=cd l∧l.length=m∧bytes l
 | 0,ds,h=>⟨[],by simpa [ai8,cd] using h,rfl,fun _ h=>by simp at h⟩
 | m+1,ds,h=>by
  rw [List.replicate_succ] at h;obtain ⟨a,b,rfl,_,h2,h3⟩:=h;simp only [S9,Tryz.underlying5] at h2;obtain ⟨x,rfl,hx⟩:=h2;obtain ⟨l,rfl,hl,hb⟩:=aeO m h3;have hx':0≤x∧x<256:=by simp [IntKind.has,IntKind.min,IntKind.max,IntKind.signed,IntKind.bits] at hx;omega
  refine ⟨x.toNat :: l,?_,by simp [hl],fun y hy=>?_⟩
  ·simp only [cd,List.map_cons,List.cons_append,List.nil_append];rw [show ((x.toNat:Nat):Int)=x by omega]
  ·rcases aF.1 hy with rfl | hy
   ·omega
   ·exact hb y hy
theorem agt {n:Nat} {ds:List DV} (h:S9 Tryz.prog (n+2) 23 ds):∃ l:List Nat,ds=cd l∧l.length=32∧bytes l:=by
 rw [S9] at h;simp only [Tryz.underlying23] at h;exact aeO 32 h
theorem aav {n:Nat} {d:DV} (h:S9 Tryz.prog (n+2) 22 [d]):∃ bs:List Nat,d=nb bs∧bs.length≤maxLen∧bytes bs:=by
 simp only [S9,Tryz.underlying22,List.cons.injEq,and_true] at h;obtain ⟨es,rfl,hl,hr⟩:=h
 obtain ⟨bs,rfl,hbs⟩:=aal (enc:=fun b:Nat=>[DV.int .u8 (b:Int)]) (R:=fun b=>b<256) (es:=es) (fun r hr'=>by
  obtain ⟨h1,h2⟩:=hr r hr';simp only [Tryz.underlying5] at h1;obtain ⟨x,rfl,hx⟩:=h1;have hx':0≤x∧x<256:=by simp [IntKind.has,IntKind.min,IntKind.max,IntKind.signed,IntKind.bits] at hx;omega
  exact ⟨x.toNat,by rw [show ((x.toNat:Nat):Int)=x by omega],aa⟩)
 exact ⟨bs,by rw [show Tryz.prog.cellsOf 5=1 by kernel_rfl];rfl,by simpa using hl,hbs⟩
end Go.Proofs.YtldccnbokbieiaaGreat
namespace Go.Sha
open Go.Am
def ror (n x:Nat):Nat:=o32 (I7 n x) (s32 (32 - n) x)
theorem SQ {n x:Nat} (h:n≤32):ror n x=VE (32 - n) x:=by
 unfold ror VE o32;rw [Nat.or_comm,show 32 - (32 - n)=n by omega]
theorem alA (a b:Nat):Sc a b=Sc b a:=by unfold Sc;rw [Nat.add_comm]
theorem auL (e:Nat):Su e 4294967295=c32 e:=by unfold Su c32;rw [Nat.xor_comm]
theorem auM {x i c:Nat} (h:c<2 ^ i):x*2 ^ i ||| c=x*2 ^ i+c:=by
 rw [← Nat.shiftLeft_eq,Nat.shiftLeft_add_eq_or_of_lt h]
def alB (a b c d:Nat):Nat:=o32 (o32 (o32 (s32 24 (Zf a)) (s32 16 (Zf b))) (s32 8 (Zf c))) (Zf d)
theorem ac9 {x i c:Nat} (hx:x*2 ^ i+c<4294967296) (h:c<2 ^ i):o32 (x*2 ^ i) c=x*2 ^ i+c:=by
 unfold o32;rw [auM h,Nat.mod_eq_of_lt hx]
theorem aaw {x:Nat} (h:x<4294967296):Zf x=x:=Nat.mod_eq_of_lt h
theorem ada {x i:Nat} (h:x*2 ^ i<4294967296):s32 i x=x*2 ^ i:=Nat.mod_eq_of_lt h
theorem o8 {x y:Nat} (hx:x<16777216) (hy:y<256):o32 (s32 8 x) (Zf y)=x*256+y:=by
 rw [aaw aa,ada aa,ac9 aa aa]
theorem alC {a b c d:Nat} (ha:a<256) (hb:b<256) (hc:c<256) (hd:d<256):alB a b c d=VF [a,b,c,d]:=by
 have r:VF [a,b,c,d]=((a*256+b)*256+c)*256+d:=by
  unfold VF;simp only [List.foldl_cons,List.foldl_nil];rw [o8 aa ha,o8 aa hb,o8 aa hc,o8 aa hd];omega
 rw [r];unfold alB;rw [aaw (by omega:a<4294967296),aaw (by omega:b<4294967296),aaw (by omega:c<4294967296),aaw (by omega:d<4294967296),ada aa,ada aa,ada aa];rw [ac9 aa aa];rw [show a*2 ^ 24+b*2 ^ 16=(a*2 ^ 8+b)*2 ^ 16 by omega];rw [ac9 aa aa];rw [show (a*2 ^ 8+b)*2 ^ 16+c*2 ^ 8=((a*2 ^ 8+b)*2 ^ 8+c)*2 ^ 8 by omega];rw [ac9 aa aa]
def wx2 (w:List Nat):Nat :=
 let t:=w.length
 let x:=w.getD (t - 15) 0
 let y:=w.getD (t - 2) 0
 let s0:=Su (Su (ror 7 x) (ror 18 x)) (I7 3 x)
 let s1:=Su (Su (ror 17 y) (ror 19 y)) (I7 10 y)
 Sc (Sc (Sc s1 (w.getD (t - 7) 0)) s0) (w.getD (t - 16) 0)
theorem ash (w:List Nat):wx2 w=wx w:=by
 unfold wx2 wx;simp only [SQ (show 7≤32 by omega),SQ (show 18≤32 by omega),SQ (show 17≤32 by omega),SQ (show 19≤32 by omega)];generalize Su (Su (VE (32 - 7) (w.getD (w.length - 15) 0)) (VE (32 - 18) (w.getD (w.length - 15) 0))) (I7 3 (w.getD (w.length - 15) 0))=s0;generalize Su (Su (VE (32 - 17) (w.getD (w.length - 2) 0)) (VE (32 - 19) (w.getD (w.length - 2) 0))) (I7 10 (w.getD (w.length - 2) 0))=s1;unfold Sc;omega
def Yv (b:List Nat) (t:Nat):List Nat:=if t≤16 then RH b t else G1 b (t - 16)
theorem aoU (b:List Nat) (t:Nat):(Yv b t).length=t:=by
 unfold Yv
 split
 ·exact Vb b t
 ·rw [UH];omega
theorem asi {b:List Nat} {t:Nat} (h:t<16):Yv b (t+1)=Yv b t ++ [VF ((b.take (4*t+4)).drop (4*t))]:=by
 unfold Yv;rw [if_pos aa,if_pos aa];rfl
theorem asj {b:List Nat} {t:Nat} (h:16≤t):Yv b (t+1)=Yv b t ++ [wx (Yv b t)]:=by
 have e:Yv b t=G1 b (t - 16):=by
  unfold Yv
  split
  ·have:t=16:=aa;subst this;rfl
  ·rfl
 rw [e];unfold Yv;rw [if_neg aa,show t+1 - 16=(t - 16)+1 by omega];rfl
theorem aoV (b:List Nat):Yv b 64=UI b:=rfl
theorem ab3 {a:List Nat} (ha:a.length % 64=0):∀ (n:Nat) (l:List Nat),Go.Proofs.YtldccnbokbieiaaGreat.padTo n (a ++ l)=a ++ Go.Proofs.YtldccnbokbieiaaGreat.padTo n l
 | 0,l=>rfl
 | n+1,l=>by
  unfold Go.Proofs.YtldccnbokbieiaaGreat.padTo;have:(a ++ l).length % 64=l.length % 64:=by rw [aj];omega
  rw [this]
  split
  ·rfl
  ·rw [ar];exact ab3 ha n (l ++ [0])
theorem agu {a l:List Nat} (ha:a.length % 64=0) (n:Nat):Go.Proofs.YtldccnbokbieiaaGreat.lastOf (a ++ l) n=a ++ Go.Proofs.YtldccnbokbieiaaGreat.lastOf l n:=by
 unfold Go.Proofs.YtldccnbokbieiaaGreat.lastOf;rw [ar,ab3 ha,ar]
theorem agv (n:Nat):∀ (k:Nat) (s:S8) (b:List Nat),b.length≤k→E s (Go.Proofs.YtldccnbokbieiaaGreat.lastOf b n)=E (E s b).1 (Go.Proofs.YtldccnbokbieiaaGreat.lastOf (E s b).2 n)
 | 0,s,b,h=>by rw [VU (b:=b) aa]
 | k+1,s,b,h=>by
  by_cases h64:64≤b.length
  ·rw [Xk (b:=b) h64]
   have e:Go.Proofs.YtldccnbokbieiaaGreat.lastOf b n=b.take 64 ++ Go.Proofs.YtldccnbokbieiaaGreat.lastOf (b.drop 64) n:=by
    rw [← agu (by rw [List.length_take];omega),List.take_append_drop]
   have h3:64≤(b.take 64 ++ Go.Proofs.YtldccnbokbieiaaGreat.lastOf (b.drop 64) n).length:=by simp;omega
   rw [e,Xk h3];have hl:(b.take 64).length=64:=by rw [List.length_take];omega
   rw [List.take_append_of_le_length aa,List.drop_append_of_le_length aa,aq (by omega:(b.take 64).length≤64),az aa,List.nil_append];exact agv n k _ _ (by rw [aG];omega)
  ·rw [VU (b:=b) aa]
theorem agw (b:List Nat):z7 b=dig (E H0 (Go.Proofs.YtldccnbokbieiaaGreat.lastOf b b.length)).1:=by
 unfold z7 YM;rw [agv b.length b.length H0 b (av _)]
def Vd (h:List Nat):Nat→List Nat→List Nat
 | 0,v=>v
 | i+1,v=>(Vd h i v).set i (Sc ((Vd h i v).getD i 0) (h.getD i 0))
theorem aeQ (h:List Nat) (v:List Nat):∀ i,(Vd h i v).length=v.length
 | 0=>rfl
 | i+1=>by simp [Vd,aeQ h v i]
theorem alD (s v:S8):Vd s.l 8 v.l=(Zg s v).l:=by
 simp [Vd,S8.l,Zg,alA]
end Go.Sha
namespace Go.Proofs.YtldccnbokbieiaaGreat
open Go.Am Go.Sha
def nw (l:List Nat):DV:=.ro 1 (l.map fun (x:Nat)=>[.int .u32 (x:Int)])
def ZB (l:List Nat):List (List AV):=l.map fun (x:Nat)=>[.d (.int .u32 (x:Int))]
theorem X2 (l:List Nat):(ZB l).length=l.length:=by simp [ZB]
theorem Ve (n:Nat) (l:List Nat):∀ r,r ∈ ZB l→∀ v,v ∈ r→v.low1 n:=by
 intro r hr v hv;simp only [ZB,List.mem_map] at hr;obtain ⟨x,_,rfl⟩:=hr;simp at hv;subst hv
 trivial
theorem aeR (a:List Nat) (x:Nat):ZB a ++ [[AV.d (.int .u32 (x:Int))]]=ZB (a ++ [x]):=by simp [ZB]
theorem asl (a:List Nat):List.map ((fun r=>List.map AV.d r) ∘ fun (x:Nat)=>[DV.int .u32 (x:Int)]) a=ZB a:=by simp [ZB]
theorem adb (l:List Nat) (i:Nat):(ZB l)[i]?=(l[i]?).map fun (x:Nat)=>[AV.d (.int .u32 (x:Int))]:=by simp [ZB]
theorem aoW (l:List Nat) (i x:Nat):(ZB l).set i [.d (.int .u32 (x:Int))]=ZB (l.set i x):=by simp [ZB,List.map_set]
theorem aoX (l:List Nat):ZB l=(l.map fun (x:Nat)=>[DV.int .u32 (x:Int)]).map fun r=>r.map .d:=by simp [ZB]
theorem aeS {hp:Hp} {I:Nat→Prop} {id:Nat} {L:List Nat} (hb:lk id hp=some ⟨53,1,ZB L⟩) (hI:I id):SnapD hp I (.own id 0 L.length L.length) (nw L):=by
 rw [aoX] at hb
 exact H2 hb hI ab (fun r hr=>by
  rw [List.mem_map] at hr;obtain ⟨x,_,rfl⟩:=hr
  rfl)
theorem aax {Q:AV→Prop} {st:St} {id:Nat} {L:List Nat} (hb:lk id st.hp=some ⟨53,1,ZB L⟩) (hq:Q (.d (nw L))):N6 Q (.own id 0 L.length L.length) st :=
 F3 (d9 (aeS hb trivial)) trivial hq
theorem SR (x n:Nat) (m:Int) (hm:m=(n:Int)) (h:n≤32):m6 Tryz.prog 196 [.d (.int .u32 (x:Int)),.d (.int .u64 m)] (fun r=>r=.d (.int .u32 ((ror n x:Nat):Int))):=by
 subst hm;refine t6 Tryz.func196 Tryz.ntmps196 (rs:=[.tmp 4]) ae ?_;have w1:IntKind.u64.wrap (32 - (n:Int))=((32 - n:Nat):Int):=by rw [L0];omega
 have m1:min n 32=n:=aa;have m2:min (32 - n) 32=32 - n:=aa;simp [go_sem,w1,IntKind.bits,m1,m2,d_r,aqs,aoJ,d7];exact b7 ae rfl
theorem ajk:m6 Tryz.prog 151 [] (fun r=>r=.d (nw K)):=by
 refine t6 Tryz.func151 Tryz.ntmps151 (rs:=[.tmp 0]) ab ?_;simp [go_sem,d7];exact aax (L:=K) (by kernel_rfl) rfl
theorem ajl (b:List Nat) (hb:b.length≤100000000000):m6 Tryz.prog 152 [.d (nb b)] (fun r=>r=.d (nb (lastOf b b.length))):=by
 refine t6 Tryz.func152 Tryz.ntmps152 (rs:=[.tmp 2]) ae ?_;simp [go_sem,nb,E6,Xj,o6];refine ⟨aa,aa,?_⟩
 refine j9 (fun l:List Nat=>⟨[(0,.d (nb b)),(3,.own 32 0 l.length l.length)],[(32,⟨5,1,rb l⟩)],288⟩)
  (fun l=>l.length≤100000000000+65∧∃ k,(120 - l.length % 64) % 64≤k∧(k+l.length≤100000000000+65)∧padTo k l=padTo 64 (b ++ [128])) (fun l=>(120 - l.length % 64) % 64) (b ++ [128]) ⟨by simp;omega,64,aa,by simp;omega,rfl⟩ (by
   simp [m7,c6,fv,lk,AV.low,AV.low1,nb]
   exact s7 _ _) ?_
 rintro l ⟨hl1,k,hk,hk2,hP⟩;have em:Int.tmod (l.length:Int) 64=((l.length % 64:Nat):Int):=agp _;simp only [go_sem,Nat.reduceEqDiff,Nat.reduceAdd,Nat.reduceLT,↓reduceIte,em];refine ⟨by decide,fun h=>?_,fun h=>?_⟩
 ·have h56:l.length % 64 ≠ 56:=aa;rw [Xi h56 aa] at hP;refine ⟨by decide,o6 l,aa,?_⟩;rw [aap];refine c8 (l ++ [0]) ⟨by simp;omega,k - 1,by simp;omega,by simp;omega,hP⟩ (by simp;omega) ?_;simp [m7,c6,fv,lk,AV.low,AV.low1,nb];exact s7 _ _
 ·have h56:l.length % 64=56:=aa;rw [YL h56] at hP;have hm8:IntKind.u64.wrap (IntKind.u64.wrap (b.length:Int)*8)=((b.length*8 % 18446744073709551616:Nat):Int):=by rw [L0,L0];omega
  simp only [go_sem,Nat.reduceEqDiff,Nat.reduceAdd,Nat.reduceLT,↓reduceIte,nb,hm8];have hm:lastOf b b.length=l ++ len8 (b.length*8 % 18446744073709551616) 8:=by unfold lastOf;rw [← hP]
  rw [hm];generalize b.length*8 % 18446744073709551616=m;clear hm hm8 hP hk hk2
  refine j9 (fun j:Nat=>⟨[(3,.own 32 0 (l ++ len8 m j).length (l ++ len8 m j).length),(4,.d (.int .u64 (m:Int))),(5,.d (.int .i64 (j:Int)))],[(32,⟨5,1,rb (l ++ len8 m j)⟩)],800⟩)
   (fun j=>j≤8) (fun j=>8 - j) 0 aa (by
    simp [m7,c6,fv,lk,AV.low,AV.low1,len8]
    exact s7 _ _) ?_
  intro j hj;have hll:(l ++ len8 m j).length=l.length+j:=by rw [aj,len8_len]
  simp only [go_sem,Nat.reduceEqDiff,Nat.reduceAdd,Nat.reduceLT,↓reduceIte];refine ⟨fun h=>?_,fun h=>?_⟩
  ·have hj7:j≤7:=aa;have w1:IntKind.i64.wrap (8*(j:Int))=((8*j:Nat):Int):=by rw [IntWalk.i64_in _ aa];omega
   have w2:IntKind.i64.wrap (56 - ((8*j:Nat):Int))=((56 - 8*j:Nat):Int):=by rw [IntWalk.i64_in _ aa];omega
   have w3:IntKind.u64.wrap ((56 - 8*j:Nat):Int)=((56 - 8*j:Nat):Int):=by rw [L0];omega
   have w4:min (56 - 8*j) 64=56 - 8*j:=aa;have w5:=j6 (k:=j) aa;have es:rb (l ++ len8 m j) ++ [[AV.d (.int .u8 ((t8 (I7 (56 - 8*j) m):Nat):Int))]]=rb (l ++ len8 m (j+1)):=by rw [N1,ar];rfl
   simp only [go_sem,Nat.reduceEqDiff,Nat.reduceAdd,Nat.reduceLT,↓reduceIte,IntKind.bits,w1,w2,w3,w4,d_r,F7,es,o6,w5];refine ⟨aa,by have:=len8_len m j;omega,?_⟩;refine c8 (j+1) aa aa ?_;have hl8:(len8 m (j+1)).length=(len8 m j).length+1:=by rw [len8_len,len8_len]
   simp [m7,c6,fv,lk,AV.low,AV.low1,hl8];exact ⟨aa,s7 _ _⟩
  ·have hj8:j=8:=aa;subst hj8;rw [← aj];exact SC (id:=32) (L:=l ++ len8 m 8) rfl rfl
theorem auN (a:Nat):IntKind.u32.wrap ((a:Int)*65536)=((s32 16 a:Nat):Int):=ahG a 65536
theorem auO (a:Nat):IntKind.u32.wrap ((a:Int)*16777216)=((s32 24 a:Nat):Int):=ahG a 16777216
theorem asm (a:Nat):bits .xor .u32 (a:Int) 4294967295=((c32 a:Nat):Int):=(J7 a 4294967295).trans (by rw [auL])
theorem four {b:List Nat} {k:Nat} (h:k+4≤b.length):∃ x0 x1 x2 x3,b[k]?=some x0∧b[k+1]?=some x1∧b[k+2]?=some x2∧b[k+3]?=some x3∧(b.take (k+4)).drop k=[x0,x1,x2,x3]:=by
 refine ⟨b[k],b[k+1],b[k+2],b[k+3],am _,am _,am _,am _,?_⟩;rw [List.drop_take,show k+4 - k=4 by omega,List.drop_eq_getElem_cons (by omega:k<b.length),List.drop_eq_getElem_cons (by omega:k+1<b.length),List.drop_eq_getElem_cons (by omega:k+1+1<b.length),List.drop_eq_getElem_cons (by omega:k+1+1+1<b.length)];rfl
theorem ajm (s:S8) (b:List Nat) (hb:b.length=64) (hby:∀ x,x ∈ b→x<256):m6 Tryz.prog 153 [.d (nw s.l),.d (nw K),.d (nb b)] (fun r=>r=.d (nw (Go.Sha.take s b).l)):=by
 refine t6 Tryz.func153 Tryz.ntmps153 (rs:=[.tmp 6]) ae ?_;simp only [go_sem,Nat.reduceEqDiff,Nat.reduceAdd,Nat.reduceLT,↓reduceIte,Nat.reduceMul];refine ⟨aa,?_⟩
 refine j9 (fun t:Nat=>⟨[(0,.d (nw s.l)),(1,.d (nw K)),(2,.d (nb b)),(7,.own 32 0 t t),(8,.d (.int .i64 (t:Int)))],[(32,⟨53,1,ZB (Yv b t)⟩)],128⟩)
  (fun t=>t≤64) (fun t=>64 - t) 0 aa (by
   simp [m7,c6,fv,lk,AV.low,AV.low1,nw,nb]
   exact ⟨rfl,Ve _ _⟩) ?_
 intro t ht;have hwl:=aoU b t;simp only [go_sem,Nat.reduceEqDiff,Nat.reduceAdd,Nat.reduceLT,↓reduceIte,Nat.reduceMul];refine ⟨fun h=>?_,fun h=>?_⟩
 ·by_cases h16:t<16
  ·have i16:(t:Int)<16:=aa;obtain ⟨x0,x1,x2,x3,g0,g1,g2,g3,g4⟩:=four (b:=b) (k:=4*t) aa;have hw4:=alC (hby x0 (ao g0)) (hby x1 (ao g1)) (hby x2 (ao g2)) (hby x3 (ao g3));rw [← g4] at hw4;have hst:=asi (b:=b) h16;rw [← hw4] at hst;unfold alB at hst;have w1:IntKind.i64.wrap (4*(t:Int))=((4*t:Nat):Int):=by rw [IntWalk.i64_in _ aa];omega
   have w2:IntKind.i64.wrap (((4*t:Nat):Int)+1)=((4*t+1:Nat):Int):=by rw [IntWalk.i64_in _ aa];omega
   have w3:IntKind.i64.wrap (((4*t:Nat):Int)+2)=((4*t+2:Nat):Int):=by rw [IntWalk.i64_in _ aa];omega
   have w4:IntKind.i64.wrap (((4*t:Nat):Int)+3)=((4*t+3:Nat):Int):=by rw [IntWalk.i64_in _ aa];omega
   generalize 4*t=q at *;generalize q+1=q1 at g1 w2;generalize q+2=q2 at g2 w3;generalize q+3=q3 at g3 w4;simp [go_sem,i16];refine B7 [0,1,2,3,4,5,6,7,8,9,10,11,12,13,14,15,16,17,18,19,20,21,22,23,24,25,26,27,28,29,30,31,32,33] [(34,[]),(35,[]),(36,[])] 1 (k:=37) ?_;intro G hG;simp [go_sem,nb,w1,w2,w3,w4,g0,g1,g2,g3,IntKind.bits,abS,auF,auN,auO,aoJ];rw [aeR,← hst];refine ⟨X2 _ ▸ hwl,aa,hG _ _ ?_⟩;clear hG G;have w5:=j6 (k:=t) aa;simp [go_sem,w5];refine c8 (t+1) aa aa ?_;simp [m7,c6,fv,lk,AV.low,AV.low1,nw,nb];exact Ve _ _
  ·have i16:¬ (t:Int)<16:=aa;have w1:IntKind.i64.wrap ((t:Int) - 15)=((t - 15:Nat):Int):=by rw [IntWalk.i64_in _ aa];omega
   have w2:IntKind.i64.wrap ((t:Int) - 2)=((t - 2:Nat):Int):=by rw [IntWalk.i64_in _ aa];omega
   have w3:IntKind.i64.wrap ((t:Int) - 7)=((t - 7:Nat):Int):=by rw [IntWalk.i64_in _ aa];omega
   have w4:IntKind.i64.wrap ((t:Int) - 16)=((t - 16:Nat):Int):=by rw [IntWalk.i64_in _ aa];omega
   have hst:=asj (b:=b) (t:=t) aa
   have hx2:wx2 (Yv b t)=Sc (Sc (Sc (Su (Su (ror 17 ((Yv b t).getD (t - 2) 0)) (ror 19 ((Yv b t).getD (t - 2) 0))) (I7 10 ((Yv b t).getD (t - 2) 0))) ((Yv b t).getD (t - 7) 0)) (Su (Su (ror 7 ((Yv b t).getD (t - 15) 0)) (ror 18 ((Yv b t).getD (t - 15) 0))) (I7 3 ((Yv b t).getD (t - 15) 0)))) ((Yv b t).getD (t - 16) 0):=by
    unfold wx2;rw [hwl]
   rw [← ash,hx2] at hst;clear hx2
   have gg:∀ i,i<t→(Yv b t)[i]?=some ((Yv b t).getD i 0):=fun i hi=>by
    rw [aw,am aa];rfl
   have g15:=gg (t - 15) aa;have g2:=gg (t - 2) aa;have g7:=gg (t - 7) aa;have g16:=gg (t - 16) aa;clear gg;generalize (Yv b t).getD (t - 15) 0=x at g15 hst;generalize (Yv b t).getD (t - 2) 0=y at g2 hst;generalize (Yv b t).getD (t - 7) 0=u at g7 hst;generalize (Yv b t).getD (t - 16) 0=v at g16 hst;have o15:((t - 15:Nat):Int)<(t:Int):=aa;have o2:((t - 2:Nat):Int)<(t:Int):=aa;have o7:((t - 7:Nat):Int)<(t:Int):=aa;have o16:((t - 16:Nat):Int)<(t:Int):=aa;generalize t - 15=t15 at *;generalize t - 2=t2 at *;generalize t - 7=t7 at *;generalize t - 16=t16 at *;simp [go_sem,i16];refine B7 [0,1,2,3,4,5,6,7,8,9,10,11] [] 0 (k:=12) ?_;intro G hG;simp [go_sem,w1,w2,adb,X2,hwl,g15,g2];refine ⟨aa,aa,hG _ _ ?_⟩;clear hG G;simp [go_sem];refine a9 (SR x 7 7 rfl aa) ae ?_;simp [go_sem];refine a9 (SR x 18 18 rfl aa) ae ?_;simp [go_sem,J7,IntKind.bits,auG];refine a9 (SR y 17 17 rfl aa) ae ?_;simp [go_sem];refine a9 (SR y 19 19 rfl aa) ae ?_;simp [go_sem,J7,IntKind.bits,aqv];refine B7 [0,1,2,3,4,5,6,7,8,9,10,11,12,13,14,15] [(16,[]),(17,[]),(18,[])] 1 (k:=19) ?_;intro G hG;simp [go_sem,w3,w4,adb,X2,hwl,g7,g16,J0];rw [aeR,← hst];refine ⟨aa,aa,aa,hG _ _ ?_⟩;clear hG G;have w5:=j6 (k:=t) aa;simp [go_sem,w5];refine c8 (t+1) aa aa ?_;simp [m7,c6,fv,lk,AV.low,AV.low1,nw,nb];exact Ve _ _
 ·have ht64:t=64:=aa;subst ht64;rw [aoV] at *;unfold Go.Sha.take ac4;generalize hR:Vz rdp 0 (K.zip (UI b)) s=R;have hzl:(K.zip (UI b)).length=64:=by rw [List.length_zip,Wy,Zi];rfl
  generalize UI b=ws at *;simp [go_sem,nw,asl];refine ⟨by simp [X2,S8.l],?_⟩
  refine j9 (fun t:Nat × S8=>⟨[(0,.d (nw s.l)),(1,.d (nw K)),(7,.own 32 0 64 64),(13,.own 192 0 8 8),(14,.d (.int .i64 (t.1:Int)))],[(32,⟨53,1,ZB ws⟩),(192,⟨53,1,ZB t.2.l⟩)],3000⟩)
   (fun t=>t.1≤64∧Vz rdp t.1 (K.zip ws) t.2=R) (fun t=>64 - t.1) (0,s) ⟨aa,hR⟩ (by
    simp [m7,c6,fv,lk,AV.low,AV.low1,nw]
    exact ⟨rfl,Ve _ _,Ve _ _⟩) ?_
  clear hR;rintro ⟨t,v⟩ ⟨ht,hR⟩;simp only at ht hR;simp only [go_sem,Nat.reduceEqDiff,Nat.reduceAdd,Nat.reduceLT,↓reduceIte,Nat.reduceMul];refine ⟨fun h=>?_,fun h=>?_⟩
  ·obtain ⟨k,hk,_⟩:=t5 (l:=K) (k:=t) (by rw [Zi];omega);obtain ⟨w,hw,_⟩:=t5 (l:=ws) (k:=t) aa;have hz:(K.zip ws)[t]?=some (k,w):=by rw [List.getElem?_zip_eq_some];exact ⟨hk,hw⟩
   rw [Xg rdp hz] at hR;refine B7 [0,1,2,3,4,5,6,7,8,9,10,11] [] 0 (k:=12) ?_;intro G hG;simp [go_sem,ZB,S8.l];refine hG _ _ ?_;clear hG G;simp [go_sem];refine B7 [0,1,2,3,5,8,12,13,14,15,16,17,18,19,20,21,22,23,25,26,27,28,30,31,32,33] [(4,[]),(6,[7]),(9,[10,11,24,29,34,35])] 3 (k:=36) ?_;intro G hG;simp [go_sem,nw,hk,hw,J7,O8,asm,J0];refine ⟨aa,hwl,?_⟩;refine a9 (SR v.e 6 6 rfl aa) ae ?_;simp [go_sem,J7,O8,J0];refine a9 (SR v.e 11 11 rfl aa) ae ?_;simp [go_sem,J7,O8,J0];refine a9 (SR v.e 25 25 rfl aa) ae ?_;simp [go_sem,J7,O8,J0]
   have hT1:Sc (Sc (Sc (Sc v.h (Su (Su (ror 6 v.e) (ror 11 v.e)) (ror 25 v.e))) (Su (n32 v.e v.f) (n32 (c32 v.e) v.g))) k) w=T1 v k w:=by
    rw [SQ aa,SQ aa,SQ aa];unfold T1;with_reducible rfl
   rw [hT1];refine hG _ _ ?_;clear hG G;simp [go_sem];refine B7 [0,2,5,8,9,10,11,12,13,14,15,16,17,18,19,20,21,22] [(1,[]),(3,[4]),(6,[7,23,24])] 3 (k:=25) ?_;intro G hG;simp [go_sem,J7,O8,J0];refine a9 (SR v.a 2 2 rfl aa) ae ?_;simp [go_sem,J7,O8,J0];refine a9 (SR v.a 13 13 rfl aa) ae ?_;simp [go_sem,J7,O8,J0];refine a9 (SR v.a 22 22 rfl aa) ae ?_;simp [go_sem,J7,O8,J0]
   have hT2:Sc (Su (Su (ror 2 v.a) (ror 13 v.a)) (ror 22 v.a)) (Su (Su (n32 v.a v.b) (n32 v.a v.c)) (n32 v.b v.c))=T2 v:=by
    rw [SQ aa,SQ aa,SQ aa];unfold T2;with_reducible rfl
   rw [hT2];refine hG _ _ ?_;clear hG G;simp [go_sem];refine B7 [0,1,2,3,4,5,6,7,8,9,10,11,12,13,14,15,16,17,18,19,20,21,22,23,24,25] [(26,[]),(27,[])] 0 (k:=28) ?_;intro G hG;simp [go_sem,J0];refine hG _ _ ?_;clear hG G;have w3:=j6 (k:=t) aa;simp [go_sem,w3];refine UG (t+1,rdp v (k,w)) ⟨by simp only;omega,hR⟩ (by simp only;omega) [(32,32),(6232,192)] 2000 (by decide) (by decide) (by decide) (by decide) ?_;simp [Zy,YG,D9,AV.ren,Blk.ren,x7,m7,c6,fv,lk,AV.low,AV.low1,nw,AV.renL,rdp,rd,ZB,S8.l]
  ·have ht64:t=64:=aa;subst ht64;rw [YJ rdp aa] at hR;subst hR;rw [show (Zg s v).l=Vd s.l 8 v.l from (alD s v).symm];have hsl:s.l.length=8:=rfl;have hvl:v.l.length=8:=rfl;generalize s.l=sl at *;generalize v.l=vl at *
   refine j9 (fun i:Nat=>⟨[(0,.d (nw sl)),(13,.own 192 0 8 8),(20,.d (.int .i64 (i:Int)))],[(192,⟨53,1,ZB (Vd sl i vl)⟩)],3200⟩)
    (fun i=>i≤8) (fun i=>8 - i) 0 aa (by
     simp [m7,c6,fv,lk,AV.low,AV.low1,nw,Vd]
     exact Ve _ _) ?_
   intro i hi;have hal:=aeQ sl vl i;simp only [go_sem,Nat.reduceEqDiff,Nat.reduceAdd,Nat.reduceLT,↓reduceIte,Nat.reduceMul];refine ⟨fun h=>?_,fun h=>?_⟩
   ·have e1:(Vd sl i vl)[i]?=some ((Vd sl i vl).getD i 0):=by rw [aw,am aa];rfl
    have e2:sl[i]?=some (sl.getD i 0):=by rw [aw,am aa];rfl
    have e3:Vd sl (i+1) vl=(Vd sl i vl).set i (Sc ((Vd sl i vl).getD i 0) (sl.getD i 0)):=rfl;generalize (Vd sl i vl).getD i 0=x at *;generalize sl.getD i 0=y at *;generalize Vd sl i vl=A at *;refine B7 [0,1,2,3,4,5,6,7,8,9,10,11] [(12,[])] 0 (k:=13) ?_;intro G hG;simp [go_sem,nw,adb,e1,e2,J0,X2,aoW];refine ⟨aa,aa,aa,aa,hG _ _ ?_⟩;clear hG G;have w5:=j6 (k:=i) aa;simp [go_sem,w5];refine c8 (i+1) aa aa ?_;simp [m7,c6,fv,lk,AV.low,AV.low1,nw,e3];exact Ve _ _
   ·have hi8:i=8:=aa;subst hi8;simp [go_sem,d7];have:=aax (id:=192) (L:=Vd sl 8 vl) (Q:=fun r=>r=AV.d (nw (Vd sl 8 vl))) (st:=⟨[],[(192,⟨53,1,ZB (Vd sl 8 vl)⟩)],0⟩) rfl rfl;rw [hal,hvl] at this;exact this
end Go.Proofs.YtldccnbokbieiaaGreat
namespace Go.Sha
theorem UJ (x:Nat):t8 x<256:=Nat.mod_lt _ (by decide)
theorem aay (m:Nat):∀ j x,x ∈ Go.Proofs.YtldccnbokbieiaaGreat.len8 m j→x<256
 | 0,x,h=>by simp [Go.Proofs.YtldccnbokbieiaaGreat.len8] at h
 | j+1,x,h=>by
  rcases au.1 h with h | h
  ·exact aay m j x h
  ·rw [List.mem_singleton] at h;rw [h];exact UJ _
theorem Zk:∀ (n:Nat) (l:List Nat),(∀ x,x ∈ l→x<256)→∀ x,x ∈ Go.Proofs.YtldccnbokbieiaaGreat.padTo n l→x<256
 | 0,l,hl=>hl
 | n+1,l,hl=>by
  unfold Go.Proofs.YtldccnbokbieiaaGreat.padTo
  split
  ·exact hl
  ·refine Zk n _ fun x hx=>?_;rcases au.1 hx with h | h
   ·exact hl x h
   ·rw [List.mem_singleton] at h;omega
theorem adc {b:List Nat} (n:Nat) (hb:∀ x,x ∈ b→x<256):∀ x,x ∈ Go.Proofs.YtldccnbokbieiaaGreat.lastOf b n→x<256:=by
 intro x hx;rcases au.1 hx with h | h
 ·refine Zk _ _ (fun y hy=>?_) x h;rcases au.1 hy with h | h
  ·exact hb y h
  ·rw [List.mem_singleton] at h;omega
 ·exact aay _ _ x h
theorem ab4:∀ (n:Nat) (l:List Nat),(120 - l.length % 64) % 64≤n→(Go.Proofs.YtldccnbokbieiaaGreat.padTo n l).length % 64=56∧(Go.Proofs.YtldccnbokbieiaaGreat.padTo n l).length≤l.length+n
 | 0,l,h=>by
  unfold Go.Proofs.YtldccnbokbieiaaGreat.padTo;omega
 | n+1,l,h=>by
  unfold Go.Proofs.YtldccnbokbieiaaGreat.padTo
  split
  ·omega
  ·have:=ab4 n (l ++ [0]) (by rw [aj,List.length_singleton];omega);rw [aj,List.length_singleton] at this;omega
theorem agx (b:List Nat) (n:Nat):(Go.Proofs.YtldccnbokbieiaaGreat.lastOf b n).length % 64=0∧(Go.Proofs.YtldccnbokbieiaaGreat.lastOf b n).length≤b.length+73:=by
 have:=ab4 64 (b ++ [128]) aa;rw [aj,List.length_singleton] at this;unfold Go.Proofs.YtldccnbokbieiaaGreat.lastOf;rw [aj,Go.Proofs.YtldccnbokbieiaaGreat.len8_len];omega
theorem ahP (l:List Nat):∀ (n i:Nat),i<4*n→(pre l n)[i]?=some (t8 (I7 (24 - 8*(i % 4)) (l.getD (i / 4) 0)))
 | 0,i,h=>by omega
 | n+1,i,h=>by
  unfold pre;by_cases hi:i<4*n
  ·rw [List.getElem?_append_left (by rw [SO];exact hi)];exact ahP l n i hi
  ·rw [aB (by rw [SO];omega),SO];have h4:i / 4=n:=aa;rw [h4];obtain ⟨j,rfl,hj⟩:∃ j,i=4*n+j∧j<4:=⟨i - 4*n,aa,aa⟩;rw [show 4*n+j - 4*n=j by omega,show (4*n+j) % 4=j by omega];rcases (by omega:j=0 ∨ j=1 ∨ j=2 ∨ j=3) with rfl | rfl | rfl | rfl <;> rfl
theorem ab5 (l:List Nat):∀ n x,x ∈ pre l n→x<256
 | 0,x,h=>by simp [pre] at h
 | n+1,x,h=>by
  rcases au.1 h with h | h
  ·exact ab5 l n x h
  ·simp [wbk] at h;rcases h with rfl | rfl | rfl | rfl <;> exact UJ _
theorem D3 (b:List Nat):∀ x,x ∈ z7 b→x<256:=fun x h=>ab5 _ 8 x h
theorem ZK (s:S8):(dig s).length=32:=SO _ 8
end Go.Sha
namespace Go.Proofs.YtldccnbokbieiaaGreat
open Go.Am Go.Sha
theorem n9 {hp:Hp} {I:Nat→Prop} {id n:Nat} {L:List Nat} (hl:L.length=n) (hb:lk id hp=some ⟨5,1,rb L⟩) (hI:I id):SnapD hp I (.own id 0 n n) (nb L):=by
 subst hl;have h:=XY (i0:=0) (n:=L.length) (L:=L) hb hI aa;rw [List.drop_zero,aq (av _)] at h;exact h
def ade (s:S8) (i:Nat):List Nat:=(dig s).take i ++ List.replicate (32 - i) 0
theorem alE (s:S8) {i:Nat} (h:i≤32):(ade s i).length=32:=by
 unfold ade;rw [aj,List.length_take,ZK,List.length_replicate];omega
theorem alF (s:S8):ade s 32=dig s:=by
 unfold ade;rw [aq (by rw [ZK];omega)];simp
theorem ajn (s:S8) {i:Nat} (h:i<32):(ade s i).set i (t8 (I7 (24 - 8*(i % 4)) (s.l.getD (i / 4) 0)))=ade s (i+1):=by
 have hg:=ahP s.l 8 i aa;unfold ade;rw [List.set_append_right _ _ (by rw [List.length_take,ZK];omega),List.length_take,ZK,show i - min i 32=0 by omega];obtain ⟨k,hk⟩:∃ k,32 - i=k+1:=⟨31 - i,aa⟩;rw [hk,List.replicate_succ,List.set_cons_zero,show 32 - (i+1)=k by omega];rw [List.take_add_one,show (dig s)[i]?=_ from hg];simp
theorem Vf (b:List Nat) (hb:b.length≤10000000000) (hby:∀ x,x ∈ b→x<256):m6 Tryz.prog 115 [.d (nb b)] (fun r=>r=.agg (cb (z7 b))):=by
 rw [agw];refine t6 Tryz.func115 Tryz.ntmps115 (rs:=[.cell 2 23]) ae ?_;simp [go_sem];refine a9 ajk ab ?_;simp [go_sem];refine a9 (ajl b aa) ae ?_;have hLb:=adc b.length hby;obtain ⟨hLm,hLl⟩:=agx b b.length;generalize lastOf b b.length=L at *;simp [go_sem];generalize hP:E H0 L=P
 refine aeA (fun t:Nat × S8=>⟨[(2,.ptr 0 0 0 1),(3,.d (nw t.2.l)),(4,.d (nw K)),(5,.d (nb L)),(6,.d (.int .i64 ((64*t.1:Nat):Int)))],[(0,⟨23,32,[cb z32]⟩)],288⟩)
  (fun t=>64*t.1≤L.length∧E t.2 (L.drop (64*t.1))=P) (fun t=>L.length - 64*t.1) (0,H0) ⟨aa,hP⟩ [32] [(3,.d (nw H0.l))] (by
   intro p hp;simp only [List.mem_singleton] at hp;subst hp
   exact .one (d9 (aeS (L:=H0.l) rfl ab))) (by
   simp [m7,c6,fv,lk,AV.low,AV.low1,p9]
   exact o5 _ _) ?_
 clear hP;rintro ⟨j,s⟩ ⟨hj,hP⟩;simp only at hj hP;simp only [go_sem,Nat.reduceEqDiff,Nat.reduceAdd,Nat.reduceLT,↓reduceIte,Nat.reduceMul];refine ⟨fun h=>?_,fun h=>?_⟩
 ·have hlt:64*j<L.length:=by simp only [nb,AV.slen,List.length_map] at h;omega
  have h64:64≤(L.drop (64*j)).length:=by rw [aG];omega
  rw [Xk h64,List.drop_drop] at hP;have hbl:((L.drop (64*j)).take 64).length=64:=by rw [List.length_take];omega
  have hbb:∀ x,x ∈ (L.drop (64*j)).take 64→x<256:=fun x hx=>hLb x (List.mem_of_mem_drop (List.mem_of_mem_take hx));have w1:IntKind.i64.wrap (((64*j:Nat):Int)+64)=((64*j+64:Nat):Int):=by rw [IntWalk.i64_in _ aa];omega
  have hsl:((L.map fun (b:Nat)=>[DV.int .u8 (b:Int)]).take (64*j+64)).drop (64*j)=((L.drop (64*j)).take 64).map fun (b:Nat)=>[DV.int .u8 (b:Int)]:=by
   rw [List.drop_take,show 64*j+64 - 64*j=64 by omega,List.map_take,List.map_drop]
  simp only [go_sem,Nat.reduceEqDiff,Nat.reduceAdd,Nat.reduceLT,↓reduceIte,nb,w1,hsl];refine ⟨aa,aa,?_⟩;refine a9 (ajm s ((L.drop (64*j)).take 64) hbl hbb) ae ?_;simp only [go_sem,Nat.reduceEqDiff,Nat.reduceAdd,Nat.reduceLT,↓reduceIte,w1];refine c8 (j+1,Go.Sha.take s ((L.drop (64*j)).take 64)) ⟨by simp only;omega,by simp only;exact hP⟩ (by simp only;omega) ?_;simp [m7,c6,fv,lk,AV.low,AV.low1,nb];exact ⟨aa,o5 _ _⟩
 ·have hnil:L.drop (64*j)=[]:=az (by simp only [nb,AV.slen,List.length_map] at h;omega);rw [hnil,VU ab] at hP;have hs:P.1=s:=by rw [← hP]
  rw [hs];clear hP hs hnil h;simp [go_sem]
  refine j9 (fun i:Nat=>⟨[(2,.ptr 0 0 0 1),(3,.d (nw s.l)),(7,.ptr 448 0 0 1),(8,.d (.int .i64 (i:Int)))],[(0,⟨23,32,[cb z32]⟩),(448,⟨23,32,[cb (ade s i)]⟩)],700⟩)
   (fun i=>i≤32) (fun i=>32 - i) 0 aa (by
    simp [m7,c6,fv,lk,AV.low,AV.low1]
    exact ⟨o5 _ _,rfl,o5 _ _⟩) ?_
  intro i hi;have hol:=alE s hi;simp only [go_sem,Nat.reduceEqDiff,Nat.reduceAdd,Nat.reduceLT,↓reduceIte,Nat.reduceMul];refine ⟨fun h2=>?_,fun h2=>?_⟩
  ·have w1:IntKind.i64.wrap (Int.tdiv (i:Int) 4)=((i / 4:Nat):Int):=by
    have e:Int.tdiv (i:Int) 4=((i / 4:Nat):Int):=(Int.ofNat_tdiv i 4).symm;rw [e,IntWalk.i64_in _ aa]
   have w2:Int.tmod (i:Int) 4=((i % 4:Nat):Int):=by have:=Int.ofNat_tmod i 4;simpa using this.symm
   have w3:IntKind.i64.wrap (8*((i % 4:Nat):Int))=((8*(i % 4):Nat):Int):=by rw [IntWalk.i64_in _ aa];omega
   have w4:IntKind.i64.wrap (24 - ((8*(i % 4):Nat):Int))=((24 - 8*(i % 4):Nat):Int):=by rw [IntWalk.i64_in _ aa];omega
   have w5:IntKind.u64.wrap ((24 - 8*(i % 4):Nat):Int)=((24 - 8*(i % 4):Nat):Int):=by rw [L0];omega
   have w6:min (24 - 8*(i % 4)) 32=24 - 8*(i % 4):=aa;have w7:=j6 (k:=i) aa;have hst:=ajn s (i:=i) aa
   have hg:s.l[i / 4]?=some (s.l.getD (i / 4) 0):=by
    have:i / 4<s.l.length:=by show i / 4<8;omega
    rw [aw,am this];rfl
   generalize s.l.getD (i / 4) 0=x at *;generalize hA:ade s i=A at *;generalize s.l=sl at *;simp only [go_sem,Nat.reduceEqDiff,Nat.reduceAdd,Nat.reduceLT,↓reduceIte,nw,w1,w2,w3,w4,w5,w6,w7,hg,IntKind.bits,d_r,F7,aan,hst];refine ⟨by decide,by decide,aa,aa,?_⟩;refine c8 (i+1) aa aa ?_;simp [m7,c6,fv,lk,AV.low,AV.low1,hst];exact ⟨o5 _ _,o5 _ _⟩
  ·have hi32:i=32:=aa;subst hi32;rw [alF] at hol ⊢;simp [go_sem,d7,hol,d6 hol,s9];exact b7 (by simp [AV.deep];exact r6 _) rfl
theorem SD (tag:List Nat) (ts:DV) (hts:ts=.str (tag.map fun (x:Nat)=>(x:Int))) (b:List Nat) (ht:tag.length≤1000) (htb:∀ x,x ∈ tag→x<256) (hb:b.length≤1000000000) (hbb:∀ x,x ∈ b→x<256):m6 Tryz.prog 93 [.d ts,.d (nb b)] (fun r=>r=.agg (cb (G9 tag b))):=by
 subst hts;refine t6 Tryz.func93 Tryz.ntmps93 (rs:=[.cell 4 23]) ae ?_;simp [go_sem,Tryz.underlying5];refine a9 (Vf tag aa htb) ae ?_;have hD:=s8 tag;have hg:G9 tag b=z7 (z7 tag ++ (z7 tag ++ b)):=rfl;rw [hg];have hDb:=D3 tag;generalize z7 tag=D at hD hDb;have hx:=K4 hD;rw [E6] at hx;simp [go_sem] at hx;simp [go_sem,hD,s9,hx,nb,E6,o6];refine ⟨aa,?_⟩;have hl:(D ++ (D ++ b)).length=64+b.length:=by simp [hD];omega
 have hDb:∀ x,x ∈ D→x<256:=hDb
 refine u7 [192] (Vf (D ++ (D ++ b)) aa (fun x hx=>by
  rcases au.1 hx with h | h
  ·exact hDb x h
  ·rcases au.1 h with h | h
   ·exact hDb x h
   ·exact hbb x h)) rfl (c7 (.one (d9 (n9 hl (by simp [lk,← RI]) ab))) n7) ?_
 have hR:=s8 (D ++ (D ++ b));generalize z7 (D ++ (D ++ b))=R at *;simp [go_sem,p9,d7,hR,d6 hR,s9];exact b7 (by simp [AV.deep];exact r6 _) rfl
end Go.Proofs.YtldccnbokbieiaaGreat
namespace Go.Sha
theorem auP (a:Nat):t8 (t8 a)=t8 a:=by unfold t8;omega
theorem auQ (n:Nat):le (t8 n) 1=le n 1:=by simp [le,I7,auP]
theorem asn (n:Nat):le (t16 n) 2=le n 2:=by
 have e0:t8 (I7 (8*0) (t16 n))=t8 (I7 (8*0) n):=by simp only [t8,I7,t16];omega
 have e1:t8 (I7 (8*1) (t16 n))=t8 (I7 (8*1) n):=by simp only [t8,I7,t16];omega
 simp only [le,e0,e1]
theorem aso (n:Nat):le (Zf n) 4=le n 4:=by
 have e0:t8 (I7 (8*0) (Zf n))=t8 (I7 (8*0) n):=by simp only [t8,I7,Zf];omega
 have e1:t8 (I7 (8*1) (Zf n))=t8 (I7 (8*1) n):=by simp only [t8,I7,Zf];omega
 have e2:t8 (I7 (8*2) (Zf n))=t8 (I7 (8*2) n):=by simp only [t8,I7,Zf];omega
 have e3:t8 (I7 (8*3) (Zf n))=t8 (I7 (8*3) n):=by simp only [t8,I7,Zf];omega
 simp only [le,e0,e1,e2,e3]
theorem ZC (x:Nat):∀ k y,y ∈ le x k→y<256
 | 0,y,h=>by simp [le] at h
 | k+1,y,h=>by
  rcases au.1 h with h | h
  ·exact ZC x k y h
  ·rw [List.mem_singleton] at h;rw [h];exact UJ _
theorem WA (n:Nat):∀ y,y ∈ m8 n→y<256:=by
 intro y h;unfold m8 at h
 split at h
 ·exact ZC _ _ y h
 ·split at h
  ·rcases au.1 h with h | h <;> exact ZC _ _ y h
  ·rcases au.1 h with h | h <;> exact ZC _ _ y h
end Go.Sha
namespace Go.Proofs.YtldccnbokbieiaaGreat
open Go.Am Go.Sha
theorem L8 (b:List Nat) (x n:Nat) (m:Int) (hm:m=(n:Int)) (hb:b.length≤10000000000) (hx:x<18446744073709551616) (hn:n≤8):I1 Tryz.prog 113 0 [] [.d (nb b),.d (.int .u64 (x:Int)),.d (.int .i64 m)] (fun r hp'=>r=.own 33 0 (b ++ le x n).length (b ++ le x n).length∧lk 33 hp'=some ⟨5,1,rb (b ++ le x n)⟩):=by
 subst hm;refine C6 Tryz.func113 (by kernel_rfl) rfl Tryz.ntmps113 (rs:=[.tmp 6]) rfl (Ut rfl) (by decide) ?_;simp [go_sem,nb,E6,o6];refine ⟨aa,?_⟩
 refine j9 (fun k:Nat=>⟨[(1,.d (.int .u64 ((I7 (8*k) x:Nat):Int))),(2,.d (.int .i64 (n:Int))),(7,.own 33 0 (b ++ le x k).length (b ++ le x k).length),(8,.d (.int .i64 (k:Int)))],[(33,⟨5,1,rb (b ++ le x k)⟩)],300⟩)
  (fun k=>k≤n) (fun k=>n - k) 0 aa (by
   simp [m7,c6,fv,lk,AV.low,AV.low1,le,I7]
   exact s7 _ _) ?_
 intro k hk;have hl:(b ++ le x k).length=b.length+k:=by rw [aj,r9]
 have hs:rb (b ++ le x k) ++ [[AV.d (.int .u8 ((t8 (I7 (8*k) x):Nat):Int))]]=rb (b ++ le x (k+1)):=by rw [N1,ar];rfl
 have hxk:I7 (8*k) x<18446744073709551616:=Nat.lt_of_le_of_lt (Nat.div_le_self _ _) hx
 have hq:IntKind.u64.wrap (Int.tdiv ((I7 (8*k) x:Nat):Int) 256)=((I7 (8*(k+1)) x:Nat):Int):=by
  have e1:Int.tdiv ((I7 (8*k) x:Nat):Int) 256=((I7 (8*k) x / 256:Nat):Int):=(Int.ofNat_tdiv _ 256).symm
  have e2:I7 (8*k) x / 256=I7 (8*(k+1)) x:=by
   unfold I7;rw [Nat.div_div_eq_div_mul,show 2 ^ (8*k)*256=2 ^ (8*(k+1)) by rw [show 8*(k+1)=8*k+8 by omega,Nat.pow_add]]
  have h3:I7 (8*k) x / 256≤I7 (8*k) x:=Nat.div_le_self _ _;rw [e1,L0,← e2];omega
 have w5:=j6 (k:=k) aa;simp only [go_sem,Nat.reduceEqDiff,Nat.reduceAdd,Nat.reduceLT,↓reduceIte,Nat.reduceMul];refine ⟨fun h=>?_,fun h=>?_⟩
 ·simp only [go_sem,Nat.reduceEqDiff,Nat.reduceAdd,Nat.reduceLT,↓reduceIte,F7,o6,hs,r9,hq,w5];refine ⟨aa,aa,by decide,?_⟩;refine c8 (k+1) aa aa ?_;simp [m7,c6,fv,lk,AV.low,AV.low1,r9];exact ⟨aa,s7 _ _⟩
 ·have hkn:k=n:=aa;subst hkn;simp [go_sem,d7]
def aaz (L:List Nat) (r:AV) (hp':Hp):Prop:=∃ I,r=.own I 0 L.length L.length∧lk I hp'=some ⟨5,1,rb L⟩
theorem UK {g:FuncId} {args:List AV} {L:List Nat} (h:I1 Tryz.prog g 0 [] args (aaz L)) (hd:∀ v,v ∈ args→v.deep):m6 Tryz.prog g args (fun r=>r=.d (nb L)) :=
 ai7 h hd fun r hp' ⟨I,hr,hb⟩=>⟨.d (nb L),by subst hr;exact .one (d9 (n9 rfl hb trivial)),trivial,rfl⟩
theorem asp {g:FuncId} {k:Nat} {hp0:Hp} {args:List AV} {Q Q':AV→Hp→Prop} (h:I1 Tryz.prog g k hp0 args Q) (hq:∀ r hp',Q r hp'→Q' r hp'):I1 Tryz.prog g k hp0 args Q':=by
 obtain ⟨h1,hk,h2⟩:=h;refine ⟨h1,hk,fun w S σ vs a b c=>(h2 w S σ vs a b c).mono fun e w' he=>?_⟩;obtain ⟨x,r,hp',U',σ',e1,hQ,rest⟩:=he;exact ⟨x,r,hp',U',σ',e1,hq r hp' hQ,rest⟩
theorem X3 (b:List Nat) (x n:Nat) (m:Int) (hm:m=(n:Int)) (hb:b.length≤10000000000) (hx:x<18446744073709551616) (hn:n≤8):m6 Tryz.prog 113 [.d (nb b),.d (.int .u64 (x:Int)),.d (.int .i64 m)] (fun r=>r=.d (nb (b ++ le x n))) :=
 UK (asp (L8 b x n m hm hb hx hn) fun r hp' h=>⟨33,h.1,h.2⟩) ae
theorem Vg (b:List Nat) (n:Nat) (hb:b.length≤1000000) (hn:n<4294967296):I1 Tryz.prog 135 0 [] [.d (nb b),.d (.int .u64 (n:Int))] (aaz (b ++ m8 n)):=by
 refine C6 Tryz.func135 (by kernel_rfl) rfl Tryz.ntmps135 (rs:=[.tmp 4]) rfl (Ut rfl) (by decide) ?_;by_cases h1:n<253
 ·have e:m8 n=le n 1:=by unfold m8;rw [if_pos h1,auQ]
  rw [e];have i1:(n:Int)<253:=aa;simp [go_sem,i1];refine A3 [] (L8 b n 1 1 rfl aa aa aa) rfl ab ab ab (by simp [AV.renL,AV.ren]) ?_;rintro r hp' ⟨rfl,h0⟩;refine ⟨[(33,0)],rfl,?_⟩;simp [go_sem,D8,C8,h0,Blk.ren,x7,C7,AV.renL,AV.ren,D9,d7,aaz]
 ·have i1:¬ (n:Int)<253:=aa;by_cases h2:n<65536
  ·have e:m8 n=le 253 1 ++ le n 2:=by unfold m8;rw [if_neg h1,if_pos h2,asn]
   have i2:(n:Int)<65536:=aa;rw [e,← ar];simp [go_sem,i1,i2,-List.append_assoc];refine a9 (X3 b 253 1 1 rfl aa aa aa) ae ?_;simp [go_sem,-List.append_assoc];refine A3 [] (L8 (b ++ le 253 1) n 2 2 rfl (by rw [aj,r9];omega) aa aa) rfl ab ab ab (by simp [AV.renL,AV.ren]) ?_;rintro r hp' ⟨rfl,h0⟩;refine ⟨[(33,0)],rfl,?_⟩;simp [go_sem,D8,C8,h0,Blk.ren,x7,C7,AV.renL,AV.ren,D9,d7,aaz,-List.append_assoc]
  ·have e:m8 n=le 254 1 ++ le n 4:=by unfold m8;rw [if_neg h1,if_neg h2,aso]
   have i2:¬ (n:Int)<65536:=aa;have i3:(n:Int)<4294967296:=aa;rw [e,← ar];simp [go_sem,i1,i2,i3,-List.append_assoc];refine a9 (X3 b 254 1 1 rfl aa aa aa) ae ?_;simp [go_sem,-List.append_assoc];refine A3 [] (L8 (b ++ le 254 1) n 4 4 rfl (by rw [aj,r9];omega) aa aa) rfl ab ab ab (by simp [AV.renL,AV.ren]) ?_;rintro r hp' ⟨rfl,h0⟩;refine ⟨[(33,0)],rfl,?_⟩;simp [go_sem,D8,C8,h0,Blk.ren,x7,C7,AV.renL,AV.ren,D9,d7,aaz,-List.append_assoc]
theorem Uv (b x:List Nat) (hb:b.length≤1000000) (hx:x.length<1000000):I1 Tryz.prog 94 0 [] [.d (nb b),.d (nb x)] (aaz (b ++ m8 x.length ++ x)):=by
 refine C6 Tryz.func94 (by kernel_rfl) rfl Tryz.ntmps94 (rs:=[.tmp 4]) rfl (Ut rfl) (by decide) ?_;have w:IntKind.u64.wrap (x.length:Int)=(x.length:Int):=by rw [L0];omega
 have hp5:=y9 x.length;simp only [go_sem,Nat.reduceEqDiff,Nat.reduceAdd,Nat.reduceLT,↓reduceIte,nb,List.length_map,w];refine A3 [] (Vg b x.length aa aa) rfl ab ab ab (by simp [AV.renL,AV.ren,nb]) ?_;rintro r hp' ⟨I,rfl,h0⟩;refine ⟨[(I,0)],by simp [M4,RG],?_⟩;simp [go_sem,D8,C8,h0,Blk.ren,x7,C7,AV.renL,AV.ren,D9,E6,o6,d7];refine ⟨aa,161,?_,?_⟩
 ·rw [show (b ++ (m8 x.length ++ x)).length=b.length+(m8 x.length).length+x.length by simp;omega]
 ·simp [lk,← RI]
theorem Tz (b x:List Nat) (hb:b.length≤1000000) (hx:x.length<1000000):m6 Tryz.prog 94 [.d (nb b),.d (nb x)] (fun r=>r=.d (nb (b ++ (m8 x.length ++ x)))):=by
 rw [← ar];exact UK (Uv b x hb hx) ae
theorem Vh (x:List Nat) (hx:x.length≤100000) (hxb:bytes x):m6 Tryz.prog 59 [.d (nb x)] (fun r=>r=.agg (cb (E9 x))):=by
 refine t6 Tryz.func59 Tryz.ntmps59 (rs:=[.cell 2 23]) ae ?_;have hp5:=y9 x.length;simp [go_sem];refine u7 [32] (Tz [192] x ab aa) rfl (c7 (.one (d9 (n9 rfl rfl ab))) (c7 (.deep ae) n7)) ?_;simp [go_sem,p9]
 refine a9 (SD [84,97,112,76,101,97,102] (.str [84,97,112,76,101,97,102]) rfl (192 :: (m8 x.length ++ x)) ab ab (by simp;omega) (by
  intro y hy;rcases aF.1 hy with rfl | hy
  ·omega
  ·rcases au.1 hy with h | h
   ·exact WA _ y h
   ·exact hxb y h)) ae ?_
 have hL:(G9 [84,97,112,76,101,97,102] (192 :: (m8 x.length ++ x))).length=32:=s8 _;have hR:E9 x=G9 [84,97,112,76,101,97,102] (192 :: (m8 x.length ++ x)):=rfl;rw [hR];generalize G9 [84,97,112,76,101,97,102] (192 :: (m8 x.length ++ x))=R at *;simp [go_sem,d7,hL,d6 hL,s9];exact b7 (by simp [AV.deep];exact r6 _) rfl
def sb (l:List Nat):List Int:=l.map fun (x:Nat)=>(x:Int)
theorem asq {a b:List Nat}:sb a=sb b ↔ a=b:=ags
theorem alG {P:Program} {s t:TypeId} {Kk:AV→Hp→Prop} {hp:Hp} (l:List Nat) (el:TypeId) (hb:bytes l) (h1:C3 P s=.slice el) (h2:C3 P t=.str) (h3:P.underlying el=some (.int .u8)) (hK:Kk (.d (.str (sb l))) hp):cvO P s t (some (rb l)) Kk hp:=by
 refine ⟨sb l,by simp [rb,sb],fun b h=>?_,?_⟩
 ·simp only [sb,List.mem_map] at h;obtain ⟨x,hx,rfl⟩:=h;have:=hb x hx;omega
 ·rw [h1,h2];exact ⟨h3,hK⟩
theorem aeT:∀ (x y:List UInt8),Lib.compareBytes x y<0 ↔ Op.bytesLess x y=true
 | [],[]=>by simp [Lib.compareBytes,Op.bytesLess]
 | [],_ :: _=>by simp [Lib.compareBytes,Op.bytesLess]
 | _ :: _,[]=>by simp [Lib.compareBytes,Op.bytesLess]
 | a :: x,b :: y=>by
  have ih:=aeT x y;simp only [Lib.compareBytes,Op.bytesLess];by_cases h1:a<b
  ·simp [h1]
  ·by_cases h2:b<a
   ·have:a ≠ b:=fun e=>by subst e;exact h1 h2
    simp [h1,h2,this]
   ·have:a=b:=UInt8.toNat_inj.1 (by
     have e1:¬ a.toNat<b.toNat:=fun h=>h1 (UInt8.lt_iff_toNat_lt.2 h);have e2:¬ b.toNat<a.toNat:=fun h=>h2 (UInt8.lt_iff_toNat_lt.2 h)
     omega)
    subst this;simp only [h1,if_false,decide_false,Bool.false_or,beq_self_eq_true,Bool.true_and];exact ih
theorem alH {a:List Nat} (h:bytes a):(Sj a).map (fun c=>(c.toNat:Int))=sb a:=by
 unfold Sj Lib.bytesOf sb;rw [List.map_map,List.map_map];apply List.map_congr_left;intro x hx;have:=h x hx;simp only [Function.comp_apply,Int.toNat_natCast];rw [UInt8.toNat_ofNat',Nat.mod_eq_of_lt aa]
theorem alI {a b:List Nat} (ha:bytes a) (hb:bytes b):(!(H6 (sb a) (sb b) || decide (sb a=sb b)))=decide (0<Lib.compareBytes (Sj a) (Sj b)):=by
 have h1:=aeT (Sj a) (Sj b);rw [Z7,alH ha,alH hb] at h1;obtain ⟨h3,h4⟩:=X1 (Sj a) (Sj b);by_cases e:a=b
 ·subst e;have h0:¬ 0<Lib.compareBytes (Sj a) (Sj a):=fun h=>by have:=h3.1 h;omega
  simp [h0]
 ·have hne:sb a ≠ sb b:=fun h=>e (asq.1 h);have h0:Lib.compareBytes (Sj a) (Sj b) ≠ 0:=fun h=>e (ac7 ha hb (h4 h))
  cases hl:H6 (sb a) (sb b) with
  | true =>
   have:=h1.2 hl;have h5:¬ 0<Lib.compareBytes (Sj a) (Sj b):=aa;simp [h5]
  | false =>
   have h6:¬ Lib.compareBytes (Sj a) (Sj b)<0:=fun h=>by rw [h1.1 h] at hl;cases hl
   have h5:0<Lib.compareBytes (Sj a) (Sj b):=aa;simp [h5,hne]
theorem aaA (a b:List Nat) (ha:a.length=32) (hb:b.length=32) (hab:bytes a) (hbb:bytes b):m6 Tryz.prog 60 [.agg (cb a),.agg (cb b)] (fun r=>r=.agg (cb (w9 a b))):=by
 refine t6 Tryz.func60 Tryz.ntmps60 (rs:=[.cell 4 23]) (by simp [AV.deep];exact ⟨r6 _,r6 _⟩) ?_;have hx1:=K4 ha;have hx2:=K4 hb;rw [E6] at hx1 hx2;simp [go_sem] at hx1 hx2;simp [go_sem,ha,hb];refine B7 [0,1,2,3] [] 0 (k:=4) ?_;intro G hG;simp [go_sem];refine hG _ _ ?_;clear hG G;simp [go_sem,hx1,hx2];refine alG a 5 hab (by simp [go_sem]) (by simp [go_sem]) Tryz.underlying5 ?_;simp [go_sem,hx1,hx2];refine alG b 5 hbb (by simp [go_sem]) (by simp [go_sem]) Tryz.underlying5 ?_;by_cases hc:0<Lib.compareBytes (Sj a) (Sj b)
 ·simp [go_sem,alI hab hbb,hc,hx1,hx2,o6,ha,hb];have hl:(b ++ a).length=64:=by rw [aj];omega
  refine u7 [512] (SD A9 (.str [84,97,112,66,114,97,110,99,104]) rfl (b ++ a) (by simp [A9]) (by simp [A9]) aa (fun z hz=>by
   rcases au.1 hz with h | h
   ·exact hbb z h
   ·exact hab z h)) rfl (c7 (.deep ae) (c7 (.one (d9 (n9 hl (by simp [lk,← RI]) ab))) n7)) ?_
  have hR:w9 a b=G9 A9 (b ++ a):=by unfold w9;rw [if_pos hc]
  rw [hR];have hL:(G9 A9 (b ++ a)).length=32:=s8 _;generalize G9 A9 (b ++ a)=R at *;simp [go_sem,p9,hL,d7,d6 hL,s9];exact b7 (by simp [AV.deep];exact r6 _) rfl
 ·simp [go_sem,alI hab hbb,hc,hx1,hx2,o6,ha,hb];have hl:(a ++ b).length=64:=by rw [aj];omega
  refine u7 [384] (SD A9 (.str [84,97,112,66,114,97,110,99,104]) rfl (a ++ b) (by simp [A9]) (by simp [A9]) aa (fun z hz=>by
   rcases au.1 hz with h | h
   ·exact hab z h
   ·exact hbb z h)) rfl (c7 (.deep ae) (c7 (.one (d9 (n9 hl (by simp [lk,← RI]) ab))) n7)) ?_
  have hR:w9 a b=G9 A9 (a ++ b):=by unfold w9;rw [if_neg hc]
  rw [hR];have hL:(G9 A9 (a ++ b)).length=32:=s8 _;generalize G9 A9 (a ++ b)=R at *;simp [go_sem,p9,hL,d7,d6 hL,s9];exact b7 (by simp [AV.deep];exact r6 _) rfl
theorem alJ (inner:List Nat) (ps:List (List Nat)) (x:List Nat) (hi:inner.length=32) (hp32:∀ p,p ∈ ps→p.length=32∧bytes p) (hps:ps.length≤1000) (hx:x.length≤100000) (hxb:bytes x) :
  m6 Tryz.prog 90 [.agg (s5 inner (.d (J1 ps)) (.d (nb x)))] (fun r=>r=.agg (cb (M5 ps (E9 x)))):=by
 have hleaf:(AV.agg (s5 inner (.d (J1 ps)) (.d (nb x)))).deep:=ajj trivial trivial;refine t6 Tryz.func90 Tryz.ntmps90 (rs:=[.cell 2 23]) (by intro v hv;simp at hv;subst hv;exact hleaf) ?_;simp [go_sem,s5,P9 hi];refine a9 (Vh x hx hxb) ae ?_;have hL:(E9 x).length=32:=RU x;have hLb:bytes (E9 x):=D3 _;have hR:M5 ps (E9 x)=M5 (ps.drop 0) (E9 x):=by rw [List.drop_zero]
 rw [hR];generalize E9 x=R at *;generalize hT:M5 (ps.drop 0) R=T;clear hR;simp [go_sem,hL,d6 hL,s9,hi]
 refine j9 (fun t:Nat × List Nat=>⟨[(1,.ptr 0 0 0 1),(2,.ptr 32 0 0 1),(3,.ptr 160 0 0 1),(4,.d (.int .i64 (t.1:Int)))],[(0,⟨27,34,[s5 inner (.d (J1 ps)) (.d (nb x))]⟩),(32,⟨23,32,[cb z32]⟩),(160,⟨23,32,[cb t.2]⟩)],256⟩)
  (fun t=>t.1≤ps.length∧t.2.length=32∧bytes t.2∧M5 (ps.drop t.1) t.2=T) (fun t=>ps.length - t.1) (0,R) ⟨aa,hL,hLb,hT⟩ (by
   simp [m7,c6,fv,lk,AV.low,AV.low1,s5];refine ⟨fun v hv=>?_,o5 _ _,o5 _ _⟩;rcases hv with hv | rfl | rfl
   ·exact o5 _ _ v hv
   ·trivial
   ·trivial) ?_
 clear hT hL hLb;rintro ⟨k,h⟩ ⟨hk,hh,hhb,hT'⟩;simp only at hk hh hhb hT';simp only [go_sem,Nat.reduceEqDiff,Nat.reduceAdd,Nat.reduceLT,↓reduceIte];simp [go_sem,s5,K0 hi,J1];refine ⟨fun hlt=>?_,fun hge=>?_⟩
 ·have hlt':k<ps.length:=aa;have hp:=am hlt';generalize ps[k]=p at hp;obtain ⟨hpl,hpb⟩:=hp32 p (ao hp);rw [aas hp] at hT';refine B7 [0,1,2,3,4,5] [(6,[]),(7,[])] 0 (k:=8) ?_;intro G hG;simp [go_sem,s5,K0 hi,J1,hp,H3,hpl,Tj,d6 hpl,d0,hh,d6 hh,s9];refine a9 (aaA h p hh hpl hhb hpb) (by simp [AV.deep];exact ⟨r6 _,r6 _⟩) ?_;have hB:=M6 h p;have hBb:bytes (w9 h p):=D3 _;generalize w9 h p=B at *;simp [go_sem,d0,hB,hh,d6 hB,K5 hh];refine hG _ _ ?_;clear hG G;have w:=j6 (k:=k) aa;simp [go_sem,w];refine c8 (k+1,B) ⟨aa,hB,hBb,hT'⟩ (by simp only;omega) ?_;simp [m7,c6,fv,lk,AV.low,AV.low1,s5,J1];refine ⟨fun v hv=>?_,o5 _ _,o5 _ _⟩;rcases hv with hv | rfl | rfl
  ·exact o5 _ _ v hv
  ·trivial
  ·trivial
 ·have hkn:k=ps.length:=aa;subst hkn;have:T=h:=by rw [← hT',List.drop_length];rfl
  subst this;simp [go_sem,d7,hh,d6 hh,s9];exact b7 (by simp [AV.deep];exact r6 _) rfl
end Go.Proofs.YtldccnbokbieiaaGreat
