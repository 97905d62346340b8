/-
 Part 5 of what the claim rests on.
-/
import Derived.Test.YtmfnimjnneflnaaGreatW2
import Derived.Test.YtmfnimjnneflnaaGreatW3
import Derived.Test.YtmfnimjnneflnaaGreatRows
set_option linter.unusedVariables false
set_option linter.unusedSimpArgs false
set_option maxRecDepth 100000
set_option maxHeartbeats 16000000
namespace Go.Proofs.YtmfnimjnneflnaaGreat
open Go.Am
@[go_sem] theorem k2:bS Tryz.prog 2=.scal:=by kernel_rfl
@[go_sem] theorem c2:Tryz.prog.cellsOf 2=1:=by kernel_rfl
@[go_sem] theorem b2:Tryz.prog.bytesOf 2=8:=by kernel_rfl
@[go_sem] theorem z2:fa Tryz.prog 2=some [.d (.int .i64 0)]:=by kernel_rfl
@[go_sem] theorem i2:iV Tryz.prog 2=some .i64:=by kernel_rfl
@[go_sem] theorem u2:(Tryz.prog.underlying 2).isSome=true:=by kernel_rfl
@[go_sem] theorem k3:bS Tryz.prog 3=.scal:=by kernel_rfl
@[go_sem] theorem c3:Tryz.prog.cellsOf 3=1:=by kernel_rfl
@[go_sem] theorem b3:Tryz.prog.bytesOf 3=8:=by kernel_rfl
@[go_sem] theorem z3:fa Tryz.prog 3=some [.d (.int .i64 0)]:=by kernel_rfl
@[go_sem] theorem i3:iV Tryz.prog 3=some .i64:=by kernel_rfl
@[go_sem] theorem u3:(Tryz.prog.underlying 3).isSome=true:=by kernel_rfl
@[go_sem] theorem k4:bS Tryz.prog 4=.scal:=by kernel_rfl
@[go_sem] theorem c4:Tryz.prog.cellsOf 4=1:=by kernel_rfl
@[go_sem] theorem b4:Tryz.prog.bytesOf 4=1:=by kernel_rfl
@[go_sem] theorem z4:fa Tryz.prog 4=some [.d (.bool false)]:=by kernel_rfl
@[go_sem] theorem u4:(Tryz.prog.underlying 4).isSome=true:=by kernel_rfl
@[go_sem] theorem k5:bS Tryz.prog 5=.scal:=by kernel_rfl
@[go_sem] theorem c5:Tryz.prog.cellsOf 5=1:=by kernel_rfl
@[go_sem] theorem b5:Tryz.prog.bytesOf 5=1:=by kernel_rfl
@[go_sem] theorem z5:fa Tryz.prog 5=some [.d (.int .u8 0)]:=by kernel_rfl
@[go_sem] theorem i5:iV Tryz.prog 5=some .u8:=by kernel_rfl
@[go_sem] theorem u5:(Tryz.prog.underlying 5).isSome=true:=by kernel_rfl
@[go_sem] theorem k9:bS Tryz.prog 9=.str:=by kernel_rfl
@[go_sem] theorem c9:Tryz.prog.cellsOf 9=1:=by kernel_rfl
@[go_sem] theorem b9:Tryz.prog.bytesOf 9=16:=by kernel_rfl
@[go_sem] theorem z9:fa Tryz.prog 9=some [.d (.str [])]:=by kernel_rfl
@[go_sem] theorem u9:(Tryz.prog.underlying 9).isSome=true:=by kernel_rfl
@[go_sem] theorem k22:bS Tryz.prog 22=.scal:=by kernel_rfl
@[go_sem] theorem c22:Tryz.prog.cellsOf 22=1:=by kernel_rfl
@[go_sem] theorem b22:Tryz.prog.bytesOf 22=4:=by kernel_rfl
@[go_sem] theorem z22:fa Tryz.prog 22=some [.d (.int .u32 0)]:=by kernel_rfl
@[go_sem] theorem i22:iV Tryz.prog 22=some .u32:=by kernel_rfl
@[go_sem] theorem u22:(Tryz.prog.underlying 22).isSome=true:=by kernel_rfl
@[go_sem] theorem k23:bS Tryz.prog 23=.slice 68:=by kernel_rfl
@[go_sem] theorem c23:Tryz.prog.cellsOf 23=1:=by kernel_rfl
@[go_sem] theorem b23:Tryz.prog.bytesOf 23=24:=by kernel_rfl
@[go_sem] theorem z23:fa Tryz.prog 23=some [.nil]:=by kernel_rfl
@[go_sem] theorem u23:(Tryz.prog.underlying 23).isSome=true:=by kernel_rfl
@[go_sem] theorem k24:bS Tryz.prog 24=.slice 57:=by kernel_rfl
@[go_sem] theorem c24:Tryz.prog.cellsOf 24=1:=by kernel_rfl
@[go_sem] theorem b24:Tryz.prog.bytesOf 24=24:=by kernel_rfl
@[go_sem] theorem z24:fa Tryz.prog 24=some [.nil]:=by kernel_rfl
@[go_sem] theorem u24:(Tryz.prog.underlying 24).isSome=true:=by kernel_rfl
@[go_sem] theorem k26:bS Tryz.prog 26=.struct [(0,22),(1,23),(2,24),(3,22)]:=by kernel_rfl
@[go_sem] theorem c26:Tryz.prog.cellsOf 26=4:=by kernel_rfl
@[go_sem] theorem b26:Tryz.prog.bytesOf 26=64:=by kernel_rfl
@[go_sem] theorem z26:fa Tryz.prog 26=some [.d (.int .u32 0),.nil,.nil,.d (.int .u32 0)]:=by kernel_rfl
@[go_sem] theorem u26:(Tryz.prog.underlying 26).isSome=true:=by kernel_rfl
@[go_sem] theorem k28:bS Tryz.prog 28=.struct [(0,26),(4,3),(5,24)]:=by kernel_rfl
@[go_sem] theorem c28:Tryz.prog.cellsOf 28=6:=by kernel_rfl
@[go_sem] theorem b28:Tryz.prog.bytesOf 28=96:=by kernel_rfl
@[go_sem] theorem z28:fa Tryz.prog 28=some [.d (.int .u32 0),.nil,.nil,.d (.int .u32 0),.d (.int .i64 0),.nil]:=by kernel_rfl
@[go_sem] theorem u28:(Tryz.prog.underlying 28).isSome=true:=by kernel_rfl
@[go_sem] theorem k29:bS Tryz.prog 29=.arr 32 5:=by kernel_rfl
@[go_sem] theorem c29:Tryz.prog.cellsOf 29=32:=by kernel_rfl
@[go_sem] theorem b29:Tryz.prog.bytesOf 29=32:=by kernel_rfl
@[go_sem] theorem u29:(Tryz.prog.underlying 29).isSome=true:=by kernel_rfl
@[go_sem] theorem k30:bS Tryz.prog 30=.slice 29:=by kernel_rfl
@[go_sem] theorem c30:Tryz.prog.cellsOf 30=1:=by kernel_rfl
@[go_sem] theorem b30:Tryz.prog.bytesOf 30=24:=by kernel_rfl
@[go_sem] theorem z30:fa Tryz.prog 30=some [.nil]:=by kernel_rfl
@[go_sem] theorem u30:(Tryz.prog.underlying 30).isSome=true:=by kernel_rfl
@[go_sem] theorem k31:bS Tryz.prog 31=.slice 5:=by kernel_rfl
@[go_sem] theorem c31:Tryz.prog.cellsOf 31=1:=by kernel_rfl
@[go_sem] theorem b31:Tryz.prog.bytesOf 31=24:=by kernel_rfl
@[go_sem] theorem z31:fa Tryz.prog 31=some [.nil]:=by kernel_rfl
@[go_sem] theorem u31:(Tryz.prog.underlying 31).isSome=true:=by kernel_rfl
@[go_sem] theorem ZM:bS Tryz.prog 32=.struct [(0,29),(32,30),(33,31)]:=by kernel_rfl
@[go_sem] theorem ZN:Tryz.prog.cellsOf 32=34:=by kernel_rfl
@[go_sem] theorem ZO:Tryz.prog.bytesOf 32=80:=by kernel_rfl
@[go_sem] theorem ZP:(Tryz.prog.underlying 32).isSome=true:=by kernel_rfl
@[go_sem] theorem k33:bS Tryz.prog 33=.struct [(0,29),(32,30),(33,31)]:=by kernel_rfl
@[go_sem] theorem c33:Tryz.prog.cellsOf 33=34:=by kernel_rfl
@[go_sem] theorem b33:Tryz.prog.bytesOf 33=80:=by kernel_rfl
@[go_sem] theorem u33:(Tryz.prog.underlying 33).isSome=true:=by kernel_rfl
@[go_sem] theorem k34:bS Tryz.prog 34=.slice 31:=by kernel_rfl
@[go_sem] theorem c34:Tryz.prog.cellsOf 34=1:=by kernel_rfl
@[go_sem] theorem b34:Tryz.prog.bytesOf 34=24:=by kernel_rfl
@[go_sem] theorem z34:fa Tryz.prog 34=some [.nil]:=by kernel_rfl
@[go_sem] theorem u34:(Tryz.prog.underlying 34).isSome=true:=by kernel_rfl
@[go_sem] theorem k42:bS Tryz.prog 42=.struct [(0,5),(1,31)]:=by kernel_rfl
@[go_sem] theorem c42:Tryz.prog.cellsOf 42=2:=by kernel_rfl
@[go_sem] theorem b42:Tryz.prog.bytesOf 42=32:=by kernel_rfl
@[go_sem] theorem z42:fa Tryz.prog 42=some [.d (.int .u8 0),.nil]:=by kernel_rfl
@[go_sem] theorem u42:(Tryz.prog.underlying 42).isSome=true:=by kernel_rfl
@[go_sem] theorem k44:bS Tryz.prog 44=.slice 42:=by kernel_rfl
@[go_sem] theorem c44:Tryz.prog.cellsOf 44=1:=by kernel_rfl
@[go_sem] theorem b44:Tryz.prog.bytesOf 44=24:=by kernel_rfl
@[go_sem] theorem z44:fa Tryz.prog 44=some [.nil]:=by kernel_rfl
@[go_sem] theorem u44:(Tryz.prog.underlying 44).isSome=true:=by kernel_rfl
@[go_sem] theorem k45:bS Tryz.prog 45=.slice 55:=by kernel_rfl
@[go_sem] theorem c45:Tryz.prog.cellsOf 45=1:=by kernel_rfl
@[go_sem] theorem b45:Tryz.prog.bytesOf 45=24:=by kernel_rfl
@[go_sem] theorem z45:fa Tryz.prog 45=some [.nil]:=by kernel_rfl
@[go_sem] theorem u45:(Tryz.prog.underlying 45).isSome=true:=by kernel_rfl
@[go_sem] theorem k46:bS Tryz.prog 46=.scal:=by kernel_rfl
@[go_sem] theorem c46:Tryz.prog.cellsOf 46=1:=by kernel_rfl
@[go_sem] theorem b46:Tryz.prog.bytesOf 46=8:=by kernel_rfl
@[go_sem] theorem z46:fa Tryz.prog 46=some [.d (.int .i64 0)]:=by kernel_rfl
@[go_sem] theorem i46:iV Tryz.prog 46=some .i64:=by kernel_rfl
@[go_sem] theorem u46:(Tryz.prog.underlying 46).isSome=true:=by kernel_rfl
@[go_sem] theorem k53:bS Tryz.prog 53=.scal:=by kernel_rfl
@[go_sem] theorem c53:Tryz.prog.cellsOf 53=1:=by kernel_rfl
@[go_sem] theorem b53:Tryz.prog.bytesOf 53=8:=by kernel_rfl
@[go_sem] theorem z53:fa Tryz.prog 53=some [.d (.int .u64 0)]:=by kernel_rfl
@[go_sem] theorem i53:iV Tryz.prog 53=some .u64:=by kernel_rfl
@[go_sem] theorem u53:(Tryz.prog.underlying 53).isSome=true:=by kernel_rfl
@[go_sem] theorem k55:bS Tryz.prog 55=.struct [(0,3),(1,53)]:=by kernel_rfl
@[go_sem] theorem c55:Tryz.prog.cellsOf 55=2:=by kernel_rfl
@[go_sem] theorem b55:Tryz.prog.bytesOf 55=16:=by kernel_rfl
@[go_sem] theorem z55:fa Tryz.prog 55=some [.d (.int .i64 0),.d (.int .u64 0)]:=by kernel_rfl
@[go_sem] theorem u55:(Tryz.prog.underlying 55).isSome=true:=by kernel_rfl
@[go_sem] theorem k57:bS Tryz.prog 57=.struct [(0,53),(1,31)]:=by kernel_rfl
@[go_sem] theorem c57:Tryz.prog.cellsOf 57=2:=by kernel_rfl
@[go_sem] theorem b57:Tryz.prog.bytesOf 57=32:=by kernel_rfl
@[go_sem] theorem z57:fa Tryz.prog 57=some [.d (.int .u64 0),.nil]:=by kernel_rfl
@[go_sem] theorem u57:(Tryz.prog.underlying 57).isSome=true:=by kernel_rfl
@[go_sem] theorem k66:bS Tryz.prog 66=.struct [(0,29),(32,22)]:=by kernel_rfl
@[go_sem] theorem c66:Tryz.prog.cellsOf 66=33:=by kernel_rfl
@[go_sem] theorem b66:Tryz.prog.bytesOf 66=36:=by kernel_rfl
@[go_sem] theorem u66:(Tryz.prog.underlying 66).isSome=true:=by kernel_rfl
@[go_sem] theorem k68:bS Tryz.prog 68=.struct [(0,66),(33,22),(34,34)]:=by kernel_rfl
@[go_sem] theorem c68:Tryz.prog.cellsOf 68=35:=by kernel_rfl
@[go_sem] theorem b68:Tryz.prog.bytesOf 68=64:=by kernel_rfl
@[go_sem] theorem u68:(Tryz.prog.underlying 68).isSome=true:=by kernel_rfl
@[go_sem] theorem k73:bS Tryz.prog 73=.arr 2 2:=by kernel_rfl
@[go_sem] theorem c73:Tryz.prog.cellsOf 73=2:=by kernel_rfl
@[go_sem] theorem b73:Tryz.prog.bytesOf 73=16:=by kernel_rfl
@[go_sem] theorem z73:fa Tryz.prog 73=some [.d (.int .i64 0),.d (.int .i64 0)]:=by kernel_rfl
@[go_sem] theorem u73:(Tryz.prog.underlying 73).isSome=true:=by kernel_rfl
@[go_sem] theorem k96:bS Tryz.prog 96=.arr 4 53:=by kernel_rfl
@[go_sem] theorem c96:Tryz.prog.cellsOf 96=4:=by kernel_rfl
@[go_sem] theorem b96:Tryz.prog.bytesOf 96=32:=by kernel_rfl
@[go_sem] theorem z96:fa Tryz.prog 96=some [.d (.int .u64 0),.d (.int .u64 0),.d (.int .u64 0),.d (.int .u64 0)]:=by kernel_rfl
@[go_sem] theorem u96:(Tryz.prog.underlying 96).isSome=true:=by kernel_rfl
@[go_sem] theorem k139:bS Tryz.prog 139=.arr 3 29:=by kernel_rfl
@[go_sem] theorem c139:Tryz.prog.cellsOf 139=96:=by kernel_rfl
@[go_sem] theorem b139:Tryz.prog.bytesOf 139=96:=by kernel_rfl
@[go_sem] theorem u139:(Tryz.prog.underlying 139).isSome=true:=by kernel_rfl
@[go_sem] theorem k143:bS Tryz.prog 143=.arr 5 29:=by kernel_rfl
@[go_sem] theorem c143:Tryz.prog.cellsOf 143=160:=by kernel_rfl
@[go_sem] theorem b143:Tryz.prog.bytesOf 143=160:=by kernel_rfl
@[go_sem] theorem u143:(Tryz.prog.underlying 143).isSome=true:=by kernel_rfl
@[go_sem] theorem k155:bS Tryz.prog 155=.struct [(0,34),(1,34)]:=by kernel_rfl
@[go_sem] theorem c155:Tryz.prog.cellsOf 155=2:=by kernel_rfl
@[go_sem] theorem b155:Tryz.prog.bytesOf 155=48:=by kernel_rfl
@[go_sem] theorem z155:fa Tryz.prog 155=some [.nil,.nil]:=by kernel_rfl
@[go_sem] theorem u155:(Tryz.prog.underlying 155).isSome=true:=by kernel_rfl
@[go_sem] theorem k156:bS Tryz.prog 156=.slice 4:=by kernel_rfl
@[go_sem] theorem c156:Tryz.prog.cellsOf 156=1:=by kernel_rfl
@[go_sem] theorem b156:Tryz.prog.bytesOf 156=24:=by kernel_rfl
@[go_sem] theorem z156:fa Tryz.prog 156=some [.nil]:=by kernel_rfl
@[go_sem] theorem u156:(Tryz.prog.underlying 156).isSome=true:=by kernel_rfl
@[go_sem] theorem k158:bS Tryz.prog 158=.struct [(0,28),(6,33),(40,31),(41,155),(43,156),(44,3),(45,3),(46,45),(47,46)]:=by kernel_rfl
@[go_sem] theorem c158:Tryz.prog.cellsOf 158=48:=by kernel_rfl
@[go_sem] theorem b158:Tryz.prog.bytesOf 158=320:=by kernel_rfl
@[go_sem] theorem u158:(Tryz.prog.underlying 158).isSome=true:=by kernel_rfl
@[go_sem] theorem k164:bS Tryz.prog 164=.arr 8 22:=by kernel_rfl
@[go_sem] theorem c164:Tryz.prog.cellsOf 164=8:=by kernel_rfl
@[go_sem] theorem b164:Tryz.prog.bytesOf 164=32:=by kernel_rfl
@[go_sem] theorem z164:fa Tryz.prog 164=some [.d (.int .u32 0),.d (.int .u32 0),.d (.int .u32 0),.d (.int .u32 0),.d (.int .u32 0),.d (.int .u32 0),.d (.int .u32 0),.d (.int .u32 0)]:=by kernel_rfl
@[go_sem] theorem u164:(Tryz.prog.underlying 164).isSome=true:=by kernel_rfl
@[go_sem] theorem k167:bS Tryz.prog 167=.struct [(0,164),(8,31),(9,53)]:=by kernel_rfl
@[go_sem] theorem c167:Tryz.prog.cellsOf 167=10:=by kernel_rfl
@[go_sem] theorem b167:Tryz.prog.bytesOf 167=64:=by kernel_rfl
@[go_sem] theorem z167:fa Tryz.prog 167=some [.d (.int .u32 0),.d (.int .u32 0),.d (.int .u32 0),.d (.int .u32 0),.d (.int .u32 0),.d (.int .u32 0),.d (.int .u32 0),.d (.int .u32 0),.nil,.d (.int .u64 0)]:=by kernel_rfl
@[go_sem] theorem u167:(Tryz.prog.underlying 167).isSome=true:=by kernel_rfl
@[go_sem] theorem k169:bS Tryz.prog 169=.scal:=by kernel_rfl
@[go_sem] theorem c169:Tryz.prog.cellsOf 169=1:=by kernel_rfl
@[go_sem] theorem b169:Tryz.prog.bytesOf 169=8:=by kernel_rfl
@[go_sem] theorem z169:fa Tryz.prog 169=some [.d (.int .u64 0)]:=by kernel_rfl
@[go_sem] theorem i169:iV Tryz.prog 169=some .u64:=by kernel_rfl
@[go_sem] theorem u169:(Tryz.prog.underlying 169).isSome=true:=by kernel_rfl
@[go_sem] theorem k189:bS Tryz.prog 189=.struct [(0,96),(4,96),(8,4)]:=by kernel_rfl
@[go_sem] theorem c189:Tryz.prog.cellsOf 189=9:=by kernel_rfl
@[go_sem] theorem b189:Tryz.prog.bytesOf 189=72:=by kernel_rfl
@[go_sem] theorem z189:fa Tryz.prog 189=some [.d (.int .u64 0),.d (.int .u64 0),.d (.int .u64 0),.d (.int .u64 0),.d (.int .u64 0),.d (.int .u64 0),.d (.int .u64 0),.d (.int .u64 0),.d (.bool false)]:=by kernel_rfl
@[go_sem] theorem u189:(Tryz.prog.underlying 189).isSome=true:=by kernel_rfl
@[go_sem] theorem k204:bS Tryz.prog 204=.arr 2 34:=by kernel_rfl
@[go_sem] theorem c204:Tryz.prog.cellsOf 204=2:=by kernel_rfl
@[go_sem] theorem b204:Tryz.prog.bytesOf 204=48:=by kernel_rfl
@[go_sem] theorem z204:fa Tryz.prog 204=some [.nil,.nil]:=by kernel_rfl
@[go_sem] theorem u204:(Tryz.prog.underlying 204).isSome=true:=by kernel_rfl
@[go_sem] theorem k211:bS Tryz.prog 211=.arr 64 22:=by kernel_rfl
@[go_sem] theorem c211:Tryz.prog.cellsOf 211=64:=by kernel_rfl
@[go_sem] theorem b211:Tryz.prog.bytesOf 211=256:=by kernel_rfl
@[go_sem] theorem u211:(Tryz.prog.underlying 211).isSome=true:=by kernel_rfl
@[go_sem] theorem k217:bS Tryz.prog 217=.scal:=by kernel_rfl
@[go_sem] theorem c217:Tryz.prog.cellsOf 217=1:=by kernel_rfl
@[go_sem] theorem b217:Tryz.prog.bytesOf 217=2:=by kernel_rfl
@[go_sem] theorem z217:fa Tryz.prog 217=some [.d (.int .u16 0)]:=by kernel_rfl
@[go_sem] theorem i217:iV Tryz.prog 217=some .u16:=by kernel_rfl
@[go_sem] theorem u217:(Tryz.prog.underlying 217).isSome=true:=by kernel_rfl
@[go_sem] theorem k226:bS Tryz.prog 226=.arr 8 53:=by kernel_rfl
@[go_sem] theorem c226:Tryz.prog.cellsOf 226=8:=by kernel_rfl
@[go_sem] theorem b226:Tryz.prog.bytesOf 226=64:=by kernel_rfl
@[go_sem] theorem z226:fa Tryz.prog 226=some [.d (.int .u64 0),.d (.int .u64 0),.d (.int .u64 0),.d (.int .u64 0),.d (.int .u64 0),.d (.int .u64 0),.d (.int .u64 0),.d (.int .u64 0)]:=by kernel_rfl
@[go_sem] theorem u226:(Tryz.prog.underlying 226).isSome=true:=by kernel_rfl
@[go_sem] theorem k243:bS Tryz.prog 243=.struct [(0,96),(4,96),(8,96)]:=by kernel_rfl
@[go_sem] theorem c243:Tryz.prog.cellsOf 243=12:=by kernel_rfl
@[go_sem] theorem b243:Tryz.prog.bytesOf 243=96:=by kernel_rfl
@[go_sem] theorem z243:fa Tryz.prog 243=some [.d (.int .u64 0),.d (.int .u64 0),.d (.int .u64 0),.d (.int .u64 0),.d (.int .u64 0),.d (.int .u64 0),.d (.int .u64 0),.d (.int .u64 0),.d (.int .u64 0),.d (.int .u64 0),.d (.int .u64 0),.d (.int .u64 0)]:=by kernel_rfl
@[go_sem] theorem u243:(Tryz.prog.underlying 243).isSome=true:=by kernel_rfl
@[go_sem] theorem k283:bS Tryz.prog 283=.struct [(0,34),(1,34),(2,46)]:=by kernel_rfl
@[go_sem] theorem c283:Tryz.prog.cellsOf 283=3:=by kernel_rfl
@[go_sem] theorem b283:Tryz.prog.bytesOf 283=56:=by kernel_rfl
@[go_sem] theorem z283:fa Tryz.prog 283=some [.nil,.nil,.d (.int .i64 0)]:=by kernel_rfl
@[go_sem] theorem u283:(Tryz.prog.underlying 283).isSome=true:=by kernel_rfl
@[go_sem] theorem k290:bS Tryz.prog 290=.slice 2:=by kernel_rfl
@[go_sem] theorem c290:Tryz.prog.cellsOf 290=1:=by kernel_rfl
@[go_sem] theorem b290:Tryz.prog.bytesOf 290=24:=by kernel_rfl
@[go_sem] theorem z290:fa Tryz.prog 290=some [.nil]:=by kernel_rfl
@[go_sem] theorem u290:(Tryz.prog.underlying 290).isSome=true:=by kernel_rfl
@[go_sem] theorem k295:bS Tryz.prog 295=.slice 3:=by kernel_rfl
@[go_sem] theorem c295:Tryz.prog.cellsOf 295=1:=by kernel_rfl
@[go_sem] theorem b295:Tryz.prog.bytesOf 295=24:=by kernel_rfl
@[go_sem] theorem z295:fa Tryz.prog 295=some [.nil]:=by kernel_rfl
@[go_sem] theorem u295:(Tryz.prog.underlying 295).isSome=true:=by kernel_rfl
end Go.Proofs.YtmfnimjnneflnaaGreat
namespace Go.Sha
open Go.Am
def M:Nat:=4294967296
def my(a b:Nat):Nat:=(a+b)%4294967296
def oO(a b:Nat):Nat:=(a ^^^ b)%4294967296
def zC(a b:Nat):Nat:=(a &&& b)%4294967296
def VO(a b:Nat):Nat:=(a ||| b)%4294967296
def c32(a:Nat):Nat:=(4294967295 ^^^ a)%4294967296
def VP(n a:Nat):Nat:=a*2 ^ n%4294967296
def jr(n a:Nat):Nat:=a/2 ^ n
def IL(a:Nat):Nat:=a%4294967296
def t8(a:Nat):Nat:=a%256
def qZ(s x:Nat):Nat:=VO (VP s x) (jr (32-s) x)
theorem IM(x:Int):IntKind.u32.wrap x=x%4294967296:=by simp[IntKind.wrap,IntKind.bits,IntKind.signed]
theorem jA(x:Int):IntKind.u64.wrap x=x%18446744073709551616:=by simp[IntKind.wrap,IntKind.bits,IntKind.signed]
theorem Hm(x:Int):IntKind.u8.wrap x=x%256:=by simp[IntKind.wrap,IntKind.bits,IntKind.signed]
theorem eU(k:Nat)(a:Nat):(BitVec.ofInt k (a:Int)).toNat=a%2 ^ k:=by
 rw[BitVec.toNat_ofInt];omega
theorem fU(a b:Nat):IntKind.u32.wrap ((a:Int)+(b:Int))=((my a b:Nat):Int):=by rw[IM];unfold my;omega
theorem zD(a:Nat):IntKind.u32.wrap (a:Int)=((IL a:Nat):Int):=by rw[IM];unfold IL;omega
theorem fj(a:Nat):IntKind.u8.wrap (a:Int)=((t8 a:Nat):Int):=by rw[Hm];unfold t8;omega
theorem PX(a b:Nat):IntKind.u32.wrap ((a:Int)*(b:Int))=((a*b%4294967296:Nat):Int):=by
 rw[IM,←Int.natCast_mul];omega
theorem VQ(a n:Nat):IntKind.u32.wrap ((a:Int)*2 ^ n)=((VP n a:Nat):Int):=by
 have:=PX a (2 ^ n);rw[Int.natCast_pow]at this;exact this
theorem YC(a:Nat):IntKind.u32.wrap ((a:Int)*256)=((VP 8 a:Nat):Int):=PX a 256
theorem gU(a b:Nat):bits .xor .u32 (a:Int) (b:Int)=((oO a b:Nat):Int):=by
 show IntKind.u32.wrap (((BitVec.ofInt 32 (a:Int)) ^^^ (BitVec.ofInt 32 (b:Int))).toNat:Int)=_;rw[BitVec.toNat_xor,eU,eU,←Nat.xor_mod_two_pow,zD];unfold oO IL;congr 1;omega
theorem js(a b:Nat):bits .and .u32 (a:Int) (b:Int)=((zC a b:Nat):Int):=by
 show IntKind.u32.wrap (((BitVec.ofInt 32 (a:Int)) &&& (BitVec.ofInt 32 (b:Int))).toNat:Int)=_;rw[BitVec.toNat_and,eU,eU,←Nat.and_mod_two_pow,zD];unfold zC IL;congr 1;omega
theorem VR(a b:Nat):bits .or .u32 (a:Int) (b:Int)=((VO a b:Nat):Int):=by
 show IntKind.u32.wrap (((BitVec.ofInt 32 (a:Int)) ||| (BitVec.ofInt 32 (b:Int))).toNat:Int)=_;rw[BitVec.toNat_or,eU,eU,←Nat.or_mod_two_pow,zD];unfold VO IL;congr 1;omega
theorem PY(a:Nat):bits .xor .u32 4294967295 (a:Int)=((c32 a:Nat):Int):=gU 4294967295 a
theorem fl(a b:Nat):Int.fdiv (a:Int) (b:Int)=((a/b:Nat):Int):=by
 rw[Int.fdiv_eq_ediv_of_nonneg _ aq];exact(Int.natCast_ediv a b).symm
theorem VS(a n:Nat):Int.fdiv (a:Int) (2 ^ n)=((jr n a:Nat):Int):=by
 have:=fl a (2 ^ n);rw[Int.natCast_pow]at this;exact this
theorem YD(a:Nat):Int.fdiv (a:Int) 8=((jr 3 a:Nat):Int):=fl a 8
theorem VT(a:Nat):Int.fdiv (a:Int) 1024=((jr 10 a:Nat):Int):=fl a 1024
def cw(l:List Nat):List AV:=l.map fun(x:Nat)=>AV.d (.int .u32 (x:Int))
theorem xB(l:List Nat):(cw l).length=l.length:=by simp[cw]
theorem lI(l:List Nat)(i:Nat):(cw l)[i]?=(l[i]?).map fun(x:Nat)=>AV.d (.int .u32 (x:Int)):=by simp[cw]
theorem BM(l:List Nat)(i x:Nat):(cw l).set i (.d (.int .u32 (x:Int)))=cw (l.set i x):=by simp[cw,List.map_set]
theorem IN(ρ:Nat→Nat):∀l:List Nat,AV.renL ρ (cw l)=cw l
 |[]=>by simp[cw,AV.renL]
 |x::r=>by
  have:=IN ρ r;simp only[cw]at this;simp only[cw,List.map_cons,AV.renL,AV.ren,this]
def nb(bs:List Nat):DV:=.ro 1 (bs.map fun(b:Nat)=>[.int .u8 (b:Int)])
structure S8 where
 a:Nat
 b:Nat
 c:Nat
 d:Nat
 e:Nat
 f:Nat
 g:Nat
 h:Nat
def S8.l(s:S8):List Nat:=[s.a,s.b,s.c,s.d,s.e,s.f,s.g,s.h]
def T1(s:S8)(k w:Nat):Nat:=my (my (my (my s.h (oO (oO (qZ 26 s.e) (qZ 21 s.e)) (qZ 7 s.e))) (oO (zC s.e s.f) (zC (c32 s.e) s.g))) k) w
def T2(s:S8):Nat:=my (oO (oO (qZ 30 s.a) (qZ 19 s.a)) (qZ 10 s.a)) (oO (oO (zC s.a s.b) (zC s.a s.c)) (zC s.b s.c))
def rd(s:S8)(k w:Nat):S8:=⟨my (T1 s k w) (T2 s),s.a,s.b,s.c,my s.d (T1 s k w),s.e,s.f,s.g⟩
def Gf(s:S8)(p:Nat×Nat):S8:=rd s p.1 p.2
section
variable {α β:Type} (f:β→α→β)
def oC(t:Nat)(l:List α)(s:β):β:=(l.drop t).foldl f s
theorem tA{l:List α}{p:α}{s:β}{t:Nat}(h:l[t]?=some p):oC f t l s=oC f (t+1) l (f s p):=by
 obtain⟨h1,h2⟩:=ci.1 h;unfold oC;rw[List.drop_eq_getElem_cons h1,List.foldl_cons,h2]
theorem vP{l:List α}{s:β}{t:Nat}(h:l.length≤t):oC f t l s=s:=by
 unfold oC;rw[c_ h,List.foldl_nil]
end
def BN(ks ws:List Nat)(s:S8):S8:=oC Gf 0 (ks.zip ws) s
def Io0(s v:S8):S8:=⟨my s.a v.a,my s.b v.b,my s.c v.c,my s.d v.d,my s.e v.e,my s.f v.f,my s.g v.g,my s.h v.h⟩
def pV(b:List Nat):Nat:=b.foldl (fun x c=>VO (VP 8 x) (IL c)) 0
def wx(w:List Nat):Nat :=
 let t:=w.length
 let x:=w.getD (t-15) 0
 let y:=w.getD (t-2) 0
 let s0:=oO (oO (qZ 25 x) (qZ 14 x)) (jr 3 x)
 let s1:=oO (oO (qZ 15 y) (qZ 13 y)) (jr 10 y)
 my (my (my (w.getD (t-16) 0) s0) (w.getD (t-7) 0)) s1
def iI(b:List Nat):Nat→List Nat
 |0=>[]
 |n+1=>iI b n++[pV ((b.take (4*n+4)).drop (4*n))]
def dV(b:List Nat):Nat→List Nat
 |0=>iI b 16
 |n+1=>dV b n++[wx (dV b n)]
theorem oP(b:List Nat):∀n,(iI b n).length=n
 |0=>rfl
 |n+1=>by simp[iI,oP b n]
theorem rf(b:List Nat):∀n,(dV b n).length=n+16
 |0=>oP b 16
 |n+1=>by
  have:=rf b n;simp only[dV,b_,this,List.length_singleton]
def pW(b:List Nat):List Nat:=dV b 48
theorem rh(b:List Nat):(pW b).length=64:=rf b 48
def K:List Nat:=[0x428a2f98,0x71374491,0xb5c0fbcf,0xe9b5dba5,0x3956c25b,0x59f111f1,0x923f82a4,0xab1c5ed5]++[0xd807aa98,0x12835b01,0x243185be,0x550c7dc3,0x72be5d74,0x80deb1fe,0x9bdc06a7,0xc19bf174] ++
 [0xe49b69c1,0xefbe4786,0x0fc19dc6,0x240ca1cc,0x2de92c6f,0x4a7484aa,0x5cb0a9dc,0x76f988da]++[0x983e5152,0xa831c66d,0xb00327c8,0xbf597fc7,0xc6e00bf3,0xd5a79147,0x06ca6351,0x14292967] ++
 [0x27b70a85,0x2e1b2138,0x4d2c6dfc,0x53380d13,0x650a7354,0x766a0abb,0x81c2c92e,0x92722c85]++[0xa2bfe8a1,0xa81a664b,0xc24b8b70,0xc76c51a3,0xd192e819,0xd6990624,0xf40e3585,0x106aa070] ++
 [0x19a4c116,0x1e376c08,0x2748774c,0x34b0bcb5,0x391c0cb3,0x4ed8aa4a,0x5b9cca4f,0x682e6ff3]++[0x748f82ee,0x78a5636f,0x84c87814,0x8cc70208,0x90befffa,0xa4506ceb,0xbef9a3f7,0xc67178f2]
def H0:S8:=⟨0x6a09e667,0xbb67ae85,0x3c6ef372,0xa54ff53a,0x510e527f,0x9b05688c,0x1f83d9ab,0x5be0cd19⟩
def take(s:S8)(b:List Nat):S8:=Io0 s (BN K (pW b) s)
def rX:Nat→S8→List Nat→S8×List Nat
 |0,s,b=>(s,b)
 |n+1,s,b=>if 64≤b.length then rX n (Go.Sha.take s (b.take 64)) (b.drop 64)else(s,b)
def xC(x:Nat):Nat→List Nat
 |0=>[]
 |k+1=>xC x k++[t8 (jr (24-8*k) x)]
theorem sK(x:Nat):∀k,(xC x k).length=k
 |0=>rfl
 |k+1=>by simp[xC,sK x k]
def kt(l:List Nat):Nat→List Nat
 |0=>[]
 |i+1=>kt l i++xC (l.getD i 0) 4
theorem nJ(l:List Nat):∀i,(kt l i).length=4*i
 |0=>rfl
 |i+1=>by simp[kt,nJ l i,sK];omega
def Hn(s:S8):List Nat:=kt s.l 8
end Go.Sha
namespace Go.Proofs.YtmfnimjnneflnaaGreat
open Go.Am Go.Sha
def z64:List Nat:=List.replicate 64 0
theorem NA:z64.length=64:=rfl
@[go_sem] theorem ZQ:fa Tryz.prog 211=some (cw z64):=by kernel_rfl
attribute [go_sem] NA xB
def cb(l:List Nat):List AV:=l.map fun(x:Nat)=>AV.d (.int .u8 (x:Int))
theorem ak(l:List Nat):(cb l).length=l.length:=by simp[cb]
theorem BO(l:List Nat)(i:Nat):(cb l)[i]?=(l[i]?).map fun(x:Nat)=>AV.d (.int .u8 (x:Int)):=by simp[cb]
theorem BP(l:List Nat)(i x:Nat):(cb l).set i (.d (.int .u8 (x:Int)))=cb (l.set i x):=by simp[cb,List.map_set]
theorem aI(n:Nat)(l:List Nat):∀v,v∈cb l→v.low1 n:=by
 intro c hc;simp only[cb,List.mem_map]at hc;obtain⟨x,_,rfl⟩:=hc
 trivial
theorem bD(l:List Nat):∀c,c∈cb l→c.deep1:=by
 intro c hc;simp only[cb,List.mem_map]at hc;obtain⟨x,_,rfl⟩:=hc
 trivial
def z32:List Nat:=List.replicate 32 0
theorem sL:z32.length=32:=rfl
@[go_sem] theorem ZR:fa Tryz.prog 29=some (cb z32):=by kernel_rfl
attribute [go_sem] sL ak
theorem RX:Dv Tryz.prog 113=true:=by kernel_rfl
attribute [go_sem] RX
theorem fN(x s:Nat)(k:Int)(hs:bits .and .u64 (IntKind.u64.wrap k) 31=(s:Int))(h1:s≤31) :
  au Tryz.prog 148 [.d (.int .u32 (x:Int)),.d (.int .i64 k)] (fun r=>r=.d (.int .u32 ((qZ s x:Nat):Int))):=by
 refine bC Tryz.func148 Tryz.ntmps148 (rs:=[.tmp 4]) a9 ?_;have e1:IntKind.u64.wrap (32-(s:Int))=((32-s:Nat):Int):=by rw[jA];omega
 have e2:min s 32=s:=aq;have e3:min (32-s) 32=32-s:=aq;simp[go_sem,hs,e1,e2,e3,IntKind.bits,ah];refine aa a9 ?_;rw[VQ,VS,VR];rfl
theorem Gg:au Tryz.prog 104 [] (fun r=>r=.agg (cw H0.l)):=by
 refine bC Tryz.func104 Tryz.ntmps104 (rs:=[.cell 0 164]) a9 ?_;simp[go_sem,ah,kZ];exact aa a9 rfl
theorem NB(l:List Nat):∀c,c∈cw l→c.deep1:=by
 intro c hc;simp only[cw,List.mem_map]at hc;obtain⟨x,_,rfl⟩:=hc
 trivial
theorem zE:au Tryz.prog 147 [] (fun r=>r=.agg (cw K)):=by
 refine bC Tryz.func147 Tryz.ntmps147 (rs:=[.cell 0 211]) a9 ?_;have zz:fa Tryz.prog 211=some (List.replicate 64 (.d (.int .u32 0))):=by kernel_rfl
 simp[go_sem,ah,zz];exact aa a9 rfl
theorem bp{α:Type}{l:List α}{k:Nat}(h:k<l.length):∃c,l[k]?=some c∧l.drop k=c::l.drop (k+1) :=
 ⟨l[k],cm h,List.drop_eq_getElem_cons h⟩
theorem ax{k:Nat}(h:k<4611686018427387904):IntKind.i64.wrap ((k:Int)+1)=((k+1:Nat):Int):=by
 rw[IntWalk.i64_in _ aq];omega
theorem YE{n:Nat}(h:n<4611686018427387904):IntKind.i64.wrap (n:Int)=(n:Int):=IntWalk.i64_in _ aq
theorem cz(n:Nat)(l:List Nat):∀v,v∈cw l→v.low1 n:=by
 intro c hc;simp only[cw,List.mem_map]at hc;obtain⟨x,_,rfl⟩:=hc
 trivial
def iJ(w:List Nat):List Nat:=w++List.replicate (64-w.length) 0
theorem zF{w:List Nat}(h:w.length≤64):(iJ w).length=64:=by simp[iJ];omega
theorem zG{w:List Nat}{i:Nat}(h:i<w.length):(iJ w)[i]?=some w[i]:=by
 unfold iJ;rw[List.getElem?_append_left h,cm h]
theorem tB{w:List Nat}{x:Nat}(h:w.length<64):(iJ w).set w.length x=iJ (w++[x]):=by
 unfold iJ;rw[List.set_append_right _ _ (cL _),Nat.sub_self];obtain⟨k,hk⟩:∃k,64-w.length=k+1:=⟨63-w.length,aq⟩;rw[hk,List.replicate_succ,List.set_cons_zero,cA];simp only[b_,List.length_singleton,List.singleton_append];rw[show 64-(w.length+1)=k by omega]
theorem Gh{w:List Nat}{x y:Nat}(h:w.length<64):(iJ (w++[x])).set w.length y=iJ (w++[y]):=by
 rw[←tB h,←tB h,List.set_set]
theorem IP{w:List Nat}{x:Nat}(h:w.length<64):(iJ (w++[x]))[w.length]?=some x:=by
 rw[zG aw];simp
theorem Gi{w:List Nat}(h:w.length<64):iJ (w++[0])=iJ w:=by
 unfold iJ;obtain⟨k,hk⟩:∃k,64-w.length=k+1:=⟨63-w.length,aq⟩;rw[hk,List.replicate_succ,cA];simp only[b_,List.length_singleton,List.singleton_append];rw[show 64-(w.length+1)=k by omega]
theorem Gj(q:List Nat){j c:Nat}(h:q[j]?=some c):pV (q.take (j+1))=VO (VP 8 (pV (q.take j))) (IL c):=by
 unfold pV;rw[List.take_add_one,h,List.foldl_append];rfl
theorem vQ(b:List Nat)(hb:b.length=64):au Tryz.prog 146 [.d (nb b)] (fun r=>r=.agg (cw (pW b))):=by
 refine bC Tryz.func146 Tryz.ntmps146 (rs:=[.cell 2 211]) a9 ?_;simp only[go_sem,Nat.reduceEqDiff,Nat.reduceAdd,Nat.reduceLT,↓reduceIte,Nat.reduceMul,List.length_replicate]
 refine av (fun t:Nat=>⟨[(0,.d (nb b)),(2,.ptr 0 0 0 1),(3,.ptr 32 0 0 1),(12,.d (.int .i64 t))],[(32,⟨211,64,[cw (iJ (iI b t))]⟩),(0,⟨211,64,[cw z64]⟩)],96⟩)
  (fun t=>t≤16) (fun t=>16-t) 0 aq (by
   simp[az,ai,fv,lk,AV.low,AV.low1]
   refine⟨⟨rfl,cz _ _⟩,cz _ _⟩) ?_
 intro t ht;have e1:=oP b t;have w1:IntKind.i64.wrap (4*(t:Int))=((4*t:Nat):Int):=by rw[IntWalk.i64_in _ aq];omega
 have w2:IntKind.i64.wrap (((4*t:Nat):Int)+4)=((4*t+4:Nat):Int):=by rw[IntWalk.i64_in _ aq];omega
 simp only[go_sem,Nat.reduceEqDiff,Nat.reduceAdd,Nat.reduceLT,↓reduceIte];refine⟨fun h=>?_,fun h=>?_⟩
 ·have hl4:((b.take (4*t+4)).drop (4*t)).length=4:=by simp;omega
  have hnb:((b.map fun(b:Nat)=>[DV.int .u8 (b:Int)]).take (4*t+4)).drop (4*t)=((b.take (4*t+4)).drop (4*t)).map fun(b:Nat)=>[DV.int .u8 (b:Int)]:=by simp[List.map_drop,List.map_take]
  simp only[go_sem,Nat.reduceEqDiff,Nat.reduceAdd,Nat.reduceLT,↓reduceIte,w1,w2,nb,Int.toNat_natCast,hnb,List.length_map,hl4];refine⟨aq,aq,?_⟩
  refine av (fun j:Nat=>⟨[(0,.d (nb b)),(2,.ptr 0 0 0 1),(3,.ptr 32 0 0 1),(12,.d (.int .i64 t)),(4,.d (.int .i64 t)),(21,.d (nb ((b.take (4*t+4)).drop (4*t)))),(22,.d (.int .i64 (4:Nat))),(23,.d (.int .i64 j))],
    [(32,⟨211,64,[cw (iJ (iI b t++[pV (((b.take (4*t+4)).drop (4*t)).take j)]))]⟩),(0,⟨211,64,[cw z64]⟩)],480⟩)
   (fun j=>j≤4) (fun j=>4-j) 0 aq (by
    simp[az,ai,fv,lk,AV.low,AV.low1,nb,List.map_drop,List.map_take]
    exact⟨⟨by rw[show pV []=0 from rfl,Gi aq],cz _ _⟩,cz _ _⟩) ?_
  intro j hj;simp only[go_sem,Nat.reduceEqDiff,Nat.reduceAdd,Nat.reduceLT,↓reduceIte];refine⟨fun h2=>?_,fun h2=>?_⟩
  ·obtain⟨c,hc,_⟩:=bp (l:=(b.take (4*t+4)).drop (4*t)) (k:=j) aq
   have g1:(iJ (iI b t++[pV (((b.take (4*t+4)).drop (4*t)).take j)]))[t]?=some (pV (((b.take (4*t+4)).drop (4*t)).take j)):=by
    have:=IP (w:=iI b t) (x:=pV (((b.take (4*t+4)).drop (4*t)).take j)) aq;rw[e1]at this;exact this
   have g2:∀y,(iJ (iI b t++[pV (((b.take (4*t+4)).drop (4*t)).take j)])).set t y=iJ (iI b t++[y]):=by
    intro y;have:=Gh (w:=iI b t) (x:=pV (((b.take (4*t+4)).drop (4*t)).take j)) (y:=y) aq;rw[e1]at this;exact this
   have w3:=YE (n:=j+1) aq;have g3:(iJ (iI b t++[pV (((b.take (4*t+4)).drop (4*t)).take j)])).length=64:=zF (by simp;omega);generalize hq:(b.take (4*t+4)).drop (4*t)=q at *;simp[go_sem,nb,hc,lI,g1,IntKind.bits,YC,zD,VR,BM,g2,g3,e1];refine⟨aq,aq,?_⟩;have w3:=ax (k:=j) aq;rw[w3];refine ao (j+1) aq aq ?_;simp[az,ai,fv,lk,AV.low,AV.low1,Gj q hc];exact⟨cz _ _,cz _ _⟩
  ·have hj4:j=4:=aq;subst hj4;have w3:=ax (k:=t) aq;rw[w3];refine ao (t+1) aq aq ?_;have hfull:pV (((b.take (4*t+4)).drop (4*t)).take 4)=pV ((b.take (4*t+4)).drop (4*t)):=by rw[cx aq]
   simp[az,ai,fv,lk,AV.low,AV.low1,iI];exact⟨rfl,⟨by rw[hfull],cz _ _⟩,cz _ _⟩
 ·have ht16:t=16:=aq;subst ht16
  refine av (fun t:Nat=>⟨[(2,.ptr 0 0 0 1),(3,.ptr 32 0 0 1),(7,.d (.int .i64 ((t+16:Nat):Int)))],[(32,⟨211,64,[cw (iJ (dV b t))]⟩),(0,⟨211,64,[cw z64]⟩)],128⟩)
   (fun t=>t≤48) (fun t=>48-t) 0 aq (by
    simp[az,ai,fv,lk,AV.low,AV.low1,dV]
    exact⟨cz _ _,cz _ _⟩) ?_
  intro t ht;have e1:=rf b t;simp only[go_sem,Nat.reduceEqDiff,Nat.reduceAdd,Nat.reduceLT,↓reduceIte];refine⟨fun h=>?_,fun h=>?_⟩
  ·have i1:IntKind.i64.wrap (((t+16:Nat):Int)-15)=((t+16-15:Nat):Int):=by rw[IntWalk.i64_in _ aq];omega
   have i2:IntKind.i64.wrap (((t+16:Nat):Int)-2)=((t+16-2:Nat):Int):=by rw[IntWalk.i64_in _ aq];omega
   have i3:IntKind.i64.wrap (((t+16:Nat):Int)-16)=((t+16-16:Nat):Int):=by rw[IntWalk.i64_in _ aq];omega
   have i4:IntKind.i64.wrap (((t+16:Nat):Int)-7)=((t+16-7:Nat):Int):=by rw[IntWalk.i64_in _ aq];omega
   have gg:∀i,i<t+16→(iJ (dV b t))[i]?=some ((dV b t).getD i 0):=by
    intro i hi;rw[zG aq,cR,cm aq];rfl
   have w3:=ax (k:=t+16) aq;generalize hT:t+16=T at *;apply IA (0::1::2::3::4::5::6::7::8::9::[]) ([]) 0 (k:=10) (by kernel_rfl) (by kernel_rfl) rfl
   case hz=>repeat (first|exact Its.nil|apply Its.plain rfl|apply Its.guard rfl rfl)
   case hj=>exact Jts.nil
   intro G hG;have g15:=gg (T-15) aq;have g2:=gg (T-2) aq;have g16:=gg (T-16) aq;have g7:=gg (T-7) aq
   have hwx:wx (dV b t)=my (my (my ((dV b t).getD (T-16) 0) (oO (oO (qZ 25 ((dV b t).getD (T-15) 0)) (qZ 14 ((dV b t).getD (T-15) 0))) (jr 3 ((dV b t).getD (T-15) 0)))) ((dV b t).getD (T-7) 0)) (oO (oO (qZ 15 ((dV b t).getD (T-2) 0)) (qZ 13 ((dV b t).getD (T-2) 0))) (jr 10 ((dV b t).getD (T-2) 0))):=by
    unfold wx;rw[e1]
   generalize(dV b t).getD (T-15) 0=x at g15 hwx;generalize(dV b t).getD (T-2) 0=y at g2 hwx;generalize(dV b t).getD (T-16) 0=u at g16 hwx;generalize(dV b t).getD (T-7) 0=v at g7 hwx;simp[go_sem,i1,i2,lI,g15,g2];refine⟨aq,aq,hG _ _ ?_⟩;simp only[go_sem,Nat.reduceEqDiff,Nat.reduceAdd,Nat.reduceLT,↓reduceIte,Nat.reduceMul];refine ag (fN x 25 (-7) (by decide) aq) a9 ?_;simp only[go_sem,Nat.reduceEqDiff,Nat.reduceAdd,Nat.reduceLT,↓reduceIte];refine ag (fN x 14 (-18) (by decide) aq) a9 ?_;simp[go_sem,gU,IntKind.bits,YD];refine ag (fN y 15 (-17) (by decide) aq) a9 ?_;simp only[go_sem,Nat.reduceEqDiff,Nat.reduceAdd,Nat.reduceLT,↓reduceIte];refine ag (fN y 13 (-19) (by decide) aq) a9 ?_;simp[go_sem,gU,IntKind.bits,VT];apply IA (0::1::2::3::4::5::6::7::8::9::10::11::12::13::14::[]) ((15,([]))::[]) 0 (k:=16) (by kernel_rfl) (by kernel_rfl) rfl
   case hz=>repeat (first|exact Its.nil|apply Its.plain rfl|apply Its.guard rfl rfl)
   case hj=>exact Jts.plain rfl Its.nil Jts.nil
   intro G hG
   have hset:(iJ (dV b t)).set T (wx (dV b t))=iJ (dV b (t+1)):=by
    have:=tB (w:=dV b t) (x:=wx (dV b t)) aq;rw[e1]at this;exact this
   rw[hwx]at hset;have hlen:(iJ (dV b t)).length=64:=zF aq;simp[go_sem,i3,i4,lI,g16,g7,fU,BM,hset,hlen];refine⟨aq,aq,aq,aq,hG _ _ ?_⟩;simp[go_sem,w3];refine ao (t+1) aq aq ?_;subst hT;simp[az,ai,fv,lk,AV.low,AV.low1];exact⟨aq,cz _ _,cz _ _⟩
  ·have ht48:t=48:=aq;subst ht48
   have hfull:iJ (dV b 48)=pW b:=by
    have h0:∀w:List Nat,w.length=64→iJ w=w:=fun w hw=>by unfold iJ;rw[hw,Nat.sub_self,List.replicate_zero,List.append_nil]
    exact h0 _ e1
   rw[hfull];have hsl:=rh b;generalize pW b=sb at hsl;have htk:(cw sb).take 64=cw sb:=cx (by rw[xB];omega);simp[go_sem,ah,hsl,htk];exact aa (by simp[AV.deep];exact NB _) rfl
def dk(s:S8):List AV:=[.d (.int .u32 (s.a:Int)),.d (.int .u32 (s.b:Int)),.d (.int .u32 (s.c:Int)),.d (.int .u32 (s.d:Int)),.d (.int .u32 (s.e:Int)),.d (.int .u32 (s.f:Int)),.d (.int .u32 (s.g:Int)),.d (.int .u32 (s.h:Int))]
theorem rj(s:S8):dk s=cw s.l:=rfl
theorem vS:K.length=64:=rfl
def gV(s v:S8)(i:Nat):List Nat:=(List.zipWith my s.l v.l).take i++s.l.drop i
theorem zH(s v:S8){i:Nat}(h:i≤8):(gV s v i).length=8:=by simp[gV,S8.l];omega
theorem vU(s v:S8):gV s v 0=s.l:=by simp[gV]
theorem zJ(s v:S8):gV s v 8=(Io0 s v).l:=by simp[gV,S8.l,Io0]
theorem vV(s v:S8){i:Nat}(h:i<8):∃x y,v.l[i]?=some y∧(gV s v i)[i]?=some x∧(gV s v i).set i (my x y)=gV s v (i+1):=by
 rcases(by omega:i=0∨i=1∨i=2∨i=3∨i=4∨i=5∨i=6∨i=7)with rfl|rfl|rfl|rfl|rfl|rfl|rfl|rfl
 ·exact⟨s.a,v.a,by simp[S8.l],by simp[gV,S8.l],by simp[gV,S8.l]⟩
 ·exact⟨s.b,v.b,by simp[S8.l],by simp[gV,S8.l],by simp[gV,S8.l]⟩
 ·exact⟨s.c,v.c,by simp[S8.l],by simp[gV,S8.l],by simp[gV,S8.l]⟩
 ·exact⟨s.d,v.d,by simp[S8.l],by simp[gV,S8.l],by simp[gV,S8.l]⟩
 ·exact⟨s.e,v.e,by simp[S8.l],by simp[gV,S8.l],by simp[gV,S8.l]⟩
 ·exact⟨s.f,v.f,by simp[S8.l],by simp[gV,S8.l],by simp[gV,S8.l]⟩
 ·exact⟨s.g,v.g,by simp[S8.l],by simp[gV,S8.l],by simp[gV,S8.l]⟩
 ·exact⟨s.h,v.h,by simp[S8.l],by simp[gV,S8.l],by simp[gV,S8.l]⟩
theorem DW{l:List Nat}{tail:List AV}{i x:Nat}(h:l[i]?=some x):(cw l++tail)[i]?=some (.d (.int .u32 (x:Int))):=by
 have hl:i<(cw l).length:=by rw[xB];exact(ci.1 h).1
 rw[List.getElem?_append_left hl,lI,h];rfl
theorem DX{l:List Nat}{tail:List AV}{i x:Nat}(h:i<l.length):(cw l++tail).set i (.d (.int .u32 (x:Int)))=cw (l.set i x)++tail:=by
 rw[List.set_append_left _ _ (by rw[xB];exact h),BM]
theorem PZ:(if IntKind.u32.signed=true then -1 else IntKind.u32.max)=(4294967295:Int):=by decide
theorem sM(ty:TypeId)(e:Nat)(s:S8)(tail:List AV)(b:List Nat)(hb:b.length=64)(htail:∀n,∀v,v∈tail→v.low1 n) :
  cT Tryz.prog 105 1 [(0,⟨ty,e,[dk s++tail]⟩)] [.ptr 0 0 0 1,.d (nb b)] (fun r hp'=>r=.tup []∧lk 0 hp'=some ⟨ty,e,[dk (take s b)++tail]⟩):=by
 refine ar Tryz.func105 (by kernel_rfl) rfl Tryz.ntmps105 (rs:=[]) rfl (d5 rfl) (by decide) ?_;simp only[go_sem,Nat.reduceEqDiff,Nat.reduceAdd,Nat.reduceLT,↓reduceIte,Nat.reduceMul];refine ag (vQ b hb) a9 ?_;simp only[go_sem,Nat.reduceEqDiff,Nat.reduceAdd,Nat.reduceLT,↓reduceIte,Nat.reduceMul];refine ag zE a9 ?_;have hsl:=rh b;have hzl:(K.zip (pW b)).length=64:=by rw[List.length_zip,hsl,vS];rfl
 unfold Go.Sha.take BN;generalize pW b=ws at *;have hz64:(cw z64).drop 64=[]:=rfl;generalize hR:oC Gf 0 (K.zip ws) s=R;simp[go_sem,vS,hsl,dk,hz64]
 refine av (fun t:Nat×S8=>⟨[(0,.ptr 0 0 0 1),(4,.ptr 98 0 0 1),(5,.ptr 130 0 0 1),(6,.ptr 322 0 0 1),(19,.d (.int .i64 t.1))],
   [(322,⟨164,8,[dk t.2]⟩),(130,⟨211,64,[cw K]⟩),(98,⟨211,64,[cw ws]⟩),(0,⟨ty,e,[dk s++tail]⟩)],418⟩)
  (fun t=>t.1≤64∧oC Gf t.1 (K.zip ws) t.2=R) (fun t=>64-t.1) (0,s) ⟨aq,hR⟩ (by
   simp[az,ai,fv,lk,AV.low,AV.low1,dk]
   exact⟨cz _ _,cz _ _,fun v hv=>htail _ v hv⟩) ?_
 clear hR;rintro⟨t,v⟩⟨ht,hR⟩;simp only at ht hR;simp only[go_sem,Nat.reduceEqDiff,Nat.reduceAdd,Nat.reduceLT,↓reduceIte];refine⟨fun h=>?_,fun h=>?_⟩
 ·obtain⟨k,hk,_⟩:=bp (l:=K) (k:=t) (by rw[vS];omega);obtain⟨w,hw,_⟩:=bp (l:=ws) (k:=t) aq;have hz:(K.zip ws)[t]?=some (k,w):=by rw[List.getElem?_zip_eq_some];exact⟨hk,hw⟩
  rw[tA Gf hz]at hR;simp only[go_sem,Nat.reduceEqDiff,Nat.reduceAdd,Nat.reduceLT,↓reduceIte,dk];simp[go_sem];refine ca [0,1,2,4,7,11,12,13,14,15,16,17,18,19,20,22,23,24,26,27,28] [(3,[]),(5,[6]),(8,[9,10,21,25,29,30])] 3 (k:=31) ?_;intro G hG;simp[go_sem,lI,hk,hw,gU,js,PZ,PY,fU];refine⟨aq,?_⟩;refine ag (fN v.e 26 (-6) (by decide) aq) a9 ?_;simp[go_sem,gU,js,fU];refine ag (fN v.e 21 (-11) (by decide) aq) a9 ?_;simp[go_sem,gU,js,fU];refine ag (fN v.e 7 (-25) (by decide) aq) a9 ?_;simp[go_sem,gU,js,fU];have hT1:my (my (my (my v.h (oO (oO (qZ 26 v.e) (qZ 21 v.e)) (qZ 7 v.e))) (oO (zC v.e v.f) (zC (c32 v.e) v.g))) k) w=T1 v k w:=by unfold T1;with_reducible rfl
  rw[hT1];refine hG _ _ ?_;clear hG G;simp[go_sem];refine ca [0,2,5,8,9,10,11,12,13,14,15,16,17,18,19,20,21,22] [(1,[]),(3,[4]),(6,[7,23,24])] 3 (k:=25) ?_;intro G hG;simp[go_sem,gU,js,fU];refine ag (fN v.a 30 (-2) (by decide) aq) a9 ?_;simp[go_sem,gU,js,fU];refine ag (fN v.a 19 (-13) (by decide) aq) a9 ?_;simp[go_sem,gU,js,fU];refine ag (fN v.a 10 (-22) (by decide) aq) a9 ?_;simp[go_sem,gU,js,fU];have hT2:my (oO (oO (qZ 30 v.a) (qZ 19 v.a)) (qZ 10 v.a)) (oO (oO (zC v.a v.b) (zC v.a v.c)) (zC v.b v.c))=T2 v:=by unfold T2;with_reducible rfl
  rw[hT2];refine hG _ _ ?_;clear hG G;have w3:=ax (k:=t) aq;simp[go_sem,fU,kZ,w3];refine ao (t+1,Gf v (k,w)) ⟨by simp only;omega,hR⟩ (by simp only;omega) ?_;simp[az,ai,fv,lk,AV.low,AV.low1,dk,Gf,rd];exact⟨cz _ _,cz _ _,fun v hv=>htail _ v hv⟩
 ·have ht64:t=64:=aq;subst ht64;rw[vP Gf aq]at hR;subst hR
  refine av (fun i:Nat=>⟨[(0,.ptr 0 0 0 1),(6,.ptr 322 0 0 1),(101,.d (.int .i64 i))],[(322,⟨164,8,[cw v.l]⟩),(0,⟨ty,e,[cw (gV s v i)++tail]⟩)],482⟩)
   (fun i=>i≤8) (fun i=>8-i) 0 aq (by
    simp[az,ai,fv,lk,AV.low,AV.low1,vU,rj];refine⟨cz _ _,fun v hv=>?_⟩;rcases hv with hv|hv
    ·exact cz _ _ v hv
    ·exact htail _ v hv) ?_
  intro i hi;simp only[go_sem,Nat.reduceEqDiff,Nat.reduceAdd,Nat.reduceLT,↓reduceIte];refine⟨fun h=>?_,fun h=>?_⟩
  ·obtain⟨x,y,hy,hx,hset⟩:=vV s v (i:=i) aq;have hml:=zH s v hi;refine ca [0,1,2,3,4,5,6,7,8,9,10] [(11,[])] 0 (k:=12) ?_;intro G hG;have hs2:=DX (l:=gV s v i) (tail:=tail) (i:=i) (x:=my x y) aq;rw[hset]at hs2;simp[go_sem,DW hx,lI,hy,fU,hs2,hml];refine⟨aq,aq,hG _ _ ?_⟩;have w3:=ax (k:=i) aq;simp[go_sem,w3];refine ao (i+1) aq aq ?_;simp[az,ai,fv,lk,AV.low,AV.low1];refine⟨cz _ _,fun v hv=>?_⟩;rcases hv with hv|hv
   ·exact cz _ _ v hv
   ·exact htail _ v hv
  ·have hi8:i=8:=aq;subst hi8;simp[go_sem,ah,zJ,rj];simp[cw,S8.l]
def rb(L:List Nat):List (List AV):=L.map fun(x:Nat)=>[.d (.int .u8 (x:Int))]
theorem aG(L:List Nat):(rb L).length=L.length:=by simp[rb]
theorem bq(n:Nat)(L:List Nat):∀r,r∈rb L→∀v,v∈r→v.low1 n:=by
 intro r hr v hv;simp only[rb,List.mem_map]at hr;obtain⟨x,_,rfl⟩:=hr;simp at hv;subst hv
 trivial
theorem NC(l:List Nat):∀c,c∈cw l→c.flat1:=by
 intro c hc;simp only[cw,List.mem_map]at hc;obtain⟨x,_,rfl⟩:=hc
 trivial
theorem DY{hp:Hp}{I:Nat→Prop}:∀(L:List Nat),RowsR hp I (rb L) (L.map fun(x:Nat)=>[.int .u8 (x:Int)])
 |[]=>.nil
 |x::r=>.cons (.cons (.d _) .nil) (DY r)
theorem pX{hp:Hp}{I:Nat→Prop}{id i0 n:Nat}{L:List Nat}(hb:lk id hp=some ⟨5,1,rb L⟩)(hI:I id)(h:i0+n≤L.length):SnapD hp I (.own id i0 n L.length) (nb ((L.drop i0).take n)):=by
 refine fh hb hI (aG L) (es:=((L.drop i0).take n).map fun(x:Nat)=>[.int .u8 (x:Int)]) ?_ (by simp;omega) (fun r hr=>by
  rw[List.mem_map]at hr;obtain⟨c,_,rfl⟩:=hr
  rfl)
 have:((rb L).drop i0).take n=rb ((L.drop i0).take n):=by simp[rb,List.map_drop,List.map_take]
 rw[this];exact DY _
theorem rY(ty:TypeId)(e:Nat)(s:S8)(tail:List AV)(L:List Nat)(i0:Nat)(hi0:i0+64≤L.length)(htail:∀n,∀v,v∈tail→v.low1 n) :
  cT Tryz.prog 105 2 [(0,⟨ty,e,[dk s++tail]⟩),(1,⟨5,1,rb L⟩)] [.ptr 0 0 0 1,.own 1 i0 64 L.length] (fun r hp'=>r=.tup []∧lk 0 hp'=some ⟨ty,e,[dk (take s ((L.drop i0).take 64))++tail]⟩∧lk 1 hp'=some ⟨5,1,rb L⟩):=by
 refine ar Tryz.func105 (by kernel_rfl) rfl Tryz.ntmps105 (rs:=[]) rfl (d5 rfl) (by decide) ?_;simp only[go_sem,Nat.reduceEqDiff,Nat.reduceAdd,Nat.reduceLT,↓reduceIte,Nat.reduceMul];have hb:((L.drop i0).take 64).length=64:=by simp;omega
 refine d6 (vQ ((L.drop i0).take 64) hb) rfl (aj (.one (al (pX rfl trivial hi0))) aC) (by simp[AV.flat];exact NC _) ?_;generalize(L.drop i0).take 64=b at *;simp only[go_sem,Nat.reduceEqDiff,Nat.reduceAdd,Nat.reduceLT,↓reduceIte,Nat.reduceMul];refine ag zE a9 ?_;have hsl:=rh b;have hzl:(K.zip (pW b)).length=64:=by rw[List.length_zip,hsl,vS];rfl
 unfold Go.Sha.take BN;generalize pW b=ws at *;have hz64:(cw z64).drop 64=[]:=rfl;generalize hR:oC Gf 0 (K.zip ws) s=R;simp[go_sem,vS,hsl,dk,hz64]
 refine av (fun t:Nat×S8=>⟨[(0,.ptr 0 0 0 1),(4,.ptr 99 0 0 1),(5,.ptr 131 0 0 1),(6,.ptr 323 0 0 1),(19,.d (.int .i64 t.1))],
   [(323,⟨164,8,[dk t.2]⟩),(131,⟨211,64,[cw K]⟩),(99,⟨211,64,[cw ws]⟩),(0,⟨ty,e,[dk s++tail]⟩),(1,⟨5,1,rb L⟩)],419⟩)
  (fun t=>t.1≤64∧oC Gf t.1 (K.zip ws) t.2=R) (fun t=>64-t.1) (0,s) ⟨aq,hR⟩ (by
   simp[az,ai,fv,lk,AV.low,AV.low1,dk]
   exact⟨cz _ _,cz _ _,fun v hv=>htail _ v hv,bq _ _⟩) ?_
 clear hR;rintro⟨t,v⟩⟨ht,hR⟩;simp only at ht hR;simp only[go_sem,Nat.reduceEqDiff,Nat.reduceAdd,Nat.reduceLT,↓reduceIte];refine⟨fun h=>?_,fun h=>?_⟩
 ·obtain⟨k,hk,_⟩:=bp (l:=K) (k:=t) (by rw[vS];omega);obtain⟨w,hw,_⟩:=bp (l:=ws) (k:=t) aq;have hz:(K.zip ws)[t]?=some (k,w):=by rw[List.getElem?_zip_eq_some];exact⟨hk,hw⟩
  rw[tA Gf hz]at hR;simp only[go_sem,Nat.reduceEqDiff,Nat.reduceAdd,Nat.reduceLT,↓reduceIte,dk];simp[go_sem];refine ca [0,1,2,4,7,11,12,13,14,15,16,17,18,19,20,22,23,24,26,27,28] [(3,[]),(5,[6]),(8,[9,10,21,25,29,30])] 3 (k:=31) ?_;intro G hG;simp[go_sem,lI,hk,hw,gU,js,PZ,PY,fU];refine⟨aq,?_⟩;refine ag (fN v.e 26 (-6) (by decide) aq) a9 ?_;simp[go_sem,gU,js,fU];refine ag (fN v.e 21 (-11) (by decide) aq) a9 ?_;simp[go_sem,gU,js,fU];refine ag (fN v.e 7 (-25) (by decide) aq) a9 ?_;simp[go_sem,gU,js,fU];have hT1:my (my (my (my v.h (oO (oO (qZ 26 v.e) (qZ 21 v.e)) (qZ 7 v.e))) (oO (zC v.e v.f) (zC (c32 v.e) v.g))) k) w=T1 v k w:=by unfold T1;with_reducible rfl
  rw[hT1];refine hG _ _ ?_;clear hG G;simp[go_sem];refine ca [0,2,5,8,9,10,11,12,13,14,15,16,17,18,19,20,21,22] [(1,[]),(3,[4]),(6,[7,23,24])] 3 (k:=25) ?_;intro G hG;simp[go_sem,gU,js,fU];refine ag (fN v.a 30 (-2) (by decide) aq) a9 ?_;simp[go_sem,gU,js,fU];refine ag (fN v.a 19 (-13) (by decide) aq) a9 ?_;simp[go_sem,gU,js,fU];refine ag (fN v.a 10 (-22) (by decide) aq) a9 ?_;simp[go_sem,gU,js,fU];have hT2:my (oO (oO (qZ 30 v.a) (qZ 19 v.a)) (qZ 10 v.a)) (oO (oO (zC v.a v.b) (zC v.a v.c)) (zC v.b v.c))=T2 v:=by unfold T2;with_reducible rfl
  rw[hT2];refine hG _ _ ?_;clear hG G;have w3:=ax (k:=t) aq;simp[go_sem,fU,kZ,w3];refine ao (t+1,Gf v (k,w)) ⟨by simp only;omega,hR⟩ (by simp only;omega) ?_;simp[az,ai,fv,lk,AV.low,AV.low1,dk,Gf,rd];exact⟨cz _ _,cz _ _,fun v hv=>htail _ v hv,bq _ _⟩
 ·have ht64:t=64:=aq;subst ht64;rw[vP Gf aq]at hR;subst hR
  refine av (fun i:Nat=>⟨[(0,.ptr 0 0 0 1),(6,.ptr 323 0 0 1),(101,.d (.int .i64 i))],[(323,⟨164,8,[cw v.l]⟩),(0,⟨ty,e,[cw (gV s v i)++tail]⟩),(1,⟨5,1,rb L⟩)],483⟩)
   (fun i=>i≤8) (fun i=>8-i) 0 aq (by
    simp[az,ai,fv,lk,AV.low,AV.low1,vU,rj];refine⟨cz _ _,fun v hv=>?_,bq _ _⟩;rcases hv with hv|hv
    ·exact cz _ _ v hv
    ·exact htail _ v hv) ?_
  intro i hi;simp only[go_sem,Nat.reduceEqDiff,Nat.reduceAdd,Nat.reduceLT,↓reduceIte];refine⟨fun h=>?_,fun h=>?_⟩
  ·obtain⟨x,y,hy,hx,hset⟩:=vV s v (i:=i) aq;have hml:=zH s v hi;refine ca [0,1,2,3,4,5,6,7,8,9,10] [(11,[])] 0 (k:=12) ?_;intro G hG;have hs2:=DX (l:=gV s v i) (tail:=tail) (i:=i) (x:=my x y) aq;rw[hset]at hs2;simp[go_sem,DW hx,lI,hy,fU,hs2,hml];refine⟨aq,aq,hG _ _ ?_⟩;have w3:=ax (k:=i) aq;simp[go_sem,w3];refine ao (i+1) aq aq ?_;simp[az,ai,fv,lk,AV.low,AV.low1];refine⟨cz _ _,fun v hv=>?_,bq _ _⟩;rcases hv with hv|hv
   ·exact cz _ _ v hv
   ·exact htail _ v hv
  ·have hi8:i=8:=aq;subst hi8;simp[go_sem,ah,zJ,rj];simp[cw,S8.l]
theorem mN:cT Tryz.prog 57 0 [] [] (fun r hp'=>r=.ptr 97 0 0 1∧lk 97 hp'=some ⟨167,10,[dk H0++[.nil,.d (.int .u64 0)]]⟩):=by
 refine ar Tryz.func57 (by kernel_rfl) rfl Tryz.ntmps57 (rs:=[.tmp 0]) rfl (d5 rfl) (by decide) ?_;simp only[go_sem,Nat.reduceEqDiff,Nat.reduceAdd,Nat.reduceLT,↓reduceIte,Nat.reduceMul];refine ag Gg a9 ?_;simp[go_sem,ah,kZ,iW,←rj,dk]
theorem nK{β:Type}(f:β→List DV)(b:List β){P:Program}{el:TypeId}{e:Nat}{es:List (List DV)}{nx:Nat}{Kk:AV→Hp→Prop}{hp:Hp}:fb P el (.d (.rof e es)) (some (List.map ((fun r=>List.map AV.d r)∘f) b)) nx Kk hp=(e=P.cellsOf el∧(fa P el).isSome=true∧P.bytesOf el≠0∧(es.length+b.length)*P.bytesOf el≤140737488355328∧xm (Kk (.d (.ro e (es++b.map f))) hp) (b.map f≠[]∧Kk (.own nx 0 (es.length+b.length) (es.length+b.length)) ((nx,⟨el,P.cellsOf el,es.map (fun r=>r.map AV.d)++List.map ((fun r=>List.map AV.d r)∘f) b⟩)::hp))):=by
 have:=zB (P:=P) (K:=Kk) (hp:=hp) (nx:=nx) el e es (b.map f);rw[List.map_map,List.length_map]at this;exact this
theorem kV{α β:Type}(f:α→β)(l:List α):(l.map f).take l.length=l.map f:=by
 rw[cx aw]
theorem eat_none(k:Nat)(s:S8)(b:List Nat)(h:b.length<64):rX k s b=(s,b):=by
 cases k with
 |zero=>rfl
 |succ k=>simp[rX];omega
theorem eat_more{k:Nat}{s:S8}{b:List Nat}(h:64≤b.length)(hk:b.length≤k):rX k s b=rX (k-1) (Go.Sha.take s (b.take 64)) (b.drop 64):=by
 obtain⟨j,rfl⟩:∃j,k=j+1:=⟨k-1,aq⟩;rw[rX,if_pos h];rfl
theorem IQ(s:S8)(R:AV)(rest b:List Nat)(n:Int)(hR:R=.d (nb rest)∨(R=.nil∧rest=[]))(hl:rest.length+b.length≤1000000000000) :
  cT Tryz.prog 58 1 [(0,⟨167,10,[dk s++[R,.d (.int .u64 n)]]⟩)] [.ptr 0 0 0 1,.d (nb b)]
   (fun r hp'=>r=.tup []∧lk 0 hp'=some ⟨167,10,[dk (rX ((rest++b).length) s (rest++b)).1++[.d (nb (rX ((rest++b).length) s (rest++b)).2),.d (.int .u64 (IntKind.u64.wrap (n+(IntKind.u64.wrap (b.length:Int)))))]]⟩):=by
 refine ar Tryz.func58 (by kernel_rfl) rfl Tryz.ntmps58 (rs:=[]) rfl (d5 rfl) (by decide) ?_;generalize hn':IntKind.u64.wrap (n+(IntKind.u64.wrap (b.length:Int)))=n';generalize hE0:rX ((rest++b).length) s (rest++b)=E;rcases hR with rfl|⟨rfl,rfl⟩
 ·simp[go_sem,nb,dk,hn'];refine ca [0,1,2,3,4,5,6,7,8,9,10,11,12,13,14,15,16] [(17,[18,19]),(20,[])] 1 (k:=21) ?_;intro G hG;simp[go_sem,kV,nK];refine⟨by have:=hl;simp only[b_,List.length_nil]at *;omega,.inl (hG _ _ ?_)⟩;clear hG G
  refine av (fun t:S8×List Nat=>⟨[(0,.ptr 0 0 0 1)],[(0,⟨167,10,[dk t.1++[.d (nb t.2),.d (.int .u64 n')]]⟩)],1090⟩)
   (fun t=>t.2.length≤1000000000000∧∃k,t.2.length≤k∧rX k t.1 t.2=E) (fun t=>t.2.length) (s,rest++b) ⟨by have:=hl;simp only[b_,List.length_nil]at *;omega,_,cL _,hE0⟩ (by
    simp[az,ai,fv,lk,AV.low,AV.low1,nb,dk]) ?_
  rintro⟨s1,q⟩⟨hq,k,hk,hE⟩;simp only at hq hk hE;simp only[go_sem,Nat.reduceEqDiff,Nat.reduceAdd,Nat.reduceLT,↓reduceIte,dk,nb,List.length_map];refine⟨fun h=>?_,fun h=>?_⟩
  ·have h64:64≤q.length:=aq;rw[eat_more h64 hk]at hE;refine ca [0,1,2,3,4,5,6,7] [(8,[])] 0 (k:=9) ?_;intro G hG;simp[go_sem];refine⟨aq,?_⟩;refine bn [(0,0)] (sM 167 10 s1 [.d (nb q),.d (.int .u64 n')] (q.take 64) (by simp;omega) (by simp[AV.low1])) rfl aw (by simp[lk]) (by simp[lk,Blk.ren,aV,AV.renL,AV.ren,bT,gv,dk,nb]) (by simp[AV.renL,AV.ren,bT,gv,lk,nb,List.map_take]) ?_;rintro r hp'⟨rfl,h0⟩;refine⟨[],rfl,?_⟩;simp[go_sem,bU,bM,h0,Blk.ren,aV,AV.renL,AV.ren,bT,dk];refine hG _ _ ?_;clear hG G;simp[go_sem,nb];refine⟨aq,?_⟩;refine ao (Go.Sha.take s1 (q.take 64),q.drop 64) ⟨by simp only[et];omega,k-1,by simp only[et];omega,hE⟩ (by simp only[et];omega) ?_;simp[az,ai,fv,lk,AV.low,AV.low1,nb,dk,List.map_drop,kV]
  ·rw[eat_none k s1 q aq]at hE;subst hE;rfl
 ·simp[go_sem,nb,dk,hn'];refine ca [0,1,2,3,4,5,6,7,8,9,10,11,12,13,14,15,16] [(17,[18,19]),(20,[])] 1 (k:=21) ?_;intro G hG;simp[go_sem,kV,nK];refine⟨by have:=hl;simp only[b_,List.length_nil]at *;omega,.inl (hG _ _ ?_)⟩;clear hG G
  refine av (fun t:S8×List Nat=>⟨[(0,.ptr 0 0 0 1)],[(0,⟨167,10,[dk t.1++[.d (nb t.2),.d (.int .u64 n')]]⟩)],1090⟩)
   (fun t=>t.2.length≤1000000000000∧∃k,t.2.length≤k∧rX k t.1 t.2=E) (fun t=>t.2.length) (s,[]++b) ⟨by have:=hl;simp only[b_,List.length_nil]at *;omega,_,cL _,hE0⟩ (by
    simp[az,ai,fv,lk,AV.low,AV.low1,nb,dk]) ?_
  rintro⟨s1,q⟩⟨hq,k,hk,hE⟩;simp only at hq hk hE;simp only[go_sem,Nat.reduceEqDiff,Nat.reduceAdd,Nat.reduceLT,↓reduceIte,dk,nb,List.length_map];refine⟨fun h=>?_,fun h=>?_⟩
  ·have h64:64≤q.length:=aq;rw[eat_more h64 hk]at hE;refine ca [0,1,2,3,4,5,6,7] [(8,[])] 0 (k:=9) ?_;intro G hG;simp[go_sem];refine⟨aq,?_⟩;refine bn [(0,0)] (sM 167 10 s1 [.d (nb q),.d (.int .u64 n')] (q.take 64) (by simp;omega) (by simp[AV.low1])) rfl aw (by simp[lk]) (by simp[lk,Blk.ren,aV,AV.renL,AV.ren,bT,gv,dk,nb]) (by simp[AV.renL,AV.ren,bT,gv,lk,nb,List.map_take]) ?_;rintro r hp'⟨rfl,h0⟩;refine⟨[],rfl,?_⟩;simp[go_sem,bU,bM,h0,Blk.ren,aV,AV.renL,AV.ren,bT,dk];refine hG _ _ ?_;clear hG G;simp[go_sem,nb];refine⟨aq,?_⟩;refine ao (Go.Sha.take s1 (q.take 64),q.drop 64) ⟨by simp only[et];omega,k-1,by simp only[et];omega,hE⟩ (by simp only[et];omega) ?_;simp[az,ai,fv,lk,AV.low,AV.low1,nb,dk,List.map_drop,kV]
  ·rw[eat_none k s1 q aq]at hE;subst hE;rfl
def mO:Nat→List Nat→List Nat
 |0,l=>l
 |n+1,l=>if l.length%64=56 then l else mO n (l++[0])
theorem tC{k:Nat}{l:List Nat}(h:l.length%64≠56)(hk:0<k):mO k l=mO (k-1) (l++[0]):=by
 obtain⟨j,rfl⟩:∃j,k=j+1:=⟨k-1,aq⟩;rw[mO,if_neg h];rfl
theorem vW{k:Nat}{l:List Nat}(h:l.length%64=56):mO k l=l:=by
 cases k with
 |zero=>rfl
 |succ k=>rw[mO,if_pos h]
theorem jZ(a b:List Nat):rb a++rb b=rb (a++b):=by simp[rb]
theorem gW(a:List Nat)(x:Nat):rb a++[[AV.d (.int .u8 (x:Int))]]=rb (a++[x]):=by simp[rb]
theorem tG(a:List Nat):rb a++[[AV.d (.int .u8 128)]]=rb (a++[128]):=by simp[rb]
theorem zK(a:List Nat):rb a++[[AV.d (.int .u8 0)]]=rb (a++[0]):=by simp[rb]
theorem cC(a:List Nat):List.map ((fun r=>List.map AV.d r)∘fun(x:Nat)=>[DV.int .u8 (x:Int)]) a=rb a:=by simp[rb]
def jc(m:Nat):Nat→List Nat
 |0=>[]
 |j+1=>jc m j++[t8 (jr (56-8*j) m)]
theorem ee(m:Nat):∀j,(jc m j).length=j
 |0=>rfl
 |j+1=>by simp[jc,ee m j]
def lastOf(rest:List Nat)(n:Nat):List Nat:=mO 64 (rest++[128])++jc (n*8%18446744073709551616) 8
theorem IR(n:Nat):IntKind.u64.wrap ((n:Int)*8)=((n*8%18446744073709551616:Nat):Int):=by rw[jA];omega
theorem IS(n:Nat):Int.tmod (n:Int) 64=((n%64:Nat):Int):=by
 have:=Int.ofNat_tmod n 64
 simpa using this.symm
theorem IT(s:S8)(a b:AV)(ha:∀n,a.low1 n)(hb:∀n,b.low1 n)(n:Nat):∀v,v∈dk s++[a,b]→v.low1 n:=by
 intro v hv;rcases cD.1 hv with h|h
 ·exact cz n s.l v h
 ·simp only[d_,List.mem_nil_iff,or_false]at h;rcases h with rfl|rfl
  ·exact ha n
  ·exact hb n
theorem iF(s:S8)(a b:AV)(ha:∀n,a.low1 n)(hb:∀n,b.low1 n)(n:Nat):∀v,v∈dk s∨v=a∨v=b→v.low1 n:=by
 intro v hv;refine IT s a b ha hb n v ?_
 simpa using hv
theorem gk(s:S8)(n:Nat):∀v,v∈dk s→v.low1 n:=cz n s.l
theorem DZ(ρ:Nat→Nat)(s:S8):AV.renL ρ (dk s)=dk s:=IN ρ s.l
theorem dI(ρ:Nat→Nat)(L:List Nat):List.map (AV.renL ρ) (rb L)=rb L:=by
 simp[rb,AV.renL,AV.ren]
def gZ(w:List Nat):List Nat:=w++List.replicate (32-w.length) 0
theorem vX{w:List Nat}(h:w.length≤32):(gZ w).length=32:=by simp[gZ];omega
theorem vY{w:List Nat}{x:Nat}(h:w.length<32):(gZ w).set w.length x=gZ (w++[x]):=by
 unfold gZ;rw[List.set_append_right _ _ (cL _),Nat.sub_self];obtain⟨k,hk⟩:∃k,32-w.length=k+1:=⟨31-w.length,aq⟩;rw[hk,List.replicate_succ,List.set_cons_zero,cA];simp only[b_,List.length_singleton,List.singleton_append];rw[show 32-(w.length+1)=k by omega]
theorem tH{w:List Nat}(h:w.length=32):gZ w=w:=by unfold gZ;rw[h];simp
theorem VU(s:S8):List.take 8 (dk s)=dk s:=rfl
theorem D1(s:S8){i:Nat}(h:i<8):(dk s)[i]?=some (.d (.int .u32 ((s.l.getD i 0:Nat):Int))):=by
 rw[rj,lI,cR];have:i<s.l.length:=h;rw[cm this];rfl
theorem ZF(s:S8)(a b:AV):(List.drop 9 (dk s++[a,b])).head?=some b:=rfl
theorem ZG(s:S8)(a b:AV):List.take 8 (dk s++[a,b])=dk s:=rfl
theorem sN(s:S8):(dk s).length=8:=rfl
theorem BQ (s:S8) (R:AV) (rest:List Nat) (n:Nat) (hR:R=.d (nb rest) ∨ (R=.nil∧rest=[])) (hl:rest.length≤1000000000000) :
  cT Tryz.prog 60 1 [(0,⟨167,10,[dk s++[R,.d (.int .u64 (n:Int))]]⟩)] [.ptr 0 0 0 1]
   (fun r hp'=>r=.agg (cb (Hn (rX (lastOf rest n).length s (lastOf rest n)).1))∧lk 0 hp'=some ⟨167,10,[dk s++[R,.d (.int .u64 (n:Int))]]⟩):=by
 refine ar Tryz.func60 (by kernel_rfl) rfl Tryz.ntmps60 (rs:=[.cell 2 29]) rfl (d5 rfl) (by decide) ?_;rcases hR with rfl|⟨rfl,rfl⟩
 ·simp [go_sem,nb,dk,cC,tG,aG];refine ⟨aq,aq,?_⟩
  refine av (fun l:List Nat=>⟨[(0,.ptr 0 0 0 1),(2,.ptr 2 0 0 1),(3,.own 98 0 l.length l.length)],[(98,⟨5,1,rb l⟩),(2,⟨29,32,[cb z32]⟩),(0,⟨167,10,[dk s++[.d (nb rest),.d (.int .u64 (n:Int))]]⟩)],450⟩)
   (fun l=>l.length≤1000000000000+65∧∃k,(120-l.length%64)%64≤k∧(k+l.length≤1000000000000+65)∧mO k l=mO 64 (rest++[128])) (fun l=>(120-l.length%64)%64) (rest++[128]) ⟨by have:=hl;simp only[b_,List.length_nil,List.length_singleton]at *;omega,64,aq,by have:=hl;simp only[b_,List.length_nil,List.length_singleton]at *;omega,rfl⟩ (by
    simp[az,ai,fv,lk,AV.low,AV.low1,nb,dk]
    exact⟨bq _ _,aI _ _⟩) ?_
  rintro l⟨hl1,k,hk,hk2,hP⟩;have em:Int.tmod (l.length:Int) 64=((l.length%64:Nat):Int):=IS _;simp only[go_sem,Nat.reduceEqDiff,Nat.reduceAdd,Nat.reduceLT,↓reduceIte,em];refine⟨by decide,fun h=>?_,fun h=>?_⟩
  ·have h56:l.length%64≠56:=aq;rw[tC h56 aq]at hP;refine⟨by decide,aG l,aq,?_⟩;rw[zK];refine ao (l++[0]) ⟨by simp only[b_,List.length_singleton];omega,k-1,by simp only[b_,List.length_singleton];omega,by simp only[b_,List.length_singleton];omega,hP⟩ (by simp only[b_,List.length_singleton];omega) ?_;simp[az,ai,fv,lk,AV.low,AV.low1];exact⟨bq _ _,aI _ _,iF s (.d (nb rest)) (.d (.int .u64 n)) (fun _=>trivial) (fun _=>trivial) _⟩
  ·have h56:l.length % 64=56:=aq;rw [vW h56] at hP;simp only [go_sem,Nat.reduceEqDiff,Nat.reduceAdd,Nat.reduceLT,↓reduceIte,ZF,IR];have hm:lastOf rest n=l ++ jc (n*8 % 18446744073709551616) 8:=by unfold lastOf;rw [← hP]
   generalize n*8%18446744073709551616=m at hm;generalize lastOf rest n=L at hm;clear hP hk hk2 hl
   refine av (fun j:Nat=>⟨[(0,.ptr 0 0 0 1),(2,.ptr 2 0 0 1),(3,.own 98 0 (l++jc m j).length (l++jc m j).length),(4,.d (.int .u64 (m:Int))),(5,.d (.int .i64 (56-8*(j:Int))))],[(98,⟨5,1,rb (l++jc m j)⟩),(2,⟨29,32,[cb z32]⟩),(0,⟨167,10,[dk s++[.d (nb rest),.d (.int .u64 (n:Int))]]⟩)],642⟩)
    (fun j=>j≤8) (fun j=>8-j) 0 aq (by
     simp[az,ai,fv,lk,AV.low,AV.low1,jc]
     exact⟨bq _ _,aI _ _,iF s (.d (nb rest)) (.d (.int .u64 n)) (fun _=>trivial) (fun _=>trivial) _⟩) ?_
   intro j hj;have hll:(l++jc m j).length=l.length+j:=by rw[b_,ee]
   have e8:(56:Int)-8*(j:Int)-8=56-8*((j+1:Nat):Int):=aq;have w8:IntKind.i64.wrap (56-8*(j:Int)-8)=56-8*((j+1:Nat):Int):=by rw[IntWalk.i64_in _ aq];omega
   simp only[go_sem,Nat.reduceEqDiff,Nat.reduceAdd,Nat.reduceLT,↓reduceIte];refine⟨fun h=>?_,fun h=>?_⟩
   ·have hj7:j≤7:=aq
    have eb:IntKind.u8.wrap (Int.fdiv (m:Int) (2 ^ (min (56-8*(j:Int)).toNat 64)))=((t8 (jr (56-8*j) m):Nat):Int):=by
     rw[show min (56-8*(j:Int)).toNat 64=56-8*j by omega,VS,fj]
    have es:rb (l++jc m j)++[[AV.d (.int .u8 ((t8 (jr (56-8*j) m):Nat):Int))]]=rb (l++jc m (j+1)):=by rw[gW,cA];rfl
    simp only[go_sem,Nat.reduceEqDiff,Nat.reduceAdd,Nat.reduceLT,↓reduceIte,IntKind.bits,eb,aG,es,w8];refine⟨aq,by decide,by have:=ee m j;omega,?_⟩;refine ao (j+1) aq aq ?_;have hl8:(jc m (j+1)).length=(jc m j).length+1:=by rw[ee,ee]
    simp[az,ai,fv,lk,AV.low,AV.low1,hl8];exact⟨aq,bq _ _,aI _ _,iF s (.d (nb rest)) (.d (.int .u64 n)) (fun _=>trivial) (fun _=>trivial) _⟩
   ·have hj8:j=8:=aq;subst hj8;rw[←hm];have hL64:L.length%64=0:=by rw[hm,b_,ee];omega
    have hLl:L.length≤2000000000000:=by rw[hm,b_,ee];omega
    have hLen:l.length+(jc m 8).length=L.length:=by rw[hm,b_]
    clear hm hll e8 w8 h56 h em;simp[go_sem,ZG,sN,hLen];generalize hE0:rX L.length s L=E
    refine av (fun t:Nat×S8=>⟨[(0,.ptr 0 0 0 1),(2,.ptr 2 0 0 1),(3,.own 98 (64*t.1) (L.length-64*t.1) L.length),(6,.ptr 834 0 0 1)],[(834,⟨164,8,[dk t.2]⟩),(98,⟨5,1,rb L⟩),(2,⟨29,32,[cb z32]⟩),(0,⟨167,10,[dk s++[.d (nb rest),.d (.int .u64 (n:Int))]]⟩)],898⟩)
     (fun t=>64*t.1≤L.length∧∃k,L.length-64*t.1≤k∧rX k t.2 (L.drop (64*t.1))=E) (fun t=>L.length-64*t.1) (0,s) ⟨aq,L.length,aq,hE0⟩ (by
      simp[az,ai,fv,lk,AV.low,AV.low1]
      exact⟨gk _ _,bq _ _,aI _ _,iF s (.d (nb rest)) (.d (.int .u64 n)) (fun _=>trivial) (fun _=>trivial) _⟩) ?_
    rintro⟨j,s1⟩⟨hj64,k,hk,hE⟩;simp only at hj64 hk hE;have hdl:(L.drop (64*j)).length=L.length-64*j:=et;simp only[go_sem,Nat.reduceEqDiff,Nat.reduceAdd,Nat.reduceLT,↓reduceIte];refine⟨fun h=>?_,fun h=>?_⟩
    ·have h64:64≤L.length-64*j:=aq;rw[eat_more aq aq]at hE;simp[go_sem];refine⟨aq,?_⟩;refine bn [(0,834),(1,98)] (rY 164 8 s1 [] L (64*j) aq aw) rfl aw (by simp[lk]) (by simp[lk,Blk.ren,aV,AV.renL,AV.ren,bT,gv,dk,rb]) (by simp[AV.renL,AV.ren,bT,gv,lk]) ?_;rintro r hp'⟨rfl,h0,h1⟩;refine⟨[],rfl,?_⟩;simp[go_sem,bU,bM,h0,h1,Blk.ren,aV,DZ,dI,AV.renL,AV.ren,bT];refine⟨aq,?_⟩;refine ao (j+1,Go.Sha.take s1 ((L.drop (64*j)).take 64)) ⟨by simp only;omega,k-1,by simp only;omega,?_⟩ (by simp only;omega) ?_
     ·rw[List.drop_drop]at hE;exact hE
     ·simp[az,ai,fv,lk,AV.low,AV.low1];exact⟨⟨aq,aq⟩,gk _ _,bq _ _,aI _ _,iF s (.d (nb rest)) (.d (.int .u64 n)) (fun _=>trivial) (fun _=>trivial) _⟩
    ·have hnil:L.drop (64*j)=[]:=c_ aq;rw[hnil,eat_none k s1 [] aw]at hE;have hs1:s1=E.1:=by rw[←hE]
     clear hE hE0 hdl hnil;simp[go_sem,sN]
     refine av (fun i:Nat=>⟨[(0,.ptr 0 0 0 1),(2,.ptr 2 0 0 1),(7,.ptr 994 0 0 1),(59,.agg (dk s1)),(60,.d (.int .i64 i))],[(994,⟨29,32,[cb (gZ (kt s1.l i))]⟩),(2,⟨29,32,[cb z32]⟩),(0,⟨167,10,[dk s++[.d (nb rest),.d (.int .u64 (n:Int))]]⟩)],1090⟩)
      (fun i=>i≤8) (fun i=>8-i) 0 aq (by
       simp[az,ai,fv,lk,AV.low,AV.low1,VU]
       exact⟨gk _ _,⟨rfl,aI _ _⟩,aI _ _,iF s (.d (nb rest)) (.d (.int .u64 n)) (fun _=>trivial) (fun _=>trivial) _⟩) ?_
     intro i hi;have hpl:=nJ s1.l i;simp only[go_sem,Nat.reduceEqDiff,Nat.reduceAdd,Nat.reduceLT,↓reduceIte];refine⟨fun h2=>?_,fun h2=>?_⟩
     ·have hg:=D1 s1 (i:=i) aq;have hpre:kt s1.l (i+1)=kt s1.l i++xC (s1.l.getD i 0) 4:=rfl;generalize s1.l.getD i 0=x at hg hpre;simp[go_sem,hg];refine⟨aq,?_⟩
      refine av (fun k:Nat=>⟨[(0,.ptr 0 0 0 1),(2,.ptr 2 0 0 1),(7,.ptr 994 0 0 1),(59,.agg (dk s1)),(60,.d (.int .i64 i)),(8,.d (.int .i64 i)),(9,.d (.int .u32 (x:Int))),(64,.d (.int .i64 k))],[(994,⟨29,32,[cb (gZ (kt s1.l i++xC x k))]⟩),(2,⟨29,32,[cb z32]⟩),(0,⟨167,10,[dk s++[.d (nb rest),.d (.int .u64 (n:Int))]]⟩)],1300⟩)
       (fun k=>k≤4) (fun k=>4-k) 0 aq (by
        simp[az,ai,fv,lk,AV.low,AV.low1,xC]
        exact⟨gk _ _,aI _ _,aI _ _,iF s (.d (nb rest)) (.d (.int .u64 n)) (fun _=>trivial) (fun _=>trivial) _⟩) ?_
      intro k hk4;have hkl:=sK x k;simp only[go_sem,Nat.reduceEqDiff,Nat.reduceAdd,Nat.reduceLT,↓reduceIte];refine⟨fun h3=>?_,fun h3=>?_⟩
      ·have w1:IntKind.i64.wrap (4*(i:Int))=((4*i:Nat):Int):=by rw[IntWalk.i64_in _ aq];omega
       have w2:IntKind.i64.wrap (((4*i:Nat):Int)+(k:Int))=((4*i+k:Nat):Int):=by rw[IntWalk.i64_in _ aq];omega
       have w3:IntKind.i64.wrap (8*(k:Int))=((8*k:Nat):Int):=by rw[IntWalk.i64_in _ aq];omega
       have w4:IntKind.i64.wrap (24-((8*k:Nat):Int))=((24-8*k:Nat):Int):=by rw[IntWalk.i64_in _ aq];omega
       have w5:=ax (k:=k) aq
       have eb:IntKind.u8.wrap (Int.fdiv (x:Int) (2 ^ (min (24-8*k) 32)))=((t8 (jr (24-8*k) x):Nat):Int):=by
        rw[show min (24-8*k) 32=24-8*k by omega,VS,fj]
       have hset:(gZ (kt s1.l i++xC x k)).set (4*i+k) (t8 (jr (24-8*k) x))=gZ (kt s1.l i++xC x (k+1)):=by
        have h:=vY (w:=kt s1.l i++xC x k) (x:=t8 (jr (24-8*k) x)) (by rw[b_];omega);rw[b_,hpl,hkl,cA]at h;exact h
       have hrl:(gZ (kt s1.l i++xC x k)).length=32:=vX (by rw[b_];omega);simp only[go_sem,Nat.reduceEqDiff,Nat.reduceAdd,Nat.reduceLT,↓reduceIte,w1,w2,w3,w4,IntKind.bits,Int.toNat_natCast,eb,Nat.mul_one,BP,hset,hrl,w5];refine⟨aq,aq,?_⟩;refine ao (k+1) aq aq ?_;simp[az,ai,fv,lk,AV.low,AV.low1];exact⟨gk _ _,aI _ _,aI _ _,iF s (.d (nb rest)) (.d (.int .u64 n)) (fun _=>trivial) (fun _=>trivial) _⟩
      ·have hk4':k=4:=aq;subst hk4';rw[←hpre];have w5:=ax (k:=i) aq;simp only[go_sem,Nat.reduceEqDiff,Nat.reduceAdd,Nat.reduceLT,↓reduceIte,w5];refine ao (i+1) aq aq ?_;simp[az,ai,fv,lk,AV.low,AV.low1];exact⟨gk _ _,aI _ _,aI _ _,iF s (.d (nb rest)) (.d (.int .u64 n)) (fun _=>trivial) (fun _=>trivial) _⟩
     ·have hi8:i=8:=aq;subst hi8;have hfull:gZ (kt s1.l 8)=Hn s1:=tH hpl;rw[hfull,hs1];have hdl2:(Hn E.1).length=32:=nJ _ 8;have htk:List.take 32 (cb (Hn E.1))=cb (Hn E.1):=cx (by rw[ak];omega);simp[go_sem,ah,hdl2,htk];rfl
 ·simp [go_sem,nb,dk,cC,tG,aG]
  refine av (fun l:List Nat=>⟨[(0,.ptr 0 0 0 1),(2,.ptr 2 0 0 1),(3,.own 98 0 l.length l.length)],[(98,⟨5,1,rb l⟩),(2,⟨29,32,[cb z32]⟩),(0,⟨167,10,[dk s++[.nil,.d (.int .u64 (n:Int))]]⟩)],450⟩)
   (fun l=>l.length≤1000000000000+65∧∃k,(120-l.length%64)%64≤k∧(k+l.length≤1000000000000+65)∧mO k l=mO 64 ([]++[128])) (fun l=>(120-l.length%64)%64) ([]++[128]) ⟨by have:=hl;simp only[b_,List.length_nil,List.length_singleton]at *;omega,64,aq,by have:=hl;simp only[b_,List.length_nil,List.length_singleton]at *;omega,rfl⟩ (by
    simp[az,ai,fv,lk,AV.low,AV.low1,nb,dk]
    exact⟨⟨rfl,bq _ _⟩,aI _ _⟩) ?_
  rintro l⟨hl1,k,hk,hk2,hP⟩;have em:Int.tmod (l.length:Int) 64=((l.length%64:Nat):Int):=IS _;simp only[go_sem,Nat.reduceEqDiff,Nat.reduceAdd,Nat.reduceLT,↓reduceIte,em];refine⟨by decide,fun h=>?_,fun h=>?_⟩
  ·have h56:l.length%64≠56:=aq;rw[tC h56 aq]at hP;refine⟨by decide,aG l,aq,?_⟩;rw[zK];refine ao (l++[0]) ⟨by simp only[b_,List.length_singleton];omega,k-1,by simp only[b_,List.length_singleton];omega,by simp only[b_,List.length_singleton];omega,hP⟩ (by simp only[b_,List.length_singleton];omega) ?_;simp[az,ai,fv,lk,AV.low,AV.low1];exact⟨bq _ _,aI _ _,iF s (.nil) (.d (.int .u64 n)) (fun _=>trivial) (fun _=>trivial) _⟩
  ·have h56:l.length % 64=56:=aq;rw [vW h56] at hP;simp only [go_sem,Nat.reduceEqDiff,Nat.reduceAdd,Nat.reduceLT,↓reduceIte,ZF,IR];have hm:lastOf [] n=l ++ jc (n*8 % 18446744073709551616) 8:=by unfold lastOf;rw [← hP]
   generalize n*8%18446744073709551616=m at hm;generalize lastOf [] n=L at hm;clear hP hk hk2 hl
   refine av (fun j:Nat=>⟨[(0,.ptr 0 0 0 1),(2,.ptr 2 0 0 1),(3,.own 98 0 (l++jc m j).length (l++jc m j).length),(4,.d (.int .u64 (m:Int))),(5,.d (.int .i64 (56-8*(j:Int))))],[(98,⟨5,1,rb (l++jc m j)⟩),(2,⟨29,32,[cb z32]⟩),(0,⟨167,10,[dk s++[.nil,.d (.int .u64 (n:Int))]]⟩)],642⟩)
    (fun j=>j≤8) (fun j=>8-j) 0 aq (by
     simp[az,ai,fv,lk,AV.low,AV.low1,jc]
     exact⟨bq _ _,aI _ _,iF s (.nil) (.d (.int .u64 n)) (fun _=>trivial) (fun _=>trivial) _⟩) ?_
   intro j hj;have hll:(l++jc m j).length=l.length+j:=by rw[b_,ee]
   have e8:(56:Int)-8*(j:Int)-8=56-8*((j+1:Nat):Int):=aq;have w8:IntKind.i64.wrap (56-8*(j:Int)-8)=56-8*((j+1:Nat):Int):=by rw[IntWalk.i64_in _ aq];omega
   simp only[go_sem,Nat.reduceEqDiff,Nat.reduceAdd,Nat.reduceLT,↓reduceIte];refine⟨fun h=>?_,fun h=>?_⟩
   ·have hj7:j≤7:=aq
    have eb:IntKind.u8.wrap (Int.fdiv (m:Int) (2 ^ (min (56-8*(j:Int)).toNat 64)))=((t8 (jr (56-8*j) m):Nat):Int):=by
     rw[show min (56-8*(j:Int)).toNat 64=56-8*j by omega,VS,fj]
    have es:rb (l++jc m j)++[[AV.d (.int .u8 ((t8 (jr (56-8*j) m):Nat):Int))]]=rb (l++jc m (j+1)):=by rw[gW,cA];rfl
    simp only[go_sem,Nat.reduceEqDiff,Nat.reduceAdd,Nat.reduceLT,↓reduceIte,IntKind.bits,eb,aG,es,w8];refine⟨aq,by decide,by have:=ee m j;omega,?_⟩;refine ao (j+1) aq aq ?_;have hl8:(jc m (j+1)).length=(jc m j).length+1:=by rw[ee,ee]
    simp[az,ai,fv,lk,AV.low,AV.low1,hl8];exact⟨aq,bq _ _,aI _ _,iF s (.nil) (.d (.int .u64 n)) (fun _=>trivial) (fun _=>trivial) _⟩
   ·have hj8:j=8:=aq;subst hj8;rw[←hm];have hL64:L.length%64=0:=by rw[hm,b_,ee];omega
    have hLl:L.length≤2000000000000:=by rw[hm,b_,ee];omega
    have hLen:l.length+(jc m 8).length=L.length:=by rw[hm,b_]
    clear hm hll e8 w8 h56 h em;simp[go_sem,ZG,sN,hLen];generalize hE0:rX L.length s L=E
    refine av (fun t:Nat×S8=>⟨[(0,.ptr 0 0 0 1),(2,.ptr 2 0 0 1),(3,.own 98 (64*t.1) (L.length-64*t.1) L.length),(6,.ptr 834 0 0 1)],[(834,⟨164,8,[dk t.2]⟩),(98,⟨5,1,rb L⟩),(2,⟨29,32,[cb z32]⟩),(0,⟨167,10,[dk s++[.nil,.d (.int .u64 (n:Int))]]⟩)],898⟩)
     (fun t=>64*t.1≤L.length∧∃k,L.length-64*t.1≤k∧rX k t.2 (L.drop (64*t.1))=E) (fun t=>L.length-64*t.1) (0,s) ⟨aq,L.length,aq,hE0⟩ (by
      simp[az,ai,fv,lk,AV.low,AV.low1]
      exact⟨gk _ _,bq _ _,aI _ _,iF s (.nil) (.d (.int .u64 n)) (fun _=>trivial) (fun _=>trivial) _⟩) ?_
    rintro⟨j,s1⟩⟨hj64,k,hk,hE⟩;simp only at hj64 hk hE;have hdl:(L.drop (64*j)).length=L.length-64*j:=et;simp only[go_sem,Nat.reduceEqDiff,Nat.reduceAdd,Nat.reduceLT,↓reduceIte];refine⟨fun h=>?_,fun h=>?_⟩
    ·have h64:64≤L.length-64*j:=aq;rw[eat_more aq aq]at hE;simp[go_sem];refine⟨aq,?_⟩;refine bn [(0,834),(1,98)] (rY 164 8 s1 [] L (64*j) aq aw) rfl aw (by simp[lk]) (by simp[lk,Blk.ren,aV,AV.renL,AV.ren,bT,gv,dk,rb]) (by simp[AV.renL,AV.ren,bT,gv,lk]) ?_;rintro r hp'⟨rfl,h0,h1⟩;refine⟨[],rfl,?_⟩;simp[go_sem,bU,bM,h0,h1,Blk.ren,aV,DZ,dI,AV.renL,AV.ren,bT];refine⟨aq,?_⟩;refine ao (j+1,Go.Sha.take s1 ((L.drop (64*j)).take 64)) ⟨by simp only;omega,k-1,by simp only;omega,?_⟩ (by simp only;omega) ?_
     ·rw[List.drop_drop]at hE;exact hE
     ·simp[az,ai,fv,lk,AV.low,AV.low1];exact⟨⟨aq,aq⟩,gk _ _,bq _ _,aI _ _,iF s (.nil) (.d (.int .u64 n)) (fun _=>trivial) (fun _=>trivial) _⟩
    ·have hnil:L.drop (64*j)=[]:=c_ aq;rw[hnil,eat_none k s1 [] aw]at hE;have hs1:s1=E.1:=by rw[←hE]
     clear hE hE0 hdl hnil;simp[go_sem,sN]
     refine av (fun i:Nat=>⟨[(0,.ptr 0 0 0 1),(2,.ptr 2 0 0 1),(7,.ptr 994 0 0 1),(59,.agg (dk s1)),(60,.d (.int .i64 i))],[(994,⟨29,32,[cb (gZ (kt s1.l i))]⟩),(2,⟨29,32,[cb z32]⟩),(0,⟨167,10,[dk s++[.nil,.d (.int .u64 (n:Int))]]⟩)],1090⟩)
      (fun i=>i≤8) (fun i=>8-i) 0 aq (by
       simp[az,ai,fv,lk,AV.low,AV.low1,VU]
       exact⟨gk _ _,⟨rfl,aI _ _⟩,aI _ _,iF s (.nil) (.d (.int .u64 n)) (fun _=>trivial) (fun _=>trivial) _⟩) ?_
     intro i hi;have hpl:=nJ s1.l i;simp only[go_sem,Nat.reduceEqDiff,Nat.reduceAdd,Nat.reduceLT,↓reduceIte];refine⟨fun h2=>?_,fun h2=>?_⟩
     ·have hg:=D1 s1 (i:=i) aq;have hpre:kt s1.l (i+1)=kt s1.l i++xC (s1.l.getD i 0) 4:=rfl;generalize s1.l.getD i 0=x at hg hpre;simp[go_sem,hg];refine⟨aq,?_⟩
      refine av (fun k:Nat=>⟨[(0,.ptr 0 0 0 1),(2,.ptr 2 0 0 1),(7,.ptr 994 0 0 1),(59,.agg (dk s1)),(60,.d (.int .i64 i)),(8,.d (.int .i64 i)),(9,.d (.int .u32 (x:Int))),(64,.d (.int .i64 k))],[(994,⟨29,32,[cb (gZ (kt s1.l i++xC x k))]⟩),(2,⟨29,32,[cb z32]⟩),(0,⟨167,10,[dk s++[.nil,.d (.int .u64 (n:Int))]]⟩)],1300⟩)
       (fun k=>k≤4) (fun k=>4-k) 0 aq (by
        simp[az,ai,fv,lk,AV.low,AV.low1,xC]
        exact⟨gk _ _,aI _ _,aI _ _,iF s (.nil) (.d (.int .u64 n)) (fun _=>trivial) (fun _=>trivial) _⟩) ?_
      intro k hk4;have hkl:=sK x k;simp only[go_sem,Nat.reduceEqDiff,Nat.reduceAdd,Nat.reduceLT,↓reduceIte];refine⟨fun h3=>?_,fun h3=>?_⟩
      ·have w1:IntKind.i64.wrap (4*(i:Int))=((4*i:Nat):Int):=by rw[IntWalk.i64_in _ aq];omega
       have w2:IntKind.i64.wrap (((4*i:Nat):Int)+(k:Int))=((4*i+k:Nat):Int):=by rw[IntWalk.i64_in _ aq];omega
       have w3:IntKind.i64.wrap (8*(k:Int))=((8*k:Nat):Int):=by rw[IntWalk.i64_in _ aq];omega
       have w4:IntKind.i64.wrap (24-((8*k:Nat):Int))=((24-8*k:Nat):Int):=by rw[IntWalk.i64_in _ aq];omega
       have w5:=ax (k:=k) aq
       have eb:IntKind.u8.wrap (Int.fdiv (x:Int) (2 ^ (min (24-8*k) 32)))=((t8 (jr (24-8*k) x):Nat):Int):=by
        rw[show min (24-8*k) 32=24-8*k by omega,VS,fj]
       have hset:(gZ (kt s1.l i++xC x k)).set (4*i+k) (t8 (jr (24-8*k) x))=gZ (kt s1.l i++xC x (k+1)):=by
        have h:=vY (w:=kt s1.l i++xC x k) (x:=t8 (jr (24-8*k) x)) (by rw[b_];omega);rw[b_,hpl,hkl,cA]at h;exact h
       have hrl:(gZ (kt s1.l i++xC x k)).length=32:=vX (by rw[b_];omega);simp only[go_sem,Nat.reduceEqDiff,Nat.reduceAdd,Nat.reduceLT,↓reduceIte,w1,w2,w3,w4,IntKind.bits,Int.toNat_natCast,eb,Nat.mul_one,BP,hset,hrl,w5];refine⟨aq,aq,?_⟩;refine ao (k+1) aq aq ?_;simp[az,ai,fv,lk,AV.low,AV.low1];exact⟨gk _ _,aI _ _,aI _ _,iF s (.nil) (.d (.int .u64 n)) (fun _=>trivial) (fun _=>trivial) _⟩
      ·have hk4':k=4:=aq;subst hk4';rw[←hpre];have w5:=ax (k:=i) aq;simp only[go_sem,Nat.reduceEqDiff,Nat.reduceAdd,Nat.reduceLT,↓reduceIte,w5];refine ao (i+1) aq aq ?_;simp[az,ai,fv,lk,AV.low,AV.low1];exact⟨gk _ _,aI _ _,aI _ _,iF s (.nil) (.d (.int .u64 n)) (fun _=>trivial) (fun _=>trivial) _⟩
     ·have hi8:i=8:=aq;subst hi8;have hfull:gZ (kt s1.l 8)=Hn s1:=tH hpl;rw[hfull,hs1];have hdl2:(Hn E.1).length=32:=nJ _ 8;have htk:List.take 32 (cb (Hn E.1))=cb (Hn E.1):=cx (by rw[ak];omega);simp[go_sem,ah,hdl2,htk];rfl
end Go.Proofs.YtmfnimjnneflnaaGreat
namespace Go.Sha
theorem zL:∀(k j:Nat)(s:S8)(b:List Nat),b.length≤k→b.length≤j→rX k s b=rX j s b
 |0,j,s,b,h,_=>by
  have hb:b.length<64:=aq;rw[Go.Proofs.YtmfnimjnneflnaaGreat.eat_none 0 s b hb,Go.Proofs.YtmfnimjnneflnaaGreat.eat_none j s b hb]
 |k+1,j,s,b,h,h2=>by
  by_cases h64:64≤b.length
  ·rw[Go.Proofs.YtmfnimjnneflnaaGreat.eat_more h64 h,Go.Proofs.YtmfnimjnneflnaaGreat.eat_more h64 h2];exact zL k (j-1) _ _ (by rw[et];omega) (by rw[et];omega)
  ·rw[Go.Proofs.YtmfnimjnneflnaaGreat.eat_none _ s b aq,Go.Proofs.YtmfnimjnneflnaaGreat.eat_none _ s b aq]
def E(s:S8)(b:List Nat):S8×List Nat:=rX b.length s b
theorem xE{s:S8}{b:List Nat}(h:b.length<64):E s b=(s,b):=Go.Proofs.YtmfnimjnneflnaaGreat.eat_none _ s b h
theorem BR{s:S8}{b:List Nat}(h:64≤b.length):E s b=E (Go.Sha.take s (b.take 64)) (b.drop 64):=by
 unfold E;rw[Go.Proofs.YtmfnimjnneflnaaGreat.eat_more h (cL _)];exact zL _ _ _ _ (by rw[et];omega) (cL _)
theorem zM(b:List Nat):∀(n:Nat)(s:S8)(a:List Nat),a.length≤n→E s (a++b)=E (E s a).1 ((E s a).2++b)
 |0,s,a,h=>by rw[xE (b:=a) aq]
 |n+1,s,a,h=>by
  by_cases h64:64≤a.length
  ·rw[BR (b:=a) h64,BR (b:=a++b) (by rw[b_];omega)];rw[List.take_append_of_le_length h64,List.drop_append_of_le_length h64];exact zM b n _ _ (by rw[et];omega)
  ·rw[xE (b:=a) aq]
theorem zN:∀(n:Nat)(s:S8)(a:List Nat),a.length≤n→(E s a).2.length≤a.length
 |0,s,a,h=>by rw[xE aq];exact cL _
 |n+1,s,a,h=>by
  by_cases h64:64≤a.length
  ·rw[BR h64];have:=zN n (Go.Sha.take s (a.take 64)) (a.drop 64) (by rw[et];omega);rw[et]at this;omega
  ·rw[xE aq];exact cL _
def rZ(p:S8×List Nat)(n:Nat):List Nat:=Hn (E p.1 (Go.Proofs.YtmfnimjnneflnaaGreat.lastOf p.2 n)).1
def aO(b:List Nat):List Nat:=rZ (E H0 b) b.length
def eu(t b:List Nat):List Nat:=aO (aO t++(aO t++b))
theorem aJ(b:List Nat):(aO b).length=32:=nJ _ 8
end Go.Sha
namespace Go.Proofs.YtmfnimjnneflnaaGreat
open Go.Am Go.Sha
theorem wn(a b:Nat)(h:a+b<18446744073709551616):IntKind.u64.wrap ((a:Int)+IntKind.u64.wrap (b:Int))=((a+b:Nat):Int):=by rw[jA,jA];omega
theorem eD(ρ:Nat→Nat)(b:List Nat):(AV.d (nb b)).ren ρ=.d (nb b):=rfl
theorem dr(ρ:Nat→Nat):∀l:List Nat,AV.renL ρ (cb l)=cb l
 |[]=>by simp[cb,AV.renL]
 |x::r=>by
  have:=dr ρ r;simp only[cb]at this;simp only[cb,List.map_cons,AV.renL,AV.ren,this]
theorem am{l:List Nat}(h:l.length=32):List.take 32 (cb l)=cb l:=cx (by rw[ak];omega)
theorem bA:List.drop 32 (cb z32)=[]:=rfl
theorem fV(ρ:Nat→Nat)(s:S8)(a b:AV):AV.renL ρ (dk s++[a,b])=dk s++[a.ren ρ,b.ren ρ]:=by simp[dk,AV.renL,AV.ren]
theorem ND(s:S8)(R:AV)(rest b:List Nat)(n:Nat)(hR:R=.d (nb rest)∨(R=.nil∧rest=[]))(hl:rest.length+b.length≤1000000000000)(hn:n+b.length<18446744073709551616) :
  cT Tryz.prog 58 1 [(0,⟨167,10,[dk s++[R,.d (.int .u64 (n:Int))]]⟩)] [.ptr 0 0 0 1,.d (nb b)]
   (fun r hp'=>r=.tup []∧lk 0 hp'=some ⟨167,10,[dk (E s (rest++b)).1++[.d (nb (E s (rest++b)).2),.d (.int .u64 ((n+b.length:Nat):Int))]]⟩):=by
 have:=IQ s R rest b n hR hl;rw[wn n b.length hn]at this;exact this
theorem jM(b:List Nat)(hb:b.length≤100000000000):au Tryz.prog 84 [.d (nb b)] (fun r=>r=.agg (cb (aO b))):=by
 refine bC Tryz.func84 Tryz.ntmps84 (rs:=[.cell 2 29]) a9 ?_;simp only[go_sem,Nat.reduceEqDiff,Nat.reduceAdd,Nat.reduceLT,↓reduceIte,Nat.reduceMul];refine bn [] mN rfl aw aw aw (by simp[AV.renL]) ?_;rintro r hp'⟨rfl,h0⟩;refine⟨[(97,0)],rfl,?_⟩;simp[go_sem,bU,bM,h0,Blk.ren,aV,fV,AV.ren,bT];refine bn [(0,32)] (ND H0 .nil [] b 0 (.inr ⟨rfl,rfl⟩) (by simp;omega) aq) rfl aw (by simp[lk]) (by simp[lk,Blk.ren,aV,fV,AV.ren,bT,gv]) (by simp[AV.renL,AV.ren,bT,gv,lk]) ?_;rintro r hp'⟨rfl,h0⟩;refine⟨[],rfl,?_⟩;simp[go_sem,bU,bM,h0,Blk.ren,aV,fV,eD,AV.renL,AV.ren,bT];refine bn [(0,32)] (BQ (E H0 b).1 (.d (nb (E H0 b).2)) (E H0 b).2 b.length (.inl rfl) (by have:=zN _ H0 b (cL _);omega)) rfl aw (by simp[lk]) (by simp[lk,Blk.ren,aV,fV,eD,AV.ren,bT,gv]) (by simp[AV.renL,AV.ren,bT,gv,lk]) ?_;rintro r hp'⟨rfl,h0⟩;refine⟨[],rfl,?_⟩;have hf:Hn (rX (lastOf (E H0 b).2 b.length).length (E H0 b).1 (lastOf (E H0 b).2 b.length)).1=aO b:=rfl;rw[hf]at *;simp[go_sem,bU,bM,h0,Blk.ren,aV,fV,eD,dr,AV.ren,bT,ah,aJ,am (aJ b),bA];exact aa (by simp[AV.deep];exact bD _) rfl
theorem dW{hp:Hp}{I:Nat→Prop}{id:Nat}{ty:TypeId}{l:List Nat}(hb:lk id hp=some ⟨ty,32,[cb l]⟩)(hI:I id)(hl:l.length=32):SnapD hp I (.sub id 0 0 1 32 32 1) (nb l):=by
 refine .sub (es:=l.map fun(x:Nat)=>[.int .u8 (x:Int)]) hI hb rfl rfl aq (by simp[hl]) (fun r hr=>by
  rw[List.mem_map]at hr;obtain⟨c,_,rfl⟩:=hr
  rfl) fun k j c r y hc hr hy=>?_
 simp only[Nat.zero_add,Nat.mul_one,cU,Option.map_eq_some_iff]at hc hr;obtain⟨x,hx,rfl⟩:=hr
 cases j with
 |succ j=>simp at hy
 |zero =>
  simp at hy;subst hy;rw[Nat.add_zero,BO,hx]at hc;simp at hc;subst hc;exact .d _
theorem eN{b:List Nat}(hb:b.length=32):(List.range 32).map (fun k=>((cb b).drop k).take 1)=List.map ((fun r=>List.map AV.d r)∘fun(x:Nat)=>[DV.int .u8 (x:Int)]) b:=by
 apply List.ext_getElem?;intro i;by_cases hi:i<32
 ·rw[cU,cU,List.getElem?_range hi,cm (by omega:i<b.length)];have h:i<(cb b).length:=by rw[ak];omega
  have h1:(cb b)[i]?=some (.d (.int .u8 ((b[i]:Nat):Int))):=by rw[BO,cm (by omega:i<b.length)];rfl
  have h2:(cb b)[i]=.d (.int .u8 ((b[i]:Nat):Int)):=by
   rw[cm h]at h1;exact Option.some.inj h1
  rw[Option.map_some,Option.map_some,List.drop_eq_getElem_cons h,h2];rfl
 ·rw[List.getElem?_eq_none (by simp;omega),List.getElem?_eq_none (by simp;omega)]
theorem pY(ty:TypeId)(e:Nat)(row:List AV)(s:S8)(R:AV)(rest b:List Nat)(n:Int)(hx0:(List.range 32).map (fun k=>(row.drop k).take 1)=List.map ((fun r=>List.map AV.d r)∘fun(x:Nat)=>[DV.int .u8 (x:Int)]) b)(hlow:∀n v,v∈row→v.low1 n)(hR:R=.d (nb rest)∨(R=.nil∧rest=[]))(hl:rest.length+b.length≤1000000000000)(hb32:b.length=32) :
  cT Tryz.prog 58 2 [(0,⟨167,10,[dk s++[R,.d (.int .u64 n)]]⟩),(1,⟨ty,e,[row]⟩)] [.ptr 0 0 0 1,.sub 1 0 0 1 32 32 1]
   (fun r hp'=>r=.tup []∧lk 0 hp'=some ⟨167,10,[dk (rX ((rest++b).length) s (rest++b)).1++[.d (nb (rX ((rest++b).length) s (rest++b)).2),.d (.int .u64 (IntKind.u64.wrap (n+(IntKind.u64.wrap (b.length:Int)))))]]⟩∧lk 1 hp'=some ⟨ty,e,[row]⟩):=by
 refine ar Tryz.func58 (by kernel_rfl) rfl Tryz.ntmps58 (rs:=[]) rfl (d5 rfl) (by decide) ?_;rw[hb32];generalize hn':IntKind.u64.wrap (n+(IntKind.u64.wrap ((32:Nat):Int)))=n';generalize hE0:rX ((rest++b).length) s (rest++b)=E;have hx:=hx0;generalize hX:List.map ((fun r=>List.map AV.d r)∘fun(x:Nat)=>[DV.int .u8 (x:Int)]) b=X at hx;simp[go_sem]at hx;have hn2:IntKind.u64.wrap (n+IntKind.u64.wrap 32)=n':=hn';rcases hR with rfl|⟨rfl,rfl⟩
 ·simp[go_sem,nb,dk,hn2];refine ca [0,1,2,3,4,5,6,7,8,9,10,11,12,13,14,15,16] [(17,[18,19]),(20,[])] 1 (k:=21) ?_;intro G hG;simp[go_sem,kV,hx];rw[←hX,nK];simp[go_sem,kV];refine⟨by have:=hl;simp only[b_,List.length_nil]at *;omega,.inl (hG _ _ ?_)⟩;clear hG G
  refine av (fun t:S8×List Nat=>⟨[(0,.ptr 0 0 0 1)],[(0,⟨167,10,[dk t.1++[.d (nb t.2),.d (.int .u64 n')]]⟩),(1,⟨ty,e,[row]⟩)],1091⟩)
   (fun t=>t.2.length≤1000000000000∧∃k,t.2.length≤k∧rX k t.1 t.2=E) (fun t=>t.2.length) (s,rest++b) ⟨by have:=hl;simp only[b_,List.length_nil]at *;omega,_,cL _,hE0⟩ (by
    simp[az,ai,fv,lk,AV.low,AV.low1,nb,dk]
    exact hlow _) ?_
  rintro⟨s1,q⟩⟨hq,k,hk,hE⟩;simp only at hq hk hE;simp only[go_sem,Nat.reduceEqDiff,Nat.reduceAdd,Nat.reduceLT,↓reduceIte,dk,nb,List.length_map];refine⟨fun h=>?_,fun h=>?_⟩
  ·have h64:64≤q.length:=aq;rw[eat_more h64 hk]at hE;refine ca [0,1,2,3,4,5,6,7] [(8,[])] 0 (k:=9) ?_;intro G hG;simp[go_sem];refine⟨aq,?_⟩;refine bn [(0,0)] (sM 167 10 s1 [.d (nb q),.d (.int .u64 n')] (q.take 64) (by simp;omega) (by simp[AV.low1])) rfl aw (by simp[lk]) (by simp[lk,Blk.ren,aV,AV.renL,AV.ren,bT,gv,dk,nb]) (by simp[AV.renL,AV.ren,bT,gv,lk,nb,List.map_take]) ?_;rintro r hp'⟨rfl,h0⟩;refine⟨[],rfl,?_⟩;simp[go_sem,bU,bM,h0,Blk.ren,aV,AV.renL,AV.ren,bT,dk];refine hG _ _ ?_;clear hG G;simp[go_sem,nb];refine⟨aq,?_⟩;refine ao (Go.Sha.take s1 (q.take 64),q.drop 64) ⟨by simp only[et];omega,k-1,by simp only[et];omega,hE⟩ (by simp only[et];omega) ?_;simp[az,ai,fv,lk,AV.low,AV.low1,nb,dk,List.map_drop,kV];exact hlow _
  ·rw[eat_none k s1 q aq]at hE;subst hE;rfl
 ·simp[go_sem,nb,dk,hn2];refine ca [0,1,2,3,4,5,6,7,8,9,10,11,12,13,14,15,16] [(17,[18,19]),(20,[])] 1 (k:=21) ?_;intro G hG;simp[go_sem,kV,hx];rw[←hX,nK];simp[go_sem,kV];refine⟨by have:=hl;simp only[b_,List.length_nil]at *;omega,.inl (hG _ _ ?_)⟩;clear hG G
  refine av (fun t:S8×List Nat=>⟨[(0,.ptr 0 0 0 1)],[(0,⟨167,10,[dk t.1++[.d (nb t.2),.d (.int .u64 n')]]⟩),(1,⟨ty,e,[row]⟩)],1091⟩)
   (fun t=>t.2.length≤1000000000000∧∃k,t.2.length≤k∧rX k t.1 t.2=E) (fun t=>t.2.length) (s,[]++b) ⟨by have:=hl;simp only[b_,List.length_nil]at *;omega,_,cL _,hE0⟩ (by
    simp[az,ai,fv,lk,AV.low,AV.low1,nb,dk]
    exact hlow _) ?_
  rintro⟨s1,q⟩⟨hq,k,hk,hE⟩;simp only at hq hk hE;simp only[go_sem,Nat.reduceEqDiff,Nat.reduceAdd,Nat.reduceLT,↓reduceIte,dk,nb,List.length_map];refine⟨fun h=>?_,fun h=>?_⟩
  ·have h64:64≤q.length:=aq;rw[eat_more h64 hk]at hE;refine ca [0,1,2,3,4,5,6,7] [(8,[])] 0 (k:=9) ?_;intro G hG;simp[go_sem];refine⟨aq,?_⟩;refine bn [(0,0)] (sM 167 10 s1 [.d (nb q),.d (.int .u64 n')] (q.take 64) (by simp;omega) (by simp[AV.low1])) rfl aw (by simp[lk]) (by simp[lk,Blk.ren,aV,AV.renL,AV.ren,bT,gv,dk,nb]) (by simp[AV.renL,AV.ren,bT,gv,lk,nb,List.map_take]) ?_;rintro r hp'⟨rfl,h0⟩;refine⟨[],rfl,?_⟩;simp[go_sem,bU,bM,h0,Blk.ren,aV,AV.renL,AV.ren,bT,dk];refine hG _ _ ?_;clear hG G;simp[go_sem,nb];refine⟨aq,?_⟩;refine ao (Go.Sha.take s1 (q.take 64),q.drop 64) ⟨by simp only[et];omega,k-1,by simp only[et];omega,hE⟩ (by simp only[et];omega) ?_;simp[az,ai,fv,lk,AV.low,AV.low1,nb,dk,List.map_drop,kV];exact hlow _
  ·rw[eat_none k s1 q aq]at hE;subst hE;rfl
theorem D2(s:S8)(R:AV)(rest b:List Nat)(n:Nat)(hR:R=.d (nb rest)∨(R=.nil∧rest=[]))(hl:rest.length+b.length≤1000000000000)(hb32:b.length=32)(hn:n+b.length<18446744073709551616) :
  cT Tryz.prog 58 2 [(0,⟨167,10,[dk s++[R,.d (.int .u64 (n:Int))]]⟩),(1,⟨29,32,[cb b]⟩)] [.ptr 0 0 0 1,.sub 1 0 0 1 32 32 1]
   (fun r hp'=>r=.tup []∧lk 0 hp'=some ⟨167,10,[dk (E s (rest++b)).1++[.d (nb (E s (rest++b)).2),.d (.int .u64 ((n+b.length:Nat):Int))]]⟩∧lk 1 hp'=some ⟨29,32,[cb b]⟩):=by
 have:=pY 29 32 (cb b) s R rest b n (eN hb32) (fun n=>aI n _) hR hl hb32;rw[wn n b.length hn]at this;exact this
theorem IU(ty:TypeId)(e:Nat)(row:List AV)(s:S8)(R:AV)(rest b:List Nat)(n:Nat)(hx0:(List.range 32).map (fun k=>(row.drop k).take 1)=List.map ((fun r=>List.map AV.d r)∘fun(x:Nat)=>[DV.int .u8 (x:Int)]) b)(hlow:∀n v,v∈row→v.low1 n)(hR:R=.d (nb rest)∨(R=.nil∧rest=[]))(hl:rest.length+b.length≤1000000000000)(hb32:b.length=32)(hn:n+b.length<18446744073709551616) :
  cT Tryz.prog 58 2 [(0,⟨167,10,[dk s++[R,.d (.int .u64 (n:Int))]]⟩),(1,⟨ty,e,[row]⟩)] [.ptr 0 0 0 1,.sub 1 0 0 1 32 32 1]
   (fun r hp'=>r=.tup []∧lk 0 hp'=some ⟨167,10,[dk (E s (rest++b)).1++[.d (nb (E s (rest++b)).2),.d (.int .u64 ((n+b.length:Nat):Int))]]⟩∧lk 1 hp'=some ⟨ty,e,[row]⟩):=by
 have:=pY ty e row s R rest b n hx0 hlow hR hl hb32;rw[wn n b.length hn]at this;exact this
theorem eV(tag:List Nat)(ts:DV)(hts:ts=.str (tag.map fun(x:Nat)=>(x:Int)))(b:List Nat)(ht:tag.length≤1000)(hb:b.length≤10000000000):au Tryz.prog 62 [.d ts,.d (nb b)] (fun r=>r=.agg (cb (eu tag b))):=by
 subst hts;refine bC Tryz.func62 Tryz.ntmps62 (rs:=[.cell 4 29]) a9 ?_;simp[go_sem,Tryz.underlying5];refine ag (jM tag aq) a9 ?_;have hD:=aJ tag;have hg:eu tag b=aO (aO tag++(aO tag++b)):=rfl;rw[hg];generalize aO tag=D at hD;simp[go_sem,hD,bA];refine bn [] mN rfl aw aw aw (by simp[AV.renL]) ?_;rintro r hp'⟨rfl,h0⟩;refine⟨[(97,0)],rfl,?_⟩;simp[go_sem,bU,bM,h0,Blk.ren,aV,fV,AV.ren,bT]
 have hp1:E H0 (D++(D++b))=E (E (E H0 D).1 ((E H0 D).2++D)).1 ((E (E H0 D).1 ((E H0 D).2++D)).2++b):=by
  rw[zM _ _ _ D (cL _),←cA,zM _ _ _ ((E H0 D).2++D) (cL _)]
 have hfin:rZ (E (E (E H0 D).1 ((E H0 D).2++D)).1 ((E (E H0 D).1 ((E H0 D).2++D)).2++b)) (0+D.length+D.length+b.length)=aO (D++(D++b)):=by
  unfold aO;rw[hp1];congr 1;simp only[b_];omega
 have l1:=zN _ H0 D (cL _);refine bn [(0,192),(1,128)] (D2 H0 .nil [] D 0 (.inr ⟨rfl,rfl⟩) (by simp;omega) hD aq) rfl aw (by simp[lk]) (by simp[lk,Blk.ren,aV,fV,dr,AV.renL,AV.ren,bT,gv]) (by simp[AV.renL,AV.ren,bT,gv,lk]) ?_;rintro r hp'⟨rfl,h0,h1⟩;refine⟨[],rfl,?_⟩;rw[List.nil_append]at h0;generalize E H0 D=p1 at *;have l2:=zN _ p1.1 (p1.2++D) (cL _);rw[b_]at l2;simp[go_sem,bU,bM,h0,h1,Blk.ren,aV,fV,dr,eD,AV.renL,AV.ren,bT];refine bn [(0,192),(1,128)] (D2 p1.1 (.d (nb p1.2)) p1.2 D (0+D.length) (.inl rfl) aq hD aq) rfl aw (by simp[lk]) (by simp[lk,Blk.ren,aV,fV,dr,eD,AV.renL,AV.ren,bT,gv]) (by simp[AV.renL,AV.ren,bT,gv,lk]) ?_;rintro r hp'⟨rfl,h0,h1⟩;refine⟨[],rfl,?_⟩;generalize E p1.1 (p1.2++D)=p2 at *;have l3:=zN _ p2.1 (p2.2++b) (cL _);rw[b_]at l3;simp[go_sem,bU,bM,h0,h1,Blk.ren,aV,fV,dr,eD,AV.renL,AV.ren,bT];refine bn [(0,192)] (ND p2.1 (.d (nb p2.2)) p2.2 b (0+D.length+D.length) (.inl rfl) aq aq) rfl aw (by simp[lk]) (by simp[lk,Blk.ren,aV,fV,dr,eD,AV.renL,AV.ren,bT,gv]) (by simp[AV.renL,AV.ren,bT,gv,lk]) ?_;rintro r hp'⟨rfl,h0⟩;refine⟨[],rfl,?_⟩;generalize E p2.1 (p2.2++b)=p3 at *;simp[go_sem,bU,bM,h0,h1,Blk.ren,aV,fV,dr,eD,AV.renL,AV.ren,bT];refine bn [(0,192)] (BQ p3.1 (.d (nb p3.2)) p3.2 (0+D.length+D.length+b.length) (.inl rfl) aq) rfl aw (by simp[lk]) (by simp[lk,Blk.ren,aV,fV,eD,AV.ren,bT,gv]) (by simp[AV.renL,AV.ren,bT,gv,lk]) ?_;rintro r hp'⟨rfl,h0⟩;refine⟨[],rfl,?_⟩;have hf:Hn (rX (lastOf p3.2 (0+D.length+D.length+b.length)).length p3.1 (lastOf p3.2 (0+D.length+D.length+b.length))).1=aO (D++(D++b)):=hfin;rw[hf];have hL:=aJ (D++(D++b));generalize aO (D++(D++b))=R at *;simp[go_sem,bU,bM,h0,Blk.ren,aV,fV,eD,dr,AV.ren,bT,ah,hL,am hL,bA];exact aa (by simp[AV.deep];exact bD _) rfl
end Go.Proofs.YtmfnimjnneflnaaGreat
