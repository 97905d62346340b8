/-
 Part 5.
-/
import Derived.Test.YtmfnimjnneflnaaGreatN3
import Derived.Test.YtmfnimjnneflnaaGreatRows
set_option linter.unusedVariables false
set_option linter.unusedSimpArgs false
set_option maxRecDepth 100000
set_option maxHeartbeats 16000000
open Go.Proofs.Tryz
namespace Go.Proofs.YtmfnimjnneflnaaGreat
@[go_sem] theorem k2:cp prog 2=.scal:=by kernel_rfl
@[go_sem] theorem c2:prog.cellsOf 2=1:=by kernel_rfl
@[go_sem] theorem b2:prog.bytesOf 2=8:=by kernel_rfl
@[go_sem] theorem z2:gi prog 2=some [.d (.int .i64 0)]:=by kernel_rfl
@[go_sem] theorem i2:ko prog 2=some .i64:=by kernel_rfl
@[go_sem] theorem u2:(prog.underlying 2).isSome=true:=by kernel_rfl
@[go_sem] theorem k3:cp prog 3=.scal:=by kernel_rfl
@[go_sem] theorem c3:prog.cellsOf 3=1:=by kernel_rfl
@[go_sem] theorem b3:prog.bytesOf 3=8:=by kernel_rfl
@[go_sem] theorem z3:gi prog 3=some [.d (.int .i64 0)]:=by kernel_rfl
@[go_sem] theorem i3:ko prog 3=some .i64:=by kernel_rfl
@[go_sem] theorem u3:(prog.underlying 3).isSome=true:=by kernel_rfl
@[go_sem] theorem k4:cp prog 4=.scal:=by kernel_rfl
@[go_sem] theorem c4:prog.cellsOf 4=1:=by kernel_rfl
@[go_sem] theorem b4:prog.bytesOf 4=1:=by kernel_rfl
@[go_sem] theorem z4:gi prog 4=some [.d (.bool false)]:=by kernel_rfl
@[go_sem] theorem u4:(prog.underlying 4).isSome=true:=by kernel_rfl
@[go_sem] theorem k5:cp prog 5=.scal:=by kernel_rfl
@[go_sem] theorem c5:prog.cellsOf 5=1:=by kernel_rfl
@[go_sem] theorem b5:prog.bytesOf 5=1:=by kernel_rfl
@[go_sem] theorem z5:gi prog 5=some [.d (.int .u8 0)]:=by kernel_rfl
@[go_sem] theorem i5:ko prog 5=some .u8:=by kernel_rfl
@[go_sem] theorem u5:(prog.underlying 5).isSome=true:=by kernel_rfl
@[go_sem] theorem k9:cp prog 9=.str:=by kernel_rfl
@[go_sem] theorem c9:prog.cellsOf 9=1:=by kernel_rfl
@[go_sem] theorem b9:prog.bytesOf 9=16:=by kernel_rfl
@[go_sem] theorem z9:gi prog 9=some [.d (.str [])]:=by kernel_rfl
@[go_sem] theorem u9:(prog.underlying 9).isSome=true:=by kernel_rfl
@[go_sem] theorem k22:cp prog 22=.scal:=by kernel_rfl
@[go_sem] theorem c22:prog.cellsOf 22=1:=by kernel_rfl
@[go_sem] theorem b22:prog.bytesOf 22=4:=by kernel_rfl
@[go_sem] theorem z22:gi prog 22=some [.d (.int .u32 0)]:=by kernel_rfl
@[go_sem] theorem i22:ko prog 22=some .u32:=by kernel_rfl
@[go_sem] theorem u22:(prog.underlying 22).isSome=true:=by kernel_rfl
@[go_sem] theorem k23:cp prog 23=.slice 68:=by kernel_rfl
@[go_sem] theorem c23:prog.cellsOf 23=1:=by kernel_rfl
@[go_sem] theorem b23:prog.bytesOf 23=24:=by kernel_rfl
@[go_sem] theorem z23:gi prog 23=some [.nil]:=by kernel_rfl
@[go_sem] theorem u23:(prog.underlying 23).isSome=true:=by kernel_rfl
@[go_sem] theorem k24:cp prog 24=.slice 57:=by kernel_rfl
@[go_sem] theorem c24:prog.cellsOf 24=1:=by kernel_rfl
@[go_sem] theorem b24:prog.bytesOf 24=24:=by kernel_rfl
@[go_sem] theorem z24:gi prog 24=some [.nil]:=by kernel_rfl
@[go_sem] theorem u24:(prog.underlying 24).isSome=true:=by kernel_rfl
@[go_sem] theorem k26:cp prog 26=.struct [(0,22),(1,23),(2,24),(3,22)]:=by kernel_rfl
@[go_sem] theorem c26:prog.cellsOf 26=4:=by kernel_rfl
@[go_sem] theorem b26:prog.bytesOf 26=64:=by kernel_rfl
@[go_sem] theorem z26:gi prog 26=some [.d (.int .u32 0),.nil,.nil,.d (.int .u32 0)]:=by kernel_rfl
@[go_sem] theorem u26:(prog.underlying 26).isSome=true:=by kernel_rfl
@[go_sem] theorem k28:cp prog 28=.struct [(0,26),(4,3),(5,24)]:=by kernel_rfl
@[go_sem] theorem c28:prog.cellsOf 28=6:=by kernel_rfl
@[go_sem] theorem b28:prog.bytesOf 28=96:=by kernel_rfl
@[go_sem] theorem z28:gi prog 28=some [.d (.int .u32 0),.nil,.nil,.d (.int .u32 0),.d (.int .i64 0),.nil]:=by kernel_rfl
@[go_sem] theorem u28:(prog.underlying 28).isSome=true:=by kernel_rfl
@[go_sem] theorem k29:cp prog 29=.arr 32 5:=by kernel_rfl
@[go_sem] theorem c29:prog.cellsOf 29=32:=by kernel_rfl
@[go_sem] theorem b29:prog.bytesOf 29=32:=by kernel_rfl
@[go_sem] theorem u29:(prog.underlying 29).isSome=true:=by kernel_rfl
@[go_sem] theorem k30:cp prog 30=.slice 29:=by kernel_rfl
@[go_sem] theorem c30:prog.cellsOf 30=1:=by kernel_rfl
@[go_sem] theorem b30:prog.bytesOf 30=24:=by kernel_rfl
@[go_sem] theorem z30:gi prog 30=some [.nil]:=by kernel_rfl
@[go_sem] theorem u30:(prog.underlying 30).isSome=true:=by kernel_rfl
@[go_sem] theorem k31:cp prog 31=.slice 5:=by kernel_rfl
@[go_sem] theorem c31:prog.cellsOf 31=1:=by kernel_rfl
@[go_sem] theorem b31:prog.bytesOf 31=24:=by kernel_rfl
@[go_sem] theorem z31:gi prog 31=some [.nil]:=by kernel_rfl
@[go_sem] theorem u31:(prog.underlying 31).isSome=true:=by kernel_rfl
@[go_sem] theorem afw:cp prog 32=.struct [(0,29),(32,30),(33,31)]:=by kernel_rfl
@[go_sem] theorem afx:prog.cellsOf 32=34:=by kernel_rfl
@[go_sem] theorem afy:prog.bytesOf 32=80:=by kernel_rfl
@[go_sem] theorem afz:(prog.underlying 32).isSome=true:=by kernel_rfl
@[go_sem] theorem k33:cp prog 33=.struct [(0,29),(32,30),(33,31)]:=by kernel_rfl
@[go_sem] theorem c33:prog.cellsOf 33=34:=by kernel_rfl
@[go_sem] theorem b33:prog.bytesOf 33=80:=by kernel_rfl
@[go_sem] theorem u33:(prog.underlying 33).isSome=true:=by kernel_rfl
@[go_sem] theorem k34:cp prog 34=.slice 31:=by kernel_rfl
@[go_sem] theorem c34:prog.cellsOf 34=1:=by kernel_rfl
@[go_sem] theorem b34:prog.bytesOf 34=24:=by kernel_rfl
@[go_sem] theorem z34:gi prog 34=some [.nil]:=by kernel_rfl
@[go_sem] theorem u34:(prog.underlying 34).isSome=true:=by kernel_rfl
@[go_sem] theorem k42:cp prog 42=.struct [(0,5),(1,31)]:=by kernel_rfl
@[go_sem] theorem c42:prog.cellsOf 42=2:=by kernel_rfl
@[go_sem] theorem b42:prog.bytesOf 42=32:=by kernel_rfl
@[go_sem] theorem z42:gi prog 42=some [.d (.int .u8 0),.nil]:=by kernel_rfl
@[go_sem] theorem u42:(prog.underlying 42).isSome=true:=by kernel_rfl
@[go_sem] theorem k44:cp prog 44=.slice 42:=by kernel_rfl
@[go_sem] theorem c44:prog.cellsOf 44=1:=by kernel_rfl
@[go_sem] theorem b44:prog.bytesOf 44=24:=by kernel_rfl
@[go_sem] theorem z44:gi prog 44=some [.nil]:=by kernel_rfl
@[go_sem] theorem u44:(prog.underlying 44).isSome=true:=by kernel_rfl
@[go_sem] theorem k45:cp prog 45=.slice 55:=by kernel_rfl
@[go_sem] theorem c45:prog.cellsOf 45=1:=by kernel_rfl
@[go_sem] theorem b45:prog.bytesOf 45=24:=by kernel_rfl
@[go_sem] theorem z45:gi prog 45=some [.nil]:=by kernel_rfl
@[go_sem] theorem u45:(prog.underlying 45).isSome=true:=by kernel_rfl
@[go_sem] theorem k46:cp prog 46=.scal:=by kernel_rfl
@[go_sem] theorem c46:prog.cellsOf 46=1:=by kernel_rfl
@[go_sem] theorem b46:prog.bytesOf 46=8:=by kernel_rfl
@[go_sem] theorem z46:gi prog 46=some [.d (.int .i64 0)]:=by kernel_rfl
@[go_sem] theorem i46:ko prog 46=some .i64:=by kernel_rfl
@[go_sem] theorem u46:(prog.underlying 46).isSome=true:=by kernel_rfl
@[go_sem] theorem k53:cp prog 53=.scal:=by kernel_rfl
@[go_sem] theorem c53:prog.cellsOf 53=1:=by kernel_rfl
@[go_sem] theorem b53:prog.bytesOf 53=8:=by kernel_rfl
@[go_sem] theorem z53:gi prog 53=some [.d (.int .u64 0)]:=by kernel_rfl
@[go_sem] theorem i53:ko prog 53=some .u64:=by kernel_rfl
@[go_sem] theorem u53:(prog.underlying 53).isSome=true:=by kernel_rfl
@[go_sem] theorem k55:cp prog 55=.struct [(0,3),(1,53)]:=by kernel_rfl
@[go_sem] theorem c55:prog.cellsOf 55=2:=by kernel_rfl
@[go_sem] theorem b55:prog.bytesOf 55=16:=by kernel_rfl
@[go_sem] theorem z55:gi prog 55=some [.d (.int .i64 0),.d (.int .u64 0)]:=by kernel_rfl
@[go_sem] theorem u55:(prog.underlying 55).isSome=true:=by kernel_rfl
@[go_sem] theorem k57:cp prog 57=.struct [(0,53),(1,31)]:=by kernel_rfl
@[go_sem] theorem c57:prog.cellsOf 57=2:=by kernel_rfl
@[go_sem] theorem b57:prog.bytesOf 57=32:=by kernel_rfl
@[go_sem] theorem z57:gi prog 57=some [.d (.int .u64 0),.nil]:=by kernel_rfl
@[go_sem] theorem u57:(prog.underlying 57).isSome=true:=by kernel_rfl
@[go_sem] theorem k66:cp prog 66=.struct [(0,29),(32,22)]:=by kernel_rfl
@[go_sem] theorem c66:prog.cellsOf 66=33:=by kernel_rfl
@[go_sem] theorem b66:prog.bytesOf 66=36:=by kernel_rfl
@[go_sem] theorem u66:(prog.underlying 66).isSome=true:=by kernel_rfl
@[go_sem] theorem k68:cp prog 68=.struct [(0,66),(33,22),(34,34)]:=by kernel_rfl
@[go_sem] theorem c68:prog.cellsOf 68=35:=by kernel_rfl
@[go_sem] theorem b68:prog.bytesOf 68=64:=by kernel_rfl
@[go_sem] theorem u68:(prog.underlying 68).isSome=true:=by kernel_rfl
@[go_sem] theorem k73:cp prog 73=.arr 2 2:=by kernel_rfl
@[go_sem] theorem c73:prog.cellsOf 73=2:=by kernel_rfl
@[go_sem] theorem b73:prog.bytesOf 73=16:=by kernel_rfl
@[go_sem] theorem z73:gi prog 73=some [.d (.int .i64 0),.d (.int .i64 0)]:=by kernel_rfl
@[go_sem] theorem u73:(prog.underlying 73).isSome=true:=by kernel_rfl
@[go_sem] theorem k76:cp prog 76=.struct [(0,29),(32,31),(33,2),(34,29)]:=by kernel_rfl
@[go_sem] theorem c76:prog.cellsOf 76=66:=by kernel_rfl
@[go_sem] theorem b76:prog.bytesOf 76=96:=by kernel_rfl
@[go_sem] theorem u76:(prog.underlying 76).isSome=true:=by kernel_rfl
@[go_sem] theorem k78:cp prog 78=.slice 33:=by kernel_rfl
@[go_sem] theorem c78:prog.cellsOf 78=1:=by kernel_rfl
@[go_sem] theorem b78:prog.bytesOf 78=24:=by kernel_rfl
@[go_sem] theorem z78:gi prog 78=some [.nil]:=by kernel_rfl
@[go_sem] theorem u78:(prog.underlying 78).isSome=true:=by kernel_rfl
@[go_sem] theorem k96:cp prog 96=.arr 4 53:=by kernel_rfl
@[go_sem] theorem c96:prog.cellsOf 96=4:=by kernel_rfl
@[go_sem] theorem b96:prog.bytesOf 96=32:=by kernel_rfl
@[go_sem] theorem z96:gi prog 96=some [.d (.int .u64 0),.d (.int .u64 0),.d (.int .u64 0),.d (.int .u64 0)]:=by kernel_rfl
@[go_sem] theorem u96:(prog.underlying 96).isSome=true:=by kernel_rfl
@[go_sem] theorem k139:cp prog 139=.arr 3 29:=by kernel_rfl
@[go_sem] theorem c139:prog.cellsOf 139=96:=by kernel_rfl
@[go_sem] theorem b139:prog.bytesOf 139=96:=by kernel_rfl
@[go_sem] theorem u139:(prog.underlying 139).isSome=true:=by kernel_rfl
@[go_sem] theorem k143:cp prog 143=.arr 5 29:=by kernel_rfl
@[go_sem] theorem c143:prog.cellsOf 143=160:=by kernel_rfl
@[go_sem] theorem b143:prog.bytesOf 143=160:=by kernel_rfl
@[go_sem] theorem u143:(prog.underlying 143).isSome=true:=by kernel_rfl
@[go_sem] theorem k155:cp prog 155=.struct [(0,34),(1,34)]:=by kernel_rfl
@[go_sem] theorem c155:prog.cellsOf 155=2:=by kernel_rfl
@[go_sem] theorem b155:prog.bytesOf 155=48:=by kernel_rfl
@[go_sem] theorem z155:gi prog 155=some [.nil,.nil]:=by kernel_rfl
@[go_sem] theorem u155:(prog.underlying 155).isSome=true:=by kernel_rfl
@[go_sem] theorem k156:cp prog 156=.slice 4:=by kernel_rfl
@[go_sem] theorem c156:prog.cellsOf 156=1:=by kernel_rfl
@[go_sem] theorem b156:prog.bytesOf 156=24:=by kernel_rfl
@[go_sem] theorem z156:gi prog 156=some [.nil]:=by kernel_rfl
@[go_sem] theorem u156:(prog.underlying 156).isSome=true:=by kernel_rfl
@[go_sem] theorem k158:cp prog 158=.struct [(0,28),(6,33),(40,31),(41,155),(43,156),(44,3),(45,3),(46,45),(47,46)]:=by kernel_rfl
@[go_sem] theorem c158:prog.cellsOf 158=48:=by kernel_rfl
@[go_sem] theorem b158:prog.bytesOf 158=320:=by kernel_rfl
@[go_sem] theorem u158:(prog.underlying 158).isSome=true:=by kernel_rfl
@[go_sem] theorem k164:cp prog 164=.arr 8 22:=by kernel_rfl
@[go_sem] theorem c164:prog.cellsOf 164=8:=by kernel_rfl
@[go_sem] theorem b164:prog.bytesOf 164=32:=by kernel_rfl
@[go_sem] theorem z164:gi prog 164=some [.d (.int .u32 0),.d (.int .u32 0),.d (.int .u32 0),.d (.int .u32 0),.d (.int .u32 0),.d (.int .u32 0),.d (.int .u32 0),.d (.int .u32 0)]:=by kernel_rfl
@[go_sem] theorem u164:(prog.underlying 164).isSome=true:=by kernel_rfl
@[go_sem] theorem k167:cp prog 167=.struct [(0,164),(8,31),(9,53)]:=by kernel_rfl
@[go_sem] theorem c167:prog.cellsOf 167=10:=by kernel_rfl
@[go_sem] theorem b167:prog.bytesOf 167=64:=by kernel_rfl
@[go_sem] theorem z167:gi prog 167=some [.d (.int .u32 0),.d (.int .u32 0),.d (.int .u32 0),.d (.int .u32 0),.d (.int .u32 0),.d (.int .u32 0),.d (.int .u32 0),.d (.int .u32 0),.nil,.d (.int .u64 0)]:=by kernel_rfl
@[go_sem] theorem u167:(prog.underlying 167).isSome=true:=by kernel_rfl
@[go_sem] theorem k169:cp prog 169=.scal:=by kernel_rfl
@[go_sem] theorem c169:prog.cellsOf 169=1:=by kernel_rfl
@[go_sem] theorem b169:prog.bytesOf 169=8:=by kernel_rfl
@[go_sem] theorem z169:gi prog 169=some [.d (.int .u64 0)]:=by kernel_rfl
@[go_sem] theorem i169:ko prog 169=some .u64:=by kernel_rfl
@[go_sem] theorem u169:(prog.underlying 169).isSome=true:=by kernel_rfl
@[go_sem] theorem k172:cp prog 172=.slice 174:=by kernel_rfl
@[go_sem] theorem c172:prog.cellsOf 172=1:=by kernel_rfl
@[go_sem] theorem b172:prog.bytesOf 172=24:=by kernel_rfl
@[go_sem] theorem z172:gi prog 172=some [.nil]:=by kernel_rfl
@[go_sem] theorem u172:(prog.underlying 172).isSome=true:=by kernel_rfl
@[go_sem] theorem k174:cp prog 174=.struct [(0,29),(32,3),(33,3)]:=by kernel_rfl
@[go_sem] theorem c174:prog.cellsOf 174=34:=by kernel_rfl
@[go_sem] theorem b174:prog.bytesOf 174=48:=by kernel_rfl
@[go_sem] theorem u174:(prog.underlying 174).isSome=true:=by kernel_rfl
@[go_sem] theorem k189:cp prog 189=.struct [(0,96),(4,96),(8,4)]:=by kernel_rfl
@[go_sem] theorem c189:prog.cellsOf 189=9:=by kernel_rfl
@[go_sem] theorem b189:prog.bytesOf 189=72:=by kernel_rfl
@[go_sem] theorem z189:gi prog 189=some [.d (.int .u64 0),.d (.int .u64 0),.d (.int .u64 0),.d (.int .u64 0),.d (.int .u64 0),.d (.int .u64 0),.d (.int .u64 0),.d (.int .u64 0),.d (.bool false)]:=by kernel_rfl
@[go_sem] theorem u189:(prog.underlying 189).isSome=true:=by kernel_rfl
@[go_sem] theorem k204:cp prog 204=.arr 2 34:=by kernel_rfl
@[go_sem] theorem c204:prog.cellsOf 204=2:=by kernel_rfl
@[go_sem] theorem b204:prog.bytesOf 204=48:=by kernel_rfl
@[go_sem] theorem z204:gi prog 204=some [.nil,.nil]:=by kernel_rfl
@[go_sem] theorem u204:(prog.underlying 204).isSome=true:=by kernel_rfl
@[go_sem] theorem k211:cp prog 211=.arr 64 22:=by kernel_rfl
@[go_sem] theorem c211:prog.cellsOf 211=64:=by kernel_rfl
@[go_sem] theorem b211:prog.bytesOf 211=256:=by kernel_rfl
@[go_sem] theorem u211:(prog.underlying 211).isSome=true:=by kernel_rfl
@[go_sem] theorem k217:cp prog 217=.scal:=by kernel_rfl
@[go_sem] theorem c217:prog.cellsOf 217=1:=by kernel_rfl
@[go_sem] theorem b217:prog.bytesOf 217=2:=by kernel_rfl
@[go_sem] theorem z217:gi prog 217=some [.d (.int .u16 0)]:=by kernel_rfl
@[go_sem] theorem i217:ko prog 217=some .u16:=by kernel_rfl
@[go_sem] theorem u217:(prog.underlying 217).isSome=true:=by kernel_rfl
@[go_sem] theorem k226:cp prog 226=.arr 8 53:=by kernel_rfl
@[go_sem] theorem c226:prog.cellsOf 226=8:=by kernel_rfl
@[go_sem] theorem b226:prog.bytesOf 226=64:=by kernel_rfl
@[go_sem] theorem z226:gi prog 226=some [.d (.int .u64 0),.d (.int .u64 0),.d (.int .u64 0),.d (.int .u64 0),.d (.int .u64 0),.d (.int .u64 0),.d (.int .u64 0),.d (.int .u64 0)]:=by kernel_rfl
@[go_sem] theorem u226:(prog.underlying 226).isSome=true:=by kernel_rfl
@[go_sem] theorem k243:cp prog 243=.struct [(0,96),(4,96),(8,96)]:=by kernel_rfl
@[go_sem] theorem c243:prog.cellsOf 243=12:=by kernel_rfl
@[go_sem] theorem b243:prog.bytesOf 243=96:=by kernel_rfl
@[go_sem] theorem z243:gi prog 243=some [.d (.int .u64 0),.d (.int .u64 0),.d (.int .u64 0),.d (.int .u64 0),.d (.int .u64 0),.d (.int .u64 0),.d (.int .u64 0),.d (.int .u64 0),.d (.int .u64 0),.d (.int .u64 0),.d (.int .u64 0),.d (.int .u64 0)]:=by kernel_rfl
@[go_sem] theorem u243:(prog.underlying 243).isSome=true:=by kernel_rfl
@[go_sem] theorem k283:cp prog 283=.struct [(0,34),(1,34),(2,46)]:=by kernel_rfl
@[go_sem] theorem c283:prog.cellsOf 283=3:=by kernel_rfl
@[go_sem] theorem b283:prog.bytesOf 283=56:=by kernel_rfl
@[go_sem] theorem z283:gi prog 283=some [.nil,.nil,.d (.int .i64 0)]:=by kernel_rfl
@[go_sem] theorem u283:(prog.underlying 283).isSome=true:=by kernel_rfl
@[go_sem] theorem k290:cp prog 290=.slice 2:=by kernel_rfl
@[go_sem] theorem c290:prog.cellsOf 290=1:=by kernel_rfl
@[go_sem] theorem b290:prog.bytesOf 290=24:=by kernel_rfl
@[go_sem] theorem z290:gi prog 290=some [.nil]:=by kernel_rfl
@[go_sem] theorem u290:(prog.underlying 290).isSome=true:=by kernel_rfl
@[go_sem] theorem k295:cp prog 295=.slice 3:=by kernel_rfl
@[go_sem] theorem c295:prog.cellsOf 295=1:=by kernel_rfl
@[go_sem] theorem b295:prog.bytesOf 295=24:=by kernel_rfl
@[go_sem] theorem z295:gi prog 295=some [.nil]:=by kernel_rfl
@[go_sem] theorem u295:(prog.underlying 295).isSome=true:=by kernel_rfl
def M:Nat:=4294967296
def mW(a b:Nat):Nat:=(a+b)%4294967296
def o5(a b:Nat):Nat:=(a ^^^ b)%4294967296
def D1(a b:Nat):Nat:=(a &&& b)%4294967296
def o32(a b:Nat):Nat:=(a ||| b)%4294967296
def c32(a:Nat):Nat:=(4294967295 ^^^ a)%4294967296
def s32(n a:Nat):Nat:=a*2 ^ n%4294967296
def fe(n a:Nat):Nat:=a/2 ^ n
def zT(a:Nat):Nat:=a%4294967296
def t8(a:Nat):Nat:=a%256
def rj(s x:Nat):Nat:=o32 (s32 s x) (fe (32-s) x)
theorem Tz(x:Int):IntKind.u32.wrap x=x%4294967296:=by simp[IntKind.wrap,IntKind.bits,IntKind.signed]
theorem iW(x:Int):IntKind.u64.wrap x=x%18446744073709551616:=by simp[IntKind.wrap,IntKind.bits,IntKind.signed]
theorem MF(x:Int):IntKind.u8.wrap x=x%256:=by simp[IntKind.wrap,IntKind.bits,IntKind.signed]
theorem gj(k:Nat)(a:Nat):(BitVec.ofInt k (a:Int)).toNat=a%2 ^ k:=by
 rw[BitVec.toNat_ofInt];omega
theorem iF(a b:Nat):IntKind.u32.wrap ((a:Int)+(b:Int))=((mW a b:Nat):Int):=by rw[Tz];unfold mW;omega
theorem D2(a:Nat):IntKind.u32.wrap (a:Int)=((zT a:Nat):Int):=by rw[Tz];unfold zT;omega
theorem gl(a:Nat):IntKind.u8.wrap (a:Int)=((t8 a:Nat):Int):=by rw[MF];unfold t8;omega
theorem V1(a b:Nat):IntKind.u32.wrap ((a:Int)*(b:Int))=((a*b%4294967296:Nat):Int):=by
 rw[Tz,←Int.natCast_mul];omega
theorem abg(a n:Nat):IntKind.u32.wrap ((a:Int)*2 ^ n)=((s32 n a:Nat):Int):=by
 have:=V1 a (2 ^ n);rw[Int.natCast_pow]at this;exact this
theorem aeg(a:Nat):IntKind.u32.wrap ((a:Int)*256)=((s32 8 a:Nat):Int):=V1 a 256
theorem jv(a b:Nat):bits .xor .u32 (a:Int) (b:Int)=((o5 a b:Nat):Int):=by
 show IntKind.u32.wrap (((BitVec.ofInt 32 (a:Int)) ^^^ (BitVec.ofInt 32 (b:Int))).toNat:Int)=_;rw[BitVec.toNat_xor,gj,gj,←Nat.xor_mod_two_pow,D2];unfold o5 zT;congr 1;omega
theorem kP(a b:Nat):bits .and .u32 (a:Int) (b:Int)=((D1 a b:Nat):Int):=by
 show IntKind.u32.wrap (((BitVec.ofInt 32 (a:Int)) &&& (BitVec.ofInt 32 (b:Int))).toNat:Int)=_;rw[BitVec.toNat_and,gj,gj,←Nat.and_mod_two_pow,D2];unfold D1 zT;congr 1;omega
theorem abh(a b:Nat):bits .or .u32 (a:Int) (b:Int)=((o32 a b:Nat):Int):=by
 show IntKind.u32.wrap (((BitVec.ofInt 32 (a:Int)) ||| (BitVec.ofInt 32 (b:Int))).toNat:Int)=_;rw[BitVec.toNat_or,gj,gj,←Nat.or_mod_two_pow,D2];unfold o32 zT;congr 1;omega
theorem V2(a:Nat):bits .xor .u32 4294967295 (a:Int)=((c32 a:Nat):Int):=jv 4294967295 a
theorem gC(a b:Nat):Int.fdiv (a:Int) (b:Int)=((a/b:Nat):Int):=by
 rw[Int.fdiv_eq_ediv_of_nonneg _ aq];exact(Int.natCast_ediv a b).symm
theorem d_r(a n:Nat):Int.fdiv (a:Int) (2 ^ n)=((fe n a:Nat):Int):=by
 have:=gC a (2 ^ n);rw[Int.natCast_pow]at this;exact this
theorem aeh(a:Nat):Int.fdiv (a:Int) 8=((fe 3 a:Nat):Int):=gC a 8
theorem abj(a:Nat):Int.fdiv (a:Int) 1024=((fe 10 a:Nat):Int):=gC a 1024
def cw(l:List Nat):List AV:=l.map fun(x:Nat)=>AV.d (.int .u32 (x:Int))
theorem Bz(l:List Nat):(cw l).length=l.length:=by simp[cw]
theorem nQ(l:List Nat)(i:Nat):(cw l)[i]?=(l[i]?).map fun(x:Nat)=>AV.d (.int .u32 (x:Int)):=by simp[cw]
theorem GK(l:List Nat)(i x:Nat):(cw l).set i (.d (.int .u32 (x:Int)))=cw (l.set i x):=by simp[cw,List.map_set]
theorem N9(ρ:Nat→Nat):∀l:List Nat,AV.R ρ (cw l)=cw l
 |[]=>by simp[cw,AV.R]
 |x::r=>by
  have:=N9 ρ r;simp only[cw]at this;simp only[cw,List.map_cons,AV.R,AV.r,this]
def nb(a:List Nat):DV:=.ro 1 (a.map fun(b:Nat)=>[.int .u8 (b:Int)])
structure S8 where
 a:Nat
 b:Nat
 c:Nat
 d:Nat
 e:Nat
 f:Nat
 g:Nat
 h:Nat
def S8.l(s:S8):List Nat:=[s.a,s.b,s.c,s.d,s.e,s.f,s.g,s.h]
def T1(s:S8)(k w:Nat):Nat:=mW (mW (mW (mW s.h (o5 (o5 (rj 26 s.e) (rj 21 s.e)) (rj 7 s.e))) (o5 (D1 s.e s.f) (D1 (c32 s.e) s.g))) k) w
def T2(s:S8):Nat:=mW (o5 (o5 (rj 30 s.a) (rj 19 s.a)) (rj 10 s.a)) (o5 (o5 (D1 s.a s.b) (D1 s.a s.c)) (D1 s.b s.c))
def rd(s:S8)(k w:Nat):S8:=⟨mW (T1 s k w) (T2 s),s.a,s.b,s.c,mW s.d (T1 s k w),s.e,s.f,s.g⟩
def II(s:S8)(p:Nat×Nat):S8:=rd s p.1 p.2
section
variable {α β:Type} (f:β→α→β)
def qR(t:Nat)(l:List α)(s:β):β:=(l.drop t).foldl f s
theorem xo{l:List α}{p:α}{s:β}{t:Nat}(h:l[t]?=some p):qR f t l s=qR f (t+1) l (f s p):=by
 obtain⟨b,a⟩:=ci.1 h;unfold qR;rw[List.drop_eq_getElem_cons b,List.foldl_cons,a]
theorem zU{l:List α}{s:β}{t:Nat}(h:l.length≤t):qR f t l s=s:=by
 unfold qR;rw[c_ h,List.foldl_nil]
end
def GL(b a:List Nat)(s:S8):S8:=qR II 0 (b.zip a) s
def D3(s v:S8):S8:=⟨mW s.a v.a,mW s.b v.b,mW s.c v.c,mW s.d v.d,mW s.e v.e,mW s.f v.f,mW s.g v.g,mW s.h v.h⟩
def sG(b:List Nat):Nat:=b.foldl (fun x c=>o32 (s32 8 x) (zT c)) 0
def wx(w:List Nat):Nat :=
 let t:=w.length
 let x:=w.getD (t-15) 0
 let y:=w.getD (t-2) 0
 let s0:=o5 (o5 (rj 25 x) (rj 14 x)) (fe 3 x)
 let s1:=o5 (o5 (rj 15 y) (rj 13 y)) (fe 10 y)
 mW (mW (mW (w.getD (t-16) 0) s0) (w.getD (t-7) 0)) s1
def jw(b:List Nat):Nat→List Nat
 |0=>[]
 |n+1=>jw b n++[sG ((b.take (4*n+4)).drop (4*n))]
def dH(b:List Nat):Nat→List Nat
 |0=>jw b 16
 |n+1=>dH b n++[wx (dH b n)]
theorem rk(b:List Nat):∀n,(jw b n).length=n
 |0=>rfl
 |n+1=>by simp[jw,rk b n]
theorem pV(b:List Nat):∀n,(dH b n).length=n+16
 |0=>rk b 16
 |n+1=>by
  have:=pV b n;simp only[dH,b_,this,List.length_singleton]
def sH(b:List Nat):List Nat:=dH b 48
theorem ui(b:List Nat):(sH b).length=64:=pV b 48
def K:List Nat:=[0x428a2f98,0x71374491,0xb5c0fbcf,0xe9b5dba5,0x3956c25b,0x59f111f1,0x923f82a4,0xab1c5ed5]++[0xd807aa98,0x12835b01,0x243185be,0x550c7dc3,0x72be5d74,0x80deb1fe,0x9bdc06a7,0xc19bf174] ++
 [0xe49b69c1,0xefbe4786,0x0fc19dc6,0x240ca1cc,0x2de92c6f,0x4a7484aa,0x5cb0a9dc,0x76f988da]++[0x983e5152,0xa831c66d,0xb00327c8,0xbf597fc7,0xc6e00bf3,0xd5a79147,0x06ca6351,0x14292967] ++
 [0x27b70a85,0x2e1b2138,0x4d2c6dfc,0x53380d13,0x650a7354,0x766a0abb,0x81c2c92e,0x92722c85]++[0xa2bfe8a1,0xa81a664b,0xc24b8b70,0xc76c51a3,0xd192e819,0xd6990624,0xf40e3585,0x106aa070] ++
 [0x19a4c116,0x1e376c08,0x2748774c,0x34b0bcb5,0x391c0cb3,0x4ed8aa4a,0x5b9cca4f,0x682e6ff3]++[0x748f82ee,0x78a5636f,0x84c87814,0x8cc70208,0x90befffa,0xa4506ceb,0xbef9a3f7,0xc67178f2]
def H0:S8:=⟨0x6a09e667,0xbb67ae85,0x3c6ef372,0xa54ff53a,0x510e527f,0x9b05688c,0x1f83d9ab,0x5be0cd19⟩
def take(s:S8)(b:List Nat):S8:=D3 s (GL K (sH b) s)
def uZ:Nat→S8→List Nat→S8×List Nat
 |0,s,b=>(s,b)
 |n+1,s,b=>if 64≤b.length then uZ n (take s (b.take 64)) (b.drop 64)else(s,b)
def BB(x:Nat):Nat→List Nat
 |0=>[]
 |k+1=>BB x k++[t8 (fe (24-8*k) x)]
theorem vY(x:Nat):∀k,(BB x k).length=k
 |0=>rfl
 |k+1=>by simp[BB,vY x k]
def pre(l:List Nat):Nat→List Nat
 |0=>[]
 |i+1=>pre l i++BB (l.getD i 0) 4
theorem pW(l:List Nat):∀i,(pre l i).length=4*i
 |0=>rfl
 |i+1=>by simp[pre,pW l i,vY];omega
def KU(s:S8):List Nat:=pre s.l 8
def z64:List Nat:=List.replicate 64 0
theorem TA:z64.length=64:=rfl
@[go_sem] theorem afA:gi prog 211=some (cw z64):=by kernel_rfl
attribute [go_sem] TA Bz
def cb(l:List Nat):List AV:=l.map fun(x:Nat)=>AV.d (.int .u8 (x:Int))
theorem aj(l:List Nat):(cb l).length=l.length:=by simp[cb]
theorem GM(l:List Nat)(i:Nat):(cb l)[i]?=(l[i]?).map fun(x:Nat)=>AV.d (.int .u8 (x:Int)):=by simp[cb]
theorem GN(l:List Nat)(i x:Nat):(cb l).set i (.d (.int .u8 (x:Int)))=cb (l.set i x):=by simp[cb,List.map_set]
theorem aI(n:Nat)(l:List Nat):∀v,v∈cb l→v.l n:=by
 intro c hc;simp only[cb,List.mem_map]at hc;obtain⟨x,_,rfl⟩:=hc;trivial
theorem bp(l:List Nat):∀c,c∈cb l→c.deep1:=by
 intro c hc;simp only[cb,List.mem_map]at hc;obtain⟨x,_,rfl⟩:=hc;trivial
def z32:List Nat:=List.replicate 32 0
theorem TB:z32.length=32:=rfl
@[go_sem] theorem afB:gi prog 29=some (cb z32):=by kernel_rfl
attribute [go_sem] TB aj
theorem X6:Im prog 113=true:=by kernel_rfl
attribute [go_sem] X6
theorem io(x s:Nat)(k:Int)(c:bits .and .u64 (IntKind.u64.wrap k) 31=(s:Int))(g:s≤31) :
  fm prog 148 [.d (.int .u32 (x:Int)),.d (.int .i64 k)] (.d (.int .u32 ((rj s x:Nat):Int))):=by
 refine bL func148 ntmps148 (rs:=[.tmp 4]) a9 ?_;have b:IntKind.u64.wrap (32-(s:Int))=((32-s:Nat):Int):=by rw[iW];omega
 have e:min s 32=s:=aq;have a:min (32-s) 32=32-s:=aq;simp[go_sem,c,b,e,a,IntKind.bits,ah];refine aa a9 ?_;rw[abg,d_r,abh];rfl
theorem KV:fm prog 104 [] (.agg (cw H0.l)):=by
 refine bL func104 ntmps104 (rs:=[.cell 0 164]) a9 ?_;simp[go_sem,ah,mX];exact aa a9 rfl
theorem TC(l:List Nat):∀c,c∈cw l→c.deep1:=by
 intro c hc;simp only[cw,List.mem_map]at hc;obtain⟨x,_,rfl⟩:=hc;trivial
theorem D4:fm prog 147 [] (.agg (cw K)):=by
 refine bL func147 ntmps147 (rs:=[.cell 0 211]) a9 ?_;have a:gi prog 211=some (List.replicate 64 (.d (.int .u32 0))):=by kernel_rfl
 simp[go_sem,ah,a];exact aa a9 rfl
theorem bu{α:Type}{l:List α}{k:Nat}(h:k<l.length):∃c,l[k]?=some c∧l.drop k=c::l.drop (k+1) :=
 ⟨l[k],cm h,List.drop_eq_getElem_cons h⟩
theorem ay{k:Nat}(h:k<4611686018427387904):IntKind.i64.wrap ((k:Int)+1)=((k+1:Nat):Int):=by
 rw[IntWalk.i64_in _ aq];omega
theorem aei{n:Nat}(h:n<4611686018427387904):IntKind.i64.wrap (n:Int)=(n:Int):=IntWalk.i64_in _ aq
theorem dj(n:Nat)(l:List Nat):∀v,v∈cw l→v.l n:=by
 intro c hc;simp only[cw,List.mem_map]at hc;obtain⟨x,_,rfl⟩:=hc;trivial
def jV(w:List Nat):List Nat:=w++List.replicate (64-w.length) 0
theorem D5{w:List Nat}(h:w.length≤64):(jV w).length=64:=by simp[jV];omega
theorem D6{w:List Nat}{i:Nat}(h:i<w.length):(jV w)[i]?=some w[i]:=by
 unfold jV;rw[List.getElem?_append_left h,cm h]
theorem xp{w:List Nat}{x:Nat}(h:w.length<64):(jV w).set w.length x=jV (w++[x]):=by
 unfold jV;rw[List.set_append_right _ _ (cL _),Nat.sub_self];obtain⟨k,a⟩:∃k,64-w.length=k+1:=⟨63-w.length,aq⟩;rw[a,List.replicate_succ,List.set_cons_zero,cA];simp only[b_,List.length_singleton,List.singleton_append];rw[show 64-(w.length+1)=k by omega]
theorem KW{w:List Nat}{x y:Nat}(h:w.length<64):(jV (w++[x])).set w.length y=jV (w++[y]):=by
 rw[←xp h,←xp h,List.set_set]
theorem Oa{w:List Nat}{x:Nat}(h:w.length<64):(jV (w++[x]))[w.length]?=some x:=by
 rw[D6 aw];simp
theorem KX{w:List Nat}(h:w.length<64):jV (w++[0])=jV w:=by
 unfold jV;obtain⟨k,a⟩:∃k,64-w.length=k+1:=⟨63-w.length,aq⟩;rw[a,List.replicate_succ,cA];simp only[b_,List.length_singleton,List.singleton_append];rw[show 64-(w.length+1)=k by omega]
theorem KY(q:List Nat){j c:Nat}(h:q[j]?=some c):sG (q.take (j+1))=o32 (s32 8 (sG (q.take j))) (zT c):=by
 unfold sG;rw[List.take_add_one,h,List.foldl_append];rfl
theorem zV(b:List Nat)(Z:b.length=64):fm prog 146 [.d (nb b)] (.agg (cw (sH b))):=by
 refine bL func146 ntmps146 (rs:=[.cell 2 211]) a9 ?_;simp only[go_sem,Nat.reduceAdd,Nat.reduceLT]
 refine av (fun t:Nat=>⟨[(0,.d (nb b)),(2,.ptr 0 0 0 1),(3,.ptr 32 0 0 1),(12,.d (.int .i64 t))],[(32,⟨211,64,[cw (jV (jw b t))]⟩),(0,⟨211,64,[cw z64]⟩)],96⟩)
  (fun t=>t≤16) (fun t=>16-t) 0 aq (by
   simp[aA,ai,fv,lk,AV.low,AV.l]
   refine⟨⟨rfl,dj _ _⟩,dj _ _⟩) ?_
 intro t U;have m:=rk b t;have N:IntKind.i64.wrap (4*(t:Int))=((4*t:Nat):Int):=by rw[IntWalk.i64_in _ aq];omega
 have R:IntKind.i64.wrap (((4*t:Nat):Int)+4)=((4*t+4:Nat):Int):=by rw[IntWalk.i64_in _ aq];omega
 simp only[go_sem,Nat.reduceEqDiff,Nat.reduceAdd,Nat.reduceLT,↓reduceIte];refine⟨fun h=>?_,fun h=>?_⟩
 ·have I:((b.take (4*t+4)).drop (4*t)).length=4:=by simp;omega
  have J:((b.map fun(b:Nat)=>[DV.int .u8 (b:Int)]).take (4*t+4)).drop (4*t)=((b.take (4*t+4)).drop (4*t)).map fun(b:Nat)=>[DV.int .u8 (b:Int)]:=by simp[List.map_drop,List.map_take]
  simp only[go_sem,Nat.reduceEqDiff,Nat.reduceAdd,Nat.reduceLT,↓reduceIte,N,R,nb,Int.toNat_natCast,J,List.length_map,I];refine⟨aq,aq,?_⟩
  refine av (fun j:Nat=>⟨[(0,.d (nb b)),(2,.ptr 0 0 0 1),(3,.ptr 32 0 0 1),(12,.d (.int .i64 t)),(4,.d (.int .i64 t)),(21,.d (nb ((b.take (4*t+4)).drop (4*t)))),(22,.d (.int .i64 (4:Nat))),(23,.d (.int .i64 j))],
    [(32,⟨211,64,[cw (jV (jw b t++[sG (((b.take (4*t+4)).drop (4*t)).take j)]))]⟩),(0,⟨211,64,[cw z64]⟩)],480⟩)
   (fun j=>j≤4) (fun j=>4-j) 0 aq (by
    simp[aA,ai,fv,lk,AV.low,AV.l,nb,List.map_drop,List.map_take]
    exact⟨⟨by rw[show sG []=0 from rfl,KX aq],dj _ _⟩,dj _ _⟩) ?_
  intro j hj;simp only[go_sem,Nat.reduceEqDiff,Nat.reduceAdd,Nat.reduceLT,↓reduceIte];refine⟨fun S=>?_,fun S=>?_⟩
  ·obtain⟨c,hc,_⟩:=bu (l:=(b.take (4*t+4)).drop (4*t)) (k:=j) aq;have X:(jV (jw b t++[sG (((b.take (4*t+4)).drop (4*t)).take j)]))[t]?=some (sG (((b.take (4*t+4)).drop (4*t)).take j)):=by
    have:=Oa (w:=jw b t) (x:=sG (((b.take (4*t+4)).drop (4*t)).take j)) aq;rw[m]at this;exact this
   have D:∀y,(jV (jw b t++[sG (((b.take (4*t+4)).drop (4*t)).take j)])).set t y=jV (jw b t++[y]):=by
    intro y;have:=KW (w:=jw b t) (x:=sG (((b.take (4*t+4)).drop (4*t)).take j)) (y:=y) aq;rw[m]at this;exact this
   have o:=aei (n:=j+1) aq;have O:(jV (jw b t++[sG (((b.take (4*t+4)).drop (4*t)).take j)])).length=64:=D5 (by simp;omega);generalize Y:(b.take (4*t+4)).drop (4*t)=q at *;simp[go_sem,nb,hc,nQ,X,IntKind.bits,aeg,D2,abh,GK,D,O];refine⟨aq,aq,?_⟩;have o:=ay (k:=j) aq;rw[o];refine ao (j+1) aq aq ?_;simp[aA,ai,fv,lk,AV.low,AV.l,KY q hc];exact⟨dj _ _,dj _ _⟩
  ·have H:j=4:=aq;subst H;have o:=ay (k:=t) aq;rw[o];refine ao (t+1) aq aq ?_;have a:sG (((b.take (4*t+4)).drop (4*t)).take 4)=sG ((b.take (4*t+4)).drop (4*t)):=(by rw[cx aq]);simp[aA,ai,fv,lk,AV.low,AV.l,jw];exact⟨rfl,⟨by rw[a],dj _ _⟩,dj _ _⟩
 ·have z:t=16:=aq;subst z;refine av (fun t:Nat=>⟨[(2,.ptr 0 0 0 1),(3,.ptr 32 0 0 1),(7,.d (.int .i64 ((t+16:Nat):Int)))],[(32,⟨211,64,[cw (jV (dH b t))]⟩),(0,⟨211,64,[cw z64]⟩)],128⟩)
   (fun t=>t≤48) (fun t=>48-t) 0 aq (by
    simp[aA,ai,fv,lk,AV.low,AV.l,dH]
    exact⟨dj _ _,dj _ _⟩) ?_
  intro t U;have m:=pV b t;simp only[go_sem,Nat.reduceEqDiff,Nat.reduceAdd,Nat.reduceLT,↓reduceIte];refine⟨fun h=>?_,fun h=>?_⟩
  ·have W:IntKind.i64.wrap (((t+16:Nat):Int)-15)=((t+16-15:Nat):Int):=by rw[IntWalk.i64_in _ aq];omega
   have i2:IntKind.i64.wrap (((t+16:Nat):Int)-2)=((t+16-2:Nat):Int):=by rw[IntWalk.i64_in _ aq];omega
   have i3:IntKind.i64.wrap (((t+16:Nat):Int)-16)=((t+16-16:Nat):Int):=by rw[IntWalk.i64_in _ aq];omega
   have Q:IntKind.i64.wrap (((t+16:Nat):Int)-7)=((t+16-7:Nat):Int):=by rw[IntWalk.i64_in _ aq];omega
   have E:∀i,i<t+16→(jV (dH b t))[i]?=some ((dH b t).getD i 0):=by
    intro i hi;rw[D6 aq,cR,cm aq];rfl
   have o:=ay (k:=t+16) aq;generalize P:t+16=T at *;apply NX (0::1::2::3::4::5::6::7::8::9::[]) ([]) 0 (k:=10) (by kernel_rfl) (by kernel_rfl) rfl
   case hz=>repeat (first|exact Its.nil|apply Its.plain rfl|apply Its.guard rfl rfl)
   case hj=>exact Jts.nil
   intro G K;have s:=E (T-15) aq;have D:=E (T-2) aq;have C:=E (T-16) aq;have L:=E (T-7) aq;have e:wx (dH b t)=mW (mW (mW ((dH b t).getD (T-16) 0) (o5 (o5 (rj 25 ((dH b t).getD (T-15) 0)) (rj 14 ((dH b t).getD (T-15) 0))) (fe 3 ((dH b t).getD (T-15) 0)))) ((dH b t).getD (T-7) 0)) (o5 (o5 (rj 15 ((dH b t).getD (T-2) 0)) (rj 13 ((dH b t).getD (T-2) 0))) (fe 10 ((dH b t).getD (T-2) 0))):=by
    unfold wx;rw[m]
   generalize(dH b t).getD (T-15) 0=x at s e;generalize(dH b t).getD (T-2) 0=y at D e;generalize(dH b t).getD (T-16) 0=u at C e;generalize(dH b t).getD (T-7) 0=v at L e;simp[go_sem,W,i2,nQ,s,D];refine⟨aq,aq,K _ _ ?_⟩;simp only[go_sem,Nat.reduceEqDiff,Nat.reduceAdd,Nat.reduceLT,↓reduceIte,Nat.reduceMul];refine ag (io x 25 (-7) (by decide) aq) a9 ?_;simp only[go_sem,Nat.reduceEqDiff,Nat.reduceAdd,Nat.reduceLT,↓reduceIte];refine ag (io x 14 (-18) (by decide) aq) a9 ?_;simp[go_sem,jv,IntKind.bits,aeh];refine ag (io y 15 (-17) (by decide) aq) a9 ?_;simp only[go_sem,Nat.reduceEqDiff,Nat.reduceAdd,Nat.reduceLT,↓reduceIte];refine ag (io y 13 (-19) (by decide) aq) a9 ?_;simp[go_sem,jv,IntKind.bits,abj];apply NX (0::1::2::3::4::5::6::7::8::9::10::11::12::13::14::[]) ((15,([]))::[]) 0 (k:=16) (by kernel_rfl) (by kernel_rfl) rfl
   case hz=>repeat (first|exact Its.nil|apply Its.plain rfl|apply Its.guard rfl rfl)
   case hj=>exact Jts.plain rfl Its.nil Jts.nil
   intro G K;have g:(jV (dH b t)).set T (wx (dH b t))=jV (dH b (t+1)):=by
    have:=xp (w:=dH b t) (x:=wx (dH b t)) aq;rw[m]at this;exact this
   rw[e]at g;have A:(jV (dH b t)).length=64:=D5 aq;simp[go_sem,i3,Q,nQ,C,L,iF,GK,g,A];refine⟨aq,aq,aq,aq,K _ _ ?_⟩;simp[go_sem,o];refine ao (t+1) aq aq ?_;subst P;simp[aA,ai,fv,lk,AV.low,AV.l];exact⟨aq,dj _ _,dj _ _⟩
  ·have p:t=48:=aq;subst p;have a:jV (dH b 48)=sH b:=by
    have M:∀w:List Nat,w.length=64→jV w=w:=fun w V=>by unfold jV;rw[V,Nat.sub_self,List.replicate_zero,List.append_nil]
    exact M _ m
   rw[a];have B:=ui b;generalize sH b=sb at B;have F:(cw sb).take 64=cw sb:=cx (by rw[Bz];omega);simp[go_sem,B,F];exact aa (by simp[AV.deep];exact TC _) rfl
def dP(s:S8):List AV:=[.d (.int .u32 (s.a:Int)),.d (.int .u32 (s.b:Int)),.d (.int .u32 (s.c:Int)),.d (.int .u32 (s.d:Int)),.d (.int .u32 (s.e:Int)),.d (.int .u32 (s.f:Int)),.d (.int .u32 (s.g:Int)),.d (.int .u32 (s.h:Int))]
theorem uj(s:S8):dP s=cw s.l:=rfl
theorem zX:K.length=64:=rfl
def jx(s v:S8)(i:Nat):List Nat:=(List.zipWith mW s.l v.l).take i++s.l.drop i
theorem D7(s v:S8){i:Nat}(h:i≤8):(jx s v i).length=8:=by simp[jx,S8.l];omega
theorem zY(s v:S8):jx s v 0=s.l:=by simp[jx]
theorem D8(s v:S8):jx s v 8=(D3 s v).l:=by simp[jx,S8.l,D3]
theorem zZ(s v:S8){i:Nat}(h:i<8):∃x y,v.l[i]?=some y∧(jx s v i)[i]?=some x∧(jx s v i).set i (mW x y)=jx s v (i+1):=by
 rcases(by omega:i=0∨i=1∨i=2∨i=3∨i=4∨i=5∨i=6∨i=7)with rfl|rfl|rfl|rfl|rfl|rfl|rfl|rfl;exact⟨s.a,v.a,by simp[S8.l],by simp[jx,S8.l],by simp[jx,S8.l]⟩;exact⟨s.b,v.b,by simp[S8.l],by simp[jx,S8.l],by simp[jx,S8.l]⟩;exact⟨s.c,v.c,by simp[S8.l],by simp[jx,S8.l],by simp[jx,S8.l]⟩;exact⟨s.d,v.d,by simp[S8.l],by simp[jx,S8.l],by simp[jx,S8.l]⟩;exact⟨s.e,v.e,by simp[S8.l],by simp[jx,S8.l],by simp[jx,S8.l]⟩;exact⟨s.f,v.f,by simp[S8.l],by simp[jx,S8.l],by simp[jx,S8.l]⟩;exact⟨s.g,v.g,by simp[S8.l],by simp[jx,S8.l],by simp[jx,S8.l]⟩;exact⟨s.h,v.h,by simp[S8.l],by simp[jx,S8.l],by simp[jx,S8.l]⟩
theorem IJ{l:List Nat}{tail:List AV}{i x:Nat}(h:l[i]?=some x):(cw l++tail)[i]?=some (.d (.int .u32 (x:Int))):=by
 have a:i<(cw l).length:=by rw[Bz];exact(ci.1 h).1
 rw[List.getElem?_append_left a,nQ,h];rfl
theorem IK{l:List Nat}{tail:List AV}{i x:Nat}(h:i<l.length):(cw l++tail).set i (.d (.int .u32 (x:Int)))=cw (l.set i x)++tail:=by
 rw[List.set_append_left _ _ (by rw[Bz];exact h),GK]
theorem V3:(if IntKind.u32.signed=true then -1 else IntKind.u32.max)=(4294967295:Int):=by decide
theorem vZ(ty:TypeId)(e:Nat)(s:S8)(tail:List AV)(b:List Nat)(Q:b.length=64)(j:∀n,∀v,v∈tail→v.l n) :
  cZ prog 105 1 [(0,⟨ty,e,[dP s++tail]⟩)] [.ptr 0 0 0 1,.d (nb b)] (fun r C=>r=.tup []∧lk 0 C=some ⟨ty,e,[dP (take s b)++tail]⟩):=by
 refine ap func105 (by kernel_rfl) rfl ntmps105 (rs:=[]) rfl (dN rfl) (by decide) ?_;simp only[go_sem,Nat.reduceEqDiff,Nat.reduceAdd,Nat.reduceLT,↓reduceIte];refine ag (zV b Q) a9 ?_;simp only[go_sem,Nat.reduceAdd,Nat.reduceLT];refine ag D4 a9 ?_;have z:=ui b;have N:(K.zip (sH b)).length=64:=by rw[List.length_zip,z,zX];rfl
 unfold take GL;generalize sH b=ws at *;have B:(cw z64).drop 64=[]:=rfl;generalize o:qR II 0 (K.zip ws) s=R;simp[go_sem,zX,z,dP,B]
 refine av (fun t:Nat×S8=>⟨[(0,.ptr 0 0 0 1),(4,.ptr 98 0 0 1),(5,.ptr 130 0 0 1),(6,.ptr 322 0 0 1),(19,.d (.int .i64 t.1))],
   [(322,⟨164,8,[dP t.2]⟩),(130,⟨211,64,[cw K]⟩),(98,⟨211,64,[cw ws]⟩),(0,⟨ty,e,[dP s++tail]⟩)],418⟩)
  (fun t=>t.1≤64∧qR II t.1 (K.zip ws) t.2=R) (fun t=>64-t.1) (0,s) ⟨aq,o⟩ (by
   simp[aA,ai,fv,lk,AV.low,AV.l,dP]
   exact⟨dj _ _,dj _ _,fun v m=>j _ v m⟩) ?_
 clear o;rintro⟨t,v⟩⟨T,o⟩;simp only at T o;simp only[go_sem,Nat.reduceEqDiff,Nat.reduceAdd,Nat.reduceLT,↓reduceIte];refine⟨fun h=>?_,fun h=>?_⟩
 ·obtain⟨k,J,_⟩:=bu (l:=K) (k:=t) (by rw[zX];omega);obtain⟨w,L,_⟩:=bu (l:=ws) (k:=t) aq;have P:(K.zip ws)[t]?=some (k,w):=by rw[List.getElem?_zip_eq_some];exact⟨J,L⟩
  rw[xo II P]at o;simp only[go_sem,dP];simp[go_sem];refine cK [0,1,2,4,7,11,12,13,14,15,16,17,18,19,20,22,23,24,26,27,28] [(3,[]),(5,[6]),(8,[9,10,21,25,29,30])] 3 (k:=31) ?_;intro G p;simp[go_sem,nQ,J,L,jv,kP,V3,V2];refine⟨aq,?_⟩;refine ag (io v.e 26 (-6) (by decide) aq) a9 ?_;simp[go_sem];refine ag (io v.e 21 (-11) (by decide) aq) a9 ?_;simp[go_sem,jv];refine ag (io v.e 7 (-25) (by decide) aq) a9 ?_;simp[go_sem,jv,iF];have I:mW (mW (mW (mW v.h (o5 (o5 (rj 26 v.e) (rj 21 v.e)) (rj 7 v.e))) (o5 (D1 v.e v.f) (D1 (c32 v.e) v.g))) k) w=T1 v k w:=by unfold T1;with_reducible rfl
  rw[I];refine p _ _ ?_;clear p G;simp[go_sem];refine cK [0,2,5,8,9,10,11,12,13,14,15,16,17,18,19,20,21,22] [(1,[]),(3,[4]),(6,[7,23,24])] 3 (k:=25) ?_;intro G p;simp[go_sem,jv,kP];refine ag (io v.a 30 (-2) (by decide) aq) a9 ?_;simp[go_sem];refine ag (io v.a 19 (-13) (by decide) aq) a9 ?_;simp[go_sem,jv];refine ag (io v.a 10 (-22) (by decide) aq) a9 ?_;simp[go_sem,jv,iF];have E:mW (o5 (o5 (rj 30 v.a) (rj 19 v.a)) (rj 10 v.a)) (o5 (o5 (D1 v.a v.b) (D1 v.a v.c)) (D1 v.b v.c))=T2 v:=by unfold T2;with_reducible rfl
  rw[E];refine p _ _ ?_;clear p G;have H:=ay (k:=t) aq;simp[go_sem,iF,mX,H];refine ao (t+1,II v (k,w)) ⟨by simp only;omega,o⟩ (by simp only;omega) ?_;simp[aA,ai,fv,lk,AV.low,AV.l,II,rd];exact⟨dj _ _,dj _ _,fun v m=>j _ v m⟩
 ·have A:t=64:=aq;subst A;rw[zU II aq]at o;subst o;refine av (fun i:Nat=>⟨[(0,.ptr 0 0 0 1),(6,.ptr 322 0 0 1),(101,.d (.int .i64 i))],[(322,⟨164,8,[cw v.l]⟩),(0,⟨ty,e,[cw (jx s v i)++tail]⟩)],482⟩)
   (fun i=>i≤8) (fun i=>8-i) 0 aq (by
    simp[aA,ai,fv,lk,AV.low,AV.l,zY,uj];refine⟨dj _ _,fun v m=>?_⟩;rcases m with m|m;exact dj _ _ v m
    exact j _ v m) ?_
  intro i S;simp only[go_sem,Nat.reduceEqDiff,Nat.reduceAdd,Nat.reduceLT,↓reduceIte];refine⟨fun h=>?_,fun h=>?_⟩
  ·obtain⟨x,y,M,O,u⟩:=zZ s v (i:=i) aq;have F:=D7 s v S;refine cK [0,1,2,3,4,5,6,7,8,9,10] [(11,[])] 0 (k:=12) ?_;intro G p;have q:=IK (l:=jx s v i) (tail:=tail) (i:=i) (x:=mW x y) aq;rw[u]at q;simp[go_sem,IJ O,nQ,M,iF,q,F];refine⟨aq,aq,p _ _ ?_⟩;have H:=ay (k:=i) aq;simp[go_sem,H];refine ao (i+1) aq aq ?_;simp[aA,ai,fv,lk,AV.low,AV.l];refine⟨dj _ _,fun v m=>?_⟩;rcases m with m|m
   exact dj _ _ v m;exact j _ v m
  ·have D:i=8:=aq;subst D;simp[go_sem,D8];simp[cw,S8.l]
def rb(L:List Nat):List (List AV):=L.map fun(x:Nat)=>[.d (.int .u8 (x:Int))]
theorem aJ(L:List Nat):(rb L).length=L.length:=by simp[rb]
theorem aZ(n:Nat)(L:List Nat):∀r,r∈rb L→∀v,v∈r→v.l n:=by
 intro r a v b;simp only[rb,List.mem_map]at a;obtain⟨x,_,rfl⟩:=a;simp at b;subst b;trivial
theorem TD(l:List Nat):∀c,c∈cw l→c.flat1:=by
 intro c hc;simp only[cw,List.mem_map]at hc;obtain⟨x,_,rfl⟩:=hc;trivial
theorem IL{hp:Hp}{I:Nat→Prop}:∀(L:List Nat),RowsR hp I (rb L) (L.map fun(x:Nat)=>[.int .u8 (x:Int)])
 |[]=>.nil
 |x::r=>.cons (.cons (.d _) .nil) (IL r)
theorem sJ{hp:Hp}{I:Nat→Prop}{id i0 n:Nat}{L:List Nat}(d:lk id hp=some ⟨5,1,rb L⟩)(b:I id)(h:i0+n≤L.length):SnapD hp I (.own id i0 n L.length) (nb ((L.drop i0).take n)):=by
 refine kJ d b (aJ L) (es:=((L.drop i0).take n).map fun(x:Nat)=>[.int .u8 (x:Int)]) ?_ (by simp;omega) (fun r a=>by
  rw[List.mem_map]at a;obtain⟨c,_,rfl⟩:=a
  rfl)
 have:((rb L).drop i0).take n=rb ((L.drop i0).take n):=by simp[rb,List.map_drop,List.map_take]
 rw[this];exact IL _
theorem u6(ty:TypeId)(e:Nat)(s:S8)(tail:List AV)(L:List Nat)(i0:Nat)(D:i0+64≤L.length)(j:∀n,∀v,v∈tail→v.l n) :
  cZ prog 105 2 [(0,⟨ty,e,[dP s++tail]⟩),(1,⟨5,1,rb L⟩)] [.ptr 0 0 0 1,.own 1 i0 64 L.length] (fun r q=>r=.tup []∧lk 0 q=some ⟨ty,e,[dP (take s ((L.drop i0).take 64))++tail]⟩∧lk 1 q=some ⟨5,1,rb L⟩):=by
 refine ap func105 (by kernel_rfl) rfl ntmps105 (rs:=[]) rfl (dN rfl) (by decide) ?_;simp only[go_sem,Nat.reduceEqDiff,Nat.reduceAdd,Nat.reduceLT,↓reduceIte];have T:((L.drop i0).take 64).length=64:=by simp;omega
 refine ju (zV ((L.drop i0).take 64) T) rfl (ak (.one (am (sJ rfl trivial D))) aF) (by simp[AV.flat];exact TD _) ?_;generalize(L.drop i0).take 64=b at *;simp only[go_sem,Nat.reduceAdd,Nat.reduceLT];refine ag D4 a9 ?_;have A:=ui b;have P:(K.zip (sH b)).length=64:=by rw[List.length_zip,A,zX];rfl
 unfold take GL;generalize sH b=ws at *;have C:(cw z64).drop 64=[]:=rfl;generalize o:qR II 0 (K.zip ws) s=R;simp[go_sem,zX,A,dP,C]
 refine av (fun t:Nat×S8=>⟨[(0,.ptr 0 0 0 1),(4,.ptr 99 0 0 1),(5,.ptr 131 0 0 1),(6,.ptr 323 0 0 1),(19,.d (.int .i64 t.1))],
   [(323,⟨164,8,[dP t.2]⟩),(131,⟨211,64,[cw K]⟩),(99,⟨211,64,[cw ws]⟩),(0,⟨ty,e,[dP s++tail]⟩),(1,⟨5,1,rb L⟩)],419⟩)
  (fun t=>t.1≤64∧qR II t.1 (K.zip ws) t.2=R) (fun t=>64-t.1) (0,s) ⟨aq,o⟩ (by
   simp[aA,ai,fv,lk,AV.low,AV.l,dP]
   exact⟨dj _ _,dj _ _,fun v m=>j _ v m,aZ _ _⟩) ?_
 clear o;rintro⟨t,v⟩⟨V,o⟩;simp only at V o;simp only[go_sem,Nat.reduceEqDiff,Nat.reduceAdd,Nat.reduceLT,↓reduceIte];refine⟨fun h=>?_,fun h=>?_⟩
 ·obtain⟨k,M,_⟩:=bu (l:=K) (k:=t) (by rw[zX];omega);obtain⟨w,N,_⟩:=bu (l:=ws) (k:=t) aq;have S:(K.zip ws)[t]?=some (k,w):=by rw[List.getElem?_zip_eq_some];exact⟨M,N⟩
  rw[xo II S]at o;simp only[go_sem,dP];simp[go_sem];refine cK [0,1,2,4,7,11,12,13,14,15,16,17,18,19,20,22,23,24,26,27,28] [(3,[]),(5,[6]),(8,[9,10,21,25,29,30])] 3 (k:=31) ?_;intro G p;simp[go_sem,nQ,M,N,jv,kP,V3,V2];refine⟨aq,?_⟩;refine ag (io v.e 26 (-6) (by decide) aq) a9 ?_;simp[go_sem];refine ag (io v.e 21 (-11) (by decide) aq) a9 ?_;simp[go_sem,jv];refine ag (io v.e 7 (-25) (by decide) aq) a9 ?_;simp[go_sem,jv,iF];have J:mW (mW (mW (mW v.h (o5 (o5 (rj 26 v.e) (rj 21 v.e)) (rj 7 v.e))) (o5 (D1 v.e v.f) (D1 (c32 v.e) v.g))) k) w=T1 v k w:=by unfold T1;with_reducible rfl
  rw[J];refine p _ _ ?_;clear p G;simp[go_sem];refine cK [0,2,5,8,9,10,11,12,13,14,15,16,17,18,19,20,21,22] [(1,[]),(3,[4]),(6,[7,23,24])] 3 (k:=25) ?_;intro G p;simp[go_sem,jv,kP];refine ag (io v.a 30 (-2) (by decide) aq) a9 ?_;simp[go_sem];refine ag (io v.a 19 (-13) (by decide) aq) a9 ?_;simp[go_sem,jv];refine ag (io v.a 10 (-22) (by decide) aq) a9 ?_;simp[go_sem,jv,iF];have F:mW (o5 (o5 (rj 30 v.a) (rj 19 v.a)) (rj 10 v.a)) (o5 (o5 (D1 v.a v.b) (D1 v.a v.c)) (D1 v.b v.c))=T2 v:=by unfold T2;with_reducible rfl
  rw[F];refine p _ _ ?_;clear p G;have I:=ay (k:=t) aq;simp[go_sem,iF,mX,I];refine ao (t+1,II v (k,w)) ⟨by simp only;omega,o⟩ (by simp only;omega) ?_;simp[aA,ai,fv,lk,AV.low,AV.l,II,rd];exact⟨dj _ _,dj _ _,fun v m=>j _ v m,aZ _ _⟩
 ·have B:t=64:=aq;subst B;rw[zU II aq]at o;subst o;refine av (fun i:Nat=>⟨[(0,.ptr 0 0 0 1),(6,.ptr 323 0 0 1),(101,.d (.int .i64 i))],[(323,⟨164,8,[cw v.l]⟩),(0,⟨ty,e,[cw (jx s v i)++tail]⟩),(1,⟨5,1,rb L⟩)],483⟩)
   (fun i=>i≤8) (fun i=>8-i) 0 aq (by
    simp[aA,ai,fv,lk,AV.low,AV.l,zY,uj];refine⟨dj _ _,fun v m=>?_,aZ _ _⟩;rcases m with m|m;exact dj _ _ v m
    exact j _ v m) ?_
  intro i U;simp only[go_sem,Nat.reduceEqDiff,Nat.reduceAdd,Nat.reduceLT,↓reduceIte];refine⟨fun h=>?_,fun h=>?_⟩
  ·obtain⟨x,y,O,Q,z⟩:=zZ s v (i:=i) aq;have H:=D7 s v U;refine cK [0,1,2,3,4,5,6,7,8,9,10] [(11,[])] 0 (k:=12) ?_;intro G p;have u:=IK (l:=jx s v i) (tail:=tail) (i:=i) (x:=mW x y) aq;rw[z]at u;simp[go_sem,IJ Q,nQ,O,iF,u,H];refine⟨aq,aq,p _ _ ?_⟩;have I:=ay (k:=i) aq;simp[go_sem,I];refine ao (i+1) aq aq ?_;simp[aA,ai,fv,lk,AV.low,AV.l];refine⟨dj _ _,fun v m=>?_,aZ _ _⟩;rcases m with m|m
   exact dj _ _ v m;exact j _ v m
  ·have E:i=8:=aq;subst E;simp[go_sem,D8];simp[cw,S8.l]
theorem o6:cZ prog 57 0 [] [] (fun r a=>r=.ptr 97 0 0 1∧lk 97 a=some ⟨167,10,[dP H0++[.nil,.d (.int .u64 0)]]⟩):=by
 refine ap func57 (by kernel_rfl) rfl ntmps57 (rs:=[.tmp 0]) rfl (dN rfl) (by decide) ?_;simp only[go_sem,Nat.reduceAdd,Nat.reduceLT];refine ag KV a9 ?_;simp[go_sem,ah,mX,kp,←uj,dP]
theorem pX{β:Type}(f:β→List DV)(b:List β){P:Program}{el:TypeId}{e:Nat}{es:List (List DV)}{nx:Nat}{a:AV→Hp→Prop}{hp:Hp}:gr P el (.d (.rof e es)) (some (List.map ((fun r=>List.map AV.d r)∘f) b)) nx a hp=(e=P.cellsOf el∧(gi P el).isSome=true∧P.bytesOf el≠0∧(es.length+b.length)*P.bytesOf el≤140737488355328∧Bn (a (.d (.ro e (es++b.map f))) hp) (b.map f≠[]∧a (.own nx 0 (es.length+b.length) (es.length+b.length)) ((nx,⟨el,P.cellsOf el,es.map (fun r=>r.map AV.d)++List.map ((fun r=>List.map AV.d r)∘f) b⟩)::hp))):=by
 have:=DX (P:=P) (K:=a) (hp:=hp) (nx:=nx) el e es (b.map f);rw[List.map_map,List.length_map]at this;exact this
theorem mN{α β:Type}(f:α→β)(l:List α):(l.map f).take l.length=l.map f:=by
 rw[cx aw]
theorem eat_none(k:Nat)(s:S8)(b:List Nat)(h:b.length<64):uZ k s b=(s,b):=by
 cases k with
 |zero=>rfl
 |succ k=>simp[uZ];omega
theorem eat_more{k:Nat}{s:S8}{b:List Nat}(h:64≤b.length)(a:b.length≤k):uZ k s b=uZ (k-1) (take s (b.take 64)) (b.drop 64):=by
 obtain⟨j,rfl⟩:∃j,k=j+1:=⟨k-1,aq⟩;rw[uZ,if_pos h];rfl
theorem Ob(s:S8)(R:AV)(rest b:List Nat)(n:Int)(v:R=.d (nb rest)∨(R=.nil∧rest=[]))(o:rest.length+b.length≤1000000000000) :
  cZ prog 58 1 [(0,⟨167,10,[dP s++[R,.d (.int .u64 n)]]⟩)] [.ptr 0 0 0 1,.d (nb b)]
   (fun r g=>r=.tup []∧lk 0 g=some ⟨167,10,[dP (uZ ((rest++b).length) s (rest++b)).1++[.d (nb (uZ ((rest++b).length) s (rest++b)).2),.d (.int .u64 (IntKind.u64.wrap (n+(IntKind.u64.wrap (b.length:Int)))))]]⟩):=by
 refine ap func58 (by kernel_rfl) rfl ntmps58 (rs:=[]) rfl (dN rfl) (by decide) ?_;generalize l:IntKind.u64.wrap (n+(IntKind.u64.wrap (b.length:Int)))=n';generalize j:uZ ((rest++b).length) s (rest++b)=E;rcases v with rfl|⟨rfl,rfl⟩
 ·simp[go_sem,nb,dP,l];refine cK [0,1,2,3,4,5,6,7,8,9,10,11,12,13,14,15,16] [(17,[18,19]),(20,[])] 1 (k:=21) ?_;intro G a;simp[go_sem,mN,pX];refine⟨by have:=o;simp only[b_]at *;omega,.inl (a _ _ ?_)⟩;clear a G
  refine av (fun t:S8×List Nat=>⟨[(0,.ptr 0 0 0 1)],[(0,⟨167,10,[dP t.1++[.d (nb t.2),.d (.int .u64 n')]]⟩)],1090⟩)
   (fun t=>t.2.length≤1000000000000∧∃k,t.2.length≤k∧uZ k t.1 t.2=E) (fun t=>t.2.length) (s,rest++b) ⟨by have:=o;simp only[b_]at *;omega,_,cL _,j⟩ (by
    simp[aA,ai,fv,lk,AV.low,AV.l,nb,dP]) ?_
  rintro⟨i,q⟩⟨u,k,m,c⟩;simp only at u m c;simp only[go_sem,Nat.reduceEqDiff,Nat.reduceAdd,Nat.reduceLT,↓reduceIte,dP,nb,List.length_map];refine⟨fun h=>?_,fun h=>?_⟩
  ·have e:64≤q.length:=aq;rw[eat_more e m]at c;refine cK [0,1,2,3,4,5,6,7] [(8,[])] 0 (k:=9) ?_;intro G a;simp[go_sem];refine⟨aq,?_⟩;refine aS [(0,0)] (vZ 167 10 i [.d (nb q),.d (.int .u64 n')] (q.take 64) (by simp;omega) (by simp[AV.l])) rfl aw (by simp[lk]) (by simp[lk,Blk.r,aQ,AV.R,AV.r,iV,dP,nb]) (by simp[AV.R,AV.r,cn,iV,lk,nb,List.map_take]) ?_;rintro r g⟨rfl,p⟩;refine⟨[],rfl,?_⟩;simp[go_sem,cj,bK,p,Blk.r,aQ,AV.R,AV.r,dP];refine a _ _ ?_;clear a G;simp[go_sem,nb];refine⟨aq,?_⟩;refine ao (take i (q.take 64),q.drop 64) ⟨by simp only[e_];omega,k-1,by simp only[e_];omega,c⟩ (by simp only[e_];omega) ?_;simp[aA,ai,fv,lk,AV.low,AV.l,List.map_drop,mN]
  ·rw[eat_none k i q aq]at c;subst c;rfl
 ·simp[go_sem,nb,dP,l];refine cK [0,1,2,3,4,5,6,7,8,9,10,11,12,13,14,15,16] [(17,[18,19]),(20,[])] 1 (k:=21) ?_;intro G a;simp[go_sem,pX];refine⟨by have:=o;simp only[b_,List.length_nil]at *;omega,.inl (a _ _ ?_)⟩;clear a G
  refine av (fun t:S8×List Nat=>⟨[(0,.ptr 0 0 0 1)],[(0,⟨167,10,[dP t.1++[.d (nb t.2),.d (.int .u64 n')]]⟩)],1090⟩)
   (fun t=>t.2.length≤1000000000000∧∃k,t.2.length≤k∧uZ k t.1 t.2=E) (fun t=>t.2.length) (s,[]++b) ⟨by have:=o;simp only[b_,List.length_nil]at *;omega,_,cL _,j⟩ (by
    simp[aA,ai,fv,lk,AV.low,AV.l,nb,dP]) ?_
  rintro⟨i,q⟩⟨u,k,m,c⟩;simp only at u m c;simp only[go_sem,Nat.reduceEqDiff,Nat.reduceAdd,Nat.reduceLT,↓reduceIte,dP,nb,List.length_map];refine⟨fun h=>?_,fun h=>?_⟩
  ·have e:64≤q.length:=aq;rw[eat_more e m]at c;refine cK [0,1,2,3,4,5,6,7] [(8,[])] 0 (k:=9) ?_;intro G a;simp[go_sem];refine⟨aq,?_⟩;refine aS [(0,0)] (vZ 167 10 i [.d (nb q),.d (.int .u64 n')] (q.take 64) (by simp;omega) (by simp[AV.l])) rfl aw (by simp[lk]) (by simp[lk,Blk.r,aQ,AV.R,AV.r,iV,dP,nb]) (by simp[AV.R,AV.r,cn,iV,lk,nb,List.map_take]) ?_;rintro r g⟨rfl,p⟩;refine⟨[],rfl,?_⟩;simp[go_sem,cj,bK,p,Blk.r,aQ,AV.R,AV.r,dP];refine a _ _ ?_;clear a G;simp[go_sem,nb];refine⟨aq,?_⟩;refine ao (take i (q.take 64),q.drop 64) ⟨by simp only[e_];omega,k-1,by simp only[e_];omega,c⟩ (by simp only[e_];omega) ?_;simp[aA,ai,fv,lk,AV.low,AV.l,List.map_drop,mN]
  ·rw[eat_none k i q aq]at c;subst c;rfl
def padTo:Nat→List Nat→List Nat
 |0,l=>l
 |n+1,l=>if l.length%64=56 then l else padTo n (l++[0])
theorem xq{k:Nat}{l:List Nat}(h:l.length%64≠56)(a:0<k):padTo k l=padTo (k-1) (l++[0]):=by
 obtain⟨j,rfl⟩:∃j,k=j+1:=⟨k-1,aq⟩;rw[padTo,if_neg h];rfl
theorem Aa{k:Nat}{l:List Nat}(h:l.length%64=56):padTo k l=l:=by
 cases k with
 |zero=>rfl
 |succ k=>rw[padTo,if_pos h]
theorem lJ(a b:List Nat):rb a++rb b=rb (a++b):=by simp[rb]
theorem iQ(a:List Nat)(x:Nat):rb a++[[AV.d (.int .u8 (x:Int))]]=rb (a++[x]):=by simp[rb]
theorem xu(a:List Nat):rb a++[[AV.d (.int .u8 128)]]=rb (a++[128]):=by simp[rb]
theorem D9(a:List Nat):rb a++[[AV.d (.int .u8 0)]]=rb (a++[0]):=by simp[rb]
theorem dx(a:List Nat):List.map ((fun r=>List.map AV.d r)∘fun(x:Nat)=>[DV.int .u8 (x:Int)]) a=rb a:=by simp[rb]
def kB(m:Nat):Nat→List Nat
 |0=>[]
 |j+1=>kB m j++[t8 (fe (56-8*j) m)]
theorem fA(m:Nat):∀j,(kB m j).length=j
 |0=>rfl
 |j+1=>by simp[kB,fA m j]
def lastOf(rest:List Nat)(n:Nat):List Nat:=padTo 64 (rest++[128])++kB (n*8%18446744073709551616) 8
theorem Oc(n:Nat):IntKind.u64.wrap ((n:Int)*8)=((n*8%18446744073709551616:Nat):Int):=by rw[iW];omega
theorem Oe(n:Nat):Int.tmod (n:Int) 64=((n%64:Nat):Int):=by
 have:=Int.ofNat_tmod n 64;simpa using this.symm
theorem Og(s:S8)(a b:AV)(d:∀n,a.l n)(c:∀n,b.l n)(n:Nat):∀v,v∈dP s++[a,b]→v.l n:=by
 intro v e;rcases cD.1 e with h|h;exact dj n s.l v h;simp only[d_,List.mem_nil_iff,or_false]at h;rcases h with rfl|rfl;exact d n;exact c n
theorem jR(s:S8)(a b:AV)(d:∀n,a.l n)(c:∀n,b.l n)(n:Nat):∀v,v∈dP s∨v=a∨v=b→v.l n:=by
 intro v e;refine Og s a b d c n v ?_;simpa using e
theorem iR(s:S8)(n:Nat):∀v,v∈dP s→v.l n:=dj n s.l
theorem IM(ρ:Nat→Nat)(s:S8):AV.R ρ (dP s)=dP s:=N9 ρ s.l
theorem dE(ρ:Nat→Nat)(L:List Nat):List.map (AV.R ρ) (rb L)=rb L:=by
 simp[rb,AV.R,AV.r]
def jy(w:List Nat):List Nat:=w++List.replicate (32-w.length) 0
theorem Ab{w:List Nat}(h:w.length≤32):(jy w).length=32:=by simp[jy];omega
theorem Ac{w:List Nat}{x:Nat}(h:w.length<32):(jy w).set w.length x=jy (w++[x]):=by
 unfold jy;rw[List.set_append_right _ _ (cL _),Nat.sub_self];obtain⟨k,a⟩:∃k,32-w.length=k+1:=⟨31-w.length,aq⟩;rw[a,List.replicate_succ,List.set_cons_zero,cA];simp only[b_,List.length_singleton,List.singleton_append];rw[show 32-(w.length+1)=k by omega]
theorem xw{w:List Nat}(h:w.length=32):jy w=w:=by unfold jy;rw[h];simp
theorem abk(s:S8):List.take 8 (dP s)=dP s:=rfl
theorem IN(s:S8){i:Nat}(h:i<8):(dP s)[i]?=some (.d (.int .u32 ((s.l.getD i 0:Nat):Int))):=by
 rw[uj,nQ,cR];have:i<s.l.length:=h;rw[cm this];rfl
theorem hd9(s:S8)(a b:AV):(List.drop 9 (dP s++[a,b])).head?=some b:=rfl
theorem tk8(s:S8)(a b:AV):List.take 8 (dP s++[a,b])=dP s:=rfl
theorem v8(s:S8):(dP s).length=8:=rfl
theorem GO (s:S8) (R:AV) (rest:List Nat) (n:Nat) (hR:R=.d (nb rest) ∨ (R=.nil∧rest=[])) (U:rest.length≤1000000000000) :
  cZ prog 60 1 [(0,⟨167,10,[dP s++[R,.d (.int .u64 (n:Int))]]⟩)] [.ptr 0 0 0 1]
   (fun r G=>r=.agg (cb (KU (uZ (lastOf rest n).length s (lastOf rest n)).1))∧lk 0 G=some ⟨167,10,[dP s++[R,.d (.int .u64 (n:Int))]]⟩):=by
 refine ap func60 (by kernel_rfl) rfl ntmps60 (rs:=[.cell 2 29]) rfl (dN rfl) (by decide) ?_;rcases hR with rfl|⟨rfl,rfl⟩
 ·simp [go_sem,nb,dP,dx,xu,aJ];refine ⟨aq,aq,?_⟩
  refine av (fun l:List Nat=>⟨[(0,.ptr 0 0 0 1),(2,.ptr 2 0 0 1),(3,.own 98 0 l.length l.length)],[(98,⟨5,1,rb l⟩),(2,⟨29,32,[cb z32]⟩),(0,⟨167,10,[dP s++[.d (nb rest),.d (.int .u64 (n:Int))]]⟩)],450⟩)
   (fun l=>l.length≤1000000000000+65∧∃k,(120-l.length%64)%64≤k∧(k+l.length≤1000000000000+65)∧padTo k l=padTo 64 (rest++[128])) (fun l=>(120-l.length%64)%64) (rest++[128]) ⟨by have:=U;simp only[b_,List.length_singleton]at *;omega,64,aq,by have:=U;simp only[b_,List.length_singleton]at *;omega,rfl⟩ (by
    simp[aA,ai,fv,lk,AV.low,AV.l,nb,dP]
    exact⟨aZ _ _,aI _ _⟩) ?_
  rintro l⟨Z,k,P,Q,C⟩;have V:Int.tmod (l.length:Int) 64=((l.length%64:Nat):Int):=Oe _;simp only[go_sem,Nat.reduceEqDiff,Nat.reduceAdd,Nat.reduceLT,↓reduceIte,V];refine⟨by decide,fun h=>?_,fun h=>?_⟩
  have b:l.length%64≠56:=aq;rw[xq b aq]at C;refine⟨by decide,aJ l,aq,?_⟩;rw[D9];refine ao (l++[0]) ⟨by simp only[b_,List.length_singleton];omega,k-1,by simp only[b_,List.length_singleton];omega,by simp only[b_,List.length_singleton];omega,C⟩ (by simp only[b_,List.length_singleton];omega) ?_;simp[aA,ai,fv,lk,AV.low,AV.l];exact⟨aZ _ _,aI _ _,jR s (.d (nb rest)) (.d (.int .u64 n)) (fun _=>trivial) (fun _=>trivial) _⟩
  ·have b:l.length % 64=56:=aq;rw [Aa b] at C;simp only [go_sem,Nat.reduceAdd,Nat.reduceLT,↓reduceIte,hd9,Oc];have o:lastOf rest n=l ++ kB (n*8 % 18446744073709551616) 8:=by unfold lastOf;rw [← C]
   generalize n*8%18446744073709551616=m at o;generalize lastOf rest n=L at o;clear C P Q U;refine av (fun j:Nat=>⟨[(0,.ptr 0 0 0 1),(2,.ptr 2 0 0 1),(3,.own 98 0 (l++kB m j).length (l++kB m j).length),(4,.d (.int .u64 (m:Int))),(5,.d (.int .i64 (56-8*(j:Int))))],[(98,⟨5,1,rb (l++kB m j)⟩),(2,⟨29,32,[cb z32]⟩),(0,⟨167,10,[dP s++[.d (nb rest),.d (.int .u64 (n:Int))]]⟩)],642⟩)
    (fun j=>j≤8) (fun j=>8-j) 0 aq (by
     simp[aA,ai,fv,lk,AV.low,AV.l,kB]
     exact⟨aZ _ _,aI _ _,jR s (.d (nb rest)) (.d (.int .u64 n)) (fun _=>trivial) (fun _=>trivial) _⟩) ?_
   intro j hj;have T:(l++kB m j).length=l.length+j:=(by rw[b_,fA]);have e8:(56:Int)-8*(j:Int)-8=56-8*((j+1:Nat):Int):=aq;have Y:IntKind.i64.wrap (56-8*(j:Int)-8)=56-8*((j+1:Nat):Int):=by rw[IntWalk.i64_in _ aq];omega
   simp only[go_sem,Nat.reduceEqDiff,Nat.reduceAdd,Nat.reduceLT,↓reduceIte];refine⟨fun h=>?_,fun h=>?_⟩
   ·have ad:j≤7:=aq;have H:IntKind.u8.wrap (Int.fdiv (m:Int) (2 ^ (min (56-8*(j:Int)).toNat 64)))=((t8 (fe (56-8*j) m):Nat):Int):=by
     rw[show min (56-8*(j:Int)).toNat 64=56-8*j by omega,d_r,gl]
    have es:rb (l++kB m j)++[[AV.d (.int .u8 ((t8 (fe (56-8*j) m):Nat):Int))]]=rb (l++kB m (j+1)):=by rw[iQ,cA];rfl
    simp only[go_sem,H,aJ,es,Y];refine⟨aq,by decide,by have:=fA m j;omega,?_⟩;refine ao (j+1) aq aq ?_;have I:(kB m (j+1)).length=(kB m j).length+1:=(by rw[fA,fA])
    simp[aA,ai,fv,lk,AV.low,AV.l,I];exact⟨aq,aZ _ _,aI _ _,jR s (.d (nb rest)) (.d (.int .u64 n)) (fun _=>trivial) (fun _=>trivial) _⟩
   ·have M:j=8:=aq;subst M;rw[←o];have W:L.length%64=0:=by rw[o,b_,fA];omega
    have ac:L.length≤2000000000000:=by rw[o,b_,fA];omega
    have B:l.length+(kB m 8).length=L.length:=(by rw[o,b_]);clear o T e8 Y b h V;simp[go_sem,tk8,v8,B];generalize u:uZ L.length s L=E
    refine av (fun t:Nat×S8=>⟨[(0,.ptr 0 0 0 1),(2,.ptr 2 0 0 1),(3,.own 98 (64*t.1) (L.length-64*t.1) L.length),(6,.ptr 834 0 0 1)],[(834,⟨164,8,[dP t.2]⟩),(98,⟨5,1,rb L⟩),(2,⟨29,32,[cb z32]⟩),(0,⟨167,10,[dP s++[.d (nb rest),.d (.int .u64 (n:Int))]]⟩)],898⟩)
     (fun t=>64*t.1≤L.length∧∃k,L.length-64*t.1≤k∧uZ k t.2 (L.drop (64*t.1))=E) (fun t=>L.length-64*t.1) (0,s) ⟨aq,L.length,aq,u⟩ (by
      simp[aA,ai,fv,lk,AV.low,AV.l]
      exact⟨iR _ _,aZ _ _,aI _ _,jR s (.d (nb rest)) (.d (.int .u64 n)) (fun _=>trivial) (fun _=>trivial) _⟩) ?_
    rintro⟨j,a⟩⟨y,k,P,p⟩;simp only at y P p;have D:(L.drop (64*j)).length=L.length-64*j:=e_;simp only[go_sem,Nat.reduceEqDiff,Nat.reduceAdd,Nat.reduceLT,↓reduceIte];refine⟨fun h=>?_,fun h=>?_⟩
    ·have aa:64≤L.length-64*j:=aq;rw[eat_more aq aq]at p;simp[go_sem];refine⟨aq,?_⟩;refine aS [(0,834),(1,98)] (u6 164 8 a [] L (64*j) aq aw) rfl aw (by simp[lk]) (by simp[lk,Blk.r,aQ,AV.R,AV.r,iV,dP,rb]) (by simp[AV.R,AV.r,cn,iV,lk]) ?_;rintro r G⟨rfl,h0,h1⟩;refine⟨[],rfl,?_⟩;simp[go_sem,cj,bK,h0,h1,Blk.r,aQ,IM,dE,AV.R,AV.r];refine⟨aq,?_⟩;refine ao (j+1,take a ((L.drop (64*j)).take 64)) ⟨by simp only;omega,k-1,by simp only;omega,?_⟩ (by simp only;omega) ?_
     rw[List.drop_drop]at p;exact p;simp[aA,ai,fv,lk,AV.low,AV.l];exact⟨⟨aq,aq⟩,iR _ _,aZ _ _,aI _ _,jR s (.d (nb rest)) (.d (.int .u64 n)) (fun _=>trivial) (fun _=>trivial) _⟩
    ·have c:L.drop (64*j)=[]:=c_ aq;rw[c,eat_none k a [] aw]at p;have O:a=E.1:=(by rw[←p]);clear p u D c;simp[go_sem,v8]
     refine av (fun i:Nat=>⟨[(0,.ptr 0 0 0 1),(2,.ptr 2 0 0 1),(7,.ptr 994 0 0 1),(59,.agg (dP a)),(60,.d (.int .i64 i))],[(994,⟨29,32,[cb (jy (pre a.l i))]⟩),(2,⟨29,32,[cb z32]⟩),(0,⟨167,10,[dP s++[.d (nb rest),.d (.int .u64 (n:Int))]]⟩)],1090⟩)
      (fun i=>i≤8) (fun i=>8-i) 0 aq (by
       simp[aA,ai,fv,lk,AV.low,AV.l,abk]
       exact⟨iR _ _,⟨rfl,aI _ _⟩,aI _ _,jR s (.d (nb rest)) (.d (.int .u64 n)) (fun _=>trivial) (fun _=>trivial) _⟩) ?_
     intro i hi;have A:=pW a.l i;simp only[go_sem,Nat.reduceEqDiff,Nat.reduceAdd,Nat.reduceLT,↓reduceIte];refine⟨fun h2=>?_,fun h2=>?_⟩
     ·have X:=IN a (i:=i) aq;have e:pre a.l (i+1)=pre a.l i++BB (a.l.getD i 0) 4:=rfl;generalize a.l.getD i 0=x at X e;simp[go_sem,X];refine⟨aq,?_⟩
      refine av (fun k:Nat=>⟨[(0,.ptr 0 0 0 1),(2,.ptr 2 0 0 1),(7,.ptr 994 0 0 1),(59,.agg (dP a)),(60,.d (.int .i64 i)),(8,.d (.int .i64 i)),(9,.d (.int .u32 (x:Int))),(64,.d (.int .i64 k))],[(994,⟨29,32,[cb (jy (pre a.l i++BB x k))]⟩),(2,⟨29,32,[cb z32]⟩),(0,⟨167,10,[dP s++[.d (nb rest),.d (.int .u64 (n:Int))]]⟩)],1300⟩)
       (fun k=>k≤4) (fun k=>4-k) 0 aq (by
        simp[aA,ai,fv,lk,AV.low,AV.l,BB]
        exact⟨iR _ _,aI _ _,aI _ _,jR s (.d (nb rest)) (.d (.int .u64 n)) (fun _=>trivial) (fun _=>trivial) _⟩) ?_
      intro k ab;have S:=vY x k;simp only[go_sem,Nat.reduceEqDiff,Nat.reduceAdd,Nat.reduceLT,↓reduceIte];refine⟨fun h3=>?_,fun h3=>?_⟩
      ·have w1:IntKind.i64.wrap (4*(i:Int))=((4*i:Nat):Int):=by rw[IntWalk.i64_in _ aq];omega
       have w2:IntKind.i64.wrap (((4*i:Nat):Int)+(k:Int))=((4*i+k:Nat):Int):=by rw[IntWalk.i64_in _ aq];omega
       have w3:IntKind.i64.wrap (8*(k:Int))=((8*k:Nat):Int):=by rw[IntWalk.i64_in _ aq];omega
       have w4:IntKind.i64.wrap (24-((8*k:Nat):Int))=((24-8*k:Nat):Int):=by rw[IntWalk.i64_in _ aq];omega
       have N:=ay (k:=k) aq;have H:IntKind.u8.wrap (Int.fdiv (x:Int) (2 ^ (min (24-8*k) 32)))=((t8 (fe (24-8*k) x):Nat):Int):=by
        rw[show min (24-8*k) 32=24-8*k by omega,d_r,gl]
       have z:(jy (pre a.l i++BB x k)).set (4*i+k) (t8 (fe (24-8*k) x))=jy (pre a.l i++BB x (k+1)):=by
        have h:=Ac (w:=pre a.l i++BB x k) (x:=t8 (fe (24-8*k) x)) (by rw[b_];omega);rw[b_,A,S,cA]at h;exact h
       have K:(jy (pre a.l i++BB x k)).length=32:=Ab (by rw[b_];omega);simp only[go_sem,w1,w2,w3,w4,Int.toNat_natCast,H,Nat.mul_one,GN,z,K,N];refine⟨aq,aq,?_⟩;refine ao (k+1) aq aq ?_;simp[aA,ai,fv,lk,AV.low,AV.l];exact⟨iR _ _,aI _ _,aI _ _,jR s (.d (nb rest)) (.d (.int .u64 n)) (fun _=>trivial) (fun _=>trivial) _⟩
      ·have q:k=4:=aq;subst q;rw[←e];have N:=ay (k:=i) aq;simp only[go_sem,N];refine ao (i+1) aq aq ?_;simp[aA,ai,fv,lk,AV.low,AV.l];exact⟨iR _ _,aI _ _,aI _ _,jR s (.d (nb rest)) (.d (.int .u64 n)) (fun _=>trivial) (fun _=>trivial) _⟩
     ·have J:i=8:=aq;subst J;have g:jy (pre a.l 8)=KU a:=xw A;rw[g,O];have v:(KU E.1).length=32:=pW _ 8;have F:List.take 32 (cb (KU E.1))=cb (KU E.1):=cx (by rw[aj];omega);simp[go_sem,v,F];rfl
 ·simp [go_sem,dP]
  refine av (fun l:List Nat=>⟨[(0,.ptr 0 0 0 1),(2,.ptr 2 0 0 1),(3,.own 98 0 l.length l.length)],[(98,⟨5,1,rb l⟩),(2,⟨29,32,[cb z32]⟩),(0,⟨167,10,[dP s++[.nil,.d (.int .u64 (n:Int))]]⟩)],450⟩)
   (fun l=>l.length≤1000000000000+65∧∃k,(120-l.length%64)%64≤k∧(k+l.length≤1000000000000+65)∧padTo k l=padTo 64 ([]++[128])) (fun l=>(120-l.length%64)%64) ([]++[128]) ⟨by have:=U;simp only[b_,List.length_nil,List.length_singleton]at *;omega,64,aq,by have:=U;simp only[b_,List.length_nil,List.length_singleton]at *;omega,rfl⟩ (by
    simp[aA,ai,fv,lk,AV.low,AV.l,dP]
    exact⟨⟨rfl,aZ _ _⟩,aI _ _⟩) ?_
  rintro l⟨Z,k,P,Q,C⟩;have V:Int.tmod (l.length:Int) 64=((l.length%64:Nat):Int):=Oe _;simp only[go_sem,Nat.reduceEqDiff,Nat.reduceAdd,Nat.reduceLT,↓reduceIte,V];refine⟨by decide,fun h=>?_,fun h=>?_⟩
  have b:l.length%64≠56:=aq;rw[xq b aq]at C;refine⟨by decide,aJ l,aq,?_⟩;rw[D9];refine ao (l++[0]) ⟨by simp only[b_,List.length_singleton];omega,k-1,by simp only[b_,List.length_singleton];omega,by simp only[b_,List.length_singleton];omega,C⟩ (by simp only[b_,List.length_singleton];omega) ?_;simp[aA,ai,fv,lk,AV.low,AV.l];exact⟨aZ _ _,aI _ _,jR s (.nil) (.d (.int .u64 n)) (fun _=>trivial) (fun _=>trivial) _⟩
  ·have b:l.length % 64=56:=aq;rw [Aa b] at C;simp only [go_sem,Nat.reduceAdd,Nat.reduceLT,↓reduceIte,hd9,Oc];have o:lastOf [] n=l ++ kB (n*8 % 18446744073709551616) 8:=by unfold lastOf;rw [← C]
   generalize n*8%18446744073709551616=m at o;generalize lastOf [] n=L at o;clear C P Q U;refine av (fun j:Nat=>⟨[(0,.ptr 0 0 0 1),(2,.ptr 2 0 0 1),(3,.own 98 0 (l++kB m j).length (l++kB m j).length),(4,.d (.int .u64 (m:Int))),(5,.d (.int .i64 (56-8*(j:Int))))],[(98,⟨5,1,rb (l++kB m j)⟩),(2,⟨29,32,[cb z32]⟩),(0,⟨167,10,[dP s++[.nil,.d (.int .u64 (n:Int))]]⟩)],642⟩)
    (fun j=>j≤8) (fun j=>8-j) 0 aq (by
     simp[aA,ai,fv,lk,AV.low,AV.l,kB]
     exact⟨aZ _ _,aI _ _,jR s (.nil) (.d (.int .u64 n)) (fun _=>trivial) (fun _=>trivial) _⟩) ?_
   intro j hj;have T:(l++kB m j).length=l.length+j:=(by rw[b_,fA]);have e8:(56:Int)-8*(j:Int)-8=56-8*((j+1:Nat):Int):=aq;have Y:IntKind.i64.wrap (56-8*(j:Int)-8)=56-8*((j+1:Nat):Int):=by rw[IntWalk.i64_in _ aq];omega
   simp only[go_sem,Nat.reduceEqDiff,Nat.reduceAdd,Nat.reduceLT,↓reduceIte];refine⟨fun h=>?_,fun h=>?_⟩
   ·have ad:j≤7:=aq;have H:IntKind.u8.wrap (Int.fdiv (m:Int) (2 ^ (min (56-8*(j:Int)).toNat 64)))=((t8 (fe (56-8*j) m):Nat):Int):=by
     rw[show min (56-8*(j:Int)).toNat 64=56-8*j by omega,d_r,gl]
    have es:rb (l++kB m j)++[[AV.d (.int .u8 ((t8 (fe (56-8*j) m):Nat):Int))]]=rb (l++kB m (j+1)):=by rw[iQ,cA];rfl
    simp only[go_sem,H,aJ,es,Y];refine⟨aq,by decide,by have:=fA m j;omega,?_⟩;refine ao (j+1) aq aq ?_;have I:(kB m (j+1)).length=(kB m j).length+1:=(by rw[fA,fA])
    simp[aA,ai,fv,lk,AV.low,AV.l,I];exact⟨aq,aZ _ _,aI _ _,jR s (.nil) (.d (.int .u64 n)) (fun _=>trivial) (fun _=>trivial) _⟩
   ·have M:j=8:=aq;subst M;rw[←o];have W:L.length%64=0:=by rw[o,b_,fA];omega
    have ac:L.length≤2000000000000:=by rw[o,b_,fA];omega
    have B:l.length+(kB m 8).length=L.length:=(by rw[o,b_]);clear o T e8 Y b h V;simp[go_sem,tk8,v8,B];generalize u:uZ L.length s L=E
    refine av (fun t:Nat×S8=>⟨[(0,.ptr 0 0 0 1),(2,.ptr 2 0 0 1),(3,.own 98 (64*t.1) (L.length-64*t.1) L.length),(6,.ptr 834 0 0 1)],[(834,⟨164,8,[dP t.2]⟩),(98,⟨5,1,rb L⟩),(2,⟨29,32,[cb z32]⟩),(0,⟨167,10,[dP s++[.nil,.d (.int .u64 (n:Int))]]⟩)],898⟩)
     (fun t=>64*t.1≤L.length∧∃k,L.length-64*t.1≤k∧uZ k t.2 (L.drop (64*t.1))=E) (fun t=>L.length-64*t.1) (0,s) ⟨aq,L.length,aq,u⟩ (by
      simp[aA,ai,fv,lk,AV.low,AV.l]
      exact⟨iR _ _,aZ _ _,aI _ _,jR s (.nil) (.d (.int .u64 n)) (fun _=>trivial) (fun _=>trivial) _⟩) ?_
    rintro⟨j,a⟩⟨y,k,P,p⟩;simp only at y P p;have D:(L.drop (64*j)).length=L.length-64*j:=e_;simp only[go_sem,Nat.reduceEqDiff,Nat.reduceAdd,Nat.reduceLT,↓reduceIte];refine⟨fun h=>?_,fun h=>?_⟩
    ·have aa:64≤L.length-64*j:=aq;rw[eat_more aq aq]at p;simp[go_sem];refine⟨aq,?_⟩;refine aS [(0,834),(1,98)] (u6 164 8 a [] L (64*j) aq aw) rfl aw (by simp[lk]) (by simp[lk,Blk.r,aQ,AV.R,AV.r,iV,dP,rb]) (by simp[AV.R,AV.r,cn,iV,lk]) ?_;rintro r G⟨rfl,h0,h1⟩;refine⟨[],rfl,?_⟩;simp[go_sem,cj,bK,h0,h1,Blk.r,aQ,IM,dE,AV.R,AV.r];refine⟨aq,?_⟩;refine ao (j+1,take a ((L.drop (64*j)).take 64)) ⟨by simp only;omega,k-1,by simp only;omega,?_⟩ (by simp only;omega) ?_
     rw[List.drop_drop]at p;exact p;simp[aA,ai,fv,lk,AV.low,AV.l];exact⟨⟨aq,aq⟩,iR _ _,aZ _ _,aI _ _,jR s (.nil) (.d (.int .u64 n)) (fun _=>trivial) (fun _=>trivial) _⟩
    ·have c:L.drop (64*j)=[]:=c_ aq;rw[c,eat_none k a [] aw]at p;have O:a=E.1:=(by rw[←p]);clear p u D c;simp[go_sem,v8]
     refine av (fun i:Nat=>⟨[(0,.ptr 0 0 0 1),(2,.ptr 2 0 0 1),(7,.ptr 994 0 0 1),(59,.agg (dP a)),(60,.d (.int .i64 i))],[(994,⟨29,32,[cb (jy (pre a.l i))]⟩),(2,⟨29,32,[cb z32]⟩),(0,⟨167,10,[dP s++[.nil,.d (.int .u64 (n:Int))]]⟩)],1090⟩)
      (fun i=>i≤8) (fun i=>8-i) 0 aq (by
       simp[aA,ai,fv,lk,AV.low,AV.l,abk]
       exact⟨iR _ _,⟨rfl,aI _ _⟩,aI _ _,jR s (.nil) (.d (.int .u64 n)) (fun _=>trivial) (fun _=>trivial) _⟩) ?_
     intro i hi;have A:=pW a.l i;simp only[go_sem,Nat.reduceEqDiff,Nat.reduceAdd,Nat.reduceLT,↓reduceIte];refine⟨fun h2=>?_,fun h2=>?_⟩
     ·have X:=IN a (i:=i) aq;have e:pre a.l (i+1)=pre a.l i++BB (a.l.getD i 0) 4:=rfl;generalize a.l.getD i 0=x at X e;simp[go_sem,X];refine⟨aq,?_⟩
      refine av (fun k:Nat=>⟨[(0,.ptr 0 0 0 1),(2,.ptr 2 0 0 1),(7,.ptr 994 0 0 1),(59,.agg (dP a)),(60,.d (.int .i64 i)),(8,.d (.int .i64 i)),(9,.d (.int .u32 (x:Int))),(64,.d (.int .i64 k))],[(994,⟨29,32,[cb (jy (pre a.l i++BB x k))]⟩),(2,⟨29,32,[cb z32]⟩),(0,⟨167,10,[dP s++[.nil,.d (.int .u64 (n:Int))]]⟩)],1300⟩)
       (fun k=>k≤4) (fun k=>4-k) 0 aq (by
        simp[aA,ai,fv,lk,AV.low,AV.l,BB]
        exact⟨iR _ _,aI _ _,aI _ _,jR s (.nil) (.d (.int .u64 n)) (fun _=>trivial) (fun _=>trivial) _⟩) ?_
      intro k ab;have S:=vY x k;simp only[go_sem,Nat.reduceEqDiff,Nat.reduceAdd,Nat.reduceLT,↓reduceIte];refine⟨fun h3=>?_,fun h3=>?_⟩
      ·have w1:IntKind.i64.wrap (4*(i:Int))=((4*i:Nat):Int):=by rw[IntWalk.i64_in _ aq];omega
       have w2:IntKind.i64.wrap (((4*i:Nat):Int)+(k:Int))=((4*i+k:Nat):Int):=by rw[IntWalk.i64_in _ aq];omega
       have w3:IntKind.i64.wrap (8*(k:Int))=((8*k:Nat):Int):=by rw[IntWalk.i64_in _ aq];omega
       have w4:IntKind.i64.wrap (24-((8*k:Nat):Int))=((24-8*k:Nat):Int):=by rw[IntWalk.i64_in _ aq];omega
       have N:=ay (k:=k) aq;have H:IntKind.u8.wrap (Int.fdiv (x:Int) (2 ^ (min (24-8*k) 32)))=((t8 (fe (24-8*k) x):Nat):Int):=by
        rw[show min (24-8*k) 32=24-8*k by omega,d_r,gl]
       have z:(jy (pre a.l i++BB x k)).set (4*i+k) (t8 (fe (24-8*k) x))=jy (pre a.l i++BB x (k+1)):=by
        have h:=Ac (w:=pre a.l i++BB x k) (x:=t8 (fe (24-8*k) x)) (by rw[b_];omega);rw[b_,A,S,cA]at h;exact h
       have K:(jy (pre a.l i++BB x k)).length=32:=Ab (by rw[b_];omega);simp only[go_sem,w1,w2,w3,w4,Int.toNat_natCast,H,Nat.mul_one,GN,z,K,N];refine⟨aq,aq,?_⟩;refine ao (k+1) aq aq ?_;simp[aA,ai,fv,lk,AV.low,AV.l];exact⟨iR _ _,aI _ _,aI _ _,jR s (.nil) (.d (.int .u64 n)) (fun _=>trivial) (fun _=>trivial) _⟩
      ·have q:k=4:=aq;subst q;rw[←e];have N:=ay (k:=i) aq;simp only[go_sem,N];refine ao (i+1) aq aq ?_;simp[aA,ai,fv,lk,AV.low,AV.l];exact⟨iR _ _,aI _ _,aI _ _,jR s (.nil) (.d (.int .u64 n)) (fun _=>trivial) (fun _=>trivial) _⟩
     ·have J:i=8:=aq;subst J;have g:jy (pre a.l 8)=KU a:=xw A;rw[g,O];have v:(KU E.1).length=32:=pW _ 8;have F:List.take 32 (cb (KU E.1))=cb (KU E.1):=cx (by rw[aj];omega);simp[go_sem,v,F];rfl
theorem Ea:∀(k j:Nat)(s:S8)(b:List Nat),b.length≤k→b.length≤j→uZ k s b=uZ j s b
 |0,j,s,b,h,_=>by
  have c:b.length<64:=aq;rw[Go.Proofs.YtmfnimjnneflnaaGreat.eat_none 0 s b c,Go.Proofs.YtmfnimjnneflnaaGreat.eat_none j s b c]
 |k+1,j,s,b,h,h2=>by
  by_cases a:64≤b.length;rw[Go.Proofs.YtmfnimjnneflnaaGreat.eat_more a h,Go.Proofs.YtmfnimjnneflnaaGreat.eat_more a h2];exact Ea k (j-1) _ _ (by rw[e_];omega) (by rw[e_];omega);rw[Go.Proofs.YtmfnimjnneflnaaGreat.eat_none _ s b aq,Go.Proofs.YtmfnimjnneflnaaGreat.eat_none _ s b aq]
def E(s:S8)(b:List Nat):S8×List Nat:=uZ b.length s b
theorem rl{s:S8}{b:List Nat}(h:b.length<64):E s b=(s,b):=Go.Proofs.YtmfnimjnneflnaaGreat.eat_none _ s b h
theorem uk{s:S8}{b:List Nat}(h:64≤b.length):E s b=E (take s (b.take 64)) (b.drop 64):=by
 unfold E;rw[Go.Proofs.YtmfnimjnneflnaaGreat.eat_more h (cL _)];exact Ea _ _ _ _ (by rw[e_];omega) (cL _)
theorem Eb(b:List Nat):∀(n:Nat)(s:S8)(a:List Nat),a.length≤n→E s (a++b)=E (E s a).1 ((E s a).2++b)
 |0,s,a,h=>by rw[rl (b:=a) aq]
 |n+1,s,a,h=>by
  by_cases c:64≤a.length;rw[uk (b:=a) c,uk (b:=a++b) (by rw[b_];omega)];rw[List.take_append_of_le_length c,List.drop_append_of_le_length c];exact Eb b n _ _ (by rw[e_];omega);rw[rl (b:=a) aq]
theorem Ed:∀(n:Nat)(s:S8)(a:List Nat),a.length≤n→(E s a).2.length≤a.length
 |0,s,a,h=>by rw[rl aq];exact cL _
 |n+1,s,a,h=>by
  by_cases b:64≤a.length;rw[uk b];have:=Ed n (take s (a.take 64)) (a.drop 64) (by rw[e_];omega);rw[e_]at this;omega;rw[rl aq];exact cL _
def u7(p:S8×List Nat)(n:Nat):List Nat:=KU (E p.1 (Go.Proofs.YtmfnimjnneflnaaGreat.lastOf p.2 n)).1
def bc(b:List Nat):List Nat:=u7 (E H0 b) b.length
def fQ(t b:List Nat):List Nat:=bc (bc t++(bc t++b))
theorem aR(b:List Nat):(bc b).length=32:=pW _ 8
theorem wn(a b:Nat)(h:a+b<18446744073709551616):IntKind.u64.wrap ((a:Int)+IntKind.u64.wrap (b:Int))=((a+b:Nat):Int):=by rw[iW,iW];omega
theorem fH(ρ:Nat→Nat)(b:List Nat):(AV.d (nb b)).r ρ=.d (nb b):=rfl
theorem dV(ρ:Nat→Nat):∀l:List Nat,AV.R ρ (cb l)=cb l
 |[]=>by simp[cb,AV.R]
 |x::r=>by
  have:=dV ρ r;simp only[cb]at this;simp only[cb,List.map_cons,AV.R,AV.r,this]
theorem al{l:List Nat}(h:l.length=32):List.take 32 (cb l)=cb l:=cx (by rw[aj];omega)
theorem cf:List.drop 32 (cb z32)=[]:=rfl
theorem iG(ρ:Nat→Nat)(s:S8)(a b:AV):AV.R ρ (dP s++[a,b])=dP s++[a.r ρ,b.r ρ]:=by simp[dP,AV.R,AV.r]
theorem TE(s:S8)(R:AV)(rest b:List Nat)(n:Nat)(c:R=.d (nb rest)∨(R=.nil∧rest=[]))(g:rest.length+b.length≤1000000000000)(e:n+b.length<18446744073709551616) :
  cZ prog 58 1 [(0,⟨167,10,[dP s++[R,.d (.int .u64 (n:Int))]]⟩)] [.ptr 0 0 0 1,.d (nb b)]
   (fun r a=>r=.tup []∧lk 0 a=some ⟨167,10,[dP (E s (rest++b)).1++[.d (nb (E s (rest++b)).2),.d (.int .u64 ((n+b.length:Nat):Int))]]⟩):=by
 have:=Ob s R rest b n c g;rw[wn n b.length e]at this;exact this
theorem nf(b:List Nat)(g:b.length≤100000000000):fm prog 84 [.d (nb b)] (.agg (cb (bc b))):=by
 refine bL func84 ntmps84 (rs:=[.cell 2 29]) a9 ?_;simp only[go_sem,Nat.reduceLT];refine aS [] o6 rfl aw aw aw (by simp[AV.R]) ?_;rintro r c⟨rfl,a⟩;refine⟨[(97,0)],rfl,?_⟩;simp[go_sem,cj,bK,a,Blk.r,aQ,iG,AV.r,cn];refine aS [(0,32)] (TE H0 .nil [] b 0 (.inr ⟨rfl,rfl⟩) (by simp;omega) aq) rfl aw (by simp[lk]) (by simp[lk,Blk.r,aQ,iG,AV.r,iV]) (by simp[AV.R,AV.r,cn,iV,lk]) ?_;rintro r c⟨rfl,a⟩;refine⟨[],rfl,?_⟩;simp[go_sem,cj,bK,a,Blk.r,aQ,iG,AV.R,AV.r];refine aS [(0,32)] (GO (E H0 b).1 (.d (nb (E H0 b).2)) (E H0 b).2 b.length (.inl rfl) (by have:=Ed _ H0 b (cL _);omega)) rfl aw (by simp[lk]) (by simp[lk,Blk.r,aQ,iG,AV.r,iV]) (by simp[AV.R,AV.r,cn,iV,lk]) ?_;rintro r c⟨rfl,a⟩;refine⟨[],rfl,?_⟩;have e:KU (uZ (lastOf (E H0 b).2 b.length).length (E H0 b).1 (lastOf (E H0 b).2 b.length)).1=bc b:=rfl;rw[e]at *;simp[go_sem,cj,bK,a,Blk.r,aQ,iG,dV,AV.r,ah,aR,al (aR b),cf];exact aa (by simp[AV.deep];exact bp _) rfl
theorem fh{hp:Hp}{I:Nat→Prop}{id:Nat}{ty:TypeId}{l:List Nat}(i:lk id hp=some ⟨ty,32,[cb l]⟩)(g:I id)(e:l.length=32):SnapD hp I (.sub id 0 0 1 32 32 1) (nb l):=by
 refine .sub (es:=l.map fun(x:Nat)=>[.int .u8 (x:Int)]) g i rfl rfl aq (by simp[e]) (fun r a=>by
  rw[List.mem_map]at a;obtain⟨c,_,rfl⟩:=a
  rfl) fun k j c r y hc a b=>?_
 simp only[Nat.zero_add,Nat.mul_one,cU,Option.map_eq_some_iff]at hc a;obtain⟨x,h,rfl⟩:=a;cases j with
 |succ j=>simp at b
 |zero =>
  simp at b;subst b;rw[Nat.add_zero,GM,h]at hc;simp at hc;subst hc;exact .d _
theorem jz{b:List Nat}(g:b.length=32):(List.range 32).map (fun k=>((cb b).drop k).take 1)=List.map ((fun r=>List.map AV.d r)∘fun(x:Nat)=>[DV.int .u8 (x:Int)]) b:=by
 apply List.ext_getElem?;intro i;by_cases e:i<32;rw[cU,cU,List.getElem?_range e,cm (by omega:i<b.length)];have h:i<(cb b).length:=by rw[aj];omega
 have a:(cb b)[i]?=some (.d (.int .u8 ((b[i]:Nat):Int))):=by rw[GM,cm (by omega:i<b.length)];rfl
 have c:(cb b)[i]=.d (.int .u8 ((b[i]:Nat):Int)):=by
  rw[cm h]at a;exact Option.some.inj a
 rw[Option.map_some,Option.map_some,List.drop_eq_getElem_cons h,c];rfl;rw[List.getElem?_eq_none (by simp;omega),List.getElem?_eq_none (by simp;omega)]
theorem sK(ty:TypeId)(e:Nat)(c:List AV)(s:S8)(R:AV)(rest b:List Nat)(n:Int)(D:(List.range 32).map (fun k=>(c.drop k).take 1)=List.map ((fun r=>List.map AV.d r)∘fun(x:Nat)=>[DV.int .u8 (x:Int)]) b)(a:∀n v,v∈c→v.l n)(H:R=.d (nb rest)∨(R=.nil∧rest=[]))(y:rest.length+b.length≤1000000000000)(p:b.length=32) :
  cZ prog 58 2 [(0,⟨167,10,[dP s++[R,.d (.int .u64 n)]]⟩),(1,⟨ty,e,[c]⟩)] [.ptr 0 0 0 1,.sub 1 0 0 1 32 32 1]
   (fun r j=>r=.tup []∧lk 0 j=some ⟨167,10,[dP (uZ ((rest++b).length) s (rest++b)).1++[.d (nb (uZ ((rest++b).length) s (rest++b)).2),.d (.int .u64 (IntKind.u64.wrap (n+(IntKind.u64.wrap (b.length:Int)))))]]⟩∧lk 1 j=some ⟨ty,e,[c]⟩):=by
 refine ap func58 (by kernel_rfl) rfl ntmps58 (rs:=[]) rfl (dN rfl) (by decide) ?_;rw[p];generalize C:IntKind.u64.wrap (n+(IntKind.u64.wrap ((32:Nat):Int)))=n';generalize o:uZ ((rest++b).length) s (rest++b)=E;have z:=D;generalize F:List.map ((fun r=>List.map AV.d r)∘fun(x:Nat)=>[DV.int .u8 (x:Int)]) b=X at z;simp[go_sem]at z;have u:IntKind.u64.wrap (n+IntKind.u64.wrap 32)=n':=C;rcases H with rfl|⟨rfl,rfl⟩
 ·simp[go_sem,nb,dP,u];refine cK [0,1,2,3,4,5,6,7,8,9,10,11,12,13,14,15,16] [(17,[18,19]),(20,[])] 1 (k:=21) ?_;intro G g;simp[go_sem,mN,z];rw[←F,pX];simp[go_sem];refine⟨by have:=y;simp only[b_]at *;omega,.inl (g _ _ ?_)⟩;clear g G
  refine av (fun t:S8×List Nat=>⟨[(0,.ptr 0 0 0 1)],[(0,⟨167,10,[dP t.1++[.d (nb t.2),.d (.int .u64 n')]]⟩),(1,⟨ty,e,[c]⟩)],1091⟩)
   (fun t=>t.2.length≤1000000000000∧∃k,t.2.length≤k∧uZ k t.1 t.2=E) (fun t=>t.2.length) (s,rest++b) ⟨by have:=y;simp only[b_]at *;omega,_,cL _,o⟩ (by
    simp[aA,ai,fv,lk,AV.low,AV.l,nb,dP]
    exact a _) ?_
  rintro⟨m,q⟩⟨B,k,w,i⟩;simp only at B w i;simp only[go_sem,Nat.reduceEqDiff,Nat.reduceAdd,Nat.reduceLT,↓reduceIte,dP,nb,List.length_map];refine⟨fun h=>?_,fun h=>?_⟩
  ·have l:64≤q.length:=aq;rw[eat_more l w]at i;refine cK [0,1,2,3,4,5,6,7] [(8,[])] 0 (k:=9) ?_;intro G g;simp[go_sem];refine⟨aq,?_⟩;refine aS [(0,0)] (vZ 167 10 m [.d (nb q),.d (.int .u64 n')] (q.take 64) (by simp;omega) (by simp[AV.l])) rfl aw (by simp[lk]) (by simp[lk,Blk.r,aQ,AV.R,AV.r,iV,dP,nb]) (by simp[AV.R,AV.r,cn,iV,lk,nb,List.map_take]) ?_;rintro r j⟨rfl,A⟩;refine⟨[],rfl,?_⟩;simp[go_sem,cj,bK,A,Blk.r,aQ,AV.R,AV.r,dP];refine g _ _ ?_;clear g G;simp[go_sem,nb];refine⟨aq,?_⟩;refine ao (take m (q.take 64),q.drop 64) ⟨by simp only[e_];omega,k-1,by simp only[e_];omega,i⟩ (by simp only[e_];omega) ?_;simp[aA,ai,fv,lk,AV.low,AV.l,List.map_drop,mN];exact a _
  ·rw[eat_none k m q aq]at i;subst i;rfl
 ·simp[go_sem,nb,dP,u];refine cK [0,1,2,3,4,5,6,7,8,9,10,11,12,13,14,15,16] [(17,[18,19]),(20,[])] 1 (k:=21) ?_;intro G g;simp[go_sem,z];rw[←F,pX];simp[go_sem];refine⟨by have:=y;simp only[b_,List.length_nil]at *;omega,.inl (g _ _ ?_)⟩;clear g G
  refine av (fun t:S8×List Nat=>⟨[(0,.ptr 0 0 0 1)],[(0,⟨167,10,[dP t.1++[.d (nb t.2),.d (.int .u64 n')]]⟩),(1,⟨ty,e,[c]⟩)],1091⟩)
   (fun t=>t.2.length≤1000000000000∧∃k,t.2.length≤k∧uZ k t.1 t.2=E) (fun t=>t.2.length) (s,[]++b) ⟨by have:=y;simp only[b_,List.length_nil]at *;omega,_,cL _,o⟩ (by
    simp[aA,ai,fv,lk,AV.low,AV.l,nb,dP]
    exact a _) ?_
  rintro⟨m,q⟩⟨B,k,w,i⟩;simp only at B w i;simp only[go_sem,Nat.reduceEqDiff,Nat.reduceAdd,Nat.reduceLT,↓reduceIte,dP,nb,List.length_map];refine⟨fun h=>?_,fun h=>?_⟩
  ·have l:64≤q.length:=aq;rw[eat_more l w]at i;refine cK [0,1,2,3,4,5,6,7] [(8,[])] 0 (k:=9) ?_;intro G g;simp[go_sem];refine⟨aq,?_⟩;refine aS [(0,0)] (vZ 167 10 m [.d (nb q),.d (.int .u64 n')] (q.take 64) (by simp;omega) (by simp[AV.l])) rfl aw (by simp[lk]) (by simp[lk,Blk.r,aQ,AV.R,AV.r,iV,dP,nb]) (by simp[AV.R,AV.r,cn,iV,lk,nb,List.map_take]) ?_;rintro r j⟨rfl,A⟩;refine⟨[],rfl,?_⟩;simp[go_sem,cj,bK,A,Blk.r,aQ,AV.R,AV.r,dP];refine g _ _ ?_;clear g G;simp[go_sem,nb];refine⟨aq,?_⟩;refine ao (take m (q.take 64),q.drop 64) ⟨by simp only[e_];omega,k-1,by simp only[e_];omega,i⟩ (by simp only[e_];omega) ?_;simp[aA,ai,fv,lk,AV.low,AV.l,List.map_drop,mN];exact a _
  ·rw[eat_none k m q aq]at i;subst i;rfl
theorem IP(s:S8)(R:AV)(rest b:List Nat)(n:Nat)(e:R=.d (nb rest)∨(R=.nil∧rest=[]))(h:rest.length+b.length≤1000000000000)(a:b.length=32)(g:n+b.length<18446744073709551616) :
  cZ prog 58 2 [(0,⟨167,10,[dP s++[R,.d (.int .u64 (n:Int))]]⟩),(1,⟨29,32,[cb b]⟩)] [.ptr 0 0 0 1,.sub 1 0 0 1 32 32 1]
   (fun r c=>r=.tup []∧lk 0 c=some ⟨167,10,[dP (E s (rest++b)).1++[.d (nb (E s (rest++b)).2),.d (.int .u64 ((n+b.length:Nat):Int))]]⟩∧lk 1 c=some ⟨29,32,[cb b]⟩):=by
 have:=sK 29 32 (cb b) s R rest b n (jz a) (fun n=>aI n _) e h a;rw[wn n b.length g]at this;exact this
theorem Oh(ty:TypeId)(e:Nat)(a:List AV)(s:S8)(R:AV)(rest b:List Nat)(n:Nat)(i:(List.range 32).map (fun k=>(a.drop k).take 1)=List.map ((fun r=>List.map AV.d r)∘fun(x:Nat)=>[DV.int .u8 (x:Int)]) b)(g:∀n v,v∈a→v.l n)(j:R=.d (nb rest)∨(R=.nil∧rest=[]))(m:rest.length+b.length≤1000000000000)(c:b.length=32)(l:n+b.length<18446744073709551616) :
  cZ prog 58 2 [(0,⟨167,10,[dP s++[R,.d (.int .u64 (n:Int))]]⟩),(1,⟨ty,e,[a]⟩)] [.ptr 0 0 0 1,.sub 1 0 0 1 32 32 1]
   (fun r h=>r=.tup []∧lk 0 h=some ⟨167,10,[dP (E s (rest++b)).1++[.d (nb (E s (rest++b)).2),.d (.int .u64 ((n+b.length:Nat):Int))]]⟩∧lk 1 h=some ⟨ty,e,[a]⟩):=by
 have:=sK ty e a s R rest b n i g j m c;rw[wn n b.length l]at this;exact this
theorem jc(a:List Nat)(l:DV)(j:l=.str (a.map fun(x:Nat)=>(x:Int)))(b:List Nat)(t:a.length≤1000)(s:b.length≤10000000000):fm prog 62 [.d l,.d (nb b)] (.agg (cb (fQ a b))):=by
 subst j;refine bL func62 ntmps62 (rs:=[.cell 4 29]) a9 ?_;simp[go_sem,underlying5];refine ag (nf a aq) a9 ?_;have h:=aR a;have p:fQ a b=bc (bc a++(bc a++b)):=rfl;rw[p];generalize bc a=D at h;simp[go_sem,h,cf];refine aS [] o6 rfl aw aw aw (by simp[AV.R]) ?_;rintro r e⟨rfl,c⟩;refine⟨[(97,0)],rfl,?_⟩;simp[go_sem,cj,bK,c,Blk.r,aQ,iG,AV.r,cn]
 have i:E H0 (D++(D++b))=E (E (E H0 D).1 ((E H0 D).2++D)).1 ((E (E H0 D).1 ((E H0 D).2++D)).2++b):=by
  rw[Eb _ _ _ D (cL _),←cA,Eb _ _ _ ((E H0 D).2++D) (cL _)]
 have g:u7 (E (E (E H0 D).1 ((E H0 D).2++D)).1 ((E (E H0 D).1 ((E H0 D).2++D)).2++b)) (0+D.length+D.length+b.length)=bc (D++(D++b)):=by
  unfold bc;rw[i];congr 1;simp only[b_];omega
 have u:=Ed _ H0 D (cL _);refine aS [(0,192),(1,128)] (IP H0 .nil [] D 0 (.inr ⟨rfl,rfl⟩) (by simp;omega) h aq) rfl aw (by simp[lk]) (by simp[lk,Blk.r,aQ,iG,dV,AV.r,iV]) (by simp[AV.R,AV.r,cn,iV,lk]) ?_;rintro r e⟨rfl,c,k⟩;refine⟨[],rfl,?_⟩;rw[List.nil_append]at c;generalize E H0 D=p1 at *;have q:=Ed _ p1.1 (p1.2++D) (cL _);rw[b_]at q;simp[go_sem,cj,bK,c,k,Blk.r,aQ,iG,dV,AV.R,AV.r];refine aS [(0,192),(1,128)] (IP p1.1 (.d (nb p1.2)) p1.2 D (0+D.length) (.inl rfl) aq h aq) rfl aw (by simp[lk]) (by simp[lk,Blk.r,aQ,iG,dV,AV.r,iV]) (by simp[AV.R,AV.r,cn,iV,lk]) ?_;rintro r e⟨rfl,c,k⟩;refine⟨[],rfl,?_⟩;generalize E p1.1 (p1.2++D)=p2 at *;have n:=Ed _ p2.1 (p2.2++b) (cL _);rw[b_]at n;simp[go_sem,cj,bK,c,k,Blk.r,aQ,iG,dV,AV.R,AV.r];refine aS [(0,192)] (TE p2.1 (.d (nb p2.2)) p2.2 b (0+D.length+D.length) (.inl rfl) aq aq) rfl aw (by simp[lk]) (by simp[lk,Blk.r,aQ,iG,AV.r,iV]) (by simp[AV.R,AV.r,cn,iV,lk]) ?_;rintro r e⟨rfl,c⟩;refine⟨[],rfl,?_⟩;generalize E p2.1 (p2.2++b)=p3 at *;simp[go_sem,cj,bK,c,Blk.r,aQ,iG,AV.R,AV.r];refine aS [(0,192)] (GO p3.1 (.d (nb p3.2)) p3.2 (0+D.length+D.length+b.length) (.inl rfl) aq) rfl aw (by simp[lk]) (by simp[lk,Blk.r,aQ,iG,AV.r,iV]) (by simp[AV.R,AV.r,cn,iV,lk]) ?_;rintro r e⟨rfl,c⟩;refine⟨[],rfl,?_⟩;have o:KU (uZ (lastOf p3.2 (0+D.length+D.length+b.length)).length p3.1 (lastOf p3.2 (0+D.length+D.length+b.length))).1=bc (D++(D++b)):=g;rw[o];have m:=aR (D++(D++b));generalize bc (D++(D++b))=R at *;simp[go_sem,cj,bK,c,Blk.r,aQ,iG,dV,AV.r,ah,m,al m,cf];exact aa (by simp[AV.deep];exact bp _) rfl
end Go.Proofs.YtmfnimjnneflnaaGreat
