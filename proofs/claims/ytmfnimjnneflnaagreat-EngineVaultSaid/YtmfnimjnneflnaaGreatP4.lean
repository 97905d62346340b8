/-
 Part 5 of what the claim rests on.
-/
import Derived.Test.YtmfnimjnneflnaaGreatP2
import Derived.Test.YtmfnimjnneflnaaGreatP3
import Derived.Test.YtmfnimjnneflnaaGreatRows
set_option linter.unusedVariables false
set_option linter.unusedSimpArgs false
set_option maxRecDepth 100000
set_option maxHeartbeats 16000000
namespace Go.Proofs.YtmfnimjnneflnaaGreat
open Go.Am
@[go_sem] theorem k2:bR Tryz.prog 2=.scal:=by kernel_rfl
@[go_sem] theorem c2:Tryz.prog.cellsOf 2=1:=by kernel_rfl
@[go_sem] theorem b2:Tryz.prog.bytesOf 2=8:=by kernel_rfl
@[go_sem] theorem z2:eW Tryz.prog 2=some [.d (.int .i64 0)]:=by kernel_rfl
@[go_sem] theorem i2:iZ Tryz.prog 2=some .i64:=by kernel_rfl
@[go_sem] theorem u2:(Tryz.prog.underlying 2).isSome=true:=by kernel_rfl
@[go_sem] theorem k3:bR Tryz.prog 3=.scal:=by kernel_rfl
@[go_sem] theorem c3:Tryz.prog.cellsOf 3=1:=by kernel_rfl
@[go_sem] theorem b3:Tryz.prog.bytesOf 3=8:=by kernel_rfl
@[go_sem] theorem z3:eW Tryz.prog 3=some [.d (.int .i64 0)]:=by kernel_rfl
@[go_sem] theorem i3:iZ Tryz.prog 3=some .i64:=by kernel_rfl
@[go_sem] theorem u3:(Tryz.prog.underlying 3).isSome=true:=by kernel_rfl
@[go_sem] theorem k4:bR Tryz.prog 4=.scal:=by kernel_rfl
@[go_sem] theorem c4:Tryz.prog.cellsOf 4=1:=by kernel_rfl
@[go_sem] theorem b4:Tryz.prog.bytesOf 4=1:=by kernel_rfl
@[go_sem] theorem z4:eW Tryz.prog 4=some [.d (.bool false)]:=by kernel_rfl
@[go_sem] theorem u4:(Tryz.prog.underlying 4).isSome=true:=by kernel_rfl
@[go_sem] theorem k5:bR Tryz.prog 5=.scal:=by kernel_rfl
@[go_sem] theorem c5:Tryz.prog.cellsOf 5=1:=by kernel_rfl
@[go_sem] theorem b5:Tryz.prog.bytesOf 5=1:=by kernel_rfl
@[go_sem] theorem z5:eW Tryz.prog 5=some [.d (.int .u8 0)]:=by kernel_rfl
@[go_sem] theorem i5:iZ Tryz.prog 5=some .u8:=by kernel_rfl
@[go_sem] theorem u5:(Tryz.prog.underlying 5).isSome=true:=by kernel_rfl
@[go_sem] theorem k9:bR Tryz.prog 9=.str:=by kernel_rfl
@[go_sem] theorem c9:Tryz.prog.cellsOf 9=1:=by kernel_rfl
@[go_sem] theorem b9:Tryz.prog.bytesOf 9=16:=by kernel_rfl
@[go_sem] theorem z9:eW Tryz.prog 9=some [.d (.str [])]:=by kernel_rfl
@[go_sem] theorem u9:(Tryz.prog.underlying 9).isSome=true:=by kernel_rfl
@[go_sem] theorem k22:bR Tryz.prog 22=.scal:=by kernel_rfl
@[go_sem] theorem c22:Tryz.prog.cellsOf 22=1:=by kernel_rfl
@[go_sem] theorem b22:Tryz.prog.bytesOf 22=4:=by kernel_rfl
@[go_sem] theorem z22:eW Tryz.prog 22=some [.d (.int .u32 0)]:=by kernel_rfl
@[go_sem] theorem i22:iZ Tryz.prog 22=some .u32:=by kernel_rfl
@[go_sem] theorem u22:(Tryz.prog.underlying 22).isSome=true:=by kernel_rfl
@[go_sem] theorem k23:bR Tryz.prog 23=.slice 68:=by kernel_rfl
@[go_sem] theorem c23:Tryz.prog.cellsOf 23=1:=by kernel_rfl
@[go_sem] theorem b23:Tryz.prog.bytesOf 23=24:=by kernel_rfl
@[go_sem] theorem z23:eW Tryz.prog 23=some [.nil]:=by kernel_rfl
@[go_sem] theorem u23:(Tryz.prog.underlying 23).isSome=true:=by kernel_rfl
@[go_sem] theorem k24:bR Tryz.prog 24=.slice 57:=by kernel_rfl
@[go_sem] theorem c24:Tryz.prog.cellsOf 24=1:=by kernel_rfl
@[go_sem] theorem b24:Tryz.prog.bytesOf 24=24:=by kernel_rfl
@[go_sem] theorem z24:eW Tryz.prog 24=some [.nil]:=by kernel_rfl
@[go_sem] theorem u24:(Tryz.prog.underlying 24).isSome=true:=by kernel_rfl
@[go_sem] theorem k26:bR Tryz.prog 26=.struct [(0,22),(1,23),(2,24),(3,22)]:=by kernel_rfl
@[go_sem] theorem c26:Tryz.prog.cellsOf 26=4:=by kernel_rfl
@[go_sem] theorem b26:Tryz.prog.bytesOf 26=64:=by kernel_rfl
@[go_sem] theorem z26:eW Tryz.prog 26=some [.d (.int .u32 0),.nil,.nil,.d (.int .u32 0)]:=by kernel_rfl
@[go_sem] theorem u26:(Tryz.prog.underlying 26).isSome=true:=by kernel_rfl
@[go_sem] theorem k28:bR Tryz.prog 28=.struct [(0,26),(4,3),(5,24)]:=by kernel_rfl
@[go_sem] theorem c28:Tryz.prog.cellsOf 28=6:=by kernel_rfl
@[go_sem] theorem b28:Tryz.prog.bytesOf 28=96:=by kernel_rfl
@[go_sem] theorem z28:eW Tryz.prog 28=some [.d (.int .u32 0),.nil,.nil,.d (.int .u32 0),.d (.int .i64 0),.nil]:=by kernel_rfl
@[go_sem] theorem u28:(Tryz.prog.underlying 28).isSome=true:=by kernel_rfl
@[go_sem] theorem k29:bR Tryz.prog 29=.arr 32 5:=by kernel_rfl
@[go_sem] theorem c29:Tryz.prog.cellsOf 29=32:=by kernel_rfl
@[go_sem] theorem b29:Tryz.prog.bytesOf 29=32:=by kernel_rfl
@[go_sem] theorem u29:(Tryz.prog.underlying 29).isSome=true:=by kernel_rfl
@[go_sem] theorem k30:bR Tryz.prog 30=.slice 29:=by kernel_rfl
@[go_sem] theorem c30:Tryz.prog.cellsOf 30=1:=by kernel_rfl
@[go_sem] theorem b30:Tryz.prog.bytesOf 30=24:=by kernel_rfl
@[go_sem] theorem z30:eW Tryz.prog 30=some [.nil]:=by kernel_rfl
@[go_sem] theorem u30:(Tryz.prog.underlying 30).isSome=true:=by kernel_rfl
@[go_sem] theorem k31:bR Tryz.prog 31=.slice 5:=by kernel_rfl
@[go_sem] theorem c31:Tryz.prog.cellsOf 31=1:=by kernel_rfl
@[go_sem] theorem b31:Tryz.prog.bytesOf 31=24:=by kernel_rfl
@[go_sem] theorem z31:eW Tryz.prog 31=some [.nil]:=by kernel_rfl
@[go_sem] theorem u31:(Tryz.prog.underlying 31).isSome=true:=by kernel_rfl
@[go_sem] theorem Zz:bR Tryz.prog 32=.struct [(0,29),(32,30),(33,31)]:=by kernel_rfl
@[go_sem] theorem ZA:Tryz.prog.cellsOf 32=34:=by kernel_rfl
@[go_sem] theorem ZB:Tryz.prog.bytesOf 32=80:=by kernel_rfl
@[go_sem] theorem ZC:(Tryz.prog.underlying 32).isSome=true:=by kernel_rfl
@[go_sem] theorem k33:bR Tryz.prog 33=.struct [(0,29),(32,30),(33,31)]:=by kernel_rfl
@[go_sem] theorem c33:Tryz.prog.cellsOf 33=34:=by kernel_rfl
@[go_sem] theorem b33:Tryz.prog.bytesOf 33=80:=by kernel_rfl
@[go_sem] theorem u33:(Tryz.prog.underlying 33).isSome=true:=by kernel_rfl
@[go_sem] theorem k34:bR Tryz.prog 34=.slice 31:=by kernel_rfl
@[go_sem] theorem c34:Tryz.prog.cellsOf 34=1:=by kernel_rfl
@[go_sem] theorem b34:Tryz.prog.bytesOf 34=24:=by kernel_rfl
@[go_sem] theorem z34:eW Tryz.prog 34=some [.nil]:=by kernel_rfl
@[go_sem] theorem u34:(Tryz.prog.underlying 34).isSome=true:=by kernel_rfl
@[go_sem] theorem k36:bR Tryz.prog 36=.struct [(0,28),(6,33),(40,34),(41,31),(42,3)]:=by kernel_rfl
@[go_sem] theorem c36:Tryz.prog.cellsOf 36=43:=by kernel_rfl
@[go_sem] theorem b36:Tryz.prog.bytesOf 36=232:=by kernel_rfl
@[go_sem] theorem u36:(Tryz.prog.underlying 36).isSome=true:=by kernel_rfl
@[go_sem] theorem k42:bR Tryz.prog 42=.struct [(0,5),(1,31)]:=by kernel_rfl
@[go_sem] theorem c42:Tryz.prog.cellsOf 42=2:=by kernel_rfl
@[go_sem] theorem b42:Tryz.prog.bytesOf 42=32:=by kernel_rfl
@[go_sem] theorem z42:eW Tryz.prog 42=some [.d (.int .u8 0),.nil]:=by kernel_rfl
@[go_sem] theorem u42:(Tryz.prog.underlying 42).isSome=true:=by kernel_rfl
@[go_sem] theorem k44:bR Tryz.prog 44=.slice 42:=by kernel_rfl
@[go_sem] theorem c44:Tryz.prog.cellsOf 44=1:=by kernel_rfl
@[go_sem] theorem b44:Tryz.prog.bytesOf 44=24:=by kernel_rfl
@[go_sem] theorem z44:eW Tryz.prog 44=some [.nil]:=by kernel_rfl
@[go_sem] theorem u44:(Tryz.prog.underlying 44).isSome=true:=by kernel_rfl
@[go_sem] theorem k45:bR Tryz.prog 45=.slice 55:=by kernel_rfl
@[go_sem] theorem c45:Tryz.prog.cellsOf 45=1:=by kernel_rfl
@[go_sem] theorem b45:Tryz.prog.bytesOf 45=24:=by kernel_rfl
@[go_sem] theorem z45:eW Tryz.prog 45=some [.nil]:=by kernel_rfl
@[go_sem] theorem u45:(Tryz.prog.underlying 45).isSome=true:=by kernel_rfl
@[go_sem] theorem k46:bR Tryz.prog 46=.scal:=by kernel_rfl
@[go_sem] theorem c46:Tryz.prog.cellsOf 46=1:=by kernel_rfl
@[go_sem] theorem b46:Tryz.prog.bytesOf 46=8:=by kernel_rfl
@[go_sem] theorem z46:eW Tryz.prog 46=some [.d (.int .i64 0)]:=by kernel_rfl
@[go_sem] theorem i46:iZ Tryz.prog 46=some .i64:=by kernel_rfl
@[go_sem] theorem u46:(Tryz.prog.underlying 46).isSome=true:=by kernel_rfl
@[go_sem] theorem k53:bR Tryz.prog 53=.scal:=by kernel_rfl
@[go_sem] theorem c53:Tryz.prog.cellsOf 53=1:=by kernel_rfl
@[go_sem] theorem b53:Tryz.prog.bytesOf 53=8:=by kernel_rfl
@[go_sem] theorem z53:eW Tryz.prog 53=some [.d (.int .u64 0)]:=by kernel_rfl
@[go_sem] theorem i53:iZ Tryz.prog 53=some .u64:=by kernel_rfl
@[go_sem] theorem u53:(Tryz.prog.underlying 53).isSome=true:=by kernel_rfl
@[go_sem] theorem k55:bR Tryz.prog 55=.struct [(0,3),(1,53)]:=by kernel_rfl
@[go_sem] theorem c55:Tryz.prog.cellsOf 55=2:=by kernel_rfl
@[go_sem] theorem b55:Tryz.prog.bytesOf 55=16:=by kernel_rfl
@[go_sem] theorem z55:eW Tryz.prog 55=some [.d (.int .i64 0),.d (.int .u64 0)]:=by kernel_rfl
@[go_sem] theorem u55:(Tryz.prog.underlying 55).isSome=true:=by kernel_rfl
@[go_sem] theorem k57:bR Tryz.prog 57=.struct [(0,53),(1,31)]:=by kernel_rfl
@[go_sem] theorem c57:Tryz.prog.cellsOf 57=2:=by kernel_rfl
@[go_sem] theorem b57:Tryz.prog.bytesOf 57=32:=by kernel_rfl
@[go_sem] theorem z57:eW Tryz.prog 57=some [.d (.int .u64 0),.nil]:=by kernel_rfl
@[go_sem] theorem u57:(Tryz.prog.underlying 57).isSome=true:=by kernel_rfl
@[go_sem] theorem k66:bR Tryz.prog 66=.struct [(0,29),(32,22)]:=by kernel_rfl
@[go_sem] theorem c66:Tryz.prog.cellsOf 66=33:=by kernel_rfl
@[go_sem] theorem b66:Tryz.prog.bytesOf 66=36:=by kernel_rfl
@[go_sem] theorem u66:(Tryz.prog.underlying 66).isSome=true:=by kernel_rfl
@[go_sem] theorem k68:bR Tryz.prog 68=.struct [(0,66),(33,22),(34,34)]:=by kernel_rfl
@[go_sem] theorem c68:Tryz.prog.cellsOf 68=35:=by kernel_rfl
@[go_sem] theorem b68:Tryz.prog.bytesOf 68=64:=by kernel_rfl
@[go_sem] theorem u68:(Tryz.prog.underlying 68).isSome=true:=by kernel_rfl
@[go_sem] theorem k73:bR Tryz.prog 73=.arr 2 2:=by kernel_rfl
@[go_sem] theorem c73:Tryz.prog.cellsOf 73=2:=by kernel_rfl
@[go_sem] theorem b73:Tryz.prog.bytesOf 73=16:=by kernel_rfl
@[go_sem] theorem z73:eW Tryz.prog 73=some [.d (.int .i64 0),.d (.int .i64 0)]:=by kernel_rfl
@[go_sem] theorem u73:(Tryz.prog.underlying 73).isSome=true:=by kernel_rfl
@[go_sem] theorem k96:bR Tryz.prog 96=.arr 4 53:=by kernel_rfl
@[go_sem] theorem c96:Tryz.prog.cellsOf 96=4:=by kernel_rfl
@[go_sem] theorem b96:Tryz.prog.bytesOf 96=32:=by kernel_rfl
@[go_sem] theorem z96:eW Tryz.prog 96=some [.d (.int .u64 0),.d (.int .u64 0),.d (.int .u64 0),.d (.int .u64 0)]:=by kernel_rfl
@[go_sem] theorem u96:(Tryz.prog.underlying 96).isSome=true:=by kernel_rfl
@[go_sem] theorem k139:bR Tryz.prog 139=.arr 3 29:=by kernel_rfl
@[go_sem] theorem c139:Tryz.prog.cellsOf 139=96:=by kernel_rfl
@[go_sem] theorem b139:Tryz.prog.bytesOf 139=96:=by kernel_rfl
@[go_sem] theorem u139:(Tryz.prog.underlying 139).isSome=true:=by kernel_rfl
@[go_sem] theorem k143:bR Tryz.prog 143=.arr 5 29:=by kernel_rfl
@[go_sem] theorem c143:Tryz.prog.cellsOf 143=160:=by kernel_rfl
@[go_sem] theorem b143:Tryz.prog.bytesOf 143=160:=by kernel_rfl
@[go_sem] theorem u143:(Tryz.prog.underlying 143).isSome=true:=by kernel_rfl
@[go_sem] theorem k155:bR Tryz.prog 155=.struct [(0,34),(1,34)]:=by kernel_rfl
@[go_sem] theorem c155:Tryz.prog.cellsOf 155=2:=by kernel_rfl
@[go_sem] theorem b155:Tryz.prog.bytesOf 155=48:=by kernel_rfl
@[go_sem] theorem z155:eW Tryz.prog 155=some [.nil,.nil]:=by kernel_rfl
@[go_sem] theorem u155:(Tryz.prog.underlying 155).isSome=true:=by kernel_rfl
@[go_sem] theorem k156:bR Tryz.prog 156=.slice 4:=by kernel_rfl
@[go_sem] theorem c156:Tryz.prog.cellsOf 156=1:=by kernel_rfl
@[go_sem] theorem b156:Tryz.prog.bytesOf 156=24:=by kernel_rfl
@[go_sem] theorem z156:eW Tryz.prog 156=some [.nil]:=by kernel_rfl
@[go_sem] theorem u156:(Tryz.prog.underlying 156).isSome=true:=by kernel_rfl
@[go_sem] theorem k158:bR Tryz.prog 158=.struct [(0,28),(6,33),(40,31),(41,155),(43,156),(44,3),(45,3),(46,45),(47,46)]:=by kernel_rfl
@[go_sem] theorem c158:Tryz.prog.cellsOf 158=48:=by kernel_rfl
@[go_sem] theorem b158:Tryz.prog.bytesOf 158=320:=by kernel_rfl
@[go_sem] theorem u158:(Tryz.prog.underlying 158).isSome=true:=by kernel_rfl
@[go_sem] theorem k164:bR Tryz.prog 164=.arr 8 22:=by kernel_rfl
@[go_sem] theorem c164:Tryz.prog.cellsOf 164=8:=by kernel_rfl
@[go_sem] theorem b164:Tryz.prog.bytesOf 164=32:=by kernel_rfl
@[go_sem] theorem z164:eW Tryz.prog 164=some [.d (.int .u32 0),.d (.int .u32 0),.d (.int .u32 0),.d (.int .u32 0),.d (.int .u32 0),.d (.int .u32 0),.d (.int .u32 0),.d (.int .u32 0)]:=by kernel_rfl
@[go_sem] theorem u164:(Tryz.prog.underlying 164).isSome=true:=by kernel_rfl
@[go_sem] theorem k167:bR Tryz.prog 167=.struct [(0,164),(8,31),(9,53)]:=by kernel_rfl
@[go_sem] theorem c167:Tryz.prog.cellsOf 167=10:=by kernel_rfl
@[go_sem] theorem b167:Tryz.prog.bytesOf 167=64:=by kernel_rfl
@[go_sem] theorem z167:eW Tryz.prog 167=some [.d (.int .u32 0),.d (.int .u32 0),.d (.int .u32 0),.d (.int .u32 0),.d (.int .u32 0),.d (.int .u32 0),.d (.int .u32 0),.d (.int .u32 0),.nil,.d (.int .u64 0)]:=by kernel_rfl
@[go_sem] theorem u167:(Tryz.prog.underlying 167).isSome=true:=by kernel_rfl
@[go_sem] theorem k169:bR Tryz.prog 169=.scal:=by kernel_rfl
@[go_sem] theorem c169:Tryz.prog.cellsOf 169=1:=by kernel_rfl
@[go_sem] theorem b169:Tryz.prog.bytesOf 169=8:=by kernel_rfl
@[go_sem] theorem z169:eW Tryz.prog 169=some [.d (.int .u64 0)]:=by kernel_rfl
@[go_sem] theorem i169:iZ Tryz.prog 169=some .u64:=by kernel_rfl
@[go_sem] theorem u169:(Tryz.prog.underlying 169).isSome=true:=by kernel_rfl
@[go_sem] theorem k189:bR Tryz.prog 189=.struct [(0,96),(4,96),(8,4)]:=by kernel_rfl
@[go_sem] theorem c189:Tryz.prog.cellsOf 189=9:=by kernel_rfl
@[go_sem] theorem b189:Tryz.prog.bytesOf 189=72:=by kernel_rfl
@[go_sem] theorem z189:eW Tryz.prog 189=some [.d (.int .u64 0),.d (.int .u64 0),.d (.int .u64 0),.d (.int .u64 0),.d (.int .u64 0),.d (.int .u64 0),.d (.int .u64 0),.d (.int .u64 0),.d (.bool false)]:=by kernel_rfl
@[go_sem] theorem u189:(Tryz.prog.underlying 189).isSome=true:=by kernel_rfl
@[go_sem] theorem k204:bR Tryz.prog 204=.arr 2 34:=by kernel_rfl
@[go_sem] theorem c204:Tryz.prog.cellsOf 204=2:=by kernel_rfl
@[go_sem] theorem b204:Tryz.prog.bytesOf 204=48:=by kernel_rfl
@[go_sem] theorem z204:eW Tryz.prog 204=some [.nil,.nil]:=by kernel_rfl
@[go_sem] theorem u204:(Tryz.prog.underlying 204).isSome=true:=by kernel_rfl
@[go_sem] theorem k211:bR Tryz.prog 211=.arr 64 22:=by kernel_rfl
@[go_sem] theorem c211:Tryz.prog.cellsOf 211=64:=by kernel_rfl
@[go_sem] theorem b211:Tryz.prog.bytesOf 211=256:=by kernel_rfl
@[go_sem] theorem u211:(Tryz.prog.underlying 211).isSome=true:=by kernel_rfl
@[go_sem] theorem k217:bR Tryz.prog 217=.scal:=by kernel_rfl
@[go_sem] theorem c217:Tryz.prog.cellsOf 217=1:=by kernel_rfl
@[go_sem] theorem b217:Tryz.prog.bytesOf 217=2:=by kernel_rfl
@[go_sem] theorem z217:eW Tryz.prog 217=some [.d (.int .u16 0)]:=by kernel_rfl
@[go_sem] theorem i217:iZ Tryz.prog 217=some .u16:=by kernel_rfl
@[go_sem] theorem u217:(Tryz.prog.underlying 217).isSome=true:=by kernel_rfl
@[go_sem] theorem k226:bR Tryz.prog 226=.arr 8 53:=by kernel_rfl
@[go_sem] theorem c226:Tryz.prog.cellsOf 226=8:=by kernel_rfl
@[go_sem] theorem b226:Tryz.prog.bytesOf 226=64:=by kernel_rfl
@[go_sem] theorem z226:eW Tryz.prog 226=some [.d (.int .u64 0),.d (.int .u64 0),.d (.int .u64 0),.d (.int .u64 0),.d (.int .u64 0),.d (.int .u64 0),.d (.int .u64 0),.d (.int .u64 0)]:=by kernel_rfl
@[go_sem] theorem u226:(Tryz.prog.underlying 226).isSome=true:=by kernel_rfl
@[go_sem] theorem k243:bR Tryz.prog 243=.struct [(0,96),(4,96),(8,96)]:=by kernel_rfl
@[go_sem] theorem c243:Tryz.prog.cellsOf 243=12:=by kernel_rfl
@[go_sem] theorem b243:Tryz.prog.bytesOf 243=96:=by kernel_rfl
@[go_sem] theorem z243:eW Tryz.prog 243=some [.d (.int .u64 0),.d (.int .u64 0),.d (.int .u64 0),.d (.int .u64 0),.d (.int .u64 0),.d (.int .u64 0),.d (.int .u64 0),.d (.int .u64 0),.d (.int .u64 0),.d (.int .u64 0),.d (.int .u64 0),.d (.int .u64 0)]:=by kernel_rfl
@[go_sem] theorem u243:(Tryz.prog.underlying 243).isSome=true:=by kernel_rfl
@[go_sem] theorem k283:bR Tryz.prog 283=.struct [(0,34),(1,34),(2,46)]:=by kernel_rfl
@[go_sem] theorem c283:Tryz.prog.cellsOf 283=3:=by kernel_rfl
@[go_sem] theorem b283:Tryz.prog.bytesOf 283=56:=by kernel_rfl
@[go_sem] theorem z283:eW Tryz.prog 283=some [.nil,.nil,.d (.int .i64 0)]:=by kernel_rfl
@[go_sem] theorem u283:(Tryz.prog.underlying 283).isSome=true:=by kernel_rfl
@[go_sem] theorem k290:bR Tryz.prog 290=.slice 2:=by kernel_rfl
@[go_sem] theorem c290:Tryz.prog.cellsOf 290=1:=by kernel_rfl
@[go_sem] theorem b290:Tryz.prog.bytesOf 290=24:=by kernel_rfl
@[go_sem] theorem z290:eW Tryz.prog 290=some [.nil]:=by kernel_rfl
@[go_sem] theorem u290:(Tryz.prog.underlying 290).isSome=true:=by kernel_rfl
@[go_sem] theorem k295:bR Tryz.prog 295=.slice 3:=by kernel_rfl
@[go_sem] theorem c295:Tryz.prog.cellsOf 295=1:=by kernel_rfl
@[go_sem] theorem b295:Tryz.prog.bytesOf 295=24:=by kernel_rfl
@[go_sem] theorem z295:eW Tryz.prog 295=some [.nil]:=by kernel_rfl
@[go_sem] theorem u295:(Tryz.prog.underlying 295).isSome=true:=by kernel_rfl
end Go.Proofs.YtmfnimjnneflnaaGreat
namespace Go.Sha
open Go.Am
def M:Nat:=4294967296
def lZ(a b:Nat):Nat:=(a+b)%4294967296
def oq(a b:Nat):Nat:=(a ^^^ b)%4294967296
def zr(a b:Nat):Nat:=(a &&& b)%4294967296
def Vm(a b:Nat):Nat:=(a ||| b)%4294967296
def c32(a:Nat):Nat:=(4294967295 ^^^ a)%4294967296
def Vn(n a:Nat):Nat:=a*2 ^ n%4294967296
def d0(n a:Nat):Nat:=a/2 ^ n
def vG(a:Nat):Nat:=a%4294967296
def t8(a:Nat):Nat:=a%256
def qH(s x:Nat):Nat:=Vm (Vn s x) (d0 (32-s) x)
theorem M8(x:Int):IntKind.u32.wrap x=x%4294967296:=by simp[IntKind.wrap,IntKind.bits,IntKind.signed]
theorem fW(x:Int):IntKind.u64.wrap x=x%18446744073709551616:=by simp[IntKind.wrap,IntKind.bits,IntKind.signed]
theorem G7(x:Int):IntKind.u8.wrap x=x%256:=by simp[IntKind.wrap,IntKind.bits,IntKind.signed]
theorem eR(k:Nat)(a:Nat):(BitVec.ofInt k (a:Int)).toNat=a%2 ^ k:=by
 rw[BitVec.toNat_ofInt];omega
theorem fX(a b:Nat):IntKind.u32.wrap ((a:Int)+(b:Int))=((lZ a b:Nat):Int):=by rw[M8];unfold lZ;omega
theorem zu(a:Nat):IntKind.u32.wrap (a:Int)=((vG a:Nat):Int):=by rw[M8];unfold vG;omega
theorem eU(a:Nat):IntKind.u8.wrap (a:Int)=((t8 a:Nat):Int):=by rw[G7];unfold t8;omega
theorem Py(a b:Nat):IntKind.u32.wrap ((a:Int)*(b:Int))=((a*b%4294967296:Nat):Int):=by
 rw[M8,←Int.natCast_mul];omega
theorem Vo(a n:Nat):IntKind.u32.wrap ((a:Int)*2 ^ n)=((Vn n a:Nat):Int):=by
 have:=Py a (2 ^ n);rw[Int.natCast_pow]at this;exact this
theorem Yp(a:Nat):IntKind.u32.wrap ((a:Int)*256)=((Vn 8 a:Nat):Int):=Py a 256
theorem gQ(a b:Nat):bits .xor .u32 (a:Int) (b:Int)=((oq a b:Nat):Int):=by
 show IntKind.u32.wrap (((BitVec.ofInt 32 (a:Int)) ^^^ (BitVec.ofInt 32 (b:Int))).toNat:Int)=_;rw[BitVec.toNat_xor,eR,eR,←Nat.xor_mod_two_pow,zu];unfold oq vG;congr 1;omega
theorem jq(a b:Nat):bits .and .u32 (a:Int) (b:Int)=((zr a b:Nat):Int):=by
 show IntKind.u32.wrap (((BitVec.ofInt 32 (a:Int)) &&& (BitVec.ofInt 32 (b:Int))).toNat:Int)=_;rw[BitVec.toNat_and,eR,eR,←Nat.and_mod_two_pow,zu];unfold zr vG;congr 1;omega
theorem Vp(a b:Nat):bits .or .u32 (a:Int) (b:Int)=((Vm a b:Nat):Int):=by
 show IntKind.u32.wrap (((BitVec.ofInt 32 (a:Int)) ||| (BitVec.ofInt 32 (b:Int))).toNat:Int)=_;rw[BitVec.toNat_or,eR,eR,←Nat.or_mod_two_pow,zu];unfold Vm vG;congr 1;omega
theorem Pz(a:Nat):bits .xor .u32 4294967295 (a:Int)=((c32 a:Nat):Int):=gQ 4294967295 a
theorem fh(a b:Nat):Int.fdiv (a:Int) (b:Int)=((a/b:Nat):Int):=by
 rw[Int.fdiv_eq_ediv_of_nonneg _ aq];exact(Int.natCast_ediv a b).symm
theorem Vq(a n:Nat):Int.fdiv (a:Int) (2 ^ n)=((d0 n a:Nat):Int):=by
 have:=fh a (2 ^ n);rw[Int.natCast_pow]at this;exact this
theorem Yq(a:Nat):Int.fdiv (a:Int) 8=((d0 3 a:Nat):Int):=fh a 8
theorem Vr(a:Nat):Int.fdiv (a:Int) 1024=((d0 10 a:Nat):Int):=fh a 1024
def cw(l:List Nat):List AV:=l.map fun(x:Nat)=>AV.d (.int .u32 (x:Int))
theorem xq(l:List Nat):(cw l).length=l.length:=by simp[cw]
theorem lu(l:List Nat)(i:Nat):(cw l)[i]?=(l[i]?).map fun(x:Nat)=>AV.d (.int .u32 (x:Int)):=by simp[cw]
theorem BG(l:List Nat)(i x:Nat):(cw l).set i (.d (.int .u32 (x:Int)))=cw (l.set i x):=by simp[cw,List.map_set]
theorem Iz(ρ:Nat→Nat):∀l:List Nat,AV.renL ρ (cw l)=cw l
 |[]=>by simp[cw,AV.renL]
 |x::r=>by
  have:=Iz ρ r;simp only[cw]at this;simp only[cw,List.map_cons,AV.renL,AV.ren,this]
def nb(bs:List Nat):DV:=.ro 1 (bs.map fun(b:Nat)=>[.int .u8 (b:Int)])
structure S8 where
 a:Nat
 b:Nat
 c:Nat
 d:Nat
 e:Nat
 f:Nat
 g:Nat
 h:Nat
def S8.l(s:S8):List Nat:=[s.a,s.b,s.c,s.d,s.e,s.f,s.g,s.h]
def T1(s:S8)(k w:Nat):Nat:=lZ (lZ (lZ (lZ s.h (oq (oq (qH 26 s.e) (qH 21 s.e)) (qH 7 s.e))) (oq (zr s.e s.f) (zr (c32 s.e) s.g))) k) w
def T2(s:S8):Nat:=lZ (oq (oq (qH 30 s.a) (qH 19 s.a)) (qH 10 s.a)) (oq (oq (zr s.a s.b) (zr s.a s.c)) (zr s.b s.c))
def rd(s:S8)(k w:Nat):S8:=⟨lZ (T1 s k w) (T2 s),s.a,s.b,s.c,lZ s.d (T1 s k w),s.e,s.f,s.g⟩
def FQ(s:S8)(p:Nat×Nat):S8:=rd s p.1 p.2
section
variable {α β:Type} (f:β→α→β)
def nX(t:Nat)(l:List α)(s:β):β:=(l.drop t).foldl f s
theorem ta{l:List α}{p:α}{s:β}{t:Nat}(h:l[t]?=some p):nX f t l s=nX f (t+1) l (f s p):=by
 obtain⟨h1,h2⟩:=ci.1 h;unfold nX;rw[List.drop_eq_getElem_cons h1,List.foldl_cons,h2]
theorem vH{l:List α}{s:β}{t:Nat}(h:l.length≤t):nX f t l s=s:=by
 unfold nX;rw[dg h,List.foldl_nil]
end
def BH(ks ws:List Nat)(s:S8):S8:=nX FQ 0 (ks.zip ws) s
def IA(s v:S8):S8:=⟨lZ s.a v.a,lZ s.b v.b,lZ s.c v.c,lZ s.d v.d,lZ s.e v.e,lZ s.f v.f,lZ s.g v.g,lZ s.h v.h⟩
def pC(b:List Nat):Nat:=b.foldl (fun x c=>Vm (Vn 8 x) (vG c)) 0
def wx(w:List Nat):Nat :=
 let t:=w.length
 let x:=w.getD (t-15) 0
 let y:=w.getD (t-2) 0
 let s0:=oq (oq (qH 25 x) (qH 14 x)) (d0 3 x)
 let s1:=oq (oq (qH 15 y) (qH 13 y)) (d0 10 y)
 lZ (lZ (lZ (w.getD (t-16) 0) s0) (w.getD (t-7) 0)) s1
def iH(b:List Nat):Nat→List Nat
 |0=>[]
 |n+1=>iH b n++[pC ((b.take (4*n+4)).drop (4*n))]
def dW(b:List Nat):Nat→List Nat
 |0=>iH b 16
 |n+1=>dW b n++[wx (dW b n)]
theorem ou(b:List Nat):∀n,(iH b n).length=n
 |0=>rfl
 |n+1=>by simp[iH,ou b n]
theorem qI(b:List Nat):∀n,(dW b n).length=n+16
 |0=>ou b 16
 |n+1=>by
  have:=qI b n;simp only[dW,b_,this,List.length_singleton]
def pD(b:List Nat):List Nat:=dW b 48
theorem qJ(b:List Nat):(pD b).length=64:=qI b 48
def K:List Nat:=[0x428a2f98,0x71374491,0xb5c0fbcf,0xe9b5dba5,0x3956c25b,0x59f111f1,0x923f82a4,0xab1c5ed5]++[0xd807aa98,0x12835b01,0x243185be,0x550c7dc3,0x72be5d74,0x80deb1fe,0x9bdc06a7,0xc19bf174] ++
 [0xe49b69c1,0xefbe4786,0x0fc19dc6,0x240ca1cc,0x2de92c6f,0x4a7484aa,0x5cb0a9dc,0x76f988da]++[0x983e5152,0xa831c66d,0xb00327c8,0xbf597fc7,0xc6e00bf3,0xd5a79147,0x06ca6351,0x14292967] ++
 [0x27b70a85,0x2e1b2138,0x4d2c6dfc,0x53380d13,0x650a7354,0x766a0abb,0x81c2c92e,0x92722c85]++[0xa2bfe8a1,0xa81a664b,0xc24b8b70,0xc76c51a3,0xd192e819,0xd6990624,0xf40e3585,0x106aa070] ++
 [0x19a4c116,0x1e376c08,0x2748774c,0x34b0bcb5,0x391c0cb3,0x4ed8aa4a,0x5b9cca4f,0x682e6ff3]++[0x748f82ee,0x78a5636f,0x84c87814,0x8cc70208,0x90befffa,0xa4506ceb,0xbef9a3f7,0xc67178f2]
def H0:S8:=⟨0x6a09e667,0xbb67ae85,0x3c6ef372,0xa54ff53a,0x510e527f,0x9b05688c,0x1f83d9ab,0x5be0cd19⟩
def take(s:S8)(b:List Nat):S8:=IA s (BH K (pD b) s)
def rI:Nat→S8→List Nat→S8×List Nat
 |0,s,b=>(s,b)
 |n+1,s,b=>if 64≤b.length then rI n (Go.Sha.take s (b.take 64)) (b.drop 64)else(s,b)
def xu(x:Nat):Nat→List Nat
 |0=>[]
 |k+1=>xu x k++[t8 (d0 (24-8*k) x)]
theorem so(x:Nat):∀k,(xu x k).length=k
 |0=>rfl
 |k+1=>by simp[xu,so x k]
def jz(l:List Nat):Nat→List Nat
 |0=>[]
 |i+1=>jz l i++xu (l.getD i 0) 4
theorem nB(l:List Nat):∀i,(jz l i).length=4*i
 |0=>rfl
 |i+1=>by simp[jz,nB l i,so];omega
def G8(s:S8):List Nat:=jz s.l 8
end Go.Sha
namespace Go.Proofs.YtmfnimjnneflnaaGreat
open Go.Am Go.Sha
def z64:List Nat:=List.replicate 64 0
theorem M9:z64.length=64:=rfl
@[go_sem] theorem ZD:eW Tryz.prog 211=some (cw z64):=by kernel_rfl
attribute [go_sem] M9 xq
def cb(l:List Nat):List AV:=l.map fun(x:Nat)=>AV.d (.int .u8 (x:Int))
theorem am(l:List Nat):(cb l).length=l.length:=by simp[cb]
theorem BI(l:List Nat)(i:Nat):(cb l)[i]?=(l[i]?).map fun(x:Nat)=>AV.d (.int .u8 (x:Int)):=by simp[cb]
theorem BJ(l:List Nat)(i x:Nat):(cb l).set i (.d (.int .u8 (x:Int)))=cb (l.set i x):=by simp[cb,List.map_set]
theorem aO(n:Nat)(l:List Nat):∀v,v∈cb l→v.low1 n:=by
 intro c hc;simp only[cb,List.mem_map]at hc;obtain⟨x,_,rfl⟩:=hc
 trivial
theorem cg(l:List Nat):∀c,c∈cb l→c.deep1:=by
 intro c hc;simp only[cb,List.mem_map]at hc;obtain⟨x,_,rfl⟩:=hc
 trivial
def z32:List Nat:=List.replicate 32 0
theorem Na:z32.length=32:=rfl
@[go_sem] theorem ZE:eW Tryz.prog 29=some (cb z32):=by kernel_rfl
attribute [go_sem] Na am
theorem Rw:Dl Tryz.prog 113=true:=by kernel_rfl
attribute [go_sem] Rw
theorem fM(x s:Nat)(k:Int)(hs:bits .and .u64 (IntKind.u64.wrap k) 31=(s:Int))(h1:s≤31) :
  ay Tryz.prog 148 [.d (.int .u32 (x:Int)),.d (.int .i64 k)] (fun r=>r=.d (.int .u32 ((qH s x:Nat):Int))):=by
 refine bL Tryz.func148 Tryz.ntmps148 (rs:=[.tmp 4]) a9 ?_;have e1:IntKind.u64.wrap (32-(s:Int))=((32-s:Nat):Int):=by rw[fW];omega
 have e2:min s 32=s:=aq;have e3:min (32-s) 32=32-s:=aq;simp[go_sem,hs,e1,e2,e3,IntKind.bits,ah];refine aa a9 ?_;rw[Vo,Vq,Vp];rfl
theorem FR:ay Tryz.prog 104 [] (fun r=>r=.agg (cw H0.l)):=by
 refine bL Tryz.func104 Tryz.ntmps104 (rs:=[.cell 0 164]) a9 ?_;simp[go_sem,ah,kN];exact aa a9 rfl
theorem Nb(l:List Nat):∀c,c∈cw l→c.deep1:=by
 intro c hc;simp only[cw,List.mem_map]at hc;obtain⟨x,_,rfl⟩:=hc
 trivial
theorem zw:ay Tryz.prog 147 [] (fun r=>r=.agg (cw K)):=by
 refine bL Tryz.func147 Tryz.ntmps147 (rs:=[.cell 0 211]) a9 ?_;have zz:eW Tryz.prog 211=some (List.replicate 64 (.d (.int .u32 0))):=by kernel_rfl
 simp[go_sem,ah,zz];exact aa a9 rfl
theorem bg{α:Type}{l:List α}{k:Nat}(h:k<l.length):∃c,l[k]?=some c∧l.drop k=c::l.drop (k+1) :=
 ⟨l[k],cm h,List.drop_eq_getElem_cons h⟩
theorem ax{k:Nat}(h:k<4611686018427387904):IntKind.i64.wrap ((k:Int)+1)=((k+1:Nat):Int):=by
 rw[IntWalk.i64_in _ aq];omega
theorem Yr{n:Nat}(h:n<4611686018427387904):IntKind.i64.wrap (n:Int)=(n:Int):=IntWalk.i64_in _ aq
theorem cE(n:Nat)(l:List Nat):∀v,v∈cw l→v.low1 n:=by
 intro c hc;simp only[cw,List.mem_map]at hc;obtain⟨x,_,rfl⟩:=hc
 trivial
def iI(w:List Nat):List Nat:=w++List.replicate (64-w.length) 0
theorem zx{w:List Nat}(h:w.length≤64):(iI w).length=64:=by simp[iI];omega
theorem zy{w:List Nat}{i:Nat}(h:i<w.length):(iI w)[i]?=some w[i]:=by
 unfold iI;rw[List.getElem?_append_left h,cm h]
theorem tc{w:List Nat}{x:Nat}(h:w.length<64):(iI w).set w.length x=iI (w++[x]):=by
 unfold iI;rw[List.set_append_right _ _ (cR _),Nat.sub_self];obtain⟨k,hk⟩:∃k,64-w.length=k+1:=⟨63-w.length,aq⟩;rw[hk,List.replicate_succ,List.set_cons_zero,cD];simp only[b_,List.length_singleton,List.singleton_append];rw[show 64-(w.length+1)=k by omega]
theorem FSa{w:List Nat}{x y:Nat}(h:w.length<64):(iI (w++[x])).set w.length y=iI (w++[y]):=by
 rw[←tc h,←tc h,List.set_set]
theorem IB{w:List Nat}{x:Nat}(h:w.length<64):(iI (w++[x]))[w.length]?=some x:=by
 rw[zy aw];simp
theorem FT{w:List Nat}(h:w.length<64):iI (w++[0])=iI w:=by
 unfold iI;obtain⟨k,hk⟩:∃k,64-w.length=k+1:=⟨63-w.length,aq⟩;rw[hk,List.replicate_succ,cD];simp only[b_,List.length_singleton,List.singleton_append];rw[show 64-(w.length+1)=k by omega]
theorem FU(q:List Nat){j c:Nat}(h:q[j]?=some c):pC (q.take (j+1))=Vm (Vn 8 (pC (q.take j))) (vG c):=by
 unfold pC;rw[List.take_add_one,h,List.foldl_append];rfl
theorem vI(b:List Nat)(hb:b.length=64):ay Tryz.prog 146 [.d (nb b)] (fun r=>r=.agg (cw (pD b))):=by
 refine bL Tryz.func146 Tryz.ntmps146 (rs:=[.cell 2 211]) a9 ?_;simp only[go_sem,Nat.reduceEqDiff,Nat.reduceAdd,Nat.reduceLT,↓reduceIte,Nat.reduceMul,List.length_replicate]
 refine ar (fun t:Nat=>⟨[(0,.d (nb b)),(2,.ptr 0 0 0 1),(3,.ptr 32 0 0 1),(12,.d (.int .i64 t))],[(32,⟨211,64,[cw (iI (iH b t))]⟩),(0,⟨211,64,[cw z64]⟩)],96⟩)
  (fun t=>t≤16) (fun t=>16-t) 0 aq (by
   simp[aA,ai,fv,lk,AV.low,AV.low1]
   refine⟨⟨rfl,cE _ _⟩,cE _ _⟩) ?_
 intro t ht;have e1:=ou b t;have w1:IntKind.i64.wrap (4*(t:Int))=((4*t:Nat):Int):=by rw[IntWalk.i64_in _ aq];omega
 have w2:IntKind.i64.wrap (((4*t:Nat):Int)+4)=((4*t+4:Nat):Int):=by rw[IntWalk.i64_in _ aq];omega
 simp only[go_sem,Nat.reduceEqDiff,Nat.reduceAdd,Nat.reduceLT,↓reduceIte];refine⟨fun h=>?_,fun h=>?_⟩
 ·have hl4:((b.take (4*t+4)).drop (4*t)).length=4:=by simp;omega
  have hnb:((b.map fun(b:Nat)=>[DV.int .u8 (b:Int)]).take (4*t+4)).drop (4*t)=((b.take (4*t+4)).drop (4*t)).map fun(b:Nat)=>[DV.int .u8 (b:Int)]:=by simp[List.map_drop,List.map_take]
  simp only[go_sem,Nat.reduceEqDiff,Nat.reduceAdd,Nat.reduceLT,↓reduceIte,w1,w2,nb,Int.toNat_natCast,hnb,List.length_map,hl4];refine⟨aq,aq,?_⟩
  refine ar (fun j:Nat=>⟨[(0,.d (nb b)),(2,.ptr 0 0 0 1),(3,.ptr 32 0 0 1),(12,.d (.int .i64 t)),(4,.d (.int .i64 t)),(21,.d (nb ((b.take (4*t+4)).drop (4*t)))),(22,.d (.int .i64 (4:Nat))),(23,.d (.int .i64 j))],
    [(32,⟨211,64,[cw (iI (iH b t++[pC (((b.take (4*t+4)).drop (4*t)).take j)]))]⟩),(0,⟨211,64,[cw z64]⟩)],480⟩)
   (fun j=>j≤4) (fun j=>4-j) 0 aq (by
    simp[aA,ai,fv,lk,AV.low,AV.low1,nb,List.map_drop,List.map_take]
    exact⟨⟨by rw[show pC []=0 from rfl,FT aq],cE _ _⟩,cE _ _⟩) ?_
  intro j hj;simp only[go_sem,Nat.reduceEqDiff,Nat.reduceAdd,Nat.reduceLT,↓reduceIte];refine⟨fun h2=>?_,fun h2=>?_⟩
  ·obtain⟨c,hc,_⟩:=bg (l:=(b.take (4*t+4)).drop (4*t)) (k:=j) aq
   have g1:(iI (iH b t++[pC (((b.take (4*t+4)).drop (4*t)).take j)]))[t]?=some (pC (((b.take (4*t+4)).drop (4*t)).take j)):=by
    have:=IB (w:=iH b t) (x:=pC (((b.take (4*t+4)).drop (4*t)).take j)) aq;rw[e1]at this;exact this
   have g2:∀y,(iI (iH b t++[pC (((b.take (4*t+4)).drop (4*t)).take j)])).set t y=iI (iH b t++[y]):=by
    intro y;have:=FSa (w:=iH b t) (x:=pC (((b.take (4*t+4)).drop (4*t)).take j)) (y:=y) aq;rw[e1]at this;exact this
   have w3:=Yr (n:=j+1) aq;have g3:(iI (iH b t++[pC (((b.take (4*t+4)).drop (4*t)).take j)])).length=64:=zx (by simp;omega);generalize hq:(b.take (4*t+4)).drop (4*t)=q at *;simp[go_sem,nb,hc,lu,g1,IntKind.bits,Yp,zu,Vp,BG,g2,g3,e1];refine⟨aq,aq,?_⟩;have w3:=ax (k:=j) aq;rw[w3];refine ao (j+1) aq aq ?_;simp[aA,ai,fv,lk,AV.low,AV.low1,FU q hc];exact⟨cE _ _,cE _ _⟩
  ·have hj4:j=4:=aq;subst hj4;have w3:=ax (k:=t) aq;rw[w3];refine ao (t+1) aq aq ?_;have hfull:pC (((b.take (4*t+4)).drop (4*t)).take 4)=pC ((b.take (4*t+4)).drop (4*t)):=by rw[cA aq]
   simp[aA,ai,fv,lk,AV.low,AV.low1,iH];exact⟨rfl,⟨by rw[hfull],cE _ _⟩,cE _ _⟩
 ·have ht16:t=16:=aq;subst ht16
  refine ar (fun t:Nat=>⟨[(2,.ptr 0 0 0 1),(3,.ptr 32 0 0 1),(7,.d (.int .i64 ((t+16:Nat):Int)))],[(32,⟨211,64,[cw (iI (dW b t))]⟩),(0,⟨211,64,[cw z64]⟩)],128⟩)
   (fun t=>t≤48) (fun t=>48-t) 0 aq (by
    simp[aA,ai,fv,lk,AV.low,AV.low1,dW]
    exact⟨cE _ _,cE _ _⟩) ?_
  intro t ht;have e1:=qI b t;simp only[go_sem,Nat.reduceEqDiff,Nat.reduceAdd,Nat.reduceLT,↓reduceIte];refine⟨fun h=>?_,fun h=>?_⟩
  ·have i1:IntKind.i64.wrap (((t+16:Nat):Int)-15)=((t+16-15:Nat):Int):=by rw[IntWalk.i64_in _ aq];omega
   have i2:IntKind.i64.wrap (((t+16:Nat):Int)-2)=((t+16-2:Nat):Int):=by rw[IntWalk.i64_in _ aq];omega
   have i3:IntKind.i64.wrap (((t+16:Nat):Int)-16)=((t+16-16:Nat):Int):=by rw[IntWalk.i64_in _ aq];omega
   have i4:IntKind.i64.wrap (((t+16:Nat):Int)-7)=((t+16-7:Nat):Int):=by rw[IntWalk.i64_in _ aq];omega
   have gg:∀i,i<t+16→(iI (dW b t))[i]?=some ((dW b t).getD i 0):=by
    intro i hi;rw[zy aq,cS,cm aq];rfl
   have w3:=ax (k:=t+16) aq;generalize hT:t+16=T at *;apply Im (0::1::2::3::4::5::6::7::8::9::[]) ([]) 0 (k:=10) (by kernel_rfl) (by kernel_rfl) rfl
   case hz=>repeat (first|exact Its.nil|apply Its.plain rfl|apply Its.guard rfl rfl)
   case hj=>exact Jts.nil
   intro G hG;have g15:=gg (T-15) aq;have g2:=gg (T-2) aq;have g16:=gg (T-16) aq;have g7:=gg (T-7) aq
   have hwx:wx (dW b t)=lZ (lZ (lZ ((dW b t).getD (T-16) 0) (oq (oq (qH 25 ((dW b t).getD (T-15) 0)) (qH 14 ((dW b t).getD (T-15) 0))) (d0 3 ((dW b t).getD (T-15) 0)))) ((dW b t).getD (T-7) 0)) (oq (oq (qH 15 ((dW b t).getD (T-2) 0)) (qH 13 ((dW b t).getD (T-2) 0))) (d0 10 ((dW b t).getD (T-2) 0))):=by
    unfold wx;rw[e1]
   generalize(dW b t).getD (T-15) 0=x at g15 hwx;generalize(dW b t).getD (T-2) 0=y at g2 hwx;generalize(dW b t).getD (T-16) 0=u at g16 hwx;generalize(dW b t).getD (T-7) 0=v at g7 hwx;simp[go_sem,i1,i2,lu,g15,g2];refine⟨aq,aq,hG _ _ ?_⟩;simp only[go_sem,Nat.reduceEqDiff,Nat.reduceAdd,Nat.reduceLT,↓reduceIte,Nat.reduceMul];refine ag (fM x 25 (-7) (by decide) aq) a9 ?_;simp only[go_sem,Nat.reduceEqDiff,Nat.reduceAdd,Nat.reduceLT,↓reduceIte];refine ag (fM x 14 (-18) (by decide) aq) a9 ?_;simp[go_sem,gQ,IntKind.bits,Yq];refine ag (fM y 15 (-17) (by decide) aq) a9 ?_;simp only[go_sem,Nat.reduceEqDiff,Nat.reduceAdd,Nat.reduceLT,↓reduceIte];refine ag (fM y 13 (-19) (by decide) aq) a9 ?_;simp[go_sem,gQ,IntKind.bits,Vr];apply Im (0::1::2::3::4::5::6::7::8::9::10::11::12::13::14::[]) ((15,([]))::[]) 0 (k:=16) (by kernel_rfl) (by kernel_rfl) rfl
   case hz=>repeat (first|exact Its.nil|apply Its.plain rfl|apply Its.guard rfl rfl)
   case hj=>exact Jts.plain rfl Its.nil Jts.nil
   intro G hG
   have hset:(iI (dW b t)).set T (wx (dW b t))=iI (dW b (t+1)):=by
    have:=tc (w:=dW b t) (x:=wx (dW b t)) aq;rw[e1]at this;exact this
   rw[hwx]at hset;have hlen:(iI (dW b t)).length=64:=zx aq;simp[go_sem,i3,i4,lu,g16,g7,fX,BG,hset,hlen];refine⟨aq,aq,aq,aq,hG _ _ ?_⟩;simp[go_sem,w3];refine ao (t+1) aq aq ?_;subst hT;simp[aA,ai,fv,lk,AV.low,AV.low1];exact⟨aq,cE _ _,cE _ _⟩
  ·have ht48:t=48:=aq;subst ht48
   have hfull:iI (dW b 48)=pD b:=by
    have h0:∀w:List Nat,w.length=64→iI w=w:=fun w hw=>by unfold iI;rw[hw,Nat.sub_self,List.replicate_zero,List.append_nil]
    exact h0 _ e1
   rw[hfull];have hsl:=qJ b;generalize pD b=sb at hsl;have htk:(cw sb).take 64=cw sb:=cA (by rw[xq];omega);simp[go_sem,ah,hsl,htk];exact aa (by simp[AV.deep];exact Nb _) rfl
def de(s:S8):List AV:=[.d (.int .u32 (s.a:Int)),.d (.int .u32 (s.b:Int)),.d (.int .u32 (s.c:Int)),.d (.int .u32 (s.d:Int)),.d (.int .u32 (s.e:Int)),.d (.int .u32 (s.f:Int)),.d (.int .u32 (s.g:Int)),.d (.int .u32 (s.h:Int))]
theorem qK(s:S8):de s=cw s.l:=rfl
theorem vJ:K.length=64:=rfl
def gR(s v:S8)(i:Nat):List Nat:=(List.zipWith lZ s.l v.l).take i++s.l.drop i
theorem zA(s v:S8){i:Nat}(h:i≤8):(gR s v i).length=8:=by simp[gR,S8.l];omega
theorem vK(s v:S8):gR s v 0=s.l:=by simp[gR]
theorem zB(s v:S8):gR s v 8=(IA s v).l:=by simp[gR,S8.l,IA]
theorem vM(s v:S8){i:Nat}(h:i<8):∃x y,v.l[i]?=some y∧(gR s v i)[i]?=some x∧(gR s v i).set i (lZ x y)=gR s v (i+1):=by
 rcases(by omega:i=0∨i=1∨i=2∨i=3∨i=4∨i=5∨i=6∨i=7)with rfl|rfl|rfl|rfl|rfl|rfl|rfl|rfl
 ·exact⟨s.a,v.a,by simp[S8.l],by simp[gR,S8.l],by simp[gR,S8.l]⟩
 ·exact⟨s.b,v.b,by simp[S8.l],by simp[gR,S8.l],by simp[gR,S8.l]⟩
 ·exact⟨s.c,v.c,by simp[S8.l],by simp[gR,S8.l],by simp[gR,S8.l]⟩
 ·exact⟨s.d,v.d,by simp[S8.l],by simp[gR,S8.l],by simp[gR,S8.l]⟩
 ·exact⟨s.e,v.e,by simp[S8.l],by simp[gR,S8.l],by simp[gR,S8.l]⟩
 ·exact⟨s.f,v.f,by simp[S8.l],by simp[gR,S8.l],by simp[gR,S8.l]⟩
 ·exact⟨s.g,v.g,by simp[S8.l],by simp[gR,S8.l],by simp[gR,S8.l]⟩
 ·exact⟨s.h,v.h,by simp[S8.l],by simp[gR,S8.l],by simp[gR,S8.l]⟩
theorem DI{l:List Nat}{tail:List AV}{i x:Nat}(h:l[i]?=some x):(cw l++tail)[i]?=some (.d (.int .u32 (x:Int))):=by
 have hl:i<(cw l).length:=by rw[xq];exact(ci.1 h).1
 rw[List.getElem?_append_left hl,lu,h];rfl
theorem DJ{l:List Nat}{tail:List AV}{i x:Nat}(h:i<l.length):(cw l++tail).set i (.d (.int .u32 (x:Int)))=cw (l.set i x)++tail:=by
 rw[List.set_append_left _ _ (by rw[xq];exact h),BG]
theorem PC:(if IntKind.u32.signed=true then -1 else IntKind.u32.max)=(4294967295:Int):=by decide
theorem sr(ty:TypeId)(e:Nat)(s:S8)(tail:List AV)(b:List Nat)(hb:b.length=64)(htail:∀n,∀v,v∈tail→v.low1 n) :
  cj Tryz.prog 105 1 [(0,⟨ty,e,[de s++tail]⟩)] [.ptr 0 0 0 1,.d (nb b)] (fun r hp'=>r=.tup []∧lk 0 hp'=some ⟨ty,e,[de (take s b)++tail]⟩):=by
 refine al Tryz.func105 (by kernel_rfl) rfl Tryz.ntmps105 (rs:=[]) rfl (dV rfl) (by decide) ?_;simp only[go_sem,Nat.reduceEqDiff,Nat.reduceAdd,Nat.reduceLT,↓reduceIte,Nat.reduceMul];refine ag (vI b hb) a9 ?_;simp only[go_sem,Nat.reduceEqDiff,Nat.reduceAdd,Nat.reduceLT,↓reduceIte,Nat.reduceMul];refine ag zw a9 ?_;have hsl:=qJ b;have hzl:(K.zip (pD b)).length=64:=by rw[List.length_zip,hsl,vJ];rfl
 unfold Go.Sha.take BH;generalize pD b=ws at *;have hz64:(cw z64).drop 64=[]:=rfl;generalize hR:nX FQ 0 (K.zip ws) s=R;simp[go_sem,vJ,hsl,de,hz64]
 refine ar (fun t:Nat×S8=>⟨[(0,.ptr 0 0 0 1),(4,.ptr 98 0 0 1),(5,.ptr 130 0 0 1),(6,.ptr 322 0 0 1),(19,.d (.int .i64 t.1))],
   [(322,⟨164,8,[de t.2]⟩),(130,⟨211,64,[cw K]⟩),(98,⟨211,64,[cw ws]⟩),(0,⟨ty,e,[de s++tail]⟩)],418⟩)
  (fun t=>t.1≤64∧nX FQ t.1 (K.zip ws) t.2=R) (fun t=>64-t.1) (0,s) ⟨aq,hR⟩ (by
   simp[aA,ai,fv,lk,AV.low,AV.low1,de]
   exact⟨cE _ _,cE _ _,fun v hv=>htail _ v hv⟩) ?_
 clear hR;rintro⟨t,v⟩⟨ht,hR⟩;simp only at ht hR;simp only[go_sem,Nat.reduceEqDiff,Nat.reduceAdd,Nat.reduceLT,↓reduceIte];refine⟨fun h=>?_,fun h=>?_⟩
 ·obtain⟨k,hk,_⟩:=bg (l:=K) (k:=t) (by rw[vJ];omega);obtain⟨w,hw,_⟩:=bg (l:=ws) (k:=t) aq;have hz:(K.zip ws)[t]?=some (k,w):=by rw[List.getElem?_zip_eq_some];exact⟨hk,hw⟩
  rw[ta FQ hz]at hR;simp only[go_sem,Nat.reduceEqDiff,Nat.reduceAdd,Nat.reduceLT,↓reduceIte,de];simp[go_sem];refine b7 [0,1,2,4,7,11,12,13,14,15,16,17,18,19,20,22,23,24,26,27,28] [(3,[]),(5,[6]),(8,[9,10,21,25,29,30])] 3 (k:=31) ?_;intro G hG;simp[go_sem,lu,hk,hw,gQ,jq,PC,Pz,fX];refine⟨aq,?_⟩;refine ag (fM v.e 26 (-6) (by decide) aq) a9 ?_;simp[go_sem,gQ,jq,fX];refine ag (fM v.e 21 (-11) (by decide) aq) a9 ?_;simp[go_sem,gQ,jq,fX];refine ag (fM v.e 7 (-25) (by decide) aq) a9 ?_;simp[go_sem,gQ,jq,fX];have hT1:lZ (lZ (lZ (lZ v.h (oq (oq (qH 26 v.e) (qH 21 v.e)) (qH 7 v.e))) (oq (zr v.e v.f) (zr (c32 v.e) v.g))) k) w=T1 v k w:=by unfold T1;with_reducible rfl
  rw[hT1];refine hG _ _ ?_;clear hG G;simp[go_sem];refine b7 [0,2,5,8,9,10,11,12,13,14,15,16,17,18,19,20,21,22] [(1,[]),(3,[4]),(6,[7,23,24])] 3 (k:=25) ?_;intro G hG;simp[go_sem,gQ,jq,fX];refine ag (fM v.a 30 (-2) (by decide) aq) a9 ?_;simp[go_sem,gQ,jq,fX];refine ag (fM v.a 19 (-13) (by decide) aq) a9 ?_;simp[go_sem,gQ,jq,fX];refine ag (fM v.a 10 (-22) (by decide) aq) a9 ?_;simp[go_sem,gQ,jq,fX];have hT2:lZ (oq (oq (qH 30 v.a) (qH 19 v.a)) (qH 10 v.a)) (oq (oq (zr v.a v.b) (zr v.a v.c)) (zr v.b v.c))=T2 v:=by unfold T2;with_reducible rfl
  rw[hT2];refine hG _ _ ?_;clear hG G;have w3:=ax (k:=t) aq;simp[go_sem,fX,kN,w3];refine ao (t+1,FQ v (k,w)) ⟨by simp only;omega,hR⟩ (by simp only;omega) ?_;simp[aA,ai,fv,lk,AV.low,AV.low1,de,FQ,rd];exact⟨cE _ _,cE _ _,fun v hv=>htail _ v hv⟩
 ·have ht64:t=64:=aq;subst ht64;rw[vH FQ aq]at hR;subst hR
  refine ar (fun i:Nat=>⟨[(0,.ptr 0 0 0 1),(6,.ptr 322 0 0 1),(101,.d (.int .i64 i))],[(322,⟨164,8,[cw v.l]⟩),(0,⟨ty,e,[cw (gR s v i)++tail]⟩)],482⟩)
   (fun i=>i≤8) (fun i=>8-i) 0 aq (by
    simp[aA,ai,fv,lk,AV.low,AV.low1,vK,qK];refine⟨cE _ _,fun v hv=>?_⟩;rcases hv with hv|hv
    ·exact cE _ _ v hv
    ·exact htail _ v hv) ?_
  intro i hi;simp only[go_sem,Nat.reduceEqDiff,Nat.reduceAdd,Nat.reduceLT,↓reduceIte];refine⟨fun h=>?_,fun h=>?_⟩
  ·obtain⟨x,y,hy,hx,hset⟩:=vM s v (i:=i) aq;have hml:=zA s v hi;refine b7 [0,1,2,3,4,5,6,7,8,9,10] [(11,[])] 0 (k:=12) ?_;intro G hG;have hs2:=DJ (l:=gR s v i) (tail:=tail) (i:=i) (x:=lZ x y) aq;rw[hset]at hs2;simp[go_sem,DI hx,lu,hy,fX,hs2,hml];refine⟨aq,aq,hG _ _ ?_⟩;have w3:=ax (k:=i) aq;simp[go_sem,w3];refine ao (i+1) aq aq ?_;simp[aA,ai,fv,lk,AV.low,AV.low1];refine⟨cE _ _,fun v hv=>?_⟩;rcases hv with hv|hv
   ·exact cE _ _ v hv
   ·exact htail _ v hv
  ·have hi8:i=8:=aq;subst hi8;simp[go_sem,ah,zB,qK];simp[cw,S8.l]
def rb(L:List Nat):List (List AV):=L.map fun(x:Nat)=>[.d (.int .u8 (x:Int))]
theorem aG(L:List Nat):(rb L).length=L.length:=by simp[rb]
theorem bm(n:Nat)(L:List Nat):∀r,r∈rb L→∀v,v∈r→v.low1 n:=by
 intro r hr v hv;simp only[rb,List.mem_map]at hr;obtain⟨x,_,rfl⟩:=hr;simp at hv;subst hv
 trivial
theorem Nc(l:List Nat):∀c,c∈cw l→c.flat1:=by
 intro c hc;simp only[cw,List.mem_map]at hc;obtain⟨x,_,rfl⟩:=hc
 trivial
theorem DK{hp:Hp}{I:Nat→Prop}:∀(L:List Nat),RowsR hp I (rb L) (L.map fun(x:Nat)=>[.int .u8 (x:Int)])
 |[]=>.nil
 |x::r=>.cons (.cons (.d _) .nil) (DK r)
theorem pE{hp:Hp}{I:Nat→Prop}{id i0 n:Nat}{L:List Nat}(hb:lk id hp=some ⟨5,1,rb L⟩)(hI:I id)(h:i0+n≤L.length):SnapD hp I (.own id i0 n L.length) (nb ((L.drop i0).take n)):=by
 refine iG hb hI (aG L) (es:=((L.drop i0).take n).map fun(x:Nat)=>[.int .u8 (x:Int)]) ?_ (by simp;omega) (fun r hr=>by
  rw[List.mem_map]at hr;obtain⟨c,_,rfl⟩:=hr
  rfl)
 have:((rb L).drop i0).take n=rb ((L.drop i0).take n):=by simp[rb,List.map_drop,List.map_take]
 rw[this];exact DK _
theorem rJ(ty:TypeId)(e:Nat)(s:S8)(tail:List AV)(L:List Nat)(i0:Nat)(hi0:i0+64≤L.length)(htail:∀n,∀v,v∈tail→v.low1 n) :
  cj Tryz.prog 105 2 [(0,⟨ty,e,[de s++tail]⟩),(1,⟨5,1,rb L⟩)] [.ptr 0 0 0 1,.own 1 i0 64 L.length] (fun r hp'=>r=.tup []∧lk 0 hp'=some ⟨ty,e,[de (take s ((L.drop i0).take 64))++tail]⟩∧lk 1 hp'=some ⟨5,1,rb L⟩):=by
 refine al Tryz.func105 (by kernel_rfl) rfl Tryz.ntmps105 (rs:=[]) rfl (dV rfl) (by decide) ?_;simp only[go_sem,Nat.reduceEqDiff,Nat.reduceAdd,Nat.reduceLT,↓reduceIte,Nat.reduceMul];have hb:((L.drop i0).take 64).length=64:=by simp;omega
 refine iT (vI ((L.drop i0).take 64) hb) rfl (aj (.one (ak (pE rfl trivial hi0))) aD) (by simp[AV.flat];exact Nc _) ?_;generalize(L.drop i0).take 64=b at *;simp only[go_sem,Nat.reduceEqDiff,Nat.reduceAdd,Nat.reduceLT,↓reduceIte,Nat.reduceMul];refine ag zw a9 ?_;have hsl:=qJ b;have hzl:(K.zip (pD b)).length=64:=by rw[List.length_zip,hsl,vJ];rfl
 unfold Go.Sha.take BH;generalize pD b=ws at *;have hz64:(cw z64).drop 64=[]:=rfl;generalize hR:nX FQ 0 (K.zip ws) s=R;simp[go_sem,vJ,hsl,de,hz64]
 refine ar (fun t:Nat×S8=>⟨[(0,.ptr 0 0 0 1),(4,.ptr 99 0 0 1),(5,.ptr 131 0 0 1),(6,.ptr 323 0 0 1),(19,.d (.int .i64 t.1))],
   [(323,⟨164,8,[de t.2]⟩),(131,⟨211,64,[cw K]⟩),(99,⟨211,64,[cw ws]⟩),(0,⟨ty,e,[de s++tail]⟩),(1,⟨5,1,rb L⟩)],419⟩)
  (fun t=>t.1≤64∧nX FQ t.1 (K.zip ws) t.2=R) (fun t=>64-t.1) (0,s) ⟨aq,hR⟩ (by
   simp[aA,ai,fv,lk,AV.low,AV.low1,de]
   exact⟨cE _ _,cE _ _,fun v hv=>htail _ v hv,bm _ _⟩) ?_
 clear hR;rintro⟨t,v⟩⟨ht,hR⟩;simp only at ht hR;simp only[go_sem,Nat.reduceEqDiff,Nat.reduceAdd,Nat.reduceLT,↓reduceIte];refine⟨fun h=>?_,fun h=>?_⟩
 ·obtain⟨k,hk,_⟩:=bg (l:=K) (k:=t) (by rw[vJ];omega);obtain⟨w,hw,_⟩:=bg (l:=ws) (k:=t) aq;have hz:(K.zip ws)[t]?=some (k,w):=by rw[List.getElem?_zip_eq_some];exact⟨hk,hw⟩
  rw[ta FQ hz]at hR;simp only[go_sem,Nat.reduceEqDiff,Nat.reduceAdd,Nat.reduceLT,↓reduceIte,de];simp[go_sem];refine b7 [0,1,2,4,7,11,12,13,14,15,16,17,18,19,20,22,23,24,26,27,28] [(3,[]),(5,[6]),(8,[9,10,21,25,29,30])] 3 (k:=31) ?_;intro G hG;simp[go_sem,lu,hk,hw,gQ,jq,PC,Pz,fX];refine⟨aq,?_⟩;refine ag (fM v.e 26 (-6) (by decide) aq) a9 ?_;simp[go_sem,gQ,jq,fX];refine ag (fM v.e 21 (-11) (by decide) aq) a9 ?_;simp[go_sem,gQ,jq,fX];refine ag (fM v.e 7 (-25) (by decide) aq) a9 ?_;simp[go_sem,gQ,jq,fX];have hT1:lZ (lZ (lZ (lZ v.h (oq (oq (qH 26 v.e) (qH 21 v.e)) (qH 7 v.e))) (oq (zr v.e v.f) (zr (c32 v.e) v.g))) k) w=T1 v k w:=by unfold T1;with_reducible rfl
  rw[hT1];refine hG _ _ ?_;clear hG G;simp[go_sem];refine b7 [0,2,5,8,9,10,11,12,13,14,15,16,17,18,19,20,21,22] [(1,[]),(3,[4]),(6,[7,23,24])] 3 (k:=25) ?_;intro G hG;simp[go_sem,gQ,jq,fX];refine ag (fM v.a 30 (-2) (by decide) aq) a9 ?_;simp[go_sem,gQ,jq,fX];refine ag (fM v.a 19 (-13) (by decide) aq) a9 ?_;simp[go_sem,gQ,jq,fX];refine ag (fM v.a 10 (-22) (by decide) aq) a9 ?_;simp[go_sem,gQ,jq,fX];have hT2:lZ (oq (oq (qH 30 v.a) (qH 19 v.a)) (qH 10 v.a)) (oq (oq (zr v.a v.b) (zr v.a v.c)) (zr v.b v.c))=T2 v:=by unfold T2;with_reducible rfl
  rw[hT2];refine hG _ _ ?_;clear hG G;have w3:=ax (k:=t) aq;simp[go_sem,fX,kN,w3];refine ao (t+1,FQ v (k,w)) ⟨by simp only;omega,hR⟩ (by simp only;omega) ?_;simp[aA,ai,fv,lk,AV.low,AV.low1,de,FQ,rd];exact⟨cE _ _,cE _ _,fun v hv=>htail _ v hv,bm _ _⟩
 ·have ht64:t=64:=aq;subst ht64;rw[vH FQ aq]at hR;subst hR
  refine ar (fun i:Nat=>⟨[(0,.ptr 0 0 0 1),(6,.ptr 323 0 0 1),(101,.d (.int .i64 i))],[(323,⟨164,8,[cw v.l]⟩),(0,⟨ty,e,[cw (gR s v i)++tail]⟩),(1,⟨5,1,rb L⟩)],483⟩)
   (fun i=>i≤8) (fun i=>8-i) 0 aq (by
    simp[aA,ai,fv,lk,AV.low,AV.low1,vK,qK];refine⟨cE _ _,fun v hv=>?_,bm _ _⟩;rcases hv with hv|hv
    ·exact cE _ _ v hv
    ·exact htail _ v hv) ?_
  intro i hi;simp only[go_sem,Nat.reduceEqDiff,Nat.reduceAdd,Nat.reduceLT,↓reduceIte];refine⟨fun h=>?_,fun h=>?_⟩
  ·obtain⟨x,y,hy,hx,hset⟩:=vM s v (i:=i) aq;have hml:=zA s v hi;refine b7 [0,1,2,3,4,5,6,7,8,9,10] [(11,[])] 0 (k:=12) ?_;intro G hG;have hs2:=DJ (l:=gR s v i) (tail:=tail) (i:=i) (x:=lZ x y) aq;rw[hset]at hs2;simp[go_sem,DI hx,lu,hy,fX,hs2,hml];refine⟨aq,aq,hG _ _ ?_⟩;have w3:=ax (k:=i) aq;simp[go_sem,w3];refine ao (i+1) aq aq ?_;simp[aA,ai,fv,lk,AV.low,AV.low1];refine⟨cE _ _,fun v hv=>?_,bm _ _⟩;rcases hv with hv|hv
   ·exact cE _ _ v hv
   ·exact htail _ v hv
  ·have hi8:i=8:=aq;subst hi8;simp[go_sem,ah,zB,qK];simp[cw,S8.l]
theorem mF:cj Tryz.prog 57 0 [] [] (fun r hp'=>r=.ptr 97 0 0 1∧lk 97 hp'=some ⟨167,10,[de H0++[.nil,.d (.int .u64 0)]]⟩):=by
 refine al Tryz.func57 (by kernel_rfl) rfl Tryz.ntmps57 (rs:=[.tmp 0]) rfl (dV rfl) (by decide) ?_;simp only[go_sem,Nat.reduceEqDiff,Nat.reduceAdd,Nat.reduceLT,↓reduceIte,Nat.reduceMul];refine ag FR a9 ?_;simp[go_sem,ah,kN,i6,←qK,de]
theorem nC{β:Type}(f:β→List DV)(b:List β){P:Program}{el:TypeId}{e:Nat}{es:List (List DV)}{nx:Nat}{Kk:AV→Hp→Prop}{hp:Hp}:fa P el (.d (.rof e es)) (some (List.map ((fun r=>List.map AV.d r)∘f) b)) nx Kk hp=(e=P.cellsOf el∧(eW P el).isSome=true∧P.bytesOf el≠0∧(es.length+b.length)*P.bytesOf el≤140737488355328∧xh (Kk (.d (.ro e (es++b.map f))) hp) (b.map f≠[]∧Kk (.own nx 0 (es.length+b.length) (es.length+b.length)) ((nx,⟨el,P.cellsOf el,es.map (fun r=>r.map AV.d)++List.map ((fun r=>List.map AV.d r)∘f) b⟩)::hp))):=by
 have:=zo (P:=P) (K:=Kk) (hp:=hp) (nx:=nx) el e es (b.map f);rw[List.map_map,List.length_map]at this;exact this
theorem kF{α β:Type}(f:α→β)(l:List α):(l.map f).take l.length=l.map f:=by
 rw[cA aw]
theorem eat_none(k:Nat)(s:S8)(b:List Nat)(h:b.length<64):rI k s b=(s,b):=by
 cases k with
 |zero=>rfl
 |succ k=>simp[rI];omega
theorem eat_more{k:Nat}{s:S8}{b:List Nat}(h:64≤b.length)(hk:b.length≤k):rI k s b=rI (k-1) (Go.Sha.take s (b.take 64)) (b.drop 64):=by
 obtain⟨j,rfl⟩:∃j,k=j+1:=⟨k-1,aq⟩;rw[rI,if_pos h];rfl
theorem IC(s:S8)(R:AV)(rest b:List Nat)(n:Int)(hR:R=.d (nb rest)∨(R=.nil∧rest=[]))(hl:rest.length+b.length≤1000000000000) :
  cj Tryz.prog 58 1 [(0,⟨167,10,[de s++[R,.d (.int .u64 n)]]⟩)] [.ptr 0 0 0 1,.d (nb b)]
   (fun r hp'=>r=.tup []∧lk 0 hp'=some ⟨167,10,[de (rI ((rest++b).length) s (rest++b)).1++[.d (nb (rI ((rest++b).length) s (rest++b)).2),.d (.int .u64 (IntKind.u64.wrap (n+(IntKind.u64.wrap (b.length:Int)))))]]⟩):=by
 refine al Tryz.func58 (by kernel_rfl) rfl Tryz.ntmps58 (rs:=[]) rfl (dV rfl) (by decide) ?_;generalize hn':IntKind.u64.wrap (n+(IntKind.u64.wrap (b.length:Int)))=n';generalize hE0:rI ((rest++b).length) s (rest++b)=E;rcases hR with rfl|⟨rfl,rfl⟩
 ·simp[go_sem,nb,de,hn'];refine b7 [0,1,2,3,4,5,6,7,8,9,10,11,12,13,14,15,16] [(17,[18,19]),(20,[])] 1 (k:=21) ?_;intro G hG;simp[go_sem,kF,nC];refine⟨by have:=hl;simp only[b_,List.length_nil]at *;omega,.inl (hG _ _ ?_)⟩;clear hG G
  refine ar (fun t:S8×List Nat=>⟨[(0,.ptr 0 0 0 1)],[(0,⟨167,10,[de t.1++[.d (nb t.2),.d (.int .u64 n')]]⟩)],1090⟩)
   (fun t=>t.2.length≤1000000000000∧∃k,t.2.length≤k∧rI k t.1 t.2=E) (fun t=>t.2.length) (s,rest++b) ⟨by have:=hl;simp only[b_,List.length_nil]at *;omega,_,cR _,hE0⟩ (by
    simp[aA,ai,fv,lk,AV.low,AV.low1,nb,de]) ?_
  rintro⟨s1,q⟩⟨hq,k,hk,hE⟩;simp only at hq hk hE;simp only[go_sem,Nat.reduceEqDiff,Nat.reduceAdd,Nat.reduceLT,↓reduceIte,de,nb,List.length_map];refine⟨fun h=>?_,fun h=>?_⟩
  ·have h64:64≤q.length:=aq;rw[eat_more h64 hk]at hE;refine b7 [0,1,2,3,4,5,6,7] [(8,[])] 0 (k:=9) ?_;intro G hG;simp[go_sem];refine⟨aq,?_⟩;refine aP [(0,0)] (sr 167 10 s1 [.d (nb q),.d (.int .u64 n')] (q.take 64) (by simp;omega) (by simp[AV.low1])) rfl aw (by simp[lk]) (by simp[lk,Blk.ren,aM,AV.renL,AV.ren,bQ,gu,de,nb]) (by simp[AV.renL,AV.ren,bQ,gu,lk,nb,List.map_take]) ?_;rintro r hp'⟨rfl,h0⟩;refine⟨[],rfl,?_⟩;simp[go_sem,bO,bB,h0,Blk.ren,aM,AV.renL,AV.ren,bQ,de];refine hG _ _ ?_;clear hG G;simp[go_sem,nb];refine⟨aq,?_⟩;refine ao (Go.Sha.take s1 (q.take 64),q.drop 64) ⟨by simp only[e_];omega,k-1,by simp only[e_];omega,hE⟩ (by simp only[e_];omega) ?_;simp[aA,ai,fv,lk,AV.low,AV.low1,nb,de,List.map_drop,kF]
  ·rw[eat_none k s1 q aq]at hE;subst hE;rfl
 ·simp[go_sem,nb,de,hn'];refine b7 [0,1,2,3,4,5,6,7,8,9,10,11,12,13,14,15,16] [(17,[18,19]),(20,[])] 1 (k:=21) ?_;intro G hG;simp[go_sem,kF,nC];refine⟨by have:=hl;simp only[b_,List.length_nil]at *;omega,.inl (hG _ _ ?_)⟩;clear hG G
  refine ar (fun t:S8×List Nat=>⟨[(0,.ptr 0 0 0 1)],[(0,⟨167,10,[de t.1++[.d (nb t.2),.d (.int .u64 n')]]⟩)],1090⟩)
   (fun t=>t.2.length≤1000000000000∧∃k,t.2.length≤k∧rI k t.1 t.2=E) (fun t=>t.2.length) (s,[]++b) ⟨by have:=hl;simp only[b_,List.length_nil]at *;omega,_,cR _,hE0⟩ (by
    simp[aA,ai,fv,lk,AV.low,AV.low1,nb,de]) ?_
  rintro⟨s1,q⟩⟨hq,k,hk,hE⟩;simp only at hq hk hE;simp only[go_sem,Nat.reduceEqDiff,Nat.reduceAdd,Nat.reduceLT,↓reduceIte,de,nb,List.length_map];refine⟨fun h=>?_,fun h=>?_⟩
  ·have h64:64≤q.length:=aq;rw[eat_more h64 hk]at hE;refine b7 [0,1,2,3,4,5,6,7] [(8,[])] 0 (k:=9) ?_;intro G hG;simp[go_sem];refine⟨aq,?_⟩;refine aP [(0,0)] (sr 167 10 s1 [.d (nb q),.d (.int .u64 n')] (q.take 64) (by simp;omega) (by simp[AV.low1])) rfl aw (by simp[lk]) (by simp[lk,Blk.ren,aM,AV.renL,AV.ren,bQ,gu,de,nb]) (by simp[AV.renL,AV.ren,bQ,gu,lk,nb,List.map_take]) ?_;rintro r hp'⟨rfl,h0⟩;refine⟨[],rfl,?_⟩;simp[go_sem,bO,bB,h0,Blk.ren,aM,AV.renL,AV.ren,bQ,de];refine hG _ _ ?_;clear hG G;simp[go_sem,nb];refine⟨aq,?_⟩;refine ao (Go.Sha.take s1 (q.take 64),q.drop 64) ⟨by simp only[e_];omega,k-1,by simp only[e_];omega,hE⟩ (by simp only[e_];omega) ?_;simp[aA,ai,fv,lk,AV.low,AV.low1,nb,de,List.map_drop,kF]
  ·rw[eat_none k s1 q aq]at hE;subst hE;rfl
def mG:Nat→List Nat→List Nat
 |0,l=>l
 |n+1,l=>if l.length%64=56 then l else mG n (l++[0])
theorem tf{k:Nat}{l:List Nat}(h:l.length%64≠56)(hk:0<k):mG k l=mG (k-1) (l++[0]):=by
 obtain⟨j,rfl⟩:∃j,k=j+1:=⟨k-1,aq⟩;rw[mG,if_neg h];rfl
theorem vO{k:Nat}{l:List Nat}(h:l.length%64=56):mG k l=l:=by
 cases k with
 |zero=>rfl
 |succ k=>rw[mG,if_pos h]
theorem iJ(a b:List Nat):rb a++rb b=rb (a++b):=by simp[rb]
theorem gk(a:List Nat)(x:Nat):rb a++[[AV.d (.int .u8 (x:Int))]]=rb (a++[x]):=by simp[rb]
theorem ti(a:List Nat):rb a++[[AV.d (.int .u8 128)]]=rb (a++[128]):=by simp[rb]
theorem zC(a:List Nat):rb a++[[AV.d (.int .u8 0)]]=rb (a++[0]):=by simp[rb]
theorem cF(a:List Nat):List.map ((fun r=>List.map AV.d r)∘fun(x:Nat)=>[DV.int .u8 (x:Int)]) a=rb a:=by simp[rb]
def je(m:Nat):Nat→List Nat
 |0=>[]
 |j+1=>je m j++[t8 (d0 (56-8*j) m)]
theorem ee(m:Nat):∀j,(je m j).length=j
 |0=>rfl
 |j+1=>by simp[je,ee m j]
def lastOf(rest:List Nat)(n:Nat):List Nat:=mG 64 (rest++[128])++je (n*8%18446744073709551616) 8
theorem ID(n:Nat):IntKind.u64.wrap ((n:Int)*8)=((n*8%18446744073709551616:Nat):Int):=by rw[fW];omega
theorem IE(n:Nat):Int.tmod (n:Int) 64=((n%64:Nat):Int):=by
 have:=Int.ofNat_tmod n 64
 simpa using this.symm
theorem IF(s:S8)(a b:AV)(ha:∀n,a.low1 n)(hb:∀n,b.low1 n)(n:Nat):∀v,v∈de s++[a,b]→v.low1 n:=by
 intro v hv;rcases cL.1 hv with h|h
 ·exact cE n s.l v h
 ·simp only[et,List.mem_nil_iff,or_false]at h;rcases h with rfl|rfl
  ·exact ha n
  ·exact hb n
theorem iD(s:S8)(a b:AV)(ha:∀n,a.low1 n)(hb:∀n,b.low1 n)(n:Nat):∀v,v∈de s∨v=a∨v=b→v.low1 n:=by
 intro v hv;refine IF s a b ha hb n v ?_
 simpa using hv
theorem gl(s:S8)(n:Nat):∀v,v∈de s→v.low1 n:=cE n s.l
theorem DL(ρ:Nat→Nat)(s:S8):AV.renL ρ (de s)=de s:=Iz ρ s.l
theorem cG(ρ:Nat→Nat)(L:List Nat):List.map (AV.renL ρ) (rb L)=rb L:=by
 simp[rb,AV.renL,AV.ren]
def gU(w:List Nat):List Nat:=w++List.replicate (32-w.length) 0
theorem vP{w:List Nat}(h:w.length≤32):(gU w).length=32:=by simp[gU];omega
theorem vQ{w:List Nat}{x:Nat}(h:w.length<32):(gU w).set w.length x=gU (w++[x]):=by
 unfold gU;rw[List.set_append_right _ _ (cR _),Nat.sub_self];obtain⟨k,hk⟩:∃k,32-w.length=k+1:=⟨31-w.length,aq⟩;rw[hk,List.replicate_succ,List.set_cons_zero,cD];simp only[b_,List.length_singleton,List.singleton_append];rw[show 32-(w.length+1)=k by omega]
theorem tj{w:List Nat}(h:w.length=32):gU w=w:=by unfold gU;rw[h];simp
theorem Vs(s:S8):List.take 8 (de s)=de s:=rfl
theorem DN(s:S8){i:Nat}(h:i<8):(de s)[i]?=some (.d (.int .u32 ((s.l.getD i 0:Nat):Int))):=by
 rw[qK,lu,cS];have:i<s.l.length:=h;rw[cm this];rfl
theorem Zs(s:S8)(a b:AV):(List.drop 9 (de s++[a,b])).head?=some b:=rfl
theorem Zt(s:S8)(a b:AV):List.take 8 (de s++[a,b])=de s:=rfl
theorem sw(s:S8):(de s).length=8:=rfl
theorem BK (s:S8) (R:AV) (rest:List Nat) (n:Nat) (hR:R=.d (nb rest) ∨ (R=.nil∧rest=[])) (hl:rest.length≤1000000000000) :
  cj Tryz.prog 60 1 [(0,⟨167,10,[de s++[R,.d (.int .u64 (n:Int))]]⟩)] [.ptr 0 0 0 1]
   (fun r hp'=>r=.agg (cb (G8 (rI (lastOf rest n).length s (lastOf rest n)).1))∧lk 0 hp'=some ⟨167,10,[de s++[R,.d (.int .u64 (n:Int))]]⟩):=by
 refine al Tryz.func60 (by kernel_rfl) rfl Tryz.ntmps60 (rs:=[.cell 2 29]) rfl (dV rfl) (by decide) ?_;rcases hR with rfl|⟨rfl,rfl⟩
 ·simp [go_sem,nb,de,cF,ti,aG];refine ⟨aq,aq,?_⟩
  refine ar (fun l:List Nat=>⟨[(0,.ptr 0 0 0 1),(2,.ptr 2 0 0 1),(3,.own 98 0 l.length l.length)],[(98,⟨5,1,rb l⟩),(2,⟨29,32,[cb z32]⟩),(0,⟨167,10,[de s++[.d (nb rest),.d (.int .u64 (n:Int))]]⟩)],450⟩)
   (fun l=>l.length≤1000000000000+65∧∃k,(120-l.length%64)%64≤k∧(k+l.length≤1000000000000+65)∧mG k l=mG 64 (rest++[128])) (fun l=>(120-l.length%64)%64) (rest++[128]) ⟨by have:=hl;simp only[b_,List.length_nil,List.length_singleton]at *;omega,64,aq,by have:=hl;simp only[b_,List.length_nil,List.length_singleton]at *;omega,rfl⟩ (by
    simp[aA,ai,fv,lk,AV.low,AV.low1,nb,de]
    exact⟨bm _ _,aO _ _⟩) ?_
  rintro l⟨hl1,k,hk,hk2,hP⟩;have em:Int.tmod (l.length:Int) 64=((l.length%64:Nat):Int):=IE _;simp only[go_sem,Nat.reduceEqDiff,Nat.reduceAdd,Nat.reduceLT,↓reduceIte,em];refine⟨by decide,fun h=>?_,fun h=>?_⟩
  ·have h56:l.length%64≠56:=aq;rw[tf h56 aq]at hP;refine⟨by decide,aG l,aq,?_⟩;rw[zC];refine ao (l++[0]) ⟨by simp only[b_,List.length_singleton];omega,k-1,by simp only[b_,List.length_singleton];omega,by simp only[b_,List.length_singleton];omega,hP⟩ (by simp only[b_,List.length_singleton];omega) ?_;simp[aA,ai,fv,lk,AV.low,AV.low1];exact⟨bm _ _,aO _ _,iD s (.d (nb rest)) (.d (.int .u64 n)) (fun _=>trivial) (fun _=>trivial) _⟩
  ·have h56:l.length % 64=56:=aq;rw [vO h56] at hP;simp only [go_sem,Nat.reduceEqDiff,Nat.reduceAdd,Nat.reduceLT,↓reduceIte,Zs,ID];have hm:lastOf rest n=l ++ je (n*8 % 18446744073709551616) 8:=by unfold lastOf;rw [← hP]
   generalize n*8%18446744073709551616=m at hm;generalize lastOf rest n=L at hm;clear hP hk hk2 hl
   refine ar (fun j:Nat=>⟨[(0,.ptr 0 0 0 1),(2,.ptr 2 0 0 1),(3,.own 98 0 (l++je m j).length (l++je m j).length),(4,.d (.int .u64 (m:Int))),(5,.d (.int .i64 (56-8*(j:Int))))],[(98,⟨5,1,rb (l++je m j)⟩),(2,⟨29,32,[cb z32]⟩),(0,⟨167,10,[de s++[.d (nb rest),.d (.int .u64 (n:Int))]]⟩)],642⟩)
    (fun j=>j≤8) (fun j=>8-j) 0 aq (by
     simp[aA,ai,fv,lk,AV.low,AV.low1,je]
     exact⟨bm _ _,aO _ _,iD s (.d (nb rest)) (.d (.int .u64 n)) (fun _=>trivial) (fun _=>trivial) _⟩) ?_
   intro j hj;have hll:(l++je m j).length=l.length+j:=by rw[b_,ee]
   have e8:(56:Int)-8*(j:Int)-8=56-8*((j+1:Nat):Int):=aq;have w8:IntKind.i64.wrap (56-8*(j:Int)-8)=56-8*((j+1:Nat):Int):=by rw[IntWalk.i64_in _ aq];omega
   simp only[go_sem,Nat.reduceEqDiff,Nat.reduceAdd,Nat.reduceLT,↓reduceIte];refine⟨fun h=>?_,fun h=>?_⟩
   ·have hj7:j≤7:=aq
    have eb:IntKind.u8.wrap (Int.fdiv (m:Int) (2 ^ (min (56-8*(j:Int)).toNat 64)))=((t8 (d0 (56-8*j) m):Nat):Int):=by
     rw[show min (56-8*(j:Int)).toNat 64=56-8*j by omega,Vq,eU]
    have es:rb (l++je m j)++[[AV.d (.int .u8 ((t8 (d0 (56-8*j) m):Nat):Int))]]=rb (l++je m (j+1)):=by rw[gk,cD];rfl
    simp only[go_sem,Nat.reduceEqDiff,Nat.reduceAdd,Nat.reduceLT,↓reduceIte,IntKind.bits,eb,aG,es,w8];refine⟨aq,by decide,by have:=ee m j;omega,?_⟩;refine ao (j+1) aq aq ?_;have hl8:(je m (j+1)).length=(je m j).length+1:=by rw[ee,ee]
    simp[aA,ai,fv,lk,AV.low,AV.low1,hl8];exact⟨aq,bm _ _,aO _ _,iD s (.d (nb rest)) (.d (.int .u64 n)) (fun _=>trivial) (fun _=>trivial) _⟩
   ·have hj8:j=8:=aq;subst hj8;rw[←hm];have hL64:L.length%64=0:=by rw[hm,b_,ee];omega
    have hLl:L.length≤2000000000000:=by rw[hm,b_,ee];omega
    have hLen:l.length+(je m 8).length=L.length:=by rw[hm,b_]
    clear hm hll e8 w8 h56 h em;simp[go_sem,Zt,sw,hLen];generalize hE0:rI L.length s L=E
    refine ar (fun t:Nat×S8=>⟨[(0,.ptr 0 0 0 1),(2,.ptr 2 0 0 1),(3,.own 98 (64*t.1) (L.length-64*t.1) L.length),(6,.ptr 834 0 0 1)],[(834,⟨164,8,[de t.2]⟩),(98,⟨5,1,rb L⟩),(2,⟨29,32,[cb z32]⟩),(0,⟨167,10,[de s++[.d (nb rest),.d (.int .u64 (n:Int))]]⟩)],898⟩)
     (fun t=>64*t.1≤L.length∧∃k,L.length-64*t.1≤k∧rI k t.2 (L.drop (64*t.1))=E) (fun t=>L.length-64*t.1) (0,s) ⟨aq,L.length,aq,hE0⟩ (by
      simp[aA,ai,fv,lk,AV.low,AV.low1]
      exact⟨gl _ _,bm _ _,aO _ _,iD s (.d (nb rest)) (.d (.int .u64 n)) (fun _=>trivial) (fun _=>trivial) _⟩) ?_
    rintro⟨j,s1⟩⟨hj64,k,hk,hE⟩;simp only at hj64 hk hE;have hdl:(L.drop (64*j)).length=L.length-64*j:=e_;simp only[go_sem,Nat.reduceEqDiff,Nat.reduceAdd,Nat.reduceLT,↓reduceIte];refine⟨fun h=>?_,fun h=>?_⟩
    ·have h64:64≤L.length-64*j:=aq;rw[eat_more aq aq]at hE;simp[go_sem];refine⟨aq,?_⟩;refine aP [(0,834),(1,98)] (rJ 164 8 s1 [] L (64*j) aq aw) rfl aw (by simp[lk]) (by simp[lk,Blk.ren,aM,AV.renL,AV.ren,bQ,gu,de,rb]) (by simp[AV.renL,AV.ren,bQ,gu,lk]) ?_;rintro r hp'⟨rfl,h0,h1⟩;refine⟨[],rfl,?_⟩;simp[go_sem,bO,bB,h0,h1,Blk.ren,aM,DL,cG,AV.renL,AV.ren,bQ];refine⟨aq,?_⟩;refine ao (j+1,Go.Sha.take s1 ((L.drop (64*j)).take 64)) ⟨by simp only;omega,k-1,by simp only;omega,?_⟩ (by simp only;omega) ?_
     ·rw[List.drop_drop]at hE;exact hE
     ·simp[aA,ai,fv,lk,AV.low,AV.low1];exact⟨⟨aq,aq⟩,gl _ _,bm _ _,aO _ _,iD s (.d (nb rest)) (.d (.int .u64 n)) (fun _=>trivial) (fun _=>trivial) _⟩
    ·have hnil:L.drop (64*j)=[]:=dg aq;rw[hnil,eat_none k s1 [] aw]at hE;have hs1:s1=E.1:=by rw[←hE]
     clear hE hE0 hdl hnil;simp[go_sem,sw]
     refine ar (fun i:Nat=>⟨[(0,.ptr 0 0 0 1),(2,.ptr 2 0 0 1),(7,.ptr 994 0 0 1),(59,.agg (de s1)),(60,.d (.int .i64 i))],[(994,⟨29,32,[cb (gU (jz s1.l i))]⟩),(2,⟨29,32,[cb z32]⟩),(0,⟨167,10,[de s++[.d (nb rest),.d (.int .u64 (n:Int))]]⟩)],1090⟩)
      (fun i=>i≤8) (fun i=>8-i) 0 aq (by
       simp[aA,ai,fv,lk,AV.low,AV.low1,Vs]
       exact⟨gl _ _,⟨rfl,aO _ _⟩,aO _ _,iD s (.d (nb rest)) (.d (.int .u64 n)) (fun _=>trivial) (fun _=>trivial) _⟩) ?_
     intro i hi;have hpl:=nB s1.l i;simp only[go_sem,Nat.reduceEqDiff,Nat.reduceAdd,Nat.reduceLT,↓reduceIte];refine⟨fun h2=>?_,fun h2=>?_⟩
     ·have hg:=DN s1 (i:=i) aq;have hpre:jz s1.l (i+1)=jz s1.l i++xu (s1.l.getD i 0) 4:=rfl;generalize s1.l.getD i 0=x at hg hpre;simp[go_sem,hg];refine⟨aq,?_⟩
      refine ar (fun k:Nat=>⟨[(0,.ptr 0 0 0 1),(2,.ptr 2 0 0 1),(7,.ptr 994 0 0 1),(59,.agg (de s1)),(60,.d (.int .i64 i)),(8,.d (.int .i64 i)),(9,.d (.int .u32 (x:Int))),(64,.d (.int .i64 k))],[(994,⟨29,32,[cb (gU (jz s1.l i++xu x k))]⟩),(2,⟨29,32,[cb z32]⟩),(0,⟨167,10,[de s++[.d (nb rest),.d (.int .u64 (n:Int))]]⟩)],1300⟩)
       (fun k=>k≤4) (fun k=>4-k) 0 aq (by
        simp[aA,ai,fv,lk,AV.low,AV.low1,xu]
        exact⟨gl _ _,aO _ _,aO _ _,iD s (.d (nb rest)) (.d (.int .u64 n)) (fun _=>trivial) (fun _=>trivial) _⟩) ?_
      intro k hk4;have hkl:=so x k;simp only[go_sem,Nat.reduceEqDiff,Nat.reduceAdd,Nat.reduceLT,↓reduceIte];refine⟨fun h3=>?_,fun h3=>?_⟩
      ·have w1:IntKind.i64.wrap (4*(i:Int))=((4*i:Nat):Int):=by rw[IntWalk.i64_in _ aq];omega
       have w2:IntKind.i64.wrap (((4*i:Nat):Int)+(k:Int))=((4*i+k:Nat):Int):=by rw[IntWalk.i64_in _ aq];omega
       have w3:IntKind.i64.wrap (8*(k:Int))=((8*k:Nat):Int):=by rw[IntWalk.i64_in _ aq];omega
       have w4:IntKind.i64.wrap (24-((8*k:Nat):Int))=((24-8*k:Nat):Int):=by rw[IntWalk.i64_in _ aq];omega
       have w5:=ax (k:=k) aq
       have eb:IntKind.u8.wrap (Int.fdiv (x:Int) (2 ^ (min (24-8*k) 32)))=((t8 (d0 (24-8*k) x):Nat):Int):=by
        rw[show min (24-8*k) 32=24-8*k by omega,Vq,eU]
       have hset:(gU (jz s1.l i++xu x k)).set (4*i+k) (t8 (d0 (24-8*k) x))=gU (jz s1.l i++xu x (k+1)):=by
        have h:=vQ (w:=jz s1.l i++xu x k) (x:=t8 (d0 (24-8*k) x)) (by rw[b_];omega);rw[b_,hpl,hkl,cD]at h;exact h
       have hrl:(gU (jz s1.l i++xu x k)).length=32:=vP (by rw[b_];omega);simp only[go_sem,Nat.reduceEqDiff,Nat.reduceAdd,Nat.reduceLT,↓reduceIte,w1,w2,w3,w4,IntKind.bits,Int.toNat_natCast,eb,Nat.mul_one,BJ,hset,hrl,w5];refine⟨aq,aq,?_⟩;refine ao (k+1) aq aq ?_;simp[aA,ai,fv,lk,AV.low,AV.low1];exact⟨gl _ _,aO _ _,aO _ _,iD s (.d (nb rest)) (.d (.int .u64 n)) (fun _=>trivial) (fun _=>trivial) _⟩
      ·have hk4':k=4:=aq;subst hk4';rw[←hpre];have w5:=ax (k:=i) aq;simp only[go_sem,Nat.reduceEqDiff,Nat.reduceAdd,Nat.reduceLT,↓reduceIte,w5];refine ao (i+1) aq aq ?_;simp[aA,ai,fv,lk,AV.low,AV.low1];exact⟨gl _ _,aO _ _,aO _ _,iD s (.d (nb rest)) (.d (.int .u64 n)) (fun _=>trivial) (fun _=>trivial) _⟩
     ·have hi8:i=8:=aq;subst hi8;have hfull:gU (jz s1.l 8)=G8 s1:=tj hpl;rw[hfull,hs1];have hdl2:(G8 E.1).length=32:=nB _ 8;have htk:List.take 32 (cb (G8 E.1))=cb (G8 E.1):=cA (by rw[am];omega);simp[go_sem,ah,hdl2,htk];rfl
 ·simp [go_sem,nb,de,cF,ti,aG]
  refine ar (fun l:List Nat=>⟨[(0,.ptr 0 0 0 1),(2,.ptr 2 0 0 1),(3,.own 98 0 l.length l.length)],[(98,⟨5,1,rb l⟩),(2,⟨29,32,[cb z32]⟩),(0,⟨167,10,[de s++[.nil,.d (.int .u64 (n:Int))]]⟩)],450⟩)
   (fun l=>l.length≤1000000000000+65∧∃k,(120-l.length%64)%64≤k∧(k+l.length≤1000000000000+65)∧mG k l=mG 64 ([]++[128])) (fun l=>(120-l.length%64)%64) ([]++[128]) ⟨by have:=hl;simp only[b_,List.length_nil,List.length_singleton]at *;omega,64,aq,by have:=hl;simp only[b_,List.length_nil,List.length_singleton]at *;omega,rfl⟩ (by
    simp[aA,ai,fv,lk,AV.low,AV.low1,nb,de]
    exact⟨⟨rfl,bm _ _⟩,aO _ _⟩) ?_
  rintro l⟨hl1,k,hk,hk2,hP⟩;have em:Int.tmod (l.length:Int) 64=((l.length%64:Nat):Int):=IE _;simp only[go_sem,Nat.reduceEqDiff,Nat.reduceAdd,Nat.reduceLT,↓reduceIte,em];refine⟨by decide,fun h=>?_,fun h=>?_⟩
  ·have h56:l.length%64≠56:=aq;rw[tf h56 aq]at hP;refine⟨by decide,aG l,aq,?_⟩;rw[zC];refine ao (l++[0]) ⟨by simp only[b_,List.length_singleton];omega,k-1,by simp only[b_,List.length_singleton];omega,by simp only[b_,List.length_singleton];omega,hP⟩ (by simp only[b_,List.length_singleton];omega) ?_;simp[aA,ai,fv,lk,AV.low,AV.low1];exact⟨bm _ _,aO _ _,iD s (.nil) (.d (.int .u64 n)) (fun _=>trivial) (fun _=>trivial) _⟩
  ·have h56:l.length % 64=56:=aq;rw [vO h56] at hP;simp only [go_sem,Nat.reduceEqDiff,Nat.reduceAdd,Nat.reduceLT,↓reduceIte,Zs,ID];have hm:lastOf [] n=l ++ je (n*8 % 18446744073709551616) 8:=by unfold lastOf;rw [← hP]
   generalize n*8%18446744073709551616=m at hm;generalize lastOf [] n=L at hm;clear hP hk hk2 hl
   refine ar (fun j:Nat=>⟨[(0,.ptr 0 0 0 1),(2,.ptr 2 0 0 1),(3,.own 98 0 (l++je m j).length (l++je m j).length),(4,.d (.int .u64 (m:Int))),(5,.d (.int .i64 (56-8*(j:Int))))],[(98,⟨5,1,rb (l++je m j)⟩),(2,⟨29,32,[cb z32]⟩),(0,⟨167,10,[de s++[.nil,.d (.int .u64 (n:Int))]]⟩)],642⟩)
    (fun j=>j≤8) (fun j=>8-j) 0 aq (by
     simp[aA,ai,fv,lk,AV.low,AV.low1,je]
     exact⟨bm _ _,aO _ _,iD s (.nil) (.d (.int .u64 n)) (fun _=>trivial) (fun _=>trivial) _⟩) ?_
   intro j hj;have hll:(l++je m j).length=l.length+j:=by rw[b_,ee]
   have e8:(56:Int)-8*(j:Int)-8=56-8*((j+1:Nat):Int):=aq;have w8:IntKind.i64.wrap (56-8*(j:Int)-8)=56-8*((j+1:Nat):Int):=by rw[IntWalk.i64_in _ aq];omega
   simp only[go_sem,Nat.reduceEqDiff,Nat.reduceAdd,Nat.reduceLT,↓reduceIte];refine⟨fun h=>?_,fun h=>?_⟩
   ·have hj7:j≤7:=aq
    have eb:IntKind.u8.wrap (Int.fdiv (m:Int) (2 ^ (min (56-8*(j:Int)).toNat 64)))=((t8 (d0 (56-8*j) m):Nat):Int):=by
     rw[show min (56-8*(j:Int)).toNat 64=56-8*j by omega,Vq,eU]
    have es:rb (l++je m j)++[[AV.d (.int .u8 ((t8 (d0 (56-8*j) m):Nat):Int))]]=rb (l++je m (j+1)):=by rw[gk,cD];rfl
    simp only[go_sem,Nat.reduceEqDiff,Nat.reduceAdd,Nat.reduceLT,↓reduceIte,IntKind.bits,eb,aG,es,w8];refine⟨aq,by decide,by have:=ee m j;omega,?_⟩;refine ao (j+1) aq aq ?_;have hl8:(je m (j+1)).length=(je m j).length+1:=by rw[ee,ee]
    simp[aA,ai,fv,lk,AV.low,AV.low1,hl8];exact⟨aq,bm _ _,aO _ _,iD s (.nil) (.d (.int .u64 n)) (fun _=>trivial) (fun _=>trivial) _⟩
   ·have hj8:j=8:=aq;subst hj8;rw[←hm];have hL64:L.length%64=0:=by rw[hm,b_,ee];omega
    have hLl:L.length≤2000000000000:=by rw[hm,b_,ee];omega
    have hLen:l.length+(je m 8).length=L.length:=by rw[hm,b_]
    clear hm hll e8 w8 h56 h em;simp[go_sem,Zt,sw,hLen];generalize hE0:rI L.length s L=E
    refine ar (fun t:Nat×S8=>⟨[(0,.ptr 0 0 0 1),(2,.ptr 2 0 0 1),(3,.own 98 (64*t.1) (L.length-64*t.1) L.length),(6,.ptr 834 0 0 1)],[(834,⟨164,8,[de t.2]⟩),(98,⟨5,1,rb L⟩),(2,⟨29,32,[cb z32]⟩),(0,⟨167,10,[de s++[.nil,.d (.int .u64 (n:Int))]]⟩)],898⟩)
     (fun t=>64*t.1≤L.length∧∃k,L.length-64*t.1≤k∧rI k t.2 (L.drop (64*t.1))=E) (fun t=>L.length-64*t.1) (0,s) ⟨aq,L.length,aq,hE0⟩ (by
      simp[aA,ai,fv,lk,AV.low,AV.low1]
      exact⟨gl _ _,bm _ _,aO _ _,iD s (.nil) (.d (.int .u64 n)) (fun _=>trivial) (fun _=>trivial) _⟩) ?_
    rintro⟨j,s1⟩⟨hj64,k,hk,hE⟩;simp only at hj64 hk hE;have hdl:(L.drop (64*j)).length=L.length-64*j:=e_;simp only[go_sem,Nat.reduceEqDiff,Nat.reduceAdd,Nat.reduceLT,↓reduceIte];refine⟨fun h=>?_,fun h=>?_⟩
    ·have h64:64≤L.length-64*j:=aq;rw[eat_more aq aq]at hE;simp[go_sem];refine⟨aq,?_⟩;refine aP [(0,834),(1,98)] (rJ 164 8 s1 [] L (64*j) aq aw) rfl aw (by simp[lk]) (by simp[lk,Blk.ren,aM,AV.renL,AV.ren,bQ,gu,de,rb]) (by simp[AV.renL,AV.ren,bQ,gu,lk]) ?_;rintro r hp'⟨rfl,h0,h1⟩;refine⟨[],rfl,?_⟩;simp[go_sem,bO,bB,h0,h1,Blk.ren,aM,DL,cG,AV.renL,AV.ren,bQ];refine⟨aq,?_⟩;refine ao (j+1,Go.Sha.take s1 ((L.drop (64*j)).take 64)) ⟨by simp only;omega,k-1,by simp only;omega,?_⟩ (by simp only;omega) ?_
     ·rw[List.drop_drop]at hE;exact hE
     ·simp[aA,ai,fv,lk,AV.low,AV.low1];exact⟨⟨aq,aq⟩,gl _ _,bm _ _,aO _ _,iD s (.nil) (.d (.int .u64 n)) (fun _=>trivial) (fun _=>trivial) _⟩
    ·have hnil:L.drop (64*j)=[]:=dg aq;rw[hnil,eat_none k s1 [] aw]at hE;have hs1:s1=E.1:=by rw[←hE]
     clear hE hE0 hdl hnil;simp[go_sem,sw]
     refine ar (fun i:Nat=>⟨[(0,.ptr 0 0 0 1),(2,.ptr 2 0 0 1),(7,.ptr 994 0 0 1),(59,.agg (de s1)),(60,.d (.int .i64 i))],[(994,⟨29,32,[cb (gU (jz s1.l i))]⟩),(2,⟨29,32,[cb z32]⟩),(0,⟨167,10,[de s++[.nil,.d (.int .u64 (n:Int))]]⟩)],1090⟩)
      (fun i=>i≤8) (fun i=>8-i) 0 aq (by
       simp[aA,ai,fv,lk,AV.low,AV.low1,Vs]
       exact⟨gl _ _,⟨rfl,aO _ _⟩,aO _ _,iD s (.nil) (.d (.int .u64 n)) (fun _=>trivial) (fun _=>trivial) _⟩) ?_
     intro i hi;have hpl:=nB s1.l i;simp only[go_sem,Nat.reduceEqDiff,Nat.reduceAdd,Nat.reduceLT,↓reduceIte];refine⟨fun h2=>?_,fun h2=>?_⟩
     ·have hg:=DN s1 (i:=i) aq;have hpre:jz s1.l (i+1)=jz s1.l i++xu (s1.l.getD i 0) 4:=rfl;generalize s1.l.getD i 0=x at hg hpre;simp[go_sem,hg];refine⟨aq,?_⟩
      refine ar (fun k:Nat=>⟨[(0,.ptr 0 0 0 1),(2,.ptr 2 0 0 1),(7,.ptr 994 0 0 1),(59,.agg (de s1)),(60,.d (.int .i64 i)),(8,.d (.int .i64 i)),(9,.d (.int .u32 (x:Int))),(64,.d (.int .i64 k))],[(994,⟨29,32,[cb (gU (jz s1.l i++xu x k))]⟩),(2,⟨29,32,[cb z32]⟩),(0,⟨167,10,[de s++[.nil,.d (.int .u64 (n:Int))]]⟩)],1300⟩)
       (fun k=>k≤4) (fun k=>4-k) 0 aq (by
        simp[aA,ai,fv,lk,AV.low,AV.low1,xu]
        exact⟨gl _ _,aO _ _,aO _ _,iD s (.nil) (.d (.int .u64 n)) (fun _=>trivial) (fun _=>trivial) _⟩) ?_
      intro k hk4;have hkl:=so x k;simp only[go_sem,Nat.reduceEqDiff,Nat.reduceAdd,Nat.reduceLT,↓reduceIte];refine⟨fun h3=>?_,fun h3=>?_⟩
      ·have w1:IntKind.i64.wrap (4*(i:Int))=((4*i:Nat):Int):=by rw[IntWalk.i64_in _ aq];omega
       have w2:IntKind.i64.wrap (((4*i:Nat):Int)+(k:Int))=((4*i+k:Nat):Int):=by rw[IntWalk.i64_in _ aq];omega
       have w3:IntKind.i64.wrap (8*(k:Int))=((8*k:Nat):Int):=by rw[IntWalk.i64_in _ aq];omega
       have w4:IntKind.i64.wrap (24-((8*k:Nat):Int))=((24-8*k:Nat):Int):=by rw[IntWalk.i64_in _ aq];omega
       have w5:=ax (k:=k) aq
       have eb:IntKind.u8.wrap (Int.fdiv (x:Int) (2 ^ (min (24-8*k) 32)))=((t8 (d0 (24-8*k) x):Nat):Int):=by
        rw[show min (24-8*k) 32=24-8*k by omega,Vq,eU]
       have hset:(gU (jz s1.l i++xu x k)).set (4*i+k) (t8 (d0 (24-8*k) x))=gU (jz s1.l i++xu x (k+1)):=by
        have h:=vQ (w:=jz s1.l i++xu x k) (x:=t8 (d0 (24-8*k) x)) (by rw[b_];omega);rw[b_,hpl,hkl,cD]at h;exact h
       have hrl:(gU (jz s1.l i++xu x k)).length=32:=vP (by rw[b_];omega);simp only[go_sem,Nat.reduceEqDiff,Nat.reduceAdd,Nat.reduceLT,↓reduceIte,w1,w2,w3,w4,IntKind.bits,Int.toNat_natCast,eb,Nat.mul_one,BJ,hset,hrl,w5];refine⟨aq,aq,?_⟩;refine ao (k+1) aq aq ?_;simp[aA,ai,fv,lk,AV.low,AV.low1];exact⟨gl _ _,aO _ _,aO _ _,iD s (.nil) (.d (.int .u64 n)) (fun _=>trivial) (fun _=>trivial) _⟩
      ·have hk4':k=4:=aq;subst hk4';rw[←hpre];have w5:=ax (k:=i) aq;simp only[go_sem,Nat.reduceEqDiff,Nat.reduceAdd,Nat.reduceLT,↓reduceIte,w5];refine ao (i+1) aq aq ?_;simp[aA,ai,fv,lk,AV.low,AV.low1];exact⟨gl _ _,aO _ _,aO _ _,iD s (.nil) (.d (.int .u64 n)) (fun _=>trivial) (fun _=>trivial) _⟩
     ·have hi8:i=8:=aq;subst hi8;have hfull:gU (jz s1.l 8)=G8 s1:=tj hpl;rw[hfull,hs1];have hdl2:(G8 E.1).length=32:=nB _ 8;have htk:List.take 32 (cb (G8 E.1))=cb (G8 E.1):=cA (by rw[am];omega);simp[go_sem,ah,hdl2,htk];rfl
end Go.Proofs.YtmfnimjnneflnaaGreat
namespace Go.Sha
theorem zD:∀(k j:Nat)(s:S8)(b:List Nat),b.length≤k→b.length≤j→rI k s b=rI j s b
 |0,j,s,b,h,_=>by
  have hb:b.length<64:=aq;rw[Go.Proofs.YtmfnimjnneflnaaGreat.eat_none 0 s b hb,Go.Proofs.YtmfnimjnneflnaaGreat.eat_none j s b hb]
 |k+1,j,s,b,h,h2=>by
  by_cases h64:64≤b.length
  ·rw[Go.Proofs.YtmfnimjnneflnaaGreat.eat_more h64 h,Go.Proofs.YtmfnimjnneflnaaGreat.eat_more h64 h2];exact zD k (j-1) _ _ (by rw[e_];omega) (by rw[e_];omega)
  ·rw[Go.Proofs.YtmfnimjnneflnaaGreat.eat_none _ s b aq,Go.Proofs.YtmfnimjnneflnaaGreat.eat_none _ s b aq]
def E(s:S8)(b:List Nat):S8×List Nat:=rI b.length s b
theorem xw{s:S8}{b:List Nat}(h:b.length<64):E s b=(s,b):=Go.Proofs.YtmfnimjnneflnaaGreat.eat_none _ s b h
theorem BL{s:S8}{b:List Nat}(h:64≤b.length):E s b=E (Go.Sha.take s (b.take 64)) (b.drop 64):=by
 unfold E;rw[Go.Proofs.YtmfnimjnneflnaaGreat.eat_more h (cR _)];exact zD _ _ _ _ (by rw[e_];omega) (cR _)
theorem zE(b:List Nat):∀(n:Nat)(s:S8)(a:List Nat),a.length≤n→E s (a++b)=E (E s a).1 ((E s a).2++b)
 |0,s,a,h=>by rw[xw (b:=a) aq]
 |n+1,s,a,h=>by
  by_cases h64:64≤a.length
  ·rw[BL (b:=a) h64,BL (b:=a++b) (by rw[b_];omega)];rw[List.take_append_of_le_length h64,List.drop_append_of_le_length h64];exact zE b n _ _ (by rw[e_];omega)
  ·rw[xw (b:=a) aq]
theorem zF:∀(n:Nat)(s:S8)(a:List Nat),a.length≤n→(E s a).2.length≤a.length
 |0,s,a,h=>by rw[xw aq];exact cR _
 |n+1,s,a,h=>by
  by_cases h64:64≤a.length
  ·rw[BL h64];have:=zF n (Go.Sha.take s (a.take 64)) (a.drop 64) (by rw[e_];omega);rw[e_]at this;omega
  ·rw[xw aq];exact cR _
def rK(p:S8×List Nat)(n:Nat):List Nat:=G8 (E p.1 (Go.Proofs.YtmfnimjnneflnaaGreat.lastOf p.2 n)).1
def bu(b:List Nat):List Nat:=rK (E H0 b) b.length
def fi(t b:List Nat):List Nat:=bu (bu t++(bu t++b))
theorem bc(b:List Nat):(bu b).length=32:=nB _ 8
end Go.Sha
namespace Go.Proofs.YtmfnimjnneflnaaGreat
open Go.Am Go.Sha
theorem wn(a b:Nat)(h:a+b<18446744073709551616):IntKind.u64.wrap ((a:Int)+IntKind.u64.wrap (b:Int))=((a+b:Nat):Int):=by rw[fW,fW];omega
theorem eC(ρ:Nat→Nat)(b:List Nat):(AV.d (nb b)).ren ρ=.d (nb b):=rfl
theorem dh(ρ:Nat→Nat):∀l:List Nat,AV.renL ρ (cb l)=cb l
 |[]=>by simp[cb,AV.renL]
 |x::r=>by
  have:=dh ρ r;simp only[cb]at this;simp only[cb,List.map_cons,AV.renL,AV.ren,this]
theorem av{l:List Nat}(h:l.length=32):List.take 32 (cb l)=cb l:=cA (by rw[am];omega)
theorem cz:List.drop 32 (cb z32)=[]:=rfl
theorem fY(ρ:Nat→Nat)(s:S8)(a b:AV):AV.renL ρ (de s++[a,b])=de s++[a.ren ρ,b.ren ρ]:=by simp[de,AV.renL,AV.ren]
theorem Nh(s:S8)(R:AV)(rest b:List Nat)(n:Nat)(hR:R=.d (nb rest)∨(R=.nil∧rest=[]))(hl:rest.length+b.length≤1000000000000)(hn:n+b.length<18446744073709551616) :
  cj Tryz.prog 58 1 [(0,⟨167,10,[de s++[R,.d (.int .u64 (n:Int))]]⟩)] [.ptr 0 0 0 1,.d (nb b)]
   (fun r hp'=>r=.tup []∧lk 0 hp'=some ⟨167,10,[de (E s (rest++b)).1++[.d (nb (E s (rest++b)).2),.d (.int .u64 ((n+b.length:Nat):Int))]]⟩):=by
 have:=IC s R rest b n hR hl;rw[wn n b.length hn]at this;exact this
theorem kR(b:List Nat)(hb:b.length≤100000000000):ay Tryz.prog 84 [.d (nb b)] (fun r=>r=.agg (cb (bu b))):=by
 refine bL Tryz.func84 Tryz.ntmps84 (rs:=[.cell 2 29]) a9 ?_;simp only[go_sem,Nat.reduceEqDiff,Nat.reduceAdd,Nat.reduceLT,↓reduceIte,Nat.reduceMul];refine aP [] mF rfl aw aw aw (by simp[AV.renL]) ?_;rintro r hp'⟨rfl,h0⟩;refine⟨[(97,0)],rfl,?_⟩;simp[go_sem,bO,bB,h0,Blk.ren,aM,fY,AV.ren,bQ];refine aP [(0,32)] (Nh H0 .nil [] b 0 (.inr ⟨rfl,rfl⟩) (by simp;omega) aq) rfl aw (by simp[lk]) (by simp[lk,Blk.ren,aM,fY,AV.ren,bQ,gu]) (by simp[AV.renL,AV.ren,bQ,gu,lk]) ?_;rintro r hp'⟨rfl,h0⟩;refine⟨[],rfl,?_⟩;simp[go_sem,bO,bB,h0,Blk.ren,aM,fY,eC,AV.renL,AV.ren,bQ];refine aP [(0,32)] (BK (E H0 b).1 (.d (nb (E H0 b).2)) (E H0 b).2 b.length (.inl rfl) (by have:=zF _ H0 b (cR _);omega)) rfl aw (by simp[lk]) (by simp[lk,Blk.ren,aM,fY,eC,AV.ren,bQ,gu]) (by simp[AV.renL,AV.ren,bQ,gu,lk]) ?_;rintro r hp'⟨rfl,h0⟩;refine⟨[],rfl,?_⟩;have hf:G8 (rI (lastOf (E H0 b).2 b.length).length (E H0 b).1 (lastOf (E H0 b).2 b.length)).1=bu b:=rfl;rw[hf]at *;simp[go_sem,bO,bB,h0,Blk.ren,aM,fY,eC,dh,AV.ren,bQ,ah,bc,av (bc b),cz];exact aa (by simp[AV.deep];exact cg _) rfl
theorem ef{hp:Hp}{I:Nat→Prop}{id:Nat}{ty:TypeId}{l:List Nat}(hb:lk id hp=some ⟨ty,32,[cb l]⟩)(hI:I id)(hl:l.length=32):SnapD hp I (.sub id 0 0 1 32 32 1) (nb l):=by
 refine .sub (es:=l.map fun(x:Nat)=>[.int .u8 (x:Int)]) hI hb rfl rfl aq (by simp[hl]) (fun r hr=>by
  rw[List.mem_map]at hr;obtain⟨c,_,rfl⟩:=hr
  rfl) fun k j c r y hc hr hy=>?_
 simp only[Nat.zero_add,Nat.mul_one,c_,Option.map_eq_some_iff]at hc hr;obtain⟨x,hx,rfl⟩:=hr
 cases j with
 |succ j=>simp at hy
 |zero =>
  simp at hy;subst hy;rw[Nat.add_zero,BI,hx]at hc;simp at hc;subst hc;exact .d _
theorem gV{b:List Nat}(hb:b.length=32):(List.range 32).map (fun k=>((cb b).drop k).take 1)=List.map ((fun r=>List.map AV.d r)∘fun(x:Nat)=>[DV.int .u8 (x:Int)]) b:=by
 apply List.ext_getElem?;intro i;by_cases hi:i<32
 ·rw[c_,c_,List.getElem?_range hi,cm (by omega:i<b.length)];have h:i<(cb b).length:=by rw[am];omega
  have h1:(cb b)[i]?=some (.d (.int .u8 ((b[i]:Nat):Int))):=by rw[BI,cm (by omega:i<b.length)];rfl
  have h2:(cb b)[i]=.d (.int .u8 ((b[i]:Nat):Int)):=by
   rw[cm h]at h1;exact Option.some.inj h1
  rw[Option.map_some,Option.map_some,List.drop_eq_getElem_cons h,h2];rfl
 ·rw[List.getElem?_eq_none (by simp;omega),List.getElem?_eq_none (by simp;omega)]
theorem pF(ty:TypeId)(e:Nat)(row:List AV)(s:S8)(R:AV)(rest b:List Nat)(n:Int)(hx0:(List.range 32).map (fun k=>(row.drop k).take 1)=List.map ((fun r=>List.map AV.d r)∘fun(x:Nat)=>[DV.int .u8 (x:Int)]) b)(hlow:∀n v,v∈row→v.low1 n)(hR:R=.d (nb rest)∨(R=.nil∧rest=[]))(hl:rest.length+b.length≤1000000000000)(hb32:b.length=32) :
  cj Tryz.prog 58 2 [(0,⟨167,10,[de s++[R,.d (.int .u64 n)]]⟩),(1,⟨ty,e,[row]⟩)] [.ptr 0 0 0 1,.sub 1 0 0 1 32 32 1]
   (fun r hp'=>r=.tup []∧lk 0 hp'=some ⟨167,10,[de (rI ((rest++b).length) s (rest++b)).1++[.d (nb (rI ((rest++b).length) s (rest++b)).2),.d (.int .u64 (IntKind.u64.wrap (n+(IntKind.u64.wrap (b.length:Int)))))]]⟩∧lk 1 hp'=some ⟨ty,e,[row]⟩):=by
 refine al Tryz.func58 (by kernel_rfl) rfl Tryz.ntmps58 (rs:=[]) rfl (dV rfl) (by decide) ?_;rw[hb32];generalize hn':IntKind.u64.wrap (n+(IntKind.u64.wrap ((32:Nat):Int)))=n';generalize hE0:rI ((rest++b).length) s (rest++b)=E;have hx:=hx0;generalize hX:List.map ((fun r=>List.map AV.d r)∘fun(x:Nat)=>[DV.int .u8 (x:Int)]) b=X at hx;simp[go_sem]at hx;have hn2:IntKind.u64.wrap (n+IntKind.u64.wrap 32)=n':=hn';rcases hR with rfl|⟨rfl,rfl⟩
 ·simp[go_sem,nb,de,hn2];refine b7 [0,1,2,3,4,5,6,7,8,9,10,11,12,13,14,15,16] [(17,[18,19]),(20,[])] 1 (k:=21) ?_;intro G hG;simp[go_sem,kF,hx];rw[←hX,nC];simp[go_sem,kF];refine⟨by have:=hl;simp only[b_,List.length_nil]at *;omega,.inl (hG _ _ ?_)⟩;clear hG G
  refine ar (fun t:S8×List Nat=>⟨[(0,.ptr 0 0 0 1)],[(0,⟨167,10,[de t.1++[.d (nb t.2),.d (.int .u64 n')]]⟩),(1,⟨ty,e,[row]⟩)],1091⟩)
   (fun t=>t.2.length≤1000000000000∧∃k,t.2.length≤k∧rI k t.1 t.2=E) (fun t=>t.2.length) (s,rest++b) ⟨by have:=hl;simp only[b_,List.length_nil]at *;omega,_,cR _,hE0⟩ (by
    simp[aA,ai,fv,lk,AV.low,AV.low1,nb,de]
    exact hlow _) ?_
  rintro⟨s1,q⟩⟨hq,k,hk,hE⟩;simp only at hq hk hE;simp only[go_sem,Nat.reduceEqDiff,Nat.reduceAdd,Nat.reduceLT,↓reduceIte,de,nb,List.length_map];refine⟨fun h=>?_,fun h=>?_⟩
  ·have h64:64≤q.length:=aq;rw[eat_more h64 hk]at hE;refine b7 [0,1,2,3,4,5,6,7] [(8,[])] 0 (k:=9) ?_;intro G hG;simp[go_sem];refine⟨aq,?_⟩;refine aP [(0,0)] (sr 167 10 s1 [.d (nb q),.d (.int .u64 n')] (q.take 64) (by simp;omega) (by simp[AV.low1])) rfl aw (by simp[lk]) (by simp[lk,Blk.ren,aM,AV.renL,AV.ren,bQ,gu,de,nb]) (by simp[AV.renL,AV.ren,bQ,gu,lk,nb,List.map_take]) ?_;rintro r hp'⟨rfl,h0⟩;refine⟨[],rfl,?_⟩;simp[go_sem,bO,bB,h0,Blk.ren,aM,AV.renL,AV.ren,bQ,de];refine hG _ _ ?_;clear hG G;simp[go_sem,nb];refine⟨aq,?_⟩;refine ao (Go.Sha.take s1 (q.take 64),q.drop 64) ⟨by simp only[e_];omega,k-1,by simp only[e_];omega,hE⟩ (by simp only[e_];omega) ?_;simp[aA,ai,fv,lk,AV.low,AV.low1,nb,de,List.map_drop,kF];exact hlow _
  ·rw[eat_none k s1 q aq]at hE;subst hE;rfl
 ·simp[go_sem,nb,de,hn2];refine b7 [0,1,2,3,4,5,6,7,8,9,10,11,12,13,14,15,16] [(17,[18,19]),(20,[])] 1 (k:=21) ?_;intro G hG;simp[go_sem,kF,hx];rw[←hX,nC];simp[go_sem,kF];refine⟨by have:=hl;simp only[b_,List.length_nil]at *;omega,.inl (hG _ _ ?_)⟩;clear hG G
  refine ar (fun t:S8×List Nat=>⟨[(0,.ptr 0 0 0 1)],[(0,⟨167,10,[de t.1++[.d (nb t.2),.d (.int .u64 n')]]⟩),(1,⟨ty,e,[row]⟩)],1091⟩)
   (fun t=>t.2.length≤1000000000000∧∃k,t.2.length≤k∧rI k t.1 t.2=E) (fun t=>t.2.length) (s,[]++b) ⟨by have:=hl;simp only[b_,List.length_nil]at *;omega,_,cR _,hE0⟩ (by
    simp[aA,ai,fv,lk,AV.low,AV.low1,nb,de]
    exact hlow _) ?_
  rintro⟨s1,q⟩⟨hq,k,hk,hE⟩;simp only at hq hk hE;simp only[go_sem,Nat.reduceEqDiff,Nat.reduceAdd,Nat.reduceLT,↓reduceIte,de,nb,List.length_map];refine⟨fun h=>?_,fun h=>?_⟩
  ·have h64:64≤q.length:=aq;rw[eat_more h64 hk]at hE;refine b7 [0,1,2,3,4,5,6,7] [(8,[])] 0 (k:=9) ?_;intro G hG;simp[go_sem];refine⟨aq,?_⟩;refine aP [(0,0)] (sr 167 10 s1 [.d (nb q),.d (.int .u64 n')] (q.take 64) (by simp;omega) (by simp[AV.low1])) rfl aw (by simp[lk]) (by simp[lk,Blk.ren,aM,AV.renL,AV.ren,bQ,gu,de,nb]) (by simp[AV.renL,AV.ren,bQ,gu,lk,nb,List.map_take]) ?_;rintro r hp'⟨rfl,h0⟩;refine⟨[],rfl,?_⟩;simp[go_sem,bO,bB,h0,Blk.ren,aM,AV.renL,AV.ren,bQ,de];refine hG _ _ ?_;clear hG G;simp[go_sem,nb];refine⟨aq,?_⟩;refine ao (Go.Sha.take s1 (q.take 64),q.drop 64) ⟨by simp only[e_];omega,k-1,by simp only[e_];omega,hE⟩ (by simp only[e_];omega) ?_;simp[aA,ai,fv,lk,AV.low,AV.low1,nb,de,List.map_drop,kF];exact hlow _
  ·rw[eat_none k s1 q aq]at hE;subst hE;rfl
theorem DO(s:S8)(R:AV)(rest b:List Nat)(n:Nat)(hR:R=.d (nb rest)∨(R=.nil∧rest=[]))(hl:rest.length+b.length≤1000000000000)(hb32:b.length=32)(hn:n+b.length<18446744073709551616) :
  cj Tryz.prog 58 2 [(0,⟨167,10,[de s++[R,.d (.int .u64 (n:Int))]]⟩),(1,⟨29,32,[cb b]⟩)] [.ptr 0 0 0 1,.sub 1 0 0 1 32 32 1]
   (fun r hp'=>r=.tup []∧lk 0 hp'=some ⟨167,10,[de (E s (rest++b)).1++[.d (nb (E s (rest++b)).2),.d (.int .u64 ((n+b.length:Nat):Int))]]⟩∧lk 1 hp'=some ⟨29,32,[cb b]⟩):=by
 have:=pF 29 32 (cb b) s R rest b n (gV hb32) (fun n=>aO n _) hR hl hb32;rw[wn n b.length hn]at this;exact this
theorem IG(ty:TypeId)(e:Nat)(row:List AV)(s:S8)(R:AV)(rest b:List Nat)(n:Nat)(hx0:(List.range 32).map (fun k=>(row.drop k).take 1)=List.map ((fun r=>List.map AV.d r)∘fun(x:Nat)=>[DV.int .u8 (x:Int)]) b)(hlow:∀n v,v∈row→v.low1 n)(hR:R=.d (nb rest)∨(R=.nil∧rest=[]))(hl:rest.length+b.length≤1000000000000)(hb32:b.length=32)(hn:n+b.length<18446744073709551616) :
  cj Tryz.prog 58 2 [(0,⟨167,10,[de s++[R,.d (.int .u64 (n:Int))]]⟩),(1,⟨ty,e,[row]⟩)] [.ptr 0 0 0 1,.sub 1 0 0 1 32 32 1]
   (fun r hp'=>r=.tup []∧lk 0 hp'=some ⟨167,10,[de (E s (rest++b)).1++[.d (nb (E s (rest++b)).2),.d (.int .u64 ((n+b.length:Nat):Int))]]⟩∧lk 1 hp'=some ⟨ty,e,[row]⟩):=by
 have:=pF ty e row s R rest b n hx0 hlow hR hl hb32;rw[wn n b.length hn]at this;exact this
theorem gv(tag:List Nat)(ts:DV)(hts:ts=.str (tag.map fun(x:Nat)=>(x:Int)))(b:List Nat)(ht:tag.length≤1000)(hb:b.length≤10000000000):ay Tryz.prog 62 [.d ts,.d (nb b)] (fun r=>r=.agg (cb (fi tag b))):=by
 subst hts;refine bL Tryz.func62 Tryz.ntmps62 (rs:=[.cell 4 29]) a9 ?_;simp[go_sem,Tryz.underlying5];refine ag (kR tag aq) a9 ?_;have hD:=bc tag;have hg:fi tag b=bu (bu tag++(bu tag++b)):=rfl;rw[hg];generalize bu tag=D at hD;simp[go_sem,hD,cz];refine aP [] mF rfl aw aw aw (by simp[AV.renL]) ?_;rintro r hp'⟨rfl,h0⟩;refine⟨[(97,0)],rfl,?_⟩;simp[go_sem,bO,bB,h0,Blk.ren,aM,fY,AV.ren,bQ]
 have hp1:E H0 (D++(D++b))=E (E (E H0 D).1 ((E H0 D).2++D)).1 ((E (E H0 D).1 ((E H0 D).2++D)).2++b):=by
  rw[zE _ _ _ D (cR _),←cD,zE _ _ _ ((E H0 D).2++D) (cR _)]
 have hfin:rK (E (E (E H0 D).1 ((E H0 D).2++D)).1 ((E (E H0 D).1 ((E H0 D).2++D)).2++b)) (0+D.length+D.length+b.length)=bu (D++(D++b)):=by
  unfold bu;rw[hp1];congr 1;simp only[b_];omega
 have l1:=zF _ H0 D (cR _);refine aP [(0,192),(1,128)] (DO H0 .nil [] D 0 (.inr ⟨rfl,rfl⟩) (by simp;omega) hD aq) rfl aw (by simp[lk]) (by simp[lk,Blk.ren,aM,fY,dh,AV.renL,AV.ren,bQ,gu]) (by simp[AV.renL,AV.ren,bQ,gu,lk]) ?_;rintro r hp'⟨rfl,h0,h1⟩;refine⟨[],rfl,?_⟩;rw[List.nil_append]at h0;generalize E H0 D=p1 at *;have l2:=zF _ p1.1 (p1.2++D) (cR _);rw[b_]at l2;simp[go_sem,bO,bB,h0,h1,Blk.ren,aM,fY,dh,eC,AV.renL,AV.ren,bQ];refine aP [(0,192),(1,128)] (DO p1.1 (.d (nb p1.2)) p1.2 D (0+D.length) (.inl rfl) aq hD aq) rfl aw (by simp[lk]) (by simp[lk,Blk.ren,aM,fY,dh,eC,AV.renL,AV.ren,bQ,gu]) (by simp[AV.renL,AV.ren,bQ,gu,lk]) ?_;rintro r hp'⟨rfl,h0,h1⟩;refine⟨[],rfl,?_⟩;generalize E p1.1 (p1.2++D)=p2 at *;have l3:=zF _ p2.1 (p2.2++b) (cR _);rw[b_]at l3;simp[go_sem,bO,bB,h0,h1,Blk.ren,aM,fY,dh,eC,AV.renL,AV.ren,bQ];refine aP [(0,192)] (Nh p2.1 (.d (nb p2.2)) p2.2 b (0+D.length+D.length) (.inl rfl) aq aq) rfl aw (by simp[lk]) (by simp[lk,Blk.ren,aM,fY,dh,eC,AV.renL,AV.ren,bQ,gu]) (by simp[AV.renL,AV.ren,bQ,gu,lk]) ?_;rintro r hp'⟨rfl,h0⟩;refine⟨[],rfl,?_⟩;generalize E p2.1 (p2.2++b)=p3 at *;simp[go_sem,bO,bB,h0,h1,Blk.ren,aM,fY,dh,eC,AV.renL,AV.ren,bQ];refine aP [(0,192)] (BK p3.1 (.d (nb p3.2)) p3.2 (0+D.length+D.length+b.length) (.inl rfl) aq) rfl aw (by simp[lk]) (by simp[lk,Blk.ren,aM,fY,eC,AV.ren,bQ,gu]) (by simp[AV.renL,AV.ren,bQ,gu,lk]) ?_;rintro r hp'⟨rfl,h0⟩;refine⟨[],rfl,?_⟩;have hf:G8 (rI (lastOf p3.2 (0+D.length+D.length+b.length)).length p3.1 (lastOf p3.2 (0+D.length+D.length+b.length))).1=bu (D++(D++b)):=hfin;rw[hf];have hL:=bc (D++(D++b));generalize bu (D++(D++b))=R at *;simp[go_sem,bO,bB,h0,Blk.ren,aM,fY,eC,dh,AV.ren,bQ,ah,hL,av hL,cz];exact aa (by simp[AV.deep];exact cg _) rfl
end Go.Proofs.YtmfnimjnneflnaaGreat
