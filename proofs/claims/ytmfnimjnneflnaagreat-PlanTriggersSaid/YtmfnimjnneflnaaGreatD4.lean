/-
 Part 5 of what the claim rests on.
-/
import Derived.Test.YtmfnimjnneflnaaGreatD2
import Derived.Test.YtmfnimjnneflnaaGreatD3
import Derived.Test.YtmfnimjnneflnaaGreatRows
set_option linter.unusedVariables false
set_option linter.unusedSimpArgs false
set_option maxRecDepth 100000
set_option maxHeartbeats 16000000
namespace Go.Proofs.YtmfnimjnneflnaaGreat
open Go.Am
@[go_sem] theorem k2:bU Tryz.prog 2=.scal:=by kernel_rfl
@[go_sem] theorem c2:Tryz.prog.cellsOf 2=1:=by kernel_rfl
@[go_sem] theorem b2:Tryz.prog.bytesOf 2=8:=by kernel_rfl
@[go_sem] theorem z2:fK Tryz.prog 2=some [.d (.int .i64 0)]:=by kernel_rfl
@[go_sem] theorem i2:jI Tryz.prog 2=some .i64:=by kernel_rfl
@[go_sem] theorem u2:(Tryz.prog.underlying 2).isSome=true:=by kernel_rfl
@[go_sem] theorem k3:bU Tryz.prog 3=.scal:=by kernel_rfl
@[go_sem] theorem c3:Tryz.prog.cellsOf 3=1:=by kernel_rfl
@[go_sem] theorem b3:Tryz.prog.bytesOf 3=8:=by kernel_rfl
@[go_sem] theorem z3:fK Tryz.prog 3=some [.d (.int .i64 0)]:=by kernel_rfl
@[go_sem] theorem i3:jI Tryz.prog 3=some .i64:=by kernel_rfl
@[go_sem] theorem u3:(Tryz.prog.underlying 3).isSome=true:=by kernel_rfl
@[go_sem] theorem k4:bU Tryz.prog 4=.scal:=by kernel_rfl
@[go_sem] theorem c4:Tryz.prog.cellsOf 4=1:=by kernel_rfl
@[go_sem] theorem b4:Tryz.prog.bytesOf 4=1:=by kernel_rfl
@[go_sem] theorem z4:fK Tryz.prog 4=some [.d (.bool false)]:=by kernel_rfl
@[go_sem] theorem u4:(Tryz.prog.underlying 4).isSome=true:=by kernel_rfl
@[go_sem] theorem k5:bU Tryz.prog 5=.scal:=by kernel_rfl
@[go_sem] theorem c5:Tryz.prog.cellsOf 5=1:=by kernel_rfl
@[go_sem] theorem b5:Tryz.prog.bytesOf 5=1:=by kernel_rfl
@[go_sem] theorem z5:fK Tryz.prog 5=some [.d (.int .u8 0)]:=by kernel_rfl
@[go_sem] theorem i5:jI Tryz.prog 5=some .u8:=by kernel_rfl
@[go_sem] theorem u5:(Tryz.prog.underlying 5).isSome=true:=by kernel_rfl
@[go_sem] theorem k9:bU Tryz.prog 9=.str:=by kernel_rfl
@[go_sem] theorem c9:Tryz.prog.cellsOf 9=1:=by kernel_rfl
@[go_sem] theorem b9:Tryz.prog.bytesOf 9=16:=by kernel_rfl
@[go_sem] theorem z9:fK Tryz.prog 9=some [.d (.str [])]:=by kernel_rfl
@[go_sem] theorem u9:(Tryz.prog.underlying 9).isSome=true:=by kernel_rfl
@[go_sem] theorem k22:bU Tryz.prog 22=.scal:=by kernel_rfl
@[go_sem] theorem c22:Tryz.prog.cellsOf 22=1:=by kernel_rfl
@[go_sem] theorem b22:Tryz.prog.bytesOf 22=4:=by kernel_rfl
@[go_sem] theorem z22:fK Tryz.prog 22=some [.d (.int .u32 0)]:=by kernel_rfl
@[go_sem] theorem i22:jI Tryz.prog 22=some .u32:=by kernel_rfl
@[go_sem] theorem u22:(Tryz.prog.underlying 22).isSome=true:=by kernel_rfl
@[go_sem] theorem k23:bU Tryz.prog 23=.slice 68:=by kernel_rfl
@[go_sem] theorem c23:Tryz.prog.cellsOf 23=1:=by kernel_rfl
@[go_sem] theorem b23:Tryz.prog.bytesOf 23=24:=by kernel_rfl
@[go_sem] theorem z23:fK Tryz.prog 23=some [.nil]:=by kernel_rfl
@[go_sem] theorem u23:(Tryz.prog.underlying 23).isSome=true:=by kernel_rfl
@[go_sem] theorem k24:bU Tryz.prog 24=.slice 57:=by kernel_rfl
@[go_sem] theorem c24:Tryz.prog.cellsOf 24=1:=by kernel_rfl
@[go_sem] theorem b24:Tryz.prog.bytesOf 24=24:=by kernel_rfl
@[go_sem] theorem z24:fK Tryz.prog 24=some [.nil]:=by kernel_rfl
@[go_sem] theorem u24:(Tryz.prog.underlying 24).isSome=true:=by kernel_rfl
@[go_sem] theorem k26:bU Tryz.prog 26=.struct [(0,22),(1,23),(2,24),(3,22)]:=by kernel_rfl
@[go_sem] theorem c26:Tryz.prog.cellsOf 26=4:=by kernel_rfl
@[go_sem] theorem b26:Tryz.prog.bytesOf 26=64:=by kernel_rfl
@[go_sem] theorem z26:fK Tryz.prog 26=some [.d (.int .u32 0),.nil,.nil,.d (.int .u32 0)]:=by kernel_rfl
@[go_sem] theorem u26:(Tryz.prog.underlying 26).isSome=true:=by kernel_rfl
@[go_sem] theorem k28:bU Tryz.prog 28=.struct [(0,26),(4,3),(5,24)]:=by kernel_rfl
@[go_sem] theorem c28:Tryz.prog.cellsOf 28=6:=by kernel_rfl
@[go_sem] theorem b28:Tryz.prog.bytesOf 28=96:=by kernel_rfl
@[go_sem] theorem z28:fK Tryz.prog 28=some [.d (.int .u32 0),.nil,.nil,.d (.int .u32 0),.d (.int .i64 0),.nil]:=by kernel_rfl
@[go_sem] theorem u28:(Tryz.prog.underlying 28).isSome=true:=by kernel_rfl
@[go_sem] theorem k29:bU Tryz.prog 29=.arr 32 5:=by kernel_rfl
@[go_sem] theorem c29:Tryz.prog.cellsOf 29=32:=by kernel_rfl
@[go_sem] theorem b29:Tryz.prog.bytesOf 29=32:=by kernel_rfl
@[go_sem] theorem u29:(Tryz.prog.underlying 29).isSome=true:=by kernel_rfl
@[go_sem] theorem k30:bU Tryz.prog 30=.slice 29:=by kernel_rfl
@[go_sem] theorem c30:Tryz.prog.cellsOf 30=1:=by kernel_rfl
@[go_sem] theorem b30:Tryz.prog.bytesOf 30=24:=by kernel_rfl
@[go_sem] theorem z30:fK Tryz.prog 30=some [.nil]:=by kernel_rfl
@[go_sem] theorem u30:(Tryz.prog.underlying 30).isSome=true:=by kernel_rfl
@[go_sem] theorem k31:bU Tryz.prog 31=.slice 5:=by kernel_rfl
@[go_sem] theorem c31:Tryz.prog.cellsOf 31=1:=by kernel_rfl
@[go_sem] theorem b31:Tryz.prog.bytesOf 31=24:=by kernel_rfl
@[go_sem] theorem z31:fK Tryz.prog 31=some [.nil]:=by kernel_rfl
@[go_sem] theorem u31:(Tryz.prog.underlying 31).isSome=true:=by kernel_rfl
@[go_sem] theorem ad5:bU Tryz.prog 32=.struct [(0,29),(32,30),(33,31)]:=by kernel_rfl
@[go_sem] theorem ad6:Tryz.prog.cellsOf 32=34:=by kernel_rfl
@[go_sem] theorem ad7:Tryz.prog.bytesOf 32=80:=by kernel_rfl
@[go_sem] theorem ad8:(Tryz.prog.underlying 32).isSome=true:=by kernel_rfl
@[go_sem] theorem k33:bU Tryz.prog 33=.struct [(0,29),(32,30),(33,31)]:=by kernel_rfl
@[go_sem] theorem c33:Tryz.prog.cellsOf 33=34:=by kernel_rfl
@[go_sem] theorem b33:Tryz.prog.bytesOf 33=80:=by kernel_rfl
@[go_sem] theorem u33:(Tryz.prog.underlying 33).isSome=true:=by kernel_rfl
@[go_sem] theorem k34:bU Tryz.prog 34=.slice 31:=by kernel_rfl
@[go_sem] theorem c34:Tryz.prog.cellsOf 34=1:=by kernel_rfl
@[go_sem] theorem b34:Tryz.prog.bytesOf 34=24:=by kernel_rfl
@[go_sem] theorem z34:fK Tryz.prog 34=some [.nil]:=by kernel_rfl
@[go_sem] theorem u34:(Tryz.prog.underlying 34).isSome=true:=by kernel_rfl
@[go_sem] theorem k42:bU Tryz.prog 42=.struct [(0,5),(1,31)]:=by kernel_rfl
@[go_sem] theorem c42:Tryz.prog.cellsOf 42=2:=by kernel_rfl
@[go_sem] theorem b42:Tryz.prog.bytesOf 42=32:=by kernel_rfl
@[go_sem] theorem z42:fK Tryz.prog 42=some [.d (.int .u8 0),.nil]:=by kernel_rfl
@[go_sem] theorem u42:(Tryz.prog.underlying 42).isSome=true:=by kernel_rfl
@[go_sem] theorem k44:bU Tryz.prog 44=.slice 42:=by kernel_rfl
@[go_sem] theorem c44:Tryz.prog.cellsOf 44=1:=by kernel_rfl
@[go_sem] theorem b44:Tryz.prog.bytesOf 44=24:=by kernel_rfl
@[go_sem] theorem z44:fK Tryz.prog 44=some [.nil]:=by kernel_rfl
@[go_sem] theorem u44:(Tryz.prog.underlying 44).isSome=true:=by kernel_rfl
@[go_sem] theorem k45:bU Tryz.prog 45=.slice 55:=by kernel_rfl
@[go_sem] theorem c45:Tryz.prog.cellsOf 45=1:=by kernel_rfl
@[go_sem] theorem b45:Tryz.prog.bytesOf 45=24:=by kernel_rfl
@[go_sem] theorem z45:fK Tryz.prog 45=some [.nil]:=by kernel_rfl
@[go_sem] theorem u45:(Tryz.prog.underlying 45).isSome=true:=by kernel_rfl
@[go_sem] theorem k46:bU Tryz.prog 46=.scal:=by kernel_rfl
@[go_sem] theorem c46:Tryz.prog.cellsOf 46=1:=by kernel_rfl
@[go_sem] theorem b46:Tryz.prog.bytesOf 46=8:=by kernel_rfl
@[go_sem] theorem z46:fK Tryz.prog 46=some [.d (.int .i64 0)]:=by kernel_rfl
@[go_sem] theorem i46:jI Tryz.prog 46=some .i64:=by kernel_rfl
@[go_sem] theorem u46:(Tryz.prog.underlying 46).isSome=true:=by kernel_rfl
@[go_sem] theorem k53:bU Tryz.prog 53=.scal:=by kernel_rfl
@[go_sem] theorem c53:Tryz.prog.cellsOf 53=1:=by kernel_rfl
@[go_sem] theorem b53:Tryz.prog.bytesOf 53=8:=by kernel_rfl
@[go_sem] theorem z53:fK Tryz.prog 53=some [.d (.int .u64 0)]:=by kernel_rfl
@[go_sem] theorem i53:jI Tryz.prog 53=some .u64:=by kernel_rfl
@[go_sem] theorem u53:(Tryz.prog.underlying 53).isSome=true:=by kernel_rfl
@[go_sem] theorem k55:bU Tryz.prog 55=.struct [(0,3),(1,53)]:=by kernel_rfl
@[go_sem] theorem c55:Tryz.prog.cellsOf 55=2:=by kernel_rfl
@[go_sem] theorem b55:Tryz.prog.bytesOf 55=16:=by kernel_rfl
@[go_sem] theorem z55:fK Tryz.prog 55=some [.d (.int .i64 0),.d (.int .u64 0)]:=by kernel_rfl
@[go_sem] theorem u55:(Tryz.prog.underlying 55).isSome=true:=by kernel_rfl
@[go_sem] theorem k57:bU Tryz.prog 57=.struct [(0,53),(1,31)]:=by kernel_rfl
@[go_sem] theorem c57:Tryz.prog.cellsOf 57=2:=by kernel_rfl
@[go_sem] theorem b57:Tryz.prog.bytesOf 57=32:=by kernel_rfl
@[go_sem] theorem z57:fK Tryz.prog 57=some [.d (.int .u64 0),.nil]:=by kernel_rfl
@[go_sem] theorem u57:(Tryz.prog.underlying 57).isSome=true:=by kernel_rfl
@[go_sem] theorem k66:bU Tryz.prog 66=.struct [(0,29),(32,22)]:=by kernel_rfl
@[go_sem] theorem c66:Tryz.prog.cellsOf 66=33:=by kernel_rfl
@[go_sem] theorem b66:Tryz.prog.bytesOf 66=36:=by kernel_rfl
@[go_sem] theorem u66:(Tryz.prog.underlying 66).isSome=true:=by kernel_rfl
@[go_sem] theorem k68:bU Tryz.prog 68=.struct [(0,66),(33,22),(34,34)]:=by kernel_rfl
@[go_sem] theorem c68:Tryz.prog.cellsOf 68=35:=by kernel_rfl
@[go_sem] theorem b68:Tryz.prog.bytesOf 68=64:=by kernel_rfl
@[go_sem] theorem u68:(Tryz.prog.underlying 68).isSome=true:=by kernel_rfl
@[go_sem] theorem k73:bU Tryz.prog 73=.arr 2 2:=by kernel_rfl
@[go_sem] theorem c73:Tryz.prog.cellsOf 73=2:=by kernel_rfl
@[go_sem] theorem b73:Tryz.prog.bytesOf 73=16:=by kernel_rfl
@[go_sem] theorem z73:fK Tryz.prog 73=some [.d (.int .i64 0),.d (.int .i64 0)]:=by kernel_rfl
@[go_sem] theorem u73:(Tryz.prog.underlying 73).isSome=true:=by kernel_rfl
@[go_sem] theorem k76:bU Tryz.prog 76=.struct [(0,29),(32,31),(33,2),(34,29)]:=by kernel_rfl
@[go_sem] theorem c76:Tryz.prog.cellsOf 76=66:=by kernel_rfl
@[go_sem] theorem b76:Tryz.prog.bytesOf 76=96:=by kernel_rfl
@[go_sem] theorem u76:(Tryz.prog.underlying 76).isSome=true:=by kernel_rfl
@[go_sem] theorem k78:bU Tryz.prog 78=.slice 33:=by kernel_rfl
@[go_sem] theorem c78:Tryz.prog.cellsOf 78=1:=by kernel_rfl
@[go_sem] theorem b78:Tryz.prog.bytesOf 78=24:=by kernel_rfl
@[go_sem] theorem z78:fK Tryz.prog 78=some [.nil]:=by kernel_rfl
@[go_sem] theorem u78:(Tryz.prog.underlying 78).isSome=true:=by kernel_rfl
@[go_sem] theorem k96:bU Tryz.prog 96=.arr 4 53:=by kernel_rfl
@[go_sem] theorem c96:Tryz.prog.cellsOf 96=4:=by kernel_rfl
@[go_sem] theorem b96:Tryz.prog.bytesOf 96=32:=by kernel_rfl
@[go_sem] theorem z96:fK Tryz.prog 96=some [.d (.int .u64 0),.d (.int .u64 0),.d (.int .u64 0),.d (.int .u64 0)]:=by kernel_rfl
@[go_sem] theorem u96:(Tryz.prog.underlying 96).isSome=true:=by kernel_rfl
@[go_sem] theorem k139:bU Tryz.prog 139=.arr 3 29:=by kernel_rfl
@[go_sem] theorem c139:Tryz.prog.cellsOf 139=96:=by kernel_rfl
@[go_sem] theorem b139:Tryz.prog.bytesOf 139=96:=by kernel_rfl
@[go_sem] theorem u139:(Tryz.prog.underlying 139).isSome=true:=by kernel_rfl
@[go_sem] theorem k143:bU Tryz.prog 143=.arr 5 29:=by kernel_rfl
@[go_sem] theorem c143:Tryz.prog.cellsOf 143=160:=by kernel_rfl
@[go_sem] theorem b143:Tryz.prog.bytesOf 143=160:=by kernel_rfl
@[go_sem] theorem u143:(Tryz.prog.underlying 143).isSome=true:=by kernel_rfl
@[go_sem] theorem k155:bU Tryz.prog 155=.struct [(0,34),(1,34)]:=by kernel_rfl
@[go_sem] theorem c155:Tryz.prog.cellsOf 155=2:=by kernel_rfl
@[go_sem] theorem b155:Tryz.prog.bytesOf 155=48:=by kernel_rfl
@[go_sem] theorem z155:fK Tryz.prog 155=some [.nil,.nil]:=by kernel_rfl
@[go_sem] theorem u155:(Tryz.prog.underlying 155).isSome=true:=by kernel_rfl
@[go_sem] theorem k156:bU Tryz.prog 156=.slice 4:=by kernel_rfl
@[go_sem] theorem c156:Tryz.prog.cellsOf 156=1:=by kernel_rfl
@[go_sem] theorem b156:Tryz.prog.bytesOf 156=24:=by kernel_rfl
@[go_sem] theorem z156:fK Tryz.prog 156=some [.nil]:=by kernel_rfl
@[go_sem] theorem u156:(Tryz.prog.underlying 156).isSome=true:=by kernel_rfl
@[go_sem] theorem k158:bU Tryz.prog 158=.struct [(0,28),(6,33),(40,31),(41,155),(43,156),(44,3),(45,3),(46,45),(47,46)]:=by kernel_rfl
@[go_sem] theorem c158:Tryz.prog.cellsOf 158=48:=by kernel_rfl
@[go_sem] theorem b158:Tryz.prog.bytesOf 158=320:=by kernel_rfl
@[go_sem] theorem u158:(Tryz.prog.underlying 158).isSome=true:=by kernel_rfl
@[go_sem] theorem k164:bU Tryz.prog 164=.arr 8 22:=by kernel_rfl
@[go_sem] theorem c164:Tryz.prog.cellsOf 164=8:=by kernel_rfl
@[go_sem] theorem b164:Tryz.prog.bytesOf 164=32:=by kernel_rfl
@[go_sem] theorem z164:fK Tryz.prog 164=some [.d (.int .u32 0),.d (.int .u32 0),.d (.int .u32 0),.d (.int .u32 0),.d (.int .u32 0),.d (.int .u32 0),.d (.int .u32 0),.d (.int .u32 0)]:=by kernel_rfl
@[go_sem] theorem u164:(Tryz.prog.underlying 164).isSome=true:=by kernel_rfl
@[go_sem] theorem k167:bU Tryz.prog 167=.struct [(0,164),(8,31),(9,53)]:=by kernel_rfl
@[go_sem] theorem c167:Tryz.prog.cellsOf 167=10:=by kernel_rfl
@[go_sem] theorem b167:Tryz.prog.bytesOf 167=64:=by kernel_rfl
@[go_sem] theorem z167:fK Tryz.prog 167=some [.d (.int .u32 0),.d (.int .u32 0),.d (.int .u32 0),.d (.int .u32 0),.d (.int .u32 0),.d (.int .u32 0),.d (.int .u32 0),.d (.int .u32 0),.nil,.d (.int .u64 0)]:=by kernel_rfl
@[go_sem] theorem u167:(Tryz.prog.underlying 167).isSome=true:=by kernel_rfl
@[go_sem] theorem k169:bU Tryz.prog 169=.scal:=by kernel_rfl
@[go_sem] theorem c169:Tryz.prog.cellsOf 169=1:=by kernel_rfl
@[go_sem] theorem b169:Tryz.prog.bytesOf 169=8:=by kernel_rfl
@[go_sem] theorem z169:fK Tryz.prog 169=some [.d (.int .u64 0)]:=by kernel_rfl
@[go_sem] theorem i169:jI Tryz.prog 169=some .u64:=by kernel_rfl
@[go_sem] theorem u169:(Tryz.prog.underlying 169).isSome=true:=by kernel_rfl
@[go_sem] theorem k172:bU Tryz.prog 172=.slice 174:=by kernel_rfl
@[go_sem] theorem c172:Tryz.prog.cellsOf 172=1:=by kernel_rfl
@[go_sem] theorem b172:Tryz.prog.bytesOf 172=24:=by kernel_rfl
@[go_sem] theorem z172:fK Tryz.prog 172=some [.nil]:=by kernel_rfl
@[go_sem] theorem u172:(Tryz.prog.underlying 172).isSome=true:=by kernel_rfl
@[go_sem] theorem k174:bU Tryz.prog 174=.struct [(0,29),(32,3),(33,3)]:=by kernel_rfl
@[go_sem] theorem c174:Tryz.prog.cellsOf 174=34:=by kernel_rfl
@[go_sem] theorem b174:Tryz.prog.bytesOf 174=48:=by kernel_rfl
@[go_sem] theorem u174:(Tryz.prog.underlying 174).isSome=true:=by kernel_rfl
@[go_sem] theorem k189:bU Tryz.prog 189=.struct [(0,96),(4,96),(8,4)]:=by kernel_rfl
@[go_sem] theorem c189:Tryz.prog.cellsOf 189=9:=by kernel_rfl
@[go_sem] theorem b189:Tryz.prog.bytesOf 189=72:=by kernel_rfl
@[go_sem] theorem z189:fK Tryz.prog 189=some [.d (.int .u64 0),.d (.int .u64 0),.d (.int .u64 0),.d (.int .u64 0),.d (.int .u64 0),.d (.int .u64 0),.d (.int .u64 0),.d (.int .u64 0),.d (.bool false)]:=by kernel_rfl
@[go_sem] theorem u189:(Tryz.prog.underlying 189).isSome=true:=by kernel_rfl
@[go_sem] theorem k204:bU Tryz.prog 204=.arr 2 34:=by kernel_rfl
@[go_sem] theorem c204:Tryz.prog.cellsOf 204=2:=by kernel_rfl
@[go_sem] theorem b204:Tryz.prog.bytesOf 204=48:=by kernel_rfl
@[go_sem] theorem z204:fK Tryz.prog 204=some [.nil,.nil]:=by kernel_rfl
@[go_sem] theorem u204:(Tryz.prog.underlying 204).isSome=true:=by kernel_rfl
@[go_sem] theorem k211:bU Tryz.prog 211=.arr 64 22:=by kernel_rfl
@[go_sem] theorem c211:Tryz.prog.cellsOf 211=64:=by kernel_rfl
@[go_sem] theorem b211:Tryz.prog.bytesOf 211=256:=by kernel_rfl
@[go_sem] theorem u211:(Tryz.prog.underlying 211).isSome=true:=by kernel_rfl
@[go_sem] theorem k217:bU Tryz.prog 217=.scal:=by kernel_rfl
@[go_sem] theorem c217:Tryz.prog.cellsOf 217=1:=by kernel_rfl
@[go_sem] theorem b217:Tryz.prog.bytesOf 217=2:=by kernel_rfl
@[go_sem] theorem z217:fK Tryz.prog 217=some [.d (.int .u16 0)]:=by kernel_rfl
@[go_sem] theorem i217:jI Tryz.prog 217=some .u16:=by kernel_rfl
@[go_sem] theorem u217:(Tryz.prog.underlying 217).isSome=true:=by kernel_rfl
@[go_sem] theorem k226:bU Tryz.prog 226=.arr 8 53:=by kernel_rfl
@[go_sem] theorem c226:Tryz.prog.cellsOf 226=8:=by kernel_rfl
@[go_sem] theorem b226:Tryz.prog.bytesOf 226=64:=by kernel_rfl
@[go_sem] theorem z226:fK Tryz.prog 226=some [.d (.int .u64 0),.d (.int .u64 0),.d (.int .u64 0),.d (.int .u64 0),.d (.int .u64 0),.d (.int .u64 0),.d (.int .u64 0),.d (.int .u64 0)]:=by kernel_rfl
@[go_sem] theorem u226:(Tryz.prog.underlying 226).isSome=true:=by kernel_rfl
@[go_sem] theorem k243:bU Tryz.prog 243=.struct [(0,96),(4,96),(8,96)]:=by kernel_rfl
@[go_sem] theorem c243:Tryz.prog.cellsOf 243=12:=by kernel_rfl
@[go_sem] theorem b243:Tryz.prog.bytesOf 243=96:=by kernel_rfl
@[go_sem] theorem z243:fK Tryz.prog 243=some [.d (.int .u64 0),.d (.int .u64 0),.d (.int .u64 0),.d (.int .u64 0),.d (.int .u64 0),.d (.int .u64 0),.d (.int .u64 0),.d (.int .u64 0),.d (.int .u64 0),.d (.int .u64 0),.d (.int .u64 0),.d (.int .u64 0)]:=by kernel_rfl
@[go_sem] theorem u243:(Tryz.prog.underlying 243).isSome=true:=by kernel_rfl
@[go_sem] theorem k283:bU Tryz.prog 283=.struct [(0,34),(1,34),(2,46)]:=by kernel_rfl
@[go_sem] theorem c283:Tryz.prog.cellsOf 283=3:=by kernel_rfl
@[go_sem] theorem b283:Tryz.prog.bytesOf 283=56:=by kernel_rfl
@[go_sem] theorem z283:fK Tryz.prog 283=some [.nil,.nil,.d (.int .i64 0)]:=by kernel_rfl
@[go_sem] theorem u283:(Tryz.prog.underlying 283).isSome=true:=by kernel_rfl
end Go.Proofs.YtmfnimjnneflnaaGreat
namespace Go.Sha
open Go.Am
def M:Nat:=4294967296
def lT(a b:Nat):Nat:=(a+b)%4294967296
def nO(a b:Nat):Nat:=(a ^^^ b)%4294967296
def B7(a b:Nat):Nat:=(a &&& b)%4294967296
def Zh(a b:Nat):Nat:=(a ||| b)%4294967296
def c32(a:Nat):Nat:=(4294967295 ^^^ a)%4294967296
def Zi(n a:Nat):Nat:=a*2 ^ n%4294967296
def ej(n a:Nat):Nat:=a/2 ^ n
def yn(a:Nat):Nat:=a%4294967296
def t8(a:Nat):Nat:=a%256
def pY(s x:Nat):Nat:=Zh (Zi s x) (ej (32-s) x)
theorem Qo(x:Int):IntKind.u32.wrap x=x%4294967296:=by simp[IntKind.wrap,IntKind.bits,IntKind.signed]
theorem ij(x:Int):IntKind.u64.wrap x=x%18446744073709551616:=by simp[IntKind.wrap,IntKind.bits,IntKind.signed]
theorem JR(x:Int):IntKind.u8.wrap x=x%256:=by simp[IntKind.wrap,IntKind.bits,IntKind.signed]
theorem fB(k:Nat)(a:Nat):(BitVec.ofInt k (a:Int)).toNat=a%2 ^ k:=by
 rw[BitVec.toNat_ofInt];omega
theorem gC(a b:Nat):IntKind.u32.wrap ((a:Int)+(b:Int))=((lT a b:Nat):Int):=by rw[Qo];unfold lT;omega
theorem B8(a:Nat):IntKind.u32.wrap (a:Int)=((yn a:Nat):Int):=by rw[Qo];unfold yn;omega
theorem fE(a:Nat):IntKind.u8.wrap (a:Int)=((t8 a:Nat):Int):=by rw[JR];unfold t8;omega
theorem TG(a b:Nat):IntKind.u32.wrap ((a:Int)*(b:Int))=((a*b%4294967296:Nat):Int):=by
 rw[Qo,←Int.natCast_mul];omega
theorem Zj(a n:Nat):IntKind.u32.wrap ((a:Int)*2 ^ n)=((Zi n a:Nat):Int):=by
 have:=TG a (2 ^ n);rw[Int.natCast_pow]at this;exact this
theorem acs(a:Nat):IntKind.u32.wrap ((a:Int)*256)=((Zi 8 a:Nat):Int):=TG a 256
theorem iL(a b:Nat):bits .xor .u32 (a:Int) (b:Int)=((nO a b:Nat):Int):=by
 show IntKind.u32.wrap (((BitVec.ofInt 32 (a:Int)) ^^^ (BitVec.ofInt 32 (b:Int))).toNat:Int)=_;rw[BitVec.toNat_xor,fB,fB,←Nat.xor_mod_two_pow,B8];unfold nO yn;congr 1;omega
theorem j8(a b:Nat):bits .and .u32 (a:Int) (b:Int)=((B7 a b:Nat):Int):=by
 show IntKind.u32.wrap (((BitVec.ofInt 32 (a:Int)) &&& (BitVec.ofInt 32 (b:Int))).toNat:Int)=_;rw[BitVec.toNat_and,fB,fB,←Nat.and_mod_two_pow,B8];unfold B7 yn;congr 1;omega
theorem Zk(a b:Nat):bits .or .u32 (a:Int) (b:Int)=((Zh a b:Nat):Int):=by
 show IntKind.u32.wrap (((BitVec.ofInt 32 (a:Int)) ||| (BitVec.ofInt 32 (b:Int))).toNat:Int)=_;rw[BitVec.toNat_or,fB,fB,←Nat.or_mod_two_pow,B8];unfold Zh yn;congr 1;omega
theorem TJ(a:Nat):bits .xor .u32 4294967295 (a:Int)=((c32 a:Nat):Int):=iL 4294967295 a
theorem fX(a b:Nat):Int.fdiv (a:Int) (b:Int)=((a/b:Nat):Int):=by
 rw[Int.fdiv_eq_ediv_of_nonneg _ aq];exact(Int.natCast_ediv a b).symm
theorem Zl(a n:Nat):Int.fdiv (a:Int) (2 ^ n)=((ej n a:Nat):Int):=by
 have:=fX a (2 ^ n);rw[Int.natCast_pow]at this;exact this
theorem acu(a:Nat):Int.fdiv (a:Int) 8=((ej 3 a:Nat):Int):=fX a 8
theorem Zm(a:Nat):Int.fdiv (a:Int) 1024=((ej 10 a:Nat):Int):=fX a 1024
def cw(l:List Nat):List AV:=l.map fun(x:Nat)=>AV.d (.int .u32 (x:Int))
theorem Ab(l:List Nat):(cw l).length=l.length:=by simp[cw]
theorem mK(l:List Nat)(i:Nat):(cw l)[i]?=(l[i]?).map fun(x:Nat)=>AV.d (.int .u32 (x:Int)):=by simp[cw]
theorem EX(l:List Nat)(i x:Nat):(cw l).set i (.d (.int .u32 (x:Int)))=cw (l.set i x):=by simp[cw,List.map_set]
theorem LA(ρ:Nat→Nat):∀l:List Nat,AV.renL ρ (cw l)=cw l
 |[]=>by simp[cw,AV.renL]
 |x::r=>by
  have:=LA ρ r;simp only[cw]at this;simp only[cw,List.map_cons,AV.renL,AV.ren,this]
def nb(a:List Nat):DV:=.ro 1 (a.map fun(b:Nat)=>[.int .u8 (b:Int)])
structure S8 where
 a:Nat
 b:Nat
 c:Nat
 d:Nat
 e:Nat
 f:Nat
 g:Nat
 h:Nat
def S8.l(s:S8):List Nat:=[s.a,s.b,s.c,s.d,s.e,s.f,s.g,s.h]
def T1(s:S8)(k w:Nat):Nat:=lT (lT (lT (lT s.h (nO (nO (pY 26 s.e) (pY 21 s.e)) (pY 7 s.e))) (nO (B7 s.e s.f) (B7 (c32 s.e) s.g))) k) w
def T2(s:S8):Nat:=lT (nO (nO (pY 30 s.a) (pY 19 s.a)) (pY 10 s.a)) (nO (nO (B7 s.a s.b) (B7 s.a s.c)) (B7 s.b s.c))
def rd(s:S8)(k w:Nat):S8:=⟨lT (T1 s k w) (T2 s),s.a,s.b,s.c,lT s.d (T1 s k w),s.e,s.f,s.g⟩
def G2(s:S8)(p:Nat×Nat):S8:=rd s p.1 p.2
section
variable {α β:Type} (f:β→α→β)
def pO(t:Nat)(l:List α)(s:β):β:=(l.drop t).foldl f s
theorem vD{l:List α}{p:α}{s:β}{t:Nat}(h:l[t]?=some p):pO f t l s=pO f (t+1) l (f s p):=by
 obtain⟨a,b⟩:=ci.1 h;unfold pO;rw[List.drop_eq_getElem_cons a,List.foldl_cons,b]
theorem yo{l:List α}{s:β}{t:Nat}(h:l.length≤t):pO f t l s=s:=by
 unfold pO;rw[c_ h,List.foldl_nil]
end
def EY(b a:List Nat)(s:S8):S8:=pO G2 0 (b.zip a) s
def B9(s v:S8):S8:=⟨lT s.a v.a,lT s.b v.b,lT s.c v.c,lT s.d v.d,lT s.e v.e,lT s.f v.f,lT s.g v.g,lT s.h v.h⟩
def rp(b:List Nat):Nat:=b.foldl (fun x c=>Zh (Zi 8 x) (yn c)) 0
def wx(w:List Nat):Nat :=
 let t:=w.length
 let x:=w.getD (t-15) 0
 let y:=w.getD (t-2) 0
 let s0:=nO (nO (pY 25 x) (pY 14 x)) (ej 3 x)
 let s1:=nO (nO (pY 15 y) (pY 13 y)) (ej 10 y)
 lT (lT (lT (w.getD (t-16) 0) s0) (w.getD (t-7) 0)) s1
def iM(b:List Nat):Nat→List Nat
 |0=>[]
 |n+1=>iM b n++[rp ((b.take (4*n+4)).drop (4*n))]
def dr(b:List Nat):Nat→List Nat
 |0=>iM b 16
 |n+1=>dr b n++[wx (dr b n)]
theorem qa(b:List Nat):∀n,(iM b n).length=n
 |0=>rfl
 |n+1=>by simp[iM,qa b n]
theorem oN(b:List Nat):∀n,(dr b n).length=n+16
 |0=>qa b 16
 |n+1=>by
  have:=oN b n;simp only[dr,b_,this,List.length_singleton]
def ru(b:List Nat):List Nat:=dr b 48
theorem sS(b:List Nat):(ru b).length=64:=oN b 48
def K:List Nat:=[0x428a2f98,0x71374491,0xb5c0fbcf,0xe9b5dba5,0x3956c25b,0x59f111f1,0x923f82a4,0xab1c5ed5]++[0xd807aa98,0x12835b01,0x243185be,0x550c7dc3,0x72be5d74,0x80deb1fe,0x9bdc06a7,0xc19bf174] ++
 [0xe49b69c1,0xefbe4786,0x0fc19dc6,0x240ca1cc,0x2de92c6f,0x4a7484aa,0x5cb0a9dc,0x76f988da]++[0x983e5152,0xa831c66d,0xb00327c8,0xbf597fc7,0xc6e00bf3,0xd5a79147,0x06ca6351,0x14292967] ++
 [0x27b70a85,0x2e1b2138,0x4d2c6dfc,0x53380d13,0x650a7354,0x766a0abb,0x81c2c92e,0x92722c85]++[0xa2bfe8a1,0xa81a664b,0xc24b8b70,0xc76c51a3,0xd192e819,0xd6990624,0xf40e3585,0x106aa070] ++
 [0x19a4c116,0x1e376c08,0x2748774c,0x34b0bcb5,0x391c0cb3,0x4ed8aa4a,0x5b9cca4f,0x682e6ff3]++[0x748f82ee,0x78a5636f,0x84c87814,0x8cc70208,0x90befffa,0xa4506ceb,0xbef9a3f7,0xc67178f2]
def H0:S8:=⟨0x6a09e667,0xbb67ae85,0x3c6ef372,0xa54ff53a,0x510e527f,0x9b05688c,0x1f83d9ab,0x5be0cd19⟩
def take(s:S8)(b:List Nat):S8:=B9 s (EY K (ru b) s)
def tO:Nat→S8→List Nat→S8×List Nat
 |0,s,b=>(s,b)
 |n+1,s,b=>if 64≤b.length then tO n (Go.Sha.take s (b.take 64)) (b.drop 64)else(s,b)
def Ac(x:Nat):Nat→List Nat
 |0=>[]
 |k+1=>Ac x k++[t8 (ej (24-8*k) x)]
theorem uv(x:Nat):∀k,(Ac x k).length=k
 |0=>rfl
 |k+1=>by simp[Ac,uv x k]
def pre(l:List Nat):Nat→List Nat
 |0=>[]
 |i+1=>pre l i++Ac (l.getD i 0) 4
theorem oO(l:List Nat):∀i,(pre l i).length=4*i
 |0=>rfl
 |i+1=>by simp[pre,oO l i,uv];omega
def IP(s:S8):List Nat:=pre s.l 8
end Go.Sha
namespace Go.Proofs.YtmfnimjnneflnaaGreat
open Go.Am Go.Sha
def z64:List Nat:=List.replicate 64 0
theorem Qp:z64.length=64:=rfl
@[go_sem] theorem ad9:fK Tryz.prog 211=some (cw z64):=by kernel_rfl
attribute [go_sem] Qp Ab
def cb(l:List Nat):List AV:=l.map fun(x:Nat)=>AV.d (.int .u8 (x:Int))
theorem aj(l:List Nat):(cb l).length=l.length:=by simp[cb]
theorem EZ(l:List Nat)(i:Nat):(cb l)[i]?=(l[i]?).map fun(x:Nat)=>AV.d (.int .u8 (x:Int)):=by simp[cb]
theorem E0(l:List Nat)(i x:Nat):(cb l).set i (.d (.int .u8 (x:Int)))=cb (l.set i x):=by simp[cb,List.map_set]
theorem aE(n:Nat)(l:List Nat):∀v,v∈cb l→v.low1 n:=by
 intro c hc;simp only[cb,List.mem_map]at hc;obtain⟨x,_,rfl⟩:=hc;trivial
theorem aW(l:List Nat):∀c,c∈cb l→c.deep1:=by
 intro c hc;simp only[cb,List.mem_map]at hc;obtain⟨x,_,rfl⟩:=hc;trivial
def z32:List Nat:=List.replicate 32 0
theorem Qq:z32.length=32:=rfl
@[go_sem] theorem aea:fK Tryz.prog 29=some (cb z32):=by kernel_rfl
attribute [go_sem] Qq aj
theorem VH:GG Tryz.prog 113=true:=by kernel_rfl
attribute [go_sem] VH
theorem gw(x s:Nat)(k:Int)(e:bits .and .u64 (IntKind.u64.wrap k) 31=(s:Int))(g:s≤31) :
  ap Tryz.prog 148 [.d (.int .u32 (x:Int)),.d (.int .i64 k)] (fun r=>r=.d (.int .u32 ((pY s x:Nat):Int))):=by
 refine bz Tryz.func148 Tryz.ntmps148 (rs:=[.tmp 4]) a9 ?_;have c:IntKind.u64.wrap (32-(s:Int))=((32-s:Nat):Int):=by rw[ij];omega
 have a:min s 32=s:=aq;have b:min (32-s) 32=32-s:=aq;simp[go_sem,e,c,a,b,IntKind.bits,ai];refine ae a9 ?_;rw[Zj,Zl,Zk];rfl
theorem IQ:ap Tryz.prog 104 [] (fun r=>r=.agg (cw H0.l)):=by
 refine bz Tryz.func104 Tryz.ntmps104 (rs:=[.cell 0 164]) a9 ?_;simp[go_sem,ai,lU];exact ae a9 rfl
theorem Qr(l:List Nat):∀c,c∈cw l→c.deep1:=by
 intro c hc;simp only[cw,List.mem_map]at hc;obtain⟨x,_,rfl⟩:=hc;trivial
theorem Cb:ap Tryz.prog 147 [] (fun r=>r=.agg (cw K)):=by
 refine bz Tryz.func147 Tryz.ntmps147 (rs:=[.cell 0 211]) a9 ?_;have a:fK Tryz.prog 211=some (List.replicate 64 (.d (.int .u32 0))):=by kernel_rfl
 simp[go_sem,ai,a];exact ae a9 rfl
theorem bg{α:Type}{l:List α}{k:Nat}(h:k<l.length):∃c,l[k]?=some c∧l.drop k=c::l.drop (k+1) :=
 ⟨l[k],cm h,List.drop_eq_getElem_cons h⟩
theorem az{k:Nat}(h:k<4611686018427387904):IntKind.i64.wrap ((k:Int)+1)=((k+1:Nat):Int):=by
 rw[IntWalk.i64_in _ aq];omega
theorem acv{n:Nat}(h:n<4611686018427387904):IntKind.i64.wrap (n:Int)=(n:Int):=IntWalk.i64_in _ aq
theorem c8(n:Nat)(l:List Nat):∀v,v∈cw l→v.low1 n:=by
 intro c hc;simp only[cw,List.mem_map]at hc;obtain⟨x,_,rfl⟩:=hc;trivial
def ji(w:List Nat):List Nat:=w++List.replicate (64-w.length) 0
theorem Cc{w:List Nat}(h:w.length≤64):(ji w).length=64:=by simp[ji];omega
theorem Cd{w:List Nat}{i:Nat}(h:i<w.length):(ji w)[i]?=some w[i]:=by
 unfold ji;rw[List.getElem?_append_left h,cm h]
theorem vE{w:List Nat}{x:Nat}(h:w.length<64):(ji w).set w.length x=ji (w++[x]):=by
 unfold ji;rw[List.set_append_right _ _ (cL _),Nat.sub_self];obtain⟨k,a⟩:∃k,64-w.length=k+1:=⟨63-w.length,aq⟩;rw[a,List.replicate_succ,List.set_cons_zero,cA];simp only[b_,List.length_singleton,List.singleton_append];rw[show 64-(w.length+1)=k by omega]
theorem IR{w:List Nat}{x y:Nat}(h:w.length<64):(ji (w++[x])).set w.length y=ji (w++[y]):=by
 rw[←vE h,←vE h,List.set_set]
theorem LC{w:List Nat}{x:Nat}(h:w.length<64):(ji (w++[x]))[w.length]?=some x:=by
 rw[Cd aw];simp
theorem IS{w:List Nat}(h:w.length<64):ji (w++[0])=ji w:=by
 unfold ji;obtain⟨k,a⟩:∃k,64-w.length=k+1:=⟨63-w.length,aq⟩;rw[a,List.replicate_succ,cA];simp only[b_,List.length_singleton,List.singleton_append];rw[show 64-(w.length+1)=k by omega]
theorem IT(q:List Nat){j c:Nat}(h:q[j]?=some c):rp (q.take (j+1))=Zh (Zi 8 (rp (q.take j))) (yn c):=by
 unfold rp;rw[List.take_add_one,h,List.foldl_append];rfl
theorem yp(b:List Nat)(hb:b.length=64):ap Tryz.prog 146 [.d (nb b)] (fun r=>r=.agg (cw (ru b))):=by
 refine bz Tryz.func146 Tryz.ntmps146 (rs:=[.cell 2 211]) a9 ?_;simp only[go_sem,Nat.reduceEqDiff,Nat.reduceAdd,Nat.reduceLT,↓reduceIte,Nat.reduceMul,List.length_replicate]
 refine au (fun t:Nat=>⟨[(0,.d (nb b)),(2,.ptr 0 0 0 1),(3,.ptr 32 0 0 1),(12,.d (.int .i64 t))],[(32,⟨211,64,[cw (ji (iM b t))]⟩),(0,⟨211,64,[cw z64]⟩)],96⟩)
  (fun t=>t≤16) (fun t=>16-t) 0 aq (by
   simp[av,ah,fv,lk,AV.low,AV.low1]
   refine⟨⟨rfl,c8 _ _⟩,c8 _ _⟩) ?_
 intro t W;have m:=qa b t;have M:IntKind.i64.wrap (4*(t:Int))=((4*t:Nat):Int):=by rw[IntWalk.i64_in _ aq];omega
 have X:IntKind.i64.wrap (((4*t:Nat):Int)+4)=((4*t+4:Nat):Int):=by rw[IntWalk.i64_in _ aq];omega
 simp only[go_sem,Nat.reduceEqDiff,Nat.reduceAdd,Nat.reduceLT,↓reduceIte];refine⟨fun h=>?_,fun h=>?_⟩
 ·have J:((b.take (4*t+4)).drop (4*t)).length=4:=by simp;omega
  have H:((b.map fun(b:Nat)=>[DV.int .u8 (b:Int)]).take (4*t+4)).drop (4*t)=((b.take (4*t+4)).drop (4*t)).map fun(b:Nat)=>[DV.int .u8 (b:Int)]:=by simp[List.map_drop,List.map_take]
  simp only[go_sem,Nat.reduceEqDiff,Nat.reduceAdd,Nat.reduceLT,↓reduceIte,M,X,nb,Int.toNat_natCast,H,List.length_map,J];refine⟨aq,aq,?_⟩
  refine au (fun j:Nat=>⟨[(0,.d (nb b)),(2,.ptr 0 0 0 1),(3,.ptr 32 0 0 1),(12,.d (.int .i64 t)),(4,.d (.int .i64 t)),(21,.d (nb ((b.take (4*t+4)).drop (4*t)))),(22,.d (.int .i64 (4:Nat))),(23,.d (.int .i64 j))],
    [(32,⟨211,64,[cw (ji (iM b t++[rp (((b.take (4*t+4)).drop (4*t)).take j)]))]⟩),(0,⟨211,64,[cw z64]⟩)],480⟩)
   (fun j=>j≤4) (fun j=>4-j) 0 aq (by
    simp[av,ah,fv,lk,AV.low,AV.low1,nb,List.map_drop,List.map_take]
    exact⟨⟨by rw[show rp []=0 from rfl,IS aq],c8 _ _⟩,c8 _ _⟩) ?_
  intro j hj;simp only[go_sem,Nat.reduceEqDiff,Nat.reduceAdd,Nat.reduceLT,↓reduceIte];refine⟨fun Q=>?_,fun Q=>?_⟩
  ·obtain⟨c,hc,_⟩:=bg (l:=(b.take (4*t+4)).drop (4*t)) (k:=j) aq;have O:(ji (iM b t++[rp (((b.take (4*t+4)).drop (4*t)).take j)]))[t]?=some (rp (((b.take (4*t+4)).drop (4*t)).take j)):=by
    have:=LC (w:=iM b t) (x:=rp (((b.take (4*t+4)).drop (4*t)).take j)) aq;rw[m]at this;exact this
   have E:∀y,(ji (iM b t++[rp (((b.take (4*t+4)).drop (4*t)).take j)])).set t y=ji (iM b t++[y]):=by
    intro y;have:=IR (w:=iM b t) (x:=rp (((b.take (4*t+4)).drop (4*t)).take j)) (y:=y) aq;rw[m]at this;exact this
   have o:=acv (n:=j+1) aq;have V:(ji (iM b t++[rp (((b.take (4*t+4)).drop (4*t)).take j)])).length=64:=Cc (by simp;omega);generalize Z:(b.take (4*t+4)).drop (4*t)=q at *;simp[go_sem,nb,hc,mK,O,IntKind.bits,acs,B8,Zk,EX,E,V,m];refine⟨aq,aq,?_⟩;have o:=az (k:=j) aq;rw[o];refine am (j+1) aq aq ?_;simp[av,ah,fv,lk,AV.low,AV.low1,IT q hc];exact⟨c8 _ _,c8 _ _⟩
  ·have F:j=4:=aq;subst F;have o:=az (k:=t) aq;rw[o];refine am (t+1) aq aq ?_;have a:rp (((b.take (4*t+4)).drop (4*t)).take 4)=rp ((b.take (4*t+4)).drop (4*t)):=(by rw[cx aq]);simp[av,ah,fv,lk,AV.low,AV.low1,iM];exact⟨rfl,⟨by rw[a],c8 _ _⟩,c8 _ _⟩
 ·have A:t=16:=aq;subst A;refine au (fun t:Nat=>⟨[(2,.ptr 0 0 0 1),(3,.ptr 32 0 0 1),(7,.d (.int .i64 ((t+16:Nat):Int)))],[(32,⟨211,64,[cw (ji (dr b t))]⟩),(0,⟨211,64,[cw z64]⟩)],128⟩)
   (fun t=>t≤48) (fun t=>48-t) 0 aq (by
    simp[av,ah,fv,lk,AV.low,AV.low1,dr]
    exact⟨c8 _ _,c8 _ _⟩) ?_
  intro t W;have m:=oN b t;simp only[go_sem,Nat.reduceEqDiff,Nat.reduceAdd,Nat.reduceLT,↓reduceIte];refine⟨fun h=>?_,fun h=>?_⟩
  ·have N:IntKind.i64.wrap (((t+16:Nat):Int)-15)=((t+16-15:Nat):Int):=by rw[IntWalk.i64_in _ aq];omega
   have i2:IntKind.i64.wrap (((t+16:Nat):Int)-2)=((t+16-2:Nat):Int):=by rw[IntWalk.i64_in _ aq];omega
   have i3:IntKind.i64.wrap (((t+16:Nat):Int)-16)=((t+16-16:Nat):Int):=by rw[IntWalk.i64_in _ aq];omega
   have U:IntKind.i64.wrap (((t+16:Nat):Int)-7)=((t+16-7:Nat):Int):=by rw[IntWalk.i64_in _ aq];omega
   have D:∀i,i<t+16→(ji (dr b t))[i]?=some ((dr b t).getD i 0):=by
    intro i Y;rw[Cd aq,cR,cm aq];rfl
   have o:=az (k:=t+16) aq;generalize P:t+16=T at *;apply Ln (0::1::2::3::4::5::6::7::8::9::[]) ([]) 0 (k:=10) (by kernel_rfl) (by kernel_rfl) rfl
   case hz=>repeat (first|exact Its.nil|apply Its.plain rfl|apply Its.guard rfl rfl)
   case hj=>exact Jts.nil
   intro G I;have C:=D (T-15) aq;have E:=D (T-2) aq;have B:=D (T-16) aq;have L:=D (T-7) aq;have e:wx (dr b t)=lT (lT (lT ((dr b t).getD (T-16) 0) (nO (nO (pY 25 ((dr b t).getD (T-15) 0)) (pY 14 ((dr b t).getD (T-15) 0))) (ej 3 ((dr b t).getD (T-15) 0)))) ((dr b t).getD (T-7) 0)) (nO (nO (pY 15 ((dr b t).getD (T-2) 0)) (pY 13 ((dr b t).getD (T-2) 0))) (ej 10 ((dr b t).getD (T-2) 0))):=by
    unfold wx;rw[m]
   generalize(dr b t).getD (T-15) 0=x at C e;generalize(dr b t).getD (T-2) 0=y at E e;generalize(dr b t).getD (T-16) 0=u at B e;generalize(dr b t).getD (T-7) 0=v at L e;simp[go_sem,N,i2,mK,C,E];refine⟨aq,aq,I _ _ ?_⟩;simp only[go_sem,Nat.reduceEqDiff,Nat.reduceAdd,Nat.reduceLT,↓reduceIte,Nat.reduceMul];refine ag (gw x 25 (-7) (by decide) aq) a9 ?_;simp only[go_sem,Nat.reduceEqDiff,Nat.reduceAdd,Nat.reduceLT,↓reduceIte];refine ag (gw x 14 (-18) (by decide) aq) a9 ?_;simp[go_sem,iL,IntKind.bits,acu];refine ag (gw y 15 (-17) (by decide) aq) a9 ?_;simp only[go_sem,Nat.reduceEqDiff,Nat.reduceAdd,Nat.reduceLT,↓reduceIte];refine ag (gw y 13 (-19) (by decide) aq) a9 ?_;simp[go_sem,iL,IntKind.bits,Zm];apply Ln (0::1::2::3::4::5::6::7::8::9::10::11::12::13::14::[]) ((15,([]))::[]) 0 (k:=16) (by kernel_rfl) (by kernel_rfl) rfl
   case hz=>repeat (first|exact Its.nil|apply Its.plain rfl|apply Its.guard rfl rfl)
   case hj=>exact Jts.plain rfl Its.nil Jts.nil
   intro G I;have g:(ji (dr b t)).set T (wx (dr b t))=ji (dr b (t+1)):=by
    have:=vE (w:=dr b t) (x:=wx (dr b t)) aq;rw[m]at this;exact this
   rw[e]at g;have p:(ji (dr b t)).length=64:=Cc aq;simp[go_sem,i3,U,mK,B,L,gC,EX,g,p];refine⟨aq,aq,aq,aq,I _ _ ?_⟩;simp[go_sem,o];refine am (t+1) aq aq ?_;subst P;simp[av,ah,fv,lk,AV.low,AV.low1];exact⟨aq,c8 _ _,c8 _ _⟩
  ·have z:t=48:=aq;subst z;have a:ji (dr b 48)=ru b:=by
    have R:∀w:List Nat,w.length=64→ji w=w:=fun w S=>by unfold ji;rw[S,Nat.sub_self,List.replicate_zero,List.append_nil]
    exact R _ m
   rw[a];have s:=sS b;generalize ru b=sb at s;have K:(cw sb).take 64=cw sb:=cx (by rw[Ab];omega);simp[go_sem,ai,s,K];exact ae (by simp[AV.deep];exact Qr _) rfl
def dI(s:S8):List AV:=[.d (.int .u32 (s.a:Int)),.d (.int .u32 (s.b:Int)),.d (.int .u32 (s.c:Int)),.d (.int .u32 (s.d:Int)),.d (.int .u32 (s.e:Int)),.d (.int .u32 (s.f:Int)),.d (.int .u32 (s.g:Int)),.d (.int .u32 (s.h:Int))]
theorem sT(s:S8):dI s=cw s.l:=rfl
theorem yq:K.length=64:=rfl
def iN(s v:S8)(i:Nat):List Nat:=(List.zipWith lT s.l v.l).take i++s.l.drop i
theorem Ce(s v:S8){i:Nat}(h:i≤8):(iN s v i).length=8:=by simp[iN,S8.l];omega
theorem yr(s v:S8):iN s v 0=s.l:=by simp[iN]
theorem Cf(s v:S8):iN s v 8=(B9 s v).l:=by simp[iN,S8.l,B9]
theorem yt(s v:S8){i:Nat}(h:i<8):∃x y,v.l[i]?=some y∧(iN s v i)[i]?=some x∧(iN s v i).set i (lT x y)=iN s v (i+1):=by
 rcases(by omega:i=0∨i=1∨i=2∨i=3∨i=4∨i=5∨i=6∨i=7)with rfl|rfl|rfl|rfl|rfl|rfl|rfl|rfl;exact⟨s.a,v.a,by simp[S8.l],by simp[iN,S8.l],by simp[iN,S8.l]⟩;exact⟨s.b,v.b,by simp[S8.l],by simp[iN,S8.l],by simp[iN,S8.l]⟩;exact⟨s.c,v.c,by simp[S8.l],by simp[iN,S8.l],by simp[iN,S8.l]⟩;exact⟨s.d,v.d,by simp[S8.l],by simp[iN,S8.l],by simp[iN,S8.l]⟩;exact⟨s.e,v.e,by simp[S8.l],by simp[iN,S8.l],by simp[iN,S8.l]⟩;exact⟨s.f,v.f,by simp[S8.l],by simp[iN,S8.l],by simp[iN,S8.l]⟩;exact⟨s.g,v.g,by simp[S8.l],by simp[iN,S8.l],by simp[iN,S8.l]⟩;exact⟨s.h,v.h,by simp[S8.l],by simp[iN,S8.l],by simp[iN,S8.l]⟩
theorem G3{l:List Nat}{tail:List AV}{i x:Nat}(h:l[i]?=some x):(cw l++tail)[i]?=some (.d (.int .u32 (x:Int))):=by
 have a:i<(cw l).length:=by rw[Ab];exact(ci.1 h).1
 rw[List.getElem?_append_left a,mK,h];rfl
theorem G4{l:List Nat}{tail:List AV}{i x:Nat}(h:i<l.length):(cw l++tail).set i (.d (.int .u32 (x:Int)))=cw (l.set i x)++tail:=by
 rw[List.set_append_left _ _ (by rw[Ab];exact h),EX]
theorem TL:(if IntKind.u32.signed=true then -1 else IntKind.u32.max)=(4294967295:Int):=by decide
theorem uw(ty:TypeId)(e:Nat)(s:S8)(tail:List AV)(b:List Nat)(P:b.length=64)(j:∀n,∀v,v∈tail→v.low1 n) :
  c7 Tryz.prog 105 1 [(0,⟨ty,e,[dI s++tail]⟩)] [.ptr 0 0 0 1,.d (nb b)] (fun r D=>r=.tup []∧lk 0 D=some ⟨ty,e,[dI (take s b)++tail]⟩):=by
 refine aB Tryz.func105 (by kernel_rfl) rfl Tryz.ntmps105 (rs:=[]) rfl (fD rfl) (by decide) ?_;simp only[go_sem,Nat.reduceEqDiff,Nat.reduceAdd,Nat.reduceLT,↓reduceIte,Nat.reduceMul];refine ag (yp b P) a9 ?_;simp only[go_sem,Nat.reduceEqDiff,Nat.reduceAdd,Nat.reduceLT,↓reduceIte,Nat.reduceMul];refine ag Cb a9 ?_;have u:=sS b;have M:(K.zip (ru b)).length=64:=by rw[List.length_zip,u,yq];rfl
 unfold Go.Sha.take EY;generalize ru b=ws at *;have A:(cw z64).drop 64=[]:=rfl;generalize o:pO G2 0 (K.zip ws) s=R;simp[go_sem,yq,u,dI,A]
 refine au (fun t:Nat×S8=>⟨[(0,.ptr 0 0 0 1),(4,.ptr 98 0 0 1),(5,.ptr 130 0 0 1),(6,.ptr 322 0 0 1),(19,.d (.int .i64 t.1))],
   [(322,⟨164,8,[dI t.2]⟩),(130,⟨211,64,[cw K]⟩),(98,⟨211,64,[cw ws]⟩),(0,⟨ty,e,[dI s++tail]⟩)],418⟩)
  (fun t=>t.1≤64∧pO G2 t.1 (K.zip ws) t.2=R) (fun t=>64-t.1) (0,s) ⟨aq,o⟩ (by
   simp[av,ah,fv,lk,AV.low,AV.low1,dI]
   exact⟨c8 _ _,c8 _ _,fun v m=>j _ v m⟩) ?_
 clear o;rintro⟨t,v⟩⟨S,o⟩;simp only at S o;simp only[go_sem,Nat.reduceEqDiff,Nat.reduceAdd,Nat.reduceLT,↓reduceIte];refine⟨fun h=>?_,fun h=>?_⟩
 ·obtain⟨k,J,_⟩:=bg (l:=K) (k:=t) (by rw[yq];omega);obtain⟨w,L,_⟩:=bg (l:=ws) (k:=t) aq;have Q:(K.zip ws)[t]?=some (k,w):=by rw[List.getElem?_zip_eq_some];exact⟨J,L⟩
  rw[vD G2 Q]at o;simp only[go_sem,Nat.reduceEqDiff,Nat.reduceAdd,Nat.reduceLT,↓reduceIte,dI];simp[go_sem];refine cG [0,1,2,4,7,11,12,13,14,15,16,17,18,19,20,22,23,24,26,27,28] [(3,[]),(5,[6]),(8,[9,10,21,25,29,30])] 3 (k:=31) ?_;intro G p;simp[go_sem,mK,J,L,iL,j8,TL,TJ,gC];refine⟨aq,?_⟩;refine ag (gw v.e 26 (-6) (by decide) aq) a9 ?_;simp[go_sem,iL,j8,gC];refine ag (gw v.e 21 (-11) (by decide) aq) a9 ?_;simp[go_sem,iL,j8,gC];refine ag (gw v.e 7 (-25) (by decide) aq) a9 ?_;simp[go_sem,iL,j8,gC];have E:lT (lT (lT (lT v.h (nO (nO (pY 26 v.e) (pY 21 v.e)) (pY 7 v.e))) (nO (B7 v.e v.f) (B7 (c32 v.e) v.g))) k) w=T1 v k w:=by unfold T1;with_reducible rfl
  rw[E];refine p _ _ ?_;clear p G;simp[go_sem];refine cG [0,2,5,8,9,10,11,12,13,14,15,16,17,18,19,20,21,22] [(1,[]),(3,[4]),(6,[7,23,24])] 3 (k:=25) ?_;intro G p;simp[go_sem,iL,j8,gC];refine ag (gw v.a 30 (-2) (by decide) aq) a9 ?_;simp[go_sem,iL,j8,gC];refine ag (gw v.a 19 (-13) (by decide) aq) a9 ?_;simp[go_sem,iL,j8,gC];refine ag (gw v.a 10 (-22) (by decide) aq) a9 ?_;simp[go_sem,iL,j8,gC];have C:lT (nO (nO (pY 30 v.a) (pY 19 v.a)) (pY 10 v.a)) (nO (nO (B7 v.a v.b) (B7 v.a v.c)) (B7 v.b v.c))=T2 v:=by unfold T2;with_reducible rfl
  rw[C];refine p _ _ ?_;clear p G;have I:=az (k:=t) aq;simp[go_sem,gC,lU,I];refine am (t+1,G2 v (k,w)) ⟨by simp only;omega,o⟩ (by simp only;omega) ?_;simp[av,ah,fv,lk,AV.low,AV.low1,dI,G2,rd];exact⟨c8 _ _,c8 _ _,fun v m=>j _ v m⟩
 ·have q:t=64:=aq;subst q;rw[yo G2 aq]at o;subst o;refine au (fun i:Nat=>⟨[(0,.ptr 0 0 0 1),(6,.ptr 322 0 0 1),(101,.d (.int .i64 i))],[(322,⟨164,8,[cw v.l]⟩),(0,⟨ty,e,[cw (iN s v i)++tail]⟩)],482⟩)
   (fun i=>i≤8) (fun i=>8-i) 0 aq (by
    simp[av,ah,fv,lk,AV.low,AV.low1,yr,sT];refine⟨c8 _ _,fun v m=>?_⟩;rcases m with m|m;exact c8 _ _ v m
    exact j _ v m) ?_
  intro i O;simp only[go_sem,Nat.reduceEqDiff,Nat.reduceAdd,Nat.reduceLT,↓reduceIte];refine⟨fun h=>?_,fun h=>?_⟩
  ·obtain⟨x,y,T,N,B⟩:=yt s v (i:=i) aq;have H:=Ce s v O;refine cG [0,1,2,3,4,5,6,7,8,9,10] [(11,[])] 0 (k:=12) ?_;intro G p;have z:=G4 (l:=iN s v i) (tail:=tail) (i:=i) (x:=lT x y) aq;rw[B]at z;simp[go_sem,G3 N,mK,T,gC,z,H];refine⟨aq,aq,p _ _ ?_⟩;have I:=az (k:=i) aq;simp[go_sem,I];refine am (i+1) aq aq ?_;simp[av,ah,fv,lk,AV.low,AV.low1];refine⟨c8 _ _,fun v m=>?_⟩;rcases m with m|m
   exact c8 _ _ v m;exact j _ v m
  ·have F:i=8:=aq;subst F;simp[go_sem,ai,Cf,sT];simp[cw,S8.l]
def rb(L:List Nat):List (List AV):=L.map fun(x:Nat)=>[.d (.int .u8 (x:Int))]
theorem aL(L:List Nat):(rb L).length=L.length:=by simp[rb]
theorem aT(n:Nat)(L:List Nat):∀r,r∈rb L→∀v,v∈r→v.low1 n:=by
 intro r b v a;simp only[rb,List.mem_map]at b;obtain⟨x,_,rfl⟩:=b;simp at a;subst a;trivial
theorem Qs(l:List Nat):∀c,c∈cw l→c.flat1:=by
 intro c hc;simp only[cw,List.mem_map]at hc;obtain⟨x,_,rfl⟩:=hc;trivial
theorem G5{hp:Hp}{I:Nat→Prop}:∀(L:List Nat),RowsR hp I (rb L) (L.map fun(x:Nat)=>[.int .u8 (x:Int)])
 |[]=>.nil
 |x::r=>.cons (.cons (.d _) .nil) (G5 r)
theorem ry{hp:Hp}{I:Nat→Prop}{id i0 n:Nat}{L:List Nat}(b:lk id hp=some ⟨5,1,rb L⟩)(d:I id)(h:i0+n≤L.length):SnapD hp I (.own id i0 n L.length) (nb ((L.drop i0).take n)):=by
 refine j5 b d (aL L) (es:=((L.drop i0).take n).map fun(x:Nat)=>[.int .u8 (x:Int)]) ?_ (by simp;omega) (fun r a=>by
  rw[List.mem_map]at a;obtain⟨c,_,rfl⟩:=a
  rfl)
 have:((rb L).drop i0).take n=rb ((L.drop i0).take n):=by simp[rb,List.map_drop,List.map_take]
 rw[this];exact G5 _
theorem tP(ty:TypeId)(e:Nat)(s:S8)(tail:List AV)(L:List Nat)(i0:Nat)(E:i0+64≤L.length)(j:∀n,∀v,v∈tail→v.low1 n) :
  c7 Tryz.prog 105 2 [(0,⟨ty,e,[dI s++tail]⟩),(1,⟨5,1,rb L⟩)] [.ptr 0 0 0 1,.own 1 i0 64 L.length] (fun r u=>r=.tup []∧lk 0 u=some ⟨ty,e,[dI (take s ((L.drop i0).take 64))++tail]⟩∧lk 1 u=some ⟨5,1,rb L⟩):=by
 refine aB Tryz.func105 (by kernel_rfl) rfl Tryz.ntmps105 (rs:=[]) rfl (fD rfl) (by decide) ?_;simp only[go_sem,Nat.reduceEqDiff,Nat.reduceAdd,Nat.reduceLT,↓reduceIte,Nat.reduceMul];have S:((L.drop i0).take 64).length=64:=by simp;omega
 refine jx (yp ((L.drop i0).take 64) S) rfl (ak (.one (ao (ry rfl trivial E))) aC) (by simp[AV.flat];exact Qs _) ?_;generalize(L.drop i0).take 64=b at *;simp only[go_sem,Nat.reduceEqDiff,Nat.reduceAdd,Nat.reduceLT,↓reduceIte,Nat.reduceMul];refine ag Cb a9 ?_;have z:=sS b;have O:(K.zip (ru b)).length=64:=by rw[List.length_zip,z,yq];rfl
 unfold Go.Sha.take EY;generalize ru b=ws at *;have B:(cw z64).drop 64=[]:=rfl;generalize o:pO G2 0 (K.zip ws) s=R;simp[go_sem,yq,z,dI,B]
 refine au (fun t:Nat×S8=>⟨[(0,.ptr 0 0 0 1),(4,.ptr 99 0 0 1),(5,.ptr 131 0 0 1),(6,.ptr 323 0 0 1),(19,.d (.int .i64 t.1))],
   [(323,⟨164,8,[dI t.2]⟩),(131,⟨211,64,[cw K]⟩),(99,⟨211,64,[cw ws]⟩),(0,⟨ty,e,[dI s++tail]⟩),(1,⟨5,1,rb L⟩)],419⟩)
  (fun t=>t.1≤64∧pO G2 t.1 (K.zip ws) t.2=R) (fun t=>64-t.1) (0,s) ⟨aq,o⟩ (by
   simp[av,ah,fv,lk,AV.low,AV.low1,dI]
   exact⟨c8 _ _,c8 _ _,fun v m=>j _ v m,aT _ _⟩) ?_
 clear o;rintro⟨t,v⟩⟨U,o⟩;simp only at U o;simp only[go_sem,Nat.reduceEqDiff,Nat.reduceAdd,Nat.reduceLT,↓reduceIte];refine⟨fun h=>?_,fun h=>?_⟩
 ·obtain⟨k,M,_⟩:=bg (l:=K) (k:=t) (by rw[yq];omega);obtain⟨w,N,_⟩:=bg (l:=ws) (k:=t) aq;have T:(K.zip ws)[t]?=some (k,w):=by rw[List.getElem?_zip_eq_some];exact⟨M,N⟩
  rw[vD G2 T]at o;simp only[go_sem,Nat.reduceEqDiff,Nat.reduceAdd,Nat.reduceLT,↓reduceIte,dI];simp[go_sem];refine cG [0,1,2,4,7,11,12,13,14,15,16,17,18,19,20,22,23,24,26,27,28] [(3,[]),(5,[6]),(8,[9,10,21,25,29,30])] 3 (k:=31) ?_;intro G p;simp[go_sem,mK,M,N,iL,j8,TL,TJ,gC];refine⟨aq,?_⟩;refine ag (gw v.e 26 (-6) (by decide) aq) a9 ?_;simp[go_sem,iL,j8,gC];refine ag (gw v.e 21 (-11) (by decide) aq) a9 ?_;simp[go_sem,iL,j8,gC];refine ag (gw v.e 7 (-25) (by decide) aq) a9 ?_;simp[go_sem,iL,j8,gC];have F:lT (lT (lT (lT v.h (nO (nO (pY 26 v.e) (pY 21 v.e)) (pY 7 v.e))) (nO (B7 v.e v.f) (B7 (c32 v.e) v.g))) k) w=T1 v k w:=by unfold T1;with_reducible rfl
  rw[F];refine p _ _ ?_;clear p G;simp[go_sem];refine cG [0,2,5,8,9,10,11,12,13,14,15,16,17,18,19,20,21,22] [(1,[]),(3,[4]),(6,[7,23,24])] 3 (k:=25) ?_;intro G p;simp[go_sem,iL,j8,gC];refine ag (gw v.a 30 (-2) (by decide) aq) a9 ?_;simp[go_sem,iL,j8,gC];refine ag (gw v.a 19 (-13) (by decide) aq) a9 ?_;simp[go_sem,iL,j8,gC];refine ag (gw v.a 10 (-22) (by decide) aq) a9 ?_;simp[go_sem,iL,j8,gC];have D:lT (nO (nO (pY 30 v.a) (pY 19 v.a)) (pY 10 v.a)) (nO (nO (B7 v.a v.b) (B7 v.a v.c)) (B7 v.b v.c))=T2 v:=by unfold T2;with_reducible rfl
  rw[D];refine p _ _ ?_;clear p G;have J:=az (k:=t) aq;simp[go_sem,gC,lU,J];refine am (t+1,G2 v (k,w)) ⟨by simp only;omega,o⟩ (by simp only;omega) ?_;simp[av,ah,fv,lk,AV.low,AV.low1,dI,G2,rd];exact⟨c8 _ _,c8 _ _,fun v m=>j _ v m,aT _ _⟩
 ·have q:t=64:=aq;subst q;rw[yo G2 aq]at o;subst o;refine au (fun i:Nat=>⟨[(0,.ptr 0 0 0 1),(6,.ptr 323 0 0 1),(101,.d (.int .i64 i))],[(323,⟨164,8,[cw v.l]⟩),(0,⟨ty,e,[cw (iN s v i)++tail]⟩),(1,⟨5,1,rb L⟩)],483⟩)
   (fun i=>i≤8) (fun i=>8-i) 0 aq (by
    simp[av,ah,fv,lk,AV.low,AV.low1,yr,sT];refine⟨c8 _ _,fun v m=>?_,aT _ _⟩;rcases m with m|m;exact c8 _ _ v m
    exact j _ v m) ?_
  intro i Q;simp only[go_sem,Nat.reduceEqDiff,Nat.reduceAdd,Nat.reduceLT,↓reduceIte];refine⟨fun h=>?_,fun h=>?_⟩
  ·obtain⟨x,y,V,P,C⟩:=yt s v (i:=i) aq;have I:=Ce s v Q;refine cG [0,1,2,3,4,5,6,7,8,9,10] [(11,[])] 0 (k:=12) ?_;intro G p;have A:=G4 (l:=iN s v i) (tail:=tail) (i:=i) (x:=lT x y) aq;rw[C]at A;simp[go_sem,G3 P,mK,V,gC,A,I];refine⟨aq,aq,p _ _ ?_⟩;have J:=az (k:=i) aq;simp[go_sem,J];refine am (i+1) aq aq ?_;simp[av,ah,fv,lk,AV.low,AV.low1];refine⟨c8 _ _,fun v m=>?_,aT _ _⟩;rcases m with m|m
   exact c8 _ _ v m;exact j _ v m
  ·have H:i=8:=aq;subst H;simp[go_sem,ai,Cf,sT];simp[cw,S8.l]
theorem nP:c7 Tryz.prog 57 0 [] [] (fun r a=>r=.ptr 97 0 0 1∧lk 97 a=some ⟨167,10,[dI H0++[.nil,.d (.int .u64 0)]]⟩):=by
 refine aB Tryz.func57 (by kernel_rfl) rfl Tryz.ntmps57 (rs:=[.tmp 0]) rfl (fD rfl) (by decide) ?_;simp only[go_sem,Nat.reduceEqDiff,Nat.reduceAdd,Nat.reduceLT,↓reduceIte,Nat.reduceMul];refine ag IQ a9 ?_;simp[go_sem,ai,lU,jJ,←sT,dI]
theorem oP{β:Type}(f:β→List DV)(b:List β){P:Program}{el:TypeId}{e:Nat}{es:List (List DV)}{nx:Nat}{a:AV→Hp→Prop}{hp:Hp}:fL P el (.d (.rof e es)) (some (List.map ((fun r=>List.map AV.d r)∘f) b)) nx a hp=(e=P.cellsOf el∧(fK P el).isSome=true∧P.bytesOf el≠0∧(es.length+b.length)*P.bytesOf el≤140737488355328∧zT (a (.d (.ro e (es++b.map f))) hp) (b.map f≠[]∧a (.own nx 0 (es.length+b.length) (es.length+b.length)) ((nx,⟨el,P.cellsOf el,es.map (fun r=>r.map AV.d)++List.map ((fun r=>List.map AV.d r)∘f) b⟩)::hp))):=by
 have:=BX (P:=P) (K:=a) (hp:=hp) (nx:=nx) el e es (b.map f);rw[List.map_map,List.length_map]at this;exact this
theorem lH{α β:Type}(f:α→β)(l:List α):(l.map f).take l.length=l.map f:=by
 rw[cx aw]
theorem eat_none(k:Nat)(s:S8)(b:List Nat)(h:b.length<64):tO k s b=(s,b):=by
 cases k with
 |zero=>rfl
 |succ k=>simp[tO];omega
theorem eat_more{k:Nat}{s:S8}{b:List Nat}(h:64≤b.length)(a:b.length≤k):tO k s b=tO (k-1) (Go.Sha.take s (b.take 64)) (b.drop 64):=by
 obtain⟨j,rfl⟩:∃j,k=j+1:=⟨k-1,aq⟩;rw[tO,if_pos h];rfl
theorem LD(s:S8)(R:AV)(rest b:List Nat)(n:Int)(v:R=.d (nb rest)∨(R=.nil∧rest=[]))(o:rest.length+b.length≤1000000000000) :
  c7 Tryz.prog 58 1 [(0,⟨167,10,[dI s++[R,.d (.int .u64 n)]]⟩)] [.ptr 0 0 0 1,.d (nb b)]
   (fun r e=>r=.tup []∧lk 0 e=some ⟨167,10,[dI (tO ((rest++b).length) s (rest++b)).1++[.d (nb (tO ((rest++b).length) s (rest++b)).2),.d (.int .u64 (IntKind.u64.wrap (n+(IntKind.u64.wrap (b.length:Int)))))]]⟩):=by
 refine aB Tryz.func58 (by kernel_rfl) rfl Tryz.ntmps58 (rs:=[]) rfl (fD rfl) (by decide) ?_;generalize l:IntKind.u64.wrap (n+(IntKind.u64.wrap (b.length:Int)))=n';generalize m:tO ((rest++b).length) s (rest++b)=E;rcases v with rfl|⟨rfl,rfl⟩
 ·simp[go_sem,nb,dI,l];refine cG [0,1,2,3,4,5,6,7,8,9,10,11,12,13,14,15,16] [(17,[18,19]),(20,[])] 1 (k:=21) ?_;intro G c;simp[go_sem,lH,oP];refine⟨by have:=o;simp only[b_,List.length_nil]at *;omega,.inl (c _ _ ?_)⟩;clear c G
  refine au (fun t:S8×List Nat=>⟨[(0,.ptr 0 0 0 1)],[(0,⟨167,10,[dI t.1++[.d (nb t.2),.d (.int .u64 n')]]⟩)],1090⟩)
   (fun t=>t.2.length≤1000000000000∧∃k,t.2.length≤k∧tO k t.1 t.2=E) (fun t=>t.2.length) (s,rest++b) ⟨by have:=o;simp only[b_,List.length_nil]at *;omega,_,cL _,m⟩ (by
    simp[av,ah,fv,lk,AV.low,AV.low1,nb,dI]) ?_
  rintro⟨i,q⟩⟨p,k,j,a⟩;simp only at p j a;simp only[go_sem,Nat.reduceEqDiff,Nat.reduceAdd,Nat.reduceLT,↓reduceIte,dI,nb,List.length_map];refine⟨fun h=>?_,fun h=>?_⟩
  ·have g:64≤q.length:=aq;rw[eat_more g j]at a;refine cG [0,1,2,3,4,5,6,7] [(8,[])] 0 (k:=9) ?_;intro G c;simp[go_sem];refine⟨aq,?_⟩;refine aZ [(0,0)] (uw 167 10 i [.d (nb q),.d (.int .u64 n')] (q.take 64) (by simp;omega) (by simp[AV.low1])) rfl aw (by simp[lk]) (by simp[lk,Blk.ren,aS,AV.renL,AV.ren,bX,iy,dI,nb]) (by simp[AV.renL,AV.ren,bX,iy,lk,nb,List.map_take]) ?_;rintro r e⟨rfl,u⟩;refine⟨[],rfl,?_⟩;simp[go_sem,bZ,bF,u,Blk.ren,aS,AV.renL,AV.ren,bX,dI];refine c _ _ ?_;clear c G;simp[go_sem,nb];refine⟨aq,?_⟩;refine am (Go.Sha.take i (q.take 64),q.drop 64) ⟨by simp only[et];omega,k-1,by simp only[et];omega,a⟩ (by simp only[et];omega) ?_;simp[av,ah,fv,lk,AV.low,AV.low1,nb,dI,List.map_drop,lH]
  ·rw[eat_none k i q aq]at a;subst a;rfl
 ·simp[go_sem,nb,dI,l];refine cG [0,1,2,3,4,5,6,7,8,9,10,11,12,13,14,15,16] [(17,[18,19]),(20,[])] 1 (k:=21) ?_;intro G c;simp[go_sem,lH,oP];refine⟨by have:=o;simp only[b_,List.length_nil]at *;omega,.inl (c _ _ ?_)⟩;clear c G
  refine au (fun t:S8×List Nat=>⟨[(0,.ptr 0 0 0 1)],[(0,⟨167,10,[dI t.1++[.d (nb t.2),.d (.int .u64 n')]]⟩)],1090⟩)
   (fun t=>t.2.length≤1000000000000∧∃k,t.2.length≤k∧tO k t.1 t.2=E) (fun t=>t.2.length) (s,[]++b) ⟨by have:=o;simp only[b_,List.length_nil]at *;omega,_,cL _,m⟩ (by
    simp[av,ah,fv,lk,AV.low,AV.low1,nb,dI]) ?_
  rintro⟨i,q⟩⟨p,k,j,a⟩;simp only at p j a;simp only[go_sem,Nat.reduceEqDiff,Nat.reduceAdd,Nat.reduceLT,↓reduceIte,dI,nb,List.length_map];refine⟨fun h=>?_,fun h=>?_⟩
  ·have g:64≤q.length:=aq;rw[eat_more g j]at a;refine cG [0,1,2,3,4,5,6,7] [(8,[])] 0 (k:=9) ?_;intro G c;simp[go_sem];refine⟨aq,?_⟩;refine aZ [(0,0)] (uw 167 10 i [.d (nb q),.d (.int .u64 n')] (q.take 64) (by simp;omega) (by simp[AV.low1])) rfl aw (by simp[lk]) (by simp[lk,Blk.ren,aS,AV.renL,AV.ren,bX,iy,dI,nb]) (by simp[AV.renL,AV.ren,bX,iy,lk,nb,List.map_take]) ?_;rintro r e⟨rfl,u⟩;refine⟨[],rfl,?_⟩;simp[go_sem,bZ,bF,u,Blk.ren,aS,AV.renL,AV.ren,bX,dI];refine c _ _ ?_;clear c G;simp[go_sem,nb];refine⟨aq,?_⟩;refine am (Go.Sha.take i (q.take 64),q.drop 64) ⟨by simp only[et];omega,k-1,by simp only[et];omega,a⟩ (by simp only[et];omega) ?_;simp[av,ah,fv,lk,AV.low,AV.low1,nb,dI,List.map_drop,lH]
  ·rw[eat_none k i q aq]at a;subst a;rfl
def padTo:Nat→List Nat→List Nat
 |0,l=>l
 |n+1,l=>if l.length%64=56 then l else padTo n (l++[0])
theorem vF{k:Nat}{l:List Nat}(h:l.length%64≠56)(a:0<k):padTo k l=padTo (k-1) (l++[0]):=by
 obtain⟨j,rfl⟩:∃j,k=j+1:=⟨k-1,aq⟩;rw[padTo,if_neg h];rfl
theorem yu{k:Nat}{l:List Nat}(h:l.length%64=56):padTo k l=l:=by
 cases k with
 |zero=>rfl
 |succ k=>rw[padTo,if_pos h]
theorem kL(a b:List Nat):rb a++rb b=rb (a++b):=by simp[rb]
theorem hJ(a:List Nat)(x:Nat):rb a++[[AV.d (.int .u8 (x:Int))]]=rb (a++[x]):=by simp[rb]
theorem vG(a:List Nat):rb a++[[AV.d (.int .u8 128)]]=rb (a++[128]):=by simp[rb]
theorem Ci(a:List Nat):rb a++[[AV.d (.int .u8 0)]]=rb (a++[0]):=by simp[rb]
theorem dC(a:List Nat):List.map ((fun r=>List.map AV.d r)∘fun(x:Nat)=>[DV.int .u8 (x:Int)]) a=rb a:=by simp[rb]
def jR(m:Nat):Nat→List Nat
 |0=>[]
 |j+1=>jR m j++[t8 (ej (56-8*j) m)]
theorem eN(m:Nat):∀j,(jR m j).length=j
 |0=>rfl
 |j+1=>by simp[jR,eN m j]
def lastOf(rest:List Nat)(n:Nat):List Nat:=padTo 64 (rest++[128])++jR (n*8%18446744073709551616) 8
theorem LF(n:Nat):IntKind.u64.wrap ((n:Int)*8)=((n*8%18446744073709551616:Nat):Int):=by rw[ij];omega
theorem LG(n:Nat):Int.tmod (n:Int) 64=((n%64:Nat):Int):=by
 have:=Int.ofNat_tmod n 64;simpa using this.symm
theorem LH(s:S8)(a b:AV)(e:∀n,a.low1 n)(c:∀n,b.low1 n)(n:Nat):∀v,v∈dI s++[a,b]→v.low1 n:=by
 intro v d;rcases cD.1 d with h|h;exact c8 n s.l v h;simp only[d_,List.mem_nil_iff,or_false]at h;rcases h with rfl|rfl;exact e n;exact c n
theorem jc(s:S8)(a b:AV)(e:∀n,a.low1 n)(c:∀n,b.low1 n)(n:Nat):∀v,v∈dI s∨v=a∨v=b→v.low1 n:=by
 intro v d;refine LH s a b e c n v ?_;simpa using d
theorem ia(s:S8)(n:Nat):∀v,v∈dI s→v.low1 n:=c8 n s.l
theorem G6(ρ:Nat→Nat)(s:S8):AV.renL ρ (dI s)=dI s:=LA ρ s.l
theorem dD(ρ:Nat→Nat)(L:List Nat):List.map (AV.renL ρ) (rb L)=rb L:=by
 simp[rb,AV.renL,AV.ren]
def iO(w:List Nat):List Nat:=w++List.replicate (32-w.length) 0
theorem yv{w:List Nat}(h:w.length≤32):(iO w).length=32:=by simp[iO];omega
theorem yw{w:List Nat}{x:Nat}(h:w.length<32):(iO w).set w.length x=iO (w++[x]):=by
 unfold iO;rw[List.set_append_right _ _ (cL _),Nat.sub_self];obtain⟨k,a⟩:∃k,32-w.length=k+1:=⟨31-w.length,aq⟩;rw[a,List.replicate_succ,List.set_cons_zero,cA];simp only[b_,List.length_singleton,List.singleton_append];rw[show 32-(w.length+1)=k by omega]
theorem vH{w:List Nat}(h:w.length=32):iO w=w:=by unfold iO;rw[h];simp
theorem Zn(s:S8):List.take 8 (dI s)=dI s:=rfl
theorem G7(s:S8){i:Nat}(h:i<8):(dI s)[i]?=some (.d (.int .u32 ((s.l.getD i 0:Nat):Int))):=by
 rw[sT,mK,cR];have:i<s.l.length:=h;rw[cm this];rfl
theorem hd9(s:S8)(a b:AV):(List.drop 9 (dI s++[a,b])).head?=some b:=rfl
theorem tk8(s:S8)(a b:AV):List.take 8 (dI s++[a,b])=dI s:=rfl
theorem uy(s:S8):(dI s).length=8:=rfl
theorem E4 (s:S8) (R:AV) (rest:List Nat) (n:Nat) (hR:R=.d (nb rest) ∨ (R=.nil∧rest=[])) (U:rest.length≤1000000000000) :
  c7 Tryz.prog 60 1 [(0,⟨167,10,[dI s++[R,.d (.int .u64 (n:Int))]]⟩)] [.ptr 0 0 0 1]
   (fun r H=>r=.agg (cb (IP (tO (lastOf rest n).length s (lastOf rest n)).1))∧lk 0 H=some ⟨167,10,[dI s++[R,.d (.int .u64 (n:Int))]]⟩):=by
 refine aB Tryz.func60 (by kernel_rfl) rfl Tryz.ntmps60 (rs:=[.cell 2 29]) rfl (fD rfl) (by decide) ?_;rcases hR with rfl|⟨rfl,rfl⟩
 ·simp [go_sem,nb,dI,dC,vG,aL];refine ⟨aq,aq,?_⟩
  refine au (fun l:List Nat=>⟨[(0,.ptr 0 0 0 1),(2,.ptr 2 0 0 1),(3,.own 98 0 l.length l.length)],[(98,⟨5,1,rb l⟩),(2,⟨29,32,[cb z32]⟩),(0,⟨167,10,[dI s++[.d (nb rest),.d (.int .u64 (n:Int))]]⟩)],450⟩)
   (fun l=>l.length≤1000000000000+65∧∃k,(120-l.length%64)%64≤k∧(k+l.length≤1000000000000+65)∧padTo k l=padTo 64 (rest++[128])) (fun l=>(120-l.length%64)%64) (rest++[128]) ⟨by have:=U;simp only[b_,List.length_nil,List.length_singleton]at *;omega,64,aq,by have:=U;simp only[b_,List.length_nil,List.length_singleton]at *;omega,rfl⟩ (by
    simp[av,ah,fv,lk,AV.low,AV.low1,nb,dI]
    exact⟨aT _ _,aE _ _⟩) ?_
  rintro l⟨ad,k,G,D,v⟩;have Y:Int.tmod (l.length:Int) 64=((l.length%64:Nat):Int):=LG _;simp only[go_sem,Nat.reduceEqDiff,Nat.reduceAdd,Nat.reduceLT,↓reduceIte,Y];refine⟨by decide,fun h=>?_,fun h=>?_⟩
  have b:l.length%64≠56:=aq;rw[vF b aq]at v;refine⟨by decide,aL l,aq,?_⟩;rw[Ci];refine am (l++[0]) ⟨by simp only[b_,List.length_singleton];omega,k-1,by simp only[b_,List.length_singleton];omega,by simp only[b_,List.length_singleton];omega,v⟩ (by simp only[b_,List.length_singleton];omega) ?_;simp[av,ah,fv,lk,AV.low,AV.low1];exact⟨aT _ _,aE _ _,jc s (.d (nb rest)) (.d (.int .u64 n)) (fun _=>trivial) (fun _=>trivial) _⟩
  ·have b:l.length % 64=56:=aq;rw [yu b] at v;simp only [go_sem,Nat.reduceEqDiff,Nat.reduceAdd,Nat.reduceLT,↓reduceIte,hd9,LF];have p:lastOf rest n=l ++ jR (n*8 % 18446744073709551616) 8:=by unfold lastOf;rw [← v]
   generalize n*8%18446744073709551616=m at p;generalize lastOf rest n=L at p;clear v G D U;refine au (fun j:Nat=>⟨[(0,.ptr 0 0 0 1),(2,.ptr 2 0 0 1),(3,.own 98 0 (l++jR m j).length (l++jR m j).length),(4,.d (.int .u64 (m:Int))),(5,.d (.int .i64 (56-8*(j:Int))))],[(98,⟨5,1,rb (l++jR m j)⟩),(2,⟨29,32,[cb z32]⟩),(0,⟨167,10,[dI s++[.d (nb rest),.d (.int .u64 (n:Int))]]⟩)],642⟩)
    (fun j=>j≤8) (fun j=>8-j) 0 aq (by
     simp[av,ah,fv,lk,AV.low,AV.low1,jR]
     exact⟨aT _ _,aE _ _,jc s (.d (nb rest)) (.d (.int .u64 n)) (fun _=>trivial) (fun _=>trivial) _⟩) ?_
   intro j hj;have N:(l++jR m j).length=l.length+j:=(by rw[b_,eN]);have e8:(56:Int)-8*(j:Int)-8=56-8*((j+1:Nat):Int):=aq;have V:IntKind.i64.wrap (56-8*(j:Int)-8)=56-8*((j+1:Nat):Int):=by rw[IntWalk.i64_in _ aq];omega
   simp only[go_sem,Nat.reduceEqDiff,Nat.reduceAdd,Nat.reduceLT,↓reduceIte];refine⟨fun h=>?_,fun h=>?_⟩
   ·have aa:j≤7:=aq;have F:IntKind.u8.wrap (Int.fdiv (m:Int) (2 ^ (min (56-8*(j:Int)).toNat 64)))=((t8 (ej (56-8*j) m):Nat):Int):=by
     rw[show min (56-8*(j:Int)).toNat 64=56-8*j by omega,Zl,fE]
    have es:rb (l++jR m j)++[[AV.d (.int .u8 ((t8 (ej (56-8*j) m):Nat):Int))]]=rb (l++jR m (j+1)):=by rw[hJ,cA];rfl
    simp only[go_sem,Nat.reduceEqDiff,Nat.reduceAdd,Nat.reduceLT,↓reduceIte,IntKind.bits,F,aL,es,V];refine⟨aq,by decide,by have:=eN m j;omega,?_⟩;refine am (j+1) aq aq ?_;have K:(jR m (j+1)).length=(jR m j).length+1:=(by rw[eN,eN])
    simp[av,ah,fv,lk,AV.low,AV.low1,K];exact⟨aq,aT _ _,aE _ _,jc s (.d (nb rest)) (.d (.int .u64 n)) (fun _=>trivial) (fun _=>trivial) _⟩
   ·have T:j=8:=aq;subst T;rw[←p];have X:L.length%64=0:=by rw[p,b_,eN];omega
    have ab:L.length≤2000000000000:=by rw[p,b_,eN];omega
    have y:l.length+(jR m 8).length=L.length:=(by rw[p,b_]);clear p N e8 V b h Y;simp[go_sem,tk8,uy,y];generalize u:tO L.length s L=E
    refine au (fun t:Nat×S8=>⟨[(0,.ptr 0 0 0 1),(2,.ptr 2 0 0 1),(3,.own 98 (64*t.1) (L.length-64*t.1) L.length),(6,.ptr 834 0 0 1)],[(834,⟨164,8,[dI t.2]⟩),(98,⟨5,1,rb L⟩),(2,⟨29,32,[cb z32]⟩),(0,⟨167,10,[dI s++[.d (nb rest),.d (.int .u64 (n:Int))]]⟩)],898⟩)
     (fun t=>64*t.1≤L.length∧∃k,L.length-64*t.1≤k∧tO k t.2 (L.drop (64*t.1))=E) (fun t=>L.length-64*t.1) (0,s) ⟨aq,L.length,aq,u⟩ (by
      simp[av,ah,fv,lk,AV.low,AV.low1]
      exact⟨ia _ _,aT _ _,aE _ _,jc s (.d (nb rest)) (.d (.int .u64 n)) (fun _=>trivial) (fun _=>trivial) _⟩) ?_
    rintro⟨j,a⟩⟨B,k,G,o⟩;simp only at B G o;have O:(L.drop (64*j)).length=L.length-64*j:=et;simp only[go_sem,Nat.reduceEqDiff,Nat.reduceAdd,Nat.reduceLT,↓reduceIte];refine⟨fun h=>?_,fun h=>?_⟩
    ·have ae:64≤L.length-64*j:=aq;rw[eat_more aq aq]at o;simp[go_sem];refine⟨aq,?_⟩;refine aZ [(0,834),(1,98)] (tP 164 8 a [] L (64*j) aq aw) rfl aw (by simp[lk]) (by simp[lk,Blk.ren,aS,AV.renL,AV.ren,bX,iy,dI,rb]) (by simp[AV.renL,AV.ren,bX,iy,lk]) ?_;rintro r H⟨rfl,h0,h1⟩;refine⟨[],rfl,?_⟩;simp[go_sem,bZ,bF,h0,h1,Blk.ren,aS,G6,dD,AV.renL,AV.ren,bX];refine⟨aq,?_⟩;refine am (j+1,Go.Sha.take a ((L.drop (64*j)).take 64)) ⟨by simp only;omega,k-1,by simp only;omega,?_⟩ (by simp only;omega) ?_
     rw[List.drop_drop]at o;exact o;simp[av,ah,fv,lk,AV.low,AV.low1];exact⟨⟨aq,aq⟩,ia _ _,aT _ _,aE _ _,jc s (.d (nb rest)) (.d (.int .u64 n)) (fun _=>trivial) (fun _=>trivial) _⟩
    ·have e:L.drop (64*j)=[]:=c_ aq;rw[e,eat_none k a [] aw]at o;have I:a=E.1:=(by rw[←o]);clear o u O e;simp[go_sem,uy]
     refine au (fun i:Nat=>⟨[(0,.ptr 0 0 0 1),(2,.ptr 2 0 0 1),(7,.ptr 994 0 0 1),(59,.agg (dI a)),(60,.d (.int .i64 i))],[(994,⟨29,32,[cb (iO (pre a.l i))]⟩),(2,⟨29,32,[cb z32]⟩),(0,⟨167,10,[dI s++[.d (nb rest),.d (.int .u64 (n:Int))]]⟩)],1090⟩)
      (fun i=>i≤8) (fun i=>8-i) 0 aq (by
       simp[av,ah,fv,lk,AV.low,AV.low1,Zn]
       exact⟨ia _ _,⟨rfl,aE _ _⟩,aE _ _,jc s (.d (nb rest)) (.d (.int .u64 n)) (fun _=>trivial) (fun _=>trivial) _⟩) ?_
     intro i hi;have C:=oO a.l i;simp only[go_sem,Nat.reduceEqDiff,Nat.reduceAdd,Nat.reduceLT,↓reduceIte];refine⟨fun h2=>?_,fun h2=>?_⟩
     ·have W:=G7 a (i:=i) aq;have c:pre a.l (i+1)=pre a.l i++Ac (a.l.getD i 0) 4:=rfl;generalize a.l.getD i 0=x at W c;simp[go_sem,W];refine⟨aq,?_⟩
      refine au (fun k:Nat=>⟨[(0,.ptr 0 0 0 1),(2,.ptr 2 0 0 1),(7,.ptr 994 0 0 1),(59,.agg (dI a)),(60,.d (.int .i64 i)),(8,.d (.int .i64 i)),(9,.d (.int .u32 (x:Int))),(64,.d (.int .i64 k))],[(994,⟨29,32,[cb (iO (pre a.l i++Ac x k))]⟩),(2,⟨29,32,[cb z32]⟩),(0,⟨167,10,[dI s++[.d (nb rest),.d (.int .u64 (n:Int))]]⟩)],1300⟩)
       (fun k=>k≤4) (fun k=>4-k) 0 aq (by
        simp[av,ah,fv,lk,AV.low,AV.low1,Ac]
        exact⟨ia _ _,aE _ _,aE _ _,jc s (.d (nb rest)) (.d (.int .u64 n)) (fun _=>trivial) (fun _=>trivial) _⟩) ?_
      intro k ac;have Q:=uv x k;simp only[go_sem,Nat.reduceEqDiff,Nat.reduceAdd,Nat.reduceLT,↓reduceIte];refine⟨fun h3=>?_,fun h3=>?_⟩
      ·have Z:IntKind.i64.wrap (4*(i:Int))=((4*i:Nat):Int):=by rw[IntWalk.i64_in _ aq];omega
       have w2:IntKind.i64.wrap (((4*i:Nat):Int)+(k:Int))=((4*i+k:Nat):Int):=by rw[IntWalk.i64_in _ aq];omega
       have w3:IntKind.i64.wrap (8*(k:Int))=((8*k:Nat):Int):=by rw[IntWalk.i64_in _ aq];omega
       have w4:IntKind.i64.wrap (24-((8*k:Nat):Int))=((24-8*k:Nat):Int):=by rw[IntWalk.i64_in _ aq];omega
       have J:=az (k:=k) aq;have F:IntKind.u8.wrap (Int.fdiv (x:Int) (2 ^ (min (24-8*k) 32)))=((t8 (ej (24-8*k) x):Nat):Int):=by
        rw[show min (24-8*k) 32=24-8*k by omega,Zl,fE]
       have z:(iO (pre a.l i++Ac x k)).set (4*i+k) (t8 (ej (24-8*k) x))=iO (pre a.l i++Ac x (k+1)):=by
        have h:=yw (w:=pre a.l i++Ac x k) (x:=t8 (ej (24-8*k) x)) (by rw[b_];omega);rw[b_,C,Q,cA]at h;exact h
       have P:(iO (pre a.l i++Ac x k)).length=32:=yv (by rw[b_];omega);simp only[go_sem,Nat.reduceEqDiff,Nat.reduceAdd,Nat.reduceLT,↓reduceIte,Z,w2,w3,w4,IntKind.bits,Int.toNat_natCast,F,Nat.mul_one,E0,z,P,J];refine⟨aq,aq,?_⟩;refine am (k+1) aq aq ?_;simp[av,ah,fv,lk,AV.low,AV.low1];exact⟨ia _ _,aE _ _,aE _ _,jc s (.d (nb rest)) (.d (.int .u64 n)) (fun _=>trivial) (fun _=>trivial) _⟩
      ·have q:k=4:=aq;subst q;rw[←c];have J:=az (k:=i) aq;simp only[go_sem,Nat.reduceEqDiff,Nat.reduceAdd,Nat.reduceLT,↓reduceIte,J];refine am (i+1) aq aq ?_;simp[av,ah,fv,lk,AV.low,AV.low1];exact⟨ia _ _,aE _ _,aE _ _,jc s (.d (nb rest)) (.d (.int .u64 n)) (fun _=>trivial) (fun _=>trivial) _⟩
     ·have M:i=8:=aq;subst M;have g:iO (pre a.l 8)=IP a:=vH C;rw[g,I];have A:(IP E.1).length=32:=oO _ 8;have S:List.take 32 (cb (IP E.1))=cb (IP E.1):=cx (by rw[aj];omega);simp[go_sem,ai,A,S];rfl
 ·simp [go_sem,nb,dI,dC,vG,aL]
  refine au (fun l:List Nat=>⟨[(0,.ptr 0 0 0 1),(2,.ptr 2 0 0 1),(3,.own 98 0 l.length l.length)],[(98,⟨5,1,rb l⟩),(2,⟨29,32,[cb z32]⟩),(0,⟨167,10,[dI s++[.nil,.d (.int .u64 (n:Int))]]⟩)],450⟩)
   (fun l=>l.length≤1000000000000+65∧∃k,(120-l.length%64)%64≤k∧(k+l.length≤1000000000000+65)∧padTo k l=padTo 64 ([]++[128])) (fun l=>(120-l.length%64)%64) ([]++[128]) ⟨by have:=U;simp only[b_,List.length_nil,List.length_singleton]at *;omega,64,aq,by have:=U;simp only[b_,List.length_nil,List.length_singleton]at *;omega,rfl⟩ (by
    simp[av,ah,fv,lk,AV.low,AV.low1,nb,dI]
    exact⟨⟨rfl,aT _ _⟩,aE _ _⟩) ?_
  rintro l⟨ad,k,G,D,v⟩;have Y:Int.tmod (l.length:Int) 64=((l.length%64:Nat):Int):=LG _;simp only[go_sem,Nat.reduceEqDiff,Nat.reduceAdd,Nat.reduceLT,↓reduceIte,Y];refine⟨by decide,fun h=>?_,fun h=>?_⟩
  have b:l.length%64≠56:=aq;rw[vF b aq]at v;refine⟨by decide,aL l,aq,?_⟩;rw[Ci];refine am (l++[0]) ⟨by simp only[b_,List.length_singleton];omega,k-1,by simp only[b_,List.length_singleton];omega,by simp only[b_,List.length_singleton];omega,v⟩ (by simp only[b_,List.length_singleton];omega) ?_;simp[av,ah,fv,lk,AV.low,AV.low1];exact⟨aT _ _,aE _ _,jc s (.nil) (.d (.int .u64 n)) (fun _=>trivial) (fun _=>trivial) _⟩
  ·have b:l.length % 64=56:=aq;rw [yu b] at v;simp only [go_sem,Nat.reduceEqDiff,Nat.reduceAdd,Nat.reduceLT,↓reduceIte,hd9,LF];have p:lastOf [] n=l ++ jR (n*8 % 18446744073709551616) 8:=by unfold lastOf;rw [← v]
   generalize n*8%18446744073709551616=m at p;generalize lastOf [] n=L at p;clear v G D U;refine au (fun j:Nat=>⟨[(0,.ptr 0 0 0 1),(2,.ptr 2 0 0 1),(3,.own 98 0 (l++jR m j).length (l++jR m j).length),(4,.d (.int .u64 (m:Int))),(5,.d (.int .i64 (56-8*(j:Int))))],[(98,⟨5,1,rb (l++jR m j)⟩),(2,⟨29,32,[cb z32]⟩),(0,⟨167,10,[dI s++[.nil,.d (.int .u64 (n:Int))]]⟩)],642⟩)
    (fun j=>j≤8) (fun j=>8-j) 0 aq (by
     simp[av,ah,fv,lk,AV.low,AV.low1,jR]
     exact⟨aT _ _,aE _ _,jc s (.nil) (.d (.int .u64 n)) (fun _=>trivial) (fun _=>trivial) _⟩) ?_
   intro j hj;have N:(l++jR m j).length=l.length+j:=(by rw[b_,eN]);have e8:(56:Int)-8*(j:Int)-8=56-8*((j+1:Nat):Int):=aq;have V:IntKind.i64.wrap (56-8*(j:Int)-8)=56-8*((j+1:Nat):Int):=by rw[IntWalk.i64_in _ aq];omega
   simp only[go_sem,Nat.reduceEqDiff,Nat.reduceAdd,Nat.reduceLT,↓reduceIte];refine⟨fun h=>?_,fun h=>?_⟩
   ·have aa:j≤7:=aq;have F:IntKind.u8.wrap (Int.fdiv (m:Int) (2 ^ (min (56-8*(j:Int)).toNat 64)))=((t8 (ej (56-8*j) m):Nat):Int):=by
     rw[show min (56-8*(j:Int)).toNat 64=56-8*j by omega,Zl,fE]
    have es:rb (l++jR m j)++[[AV.d (.int .u8 ((t8 (ej (56-8*j) m):Nat):Int))]]=rb (l++jR m (j+1)):=by rw[hJ,cA];rfl
    simp only[go_sem,Nat.reduceEqDiff,Nat.reduceAdd,Nat.reduceLT,↓reduceIte,IntKind.bits,F,aL,es,V];refine⟨aq,by decide,by have:=eN m j;omega,?_⟩;refine am (j+1) aq aq ?_;have K:(jR m (j+1)).length=(jR m j).length+1:=(by rw[eN,eN])
    simp[av,ah,fv,lk,AV.low,AV.low1,K];exact⟨aq,aT _ _,aE _ _,jc s (.nil) (.d (.int .u64 n)) (fun _=>trivial) (fun _=>trivial) _⟩
   ·have T:j=8:=aq;subst T;rw[←p];have X:L.length%64=0:=by rw[p,b_,eN];omega
    have ab:L.length≤2000000000000:=by rw[p,b_,eN];omega
    have y:l.length+(jR m 8).length=L.length:=(by rw[p,b_]);clear p N e8 V b h Y;simp[go_sem,tk8,uy,y];generalize u:tO L.length s L=E
    refine au (fun t:Nat×S8=>⟨[(0,.ptr 0 0 0 1),(2,.ptr 2 0 0 1),(3,.own 98 (64*t.1) (L.length-64*t.1) L.length),(6,.ptr 834 0 0 1)],[(834,⟨164,8,[dI t.2]⟩),(98,⟨5,1,rb L⟩),(2,⟨29,32,[cb z32]⟩),(0,⟨167,10,[dI s++[.nil,.d (.int .u64 (n:Int))]]⟩)],898⟩)
     (fun t=>64*t.1≤L.length∧∃k,L.length-64*t.1≤k∧tO k t.2 (L.drop (64*t.1))=E) (fun t=>L.length-64*t.1) (0,s) ⟨aq,L.length,aq,u⟩ (by
      simp[av,ah,fv,lk,AV.low,AV.low1]
      exact⟨ia _ _,aT _ _,aE _ _,jc s (.nil) (.d (.int .u64 n)) (fun _=>trivial) (fun _=>trivial) _⟩) ?_
    rintro⟨j,a⟩⟨B,k,G,o⟩;simp only at B G o;have O:(L.drop (64*j)).length=L.length-64*j:=et;simp only[go_sem,Nat.reduceEqDiff,Nat.reduceAdd,Nat.reduceLT,↓reduceIte];refine⟨fun h=>?_,fun h=>?_⟩
    ·have ae:64≤L.length-64*j:=aq;rw[eat_more aq aq]at o;simp[go_sem];refine⟨aq,?_⟩;refine aZ [(0,834),(1,98)] (tP 164 8 a [] L (64*j) aq aw) rfl aw (by simp[lk]) (by simp[lk,Blk.ren,aS,AV.renL,AV.ren,bX,iy,dI,rb]) (by simp[AV.renL,AV.ren,bX,iy,lk]) ?_;rintro r H⟨rfl,h0,h1⟩;refine⟨[],rfl,?_⟩;simp[go_sem,bZ,bF,h0,h1,Blk.ren,aS,G6,dD,AV.renL,AV.ren,bX];refine⟨aq,?_⟩;refine am (j+1,Go.Sha.take a ((L.drop (64*j)).take 64)) ⟨by simp only;omega,k-1,by simp only;omega,?_⟩ (by simp only;omega) ?_
     rw[List.drop_drop]at o;exact o;simp[av,ah,fv,lk,AV.low,AV.low1];exact⟨⟨aq,aq⟩,ia _ _,aT _ _,aE _ _,jc s (.nil) (.d (.int .u64 n)) (fun _=>trivial) (fun _=>trivial) _⟩
    ·have e:L.drop (64*j)=[]:=c_ aq;rw[e,eat_none k a [] aw]at o;have I:a=E.1:=(by rw[←o]);clear o u O e;simp[go_sem,uy]
     refine au (fun i:Nat=>⟨[(0,.ptr 0 0 0 1),(2,.ptr 2 0 0 1),(7,.ptr 994 0 0 1),(59,.agg (dI a)),(60,.d (.int .i64 i))],[(994,⟨29,32,[cb (iO (pre a.l i))]⟩),(2,⟨29,32,[cb z32]⟩),(0,⟨167,10,[dI s++[.nil,.d (.int .u64 (n:Int))]]⟩)],1090⟩)
      (fun i=>i≤8) (fun i=>8-i) 0 aq (by
       simp[av,ah,fv,lk,AV.low,AV.low1,Zn]
       exact⟨ia _ _,⟨rfl,aE _ _⟩,aE _ _,jc s (.nil) (.d (.int .u64 n)) (fun _=>trivial) (fun _=>trivial) _⟩) ?_
     intro i hi;have C:=oO a.l i;simp only[go_sem,Nat.reduceEqDiff,Nat.reduceAdd,Nat.reduceLT,↓reduceIte];refine⟨fun h2=>?_,fun h2=>?_⟩
     ·have W:=G7 a (i:=i) aq;have c:pre a.l (i+1)=pre a.l i++Ac (a.l.getD i 0) 4:=rfl;generalize a.l.getD i 0=x at W c;simp[go_sem,W];refine⟨aq,?_⟩
      refine au (fun k:Nat=>⟨[(0,.ptr 0 0 0 1),(2,.ptr 2 0 0 1),(7,.ptr 994 0 0 1),(59,.agg (dI a)),(60,.d (.int .i64 i)),(8,.d (.int .i64 i)),(9,.d (.int .u32 (x:Int))),(64,.d (.int .i64 k))],[(994,⟨29,32,[cb (iO (pre a.l i++Ac x k))]⟩),(2,⟨29,32,[cb z32]⟩),(0,⟨167,10,[dI s++[.nil,.d (.int .u64 (n:Int))]]⟩)],1300⟩)
       (fun k=>k≤4) (fun k=>4-k) 0 aq (by
        simp[av,ah,fv,lk,AV.low,AV.low1,Ac]
        exact⟨ia _ _,aE _ _,aE _ _,jc s (.nil) (.d (.int .u64 n)) (fun _=>trivial) (fun _=>trivial) _⟩) ?_
      intro k ac;have Q:=uv x k;simp only[go_sem,Nat.reduceEqDiff,Nat.reduceAdd,Nat.reduceLT,↓reduceIte];refine⟨fun h3=>?_,fun h3=>?_⟩
      ·have Z:IntKind.i64.wrap (4*(i:Int))=((4*i:Nat):Int):=by rw[IntWalk.i64_in _ aq];omega
       have w2:IntKind.i64.wrap (((4*i:Nat):Int)+(k:Int))=((4*i+k:Nat):Int):=by rw[IntWalk.i64_in _ aq];omega
       have w3:IntKind.i64.wrap (8*(k:Int))=((8*k:Nat):Int):=by rw[IntWalk.i64_in _ aq];omega
       have w4:IntKind.i64.wrap (24-((8*k:Nat):Int))=((24-8*k:Nat):Int):=by rw[IntWalk.i64_in _ aq];omega
       have J:=az (k:=k) aq;have F:IntKind.u8.wrap (Int.fdiv (x:Int) (2 ^ (min (24-8*k) 32)))=((t8 (ej (24-8*k) x):Nat):Int):=by
        rw[show min (24-8*k) 32=24-8*k by omega,Zl,fE]
       have z:(iO (pre a.l i++Ac x k)).set (4*i+k) (t8 (ej (24-8*k) x))=iO (pre a.l i++Ac x (k+1)):=by
        have h:=yw (w:=pre a.l i++Ac x k) (x:=t8 (ej (24-8*k) x)) (by rw[b_];omega);rw[b_,C,Q,cA]at h;exact h
       have P:(iO (pre a.l i++Ac x k)).length=32:=yv (by rw[b_];omega);simp only[go_sem,Nat.reduceEqDiff,Nat.reduceAdd,Nat.reduceLT,↓reduceIte,Z,w2,w3,w4,IntKind.bits,Int.toNat_natCast,F,Nat.mul_one,E0,z,P,J];refine⟨aq,aq,?_⟩;refine am (k+1) aq aq ?_;simp[av,ah,fv,lk,AV.low,AV.low1];exact⟨ia _ _,aE _ _,aE _ _,jc s (.nil) (.d (.int .u64 n)) (fun _=>trivial) (fun _=>trivial) _⟩
      ·have q:k=4:=aq;subst q;rw[←c];have J:=az (k:=i) aq;simp only[go_sem,Nat.reduceEqDiff,Nat.reduceAdd,Nat.reduceLT,↓reduceIte,J];refine am (i+1) aq aq ?_;simp[av,ah,fv,lk,AV.low,AV.low1];exact⟨ia _ _,aE _ _,aE _ _,jc s (.nil) (.d (.int .u64 n)) (fun _=>trivial) (fun _=>trivial) _⟩
     ·have M:i=8:=aq;subst M;have g:iO (pre a.l 8)=IP a:=vH C;rw[g,I];have A:(IP E.1).length=32:=oO _ 8;have S:List.take 32 (cb (IP E.1))=cb (IP E.1):=cx (by rw[aj];omega);simp[go_sem,ai,A,S];rfl
end Go.Proofs.YtmfnimjnneflnaaGreat
namespace Go.Sha
theorem Cj:∀(k j:Nat)(s:S8)(b:List Nat),b.length≤k→b.length≤j→tO k s b=tO j s b
 |0,j,s,b,h,_=>by
  have c:b.length<64:=aq;rw[Go.Proofs.YtmfnimjnneflnaaGreat.eat_none 0 s b c,Go.Proofs.YtmfnimjnneflnaaGreat.eat_none j s b c]
 |k+1,j,s,b,h,h2=>by
  by_cases a:64≤b.length;rw[Go.Proofs.YtmfnimjnneflnaaGreat.eat_more a h,Go.Proofs.YtmfnimjnneflnaaGreat.eat_more a h2];exact Cj k (j-1) _ _ (by rw[et];omega) (by rw[et];omega);rw[Go.Proofs.YtmfnimjnneflnaaGreat.eat_none _ s b aq,Go.Proofs.YtmfnimjnneflnaaGreat.eat_none _ s b aq]
def E(s:S8)(b:List Nat):S8×List Nat:=tO b.length s b
theorem qd{s:S8}{b:List Nat}(h:b.length<64):E s b=(s,b):=Go.Proofs.YtmfnimjnneflnaaGreat.eat_none _ s b h
theorem sU{s:S8}{b:List Nat}(h:64≤b.length):E s b=E (Go.Sha.take s (b.take 64)) (b.drop 64):=by
 unfold E;rw[Go.Proofs.YtmfnimjnneflnaaGreat.eat_more h (cL _)];exact Cj _ _ _ _ (by rw[et];omega) (cL _)
theorem Cm(b:List Nat):∀(n:Nat)(s:S8)(a:List Nat),a.length≤n→E s (a++b)=E (E s a).1 ((E s a).2++b)
 |0,s,a,h=>by rw[qd (b:=a) aq]
 |n+1,s,a,h=>by
  by_cases c:64≤a.length;rw[sU (b:=a) c,sU (b:=a++b) (by rw[b_];omega)];rw[List.take_append_of_le_length c,List.drop_append_of_le_length c];exact Cm b n _ _ (by rw[et];omega);rw[qd (b:=a) aq]
theorem CB:∀(n:Nat)(s:S8)(a:List Nat),a.length≤n→(E s a).2.length≤a.length
 |0,s,a,h=>by rw[qd aq];exact cL _
 |n+1,s,a,h=>by
  by_cases b:64≤a.length;rw[sU b];have:=CB n (Go.Sha.take s (a.take 64)) (a.drop 64) (by rw[et];omega);rw[et]at this;omega;rw[qd aq];exact cL _
def tQ(p:S8×List Nat)(n:Nat):List Nat:=IP (E p.1 (Go.Proofs.YtmfnimjnneflnaaGreat.lastOf p.2 n)).1
def b7(b:List Nat):List Nat:=tQ (E H0 b) b.length
def eH(t b:List Nat):List Nat:=b7 (b7 t++(b7 t++b))
theorem bo(b:List Nat):(b7 b).length=32:=oO _ 8
end Go.Sha
namespace Go.Proofs.YtmfnimjnneflnaaGreat
open Go.Am Go.Sha
theorem wn(a b:Nat)(h:a+b<18446744073709551616):IntKind.u64.wrap ((a:Int)+IntKind.u64.wrap (b:Int))=((a+b:Nat):Int):=by rw[ij,ij];omega
theorem ff(ρ:Nat→Nat)(b:List Nat):(AV.d (nb b)).ren ρ=.d (nb b):=rfl
theorem dO(ρ:Nat→Nat):∀l:List Nat,AV.renL ρ (cb l)=cb l
 |[]=>by simp[cb,AV.renL]
 |x::r=>by
  have:=dO ρ r;simp only[cb]at this;simp only[cb,List.map_cons,AV.renL,AV.ren,this]
theorem al{l:List Nat}(h:l.length=32):List.take 32 (cb l)=cb l:=cx (by rw[aj];omega)
theorem bK:List.drop 32 (cb z32)=[]:=rfl
theorem gG(ρ:Nat→Nat)(s:S8)(a b:AV):AV.renL ρ (dI s++[a,b])=dI s++[a.ren ρ,b.ren ρ]:=by simp[dI,AV.renL,AV.ren]
theorem Qu(s:S8)(R:AV)(rest b:List Nat)(n:Nat)(e:R=.d (nb rest)∨(R=.nil∧rest=[]))(c:rest.length+b.length≤1000000000000)(g:n+b.length<18446744073709551616) :
  c7 Tryz.prog 58 1 [(0,⟨167,10,[dI s++[R,.d (.int .u64 (n:Int))]]⟩)] [.ptr 0 0 0 1,.d (nb b)]
   (fun r a=>r=.tup []∧lk 0 a=some ⟨167,10,[dI (E s (rest++b)).1++[.d (nb (E s (rest++b)).2),.d (.int .u64 ((n+b.length:Nat):Int))]]⟩):=by
 have:=LD s R rest b n e c;rw[wn n b.length g]at this;exact this
theorem yx(b:List Nat)(g:b.length≤100000000000):ap Tryz.prog 84 [.d (nb b)] (fun r=>r=.agg (cb (b7 b))):=by
 refine bz Tryz.func84 Tryz.ntmps84 (rs:=[.cell 2 29]) a9 ?_;simp only[go_sem,Nat.reduceEqDiff,Nat.reduceAdd,Nat.reduceLT,↓reduceIte,Nat.reduceMul];refine aZ [] nP rfl aw aw aw (by simp[AV.renL]) ?_;rintro r c⟨rfl,a⟩;refine⟨[(97,0)],rfl,?_⟩;simp[go_sem,bZ,bF,a,Blk.ren,aS,gG,AV.ren,bX];refine aZ [(0,32)] (Qu H0 .nil [] b 0 (.inr ⟨rfl,rfl⟩) (by simp;omega) aq) rfl aw (by simp[lk]) (by simp[lk,Blk.ren,aS,gG,AV.ren,bX,iy]) (by simp[AV.renL,AV.ren,bX,iy,lk]) ?_;rintro r c⟨rfl,a⟩;refine⟨[],rfl,?_⟩;simp[go_sem,bZ,bF,a,Blk.ren,aS,gG,ff,AV.renL,AV.ren,bX];refine aZ [(0,32)] (E4 (E H0 b).1 (.d (nb (E H0 b).2)) (E H0 b).2 b.length (.inl rfl) (by have:=CB _ H0 b (cL _);omega)) rfl aw (by simp[lk]) (by simp[lk,Blk.ren,aS,gG,ff,AV.ren,bX,iy]) (by simp[AV.renL,AV.ren,bX,iy,lk]) ?_;rintro r c⟨rfl,a⟩;refine⟨[],rfl,?_⟩;have e:IP (tO (lastOf (E H0 b).2 b.length).length (E H0 b).1 (lastOf (E H0 b).2 b.length)).1=b7 b:=rfl;rw[e]at *;simp[go_sem,bZ,bF,a,Blk.ren,aS,gG,ff,dO,AV.ren,bX,ai,bo,al (bo b),bK];exact ae (by simp[AV.deep];exact aW _) rfl
theorem dE{hp:Hp}{I:Nat→Prop}{id:Nat}{ty:TypeId}{l:List Nat}(i:lk id hp=some ⟨ty,32,[cb l]⟩)(g:I id)(h:l.length=32):SnapD hp I (.sub id 0 0 1 32 32 1) (nb l):=by
 refine .sub (es:=l.map fun(x:Nat)=>[.int .u8 (x:Int)]) g i rfl rfl aq (by simp[h]) (fun r a=>by
  rw[List.mem_map]at a;obtain⟨c,_,rfl⟩:=a
  rfl) fun k j c r y hc a b=>?_
 simp only[Nat.zero_add,Nat.mul_one,cU,Option.map_eq_some_iff]at hc a;obtain⟨x,e,rfl⟩:=a;cases j with
 |succ j=>simp at b
 |zero =>
  simp at b;subst b;rw[Nat.add_zero,EZ,e]at hc;simp at hc;subst hc;exact .d _
theorem iP{b:List Nat}(g:b.length=32):(List.range 32).map (fun k=>((cb b).drop k).take 1)=List.map ((fun r=>List.map AV.d r)∘fun(x:Nat)=>[DV.int .u8 (x:Int)]) b:=by
 apply List.ext_getElem?;intro i;by_cases c:i<32;rw[cU,cU,List.getElem?_range c,cm (by omega:i<b.length)];have h:i<(cb b).length:=by rw[aj];omega
 have a:(cb b)[i]?=some (.d (.int .u8 ((b[i]:Nat):Int))):=by rw[EZ,cm (by omega:i<b.length)];rfl
 have e:(cb b)[i]=.d (.int .u8 ((b[i]:Nat):Int)):=by
  rw[cm h]at a;exact Option.some.inj a
 rw[Option.map_some,Option.map_some,List.drop_eq_getElem_cons h,e];rfl;rw[List.getElem?_eq_none (by simp;omega),List.getElem?_eq_none (by simp;omega)]
theorem rA(ty:TypeId)(e:Nat)(c:List AV)(s:S8)(R:AV)(rest b:List Nat)(n:Int)(A:(List.range 32).map (fun k=>(c.drop k).take 1)=List.map ((fun r=>List.map AV.d r)∘fun(x:Nat)=>[DV.int .u8 (x:Int)]) b)(a:∀n v,v∈c→v.low1 n)(H:R=.d (nb rest)∨(R=.nil∧rest=[]))(z:rest.length+b.length≤1000000000000)(w:b.length=32) :
  c7 Tryz.prog 58 2 [(0,⟨167,10,[dI s++[R,.d (.int .u64 n)]]⟩),(1,⟨ty,e,[c]⟩)] [.ptr 0 0 0 1,.sub 1 0 0 1 32 32 1]
   (fun r j=>r=.tup []∧lk 0 j=some ⟨167,10,[dI (tO ((rest++b).length) s (rest++b)).1++[.d (nb (tO ((rest++b).length) s (rest++b)).2),.d (.int .u64 (IntKind.u64.wrap (n+(IntKind.u64.wrap (b.length:Int)))))]]⟩∧lk 1 j=some ⟨ty,e,[c]⟩):=by
 refine aB Tryz.func58 (by kernel_rfl) rfl Tryz.ntmps58 (rs:=[]) rfl (fD rfl) (by decide) ?_;rw[w];generalize B:IntKind.u64.wrap (n+(IntKind.u64.wrap ((32:Nat):Int)))=n';generalize u:tO ((rest++b).length) s (rest++b)=E;have y:=A;generalize F:List.map ((fun r=>List.map AV.d r)∘fun(x:Nat)=>[DV.int .u8 (x:Int)]) b=X at y;simp[go_sem]at y;have o:IntKind.u64.wrap (n+IntKind.u64.wrap 32)=n':=B;rcases H with rfl|⟨rfl,rfl⟩
 ·simp[go_sem,nb,dI,o];refine cG [0,1,2,3,4,5,6,7,8,9,10,11,12,13,14,15,16] [(17,[18,19]),(20,[])] 1 (k:=21) ?_;intro G i;simp[go_sem,lH,y];rw[←F,oP];simp[go_sem,lH];refine⟨by have:=z;simp only[b_,List.length_nil]at *;omega,.inl (i _ _ ?_)⟩;clear i G
  refine au (fun t:S8×List Nat=>⟨[(0,.ptr 0 0 0 1)],[(0,⟨167,10,[dI t.1++[.d (nb t.2),.d (.int .u64 n')]]⟩),(1,⟨ty,e,[c]⟩)],1091⟩)
   (fun t=>t.2.length≤1000000000000∧∃k,t.2.length≤k∧tO k t.1 t.2=E) (fun t=>t.2.length) (s,rest++b) ⟨by have:=z;simp only[b_,List.length_nil]at *;omega,_,cL _,u⟩ (by
    simp[av,ah,fv,lk,AV.low,AV.low1,nb,dI]
    exact a _) ?_
  rintro⟨m,q⟩⟨C,k,p,g⟩;simp only at C p g;simp only[go_sem,Nat.reduceEqDiff,Nat.reduceAdd,Nat.reduceLT,↓reduceIte,dI,nb,List.length_map];refine⟨fun h=>?_,fun h=>?_⟩
  ·have l:64≤q.length:=aq;rw[eat_more l p]at g;refine cG [0,1,2,3,4,5,6,7] [(8,[])] 0 (k:=9) ?_;intro G i;simp[go_sem];refine⟨aq,?_⟩;refine aZ [(0,0)] (uw 167 10 m [.d (nb q),.d (.int .u64 n')] (q.take 64) (by simp;omega) (by simp[AV.low1])) rfl aw (by simp[lk]) (by simp[lk,Blk.ren,aS,AV.renL,AV.ren,bX,iy,dI,nb]) (by simp[AV.renL,AV.ren,bX,iy,lk,nb,List.map_take]) ?_;rintro r j⟨rfl,D⟩;refine⟨[],rfl,?_⟩;simp[go_sem,bZ,bF,D,Blk.ren,aS,AV.renL,AV.ren,bX,dI];refine i _ _ ?_;clear i G;simp[go_sem,nb];refine⟨aq,?_⟩;refine am (Go.Sha.take m (q.take 64),q.drop 64) ⟨by simp only[et];omega,k-1,by simp only[et];omega,g⟩ (by simp only[et];omega) ?_;simp[av,ah,fv,lk,AV.low,AV.low1,nb,dI,List.map_drop,lH];exact a _
  ·rw[eat_none k m q aq]at g;subst g;rfl
 ·simp[go_sem,nb,dI,o];refine cG [0,1,2,3,4,5,6,7,8,9,10,11,12,13,14,15,16] [(17,[18,19]),(20,[])] 1 (k:=21) ?_;intro G i;simp[go_sem,lH,y];rw[←F,oP];simp[go_sem,lH];refine⟨by have:=z;simp only[b_,List.length_nil]at *;omega,.inl (i _ _ ?_)⟩;clear i G
  refine au (fun t:S8×List Nat=>⟨[(0,.ptr 0 0 0 1)],[(0,⟨167,10,[dI t.1++[.d (nb t.2),.d (.int .u64 n')]]⟩),(1,⟨ty,e,[c]⟩)],1091⟩)
   (fun t=>t.2.length≤1000000000000∧∃k,t.2.length≤k∧tO k t.1 t.2=E) (fun t=>t.2.length) (s,[]++b) ⟨by have:=z;simp only[b_,List.length_nil]at *;omega,_,cL _,u⟩ (by
    simp[av,ah,fv,lk,AV.low,AV.low1,nb,dI]
    exact a _) ?_
  rintro⟨m,q⟩⟨C,k,p,g⟩;simp only at C p g;simp only[go_sem,Nat.reduceEqDiff,Nat.reduceAdd,Nat.reduceLT,↓reduceIte,dI,nb,List.length_map];refine⟨fun h=>?_,fun h=>?_⟩
  ·have l:64≤q.length:=aq;rw[eat_more l p]at g;refine cG [0,1,2,3,4,5,6,7] [(8,[])] 0 (k:=9) ?_;intro G i;simp[go_sem];refine⟨aq,?_⟩;refine aZ [(0,0)] (uw 167 10 m [.d (nb q),.d (.int .u64 n')] (q.take 64) (by simp;omega) (by simp[AV.low1])) rfl aw (by simp[lk]) (by simp[lk,Blk.ren,aS,AV.renL,AV.ren,bX,iy,dI,nb]) (by simp[AV.renL,AV.ren,bX,iy,lk,nb,List.map_take]) ?_;rintro r j⟨rfl,D⟩;refine⟨[],rfl,?_⟩;simp[go_sem,bZ,bF,D,Blk.ren,aS,AV.renL,AV.ren,bX,dI];refine i _ _ ?_;clear i G;simp[go_sem,nb];refine⟨aq,?_⟩;refine am (Go.Sha.take m (q.take 64),q.drop 64) ⟨by simp only[et];omega,k-1,by simp only[et];omega,g⟩ (by simp only[et];omega) ?_;simp[av,ah,fv,lk,AV.low,AV.low1,nb,dI,List.map_drop,lH];exact a _
  ·rw[eat_none k m q aq]at g;subst g;rfl
theorem G8(s:S8)(R:AV)(rest b:List Nat)(n:Nat)(g:R=.d (nb rest)∨(R=.nil∧rest=[]))(e:rest.length+b.length≤1000000000000)(a:b.length=32)(h:n+b.length<18446744073709551616) :
  c7 Tryz.prog 58 2 [(0,⟨167,10,[dI s++[R,.d (.int .u64 (n:Int))]]⟩),(1,⟨29,32,[cb b]⟩)] [.ptr 0 0 0 1,.sub 1 0 0 1 32 32 1]
   (fun r c=>r=.tup []∧lk 0 c=some ⟨167,10,[dI (E s (rest++b)).1++[.d (nb (E s (rest++b)).2),.d (.int .u64 ((n+b.length:Nat):Int))]]⟩∧lk 1 c=some ⟨29,32,[cb b]⟩):=by
 have:=rA 29 32 (cb b) s R rest b n (iP a) (fun n=>aE n _) g e a;rw[wn n b.length h]at this;exact this
theorem LI(ty:TypeId)(e:Nat)(a:List AV)(s:S8)(R:AV)(rest b:List Nat)(n:Nat)(i:(List.range 32).map (fun k=>(a.drop k).take 1)=List.map ((fun r=>List.map AV.d r)∘fun(x:Nat)=>[DV.int .u8 (x:Int)]) b)(c:∀n v,v∈a→v.low1 n)(l:R=.d (nb rest)∨(R=.nil∧rest=[]))(j:rest.length+b.length≤1000000000000)(g:b.length=32)(m:n+b.length<18446744073709551616) :
  c7 Tryz.prog 58 2 [(0,⟨167,10,[dI s++[R,.d (.int .u64 (n:Int))]]⟩),(1,⟨ty,e,[a]⟩)] [.ptr 0 0 0 1,.sub 1 0 0 1 32 32 1]
   (fun r h=>r=.tup []∧lk 0 h=some ⟨167,10,[dI (E s (rest++b)).1++[.d (nb (E s (rest++b)).2),.d (.int .u64 ((n+b.length:Nat):Int))]]⟩∧lk 1 h=some ⟨ty,e,[a]⟩):=by
 have:=rA ty e a s R rest b n i c l j g;rw[wn n b.length m]at this;exact this
theorem gk(a:List Nat)(l:DV)(k:l=.str (a.map fun(x:Nat)=>(x:Int)))(b:List Nat)(u:a.length≤1000)(t:b.length≤10000000000):ap Tryz.prog 62 [.d l,.d (nb b)] (fun r=>r=.agg (cb (eH a b))):=by
 subst k;refine bz Tryz.func62 Tryz.ntmps62 (rs:=[.cell 4 29]) a9 ?_;simp[go_sem,Tryz.underlying5];refine ag (yx a aq) a9 ?_;have h:=bo a;have q:eH a b=b7 (b7 a++(b7 a++b)):=rfl;rw[q];generalize b7 a=D at h;simp[go_sem,h,bK];refine aZ [] nP rfl aw aw aw (by simp[AV.renL]) ?_;rintro r e⟨rfl,c⟩;refine⟨[(97,0)],rfl,?_⟩;simp[go_sem,bZ,bF,c,Blk.ren,aS,gG,AV.ren,bX]
 have j:E H0 (D++(D++b))=E (E (E H0 D).1 ((E H0 D).2++D)).1 ((E (E H0 D).1 ((E H0 D).2++D)).2++b):=by
  rw[Cm _ _ _ D (cL _),←cA,Cm _ _ _ ((E H0 D).2++D) (cL _)]
 have g:tQ (E (E (E H0 D).1 ((E H0 D).2++D)).1 ((E (E H0 D).1 ((E H0 D).2++D)).2++b)) (0+D.length+D.length+b.length)=b7 (D++(D++b)):=by
  unfold b7;rw[j];congr 1;simp only[b_];omega
 have s:=CB _ H0 D (cL _);refine aZ [(0,192),(1,128)] (G8 H0 .nil [] D 0 (.inr ⟨rfl,rfl⟩) (by simp;omega) h aq) rfl aw (by simp[lk]) (by simp[lk,Blk.ren,aS,gG,dO,AV.renL,AV.ren,bX,iy]) (by simp[AV.renL,AV.ren,bX,iy,lk]) ?_;rintro r e⟨rfl,c,i⟩;refine⟨[],rfl,?_⟩;rw[List.nil_append]at c;generalize E H0 D=p1 at *;have n:=CB _ p1.1 (p1.2++D) (cL _);rw[b_]at n;simp[go_sem,bZ,bF,c,i,Blk.ren,aS,gG,dO,ff,AV.renL,AV.ren,bX];refine aZ [(0,192),(1,128)] (G8 p1.1 (.d (nb p1.2)) p1.2 D (0+D.length) (.inl rfl) aq h aq) rfl aw (by simp[lk]) (by simp[lk,Blk.ren,aS,gG,dO,ff,AV.renL,AV.ren,bX,iy]) (by simp[AV.renL,AV.ren,bX,iy,lk]) ?_;rintro r e⟨rfl,c,i⟩;refine⟨[],rfl,?_⟩;generalize E p1.1 (p1.2++D)=p2 at *;have o:=CB _ p2.1 (p2.2++b) (cL _);rw[b_]at o;simp[go_sem,bZ,bF,c,i,Blk.ren,aS,gG,dO,ff,AV.renL,AV.ren,bX];refine aZ [(0,192)] (Qu p2.1 (.d (nb p2.2)) p2.2 b (0+D.length+D.length) (.inl rfl) aq aq) rfl aw (by simp[lk]) (by simp[lk,Blk.ren,aS,gG,dO,ff,AV.renL,AV.ren,bX,iy]) (by simp[AV.renL,AV.ren,bX,iy,lk]) ?_;rintro r e⟨rfl,c⟩;refine⟨[],rfl,?_⟩;generalize E p2.1 (p2.2++b)=p3 at *;simp[go_sem,bZ,bF,c,i,Blk.ren,aS,gG,dO,ff,AV.renL,AV.ren,bX];refine aZ [(0,192)] (E4 p3.1 (.d (nb p3.2)) p3.2 (0+D.length+D.length+b.length) (.inl rfl) aq) rfl aw (by simp[lk]) (by simp[lk,Blk.ren,aS,gG,ff,AV.ren,bX,iy]) (by simp[AV.renL,AV.ren,bX,iy,lk]) ?_;rintro r e⟨rfl,c⟩;refine⟨[],rfl,?_⟩;have p:IP (tO (lastOf p3.2 (0+D.length+D.length+b.length)).length p3.1 (lastOf p3.2 (0+D.length+D.length+b.length))).1=b7 (D++(D++b)):=g;rw[p];have m:=bo (D++(D++b));generalize b7 (D++(D++b))=R at *;simp[go_sem,bZ,bF,c,Blk.ren,aS,gG,ff,dO,AV.ren,bX,ai,m,al m,bK];exact ae (by simp[AV.deep];exact aW _) rfl
end Go.Proofs.YtmfnimjnneflnaaGreat
