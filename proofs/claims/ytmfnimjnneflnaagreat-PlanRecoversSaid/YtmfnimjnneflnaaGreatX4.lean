/-
 Part 5 of what the claim rests on.
-/
import Derived.Test.YtmfnimjnneflnaaGreatX2
import Derived.Test.YtmfnimjnneflnaaGreatX3
import Derived.Test.YtmfnimjnneflnaaGreatRows
set_option linter.unusedVariables false
set_option linter.unusedSimpArgs false
set_option maxRecDepth 100000
set_option maxHeartbeats 16000000
namespace Go.Proofs.YtmfnimjnneflnaaGreat
open Go.Am
@[go_sem] theorem k2:ca Tryz.prog 2=.scal:=by kernel_rfl
@[go_sem] theorem c2:Tryz.prog.cellsOf 2=1:=by kernel_rfl
@[go_sem] theorem b2:Tryz.prog.bytesOf 2=8:=by kernel_rfl
@[go_sem] theorem z2:fQ Tryz.prog 2=some [.d (.int .i64 0)]:=by kernel_rfl
@[go_sem] theorem i2:j8 Tryz.prog 2=some .i64:=by kernel_rfl
@[go_sem] theorem u2:(Tryz.prog.underlying 2).isSome=true:=by kernel_rfl
@[go_sem] theorem k3:ca Tryz.prog 3=.scal:=by kernel_rfl
@[go_sem] theorem c3:Tryz.prog.cellsOf 3=1:=by kernel_rfl
@[go_sem] theorem b3:Tryz.prog.bytesOf 3=8:=by kernel_rfl
@[go_sem] theorem z3:fQ Tryz.prog 3=some [.d (.int .i64 0)]:=by kernel_rfl
@[go_sem] theorem i3:j8 Tryz.prog 3=some .i64:=by kernel_rfl
@[go_sem] theorem u3:(Tryz.prog.underlying 3).isSome=true:=by kernel_rfl
@[go_sem] theorem k4:ca Tryz.prog 4=.scal:=by kernel_rfl
@[go_sem] theorem c4:Tryz.prog.cellsOf 4=1:=by kernel_rfl
@[go_sem] theorem b4:Tryz.prog.bytesOf 4=1:=by kernel_rfl
@[go_sem] theorem z4:fQ Tryz.prog 4=some [.d (.bool false)]:=by kernel_rfl
@[go_sem] theorem u4:(Tryz.prog.underlying 4).isSome=true:=by kernel_rfl
@[go_sem] theorem k5:ca Tryz.prog 5=.scal:=by kernel_rfl
@[go_sem] theorem c5:Tryz.prog.cellsOf 5=1:=by kernel_rfl
@[go_sem] theorem b5:Tryz.prog.bytesOf 5=1:=by kernel_rfl
@[go_sem] theorem z5:fQ Tryz.prog 5=some [.d (.int .u8 0)]:=by kernel_rfl
@[go_sem] theorem i5:j8 Tryz.prog 5=some .u8:=by kernel_rfl
@[go_sem] theorem u5:(Tryz.prog.underlying 5).isSome=true:=by kernel_rfl
@[go_sem] theorem k9:ca Tryz.prog 9=.str:=by kernel_rfl
@[go_sem] theorem c9:Tryz.prog.cellsOf 9=1:=by kernel_rfl
@[go_sem] theorem b9:Tryz.prog.bytesOf 9=16:=by kernel_rfl
@[go_sem] theorem z9:fQ Tryz.prog 9=some [.d (.str [])]:=by kernel_rfl
@[go_sem] theorem u9:(Tryz.prog.underlying 9).isSome=true:=by kernel_rfl
@[go_sem] theorem k22:ca Tryz.prog 22=.scal:=by kernel_rfl
@[go_sem] theorem c22:Tryz.prog.cellsOf 22=1:=by kernel_rfl
@[go_sem] theorem b22:Tryz.prog.bytesOf 22=4:=by kernel_rfl
@[go_sem] theorem z22:fQ Tryz.prog 22=some [.d (.int .u32 0)]:=by kernel_rfl
@[go_sem] theorem i22:j8 Tryz.prog 22=some .u32:=by kernel_rfl
@[go_sem] theorem u22:(Tryz.prog.underlying 22).isSome=true:=by kernel_rfl
@[go_sem] theorem k23:ca Tryz.prog 23=.slice 68:=by kernel_rfl
@[go_sem] theorem c23:Tryz.prog.cellsOf 23=1:=by kernel_rfl
@[go_sem] theorem b23:Tryz.prog.bytesOf 23=24:=by kernel_rfl
@[go_sem] theorem z23:fQ Tryz.prog 23=some [.nil]:=by kernel_rfl
@[go_sem] theorem u23:(Tryz.prog.underlying 23).isSome=true:=by kernel_rfl
@[go_sem] theorem k24:ca Tryz.prog 24=.slice 57:=by kernel_rfl
@[go_sem] theorem c24:Tryz.prog.cellsOf 24=1:=by kernel_rfl
@[go_sem] theorem b24:Tryz.prog.bytesOf 24=24:=by kernel_rfl
@[go_sem] theorem z24:fQ Tryz.prog 24=some [.nil]:=by kernel_rfl
@[go_sem] theorem u24:(Tryz.prog.underlying 24).isSome=true:=by kernel_rfl
@[go_sem] theorem k26:ca Tryz.prog 26=.struct [(0,22),(1,23),(2,24),(3,22)]:=by kernel_rfl
@[go_sem] theorem c26:Tryz.prog.cellsOf 26=4:=by kernel_rfl
@[go_sem] theorem b26:Tryz.prog.bytesOf 26=64:=by kernel_rfl
@[go_sem] theorem z26:fQ Tryz.prog 26=some [.d (.int .u32 0),.nil,.nil,.d (.int .u32 0)]:=by kernel_rfl
@[go_sem] theorem u26:(Tryz.prog.underlying 26).isSome=true:=by kernel_rfl
@[go_sem] theorem k28:ca Tryz.prog 28=.struct [(0,26),(4,3),(5,24)]:=by kernel_rfl
@[go_sem] theorem c28:Tryz.prog.cellsOf 28=6:=by kernel_rfl
@[go_sem] theorem b28:Tryz.prog.bytesOf 28=96:=by kernel_rfl
@[go_sem] theorem z28:fQ Tryz.prog 28=some [.d (.int .u32 0),.nil,.nil,.d (.int .u32 0),.d (.int .i64 0),.nil]:=by kernel_rfl
@[go_sem] theorem u28:(Tryz.prog.underlying 28).isSome=true:=by kernel_rfl
@[go_sem] theorem k29:ca Tryz.prog 29=.arr 32 5:=by kernel_rfl
@[go_sem] theorem c29:Tryz.prog.cellsOf 29=32:=by kernel_rfl
@[go_sem] theorem b29:Tryz.prog.bytesOf 29=32:=by kernel_rfl
@[go_sem] theorem u29:(Tryz.prog.underlying 29).isSome=true:=by kernel_rfl
@[go_sem] theorem k30:ca Tryz.prog 30=.slice 29:=by kernel_rfl
@[go_sem] theorem c30:Tryz.prog.cellsOf 30=1:=by kernel_rfl
@[go_sem] theorem b30:Tryz.prog.bytesOf 30=24:=by kernel_rfl
@[go_sem] theorem z30:fQ Tryz.prog 30=some [.nil]:=by kernel_rfl
@[go_sem] theorem u30:(Tryz.prog.underlying 30).isSome=true:=by kernel_rfl
@[go_sem] theorem k31:ca Tryz.prog 31=.slice 5:=by kernel_rfl
@[go_sem] theorem c31:Tryz.prog.cellsOf 31=1:=by kernel_rfl
@[go_sem] theorem b31:Tryz.prog.bytesOf 31=24:=by kernel_rfl
@[go_sem] theorem z31:fQ Tryz.prog 31=some [.nil]:=by kernel_rfl
@[go_sem] theorem u31:(Tryz.prog.underlying 31).isSome=true:=by kernel_rfl
@[go_sem] theorem ae6:ca Tryz.prog 32=.struct [(0,29),(32,30),(33,31)]:=by kernel_rfl
@[go_sem] theorem ae7:Tryz.prog.cellsOf 32=34:=by kernel_rfl
@[go_sem] theorem ae8:Tryz.prog.bytesOf 32=80:=by kernel_rfl
@[go_sem] theorem ae9:(Tryz.prog.underlying 32).isSome=true:=by kernel_rfl
@[go_sem] theorem k33:ca Tryz.prog 33=.struct [(0,29),(32,30),(33,31)]:=by kernel_rfl
@[go_sem] theorem c33:Tryz.prog.cellsOf 33=34:=by kernel_rfl
@[go_sem] theorem b33:Tryz.prog.bytesOf 33=80:=by kernel_rfl
@[go_sem] theorem u33:(Tryz.prog.underlying 33).isSome=true:=by kernel_rfl
@[go_sem] theorem k34:ca Tryz.prog 34=.slice 31:=by kernel_rfl
@[go_sem] theorem c34:Tryz.prog.cellsOf 34=1:=by kernel_rfl
@[go_sem] theorem b34:Tryz.prog.bytesOf 34=24:=by kernel_rfl
@[go_sem] theorem z34:fQ Tryz.prog 34=some [.nil]:=by kernel_rfl
@[go_sem] theorem u34:(Tryz.prog.underlying 34).isSome=true:=by kernel_rfl
@[go_sem] theorem k42:ca Tryz.prog 42=.struct [(0,5),(1,31)]:=by kernel_rfl
@[go_sem] theorem c42:Tryz.prog.cellsOf 42=2:=by kernel_rfl
@[go_sem] theorem b42:Tryz.prog.bytesOf 42=32:=by kernel_rfl
@[go_sem] theorem z42:fQ Tryz.prog 42=some [.d (.int .u8 0),.nil]:=by kernel_rfl
@[go_sem] theorem u42:(Tryz.prog.underlying 42).isSome=true:=by kernel_rfl
@[go_sem] theorem k44:ca Tryz.prog 44=.slice 42:=by kernel_rfl
@[go_sem] theorem c44:Tryz.prog.cellsOf 44=1:=by kernel_rfl
@[go_sem] theorem b44:Tryz.prog.bytesOf 44=24:=by kernel_rfl
@[go_sem] theorem z44:fQ Tryz.prog 44=some [.nil]:=by kernel_rfl
@[go_sem] theorem u44:(Tryz.prog.underlying 44).isSome=true:=by kernel_rfl
@[go_sem] theorem k45:ca Tryz.prog 45=.slice 55:=by kernel_rfl
@[go_sem] theorem c45:Tryz.prog.cellsOf 45=1:=by kernel_rfl
@[go_sem] theorem b45:Tryz.prog.bytesOf 45=24:=by kernel_rfl
@[go_sem] theorem z45:fQ Tryz.prog 45=some [.nil]:=by kernel_rfl
@[go_sem] theorem u45:(Tryz.prog.underlying 45).isSome=true:=by kernel_rfl
@[go_sem] theorem k46:ca Tryz.prog 46=.scal:=by kernel_rfl
@[go_sem] theorem c46:Tryz.prog.cellsOf 46=1:=by kernel_rfl
@[go_sem] theorem b46:Tryz.prog.bytesOf 46=8:=by kernel_rfl
@[go_sem] theorem z46:fQ Tryz.prog 46=some [.d (.int .i64 0)]:=by kernel_rfl
@[go_sem] theorem i46:j8 Tryz.prog 46=some .i64:=by kernel_rfl
@[go_sem] theorem u46:(Tryz.prog.underlying 46).isSome=true:=by kernel_rfl
@[go_sem] theorem k53:ca Tryz.prog 53=.scal:=by kernel_rfl
@[go_sem] theorem c53:Tryz.prog.cellsOf 53=1:=by kernel_rfl
@[go_sem] theorem b53:Tryz.prog.bytesOf 53=8:=by kernel_rfl
@[go_sem] theorem z53:fQ Tryz.prog 53=some [.d (.int .u64 0)]:=by kernel_rfl
@[go_sem] theorem i53:j8 Tryz.prog 53=some .u64:=by kernel_rfl
@[go_sem] theorem u53:(Tryz.prog.underlying 53).isSome=true:=by kernel_rfl
@[go_sem] theorem k55:ca Tryz.prog 55=.struct [(0,3),(1,53)]:=by kernel_rfl
@[go_sem] theorem c55:Tryz.prog.cellsOf 55=2:=by kernel_rfl
@[go_sem] theorem b55:Tryz.prog.bytesOf 55=16:=by kernel_rfl
@[go_sem] theorem z55:fQ Tryz.prog 55=some [.d (.int .i64 0),.d (.int .u64 0)]:=by kernel_rfl
@[go_sem] theorem u55:(Tryz.prog.underlying 55).isSome=true:=by kernel_rfl
@[go_sem] theorem k57:ca Tryz.prog 57=.struct [(0,53),(1,31)]:=by kernel_rfl
@[go_sem] theorem c57:Tryz.prog.cellsOf 57=2:=by kernel_rfl
@[go_sem] theorem b57:Tryz.prog.bytesOf 57=32:=by kernel_rfl
@[go_sem] theorem z57:fQ Tryz.prog 57=some [.d (.int .u64 0),.nil]:=by kernel_rfl
@[go_sem] theorem u57:(Tryz.prog.underlying 57).isSome=true:=by kernel_rfl
@[go_sem] theorem k66:ca Tryz.prog 66=.struct [(0,29),(32,22)]:=by kernel_rfl
@[go_sem] theorem c66:Tryz.prog.cellsOf 66=33:=by kernel_rfl
@[go_sem] theorem b66:Tryz.prog.bytesOf 66=36:=by kernel_rfl
@[go_sem] theorem u66:(Tryz.prog.underlying 66).isSome=true:=by kernel_rfl
@[go_sem] theorem k68:ca Tryz.prog 68=.struct [(0,66),(33,22),(34,34)]:=by kernel_rfl
@[go_sem] theorem c68:Tryz.prog.cellsOf 68=35:=by kernel_rfl
@[go_sem] theorem b68:Tryz.prog.bytesOf 68=64:=by kernel_rfl
@[go_sem] theorem u68:(Tryz.prog.underlying 68).isSome=true:=by kernel_rfl
@[go_sem] theorem k73:ca Tryz.prog 73=.arr 2 2:=by kernel_rfl
@[go_sem] theorem c73:Tryz.prog.cellsOf 73=2:=by kernel_rfl
@[go_sem] theorem b73:Tryz.prog.bytesOf 73=16:=by kernel_rfl
@[go_sem] theorem z73:fQ Tryz.prog 73=some [.d (.int .i64 0),.d (.int .i64 0)]:=by kernel_rfl
@[go_sem] theorem u73:(Tryz.prog.underlying 73).isSome=true:=by kernel_rfl
@[go_sem] theorem k76:ca Tryz.prog 76=.struct [(0,29),(32,31),(33,2),(34,29)]:=by kernel_rfl
@[go_sem] theorem c76:Tryz.prog.cellsOf 76=66:=by kernel_rfl
@[go_sem] theorem b76:Tryz.prog.bytesOf 76=96:=by kernel_rfl
@[go_sem] theorem u76:(Tryz.prog.underlying 76).isSome=true:=by kernel_rfl
@[go_sem] theorem k78:ca Tryz.prog 78=.slice 33:=by kernel_rfl
@[go_sem] theorem c78:Tryz.prog.cellsOf 78=1:=by kernel_rfl
@[go_sem] theorem b78:Tryz.prog.bytesOf 78=24:=by kernel_rfl
@[go_sem] theorem z78:fQ Tryz.prog 78=some [.nil]:=by kernel_rfl
@[go_sem] theorem u78:(Tryz.prog.underlying 78).isSome=true:=by kernel_rfl
@[go_sem] theorem k96:ca Tryz.prog 96=.arr 4 53:=by kernel_rfl
@[go_sem] theorem c96:Tryz.prog.cellsOf 96=4:=by kernel_rfl
@[go_sem] theorem b96:Tryz.prog.bytesOf 96=32:=by kernel_rfl
@[go_sem] theorem z96:fQ Tryz.prog 96=some [.d (.int .u64 0),.d (.int .u64 0),.d (.int .u64 0),.d (.int .u64 0)]:=by kernel_rfl
@[go_sem] theorem u96:(Tryz.prog.underlying 96).isSome=true:=by kernel_rfl
@[go_sem] theorem k139:ca Tryz.prog 139=.arr 3 29:=by kernel_rfl
@[go_sem] theorem c139:Tryz.prog.cellsOf 139=96:=by kernel_rfl
@[go_sem] theorem b139:Tryz.prog.bytesOf 139=96:=by kernel_rfl
@[go_sem] theorem u139:(Tryz.prog.underlying 139).isSome=true:=by kernel_rfl
@[go_sem] theorem k143:ca Tryz.prog 143=.arr 5 29:=by kernel_rfl
@[go_sem] theorem c143:Tryz.prog.cellsOf 143=160:=by kernel_rfl
@[go_sem] theorem b143:Tryz.prog.bytesOf 143=160:=by kernel_rfl
@[go_sem] theorem u143:(Tryz.prog.underlying 143).isSome=true:=by kernel_rfl
@[go_sem] theorem k155:ca Tryz.prog 155=.struct [(0,34),(1,34)]:=by kernel_rfl
@[go_sem] theorem c155:Tryz.prog.cellsOf 155=2:=by kernel_rfl
@[go_sem] theorem b155:Tryz.prog.bytesOf 155=48:=by kernel_rfl
@[go_sem] theorem z155:fQ Tryz.prog 155=some [.nil,.nil]:=by kernel_rfl
@[go_sem] theorem u155:(Tryz.prog.underlying 155).isSome=true:=by kernel_rfl
@[go_sem] theorem k156:ca Tryz.prog 156=.slice 4:=by kernel_rfl
@[go_sem] theorem c156:Tryz.prog.cellsOf 156=1:=by kernel_rfl
@[go_sem] theorem b156:Tryz.prog.bytesOf 156=24:=by kernel_rfl
@[go_sem] theorem z156:fQ Tryz.prog 156=some [.nil]:=by kernel_rfl
@[go_sem] theorem u156:(Tryz.prog.underlying 156).isSome=true:=by kernel_rfl
@[go_sem] theorem k158:ca Tryz.prog 158=.struct [(0,28),(6,33),(40,31),(41,155),(43,156),(44,3),(45,3),(46,45),(47,46)]:=by kernel_rfl
@[go_sem] theorem c158:Tryz.prog.cellsOf 158=48:=by kernel_rfl
@[go_sem] theorem b158:Tryz.prog.bytesOf 158=320:=by kernel_rfl
@[go_sem] theorem u158:(Tryz.prog.underlying 158).isSome=true:=by kernel_rfl
@[go_sem] theorem k164:ca Tryz.prog 164=.arr 8 22:=by kernel_rfl
@[go_sem] theorem c164:Tryz.prog.cellsOf 164=8:=by kernel_rfl
@[go_sem] theorem b164:Tryz.prog.bytesOf 164=32:=by kernel_rfl
@[go_sem] theorem z164:fQ Tryz.prog 164=some [.d (.int .u32 0),.d (.int .u32 0),.d (.int .u32 0),.d (.int .u32 0),.d (.int .u32 0),.d (.int .u32 0),.d (.int .u32 0),.d (.int .u32 0)]:=by kernel_rfl
@[go_sem] theorem u164:(Tryz.prog.underlying 164).isSome=true:=by kernel_rfl
@[go_sem] theorem k167:ca Tryz.prog 167=.struct [(0,164),(8,31),(9,53)]:=by kernel_rfl
@[go_sem] theorem c167:Tryz.prog.cellsOf 167=10:=by kernel_rfl
@[go_sem] theorem b167:Tryz.prog.bytesOf 167=64:=by kernel_rfl
@[go_sem] theorem z167:fQ Tryz.prog 167=some [.d (.int .u32 0),.d (.int .u32 0),.d (.int .u32 0),.d (.int .u32 0),.d (.int .u32 0),.d (.int .u32 0),.d (.int .u32 0),.d (.int .u32 0),.nil,.d (.int .u64 0)]:=by kernel_rfl
@[go_sem] theorem u167:(Tryz.prog.underlying 167).isSome=true:=by kernel_rfl
@[go_sem] theorem k169:ca Tryz.prog 169=.scal:=by kernel_rfl
@[go_sem] theorem c169:Tryz.prog.cellsOf 169=1:=by kernel_rfl
@[go_sem] theorem b169:Tryz.prog.bytesOf 169=8:=by kernel_rfl
@[go_sem] theorem z169:fQ Tryz.prog 169=some [.d (.int .u64 0)]:=by kernel_rfl
@[go_sem] theorem i169:j8 Tryz.prog 169=some .u64:=by kernel_rfl
@[go_sem] theorem u169:(Tryz.prog.underlying 169).isSome=true:=by kernel_rfl
@[go_sem] theorem k172:ca Tryz.prog 172=.slice 174:=by kernel_rfl
@[go_sem] theorem c172:Tryz.prog.cellsOf 172=1:=by kernel_rfl
@[go_sem] theorem b172:Tryz.prog.bytesOf 172=24:=by kernel_rfl
@[go_sem] theorem z172:fQ Tryz.prog 172=some [.nil]:=by kernel_rfl
@[go_sem] theorem u172:(Tryz.prog.underlying 172).isSome=true:=by kernel_rfl
@[go_sem] theorem k174:ca Tryz.prog 174=.struct [(0,29),(32,3),(33,3)]:=by kernel_rfl
@[go_sem] theorem c174:Tryz.prog.cellsOf 174=34:=by kernel_rfl
@[go_sem] theorem b174:Tryz.prog.bytesOf 174=48:=by kernel_rfl
@[go_sem] theorem u174:(Tryz.prog.underlying 174).isSome=true:=by kernel_rfl
@[go_sem] theorem k189:ca Tryz.prog 189=.struct [(0,96),(4,96),(8,4)]:=by kernel_rfl
@[go_sem] theorem c189:Tryz.prog.cellsOf 189=9:=by kernel_rfl
@[go_sem] theorem b189:Tryz.prog.bytesOf 189=72:=by kernel_rfl
@[go_sem] theorem z189:fQ Tryz.prog 189=some [.d (.int .u64 0),.d (.int .u64 0),.d (.int .u64 0),.d (.int .u64 0),.d (.int .u64 0),.d (.int .u64 0),.d (.int .u64 0),.d (.int .u64 0),.d (.bool false)]:=by kernel_rfl
@[go_sem] theorem u189:(Tryz.prog.underlying 189).isSome=true:=by kernel_rfl
@[go_sem] theorem k204:ca Tryz.prog 204=.arr 2 34:=by kernel_rfl
@[go_sem] theorem c204:Tryz.prog.cellsOf 204=2:=by kernel_rfl
@[go_sem] theorem b204:Tryz.prog.bytesOf 204=48:=by kernel_rfl
@[go_sem] theorem z204:fQ Tryz.prog 204=some [.nil,.nil]:=by kernel_rfl
@[go_sem] theorem u204:(Tryz.prog.underlying 204).isSome=true:=by kernel_rfl
@[go_sem] theorem k211:ca Tryz.prog 211=.arr 64 22:=by kernel_rfl
@[go_sem] theorem c211:Tryz.prog.cellsOf 211=64:=by kernel_rfl
@[go_sem] theorem b211:Tryz.prog.bytesOf 211=256:=by kernel_rfl
@[go_sem] theorem u211:(Tryz.prog.underlying 211).isSome=true:=by kernel_rfl
@[go_sem] theorem k217:ca Tryz.prog 217=.scal:=by kernel_rfl
@[go_sem] theorem c217:Tryz.prog.cellsOf 217=1:=by kernel_rfl
@[go_sem] theorem b217:Tryz.prog.bytesOf 217=2:=by kernel_rfl
@[go_sem] theorem z217:fQ Tryz.prog 217=some [.d (.int .u16 0)]:=by kernel_rfl
@[go_sem] theorem i217:j8 Tryz.prog 217=some .u16:=by kernel_rfl
@[go_sem] theorem u217:(Tryz.prog.underlying 217).isSome=true:=by kernel_rfl
@[go_sem] theorem k226:ca Tryz.prog 226=.arr 8 53:=by kernel_rfl
@[go_sem] theorem c226:Tryz.prog.cellsOf 226=8:=by kernel_rfl
@[go_sem] theorem b226:Tryz.prog.bytesOf 226=64:=by kernel_rfl
@[go_sem] theorem z226:fQ Tryz.prog 226=some [.d (.int .u64 0),.d (.int .u64 0),.d (.int .u64 0),.d (.int .u64 0),.d (.int .u64 0),.d (.int .u64 0),.d (.int .u64 0),.d (.int .u64 0)]:=by kernel_rfl
@[go_sem] theorem u226:(Tryz.prog.underlying 226).isSome=true:=by kernel_rfl
@[go_sem] theorem k243:ca Tryz.prog 243=.struct [(0,96),(4,96),(8,96)]:=by kernel_rfl
@[go_sem] theorem c243:Tryz.prog.cellsOf 243=12:=by kernel_rfl
@[go_sem] theorem b243:Tryz.prog.bytesOf 243=96:=by kernel_rfl
@[go_sem] theorem z243:fQ Tryz.prog 243=some [.d (.int .u64 0),.d (.int .u64 0),.d (.int .u64 0),.d (.int .u64 0),.d (.int .u64 0),.d (.int .u64 0),.d (.int .u64 0),.d (.int .u64 0),.d (.int .u64 0),.d (.int .u64 0),.d (.int .u64 0),.d (.int .u64 0)]:=by kernel_rfl
@[go_sem] theorem u243:(Tryz.prog.underlying 243).isSome=true:=by kernel_rfl
@[go_sem] theorem k283:ca Tryz.prog 283=.struct [(0,34),(1,34),(2,46)]:=by kernel_rfl
@[go_sem] theorem c283:Tryz.prog.cellsOf 283=3:=by kernel_rfl
@[go_sem] theorem b283:Tryz.prog.bytesOf 283=56:=by kernel_rfl
@[go_sem] theorem z283:fQ Tryz.prog 283=some [.nil,.nil,.d (.int .i64 0)]:=by kernel_rfl
@[go_sem] theorem u283:(Tryz.prog.underlying 283).isSome=true:=by kernel_rfl
@[go_sem] theorem k290:ca Tryz.prog 290=.slice 2:=by kernel_rfl
@[go_sem] theorem c290:Tryz.prog.cellsOf 290=1:=by kernel_rfl
@[go_sem] theorem b290:Tryz.prog.bytesOf 290=24:=by kernel_rfl
@[go_sem] theorem z290:fQ Tryz.prog 290=some [.nil]:=by kernel_rfl
@[go_sem] theorem u290:(Tryz.prog.underlying 290).isSome=true:=by kernel_rfl
@[go_sem] theorem k295:ca Tryz.prog 295=.slice 3:=by kernel_rfl
@[go_sem] theorem c295:Tryz.prog.cellsOf 295=1:=by kernel_rfl
@[go_sem] theorem b295:Tryz.prog.bytesOf 295=24:=by kernel_rfl
@[go_sem] theorem z295:fQ Tryz.prog 295=some [.nil]:=by kernel_rfl
@[go_sem] theorem u295:(Tryz.prog.underlying 295).isSome=true:=by kernel_rfl
end Go.Proofs.YtmfnimjnneflnaaGreat
namespace Go.Sha
open Go.Am
def M:Nat:=4294967296
def mO(a b:Nat):Nat:=(a+b)%4294967296
def oR(a b:Nat):Nat:=(a ^^^ b)%4294967296
def Dz(a b:Nat):Nat:=(a &&& b)%4294967296
def o32(a b:Nat):Nat:=(a ||| b)%4294967296
def c32(a:Nat):Nat:=(4294967295 ^^^ a)%4294967296
def s32(n a:Nat):Nat:=a*2 ^ n%4294967296
def eQ(n a:Nat):Nat:=a/2 ^ n
def zq(a:Nat):Nat:=a%4294967296
def t8(a:Nat):Nat:=a%256
def qV(s x:Nat):Nat:=o32 (s32 s x) (eQ (32-s) x)
theorem SH(x:Int):IntKind.u32.wrap x=x%4294967296:=by simp[IntKind.wrap,IntKind.bits,IntKind.signed]
theorem iK(x:Int):IntKind.u64.wrap x=x%18446744073709551616:=by simp[IntKind.wrap,IntKind.bits,IntKind.signed]
theorem LJ(x:Int):IntKind.u8.wrap x=x%256:=by simp[IntKind.wrap,IntKind.bits,IntKind.signed]
theorem fS(k:Nat)(a:Nat):(BitVec.ofInt k (a:Int)).toNat=a%2 ^ k:=by
 rw[BitVec.toNat_ofInt];omega
theorem il(a b:Nat):IntKind.u32.wrap ((a:Int)+(b:Int))=((mO a b:Nat):Int):=by rw[SH];unfold mO;omega
theorem DC(a:Nat):IntKind.u32.wrap (a:Int)=((zq a:Nat):Int):=by rw[SH];unfold zq;omega
theorem fY(a:Nat):IntKind.u8.wrap (a:Int)=((t8 a:Nat):Int):=by rw[LJ];unfold t8;omega
theorem VA(a b:Nat):IntKind.u32.wrap ((a:Int)*(b:Int))=((a*b%4294967296:Nat):Int):=by
 rw[SH,←Int.natCast_mul];omega
theorem aaL(a n:Nat):IntKind.u32.wrap ((a:Int)*2 ^ n)=((s32 n a:Nat):Int):=by
 have:=VA a (2 ^ n);rw[Int.natCast_pow]at this;exact this
theorem adM(a:Nat):IntKind.u32.wrap ((a:Int)*256)=((s32 8 a:Nat):Int):=VA a 256
theorem ji(a b:Nat):bits .xor .u32 (a:Int) (b:Int)=((oR a b:Nat):Int):=by
 show IntKind.u32.wrap (((BitVec.ofInt 32 (a:Int)) ^^^ (BitVec.ofInt 32 (b:Int))).toNat:Int)=_;rw[BitVec.toNat_xor,fS,fS,←Nat.xor_mod_two_pow,DC];unfold oR zq;congr 1;omega
theorem kE(a b:Nat):bits .and .u32 (a:Int) (b:Int)=((Dz a b:Nat):Int):=by
 show IntKind.u32.wrap (((BitVec.ofInt 32 (a:Int)) &&& (BitVec.ofInt 32 (b:Int))).toNat:Int)=_;rw[BitVec.toNat_and,fS,fS,←Nat.and_mod_two_pow,DC];unfold Dz zq;congr 1;omega
theorem aaM(a b:Nat):bits .or .u32 (a:Int) (b:Int)=((o32 a b:Nat):Int):=by
 show IntKind.u32.wrap (((BitVec.ofInt 32 (a:Int)) ||| (BitVec.ofInt 32 (b:Int))).toNat:Int)=_;rw[BitVec.toNat_or,fS,fS,←Nat.or_mod_two_pow,DC];unfold o32 zq;congr 1;omega
theorem VB(a:Nat):bits .xor .u32 4294967295 (a:Int)=((c32 a:Nat):Int):=ji 4294967295 a
theorem gn(a b:Nat):Int.fdiv (a:Int) (b:Int)=((a/b:Nat):Int):=by
 rw[Int.fdiv_eq_ediv_of_nonneg _ aq];exact(Int.natCast_ediv a b).symm
theorem d_r(a n:Nat):Int.fdiv (a:Int) (2 ^ n)=((eQ n a:Nat):Int):=by
 have:=gn a (2 ^ n);rw[Int.natCast_pow]at this;exact this
theorem adN(a:Nat):Int.fdiv (a:Int) 8=((eQ 3 a:Nat):Int):=gn a 8
theorem aaO(a:Nat):Int.fdiv (a:Int) 1024=((eQ 10 a:Nat):Int):=gn a 1024
def cw(l:List Nat):List AV:=l.map fun(x:Nat)=>AV.d (.int .u32 (x:Int))
theorem A5(l:List Nat):(cw l).length=l.length:=by simp[cw]
theorem nG(l:List Nat)(i:Nat):(cw l)[i]?=(l[i]?).map fun(x:Nat)=>AV.d (.int .u32 (x:Int)):=by simp[cw]
theorem Gg(l:List Nat)(i x:Nat):(cw l).set i (.d (.int .u32 (x:Int)))=cw (l.set i x):=by simp[cw,List.map_set]
theorem NF(ρ:Nat→Nat):∀l:List Nat,AV.renL ρ (cw l)=cw l
 |[]=>by simp[cw,AV.renL]
 |x::r=>by
  have:=NF ρ r;simp only[cw]at this;simp only[cw,List.map_cons,AV.renL,AV.ren,this]
def nb(a:List Nat):DV:=.ro 1 (a.map fun(b:Nat)=>[.int .u8 (b:Int)])
structure S8 where
 a:Nat
 b:Nat
 c:Nat
 d:Nat
 e:Nat
 f:Nat
 g:Nat
 h:Nat
def S8.l(s:S8):List Nat:=[s.a,s.b,s.c,s.d,s.e,s.f,s.g,s.h]
def T1(s:S8)(k w:Nat):Nat:=mO (mO (mO (mO s.h (oR (oR (qV 26 s.e) (qV 21 s.e)) (qV 7 s.e))) (oR (Dz s.e s.f) (Dz (c32 s.e) s.g))) k) w
def T2(s:S8):Nat:=mO (oR (oR (qV 30 s.a) (qV 19 s.a)) (qV 10 s.a)) (oR (oR (Dz s.a s.b) (Dz s.a s.c)) (Dz s.b s.c))
def rd(s:S8)(k w:Nat):S8:=⟨mO (T1 s k w) (T2 s),s.a,s.b,s.c,mO s.d (T1 s k w),s.e,s.f,s.g⟩
def If(s:S8)(p:Nat×Nat):S8:=rd s p.1 p.2
section
variable {α β:Type} (f:β→α→β)
def qJ(t:Nat)(l:List α)(s:β):β:=(l.drop t).foldl f s
theorem wW{l:List α}{p:α}{s:β}{t:Nat}(h:l[t]?=some p):qJ f t l s=qJ f (t+1) l (f s p):=by
 obtain⟨a,b⟩:=ci.1 h;unfold qJ;rw[List.drop_eq_getElem_cons a,List.foldl_cons,b]
theorem zr{l:List α}{s:β}{t:Nat}(h:l.length≤t):qJ f t l s=s:=by
 unfold qJ;rw[dg h,List.foldl_nil]
end
def Gh(b a:List Nat)(s:S8):S8:=qJ If 0 (b.zip a) s
def DD(s v:S8):S8:=⟨mO s.a v.a,mO s.b v.b,mO s.c v.c,mO s.d v.d,mO s.e v.e,mO s.f v.f,mO s.g v.g,mO s.h v.h⟩
def sA(b:List Nat):Nat:=b.foldl (fun x c=>o32 (s32 8 x) (zq c)) 0
def wx(w:List Nat):Nat :=
 let t:=w.length
 let x:=w.getD (t-15) 0
 let y:=w.getD (t-2) 0
 let s0:=oR (oR (qV 25 x) (qV 14 x)) (eQ 3 x)
 let s1:=oR (oR (qV 15 y) (qV 13 y)) (eQ 10 y)
 mO (mO (mO (w.getD (t-16) 0) s0) (w.getD (t-7) 0)) s1
def jj(b:List Nat):Nat→List Nat
 |0=>[]
 |n+1=>jj b n++[sA ((b.take (4*n+4)).drop (4*n))]
def dD(b:List Nat):Nat→List Nat
 |0=>jj b 16
 |n+1=>dD b n++[wx (dD b n)]
theorem qW(b:List Nat):∀n,(jj b n).length=n
 |0=>rfl
 |n+1=>by simp[jj,qW b n]
theorem pI(b:List Nat):∀n,(dD b n).length=n+16
 |0=>qW b 16
 |n+1=>by
  have:=pI b n;simp only[dD,b_,this,List.length_singleton]
def sB(b:List Nat):List Nat:=dD b 48
theorem tY(b:List Nat):(sB b).length=64:=pI b 48
def K:List Nat:=[0x428a2f98,0x71374491,0xb5c0fbcf,0xe9b5dba5,0x3956c25b,0x59f111f1,0x923f82a4,0xab1c5ed5]++[0xd807aa98,0x12835b01,0x243185be,0x550c7dc3,0x72be5d74,0x80deb1fe,0x9bdc06a7,0xc19bf174] ++
 [0xe49b69c1,0xefbe4786,0x0fc19dc6,0x240ca1cc,0x2de92c6f,0x4a7484aa,0x5cb0a9dc,0x76f988da]++[0x983e5152,0xa831c66d,0xb00327c8,0xbf597fc7,0xc6e00bf3,0xd5a79147,0x06ca6351,0x14292967] ++
 [0x27b70a85,0x2e1b2138,0x4d2c6dfc,0x53380d13,0x650a7354,0x766a0abb,0x81c2c92e,0x92722c85]++[0xa2bfe8a1,0xa81a664b,0xc24b8b70,0xc76c51a3,0xd192e819,0xd6990624,0xf40e3585,0x106aa070] ++
 [0x19a4c116,0x1e376c08,0x2748774c,0x34b0bcb5,0x391c0cb3,0x4ed8aa4a,0x5b9cca4f,0x682e6ff3]++[0x748f82ee,0x78a5636f,0x84c87814,0x8cc70208,0x90befffa,0xa4506ceb,0xbef9a3f7,0xc67178f2]
def H0:S8:=⟨0x6a09e667,0xbb67ae85,0x3c6ef372,0xa54ff53a,0x510e527f,0x9b05688c,0x1f83d9ab,0x5be0cd19⟩
def take(s:S8)(b:List Nat):S8:=DD s (Gh K (sB b) s)
def uM:Nat→S8→List Nat→S8×List Nat
 |0,s,b=>(s,b)
 |n+1,s,b=>if 64≤b.length then uM n (Go.Sha.take s (b.take 64)) (b.drop 64)else(s,b)
def A6(x:Nat):Nat→List Nat
 |0=>[]
 |k+1=>A6 x k++[t8 (eQ (24-8*k) x)]
theorem vG(x:Nat):∀k,(A6 x k).length=k
 |0=>rfl
 |k+1=>by simp[A6,vG x k]
def pre(l:List Nat):Nat→List Nat
 |0=>[]
 |i+1=>pre l i++A6 (l.getD i 0) 4
theorem pK(l:List Nat):∀i,(pre l i).length=4*i
 |0=>rfl
 |i+1=>by simp[pre,pK l i,vG];omega
def Kp(s:S8):List Nat:=pre s.l 8
end Go.Sha
namespace Go.Proofs.YtmfnimjnneflnaaGreat
open Go.Am Go.Sha
def z64:List Nat:=List.replicate 64 0
theorem SI:z64.length=64:=rfl
@[go_sem] theorem afa:fQ Tryz.prog 211=some (cw z64):=by kernel_rfl
attribute [go_sem] SI A5
def cb(l:List Nat):List AV:=l.map fun(x:Nat)=>AV.d (.int .u8 (x:Int))
theorem ak(l:List Nat):(cb l).length=l.length:=by simp[cb]
theorem Gi(l:List Nat)(i:Nat):(cb l)[i]?=(l[i]?).map fun(x:Nat)=>AV.d (.int .u8 (x:Int)):=by simp[cb]
theorem Gj(l:List Nat)(i x:Nat):(cb l).set i (.d (.int .u8 (x:Int)))=cb (l.set i x):=by simp[cb,List.map_set]
theorem aJ(n:Nat)(l:List Nat):∀v,v∈cb l→v.low1 n:=by
 intro c hc;simp only[cb,List.mem_map]at hc;obtain⟨x,_,rfl⟩:=hc;trivial
theorem bn(l:List Nat):∀c,c∈cb l→c.deep1:=by
 intro c hc;simp only[cb,List.mem_map]at hc;obtain⟨x,_,rfl⟩:=hc;trivial
def z32:List Nat:=List.replicate 32 0
theorem SJ:z32.length=32:=rfl
@[go_sem] theorem afb:fQ Tryz.prog 29=some (cb z32):=by kernel_rfl
attribute [go_sem] SJ ak
theorem XE:HQ Tryz.prog 113=true:=by kernel_rfl
attribute [go_sem] XE
theorem gZ(x s:Nat)(k:Int)(e:bits .and .u64 (IntKind.u64.wrap k) 31=(s:Int))(g:s≤31) :
  au Tryz.prog 148 [.d (.int .u32 (x:Int)),.d (.int .i64 k)] (fun r=>r=.d (.int .u32 ((qV s x:Nat):Int))):=by
 refine bF Tryz.func148 Tryz.ntmps148 (rs:=[.tmp 4]) a9 ?_;have a:IntKind.u64.wrap (32-(s:Int))=((32-s:Nat):Int):=by rw[iK];omega
 have b:min s 32=s:=aq;have c:min (32-s) 32=32-s:=aq;simp[go_sem,e,a,b,c,IntKind.bits,ah];refine aa a9 ?_;rw[aaL,d_r,aaM];rfl
theorem Kq:au Tryz.prog 104 [] (fun r=>r=.agg (cw H0.l)):=by
 refine bF Tryz.func104 Tryz.ntmps104 (rs:=[.cell 0 164]) a9 ?_;simp[go_sem,ah,mP];exact aa a9 rfl
theorem SK(l:List Nat):∀c,c∈cw l→c.deep1:=by
 intro c hc;simp only[cw,List.mem_map]at hc;obtain⟨x,_,rfl⟩:=hc;trivial
theorem DF:au Tryz.prog 147 [] (fun r=>r=.agg (cw K)):=by
 refine bF Tryz.func147 Tryz.ntmps147 (rs:=[.cell 0 211]) a9 ?_;have a:fQ Tryz.prog 211=some (List.replicate 64 (.d (.int .u32 0))):=by kernel_rfl
 simp[go_sem,ah,a];exact aa a9 rfl
theorem bg{α:Type}{l:List α}{k:Nat}(h:k<l.length):∃c,l[k]?=some c∧l.drop k=c::l.drop (k+1) :=
 ⟨l[k],cm h,List.drop_eq_getElem_cons h⟩
theorem ay{k:Nat}(h:k<4611686018427387904):IntKind.i64.wrap ((k:Int)+1)=((k+1:Nat):Int):=by
 rw[IntWalk.i64_in _ aq];omega
theorem adO{n:Nat}(h:n<4611686018427387904):IntKind.i64.wrap (n:Int)=(n:Int):=IntWalk.i64_in _ aq
theorem de(n:Nat)(l:List Nat):∀v,v∈cw l→v.low1 n:=by
 intro c hc;simp only[cw,List.mem_map]at hc;obtain⟨x,_,rfl⟩:=hc;trivial
def jL(w:List Nat):List Nat:=w++List.replicate (64-w.length) 0
theorem DG{w:List Nat}(h:w.length≤64):(jL w).length=64:=by simp[jL];omega
theorem DI{w:List Nat}{i:Nat}(h:i<w.length):(jL w)[i]?=some w[i]:=by
 unfold jL;rw[List.getElem?_append_left h,cm h]
theorem wX{w:List Nat}{x:Nat}(h:w.length<64):(jL w).set w.length x=jL (w++[x]):=by
 unfold jL;rw[List.set_append_right _ _ (cR _),Nat.sub_self];obtain⟨k,a⟩:∃k,64-w.length=k+1:=⟨63-w.length,aq⟩;rw[a,List.replicate_succ,List.set_cons_zero,cD];simp only[b_,List.length_singleton,List.singleton_append];rw[show 64-(w.length+1)=k by omega]
theorem Kr{w:List Nat}{x y:Nat}(h:w.length<64):(jL (w++[x])).set w.length y=jL (w++[y]):=by
 rw[←wX h,←wX h,List.set_set]
theorem NG{w:List Nat}{x:Nat}(h:w.length<64):(jL (w++[x]))[w.length]?=some x:=by
 rw[DI aw];simp
theorem Ks{w:List Nat}(h:w.length<64):jL (w++[0])=jL w:=by
 unfold jL;obtain⟨k,a⟩:∃k,64-w.length=k+1:=⟨63-w.length,aq⟩;rw[a,List.replicate_succ,cD];simp only[b_,List.length_singleton,List.singleton_append];rw[show 64-(w.length+1)=k by omega]
theorem Kt(q:List Nat){j c:Nat}(h:q[j]?=some c):sA (q.take (j+1))=o32 (s32 8 (sA (q.take j))) (zq c):=by
 unfold sA;rw[List.take_add_one,h,List.foldl_append];rfl
theorem zu(b:List Nat)(Y:b.length=64):au Tryz.prog 146 [.d (nb b)] (fun r=>r=.agg (cw (sB b))):=by
 refine bF Tryz.func146 Tryz.ntmps146 (rs:=[.cell 2 211]) a9 ?_;simp only[go_sem,Nat.reduceAdd,Nat.reduceLT]
 refine av (fun t:Nat=>⟨[(0,.d (nb b)),(2,.ptr 0 0 0 1),(3,.ptr 32 0 0 1),(12,.d (.int .i64 t))],[(32,⟨211,64,[cw (jL (jj b t))]⟩),(0,⟨211,64,[cw z64]⟩)],96⟩)
  (fun t=>t≤16) (fun t=>16-t) 0 aq (by
   simp[az,ai,fv,lk,AV.low,AV.low1]
   refine⟨⟨rfl,de _ _⟩,de _ _⟩) ?_
 intro t V;have m:=qW b t;have W:IntKind.i64.wrap (4*(t:Int))=((4*t:Nat):Int):=by rw[IntWalk.i64_in _ aq];omega
 have U:IntKind.i64.wrap (((4*t:Nat):Int)+4)=((4*t+4:Nat):Int):=by rw[IntWalk.i64_in _ aq];omega
 simp only[go_sem,Nat.reduceEqDiff,Nat.reduceAdd,Nat.reduceLT,↓reduceIte];refine⟨fun h=>?_,fun h=>?_⟩
 ·have I:((b.take (4*t+4)).drop (4*t)).length=4:=by simp;omega
  have J:((b.map fun(b:Nat)=>[DV.int .u8 (b:Int)]).take (4*t+4)).drop (4*t)=((b.take (4*t+4)).drop (4*t)).map fun(b:Nat)=>[DV.int .u8 (b:Int)]:=by simp[List.map_drop,List.map_take]
  simp only[go_sem,Nat.reduceEqDiff,Nat.reduceAdd,Nat.reduceLT,↓reduceIte,W,U,nb,Int.toNat_natCast,J,List.length_map,I];refine⟨aq,aq,?_⟩
  refine av (fun j:Nat=>⟨[(0,.d (nb b)),(2,.ptr 0 0 0 1),(3,.ptr 32 0 0 1),(12,.d (.int .i64 t)),(4,.d (.int .i64 t)),(21,.d (nb ((b.take (4*t+4)).drop (4*t)))),(22,.d (.int .i64 (4:Nat))),(23,.d (.int .i64 j))],
    [(32,⟨211,64,[cw (jL (jj b t++[sA (((b.take (4*t+4)).drop (4*t)).take j)]))]⟩),(0,⟨211,64,[cw z64]⟩)],480⟩)
   (fun j=>j≤4) (fun j=>4-j) 0 aq (by
    simp[az,ai,fv,lk,AV.low,AV.low1,nb,List.map_drop,List.map_take]
    exact⟨⟨by rw[show sA []=0 from rfl,Ks aq],de _ _⟩,de _ _⟩) ?_
  intro j hj;simp only[go_sem,Nat.reduceEqDiff,Nat.reduceAdd,Nat.reduceLT,↓reduceIte];refine⟨fun R=>?_,fun R=>?_⟩
  ·obtain⟨c,hc,_⟩:=bg (l:=(b.take (4*t+4)).drop (4*t)) (k:=j) aq;have M:(jL (jj b t++[sA (((b.take (4*t+4)).drop (4*t)).take j)]))[t]?=some (sA (((b.take (4*t+4)).drop (4*t)).take j)):=by
    have:=NG (w:=jj b t) (x:=sA (((b.take (4*t+4)).drop (4*t)).take j)) aq;rw[m]at this;exact this
   have E:∀y,(jL (jj b t++[sA (((b.take (4*t+4)).drop (4*t)).take j)])).set t y=jL (jj b t++[y]):=by
    intro y;have:=Kr (w:=jj b t) (x:=sA (((b.take (4*t+4)).drop (4*t)).take j)) (y:=y) aq;rw[m]at this;exact this
   have o:=adO (n:=j+1) aq;have O:(jL (jj b t++[sA (((b.take (4*t+4)).drop (4*t)).take j)])).length=64:=DG (by simp;omega);generalize Z:(b.take (4*t+4)).drop (4*t)=q at *;simp[go_sem,nb,hc,nG,M,IntKind.bits,adM,DC,aaM,Gg,E,O];refine⟨aq,aq,?_⟩;have o:=ay (k:=j) aq;rw[o];refine am (j+1) aq aq ?_;simp[az,ai,fv,lk,AV.low,AV.low1,Kt q hc];exact⟨de _ _,de _ _⟩
  ·have H:j=4:=aq;subst H;have o:=ay (k:=t) aq;rw[o];refine am (t+1) aq aq ?_;have a:sA (((b.take (4*t+4)).drop (4*t)).take 4)=sA ((b.take (4*t+4)).drop (4*t)):=by rw[cx aq]
   simp[az,ai,fv,lk,AV.low,AV.low1,jj];exact⟨rfl,⟨by rw[a],de _ _⟩,de _ _⟩
 ·have A:t=16:=aq;subst A;refine av (fun t:Nat=>⟨[(2,.ptr 0 0 0 1),(3,.ptr 32 0 0 1),(7,.d (.int .i64 ((t+16:Nat):Int)))],[(32,⟨211,64,[cw (jL (dD b t))]⟩),(0,⟨211,64,[cw z64]⟩)],128⟩)
   (fun t=>t≤48) (fun t=>48-t) 0 aq (by
    simp[az,ai,fv,lk,AV.low,AV.low1,dD]
    exact⟨de _ _,de _ _⟩) ?_
  intro t V;have m:=pI b t;simp only[go_sem,Nat.reduceEqDiff,Nat.reduceAdd,Nat.reduceLT,↓reduceIte];refine⟨fun h=>?_,fun h=>?_⟩
  ·have Q:IntKind.i64.wrap (((t+16:Nat):Int)-15)=((t+16-15:Nat):Int):=by rw[IntWalk.i64_in _ aq];omega
   have i2:IntKind.i64.wrap (((t+16:Nat):Int)-2)=((t+16-2:Nat):Int):=by rw[IntWalk.i64_in _ aq];omega
   have i3:IntKind.i64.wrap (((t+16:Nat):Int)-16)=((t+16-16:Nat):Int):=by rw[IntWalk.i64_in _ aq];omega
   have X:IntKind.i64.wrap (((t+16:Nat):Int)-7)=((t+16-7:Nat):Int):=by rw[IntWalk.i64_in _ aq];omega
   have D:∀i,i<t+16→(jL (dD b t))[i]?=some ((dD b t).getD i 0):=by
    intro i hi;rw[DI aq,cS,cm aq];rfl
   have o:=ay (k:=t+16) aq;generalize S:t+16=T at *;apply Nv (0::1::2::3::4::5::6::7::8::9::[]) ([]) 0 (k:=10) (by kernel_rfl) (by kernel_rfl) rfl
   case hz=>repeat (first|exact Its.nil|apply Its.plain rfl|apply Its.guard rfl rfl)
   case hj=>exact Jts.nil
   intro G F;have s:=D (T-15) aq;have E:=D (T-2) aq;have z:=D (T-16) aq;have L:=D (T-7) aq;have e:wx (dD b t)=mO (mO (mO ((dD b t).getD (T-16) 0) (oR (oR (qV 25 ((dD b t).getD (T-15) 0)) (qV 14 ((dD b t).getD (T-15) 0))) (eQ 3 ((dD b t).getD (T-15) 0)))) ((dD b t).getD (T-7) 0)) (oR (oR (qV 15 ((dD b t).getD (T-2) 0)) (qV 13 ((dD b t).getD (T-2) 0))) (eQ 10 ((dD b t).getD (T-2) 0))):=by
    unfold wx;rw[m]
   generalize(dD b t).getD (T-15) 0=x at s e;generalize(dD b t).getD (T-2) 0=y at E e;generalize(dD b t).getD (T-16) 0=u at z e;generalize(dD b t).getD (T-7) 0=v at L e;simp[go_sem,Q,i2,nG,s,E];refine⟨aq,aq,F _ _ ?_⟩;simp only[go_sem,Nat.reduceEqDiff,Nat.reduceAdd,Nat.reduceLT,↓reduceIte,Nat.reduceMul];refine ag (gZ x 25 (-7) (by decide) aq) a9 ?_;simp only[go_sem,Nat.reduceEqDiff,Nat.reduceAdd,Nat.reduceLT,↓reduceIte];refine ag (gZ x 14 (-18) (by decide) aq) a9 ?_;simp[go_sem,ji,IntKind.bits,adN];refine ag (gZ y 15 (-17) (by decide) aq) a9 ?_;simp only[go_sem,Nat.reduceEqDiff,Nat.reduceAdd,Nat.reduceLT,↓reduceIte];refine ag (gZ y 13 (-19) (by decide) aq) a9 ?_;simp[go_sem,ji,IntKind.bits,aaO];apply Nv (0::1::2::3::4::5::6::7::8::9::10::11::12::13::14::[]) ((15,([]))::[]) 0 (k:=16) (by kernel_rfl) (by kernel_rfl) rfl
   case hz=>repeat (first|exact Its.nil|apply Its.plain rfl|apply Its.guard rfl rfl)
   case hj=>exact Jts.plain rfl Its.nil Jts.nil
   intro G F;have g:(jL (dD b t)).set T (wx (dD b t))=jL (dD b (t+1)):=by
    have:=wX (w:=dD b t) (x:=wx (dD b t)) aq;rw[m]at this;exact this
   rw[e]at g;have C:(jL (dD b t)).length=64:=DG aq;simp[go_sem,i3,X,nG,z,L,il,Gg,g,C];refine⟨aq,aq,aq,aq,F _ _ ?_⟩;simp[go_sem,o];refine am (t+1) aq aq ?_;subst S;simp[az,ai,fv,lk,AV.low,AV.low1];exact⟨aq,de _ _,de _ _⟩
  ·have B:t=48:=aq;subst B;have a:jL (dD b 48)=sB b:=by
    have N:∀w:List Nat,w.length=64→jL w=w:=fun w P=>by unfold jL;rw[P,Nat.sub_self,List.replicate_zero,List.append_nil]
    exact N _ m
   rw[a];have p:=tY b;generalize sB b=sb at p;have K:(cw sb).take 64=cw sb:=cx (by rw[A5];omega);simp[go_sem,p,K];exact aa (by simp[AV.deep];exact SK _) rfl
def dL(s:S8):List AV:=[.d (.int .u32 (s.a:Int)),.d (.int .u32 (s.b:Int)),.d (.int .u32 (s.c:Int)),.d (.int .u32 (s.d:Int)),.d (.int .u32 (s.e:Int)),.d (.int .u32 (s.f:Int)),.d (.int .u32 (s.g:Int)),.d (.int .u32 (s.h:Int))]
theorem tZ(s:S8):dL s=cw s.l:=rfl
theorem zw:K.length=64:=rfl
def jk(s v:S8)(i:Nat):List Nat:=(List.zipWith mO s.l v.l).take i++s.l.drop i
theorem DJ(s v:S8){i:Nat}(h:i≤8):(jk s v i).length=8:=by simp[jk,S8.l];omega
theorem zx(s v:S8):jk s v 0=s.l:=by simp[jk]
theorem DK(s v:S8):jk s v 8=(DD s v).l:=by simp[jk,S8.l,DD]
theorem zy(s v:S8){i:Nat}(h:i<8):∃x y,v.l[i]?=some y∧(jk s v i)[i]?=some x∧(jk s v i).set i (mO x y)=jk s v (i+1):=by
 rcases(by omega:i=0∨i=1∨i=2∨i=3∨i=4∨i=5∨i=6∨i=7)with rfl|rfl|rfl|rfl|rfl|rfl|rfl|rfl;exact⟨s.a,v.a,by simp[S8.l],by simp[jk,S8.l],by simp[jk,S8.l]⟩;exact⟨s.b,v.b,by simp[S8.l],by simp[jk,S8.l],by simp[jk,S8.l]⟩;exact⟨s.c,v.c,by simp[S8.l],by simp[jk,S8.l],by simp[jk,S8.l]⟩;exact⟨s.d,v.d,by simp[S8.l],by simp[jk,S8.l],by simp[jk,S8.l]⟩;exact⟨s.e,v.e,by simp[S8.l],by simp[jk,S8.l],by simp[jk,S8.l]⟩;exact⟨s.f,v.f,by simp[S8.l],by simp[jk,S8.l],by simp[jk,S8.l]⟩;exact⟨s.g,v.g,by simp[S8.l],by simp[jk,S8.l],by simp[jk,S8.l]⟩;exact⟨s.h,v.h,by simp[S8.l],by simp[jk,S8.l],by simp[jk,S8.l]⟩
theorem Ig{l:List Nat}{tail:List AV}{i x:Nat}(h:l[i]?=some x):(cw l++tail)[i]?=some (.d (.int .u32 (x:Int))):=by
 have a:i<(cw l).length:=by rw[A5];exact(ci.1 h).1
 rw[List.getElem?_append_left a,nG,h];rfl
theorem Ih{l:List Nat}{tail:List AV}{i x:Nat}(h:i<l.length):(cw l++tail).set i (.d (.int .u32 (x:Int)))=cw (l.set i x)++tail:=by
 rw[List.set_append_left _ _ (by rw[A5];exact h),Gg]
theorem VC:(if IntKind.u32.signed=true then -1 else IntKind.u32.max)=(4294967295:Int):=by decide
theorem vH(ty:TypeId)(e:Nat)(s:S8)(tail:List AV)(b:List Nat)(M:b.length=64)(j:∀n,∀v,v∈tail→v.low1 n) :
  cX Tryz.prog 105 1 [(0,⟨ty,e,[dL s++tail]⟩)] [.ptr 0 0 0 1,.d (nb b)] (fun r C=>r=.tup []∧lk 0 C=some ⟨ty,e,[dL (take s b)++tail]⟩):=by
 refine ap Tryz.func105 (by kernel_rfl) rfl Tryz.ntmps105 (rs:=[]) rfl (dJ rfl) (by decide) ?_;simp only[go_sem,Nat.reduceEqDiff,Nat.reduceAdd,Nat.reduceLT,↓reduceIte];refine ag (zu b M) a9 ?_;simp only[go_sem,Nat.reduceAdd,Nat.reduceLT];refine ag DF a9 ?_;have q:=tY b;have T:(K.zip (sB b)).length=64:=by rw[List.length_zip,q,zw];rfl
 unfold Go.Sha.take Gh;generalize sB b=ws at *;have A:(cw z64).drop 64=[]:=rfl;generalize o:qJ If 0 (K.zip ws) s=R;simp[go_sem,zw,q,dL,A]
 refine av (fun t:Nat×S8=>⟨[(0,.ptr 0 0 0 1),(4,.ptr 98 0 0 1),(5,.ptr 130 0 0 1),(6,.ptr 322 0 0 1),(19,.d (.int .i64 t.1))],
   [(322,⟨164,8,[dL t.2]⟩),(130,⟨211,64,[cw K]⟩),(98,⟨211,64,[cw ws]⟩),(0,⟨ty,e,[dL s++tail]⟩)],418⟩)
  (fun t=>t.1≤64∧qJ If t.1 (K.zip ws) t.2=R) (fun t=>64-t.1) (0,s) ⟨aq,o⟩ (by
   simp[az,ai,fv,lk,AV.low,AV.low1,dL]
   exact⟨de _ _,de _ _,fun v m=>j _ v m⟩) ?_
 clear o;rintro⟨t,v⟩⟨S,o⟩;simp only at S o;simp only[go_sem,Nat.reduceEqDiff,Nat.reduceAdd,Nat.reduceLT,↓reduceIte];refine⟨fun h=>?_,fun h=>?_⟩
 ·obtain⟨k,L,_⟩:=bg (l:=K) (k:=t) (by rw[zw];omega);obtain⟨w,J,_⟩:=bg (l:=ws) (k:=t) aq;have P:(K.zip ws)[t]?=some (k,w):=by rw[List.getElem?_zip_eq_some];exact⟨L,J⟩
  rw[wW If P]at o;simp only[go_sem,dL];simp[go_sem];refine cz [0,1,2,4,7,11,12,13,14,15,16,17,18,19,20,22,23,24,26,27,28] [(3,[]),(5,[6]),(8,[9,10,21,25,29,30])] 3 (k:=31) ?_;intro G p;simp[go_sem,nG,L,J,ji,kE,VC,VB];refine⟨aq,?_⟩;refine ag (gZ v.e 26 (-6) (by decide) aq) a9 ?_;simp[go_sem];refine ag (gZ v.e 21 (-11) (by decide) aq) a9 ?_;simp[go_sem,ji];refine ag (gZ v.e 7 (-25) (by decide) aq) a9 ?_;simp[go_sem,ji,il];have I:mO (mO (mO (mO v.h (oR (oR (qV 26 v.e) (qV 21 v.e)) (qV 7 v.e))) (oR (Dz v.e v.f) (Dz (c32 v.e) v.g))) k) w=T1 v k w:=by unfold T1;with_reducible rfl
  rw[I];refine p _ _ ?_;clear p G;simp[go_sem];refine cz [0,2,5,8,9,10,11,12,13,14,15,16,17,18,19,20,21,22] [(1,[]),(3,[4]),(6,[7,23,24])] 3 (k:=25) ?_;intro G p;simp[go_sem,ji,kE];refine ag (gZ v.a 30 (-2) (by decide) aq) a9 ?_;simp[go_sem];refine ag (gZ v.a 19 (-13) (by decide) aq) a9 ?_;simp[go_sem,ji];refine ag (gZ v.a 10 (-22) (by decide) aq) a9 ?_;simp[go_sem,ji,il];have D:mO (oR (oR (qV 30 v.a) (qV 19 v.a)) (qV 10 v.a)) (oR (oR (Dz v.a v.b) (Dz v.a v.c)) (Dz v.b v.c))=T2 v:=by unfold T2;with_reducible rfl
  rw[D];refine p _ _ ?_;clear p G;have F:=ay (k:=t) aq;simp[go_sem,il,mP,F];refine am (t+1,If v (k,w)) ⟨by simp only;omega,o⟩ (by simp only;omega) ?_;simp[az,ai,fv,lk,AV.low,AV.low1,If,rd];exact⟨de _ _,de _ _,fun v m=>j _ v m⟩
 ·have u:t=64:=aq;subst u;rw[zr If aq]at o;subst o;refine av (fun i:Nat=>⟨[(0,.ptr 0 0 0 1),(6,.ptr 322 0 0 1),(101,.d (.int .i64 i))],[(322,⟨164,8,[cw v.l]⟩),(0,⟨ty,e,[cw (jk s v i)++tail]⟩)],482⟩)
   (fun i=>i≤8) (fun i=>8-i) 0 aq (by
    simp[az,ai,fv,lk,AV.low,AV.low1,zx,tZ];refine⟨de _ _,fun v m=>?_⟩;rcases m with m|m;exact de _ _ v m
    exact j _ v m) ?_
  intro i Q;simp only[go_sem,Nat.reduceEqDiff,Nat.reduceAdd,Nat.reduceLT,↓reduceIte];refine⟨fun h=>?_,fun h=>?_⟩
  ·obtain⟨x,y,O,N,B⟩:=zy s v (i:=i) aq;have E:=DJ s v Q;refine cz [0,1,2,3,4,5,6,7,8,9,10] [(11,[])] 0 (k:=12) ?_;intro G p;have z:=Ih (l:=jk s v i) (tail:=tail) (i:=i) (x:=mO x y) aq;rw[B]at z;simp[go_sem,Ig N,nG,O,il,z,E];refine⟨aq,aq,p _ _ ?_⟩;have F:=ay (k:=i) aq;simp[go_sem,F];refine am (i+1) aq aq ?_;simp[az,ai,fv,lk,AV.low,AV.low1];refine⟨de _ _,fun v m=>?_⟩;rcases m with m|m
   exact de _ _ v m;exact j _ v m
  ·have H:i=8:=aq;subst H;simp[go_sem,DK];simp[cw,S8.l]
def rb(L:List Nat):List (List AV):=L.map fun(x:Nat)=>[.d (.int .u8 (x:Int))]
theorem aH(L:List Nat):(rb L).length=L.length:=by simp[rb]
theorem aU(n:Nat)(L:List Nat):∀r,r∈rb L→∀v,v∈r→v.low1 n:=by
 intro r a v b;simp only[rb,List.mem_map]at a;obtain⟨x,_,rfl⟩:=a;simp at b;subst b;trivial
theorem SL(l:List Nat):∀c,c∈cw l→c.flat1:=by
 intro c hc;simp only[cw,List.mem_map]at hc;obtain⟨x,_,rfl⟩:=hc;trivial
theorem Ii{hp:Hp}{I:Nat→Prop}:∀(L:List Nat),RowsR hp I (rb L) (L.map fun(x:Nat)=>[.int .u8 (x:Int)])
 |[]=>.nil
 |x::r=>.cons (.cons (.d _) .nil) (Ii r)
theorem sC{hp:Hp}{I:Nat→Prop}{id i0 n:Nat}{L:List Nat}(d:lk id hp=some ⟨5,1,rb L⟩)(b:I id)(h:i0+n≤L.length):SnapD hp I (.own id i0 n L.length) (nb ((L.drop i0).take n)):=by
 refine kr d b (aH L) (es:=((L.drop i0).take n).map fun(x:Nat)=>[.int .u8 (x:Int)]) ?_ (by simp;omega) (fun r a=>by
  rw[List.mem_map]at a;obtain⟨c,_,rfl⟩:=a
  rfl)
 have:((rb L).drop i0).take n=rb ((L.drop i0).take n):=by simp[rb,List.map_drop,List.map_take]
 rw[this];exact Ii _
theorem uN(ty:TypeId)(e:Nat)(s:S8)(tail:List AV)(L:List Nat)(i0:Nat)(H:i0+64≤L.length)(j:∀n,∀v,v∈tail→v.low1 n) :
  cX Tryz.prog 105 2 [(0,⟨ty,e,[dL s++tail]⟩),(1,⟨5,1,rb L⟩)] [.ptr 0 0 0 1,.own 1 i0 64 L.length] (fun r q=>r=.tup []∧lk 0 q=some ⟨ty,e,[dL (take s ((L.drop i0).take 64))++tail]⟩∧lk 1 q=some ⟨5,1,rb L⟩):=by
 refine ap Tryz.func105 (by kernel_rfl) rfl Tryz.ntmps105 (rs:=[]) rfl (dJ rfl) (by decide) ?_;simp only[go_sem,Nat.reduceEqDiff,Nat.reduceAdd,Nat.reduceLT,↓reduceIte];have O:((L.drop i0).take 64).length=64:=by simp;omega
 refine jh (zu ((L.drop i0).take 64) O) rfl (aj (.one (ao (sC rfl trivial H))) aD) (by simp[AV.flat];exact SL _) ?_;generalize(L.drop i0).take 64=b at *;simp only[go_sem,Nat.reduceAdd,Nat.reduceLT];refine ag DF a9 ?_;have u:=tY b;have V:(K.zip (sB b)).length=64:=by rw[List.length_zip,u,zw];rfl
 unfold Go.Sha.take Gh;generalize sB b=ws at *;have B:(cw z64).drop 64=[]:=rfl;generalize o:qJ If 0 (K.zip ws) s=R;simp[go_sem,zw,u,dL,B]
 refine av (fun t:Nat×S8=>⟨[(0,.ptr 0 0 0 1),(4,.ptr 99 0 0 1),(5,.ptr 131 0 0 1),(6,.ptr 323 0 0 1),(19,.d (.int .i64 t.1))],
   [(323,⟨164,8,[dL t.2]⟩),(131,⟨211,64,[cw K]⟩),(99,⟨211,64,[cw ws]⟩),(0,⟨ty,e,[dL s++tail]⟩),(1,⟨5,1,rb L⟩)],419⟩)
  (fun t=>t.1≤64∧qJ If t.1 (K.zip ws) t.2=R) (fun t=>64-t.1) (0,s) ⟨aq,o⟩ (by
   simp[az,ai,fv,lk,AV.low,AV.low1,dL]
   exact⟨de _ _,de _ _,fun v m=>j _ v m,aU _ _⟩) ?_
 clear o;rintro⟨t,v⟩⟨U,o⟩;simp only at U o;simp only[go_sem,Nat.reduceEqDiff,Nat.reduceAdd,Nat.reduceLT,↓reduceIte];refine⟨fun h=>?_,fun h=>?_⟩
 ·obtain⟨k,N,_⟩:=bg (l:=K) (k:=t) (by rw[zw];omega);obtain⟨w,M,_⟩:=bg (l:=ws) (k:=t) aq;have S:(K.zip ws)[t]?=some (k,w):=by rw[List.getElem?_zip_eq_some];exact⟨N,M⟩
  rw[wW If S]at o;simp only[go_sem,dL];simp[go_sem];refine cz [0,1,2,4,7,11,12,13,14,15,16,17,18,19,20,22,23,24,26,27,28] [(3,[]),(5,[6]),(8,[9,10,21,25,29,30])] 3 (k:=31) ?_;intro G p;simp[go_sem,nG,N,M,ji,kE,VC,VB];refine⟨aq,?_⟩;refine ag (gZ v.e 26 (-6) (by decide) aq) a9 ?_;simp[go_sem];refine ag (gZ v.e 21 (-11) (by decide) aq) a9 ?_;simp[go_sem,ji];refine ag (gZ v.e 7 (-25) (by decide) aq) a9 ?_;simp[go_sem,ji,il];have J:mO (mO (mO (mO v.h (oR (oR (qV 26 v.e) (qV 21 v.e)) (qV 7 v.e))) (oR (Dz v.e v.f) (Dz (c32 v.e) v.g))) k) w=T1 v k w:=by unfold T1;with_reducible rfl
  rw[J];refine p _ _ ?_;clear p G;simp[go_sem];refine cz [0,2,5,8,9,10,11,12,13,14,15,16,17,18,19,20,21,22] [(1,[]),(3,[4]),(6,[7,23,24])] 3 (k:=25) ?_;intro G p;simp[go_sem,ji,kE];refine ag (gZ v.a 30 (-2) (by decide) aq) a9 ?_;simp[go_sem];refine ag (gZ v.a 19 (-13) (by decide) aq) a9 ?_;simp[go_sem,ji];refine ag (gZ v.a 10 (-22) (by decide) aq) a9 ?_;simp[go_sem,ji,il];have D:mO (oR (oR (qV 30 v.a) (qV 19 v.a)) (qV 10 v.a)) (oR (oR (Dz v.a v.b) (Dz v.a v.c)) (Dz v.b v.c))=T2 v:=by unfold T2;with_reducible rfl
  rw[D];refine p _ _ ?_;clear p G;have F:=ay (k:=t) aq;simp[go_sem,il,mP,F];refine am (t+1,If v (k,w)) ⟨by simp only;omega,o⟩ (by simp only;omega) ?_;simp[az,ai,fv,lk,AV.low,AV.low1,If,rd];exact⟨de _ _,de _ _,fun v m=>j _ v m,aU _ _⟩
 ·have z:t=64:=aq;subst z;rw[zr If aq]at o;subst o;refine av (fun i:Nat=>⟨[(0,.ptr 0 0 0 1),(6,.ptr 323 0 0 1),(101,.d (.int .i64 i))],[(323,⟨164,8,[cw v.l]⟩),(0,⟨ty,e,[cw (jk s v i)++tail]⟩),(1,⟨5,1,rb L⟩)],483⟩)
   (fun i=>i≤8) (fun i=>8-i) 0 aq (by
    simp[az,ai,fv,lk,AV.low,AV.low1,zx,tZ];refine⟨de _ _,fun v m=>?_,aU _ _⟩;rcases m with m|m;exact de _ _ v m
    exact j _ v m) ?_
  intro i T;simp only[go_sem,Nat.reduceEqDiff,Nat.reduceAdd,Nat.reduceLT,↓reduceIte];refine⟨fun h=>?_,fun h=>?_⟩
  ·obtain⟨x,y,Q,P,C⟩:=zy s v (i:=i) aq;have E:=DJ s v T;refine cz [0,1,2,3,4,5,6,7,8,9,10] [(11,[])] 0 (k:=12) ?_;intro G p;have A:=Ih (l:=jk s v i) (tail:=tail) (i:=i) (x:=mO x y) aq;rw[C]at A;simp[go_sem,Ig P,nG,Q,il,A,E];refine⟨aq,aq,p _ _ ?_⟩;have F:=ay (k:=i) aq;simp[go_sem,F];refine am (i+1) aq aq ?_;simp[az,ai,fv,lk,AV.low,AV.low1];refine⟨de _ _,fun v m=>?_,aU _ _⟩;rcases m with m|m
   exact de _ _ v m;exact j _ v m
  ·have I:i=8:=aq;subst I;simp[go_sem,DK];simp[cw,S8.l]
theorem oS:cX Tryz.prog 57 0 [] [] (fun r a=>r=.ptr 97 0 0 1∧lk 97 a=some ⟨167,10,[dL H0++[.nil,.d (.int .u64 0)]]⟩):=by
 refine ap Tryz.func57 (by kernel_rfl) rfl Tryz.ntmps57 (rs:=[.tmp 0]) rfl (dJ rfl) (by decide) ?_;simp only[go_sem,Nat.reduceAdd,Nat.reduceLT];refine ag Kq a9 ?_;simp[go_sem,ah,mP,j9,←tZ,dL]
theorem pL{β:Type}(f:β→List DV)(b:List β){P:Program}{el:TypeId}{e:Nat}{es:List (List DV)}{nx:Nat}{a:AV→Hp→Prop}{hp:Hp}:gf P el (.d (.rof e es)) (some (List.map ((fun r=>List.map AV.d r)∘f) b)) nx a hp=(e=P.cellsOf el∧(fQ P el).isSome=true∧P.bytesOf el≠0∧(es.length+b.length)*P.bytesOf el≤140737488355328∧AW (a (.d (.ro e (es++b.map f))) hp) (b.map f≠[]∧a (.own nx 0 (es.length+b.length) (es.length+b.length)) ((nx,⟨el,P.cellsOf el,es.map (fun r=>r.map AV.d)++List.map ((fun r=>List.map AV.d r)∘f) b⟩)::hp))):=by
 have:=Dw (P:=P) (K:=a) (hp:=hp) (nx:=nx) el e es (b.map f);rw[List.map_map,List.length_map]at this;exact this
theorem mG{α β:Type}(f:α→β)(l:List α):(l.map f).take l.length=l.map f:=by
 rw[cx aw]
theorem eat_none(k:Nat)(s:S8)(b:List Nat)(h:b.length<64):uM k s b=(s,b):=by
 cases k with
 |zero=>rfl
 |succ k=>simp[uM];omega
theorem eat_more{k:Nat}{s:S8}{b:List Nat}(h:64≤b.length)(a:b.length≤k):uM k s b=uM (k-1) (Go.Sha.take s (b.take 64)) (b.drop 64):=by
 obtain⟨j,rfl⟩:∃j,k=j+1:=⟨k-1,aq⟩;rw[uM,if_pos h];rfl
theorem NH(s:S8)(R:AV)(rest b:List Nat)(n:Int)(v:R=.d (nb rest)∨(R=.nil∧rest=[]))(o:rest.length+b.length≤1000000000000) :
  cX Tryz.prog 58 1 [(0,⟨167,10,[dL s++[R,.d (.int .u64 n)]]⟩)] [.ptr 0 0 0 1,.d (nb b)]
   (fun r e=>r=.tup []∧lk 0 e=some ⟨167,10,[dL (uM ((rest++b).length) s (rest++b)).1++[.d (nb (uM ((rest++b).length) s (rest++b)).2),.d (.int .u64 (IntKind.u64.wrap (n+(IntKind.u64.wrap (b.length:Int)))))]]⟩):=by
 refine ap Tryz.func58 (by kernel_rfl) rfl Tryz.ntmps58 (rs:=[]) rfl (dJ rfl) (by decide) ?_;generalize j:IntKind.u64.wrap (n+(IntKind.u64.wrap (b.length:Int)))=n';generalize m:uM ((rest++b).length) s (rest++b)=E;rcases v with rfl|⟨rfl,rfl⟩
 ·simp[go_sem,nb,dL,j];refine cz [0,1,2,3,4,5,6,7,8,9,10,11,12,13,14,15,16] [(17,[18,19]),(20,[])] 1 (k:=21) ?_;intro G a;simp[go_sem,mG,pL];refine⟨by have:=o;simp only[b_]at *;omega,.inl (a _ _ ?_)⟩;clear a G
  refine av (fun t:S8×List Nat=>⟨[(0,.ptr 0 0 0 1)],[(0,⟨167,10,[dL t.1++[.d (nb t.2),.d (.int .u64 n')]]⟩)],1090⟩)
   (fun t=>t.2.length≤1000000000000∧∃k,t.2.length≤k∧uM k t.1 t.2=E) (fun t=>t.2.length) (s,rest++b) ⟨by have:=o;simp only[b_]at *;omega,_,cR _,m⟩ (by
    simp[az,ai,fv,lk,AV.low,AV.low1,nb,dL]) ?_
  rintro⟨g,q⟩⟨u,k,l,c⟩;simp only at u l c;simp only[go_sem,Nat.reduceEqDiff,Nat.reduceAdd,Nat.reduceLT,↓reduceIte,dL,nb,List.length_map];refine⟨fun h=>?_,fun h=>?_⟩
  ·have i:64≤q.length:=aq;rw[eat_more i l]at c;refine cz [0,1,2,3,4,5,6,7] [(8,[])] 0 (k:=9) ?_;intro G a;simp[go_sem];refine⟨aq,?_⟩;refine aP [(0,0)] (vH 167 10 g [.d (nb q),.d (.int .u64 n')] (q.take 64) (by simp;omega) (by simp[AV.low1])) rfl aw (by simp[lk]) (by simp[lk,Blk.ren,aO,AV.renL,AV.ren,iJ,dL,nb]) (by simp[AV.renL,AV.ren,b8,iJ,lk,nb,List.map_take]) ?_;rintro r e⟨rfl,p⟩;refine⟨[],rfl,?_⟩;simp[go_sem,bZ,bB,p,Blk.ren,aO,AV.renL,AV.ren,dL];refine a _ _ ?_;clear a G;simp[go_sem,nb];refine⟨aq,?_⟩;refine am (Go.Sha.take g (q.take 64),q.drop 64) ⟨by simp only[e_];omega,k-1,by simp only[e_];omega,c⟩ (by simp only[e_];omega) ?_;simp[az,ai,fv,lk,AV.low,AV.low1,List.map_drop,mG]
  ·rw[eat_none k g q aq]at c;subst c;rfl
 ·simp[go_sem,nb,dL,j];refine cz [0,1,2,3,4,5,6,7,8,9,10,11,12,13,14,15,16] [(17,[18,19]),(20,[])] 1 (k:=21) ?_;intro G a;simp[go_sem,pL];refine⟨by have:=o;simp only[b_,List.length_nil]at *;omega,.inl (a _ _ ?_)⟩;clear a G
  refine av (fun t:S8×List Nat=>⟨[(0,.ptr 0 0 0 1)],[(0,⟨167,10,[dL t.1++[.d (nb t.2),.d (.int .u64 n')]]⟩)],1090⟩)
   (fun t=>t.2.length≤1000000000000∧∃k,t.2.length≤k∧uM k t.1 t.2=E) (fun t=>t.2.length) (s,[]++b) ⟨by have:=o;simp only[b_,List.length_nil]at *;omega,_,cR _,m⟩ (by
    simp[az,ai,fv,lk,AV.low,AV.low1,nb,dL]) ?_
  rintro⟨g,q⟩⟨u,k,l,c⟩;simp only at u l c;simp only[go_sem,Nat.reduceEqDiff,Nat.reduceAdd,Nat.reduceLT,↓reduceIte,dL,nb,List.length_map];refine⟨fun h=>?_,fun h=>?_⟩
  ·have i:64≤q.length:=aq;rw[eat_more i l]at c;refine cz [0,1,2,3,4,5,6,7] [(8,[])] 0 (k:=9) ?_;intro G a;simp[go_sem];refine⟨aq,?_⟩;refine aP [(0,0)] (vH 167 10 g [.d (nb q),.d (.int .u64 n')] (q.take 64) (by simp;omega) (by simp[AV.low1])) rfl aw (by simp[lk]) (by simp[lk,Blk.ren,aO,AV.renL,AV.ren,iJ,dL,nb]) (by simp[AV.renL,AV.ren,b8,iJ,lk,nb,List.map_take]) ?_;rintro r e⟨rfl,p⟩;refine⟨[],rfl,?_⟩;simp[go_sem,bZ,bB,p,Blk.ren,aO,AV.renL,AV.ren,dL];refine a _ _ ?_;clear a G;simp[go_sem,nb];refine⟨aq,?_⟩;refine am (Go.Sha.take g (q.take 64),q.drop 64) ⟨by simp only[e_];omega,k-1,by simp only[e_];omega,c⟩ (by simp only[e_];omega) ?_;simp[az,ai,fv,lk,AV.low,AV.low1,List.map_drop,mG]
  ·rw[eat_none k g q aq]at c;subst c;rfl
def padTo:Nat→List Nat→List Nat
 |0,l=>l
 |n+1,l=>if l.length%64=56 then l else padTo n (l++[0])
theorem wY{k:Nat}{l:List Nat}(h:l.length%64≠56)(a:0<k):padTo k l=padTo (k-1) (l++[0]):=by
 obtain⟨j,rfl⟩:∃j,k=j+1:=⟨k-1,aq⟩;rw[padTo,if_neg h];rfl
theorem zA{k:Nat}{l:List Nat}(h:l.length%64=56):padTo k l=l:=by
 cases k with
 |zero=>rfl
 |succ k=>rw[padTo,if_pos h]
theorem lu(a b:List Nat):rb a++rb b=rb (a++b):=by simp[rb]
theorem iF(a:List Nat)(x:Nat):rb a++[[AV.d (.int .u8 (x:Int))]]=rb (a++[x]):=by simp[rb]
theorem wZ(a:List Nat):rb a++[[AV.d (.int .u8 128)]]=rb (a++[128]):=by simp[rb]
theorem DL(a:List Nat):rb a++[[AV.d (.int .u8 0)]]=rb (a++[0]):=by simp[rb]
theorem dk(a:List Nat):List.map ((fun r=>List.map AV.d r)∘fun(x:Nat)=>[DV.int .u8 (x:Int)]) a=rb a:=by simp[rb]
def km(m:Nat):Nat→List Nat
 |0=>[]
 |j+1=>km m j++[t8 (eQ (56-8*j) m)]
theorem fj(m:Nat):∀j,(km m j).length=j
 |0=>rfl
 |j+1=>by simp[km,fj m j]
def lastOf(rest:List Nat)(n:Nat):List Nat:=padTo 64 (rest++[128])++km (n*8%18446744073709551616) 8
theorem NI(n:Nat):IntKind.u64.wrap ((n:Int)*8)=((n*8%18446744073709551616:Nat):Int):=by rw[iK];omega
theorem NJ(n:Nat):Int.tmod (n:Int) 64=((n%64:Nat):Int):=by
 have:=Int.ofNat_tmod n 64;simpa using this.symm
theorem NK(s:S8)(a b:AV)(c:∀n,a.low1 n)(d:∀n,b.low1 n)(n:Nat):∀v,v∈dL s++[a,b]→v.low1 n:=by
 intro v e;rcases cL.1 e with h|h;exact de n s.l v h;simp only[et,List.mem_nil_iff,or_false]at h;rcases h with rfl|rfl;exact c n;exact d n
theorem jH(s:S8)(a b:AV)(c:∀n,a.low1 n)(d:∀n,b.low1 n)(n:Nat):∀v,v∈dL s∨v=a∨v=b→v.low1 n:=by
 intro v e;refine NK s a b c d n v ?_;simpa using e
theorem iG(s:S8)(n:Nat):∀v,v∈dL s→v.low1 n:=de n s.l
theorem Ij(ρ:Nat→Nat)(s:S8):AV.renL ρ (dL s)=dL s:=NF ρ s.l
theorem dA(ρ:Nat→Nat)(L:List Nat):List.map (AV.renL ρ) (rb L)=rb L:=by
 simp[rb,AV.renL,AV.ren]
def jl(w:List Nat):List Nat:=w++List.replicate (32-w.length) 0
theorem zB{w:List Nat}(h:w.length≤32):(jl w).length=32:=by simp[jl];omega
theorem zC{w:List Nat}{x:Nat}(h:w.length<32):(jl w).set w.length x=jl (w++[x]):=by
 unfold jl;rw[List.set_append_right _ _ (cR _),Nat.sub_self];obtain⟨k,a⟩:∃k,32-w.length=k+1:=⟨31-w.length,aq⟩;rw[a,List.replicate_succ,List.set_cons_zero,cD];simp only[b_,List.length_singleton,List.singleton_append];rw[show 32-(w.length+1)=k by omega]
theorem w9{w:List Nat}(h:w.length=32):jl w=w:=by unfold jl;rw[h];simp
theorem aaP(s:S8):List.take 8 (dL s)=dL s:=rfl
theorem Ik(s:S8){i:Nat}(h:i<8):(dL s)[i]?=some (.d (.int .u32 ((s.l.getD i 0:Nat):Int))):=by
 rw[tZ,nG,cS];have:i<s.l.length:=h;rw[cm this];rfl
theorem hd9(s:S8)(a b:AV):(List.drop 9 (dL s++[a,b])).head?=some b:=rfl
theorem tk8(s:S8)(a b:AV):List.take 8 (dL s++[a,b])=dL s:=rfl
theorem vI(s:S8):(dL s).length=8:=rfl
theorem Gk (s:S8) (R:AV) (rest:List Nat) (n:Nat) (hR:R=.d (nb rest) ∨ (R=.nil∧rest=[])) (U:rest.length≤1000000000000) :
  cX Tryz.prog 60 1 [(0,⟨167,10,[dL s++[R,.d (.int .u64 (n:Int))]]⟩)] [.ptr 0 0 0 1]
   (fun r D=>r=.agg (cb (Kp (uM (lastOf rest n).length s (lastOf rest n)).1))∧lk 0 D=some ⟨167,10,[dL s++[R,.d (.int .u64 (n:Int))]]⟩):=by
 refine ap Tryz.func60 (by kernel_rfl) rfl Tryz.ntmps60 (rs:=[.cell 2 29]) rfl (dJ rfl) (by decide) ?_;rcases hR with rfl|⟨rfl,rfl⟩
 ·simp [go_sem,nb,dL,dk,wZ,aH];refine ⟨aq,aq,?_⟩
  refine av (fun l:List Nat=>⟨[(0,.ptr 0 0 0 1),(2,.ptr 2 0 0 1),(3,.own 98 0 l.length l.length)],[(98,⟨5,1,rb l⟩),(2,⟨29,32,[cb z32]⟩),(0,⟨167,10,[dL s++[.d (nb rest),.d (.int .u64 (n:Int))]]⟩)],450⟩)
   (fun l=>l.length≤1000000000000+65∧∃k,(120-l.length%64)%64≤k∧(k+l.length≤1000000000000+65)∧padTo k l=padTo 64 (rest++[128])) (fun l=>(120-l.length%64)%64) (rest++[128]) ⟨by have:=U;simp only[b_,List.length_singleton]at *;omega,64,aq,by have:=U;simp only[b_,List.length_singleton]at *;omega,rfl⟩ (by
    simp[az,ai,fv,lk,AV.low,AV.low1,nb,dL]
    exact⟨aU _ _,aJ _ _⟩) ?_
  rintro l⟨ac,k,N,O,C⟩;have X:Int.tmod (l.length:Int) 64=((l.length%64:Nat):Int):=NJ _;simp only[go_sem,Nat.reduceEqDiff,Nat.reduceAdd,Nat.reduceLT,↓reduceIte,X];refine⟨by decide,fun h=>?_,fun h=>?_⟩
  have b:l.length%64≠56:=aq;rw[wY b aq]at C;refine⟨by decide,aH l,aq,?_⟩;rw[DL];refine am (l++[0]) ⟨by simp only[b_,List.length_singleton];omega,k-1,by simp only[b_,List.length_singleton];omega,by simp only[b_,List.length_singleton];omega,C⟩ (by simp only[b_,List.length_singleton];omega) ?_;simp[az,ai,fv,lk,AV.low,AV.low1];exact⟨aU _ _,aJ _ _,jH s (.d (nb rest)) (.d (.int .u64 n)) (fun _=>trivial) (fun _=>trivial) _⟩
  ·have b:l.length % 64=56:=aq;rw [zA b] at C;simp only [go_sem,Nat.reduceAdd,Nat.reduceLT,↓reduceIte,hd9,NI];have o:lastOf rest n=l ++ km (n*8 % 18446744073709551616) 8:=by unfold lastOf;rw [← C]
   generalize n*8%18446744073709551616=m at o;generalize lastOf rest n=L at o;clear C N O U;refine av (fun j:Nat=>⟨[(0,.ptr 0 0 0 1),(2,.ptr 2 0 0 1),(3,.own 98 0 (l++km m j).length (l++km m j).length),(4,.d (.int .u64 (m:Int))),(5,.d (.int .i64 (56-8*(j:Int))))],[(98,⟨5,1,rb (l++km m j)⟩),(2,⟨29,32,[cb z32]⟩),(0,⟨167,10,[dL s++[.d (nb rest),.d (.int .u64 (n:Int))]]⟩)],642⟩)
    (fun j=>j≤8) (fun j=>8-j) 0 aq (by
     simp[az,ai,fv,lk,AV.low,AV.low1,km]
     exact⟨aU _ _,aJ _ _,jH s (.d (nb rest)) (.d (.int .u64 n)) (fun _=>trivial) (fun _=>trivial) _⟩) ?_
   intro j hj;have M:(l++km m j).length=l.length+j:=by rw[b_,fj]
   have e8:(56:Int)-8*(j:Int)-8=56-8*((j+1:Nat):Int):=aq;have V:IntKind.i64.wrap (56-8*(j:Int)-8)=56-8*((j+1:Nat):Int):=by rw[IntWalk.i64_in _ aq];omega
   simp only[go_sem,Nat.reduceEqDiff,Nat.reduceAdd,Nat.reduceLT,↓reduceIte];refine⟨fun h=>?_,fun h=>?_⟩
   ·have aa:j≤7:=aq;have I:IntKind.u8.wrap (Int.fdiv (m:Int) (2 ^ (min (56-8*(j:Int)).toNat 64)))=((t8 (eQ (56-8*j) m):Nat):Int):=by
     rw[show min (56-8*(j:Int)).toNat 64=56-8*j by omega,d_r,fY]
    have es:rb (l++km m j)++[[AV.d (.int .u8 ((t8 (eQ (56-8*j) m):Nat):Int))]]=rb (l++km m (j+1)):=by rw[iF,cD];rfl
    simp only[go_sem,I,aH,es,V];refine⟨aq,by decide,by have:=fj m j;omega,?_⟩;refine am (j+1) aq aq ?_;have F:(km m (j+1)).length=(km m j).length+1:=(by rw[fj,fj])
    simp[az,ai,fv,lk,AV.low,AV.low1,F];exact⟨aq,aU _ _,aJ _ _,jH s (.d (nb rest)) (.d (.int .u64 n)) (fun _=>trivial) (fun _=>trivial) _⟩
   ·have P:j=8:=aq;subst P;rw[←o];have Y:L.length%64=0:=by rw[o,b_,fj];omega
    have Z:L.length≤2000000000000:=by rw[o,b_,fj];omega
    have q:l.length+(km m 8).length=L.length:=(by rw[o,b_]);clear o M e8 V b h X;simp[go_sem,tk8,vI,q];generalize B:uM L.length s L=E
    refine av (fun t:Nat×S8=>⟨[(0,.ptr 0 0 0 1),(2,.ptr 2 0 0 1),(3,.own 98 (64*t.1) (L.length-64*t.1) L.length),(6,.ptr 834 0 0 1)],[(834,⟨164,8,[dL t.2]⟩),(98,⟨5,1,rb L⟩),(2,⟨29,32,[cb z32]⟩),(0,⟨167,10,[dL s++[.d (nb rest),.d (.int .u64 (n:Int))]]⟩)],898⟩)
     (fun t=>64*t.1≤L.length∧∃k,L.length-64*t.1≤k∧uM k t.2 (L.drop (64*t.1))=E) (fun t=>L.length-64*t.1) (0,s) ⟨aq,L.length,aq,B⟩ (by
      simp[az,ai,fv,lk,AV.low,AV.low1]
      exact⟨iG _ _,aU _ _,aJ _ _,jH s (.d (nb rest)) (.d (.int .u64 n)) (fun _=>trivial) (fun _=>trivial) _⟩) ?_
    rintro⟨j,a⟩⟨v,k,N,g⟩;simp only at v N g;have J:(L.drop (64*j)).length=L.length-64*j:=e_;simp only[go_sem,Nat.reduceEqDiff,Nat.reduceAdd,Nat.reduceLT,↓reduceIte];refine⟨fun h=>?_,fun h=>?_⟩
    ·have ab:64≤L.length-64*j:=aq;rw[eat_more aq aq]at g;simp[go_sem];refine⟨aq,?_⟩;refine aP [(0,834),(1,98)] (uN 164 8 a [] L (64*j) aq aw) rfl aw (by simp[lk]) (by simp[lk,Blk.ren,aO,AV.renL,AV.ren,iJ,dL,rb]) (by simp[AV.renL,AV.ren,b8,iJ,lk]) ?_;rintro r D⟨rfl,h0,h1⟩;refine⟨[],rfl,?_⟩;simp[go_sem,bZ,bB,h0,h1,Blk.ren,aO,Ij,dA,AV.renL,AV.ren];refine⟨aq,?_⟩;refine am (j+1,Go.Sha.take a ((L.drop (64*j)).take 64)) ⟨by simp only;omega,k-1,by simp only;omega,?_⟩ (by simp only;omega) ?_
     rw[List.drop_drop]at g;exact g;simp[az,ai,fv,lk,AV.low,AV.low1];exact⟨⟨aq,aq⟩,iG _ _,aU _ _,aJ _ _,jH s (.d (nb rest)) (.d (.int .u64 n)) (fun _=>trivial) (fun _=>trivial) _⟩
    ·have e:L.drop (64*j)=[]:=dg aq;rw[e,eat_none k a [] aw]at g;have H:a=E.1:=(by rw[←g]);clear g B J e;simp[go_sem,vI]
     refine av (fun i:Nat=>⟨[(0,.ptr 0 0 0 1),(2,.ptr 2 0 0 1),(7,.ptr 994 0 0 1),(59,.agg (dL a)),(60,.d (.int .i64 i))],[(994,⟨29,32,[cb (jl (pre a.l i))]⟩),(2,⟨29,32,[cb z32]⟩),(0,⟨167,10,[dL s++[.d (nb rest),.d (.int .u64 (n:Int))]]⟩)],1090⟩)
      (fun i=>i≤8) (fun i=>8-i) 0 aq (by
       simp[az,ai,fv,lk,AV.low,AV.low1,aaP]
       exact⟨iG _ _,⟨rfl,aJ _ _⟩,aJ _ _,jH s (.d (nb rest)) (.d (.int .u64 n)) (fun _=>trivial) (fun _=>trivial) _⟩) ?_
     intro i hi;have A:=pK a.l i;simp only[go_sem,Nat.reduceEqDiff,Nat.reduceAdd,Nat.reduceLT,↓reduceIte];refine⟨fun h2=>?_,fun h2=>?_⟩
     ·have W:=Ik a (i:=i) aq;have c:pre a.l (i+1)=pre a.l i++A6 (a.l.getD i 0) 4:=rfl;generalize a.l.getD i 0=x at W c;simp[go_sem,W];refine⟨aq,?_⟩
      refine av (fun k:Nat=>⟨[(0,.ptr 0 0 0 1),(2,.ptr 2 0 0 1),(7,.ptr 994 0 0 1),(59,.agg (dL a)),(60,.d (.int .i64 i)),(8,.d (.int .i64 i)),(9,.d (.int .u32 (x:Int))),(64,.d (.int .i64 k))],[(994,⟨29,32,[cb (jl (pre a.l i++A6 x k))]⟩),(2,⟨29,32,[cb z32]⟩),(0,⟨167,10,[dL s++[.d (nb rest),.d (.int .u64 (n:Int))]]⟩)],1300⟩)
       (fun k=>k≤4) (fun k=>4-k) 0 aq (by
        simp[az,ai,fv,lk,AV.low,AV.low1,A6]
        exact⟨iG _ _,aJ _ _,aJ _ _,jH s (.d (nb rest)) (.d (.int .u64 n)) (fun _=>trivial) (fun _=>trivial) _⟩) ?_
      intro k ad;have K:=vG x k;simp only[go_sem,Nat.reduceEqDiff,Nat.reduceAdd,Nat.reduceLT,↓reduceIte];refine⟨fun h3=>?_,fun h3=>?_⟩
      ·have w1:IntKind.i64.wrap (4*(i:Int))=((4*i:Nat):Int):=by rw[IntWalk.i64_in _ aq];omega
       have w2:IntKind.i64.wrap (((4*i:Nat):Int)+(k:Int))=((4*i+k:Nat):Int):=by rw[IntWalk.i64_in _ aq];omega
       have w3:IntKind.i64.wrap (8*(k:Int))=((8*k:Nat):Int):=by rw[IntWalk.i64_in _ aq];omega
       have w4:IntKind.i64.wrap (24-((8*k:Nat):Int))=((24-8*k:Nat):Int):=by rw[IntWalk.i64_in _ aq];omega
       have S:=ay (k:=k) aq;have I:IntKind.u8.wrap (Int.fdiv (x:Int) (2 ^ (min (24-8*k) 32)))=((t8 (eQ (24-8*k) x):Nat):Int):=by
        rw[show min (24-8*k) 32=24-8*k by omega,d_r,fY]
       have z:(jl (pre a.l i++A6 x k)).set (4*i+k) (t8 (eQ (24-8*k) x))=jl (pre a.l i++A6 x (k+1)):=by
        have h:=zC (w:=pre a.l i++A6 x k) (x:=t8 (eQ (24-8*k) x)) (by rw[b_];omega);rw[b_,A,K,cD]at h;exact h
       have G:(jl (pre a.l i++A6 x k)).length=32:=zB (by rw[b_];omega);simp only[go_sem,w1,w2,w3,w4,Int.toNat_natCast,I,Nat.mul_one,Gj,z,G,S];refine⟨aq,aq,?_⟩;refine am (k+1) aq aq ?_;simp[az,ai,fv,lk,AV.low,AV.low1];exact⟨iG _ _,aJ _ _,aJ _ _,jH s (.d (nb rest)) (.d (.int .u64 n)) (fun _=>trivial) (fun _=>trivial) _⟩
      ·have y:k=4:=aq;subst y;rw[←c];have S:=ay (k:=i) aq;simp only[go_sem,S];refine am (i+1) aq aq ?_;simp[az,ai,fv,lk,AV.low,AV.low1];exact⟨iG _ _,aJ _ _,aJ _ _,jH s (.d (nb rest)) (.d (.int .u64 n)) (fun _=>trivial) (fun _=>trivial) _⟩
     ·have Q:i=8:=aq;subst Q;have p:jl (pre a.l 8)=Kp a:=w9 A;rw[p,H];have u:(Kp E.1).length=32:=pK _ 8;have T:List.take 32 (cb (Kp E.1))=cb (Kp E.1):=cx (by rw[ak];omega);simp[go_sem,u,T];rfl
 ·simp [go_sem,dL]
  refine av (fun l:List Nat=>⟨[(0,.ptr 0 0 0 1),(2,.ptr 2 0 0 1),(3,.own 98 0 l.length l.length)],[(98,⟨5,1,rb l⟩),(2,⟨29,32,[cb z32]⟩),(0,⟨167,10,[dL s++[.nil,.d (.int .u64 (n:Int))]]⟩)],450⟩)
   (fun l=>l.length≤1000000000000+65∧∃k,(120-l.length%64)%64≤k∧(k+l.length≤1000000000000+65)∧padTo k l=padTo 64 ([]++[128])) (fun l=>(120-l.length%64)%64) ([]++[128]) ⟨by have:=U;simp only[b_,List.length_nil,List.length_singleton]at *;omega,64,aq,by have:=U;simp only[b_,List.length_nil,List.length_singleton]at *;omega,rfl⟩ (by
    simp[az,ai,fv,lk,AV.low,AV.low1,dL]
    exact⟨⟨rfl,aU _ _⟩,aJ _ _⟩) ?_
  rintro l⟨ac,k,N,O,C⟩;have X:Int.tmod (l.length:Int) 64=((l.length%64:Nat):Int):=NJ _;simp only[go_sem,Nat.reduceEqDiff,Nat.reduceAdd,Nat.reduceLT,↓reduceIte,X];refine⟨by decide,fun h=>?_,fun h=>?_⟩
  have b:l.length%64≠56:=aq;rw[wY b aq]at C;refine⟨by decide,aH l,aq,?_⟩;rw[DL];refine am (l++[0]) ⟨by simp only[b_,List.length_singleton];omega,k-1,by simp only[b_,List.length_singleton];omega,by simp only[b_,List.length_singleton];omega,C⟩ (by simp only[b_,List.length_singleton];omega) ?_;simp[az,ai,fv,lk,AV.low,AV.low1];exact⟨aU _ _,aJ _ _,jH s (.nil) (.d (.int .u64 n)) (fun _=>trivial) (fun _=>trivial) _⟩
  ·have b:l.length % 64=56:=aq;rw [zA b] at C;simp only [go_sem,Nat.reduceAdd,Nat.reduceLT,↓reduceIte,hd9,NI];have o:lastOf [] n=l ++ km (n*8 % 18446744073709551616) 8:=by unfold lastOf;rw [← C]
   generalize n*8%18446744073709551616=m at o;generalize lastOf [] n=L at o;clear C N O U;refine av (fun j:Nat=>⟨[(0,.ptr 0 0 0 1),(2,.ptr 2 0 0 1),(3,.own 98 0 (l++km m j).length (l++km m j).length),(4,.d (.int .u64 (m:Int))),(5,.d (.int .i64 (56-8*(j:Int))))],[(98,⟨5,1,rb (l++km m j)⟩),(2,⟨29,32,[cb z32]⟩),(0,⟨167,10,[dL s++[.nil,.d (.int .u64 (n:Int))]]⟩)],642⟩)
    (fun j=>j≤8) (fun j=>8-j) 0 aq (by
     simp[az,ai,fv,lk,AV.low,AV.low1,km]
     exact⟨aU _ _,aJ _ _,jH s (.nil) (.d (.int .u64 n)) (fun _=>trivial) (fun _=>trivial) _⟩) ?_
   intro j hj;have M:(l++km m j).length=l.length+j:=by rw[b_,fj]
   have e8:(56:Int)-8*(j:Int)-8=56-8*((j+1:Nat):Int):=aq;have V:IntKind.i64.wrap (56-8*(j:Int)-8)=56-8*((j+1:Nat):Int):=by rw[IntWalk.i64_in _ aq];omega
   simp only[go_sem,Nat.reduceEqDiff,Nat.reduceAdd,Nat.reduceLT,↓reduceIte];refine⟨fun h=>?_,fun h=>?_⟩
   ·have aa:j≤7:=aq;have I:IntKind.u8.wrap (Int.fdiv (m:Int) (2 ^ (min (56-8*(j:Int)).toNat 64)))=((t8 (eQ (56-8*j) m):Nat):Int):=by
     rw[show min (56-8*(j:Int)).toNat 64=56-8*j by omega,d_r,fY]
    have es:rb (l++km m j)++[[AV.d (.int .u8 ((t8 (eQ (56-8*j) m):Nat):Int))]]=rb (l++km m (j+1)):=by rw[iF,cD];rfl
    simp only[go_sem,I,aH,es,V];refine⟨aq,by decide,by have:=fj m j;omega,?_⟩;refine am (j+1) aq aq ?_;have F:(km m (j+1)).length=(km m j).length+1:=(by rw[fj,fj])
    simp[az,ai,fv,lk,AV.low,AV.low1,F];exact⟨aq,aU _ _,aJ _ _,jH s (.nil) (.d (.int .u64 n)) (fun _=>trivial) (fun _=>trivial) _⟩
   ·have P:j=8:=aq;subst P;rw[←o];have Y:L.length%64=0:=by rw[o,b_,fj];omega
    have Z:L.length≤2000000000000:=by rw[o,b_,fj];omega
    have q:l.length+(km m 8).length=L.length:=(by rw[o,b_]);clear o M e8 V b h X;simp[go_sem,tk8,vI,q];generalize B:uM L.length s L=E
    refine av (fun t:Nat×S8=>⟨[(0,.ptr 0 0 0 1),(2,.ptr 2 0 0 1),(3,.own 98 (64*t.1) (L.length-64*t.1) L.length),(6,.ptr 834 0 0 1)],[(834,⟨164,8,[dL t.2]⟩),(98,⟨5,1,rb L⟩),(2,⟨29,32,[cb z32]⟩),(0,⟨167,10,[dL s++[.nil,.d (.int .u64 (n:Int))]]⟩)],898⟩)
     (fun t=>64*t.1≤L.length∧∃k,L.length-64*t.1≤k∧uM k t.2 (L.drop (64*t.1))=E) (fun t=>L.length-64*t.1) (0,s) ⟨aq,L.length,aq,B⟩ (by
      simp[az,ai,fv,lk,AV.low,AV.low1]
      exact⟨iG _ _,aU _ _,aJ _ _,jH s (.nil) (.d (.int .u64 n)) (fun _=>trivial) (fun _=>trivial) _⟩) ?_
    rintro⟨j,a⟩⟨v,k,N,g⟩;simp only at v N g;have J:(L.drop (64*j)).length=L.length-64*j:=e_;simp only[go_sem,Nat.reduceEqDiff,Nat.reduceAdd,Nat.reduceLT,↓reduceIte];refine⟨fun h=>?_,fun h=>?_⟩
    ·have ab:64≤L.length-64*j:=aq;rw[eat_more aq aq]at g;simp[go_sem];refine⟨aq,?_⟩;refine aP [(0,834),(1,98)] (uN 164 8 a [] L (64*j) aq aw) rfl aw (by simp[lk]) (by simp[lk,Blk.ren,aO,AV.renL,AV.ren,iJ,dL,rb]) (by simp[AV.renL,AV.ren,b8,iJ,lk]) ?_;rintro r D⟨rfl,h0,h1⟩;refine⟨[],rfl,?_⟩;simp[go_sem,bZ,bB,h0,h1,Blk.ren,aO,Ij,dA,AV.renL,AV.ren];refine⟨aq,?_⟩;refine am (j+1,Go.Sha.take a ((L.drop (64*j)).take 64)) ⟨by simp only;omega,k-1,by simp only;omega,?_⟩ (by simp only;omega) ?_
     rw[List.drop_drop]at g;exact g;simp[az,ai,fv,lk,AV.low,AV.low1];exact⟨⟨aq,aq⟩,iG _ _,aU _ _,aJ _ _,jH s (.nil) (.d (.int .u64 n)) (fun _=>trivial) (fun _=>trivial) _⟩
    ·have e:L.drop (64*j)=[]:=dg aq;rw[e,eat_none k a [] aw]at g;have H:a=E.1:=(by rw[←g]);clear g B J e;simp[go_sem,vI]
     refine av (fun i:Nat=>⟨[(0,.ptr 0 0 0 1),(2,.ptr 2 0 0 1),(7,.ptr 994 0 0 1),(59,.agg (dL a)),(60,.d (.int .i64 i))],[(994,⟨29,32,[cb (jl (pre a.l i))]⟩),(2,⟨29,32,[cb z32]⟩),(0,⟨167,10,[dL s++[.nil,.d (.int .u64 (n:Int))]]⟩)],1090⟩)
      (fun i=>i≤8) (fun i=>8-i) 0 aq (by
       simp[az,ai,fv,lk,AV.low,AV.low1,aaP]
       exact⟨iG _ _,⟨rfl,aJ _ _⟩,aJ _ _,jH s (.nil) (.d (.int .u64 n)) (fun _=>trivial) (fun _=>trivial) _⟩) ?_
     intro i hi;have A:=pK a.l i;simp only[go_sem,Nat.reduceEqDiff,Nat.reduceAdd,Nat.reduceLT,↓reduceIte];refine⟨fun h2=>?_,fun h2=>?_⟩
     ·have W:=Ik a (i:=i) aq;have c:pre a.l (i+1)=pre a.l i++A6 (a.l.getD i 0) 4:=rfl;generalize a.l.getD i 0=x at W c;simp[go_sem,W];refine⟨aq,?_⟩
      refine av (fun k:Nat=>⟨[(0,.ptr 0 0 0 1),(2,.ptr 2 0 0 1),(7,.ptr 994 0 0 1),(59,.agg (dL a)),(60,.d (.int .i64 i)),(8,.d (.int .i64 i)),(9,.d (.int .u32 (x:Int))),(64,.d (.int .i64 k))],[(994,⟨29,32,[cb (jl (pre a.l i++A6 x k))]⟩),(2,⟨29,32,[cb z32]⟩),(0,⟨167,10,[dL s++[.nil,.d (.int .u64 (n:Int))]]⟩)],1300⟩)
       (fun k=>k≤4) (fun k=>4-k) 0 aq (by
        simp[az,ai,fv,lk,AV.low,AV.low1,A6]
        exact⟨iG _ _,aJ _ _,aJ _ _,jH s (.nil) (.d (.int .u64 n)) (fun _=>trivial) (fun _=>trivial) _⟩) ?_
      intro k ad;have K:=vG x k;simp only[go_sem,Nat.reduceEqDiff,Nat.reduceAdd,Nat.reduceLT,↓reduceIte];refine⟨fun h3=>?_,fun h3=>?_⟩
      ·have w1:IntKind.i64.wrap (4*(i:Int))=((4*i:Nat):Int):=by rw[IntWalk.i64_in _ aq];omega
       have w2:IntKind.i64.wrap (((4*i:Nat):Int)+(k:Int))=((4*i+k:Nat):Int):=by rw[IntWalk.i64_in _ aq];omega
       have w3:IntKind.i64.wrap (8*(k:Int))=((8*k:Nat):Int):=by rw[IntWalk.i64_in _ aq];omega
       have w4:IntKind.i64.wrap (24-((8*k:Nat):Int))=((24-8*k:Nat):Int):=by rw[IntWalk.i64_in _ aq];omega
       have S:=ay (k:=k) aq;have I:IntKind.u8.wrap (Int.fdiv (x:Int) (2 ^ (min (24-8*k) 32)))=((t8 (eQ (24-8*k) x):Nat):Int):=by
        rw[show min (24-8*k) 32=24-8*k by omega,d_r,fY]
       have z:(jl (pre a.l i++A6 x k)).set (4*i+k) (t8 (eQ (24-8*k) x))=jl (pre a.l i++A6 x (k+1)):=by
        have h:=zC (w:=pre a.l i++A6 x k) (x:=t8 (eQ (24-8*k) x)) (by rw[b_];omega);rw[b_,A,K,cD]at h;exact h
       have G:(jl (pre a.l i++A6 x k)).length=32:=zB (by rw[b_];omega);simp only[go_sem,w1,w2,w3,w4,Int.toNat_natCast,I,Nat.mul_one,Gj,z,G,S];refine⟨aq,aq,?_⟩;refine am (k+1) aq aq ?_;simp[az,ai,fv,lk,AV.low,AV.low1];exact⟨iG _ _,aJ _ _,aJ _ _,jH s (.nil) (.d (.int .u64 n)) (fun _=>trivial) (fun _=>trivial) _⟩
      ·have y:k=4:=aq;subst y;rw[←c];have S:=ay (k:=i) aq;simp only[go_sem,S];refine am (i+1) aq aq ?_;simp[az,ai,fv,lk,AV.low,AV.low1];exact⟨iG _ _,aJ _ _,aJ _ _,jH s (.nil) (.d (.int .u64 n)) (fun _=>trivial) (fun _=>trivial) _⟩
     ·have Q:i=8:=aq;subst Q;have p:jl (pre a.l 8)=Kp a:=w9 A;rw[p,H];have u:(Kp E.1).length=32:=pK _ 8;have T:List.take 32 (cb (Kp E.1))=cb (Kp E.1):=cx (by rw[ak];omega);simp[go_sem,u,T];rfl
end Go.Proofs.YtmfnimjnneflnaaGreat
namespace Go.Sha
theorem DN:∀(k j:Nat)(s:S8)(b:List Nat),b.length≤k→b.length≤j→uM k s b=uM j s b
 |0,j,s,b,h,_=>by
  have c:b.length<64:=aq;rw[Go.Proofs.YtmfnimjnneflnaaGreat.eat_none 0 s b c,Go.Proofs.YtmfnimjnneflnaaGreat.eat_none j s b c]
 |k+1,j,s,b,h,h2=>by
  by_cases a:64≤b.length;rw[Go.Proofs.YtmfnimjnneflnaaGreat.eat_more a h,Go.Proofs.YtmfnimjnneflnaaGreat.eat_more a h2];exact DN k (j-1) _ _ (by rw[e_];omega) (by rw[e_];omega);rw[Go.Proofs.YtmfnimjnneflnaaGreat.eat_none _ s b aq,Go.Proofs.YtmfnimjnneflnaaGreat.eat_none _ s b aq]
def E(s:S8)(b:List Nat):S8×List Nat:=uM b.length s b
theorem qX{s:S8}{b:List Nat}(h:b.length<64):E s b=(s,b):=Go.Proofs.YtmfnimjnneflnaaGreat.eat_none _ s b h
theorem t6{s:S8}{b:List Nat}(h:64≤b.length):E s b=E (Go.Sha.take s (b.take 64)) (b.drop 64):=by
 unfold E;rw[Go.Proofs.YtmfnimjnneflnaaGreat.eat_more h (cR _)];exact DN _ _ _ _ (by rw[e_];omega) (cR _)
theorem DO(b:List Nat):∀(n:Nat)(s:S8)(a:List Nat),a.length≤n→E s (a++b)=E (E s a).1 ((E s a).2++b)
 |0,s,a,h=>by rw[qX (b:=a) aq]
 |n+1,s,a,h=>by
  by_cases c:64≤a.length;rw[t6 (b:=a) c,t6 (b:=a++b) (by rw[b_];omega)];rw[List.take_append_of_le_length c,List.drop_append_of_le_length c];exact DO b n _ _ (by rw[e_];omega);rw[qX (b:=a) aq]
theorem DR:∀(n:Nat)(s:S8)(a:List Nat),a.length≤n→(E s a).2.length≤a.length
 |0,s,a,h=>by rw[qX aq];exact cR _
 |n+1,s,a,h=>by
  by_cases b:64≤a.length;rw[t6 b];have:=DR n (Go.Sha.take s (a.take 64)) (a.drop 64) (by rw[e_];omega);rw[e_]at this;omega;rw[qX aq];exact cR _
def uO(p:S8×List Nat)(n:Nat):List Nat:=Kp (E p.1 (Go.Proofs.YtmfnimjnneflnaaGreat.lastOf p.2 n)).1
def aW(b:List Nat):List Nat:=uO (E H0 b) b.length
def fJ(t b:List Nat):List Nat:=aW (aW t++(aW t++b))
theorem bf(b:List Nat):(aW b).length=32:=pK _ 8
end Go.Sha
namespace Go.Proofs.YtmfnimjnneflnaaGreat
open Go.Am Go.Sha
theorem wn(a b:Nat)(h:a+b<18446744073709551616):IntKind.u64.wrap ((a:Int)+IntKind.u64.wrap (b:Int))=((a+b:Nat):Int):=by rw[iK,iK];omega
theorem fy(ρ:Nat→Nat)(b:List Nat):(AV.d (nb b)).ren ρ=.d (nb b):=rfl
theorem dP(ρ:Nat→Nat):∀l:List Nat,AV.renL ρ (cb l)=cb l
 |[]=>by simp[cb,AV.renL]
 |x::r=>by
  have:=dP ρ r;simp only[cb]at this;simp only[cb,List.map_cons,AV.renL,AV.ren,this]
theorem al{l:List Nat}(h:l.length=32):List.take 32 (cb l)=cb l:=cx (by rw[ak];omega)
theorem cp:List.drop 32 (cb z32)=[]:=rfl
theorem im(ρ:Nat→Nat)(s:S8)(a b:AV):AV.renL ρ (dL s++[a,b])=dL s++[a.ren ρ,b.ren ρ]:=by simp[dL,AV.renL,AV.ren]
theorem SN(s:S8)(R:AV)(rest b:List Nat)(n:Nat)(c:R=.d (nb rest)∨(R=.nil∧rest=[]))(g:rest.length+b.length≤1000000000000)(e:n+b.length<18446744073709551616) :
  cX Tryz.prog 58 1 [(0,⟨167,10,[dL s++[R,.d (.int .u64 (n:Int))]]⟩)] [.ptr 0 0 0 1,.d (nb b)]
   (fun r a=>r=.tup []∧lk 0 a=some ⟨167,10,[dL (E s (rest++b)).1++[.d (nb (E s (rest++b)).2),.d (.int .u64 ((n+b.length:Nat):Int))]]⟩):=by
 have:=NH s R rest b n c g;rw[wn n b.length e]at this;exact this
theorem mV(b:List Nat)(g:b.length≤100000000000):au Tryz.prog 84 [.d (nb b)] (fun r=>r=.agg (cb (aW b))):=by
 refine bF Tryz.func84 Tryz.ntmps84 (rs:=[.cell 2 29]) a9 ?_;simp only[go_sem,Nat.reduceLT];refine aP [] oS rfl aw aw aw (by simp[AV.renL]) ?_;rintro r a⟨rfl,c⟩;refine⟨[(97,0)],rfl,?_⟩;simp[go_sem,bZ,bB,c,Blk.ren,aO,im,AV.ren,b8];refine aP [(0,32)] (SN H0 .nil [] b 0 (.inr ⟨rfl,rfl⟩) (by simp;omega) aq) rfl aw (by simp[lk]) (by simp[lk,Blk.ren,aO,im,AV.ren,iJ]) (by simp[AV.renL,AV.ren,b8,iJ,lk]) ?_;rintro r a⟨rfl,c⟩;refine⟨[],rfl,?_⟩;simp[go_sem,bZ,bB,c,Blk.ren,aO,im,AV.renL,AV.ren];refine aP [(0,32)] (Gk (E H0 b).1 (.d (nb (E H0 b).2)) (E H0 b).2 b.length (.inl rfl) (by have:=DR _ H0 b (cR _);omega)) rfl aw (by simp[lk]) (by simp[lk,Blk.ren,aO,im,AV.ren,iJ]) (by simp[AV.renL,AV.ren,b8,iJ,lk]) ?_;rintro r a⟨rfl,c⟩;refine⟨[],rfl,?_⟩;have e:Kp (uM (lastOf (E H0 b).2 b.length).length (E H0 b).1 (lastOf (E H0 b).2 b.length)).1=aW b:=rfl;rw[e]at *;simp[go_sem,bZ,bB,c,Blk.ren,aO,im,dP,AV.ren,ah,bf,al (bf b),cp];exact aa (by simp[AV.deep];exact bn _) rfl
theorem eU{hp:Hp}{I:Nat→Prop}{id:Nat}{ty:TypeId}{l:List Nat}(e:lk id hp=some ⟨ty,32,[cb l]⟩)(h:I id)(i:l.length=32):SnapD hp I (.sub id 0 0 1 32 32 1) (nb l):=by
 refine .sub (es:=l.map fun(x:Nat)=>[.int .u8 (x:Int)]) h e rfl rfl aq (by simp[i]) (fun r a=>by
  rw[List.mem_map]at a;obtain⟨c,_,rfl⟩:=a
  rfl) fun k j c r y hc a b=>?_
 simp only[Nat.zero_add,Nat.mul_one,c_,Option.map_eq_some_iff]at hc a;obtain⟨x,g,rfl⟩:=a;cases j with
 |succ j=>simp at b
 |zero =>
  simp at b;subst b;rw[Nat.add_zero,Gi,g]at hc;simp at hc;subst hc;exact .d _
theorem jm{b:List Nat}(g:b.length=32):(List.range 32).map (fun k=>((cb b).drop k).take 1)=List.map ((fun r=>List.map AV.d r)∘fun(x:Nat)=>[DV.int .u8 (x:Int)]) b:=by
 apply List.ext_getElem?;intro i;by_cases c:i<32;rw[c_,c_,List.getElem?_range c,cm (by omega:i<b.length)];have h:i<(cb b).length:=by rw[ak];omega
 have a:(cb b)[i]?=some (.d (.int .u8 ((b[i]:Nat):Int))):=by rw[Gi,cm (by omega:i<b.length)];rfl
 have e:(cb b)[i]=.d (.int .u8 ((b[i]:Nat):Int)):=by
  rw[cm h]at a;exact Option.some.inj a
 rw[Option.map_some,Option.map_some,List.drop_eq_getElem_cons h,e];rfl;rw[List.getElem?_eq_none (by simp;omega),List.getElem?_eq_none (by simp;omega)]
theorem sD(ty:TypeId)(e:Nat)(c:List AV)(s:S8)(R:AV)(rest b:List Nat)(n:Int)(D:(List.range 32).map (fun k=>(c.drop k).take 1)=List.map ((fun r=>List.map AV.d r)∘fun(x:Nat)=>[DV.int .u8 (x:Int)]) b)(a:∀n v,v∈c→v.low1 n)(H:R=.d (nb rest)∨(R=.nil∧rest=[]))(z:rest.length+b.length≤1000000000000)(p:b.length=32) :
  cX Tryz.prog 58 2 [(0,⟨167,10,[dL s++[R,.d (.int .u64 n)]]⟩),(1,⟨ty,e,[c]⟩)] [.ptr 0 0 0 1,.sub 1 0 0 1 32 32 1]
   (fun r j=>r=.tup []∧lk 0 j=some ⟨167,10,[dL (uM ((rest++b).length) s (rest++b)).1++[.d (nb (uM ((rest++b).length) s (rest++b)).2),.d (.int .u64 (IntKind.u64.wrap (n+(IntKind.u64.wrap (b.length:Int)))))]]⟩∧lk 1 j=some ⟨ty,e,[c]⟩):=by
 refine ap Tryz.func58 (by kernel_rfl) rfl Tryz.ntmps58 (rs:=[]) rfl (dJ rfl) (by decide) ?_;rw[p];generalize A:IntKind.u64.wrap (n+(IntKind.u64.wrap ((32:Nat):Int)))=n';generalize w:uM ((rest++b).length) s (rest++b)=E;have y:=D;generalize F:List.map ((fun r=>List.map AV.d r)∘fun(x:Nat)=>[DV.int .u8 (x:Int)]) b=X at y;simp[go_sem]at y;have u:IntKind.u64.wrap (n+IntKind.u64.wrap 32)=n':=A;rcases H with rfl|⟨rfl,rfl⟩
 ·simp[go_sem,nb,dL,u];refine cz [0,1,2,3,4,5,6,7,8,9,10,11,12,13,14,15,16] [(17,[18,19]),(20,[])] 1 (k:=21) ?_;intro G g;simp[go_sem,mG,y];rw[←F,pL];simp[go_sem];refine⟨by have:=z;simp only[b_]at *;omega,.inl (g _ _ ?_)⟩;clear g G
  refine av (fun t:S8×List Nat=>⟨[(0,.ptr 0 0 0 1)],[(0,⟨167,10,[dL t.1++[.d (nb t.2),.d (.int .u64 n')]]⟩),(1,⟨ty,e,[c]⟩)],1091⟩)
   (fun t=>t.2.length≤1000000000000∧∃k,t.2.length≤k∧uM k t.1 t.2=E) (fun t=>t.2.length) (s,rest++b) ⟨by have:=z;simp only[b_]at *;omega,_,cR _,w⟩ (by
    simp[az,ai,fv,lk,AV.low,AV.low1,nb,dL]
    exact a _) ?_
  rintro⟨l,q⟩⟨C,k,o,i⟩;simp only at C o i;simp only[go_sem,Nat.reduceEqDiff,Nat.reduceAdd,Nat.reduceLT,↓reduceIte,dL,nb,List.length_map];refine⟨fun h=>?_,fun h=>?_⟩
  ·have m:64≤q.length:=aq;rw[eat_more m o]at i;refine cz [0,1,2,3,4,5,6,7] [(8,[])] 0 (k:=9) ?_;intro G g;simp[go_sem];refine⟨aq,?_⟩;refine aP [(0,0)] (vH 167 10 l [.d (nb q),.d (.int .u64 n')] (q.take 64) (by simp;omega) (by simp[AV.low1])) rfl aw (by simp[lk]) (by simp[lk,Blk.ren,aO,AV.renL,AV.ren,iJ,dL,nb]) (by simp[AV.renL,AV.ren,b8,iJ,lk,nb,List.map_take]) ?_;rintro r j⟨rfl,B⟩;refine⟨[],rfl,?_⟩;simp[go_sem,bZ,bB,B,Blk.ren,aO,AV.renL,AV.ren,dL];refine g _ _ ?_;clear g G;simp[go_sem,nb];refine⟨aq,?_⟩;refine am (Go.Sha.take l (q.take 64),q.drop 64) ⟨by simp only[e_];omega,k-1,by simp only[e_];omega,i⟩ (by simp only[e_];omega) ?_;simp[az,ai,fv,lk,AV.low,AV.low1,List.map_drop,mG];exact a _
  ·rw[eat_none k l q aq]at i;subst i;rfl
 ·simp[go_sem,nb,dL,u];refine cz [0,1,2,3,4,5,6,7,8,9,10,11,12,13,14,15,16] [(17,[18,19]),(20,[])] 1 (k:=21) ?_;intro G g;simp[go_sem,y];rw[←F,pL];simp[go_sem];refine⟨by have:=z;simp only[b_,List.length_nil]at *;omega,.inl (g _ _ ?_)⟩;clear g G
  refine av (fun t:S8×List Nat=>⟨[(0,.ptr 0 0 0 1)],[(0,⟨167,10,[dL t.1++[.d (nb t.2),.d (.int .u64 n')]]⟩),(1,⟨ty,e,[c]⟩)],1091⟩)
   (fun t=>t.2.length≤1000000000000∧∃k,t.2.length≤k∧uM k t.1 t.2=E) (fun t=>t.2.length) (s,[]++b) ⟨by have:=z;simp only[b_,List.length_nil]at *;omega,_,cR _,w⟩ (by
    simp[az,ai,fv,lk,AV.low,AV.low1,nb,dL]
    exact a _) ?_
  rintro⟨l,q⟩⟨C,k,o,i⟩;simp only at C o i;simp only[go_sem,Nat.reduceEqDiff,Nat.reduceAdd,Nat.reduceLT,↓reduceIte,dL,nb,List.length_map];refine⟨fun h=>?_,fun h=>?_⟩
  ·have m:64≤q.length:=aq;rw[eat_more m o]at i;refine cz [0,1,2,3,4,5,6,7] [(8,[])] 0 (k:=9) ?_;intro G g;simp[go_sem];refine⟨aq,?_⟩;refine aP [(0,0)] (vH 167 10 l [.d (nb q),.d (.int .u64 n')] (q.take 64) (by simp;omega) (by simp[AV.low1])) rfl aw (by simp[lk]) (by simp[lk,Blk.ren,aO,AV.renL,AV.ren,iJ,dL,nb]) (by simp[AV.renL,AV.ren,b8,iJ,lk,nb,List.map_take]) ?_;rintro r j⟨rfl,B⟩;refine⟨[],rfl,?_⟩;simp[go_sem,bZ,bB,B,Blk.ren,aO,AV.renL,AV.ren,dL];refine g _ _ ?_;clear g G;simp[go_sem,nb];refine⟨aq,?_⟩;refine am (Go.Sha.take l (q.take 64),q.drop 64) ⟨by simp only[e_];omega,k-1,by simp only[e_];omega,i⟩ (by simp only[e_];omega) ?_;simp[az,ai,fv,lk,AV.low,AV.low1,List.map_drop,mG];exact a _
  ·rw[eat_none k l q aq]at i;subst i;rfl
theorem Il(s:S8)(R:AV)(rest b:List Nat)(n:Nat)(e:R=.d (nb rest)∨(R=.nil∧rest=[]))(h:rest.length+b.length≤1000000000000)(a:b.length=32)(g:n+b.length<18446744073709551616) :
  cX Tryz.prog 58 2 [(0,⟨167,10,[dL s++[R,.d (.int .u64 (n:Int))]]⟩),(1,⟨29,32,[cb b]⟩)] [.ptr 0 0 0 1,.sub 1 0 0 1 32 32 1]
   (fun r c=>r=.tup []∧lk 0 c=some ⟨167,10,[dL (E s (rest++b)).1++[.d (nb (E s (rest++b)).2),.d (.int .u64 ((n+b.length:Nat):Int))]]⟩∧lk 1 c=some ⟨29,32,[cb b]⟩):=by
 have:=sD 29 32 (cb b) s R rest b n (jm a) (fun n=>aJ n _) e h a;rw[wn n b.length g]at this;exact this
theorem NL(ty:TypeId)(e:Nat)(a:List AV)(s:S8)(R:AV)(rest b:List Nat)(n:Nat)(i:(List.range 32).map (fun k=>(a.drop k).take 1)=List.map ((fun r=>List.map AV.d r)∘fun(x:Nat)=>[DV.int .u8 (x:Int)]) b)(g:∀n v,v∈a→v.low1 n)(j:R=.d (nb rest)∨(R=.nil∧rest=[]))(m:rest.length+b.length≤1000000000000)(h:b.length=32)(l:n+b.length<18446744073709551616) :
  cX Tryz.prog 58 2 [(0,⟨167,10,[dL s++[R,.d (.int .u64 (n:Int))]]⟩),(1,⟨ty,e,[a]⟩)] [.ptr 0 0 0 1,.sub 1 0 0 1 32 32 1]
   (fun r c=>r=.tup []∧lk 0 c=some ⟨167,10,[dL (E s (rest++b)).1++[.d (nb (E s (rest++b)).2),.d (.int .u64 ((n+b.length:Nat):Int))]]⟩∧lk 1 c=some ⟨ty,e,[a]⟩):=by
 have:=sD ty e a s R rest b n i g j m h;rw[wn n b.length l]at this;exact this
theorem iR(a:List Nat)(m:DV)(k:m=.str (a.map fun(x:Nat)=>(x:Int)))(b:List Nat)(u:a.length≤1000)(s:b.length≤10000000000):au Tryz.prog 62 [.d m,.d (nb b)] (fun r=>r=.agg (cb (fJ a b))):=by
 subst k;refine bF Tryz.func62 Tryz.ntmps62 (rs:=[.cell 4 29]) a9 ?_;simp[go_sem,Tryz.underlying5];refine ag (mV a aq) a9 ?_;have h:=bf a;have p:fJ a b=aW (aW a++(aW a++b)):=rfl;rw[p];generalize aW a=D at h;simp[go_sem,h,cp];refine aP [] oS rfl aw aw aw (by simp[AV.renL]) ?_;rintro r e⟨rfl,c⟩;refine⟨[(97,0)],rfl,?_⟩;simp[go_sem,bZ,bB,c,Blk.ren,aO,im,AV.ren,b8]
 have j:E H0 (D++(D++b))=E (E (E H0 D).1 ((E H0 D).2++D)).1 ((E (E H0 D).1 ((E H0 D).2++D)).2++b):=by
  rw[DO _ _ _ D (cR _),←cD,DO _ _ _ ((E H0 D).2++D) (cR _)]
 have g:uO (E (E (E H0 D).1 ((E H0 D).2++D)).1 ((E (E H0 D).1 ((E H0 D).2++D)).2++b)) (0+D.length+D.length+b.length)=aW (D++(D++b)):=by
  unfold aW;rw[j];congr 1;simp only[b_];omega
 have t:=DR _ H0 D (cR _);refine aP [(0,192),(1,128)] (Il H0 .nil [] D 0 (.inr ⟨rfl,rfl⟩) (by simp;omega) h aq) rfl aw (by simp[lk]) (by simp[lk,Blk.ren,aO,im,dP,AV.ren,iJ]) (by simp[AV.renL,AV.ren,b8,iJ,lk]) ?_;rintro r e⟨rfl,c,i⟩;refine⟨[],rfl,?_⟩;rw[List.nil_append]at c;generalize E H0 D=p1 at *;have o:=DR _ p1.1 (p1.2++D) (cR _);rw[b_]at o;simp[go_sem,bZ,bB,c,i,Blk.ren,aO,im,dP,AV.renL,AV.ren];refine aP [(0,192),(1,128)] (Il p1.1 (.d (nb p1.2)) p1.2 D (0+D.length) (.inl rfl) aq h aq) rfl aw (by simp[lk]) (by simp[lk,Blk.ren,aO,im,dP,AV.ren,iJ]) (by simp[AV.renL,AV.ren,b8,iJ,lk]) ?_;rintro r e⟨rfl,c,i⟩;refine⟨[],rfl,?_⟩;generalize E p1.1 (p1.2++D)=p2 at *;have q:=DR _ p2.1 (p2.2++b) (cR _);rw[b_]at q;simp[go_sem,bZ,bB,c,i,Blk.ren,aO,im,dP,AV.renL,AV.ren];refine aP [(0,192)] (SN p2.1 (.d (nb p2.2)) p2.2 b (0+D.length+D.length) (.inl rfl) aq aq) rfl aw (by simp[lk]) (by simp[lk,Blk.ren,aO,im,AV.ren,iJ]) (by simp[AV.renL,AV.ren,b8,iJ,lk]) ?_;rintro r e⟨rfl,c⟩;refine⟨[],rfl,?_⟩;generalize E p2.1 (p2.2++b)=p3 at *;simp[go_sem,bZ,bB,c,Blk.ren,aO,im,AV.renL,AV.ren];refine aP [(0,192)] (Gk p3.1 (.d (nb p3.2)) p3.2 (0+D.length+D.length+b.length) (.inl rfl) aq) rfl aw (by simp[lk]) (by simp[lk,Blk.ren,aO,im,AV.ren,iJ]) (by simp[AV.renL,AV.ren,b8,iJ,lk]) ?_;rintro r e⟨rfl,c⟩;refine⟨[],rfl,?_⟩;have n:Kp (uM (lastOf p3.2 (0+D.length+D.length+b.length)).length p3.1 (lastOf p3.2 (0+D.length+D.length+b.length))).1=aW (D++(D++b)):=g;rw[n];have l:=bf (D++(D++b));generalize aW (D++(D++b))=R at *;simp[go_sem,bZ,bB,c,Blk.ren,aO,im,dP,AV.ren,ah,l,al l,cp];exact aa (by simp[AV.deep];exact bn _) rfl
end Go.Proofs.YtmfnimjnneflnaaGreat
