/-
 Part 5 of what the claim rests on.
-/
import Derived.Test.YtmfnimjnneflnaaGreatY2
import Derived.Test.YtmfnimjnneflnaaGreatY3
import Derived.Test.YtmfnimjnneflnaaGreatRows
set_option linter.unusedVariables false
set_option linter.unusedSimpArgs false
set_option maxRecDepth 100000
set_option maxHeartbeats 16000000
namespace Go.Proofs.YtmfnimjnneflnaaGreat
open Go.Am
@[go_sem] theorem k3:bg Tryz.prog 3=.scal:=by kernel_rfl
@[go_sem] theorem c3:Tryz.prog.cellsOf 3=1:=by kernel_rfl
@[go_sem] theorem b3:Tryz.prog.bytesOf 3=8:=by kernel_rfl
@[go_sem] theorem z3:ek Tryz.prog 3=some [.d (.int .i64 0)]:=by kernel_rfl
@[go_sem] theorem i3:fM Tryz.prog 3=some .i64:=by kernel_rfl
@[go_sem] theorem u3:(Tryz.prog.underlying 3).isSome=true:=by kernel_rfl
@[go_sem] theorem k4:bg Tryz.prog 4=.scal:=by kernel_rfl
@[go_sem] theorem c4:Tryz.prog.cellsOf 4=1:=by kernel_rfl
@[go_sem] theorem b4:Tryz.prog.bytesOf 4=1:=by kernel_rfl
@[go_sem] theorem z4:ek Tryz.prog 4=some [.d (.bool false)]:=by kernel_rfl
@[go_sem] theorem u4:(Tryz.prog.underlying 4).isSome=true:=by kernel_rfl
@[go_sem] theorem k5:bg Tryz.prog 5=.scal:=by kernel_rfl
@[go_sem] theorem c5:Tryz.prog.cellsOf 5=1:=by kernel_rfl
@[go_sem] theorem b5:Tryz.prog.bytesOf 5=1:=by kernel_rfl
@[go_sem] theorem z5:ek Tryz.prog 5=some [.d (.int .u8 0)]:=by kernel_rfl
@[go_sem] theorem i5:fM Tryz.prog 5=some .u8:=by kernel_rfl
@[go_sem] theorem u5:(Tryz.prog.underlying 5).isSome=true:=by kernel_rfl
@[go_sem] theorem k9:bg Tryz.prog 9=.str:=by kernel_rfl
@[go_sem] theorem c9:Tryz.prog.cellsOf 9=1:=by kernel_rfl
@[go_sem] theorem b9:Tryz.prog.bytesOf 9=16:=by kernel_rfl
@[go_sem] theorem z9:ek Tryz.prog 9=some [.d (.str [])]:=by kernel_rfl
@[go_sem] theorem u9:(Tryz.prog.underlying 9).isSome=true:=by kernel_rfl
@[go_sem] theorem k22:bg Tryz.prog 22=.scal:=by kernel_rfl
@[go_sem] theorem c22:Tryz.prog.cellsOf 22=1:=by kernel_rfl
@[go_sem] theorem b22:Tryz.prog.bytesOf 22=4:=by kernel_rfl
@[go_sem] theorem z22:ek Tryz.prog 22=some [.d (.int .u32 0)]:=by kernel_rfl
@[go_sem] theorem i22:fM Tryz.prog 22=some .u32:=by kernel_rfl
@[go_sem] theorem u22:(Tryz.prog.underlying 22).isSome=true:=by kernel_rfl
@[go_sem] theorem k23:bg Tryz.prog 23=.slice 68:=by kernel_rfl
@[go_sem] theorem c23:Tryz.prog.cellsOf 23=1:=by kernel_rfl
@[go_sem] theorem b23:Tryz.prog.bytesOf 23=24:=by kernel_rfl
@[go_sem] theorem z23:ek Tryz.prog 23=some [.nil]:=by kernel_rfl
@[go_sem] theorem u23:(Tryz.prog.underlying 23).isSome=true:=by kernel_rfl
@[go_sem] theorem k24:bg Tryz.prog 24=.slice 57:=by kernel_rfl
@[go_sem] theorem c24:Tryz.prog.cellsOf 24=1:=by kernel_rfl
@[go_sem] theorem b24:Tryz.prog.bytesOf 24=24:=by kernel_rfl
@[go_sem] theorem z24:ek Tryz.prog 24=some [.nil]:=by kernel_rfl
@[go_sem] theorem u24:(Tryz.prog.underlying 24).isSome=true:=by kernel_rfl
@[go_sem] theorem k26:bg Tryz.prog 26=.struct [(0,22),(1,23),(2,24),(3,22)]:=by kernel_rfl
@[go_sem] theorem c26:Tryz.prog.cellsOf 26=4:=by kernel_rfl
@[go_sem] theorem b26:Tryz.prog.bytesOf 26=64:=by kernel_rfl
@[go_sem] theorem z26:ek Tryz.prog 26=some [.d (.int .u32 0),.nil,.nil,.d (.int .u32 0)]:=by kernel_rfl
@[go_sem] theorem u26:(Tryz.prog.underlying 26).isSome=true:=by kernel_rfl
@[go_sem] theorem k28:bg Tryz.prog 28=.struct [(0,26),(4,3),(5,24)]:=by kernel_rfl
@[go_sem] theorem c28:Tryz.prog.cellsOf 28=6:=by kernel_rfl
@[go_sem] theorem b28:Tryz.prog.bytesOf 28=96:=by kernel_rfl
@[go_sem] theorem z28:ek Tryz.prog 28=some [.d (.int .u32 0),.nil,.nil,.d (.int .u32 0),.d (.int .i64 0),.nil]:=by kernel_rfl
@[go_sem] theorem u28:(Tryz.prog.underlying 28).isSome=true:=by kernel_rfl
@[go_sem] theorem k29:bg Tryz.prog 29=.arr 32 5:=by kernel_rfl
@[go_sem] theorem c29:Tryz.prog.cellsOf 29=32:=by kernel_rfl
@[go_sem] theorem b29:Tryz.prog.bytesOf 29=32:=by kernel_rfl
@[go_sem] theorem u29:(Tryz.prog.underlying 29).isSome=true:=by kernel_rfl
@[go_sem] theorem k31:bg Tryz.prog 31=.slice 5:=by kernel_rfl
@[go_sem] theorem c31:Tryz.prog.cellsOf 31=1:=by kernel_rfl
@[go_sem] theorem b31:Tryz.prog.bytesOf 31=24:=by kernel_rfl
@[go_sem] theorem z31:ek Tryz.prog 31=some [.nil]:=by kernel_rfl
@[go_sem] theorem u31:(Tryz.prog.underlying 31).isSome=true:=by kernel_rfl
@[go_sem] theorem OR:bg Tryz.prog 32=.struct [(0,29),(32,30),(33,31)]:=by kernel_rfl
@[go_sem] theorem OS:Tryz.prog.cellsOf 32=34:=by kernel_rfl
@[go_sem] theorem OT:Tryz.prog.bytesOf 32=80:=by kernel_rfl
@[go_sem] theorem OU:(Tryz.prog.underlying 32).isSome=true:=by kernel_rfl
@[go_sem] theorem k34:bg Tryz.prog 34=.slice 31:=by kernel_rfl
@[go_sem] theorem c34:Tryz.prog.cellsOf 34=1:=by kernel_rfl
@[go_sem] theorem b34:Tryz.prog.bytesOf 34=24:=by kernel_rfl
@[go_sem] theorem z34:ek Tryz.prog 34=some [.nil]:=by kernel_rfl
@[go_sem] theorem u34:(Tryz.prog.underlying 34).isSome=true:=by kernel_rfl
@[go_sem] theorem k45:bg Tryz.prog 45=.slice 55:=by kernel_rfl
@[go_sem] theorem c45:Tryz.prog.cellsOf 45=1:=by kernel_rfl
@[go_sem] theorem b45:Tryz.prog.bytesOf 45=24:=by kernel_rfl
@[go_sem] theorem z45:ek Tryz.prog 45=some [.nil]:=by kernel_rfl
@[go_sem] theorem u45:(Tryz.prog.underlying 45).isSome=true:=by kernel_rfl
@[go_sem] theorem k46:bg Tryz.prog 46=.scal:=by kernel_rfl
@[go_sem] theorem c46:Tryz.prog.cellsOf 46=1:=by kernel_rfl
@[go_sem] theorem b46:Tryz.prog.bytesOf 46=8:=by kernel_rfl
@[go_sem] theorem z46:ek Tryz.prog 46=some [.d (.int .i64 0)]:=by kernel_rfl
@[go_sem] theorem i46:fM Tryz.prog 46=some .i64:=by kernel_rfl
@[go_sem] theorem u46:(Tryz.prog.underlying 46).isSome=true:=by kernel_rfl
@[go_sem] theorem k53:bg Tryz.prog 53=.scal:=by kernel_rfl
@[go_sem] theorem c53:Tryz.prog.cellsOf 53=1:=by kernel_rfl
@[go_sem] theorem b53:Tryz.prog.bytesOf 53=8:=by kernel_rfl
@[go_sem] theorem z53:ek Tryz.prog 53=some [.d (.int .u64 0)]:=by kernel_rfl
@[go_sem] theorem i53:fM Tryz.prog 53=some .u64:=by kernel_rfl
@[go_sem] theorem u53:(Tryz.prog.underlying 53).isSome=true:=by kernel_rfl
@[go_sem] theorem k55:bg Tryz.prog 55=.struct [(0,3),(1,53)]:=by kernel_rfl
@[go_sem] theorem c55:Tryz.prog.cellsOf 55=2:=by kernel_rfl
@[go_sem] theorem b55:Tryz.prog.bytesOf 55=16:=by kernel_rfl
@[go_sem] theorem z55:ek Tryz.prog 55=some [.d (.int .i64 0),.d (.int .u64 0)]:=by kernel_rfl
@[go_sem] theorem u55:(Tryz.prog.underlying 55).isSome=true:=by kernel_rfl
@[go_sem] theorem k57:bg Tryz.prog 57=.struct [(0,53),(1,31)]:=by kernel_rfl
@[go_sem] theorem c57:Tryz.prog.cellsOf 57=2:=by kernel_rfl
@[go_sem] theorem b57:Tryz.prog.bytesOf 57=32:=by kernel_rfl
@[go_sem] theorem z57:ek Tryz.prog 57=some [.d (.int .u64 0),.nil]:=by kernel_rfl
@[go_sem] theorem u57:(Tryz.prog.underlying 57).isSome=true:=by kernel_rfl
@[go_sem] theorem k66:bg Tryz.prog 66=.struct [(0,29),(32,22)]:=by kernel_rfl
@[go_sem] theorem c66:Tryz.prog.cellsOf 66=33:=by kernel_rfl
@[go_sem] theorem b66:Tryz.prog.bytesOf 66=36:=by kernel_rfl
@[go_sem] theorem u66:(Tryz.prog.underlying 66).isSome=true:=by kernel_rfl
@[go_sem] theorem k68:bg Tryz.prog 68=.struct [(0,66),(33,22),(34,34)]:=by kernel_rfl
@[go_sem] theorem c68:Tryz.prog.cellsOf 68=35:=by kernel_rfl
@[go_sem] theorem b68:Tryz.prog.bytesOf 68=64:=by kernel_rfl
@[go_sem] theorem u68:(Tryz.prog.underlying 68).isSome=true:=by kernel_rfl
@[go_sem] theorem k96:bg Tryz.prog 96=.arr 4 53:=by kernel_rfl
@[go_sem] theorem c96:Tryz.prog.cellsOf 96=4:=by kernel_rfl
@[go_sem] theorem b96:Tryz.prog.bytesOf 96=32:=by kernel_rfl
@[go_sem] theorem z96:ek Tryz.prog 96=some [.d (.int .u64 0),.d (.int .u64 0),.d (.int .u64 0),.d (.int .u64 0)]:=by kernel_rfl
@[go_sem] theorem u96:(Tryz.prog.underlying 96).isSome=true:=by kernel_rfl
@[go_sem] theorem k139:bg Tryz.prog 139=.arr 3 29:=by kernel_rfl
@[go_sem] theorem c139:Tryz.prog.cellsOf 139=96:=by kernel_rfl
@[go_sem] theorem b139:Tryz.prog.bytesOf 139=96:=by kernel_rfl
@[go_sem] theorem u139:(Tryz.prog.underlying 139).isSome=true:=by kernel_rfl
@[go_sem] theorem k143:bg Tryz.prog 143=.arr 5 29:=by kernel_rfl
@[go_sem] theorem c143:Tryz.prog.cellsOf 143=160:=by kernel_rfl
@[go_sem] theorem b143:Tryz.prog.bytesOf 143=160:=by kernel_rfl
@[go_sem] theorem u143:(Tryz.prog.underlying 143).isSome=true:=by kernel_rfl
@[go_sem] theorem k164:bg Tryz.prog 164=.arr 8 22:=by kernel_rfl
@[go_sem] theorem c164:Tryz.prog.cellsOf 164=8:=by kernel_rfl
@[go_sem] theorem b164:Tryz.prog.bytesOf 164=32:=by kernel_rfl
@[go_sem] theorem z164:ek Tryz.prog 164=some [.d (.int .u32 0),.d (.int .u32 0),.d (.int .u32 0),.d (.int .u32 0),.d (.int .u32 0),.d (.int .u32 0),.d (.int .u32 0),.d (.int .u32 0)]:=by kernel_rfl
@[go_sem] theorem u164:(Tryz.prog.underlying 164).isSome=true:=by kernel_rfl
@[go_sem] theorem k167:bg Tryz.prog 167=.struct [(0,164),(8,31),(9,53)]:=by kernel_rfl
@[go_sem] theorem c167:Tryz.prog.cellsOf 167=10:=by kernel_rfl
@[go_sem] theorem b167:Tryz.prog.bytesOf 167=64:=by kernel_rfl
@[go_sem] theorem z167:ek Tryz.prog 167=some [.d (.int .u32 0),.d (.int .u32 0),.d (.int .u32 0),.d (.int .u32 0),.d (.int .u32 0),.d (.int .u32 0),.d (.int .u32 0),.d (.int .u32 0),.nil,.d (.int .u64 0)]:=by kernel_rfl
@[go_sem] theorem u167:(Tryz.prog.underlying 167).isSome=true:=by kernel_rfl
@[go_sem] theorem k169:bg Tryz.prog 169=.scal:=by kernel_rfl
@[go_sem] theorem c169:Tryz.prog.cellsOf 169=1:=by kernel_rfl
@[go_sem] theorem b169:Tryz.prog.bytesOf 169=8:=by kernel_rfl
@[go_sem] theorem z169:ek Tryz.prog 169=some [.d (.int .u64 0)]:=by kernel_rfl
@[go_sem] theorem i169:fM Tryz.prog 169=some .u64:=by kernel_rfl
@[go_sem] theorem u169:(Tryz.prog.underlying 169).isSome=true:=by kernel_rfl
@[go_sem] theorem k189:bg Tryz.prog 189=.struct [(0,96),(4,96),(8,4)]:=by kernel_rfl
@[go_sem] theorem c189:Tryz.prog.cellsOf 189=9:=by kernel_rfl
@[go_sem] theorem b189:Tryz.prog.bytesOf 189=72:=by kernel_rfl
@[go_sem] theorem z189:ek Tryz.prog 189=some [.d (.int .u64 0),.d (.int .u64 0),.d (.int .u64 0),.d (.int .u64 0),.d (.int .u64 0),.d (.int .u64 0),.d (.int .u64 0),.d (.int .u64 0),.d (.bool false)]:=by kernel_rfl
@[go_sem] theorem u189:(Tryz.prog.underlying 189).isSome=true:=by kernel_rfl
@[go_sem] theorem k211:bg Tryz.prog 211=.arr 64 22:=by kernel_rfl
@[go_sem] theorem c211:Tryz.prog.cellsOf 211=64:=by kernel_rfl
@[go_sem] theorem b211:Tryz.prog.bytesOf 211=256:=by kernel_rfl
@[go_sem] theorem u211:(Tryz.prog.underlying 211).isSome=true:=by kernel_rfl
@[go_sem] theorem k217:bg Tryz.prog 217=.scal:=by kernel_rfl
@[go_sem] theorem c217:Tryz.prog.cellsOf 217=1:=by kernel_rfl
@[go_sem] theorem b217:Tryz.prog.bytesOf 217=2:=by kernel_rfl
@[go_sem] theorem z217:ek Tryz.prog 217=some [.d (.int .u16 0)]:=by kernel_rfl
@[go_sem] theorem i217:fM Tryz.prog 217=some .u16:=by kernel_rfl
@[go_sem] theorem u217:(Tryz.prog.underlying 217).isSome=true:=by kernel_rfl
@[go_sem] theorem k226:bg Tryz.prog 226=.arr 8 53:=by kernel_rfl
@[go_sem] theorem c226:Tryz.prog.cellsOf 226=8:=by kernel_rfl
@[go_sem] theorem b226:Tryz.prog.bytesOf 226=64:=by kernel_rfl
@[go_sem] theorem z226:ek Tryz.prog 226=some [.d (.int .u64 0),.d (.int .u64 0),.d (.int .u64 0),.d (.int .u64 0),.d (.int .u64 0),.d (.int .u64 0),.d (.int .u64 0),.d (.int .u64 0)]:=by kernel_rfl
@[go_sem] theorem u226:(Tryz.prog.underlying 226).isSome=true:=by kernel_rfl
@[go_sem] theorem k243:bg Tryz.prog 243=.struct [(0,96),(4,96),(8,96)]:=by kernel_rfl
@[go_sem] theorem c243:Tryz.prog.cellsOf 243=12:=by kernel_rfl
@[go_sem] theorem b243:Tryz.prog.bytesOf 243=96:=by kernel_rfl
@[go_sem] theorem z243:ek Tryz.prog 243=some [.d (.int .u64 0),.d (.int .u64 0),.d (.int .u64 0),.d (.int .u64 0),.d (.int .u64 0),.d (.int .u64 0),.d (.int .u64 0),.d (.int .u64 0),.d (.int .u64 0),.d (.int .u64 0),.d (.int .u64 0),.d (.int .u64 0)]:=by kernel_rfl
@[go_sem] theorem u243:(Tryz.prog.underlying 243).isSome=true:=by kernel_rfl
end Go.Proofs.YtmfnimjnneflnaaGreat
namespace Go.Sha
open Go.Am
def M:Nat:=4294967296
def iY(a b:Nat):Nat:=(a+b)%4294967296
def j5(a b:Nat):Nat:=(a ^^^ b)%4294967296
def rP(a b:Nat):Nat:=(a &&& b)%4294967296
def JQ(a b:Nat):Nat:=(a ||| b)%4294967296
def c32(a:Nat):Nat:=(4294967295 ^^^ a)%4294967296
def JR(n a:Nat):Nat:=a*2 ^ n%4294967296
def c8(n a:Nat):Nat:=a/2 ^ n
def o5(a:Nat):Nat:=a%4294967296
def t8(a:Nat):Nat:=a%256
def lB(s x:Nat):Nat:=JQ (JR s x) (c8 (32-s) x)
theorem DK(x:Int):IntKind.u32.wrap x=x%4294967296:=by simp[IntKind.wrap,IntKind.bits,IntKind.signed]
theorem fE(x:Int):IntKind.u64.wrap x=x%18446744073709551616:=by simp[IntKind.wrap,IntKind.bits,IntKind.signed]
theorem DL(x:Int):IntKind.u8.wrap x=x%256:=by simp[IntKind.wrap,IntKind.bits,IntKind.signed]
theorem ec(k:Nat)(a:Nat):(BitVec.ofInt k (a:Int)).toNat=a%2 ^ k:=by
 rw[BitVec.toNat_ofInt];omega
theorem dP(a b:Nat):IntKind.u32.wrap ((a:Int)+(b:Int))=((iY a b:Nat):Int):=by rw[DK];unfold iY;omega
theorem rQ(a:Nat):IntKind.u32.wrap (a:Int)=((o5 a:Nat):Int):=by rw[DK];unfold o5;omega
theorem eP(a:Nat):IntKind.u8.wrap (a:Int)=((t8 a:Nat):Int):=by rw[DL];unfold t8;omega
theorem Ff(a b:Nat):IntKind.u32.wrap ((a:Int)*(b:Int))=((a*b%4294967296:Nat):Int):=by
 rw[DK,←Int.natCast_mul];omega
theorem JS(a n:Nat):IntKind.u32.wrap ((a:Int)*2 ^ n)=((JR n a:Nat):Int):=by
 have:=Ff a (2 ^ n);rw[Int.natCast_pow]at this;exact this
theorem Nq(a:Nat):IntKind.u32.wrap ((a:Int)*256)=((JR 8 a:Nat):Int):=Ff a 256
theorem ew(a b:Nat):bits .xor .u32 (a:Int) (b:Int)=((j5 a b:Nat):Int):=by
 show IntKind.u32.wrap (((BitVec.ofInt 32 (a:Int)) ^^^ (BitVec.ofInt 32 (b:Int))).toNat:Int)=_;rw[BitVec.toNat_xor,ec,ec,←Nat.xor_mod_two_pow,rQ];unfold j5 o5;congr 1;omega
theorem fN(a b:Nat):bits .and .u32 (a:Int) (b:Int)=((rP a b:Nat):Int):=by
 show IntKind.u32.wrap (((BitVec.ofInt 32 (a:Int)) &&& (BitVec.ofInt 32 (b:Int))).toNat:Int)=_;rw[BitVec.toNat_and,ec,ec,←Nat.and_mod_two_pow,rQ];unfold rP o5;congr 1;omega
theorem JU(a b:Nat):bits .or .u32 (a:Int) (b:Int)=((JQ a b:Nat):Int):=by
 show IntKind.u32.wrap (((BitVec.ofInt 32 (a:Int)) ||| (BitVec.ofInt 32 (b:Int))).toNat:Int)=_;rw[BitVec.toNat_or,ec,ec,←Nat.or_mod_two_pow,rQ];unfold JQ o5;congr 1;omega
theorem Fg(a:Nat):bits .xor .u32 4294967295 (a:Int)=((c32 a:Nat):Int):=ew 4294967295 a
theorem dy(a b:Nat):Int.fdiv (a:Int) (b:Int)=((a/b:Nat):Int):=by
 rw[Int.fdiv_eq_ediv_of_nonneg _ aq];exact(Int.natCast_ediv a b).symm
theorem JW(a n:Nat):Int.fdiv (a:Int) (2 ^ n)=((c8 n a:Nat):Int):=by
 have:=dy a (2 ^ n);rw[Int.natCast_pow]at this;exact this
theorem Nr(a:Nat):Int.fdiv (a:Int) 8=((c8 3 a:Nat):Int):=dy a 8
theorem JX(a:Nat):Int.fdiv (a:Int) 1024=((c8 10 a:Nat):Int):=dy a 1024
def cw(l:List Nat):List AV:=l.map fun(x:Nat)=>AV.d (.int .u32 (x:Int))
theorem qc(l:List Nat):(cw l).length=l.length:=by simp[cw]
theorem iJ(l:List Nat)(i:Nat):(cw l)[i]?=(l[i]?).map fun(x:Nat)=>AV.d (.int .u32 (x:Int)):=by simp[cw]
theorem tN(l:List Nat)(i x:Nat):(cw l).set i (.d (.int .u32 (x:Int)))=cw (l.set i x):=by simp[cw,List.map_set]
theorem Ad(ρ:Nat→Nat):∀l:List Nat,AV.renL ρ (cw l)=cw l
 |[]=>by simp[cw,AV.renL]
 |x::r=>by
  have:=Ad ρ r;simp only[cw]at this;simp only[cw,List.map_cons,AV.renL,AV.ren,this]
def nb(bs:List Nat):DV:=.ro 1 (bs.map fun(b:Nat)=>[.int .u8 (b:Int)])
structure S8 where
 a:Nat
 b:Nat
 c:Nat
 d:Nat
 e:Nat
 f:Nat
 g:Nat
 h:Nat
def S8.l(s:S8):List Nat:=[s.a,s.b,s.c,s.d,s.e,s.f,s.g,s.h]
def T1(s:S8)(k w:Nat):Nat:=iY (iY (iY (iY s.h (j5 (j5 (lB 26 s.e) (lB 21 s.e)) (lB 7 s.e))) (j5 (rP s.e s.f) (rP (c32 s.e) s.g))) k) w
def T2(s:S8):Nat:=iY (j5 (j5 (lB 30 s.a) (lB 19 s.a)) (lB 10 s.a)) (j5 (j5 (rP s.a s.b) (rP s.a s.c)) (rP s.b s.c))
def rd(s:S8)(k w:Nat):S8:=⟨iY (T1 s k w) (T2 s),s.a,s.b,s.c,iY s.d (T1 s k w),s.e,s.f,s.g⟩
def xF(s:S8)(p:Nat×Nat):S8:=rd s p.1 p.2
section
variable {α β:Type} (f:β→α→β)
def jV(t:Nat)(l:List α)(s:β):β:=(l.drop t).foldl f s
theorem nh{l:List α}{p:α}{s:β}{t:Nat}(h:l[t]?=some p):jV f t l s=jV f (t+1) l (f s p):=by
 obtain⟨h1,h2⟩:=ci.1 h;unfold jV;rw[List.drop_eq_getElem_cons h1,List.foldl_cons,h2]
theorem o6{l:List α}{s:β}{t:Nat}(h:l.length≤t):jV f t l s=s:=by
 unfold jV;rw[c_ h,List.foldl_nil]
end
def tO(ks ws:List Nat)(s:S8):S8:=jV xF 0 (ks.zip ws) s
def Ae(s v:S8):S8:=⟨iY s.a v.a,iY s.b v.b,iY s.c v.c,iY s.d v.d,iY s.e v.e,iY s.f v.f,iY s.g v.g,iY s.h v.h⟩
def kL(b:List Nat):Nat:=b.foldl (fun x c=>JQ (JR 8 x) (o5 c)) 0
def wx(w:List Nat):Nat :=
 let t:=w.length
 let x:=w.getD (t-15) 0
 let y:=w.getD (t-2) 0
 let s0:=j5 (j5 (lB 25 x) (lB 14 x)) (c8 3 x)
 let s1:=j5 (j5 (lB 15 y) (lB 13 y)) (c8 10 y)
 iY (iY (iY (w.getD (t-16) 0) s0) (w.getD (t-7) 0)) s1
def eQ(b:List Nat):Nat→List Nat
 |0=>[]
 |n+1=>eQ b n++[kL ((b.take (4*n+4)).drop (4*n))]
def cF(b:List Nat):Nat→List Nat
 |0=>eQ b 16
 |n+1=>cF b n++[wx (cF b n)]
theorem j6(b:List Nat):∀n,(eQ b n).length=n
 |0=>rfl
 |n+1=>by simp[eQ,j6 b n]
theorem lC(b:List Nat):∀n,(cF b n).length=n+16
 |0=>j6 b 16
 |n+1=>by
  have:=lC b n;simp only[cF,b_,this,List.length_singleton]
def kM(b:List Nat):List Nat:=cF b 48
theorem lD(b:List Nat):(kM b).length=64:=lC b 48
def K:List Nat:=[0x428a2f98,0x71374491,0xb5c0fbcf,0xe9b5dba5,0x3956c25b,0x59f111f1,0x923f82a4,0xab1c5ed5]++[0xd807aa98,0x12835b01,0x243185be,0x550c7dc3,0x72be5d74,0x80deb1fe,0x9bdc06a7,0xc19bf174] ++
 [0xe49b69c1,0xefbe4786,0x0fc19dc6,0x240ca1cc,0x2de92c6f,0x4a7484aa,0x5cb0a9dc,0x76f988da]++[0x983e5152,0xa831c66d,0xb00327c8,0xbf597fc7,0xc6e00bf3,0xd5a79147,0x06ca6351,0x14292967] ++
 [0x27b70a85,0x2e1b2138,0x4d2c6dfc,0x53380d13,0x650a7354,0x766a0abb,0x81c2c92e,0x92722c85]++[0xa2bfe8a1,0xa81a664b,0xc24b8b70,0xc76c51a3,0xd192e819,0xd6990624,0xf40e3585,0x106aa070] ++
 [0x19a4c116,0x1e376c08,0x2748774c,0x34b0bcb5,0x391c0cb3,0x4ed8aa4a,0x5b9cca4f,0x682e6ff3]++[0x748f82ee,0x78a5636f,0x84c87814,0x8cc70208,0x90befffa,0xa4506ceb,0xbef9a3f7,0xc67178f2]
def H0:S8:=⟨0x6a09e667,0xbb67ae85,0x3c6ef372,0xa54ff53a,0x510e527f,0x9b05688c,0x1f83d9ab,0x5be0cd19⟩
def take(s:S8)(b:List Nat):S8:=Ae s (tO K (kM b) s)
def lZ:Nat→S8→List Nat→S8×List Nat
 |0,s,b=>(s,b)
 |n+1,s,b=>if 64≤b.length then lZ n (Go.Sha.take s (b.take 64)) (b.drop 64)else(s,b)
def qd(x:Nat):Nat→List Nat
 |0=>[]
 |k+1=>qd x k++[t8 (c8 (24-8*k) x)]
theorem my(x:Nat):∀k,(qd x k).length=k
 |0=>rfl
 |k+1=>by simp[qd,my x k]
def gx(l:List Nat):Nat→List Nat
 |0=>[]
 |i+1=>gx l i++qd (l.getD i 0) 4
theorem jI(l:List Nat):∀i,(gx l i).length=4*i
 |0=>rfl
 |i+1=>by simp[gx,jI l i,my];omega
def yx(s:S8):List Nat:=gx s.l 8
end Go.Sha
namespace Go.Proofs.YtmfnimjnneflnaaGreat
open Go.Am Go.Sha
def z64:List Nat:=List.replicate 64 0
theorem DN:z64.length=64:=rfl
@[go_sem] theorem OV:ek Tryz.prog 211=some (cw z64):=by kernel_rfl
attribute [go_sem] DN qc
def cb(l:List Nat):List AV:=l.map fun(x:Nat)=>AV.d (.int .u8 (x:Int))
theorem ap(l:List Nat):(cb l).length=l.length:=by simp[cb]
theorem tP(l:List Nat)(i:Nat):(cb l)[i]?=(l[i]?).map fun(x:Nat)=>AV.d (.int .u8 (x:Int)):=by simp[cb]
theorem tV(l:List Nat)(i x:Nat):(cb l).set i (.d (.int .u8 (x:Int)))=cb (l.set i x):=by simp[cb,List.map_set]
theorem aC(n:Nat)(l:List Nat):∀v,v∈cb l→v.low1 n:=by
 intro c hc;simp only[cb,List.mem_map]at hc;obtain⟨x,_,rfl⟩:=hc
 trivial
theorem cj(l:List Nat):∀c,c∈cb l→c.deep1:=by
 intro c hc;simp only[cb,List.mem_map]at hc;obtain⟨x,_,rfl⟩:=hc
 trivial
def z32:List Nat:=List.replicate 32 0
theorem mz:z32.length=32:=rfl
@[go_sem] theorem OW:ek Tryz.prog 29=some (cb z32):=by kernel_rfl
attribute [go_sem] mz ap
theorem Hf:uT Tryz.prog 113=true:=by kernel_rfl
attribute [go_sem] Hf
theorem dJ(x s:Nat)(k:Int)(hs:bits .and .u64 (IntKind.u64.wrap k) 31=(s:Int))(h1:s≤31) :
  au Tryz.prog 148 [.d (.int .u32 (x:Int)),.d (.int .i64 k)] (fun r=>r=.d (.int .u32 ((lB s x:Nat):Int))):=by
 refine bu Tryz.func148 Tryz.ntmps148 (rs:=[.tmp 4]) a9 ?_;have e1:IntKind.u64.wrap (32-(s:Int))=((32-s:Nat):Int):=by rw[fE];omega
 have e2:min s 32=s:=aq;have e3:min (32-s) 32=32-s:=aq;simp[go_sem,hs,e1,e2,e3,IntKind.bits,ar];refine ag a9 ?_;rw[JS,JW,JU];rfl
theorem xG:au Tryz.prog 104 [] (fun r=>r=.agg (cw H0.l)):=by
 refine bu Tryz.func104 Tryz.ntmps104 (rs:=[.cell 0 164]) a9 ?_;simp[go_sem,ar,ie];exact ag a9 rfl
theorem DO(l:List Nat):∀c,c∈cw l→c.deep1:=by
 intro c hc;simp only[cw,List.mem_map]at hc;obtain⟨x,_,rfl⟩:=hc
 trivial
theorem rR:au Tryz.prog 147 [] (fun r=>r=.agg (cw K)):=by
 refine bu Tryz.func147 Tryz.ntmps147 (rs:=[.cell 0 211]) a9 ?_;have zz:ek Tryz.prog 211=some (List.replicate 64 (.d (.int .u32 0))):=by kernel_rfl
 simp[go_sem,ar,zz];exact ag a9 rfl
theorem aL{α:Type}{l:List α}{k:Nat}(h:k<l.length):∃c,l[k]?=some c∧l.drop k=c::l.drop (k+1) :=
 ⟨l[k],cm h,List.drop_eq_getElem_cons h⟩
theorem al{k:Nat}(h:k<4611686018427387904):IntKind.i64.wrap ((k:Int)+1)=((k+1:Nat):Int):=by
 rw[IntWalk.i64_in _ aq];omega
theorem Ns{n:Nat}(h:n<4611686018427387904):IntKind.i64.wrap (n:Int)=(n:Int):=IntWalk.i64_in _ aq
theorem bD(n:Nat)(l:List Nat):∀v,v∈cw l→v.low1 n:=by
 intro c hc;simp only[cw,List.mem_map]at hc;obtain⟨x,_,rfl⟩:=hc
 trivial
def eR(w:List Nat):List Nat:=w++List.replicate (64-w.length) 0
theorem rS{w:List Nat}(h:w.length≤64):(eR w).length=64:=by simp[eR];omega
theorem rT{w:List Nat}{i:Nat}(h:i<w.length):(eR w)[i]?=some w[i]:=by
 unfold eR;rw[List.getElem?_append_left h,cm h]
theorem ni{w:List Nat}{x:Nat}(h:w.length<64):(eR w).set w.length x=eR (w++[x]):=by
 unfold eR;rw[List.set_append_right _ _ (cL _),Nat.sub_self];obtain⟨k,hk⟩:∃k,64-w.length=k+1:=⟨63-w.length,aq⟩;rw[hk,List.replicate_succ,List.set_cons_zero,cA];simp only[b_,List.length_singleton,List.singleton_append];rw[show 64-(w.length+1)=k by omega]
theorem xH{w:List Nat}{x y:Nat}(h:w.length<64):(eR (w++[x])).set w.length y=eR (w++[y]):=by
 rw[←ni h,←ni h,List.set_set]
theorem Af{w:List Nat}{x:Nat}(h:w.length<64):(eR (w++[x]))[w.length]?=some x:=by
 rw[rT aw];simp
theorem xI{w:List Nat}(h:w.length<64):eR (w++[0])=eR w:=by
 unfold eR;obtain⟨k,hk⟩:∃k,64-w.length=k+1:=⟨63-w.length,aq⟩;rw[hk,List.replicate_succ,cA];simp only[b_,List.length_singleton,List.singleton_append];rw[show 64-(w.length+1)=k by omega]
theorem xJ(q:List Nat){j c:Nat}(h:q[j]?=some c):kL (q.take (j+1))=JQ (JR 8 (kL (q.take j))) (o5 c):=by
 unfold kL;rw[List.take_add_one,h,List.foldl_append];rfl
theorem o7(b:List Nat)(hb:b.length=64):au Tryz.prog 146 [.d (nb b)] (fun r=>r=.agg (cw (kM b))):=by
 refine bu Tryz.func146 Tryz.ntmps146 (rs:=[.cell 2 211]) a9 ?_;simp only[go_sem,Nat.reduceEqDiff,Nat.reduceAdd,Nat.reduceLT,↓reduceIte,Nat.reduceMul,List.length_replicate]
 refine am (fun t:Nat=>⟨[(0,.d (nb b)),(2,.ptr 0 0 0 1),(3,.ptr 32 0 0 1),(12,.d (.int .i64 t))],[(32,⟨211,64,[cw (eR (eQ b t))]⟩),(0,⟨211,64,[cw z64]⟩)],96⟩)
  (fun t=>t≤16) (fun t=>16-t) 0 aq (by
   simp[ak,ah,fv,lk,AV.low,AV.low1]
   refine⟨⟨rfl,bD _ _⟩,bD _ _⟩) ?_
 intro t ht;have e1:=j6 b t;have w1:IntKind.i64.wrap (4*(t:Int))=((4*t:Nat):Int):=by rw[IntWalk.i64_in _ aq];omega
 have w2:IntKind.i64.wrap (((4*t:Nat):Int)+4)=((4*t+4:Nat):Int):=by rw[IntWalk.i64_in _ aq];omega
 simp only[go_sem,Nat.reduceEqDiff,Nat.reduceAdd,Nat.reduceLT,↓reduceIte];refine⟨fun h=>?_,fun h=>?_⟩
 ·have hl4:((b.take (4*t+4)).drop (4*t)).length=4:=by simp;omega
  have hnb:((b.map fun(b:Nat)=>[DV.int .u8 (b:Int)]).take (4*t+4)).drop (4*t)=((b.take (4*t+4)).drop (4*t)).map fun(b:Nat)=>[DV.int .u8 (b:Int)]:=by simp[List.map_drop,List.map_take]
  simp only[go_sem,Nat.reduceEqDiff,Nat.reduceAdd,Nat.reduceLT,↓reduceIte,w1,w2,nb,Int.toNat_natCast,hnb,List.length_map,hl4];refine⟨aq,aq,?_⟩
  refine am (fun j:Nat=>⟨[(0,.d (nb b)),(2,.ptr 0 0 0 1),(3,.ptr 32 0 0 1),(12,.d (.int .i64 t)),(4,.d (.int .i64 t)),(21,.d (nb ((b.take (4*t+4)).drop (4*t)))),(22,.d (.int .i64 (4:Nat))),(23,.d (.int .i64 j))],
    [(32,⟨211,64,[cw (eR (eQ b t++[kL (((b.take (4*t+4)).drop (4*t)).take j)]))]⟩),(0,⟨211,64,[cw z64]⟩)],480⟩)
   (fun j=>j≤4) (fun j=>4-j) 0 aq (by
    simp[ak,ah,fv,lk,AV.low,AV.low1,nb,List.map_drop,List.map_take]
    exact⟨⟨by rw[show kL []=0 from rfl,xI aq],bD _ _⟩,bD _ _⟩) ?_
  intro j hj;simp only[go_sem,Nat.reduceEqDiff,Nat.reduceAdd,Nat.reduceLT,↓reduceIte];refine⟨fun h2=>?_,fun h2=>?_⟩
  ·obtain⟨c,hc,_⟩:=aL (l:=(b.take (4*t+4)).drop (4*t)) (k:=j) aq
   have g1:(eR (eQ b t++[kL (((b.take (4*t+4)).drop (4*t)).take j)]))[t]?=some (kL (((b.take (4*t+4)).drop (4*t)).take j)):=by
    have:=Af (w:=eQ b t) (x:=kL (((b.take (4*t+4)).drop (4*t)).take j)) aq;rw[e1]at this;exact this
   have g2:∀y,(eR (eQ b t++[kL (((b.take (4*t+4)).drop (4*t)).take j)])).set t y=eR (eQ b t++[y]):=by
    intro y;have:=xH (w:=eQ b t) (x:=kL (((b.take (4*t+4)).drop (4*t)).take j)) (y:=y) aq;rw[e1]at this;exact this
   have w3:=Ns (n:=j+1) aq;have g3:(eR (eQ b t++[kL (((b.take (4*t+4)).drop (4*t)).take j)])).length=64:=rS (by simp;omega);generalize hq:(b.take (4*t+4)).drop (4*t)=q at *;simp[go_sem,nb,hc,iJ,g1,IntKind.bits,Nq,rQ,JU,tN,g2,g3,e1];refine⟨aq,aq,?_⟩;have w3:=al (k:=j) aq;rw[w3];refine aj (j+1) aq aq ?_;simp[ak,ah,fv,lk,AV.low,AV.low1,xJ q hc];exact⟨bD _ _,bD _ _⟩
  ·have hj4:j=4:=aq;subst hj4;have w3:=al (k:=t) aq;rw[w3];refine aj (t+1) aq aq ?_;have hfull:kL (((b.take (4*t+4)).drop (4*t)).take 4)=kL ((b.take (4*t+4)).drop (4*t)):=by rw[cx aq]
   simp[ak,ah,fv,lk,AV.low,AV.low1,eQ];exact⟨rfl,⟨by rw[hfull],bD _ _⟩,bD _ _⟩
 ·have ht16:t=16:=aq;subst ht16
  refine am (fun t:Nat=>⟨[(2,.ptr 0 0 0 1),(3,.ptr 32 0 0 1),(7,.d (.int .i64 ((t+16:Nat):Int)))],[(32,⟨211,64,[cw (eR (cF b t))]⟩),(0,⟨211,64,[cw z64]⟩)],128⟩)
   (fun t=>t≤48) (fun t=>48-t) 0 aq (by
    simp[ak,ah,fv,lk,AV.low,AV.low1,cF]
    exact⟨bD _ _,bD _ _⟩) ?_
  intro t ht;have e1:=lC b t;simp only[go_sem,Nat.reduceEqDiff,Nat.reduceAdd,Nat.reduceLT,↓reduceIte];refine⟨fun h=>?_,fun h=>?_⟩
  ·have i1:IntKind.i64.wrap (((t+16:Nat):Int)-15)=((t+16-15:Nat):Int):=by rw[IntWalk.i64_in _ aq];omega
   have i2:IntKind.i64.wrap (((t+16:Nat):Int)-2)=((t+16-2:Nat):Int):=by rw[IntWalk.i64_in _ aq];omega
   have i3:IntKind.i64.wrap (((t+16:Nat):Int)-16)=((t+16-16:Nat):Int):=by rw[IntWalk.i64_in _ aq];omega
   have i4:IntKind.i64.wrap (((t+16:Nat):Int)-7)=((t+16-7:Nat):Int):=by rw[IntWalk.i64_in _ aq];omega
   have gg:∀i,i<t+16→(eR (cF b t))[i]?=some ((cF b t).getD i 0):=by
    intro i hi;rw[rT aq,cR,cm aq];rfl
   have w3:=al (k:=t+16) aq;generalize hT:t+16=T at *;apply zV (0::1::2::3::4::5::6::7::8::9::[]) ([]) 0 (k:=10) (by kernel_rfl) (by kernel_rfl) rfl
   case hz=>repeat (first|exact Its.nil|apply Its.plain rfl|apply Its.guard rfl rfl)
   case hj=>exact Jts.nil
   intro G hG;have g15:=gg (T-15) aq;have g2:=gg (T-2) aq;have g16:=gg (T-16) aq;have g7:=gg (T-7) aq
   have hwx:wx (cF b t)=iY (iY (iY ((cF b t).getD (T-16) 0) (j5 (j5 (lB 25 ((cF b t).getD (T-15) 0)) (lB 14 ((cF b t).getD (T-15) 0))) (c8 3 ((cF b t).getD (T-15) 0)))) ((cF b t).getD (T-7) 0)) (j5 (j5 (lB 15 ((cF b t).getD (T-2) 0)) (lB 13 ((cF b t).getD (T-2) 0))) (c8 10 ((cF b t).getD (T-2) 0))):=by
    unfold wx;rw[e1]
   generalize(cF b t).getD (T-15) 0=x at g15 hwx;generalize(cF b t).getD (T-2) 0=y at g2 hwx;generalize(cF b t).getD (T-16) 0=u at g16 hwx;generalize(cF b t).getD (T-7) 0=v at g7 hwx;simp[go_sem,i1,i2,iJ,g15,g2];refine⟨aq,aq,hG _ _ ?_⟩;simp only[go_sem,Nat.reduceEqDiff,Nat.reduceAdd,Nat.reduceLT,↓reduceIte,Nat.reduceMul];refine ae (dJ x 25 (-7) (by decide) aq) a9 ?_;simp only[go_sem,Nat.reduceEqDiff,Nat.reduceAdd,Nat.reduceLT,↓reduceIte];refine ae (dJ x 14 (-18) (by decide) aq) a9 ?_;simp[go_sem,ew,IntKind.bits,Nr];refine ae (dJ y 15 (-17) (by decide) aq) a9 ?_;simp only[go_sem,Nat.reduceEqDiff,Nat.reduceAdd,Nat.reduceLT,↓reduceIte];refine ae (dJ y 13 (-19) (by decide) aq) a9 ?_;simp[go_sem,ew,IntKind.bits,JX];apply zV (0::1::2::3::4::5::6::7::8::9::10::11::12::13::14::[]) ((15,([]))::[]) 0 (k:=16) (by kernel_rfl) (by kernel_rfl) rfl
   case hz=>repeat (first|exact Its.nil|apply Its.plain rfl|apply Its.guard rfl rfl)
   case hj=>exact Jts.plain rfl Its.nil Jts.nil
   intro G hG
   have hset:(eR (cF b t)).set T (wx (cF b t))=eR (cF b (t+1)):=by
    have:=ni (w:=cF b t) (x:=wx (cF b t)) aq;rw[e1]at this;exact this
   rw[hwx]at hset;have hlen:(eR (cF b t)).length=64:=rS aq;simp[go_sem,i3,i4,iJ,g16,g7,dP,tN,hset,hlen];refine⟨aq,aq,aq,aq,hG _ _ ?_⟩;simp[go_sem,w3];refine aj (t+1) aq aq ?_;subst hT;simp[ak,ah,fv,lk,AV.low,AV.low1];exact⟨aq,bD _ _,bD _ _⟩
  ·have ht48:t=48:=aq;subst ht48
   have hfull:eR (cF b 48)=kM b:=by
    have h0:∀w:List Nat,w.length=64→eR w=w:=fun w hw=>by unfold eR;rw[hw,Nat.sub_self,List.replicate_zero,List.append_nil]
    exact h0 _ e1
   rw[hfull];have hsl:=lD b;generalize kM b=sb at hsl;have htk:(cw sb).take 64=cw sb:=cx (by rw[qc];omega);simp[go_sem,ar,hsl,htk];exact ag (by simp[AV.deep];exact DO _) rfl
def bS(s:S8):List AV:=[.d (.int .u32 (s.a:Int)),.d (.int .u32 (s.b:Int)),.d (.int .u32 (s.c:Int)),.d (.int .u32 (s.d:Int)),.d (.int .u32 (s.e:Int)),.d (.int .u32 (s.f:Int)),.d (.int .u32 (s.g:Int)),.d (.int .u32 (s.h:Int))]
theorem lF(s:S8):bS s=cw s.l:=rfl
theorem o8:K.length=64:=rfl
def eA(s v:S8)(i:Nat):List Nat:=(List.zipWith iY s.l v.l).take i++s.l.drop i
theorem rU(s v:S8){i:Nat}(h:i≤8):(eA s v i).length=8:=by simp[eA,S8.l];omega
theorem o9(s v:S8):eA s v 0=s.l:=by simp[eA]
theorem rV(s v:S8):eA s v 8=(Ae s v).l:=by simp[eA,S8.l,Ae]
theorem pa(s v:S8){i:Nat}(h:i<8):∃x y,v.l[i]?=some y∧(eA s v i)[i]?=some x∧(eA s v i).set i (iY x y)=eA s v (i+1):=by
 rcases(by omega:i=0∨i=1∨i=2∨i=3∨i=4∨i=5∨i=6∨i=7)with rfl|rfl|rfl|rfl|rfl|rfl|rfl|rfl
 ·exact⟨s.a,v.a,by simp[S8.l],by simp[eA,S8.l],by simp[eA,S8.l]⟩
 ·exact⟨s.b,v.b,by simp[S8.l],by simp[eA,S8.l],by simp[eA,S8.l]⟩
 ·exact⟨s.c,v.c,by simp[S8.l],by simp[eA,S8.l],by simp[eA,S8.l]⟩
 ·exact⟨s.d,v.d,by simp[S8.l],by simp[eA,S8.l],by simp[eA,S8.l]⟩
 ·exact⟨s.e,v.e,by simp[S8.l],by simp[eA,S8.l],by simp[eA,S8.l]⟩
 ·exact⟨s.f,v.f,by simp[S8.l],by simp[eA,S8.l],by simp[eA,S8.l]⟩
 ·exact⟨s.g,v.g,by simp[S8.l],by simp[eA,S8.l],by simp[eA,S8.l]⟩
 ·exact⟨s.h,v.h,by simp[S8.l],by simp[eA,S8.l],by simp[eA,S8.l]⟩
theorem vD{l:List Nat}{tail:List AV}{i x:Nat}(h:l[i]?=some x):(cw l++tail)[i]?=some (.d (.int .u32 (x:Int))):=by
 have hl:i<(cw l).length:=by rw[qc];exact(ci.1 h).1
 rw[List.getElem?_append_left hl,iJ,h];rfl
theorem vE{l:List Nat}{tail:List AV}{i x:Nat}(h:i<l.length):(cw l++tail).set i (.d (.int .u32 (x:Int)))=cw (l.set i x)++tail:=by
 rw[List.set_append_left _ _ (by rw[qc];exact h),tN]
theorem Fh:(if IntKind.u32.signed=true then -1 else IntKind.u32.max)=(4294967295:Int):=by decide
theorem mA(ty:TypeId)(e:Nat)(s:S8)(tail:List AV)(b:List Nat)(hb:b.length=64)(htail:∀n,∀v,v∈tail→v.low1 n) :
  cp Tryz.prog 105 1 [(0,⟨ty,e,[bS s++tail]⟩)] [.ptr 0 0 0 1,.d (nb b)] (fun r hp'=>r=.tup []∧lk 0 hp'=some ⟨ty,e,[bS (take s b)++tail]⟩):=by
 refine bw Tryz.func105 (by kernel_rfl) rfl Tryz.ntmps105 (rs:=[]) rfl (qb rfl) (by decide) ?_;simp only[go_sem,Nat.reduceEqDiff,Nat.reduceAdd,Nat.reduceLT,↓reduceIte,Nat.reduceMul];refine ae (o7 b hb) a9 ?_;simp only[go_sem,Nat.reduceEqDiff,Nat.reduceAdd,Nat.reduceLT,↓reduceIte,Nat.reduceMul];refine ae rR a9 ?_;have hsl:=lD b;have hzl:(K.zip (kM b)).length=64:=by rw[List.length_zip,hsl,o8];rfl
 unfold Go.Sha.take tO;generalize kM b=ws at *;have hz64:(cw z64).drop 64=[]:=rfl;generalize hR:jV xF 0 (K.zip ws) s=R;simp[go_sem,o8,hsl,bS,hz64]
 refine am (fun t:Nat×S8=>⟨[(0,.ptr 0 0 0 1),(4,.ptr 98 0 0 1),(5,.ptr 130 0 0 1),(6,.ptr 322 0 0 1),(19,.d (.int .i64 t.1))],
   [(322,⟨164,8,[bS t.2]⟩),(130,⟨211,64,[cw K]⟩),(98,⟨211,64,[cw ws]⟩),(0,⟨ty,e,[bS s++tail]⟩)],418⟩)
  (fun t=>t.1≤64∧jV xF t.1 (K.zip ws) t.2=R) (fun t=>64-t.1) (0,s) ⟨aq,hR⟩ (by
   simp[ak,ah,fv,lk,AV.low,AV.low1,bS]
   exact⟨bD _ _,bD _ _,fun v hv=>htail _ v hv⟩) ?_
 clear hR;rintro⟨t,v⟩⟨ht,hR⟩;simp only at ht hR;simp only[go_sem,Nat.reduceEqDiff,Nat.reduceAdd,Nat.reduceLT,↓reduceIte];refine⟨fun h=>?_,fun h=>?_⟩
 ·obtain⟨k,hk,_⟩:=aL (l:=K) (k:=t) (by rw[o8];omega);obtain⟨w,hw,_⟩:=aL (l:=ws) (k:=t) aq;have hz:(K.zip ws)[t]?=some (k,w):=by rw[List.getElem?_zip_eq_some];exact⟨hk,hw⟩
  rw[nh xF hz]at hR;simp only[go_sem,Nat.reduceEqDiff,Nat.reduceAdd,Nat.reduceLT,↓reduceIte,bS];simp[go_sem];refine cQ [0,1,2,4,7,11,12,13,14,15,16,17,18,19,20,22,23,24,26,27,28] [(3,[]),(5,[6]),(8,[9,10,21,25,29,30])] 3 (k:=31) ?_;intro G hG;simp[go_sem,iJ,hk,hw,ew,fN,Fh,Fg,dP];refine⟨aq,?_⟩;refine ae (dJ v.e 26 (-6) (by decide) aq) a9 ?_;simp[go_sem,ew,fN,dP];refine ae (dJ v.e 21 (-11) (by decide) aq) a9 ?_;simp[go_sem,ew,fN,dP];refine ae (dJ v.e 7 (-25) (by decide) aq) a9 ?_;simp[go_sem,ew,fN,dP];have hT1:iY (iY (iY (iY v.h (j5 (j5 (lB 26 v.e) (lB 21 v.e)) (lB 7 v.e))) (j5 (rP v.e v.f) (rP (c32 v.e) v.g))) k) w=T1 v k w:=by unfold T1;with_reducible rfl
  rw[hT1];refine hG _ _ ?_;clear hG G;simp[go_sem];refine cQ [0,2,5,8,9,10,11,12,13,14,15,16,17,18,19,20,21,22] [(1,[]),(3,[4]),(6,[7,23,24])] 3 (k:=25) ?_;intro G hG;simp[go_sem,ew,fN,dP];refine ae (dJ v.a 30 (-2) (by decide) aq) a9 ?_;simp[go_sem,ew,fN,dP];refine ae (dJ v.a 19 (-13) (by decide) aq) a9 ?_;simp[go_sem,ew,fN,dP];refine ae (dJ v.a 10 (-22) (by decide) aq) a9 ?_;simp[go_sem,ew,fN,dP];have hT2:iY (j5 (j5 (lB 30 v.a) (lB 19 v.a)) (lB 10 v.a)) (j5 (j5 (rP v.a v.b) (rP v.a v.c)) (rP v.b v.c))=T2 v:=by unfold T2;with_reducible rfl
  rw[hT2];refine hG _ _ ?_;clear hG G;have w3:=al (k:=t) aq;simp[go_sem,dP,ie,w3];refine aj (t+1,xF v (k,w)) ⟨by simp only;omega,hR⟩ (by simp only;omega) ?_;simp[ak,ah,fv,lk,AV.low,AV.low1,bS,xF,rd];exact⟨bD _ _,bD _ _,fun v hv=>htail _ v hv⟩
 ·have ht64:t=64:=aq;subst ht64;rw[o6 xF aq]at hR;subst hR
  refine am (fun i:Nat=>⟨[(0,.ptr 0 0 0 1),(6,.ptr 322 0 0 1),(101,.d (.int .i64 i))],[(322,⟨164,8,[cw v.l]⟩),(0,⟨ty,e,[cw (eA s v i)++tail]⟩)],482⟩)
   (fun i=>i≤8) (fun i=>8-i) 0 aq (by
    simp[ak,ah,fv,lk,AV.low,AV.low1,o9,lF];refine⟨bD _ _,fun v hv=>?_⟩;rcases hv with hv|hv
    ·exact bD _ _ v hv
    ·exact htail _ v hv) ?_
  intro i hi;simp only[go_sem,Nat.reduceEqDiff,Nat.reduceAdd,Nat.reduceLT,↓reduceIte];refine⟨fun h=>?_,fun h=>?_⟩
  ·obtain⟨x,y,hy,hx,hset⟩:=pa s v (i:=i) aq;have hml:=rU s v hi;refine cQ [0,1,2,3,4,5,6,7,8,9,10] [(11,[])] 0 (k:=12) ?_;intro G hG;have hs2:=vE (l:=eA s v i) (tail:=tail) (i:=i) (x:=iY x y) aq;rw[hset]at hs2;simp[go_sem,vD hx,iJ,hy,dP,hs2,hml];refine⟨aq,aq,hG _ _ ?_⟩;have w3:=al (k:=i) aq;simp[go_sem,w3];refine aj (i+1) aq aq ?_;simp[ak,ah,fv,lk,AV.low,AV.low1];refine⟨bD _ _,fun v hv=>?_⟩;rcases hv with hv|hv
   ·exact bD _ _ v hv
   ·exact htail _ v hv
  ·have hi8:i=8:=aq;subst hi8;simp[go_sem,ar,rV,lF];simp[cw,S8.l]
def rb(L:List Nat):List (List AV):=L.map fun(x:Nat)=>[.d (.int .u8 (x:Int))]
theorem aN(L:List Nat):(rb L).length=L.length:=by simp[rb]
theorem aK(n:Nat)(L:List Nat):∀r,r∈rb L→∀v,v∈r→v.low1 n:=by
 intro r hr v hv;simp only[rb,List.mem_map]at hr;obtain⟨x,_,rfl⟩:=hr;simp at hv;subst hv
 trivial
theorem DR(l:List Nat):∀c,c∈cw l→c.flat1:=by
 intro c hc;simp only[cw,List.mem_map]at hc;obtain⟨x,_,rfl⟩:=hc
 trivial
theorem vF{hp:Hp}{I:Nat→Prop}:∀(L:List Nat),RowsR hp I (rb L) (L.map fun(x:Nat)=>[.int .u8 (x:Int)])
 |[]=>.nil
 |x::r=>.cons (.cons (.d _) .nil) (vF r)
theorem qe{hp:Hp}{I:Nat→Prop}{id i0 n:Nat}{L:List Nat}(hb:lk id hp=some ⟨5,1,rb L⟩)(hI:I id)(h:i0+n≤L.length):SnapD hp I (.own id i0 n L.length) (nb ((L.drop i0).take n)):=by
 refine gj hb hI (aN L) (es:=((L.drop i0).take n).map fun(x:Nat)=>[.int .u8 (x:Int)]) ?_ (by simp;omega) (fun r hr=>by
  rw[List.mem_map]at hr;obtain⟨c,_,rfl⟩:=hr
  rfl)
 have:((rb L).drop i0).take n=rb ((L.drop i0).take n):=by simp[rb,List.map_drop,List.map_take]
 rw[this];exact vF _
theorem ma(ty:TypeId)(e:Nat)(s:S8)(tail:List AV)(L:List Nat)(i0:Nat)(hi0:i0+64≤L.length)(htail:∀n,∀v,v∈tail→v.low1 n) :
  cp Tryz.prog 105 2 [(0,⟨ty,e,[bS s++tail]⟩),(1,⟨5,1,rb L⟩)] [.ptr 0 0 0 1,.own 1 i0 64 L.length] (fun r hp'=>r=.tup []∧lk 0 hp'=some ⟨ty,e,[bS (take s ((L.drop i0).take 64))++tail]⟩∧lk 1 hp'=some ⟨5,1,rb L⟩):=by
 refine bw Tryz.func105 (by kernel_rfl) rfl Tryz.ntmps105 (rs:=[]) rfl (qb rfl) (by decide) ?_;simp only[go_sem,Nat.reduceEqDiff,Nat.reduceAdd,Nat.reduceLT,↓reduceIte,Nat.reduceMul];have hb:((L.drop i0).take 64).length=64:=by simp;omega
 refine fg (o7 ((L.drop i0).take 64) hb) rfl (ai (.one (az (qe rfl trivial hi0))) aG) (by simp[AV.flat];exact DR _) ?_;generalize(L.drop i0).take 64=b at *;simp only[go_sem,Nat.reduceEqDiff,Nat.reduceAdd,Nat.reduceLT,↓reduceIte,Nat.reduceMul];refine ae rR a9 ?_;have hsl:=lD b;have hzl:(K.zip (kM b)).length=64:=by rw[List.length_zip,hsl,o8];rfl
 unfold Go.Sha.take tO;generalize kM b=ws at *;have hz64:(cw z64).drop 64=[]:=rfl;generalize hR:jV xF 0 (K.zip ws) s=R;simp[go_sem,o8,hsl,bS,hz64]
 refine am (fun t:Nat×S8=>⟨[(0,.ptr 0 0 0 1),(4,.ptr 99 0 0 1),(5,.ptr 131 0 0 1),(6,.ptr 323 0 0 1),(19,.d (.int .i64 t.1))],
   [(323,⟨164,8,[bS t.2]⟩),(131,⟨211,64,[cw K]⟩),(99,⟨211,64,[cw ws]⟩),(0,⟨ty,e,[bS s++tail]⟩),(1,⟨5,1,rb L⟩)],419⟩)
  (fun t=>t.1≤64∧jV xF t.1 (K.zip ws) t.2=R) (fun t=>64-t.1) (0,s) ⟨aq,hR⟩ (by
   simp[ak,ah,fv,lk,AV.low,AV.low1,bS]
   exact⟨bD _ _,bD _ _,fun v hv=>htail _ v hv,aK _ _⟩) ?_
 clear hR;rintro⟨t,v⟩⟨ht,hR⟩;simp only at ht hR;simp only[go_sem,Nat.reduceEqDiff,Nat.reduceAdd,Nat.reduceLT,↓reduceIte];refine⟨fun h=>?_,fun h=>?_⟩
 ·obtain⟨k,hk,_⟩:=aL (l:=K) (k:=t) (by rw[o8];omega);obtain⟨w,hw,_⟩:=aL (l:=ws) (k:=t) aq;have hz:(K.zip ws)[t]?=some (k,w):=by rw[List.getElem?_zip_eq_some];exact⟨hk,hw⟩
  rw[nh xF hz]at hR;simp only[go_sem,Nat.reduceEqDiff,Nat.reduceAdd,Nat.reduceLT,↓reduceIte,bS];simp[go_sem];refine cQ [0,1,2,4,7,11,12,13,14,15,16,17,18,19,20,22,23,24,26,27,28] [(3,[]),(5,[6]),(8,[9,10,21,25,29,30])] 3 (k:=31) ?_;intro G hG;simp[go_sem,iJ,hk,hw,ew,fN,Fh,Fg,dP];refine⟨aq,?_⟩;refine ae (dJ v.e 26 (-6) (by decide) aq) a9 ?_;simp[go_sem,ew,fN,dP];refine ae (dJ v.e 21 (-11) (by decide) aq) a9 ?_;simp[go_sem,ew,fN,dP];refine ae (dJ v.e 7 (-25) (by decide) aq) a9 ?_;simp[go_sem,ew,fN,dP];have hT1:iY (iY (iY (iY v.h (j5 (j5 (lB 26 v.e) (lB 21 v.e)) (lB 7 v.e))) (j5 (rP v.e v.f) (rP (c32 v.e) v.g))) k) w=T1 v k w:=by unfold T1;with_reducible rfl
  rw[hT1];refine hG _ _ ?_;clear hG G;simp[go_sem];refine cQ [0,2,5,8,9,10,11,12,13,14,15,16,17,18,19,20,21,22] [(1,[]),(3,[4]),(6,[7,23,24])] 3 (k:=25) ?_;intro G hG;simp[go_sem,ew,fN,dP];refine ae (dJ v.a 30 (-2) (by decide) aq) a9 ?_;simp[go_sem,ew,fN,dP];refine ae (dJ v.a 19 (-13) (by decide) aq) a9 ?_;simp[go_sem,ew,fN,dP];refine ae (dJ v.a 10 (-22) (by decide) aq) a9 ?_;simp[go_sem,ew,fN,dP];have hT2:iY (j5 (j5 (lB 30 v.a) (lB 19 v.a)) (lB 10 v.a)) (j5 (j5 (rP v.a v.b) (rP v.a v.c)) (rP v.b v.c))=T2 v:=by unfold T2;with_reducible rfl
  rw[hT2];refine hG _ _ ?_;clear hG G;have w3:=al (k:=t) aq;simp[go_sem,dP,ie,w3];refine aj (t+1,xF v (k,w)) ⟨by simp only;omega,hR⟩ (by simp only;omega) ?_;simp[ak,ah,fv,lk,AV.low,AV.low1,bS,xF,rd];exact⟨bD _ _,bD _ _,fun v hv=>htail _ v hv,aK _ _⟩
 ·have ht64:t=64:=aq;subst ht64;rw[o6 xF aq]at hR;subst hR
  refine am (fun i:Nat=>⟨[(0,.ptr 0 0 0 1),(6,.ptr 323 0 0 1),(101,.d (.int .i64 i))],[(323,⟨164,8,[cw v.l]⟩),(0,⟨ty,e,[cw (eA s v i)++tail]⟩),(1,⟨5,1,rb L⟩)],483⟩)
   (fun i=>i≤8) (fun i=>8-i) 0 aq (by
    simp[ak,ah,fv,lk,AV.low,AV.low1,o9,lF];refine⟨bD _ _,fun v hv=>?_,aK _ _⟩;rcases hv with hv|hv
    ·exact bD _ _ v hv
    ·exact htail _ v hv) ?_
  intro i hi;simp only[go_sem,Nat.reduceEqDiff,Nat.reduceAdd,Nat.reduceLT,↓reduceIte];refine⟨fun h=>?_,fun h=>?_⟩
  ·obtain⟨x,y,hy,hx,hset⟩:=pa s v (i:=i) aq;have hml:=rU s v hi;refine cQ [0,1,2,3,4,5,6,7,8,9,10] [(11,[])] 0 (k:=12) ?_;intro G hG;have hs2:=vE (l:=eA s v i) (tail:=tail) (i:=i) (x:=iY x y) aq;rw[hset]at hs2;simp[go_sem,vD hx,iJ,hy,dP,hs2,hml];refine⟨aq,aq,hG _ _ ?_⟩;have w3:=al (k:=i) aq;simp[go_sem,w3];refine aj (i+1) aq aq ?_;simp[ak,ah,fv,lk,AV.low,AV.low1];refine⟨bD _ _,fun v hv=>?_,aK _ _⟩;rcases hv with hv|hv
   ·exact bD _ _ v hv
   ·exact htail _ v hv
  ·have hi8:i=8:=aq;subst hi8;simp[go_sem,ar,rV,lF];simp[cw,S8.l]
theorem j7:cp Tryz.prog 57 0 [] [] (fun r hp'=>r=.ptr 97 0 0 1∧lk 97 hp'=some ⟨167,10,[bS H0++[.nil,.d (.int .u64 0)]]⟩):=by
 refine bw Tryz.func57 (by kernel_rfl) rfl Tryz.ntmps57 (rs:=[.tmp 0]) rfl (qb rfl) (by decide) ?_;simp only[go_sem,Nat.reduceEqDiff,Nat.reduceAdd,Nat.reduceLT,↓reduceIte,Nat.reduceMul];refine ae xG a9 ?_;simp[go_sem,ar,ie,fq,←lF,bS]
theorem jJ{β:Type}(f:β→List DV)(b:List β){P:Program}{el:TypeId}{e:Nat}{es:List (List DV)}{nx:Nat}{Kk:AV→Hp→Prop}{hp:Hp}:dV P el (.d (.rof e es)) (some (List.map ((fun r=>List.map AV.d r)∘f) b)) nx Kk hp=(e=P.cellsOf el∧(ek P el).isSome=true∧P.bytesOf el≠0∧(es.length+b.length)*P.bytesOf el≤140737488355328∧pV (Kk (.d (.ro e (es++b.map f))) hp) (b.map f≠[]∧Kk (.own nx 0 (es.length+b.length) (es.length+b.length)) ((nx,⟨el,P.cellsOf el,es.map (fun r=>r.map AV.d)++List.map ((fun r=>List.map AV.d r)∘f) b⟩)::hp))):=by
 have:=rK (P:=P) (K:=Kk) (hp:=hp) (nx:=nx) el e es (b.map f);rw[List.map_map,List.length_map]at this;exact this
theorem gZ{α β:Type}(f:α→β)(l:List α):(l.map f).take l.length=l.map f:=by
 rw[cx aw]
theorem eat_none(k:Nat)(s:S8)(b:List Nat)(h:b.length<64):lZ k s b=(s,b):=by
 cases k with
 |zero=>rfl
 |succ k=>simp[lZ];omega
theorem eat_more{k:Nat}{s:S8}{b:List Nat}(h:64≤b.length)(hk:b.length≤k):lZ k s b=lZ (k-1) (Go.Sha.take s (b.take 64)) (b.drop 64):=by
 obtain⟨j,rfl⟩:∃j,k=j+1:=⟨k-1,aq⟩;rw[lZ,if_pos h];rfl
theorem Ag(s:S8)(R:AV)(rest b:List Nat)(n:Int)(hR:R=.d (nb rest)∨(R=.nil∧rest=[]))(hl:rest.length+b.length≤1000000000000) :
  cp Tryz.prog 58 1 [(0,⟨167,10,[bS s++[R,.d (.int .u64 n)]]⟩)] [.ptr 0 0 0 1,.d (nb b)]
   (fun r hp'=>r=.tup []∧lk 0 hp'=some ⟨167,10,[bS (lZ ((rest++b).length) s (rest++b)).1++[.d (nb (lZ ((rest++b).length) s (rest++b)).2),.d (.int .u64 (IntKind.u64.wrap (n+(IntKind.u64.wrap (b.length:Int)))))]]⟩):=by
 refine bw Tryz.func58 (by kernel_rfl) rfl Tryz.ntmps58 (rs:=[]) rfl (qb rfl) (by decide) ?_;generalize hn':IntKind.u64.wrap (n+(IntKind.u64.wrap (b.length:Int)))=n';generalize hE0:lZ ((rest++b).length) s (rest++b)=E;rcases hR with rfl|⟨rfl,rfl⟩
 ·simp[go_sem,nb,bS,hn'];refine cQ [0,1,2,3,4,5,6,7,8,9,10,11,12,13,14,15,16] [(17,[18,19]),(20,[])] 1 (k:=21) ?_;intro G hG;simp[go_sem,gZ,jJ];refine⟨by have:=hl;simp only[b_,List.length_nil]at *;omega,.inl (hG _ _ ?_)⟩;clear hG G
  refine am (fun t:S8×List Nat=>⟨[(0,.ptr 0 0 0 1)],[(0,⟨167,10,[bS t.1++[.d (nb t.2),.d (.int .u64 n')]]⟩)],1090⟩)
   (fun t=>t.2.length≤1000000000000∧∃k,t.2.length≤k∧lZ k t.1 t.2=E) (fun t=>t.2.length) (s,rest++b) ⟨by have:=hl;simp only[b_,List.length_nil]at *;omega,_,cL _,hE0⟩ (by
    simp[ak,ah,fv,lk,AV.low,AV.low1,nb,bS]) ?_
  rintro⟨s1,q⟩⟨hq,k,hk,hE⟩;simp only at hq hk hE;simp only[go_sem,Nat.reduceEqDiff,Nat.reduceAdd,Nat.reduceLT,↓reduceIte,bS,nb,List.length_map];refine⟨fun h=>?_,fun h=>?_⟩
  ·have h64:64≤q.length:=aq;rw[eat_more h64 hk]at hE;refine cQ [0,1,2,3,4,5,6,7] [(8,[])] 0 (k:=9) ?_;intro G hG;simp[go_sem];refine⟨aq,?_⟩;refine aR [(0,0)] (mA 167 10 s1 [.d (nb q),.d (.int .u64 n')] (q.take 64) (by simp;omega) (by simp[AV.low1])) rfl aw (by simp[lk]) (by simp[lk,Blk.ren,aT,AV.renL,AV.ren,bF,fL,bS,nb]) (by simp[AV.renL,AV.ren,bF,fL,lk,nb,List.map_take]) ?_;rintro r hp'⟨rfl,h0⟩;refine⟨[],rfl,?_⟩;simp[go_sem,bG,bE,h0,Blk.ren,aT,AV.renL,AV.ren,bF,bS];refine hG _ _ ?_;clear hG G;simp[go_sem,nb];refine⟨aq,?_⟩;refine aj (Go.Sha.take s1 (q.take 64),q.drop 64) ⟨by simp only[et];omega,k-1,by simp only[et];omega,hE⟩ (by simp only[et];omega) ?_;simp[ak,ah,fv,lk,AV.low,AV.low1,nb,bS,List.map_drop,gZ]
  ·rw[eat_none k s1 q aq]at hE;subst hE;rfl
 ·simp[go_sem,nb,bS,hn'];refine cQ [0,1,2,3,4,5,6,7,8,9,10,11,12,13,14,15,16] [(17,[18,19]),(20,[])] 1 (k:=21) ?_;intro G hG;simp[go_sem,gZ,jJ];refine⟨by have:=hl;simp only[b_,List.length_nil]at *;omega,.inl (hG _ _ ?_)⟩;clear hG G
  refine am (fun t:S8×List Nat=>⟨[(0,.ptr 0 0 0 1)],[(0,⟨167,10,[bS t.1++[.d (nb t.2),.d (.int .u64 n')]]⟩)],1090⟩)
   (fun t=>t.2.length≤1000000000000∧∃k,t.2.length≤k∧lZ k t.1 t.2=E) (fun t=>t.2.length) (s,[]++b) ⟨by have:=hl;simp only[b_,List.length_nil]at *;omega,_,cL _,hE0⟩ (by
    simp[ak,ah,fv,lk,AV.low,AV.low1,nb,bS]) ?_
  rintro⟨s1,q⟩⟨hq,k,hk,hE⟩;simp only at hq hk hE;simp only[go_sem,Nat.reduceEqDiff,Nat.reduceAdd,Nat.reduceLT,↓reduceIte,bS,nb,List.length_map];refine⟨fun h=>?_,fun h=>?_⟩
  ·have h64:64≤q.length:=aq;rw[eat_more h64 hk]at hE;refine cQ [0,1,2,3,4,5,6,7] [(8,[])] 0 (k:=9) ?_;intro G hG;simp[go_sem];refine⟨aq,?_⟩;refine aR [(0,0)] (mA 167 10 s1 [.d (nb q),.d (.int .u64 n')] (q.take 64) (by simp;omega) (by simp[AV.low1])) rfl aw (by simp[lk]) (by simp[lk,Blk.ren,aT,AV.renL,AV.ren,bF,fL,bS,nb]) (by simp[AV.renL,AV.ren,bF,fL,lk,nb,List.map_take]) ?_;rintro r hp'⟨rfl,h0⟩;refine⟨[],rfl,?_⟩;simp[go_sem,bG,bE,h0,Blk.ren,aT,AV.renL,AV.ren,bF,bS];refine hG _ _ ?_;clear hG G;simp[go_sem,nb];refine⟨aq,?_⟩;refine aj (Go.Sha.take s1 (q.take 64),q.drop 64) ⟨by simp only[et];omega,k-1,by simp only[et];omega,hE⟩ (by simp only[et];omega) ?_;simp[ak,ah,fv,lk,AV.low,AV.low1,nb,bS,List.map_drop,gZ]
  ·rw[eat_none k s1 q aq]at hE;subst hE;rfl
def ji:Nat→List Nat→List Nat
 |0,l=>l
 |n+1,l=>if l.length%64=56 then l else ji n (l++[0])
theorem nj{k:Nat}{l:List Nat}(h:l.length%64≠56)(hk:0<k):ji k l=ji (k-1) (l++[0]):=by
 obtain⟨j,rfl⟩:∃j,k=j+1:=⟨k-1,aq⟩;rw[ji,if_neg h];rfl
theorem pe{k:Nat}{l:List Nat}(h:l.length%64=56):ji k l=l:=by
 cases k with
 |zero=>rfl
 |succ k=>rw[ji,if_pos h]
theorem lG(a b:List Nat):rb a++rb b=rb (a++b):=by simp[rb]
theorem fh(a:List Nat)(x:Nat):rb a++[[AV.d (.int .u8 (x:Int))]]=rb (a++[x]):=by simp[rb]
theorem nk(a:List Nat):rb a++[[AV.d (.int .u8 128)]]=rb (a++[128]):=by simp[rb]
theorem rW(a:List Nat):rb a++[[AV.d (.int .u8 0)]]=rb (a++[0]):=by simp[rb]
theorem dk(a:List Nat):List.map ((fun r=>List.map AV.d r)∘fun(x:Nat)=>[DV.int .u8 (x:Int)]) a=rb a:=by simp[rb]
def fF(m:Nat):Nat→List Nat
 |0=>[]
 |j+1=>fF m j++[t8 (c8 (56-8*j) m)]
theorem cT(m:Nat):∀j,(fF m j).length=j
 |0=>rfl
 |j+1=>by simp[fF,cT m j]
def lastOf(rest:List Nat)(n:Nat):List Nat:=ji 64 (rest++[128])++fF (n*8%18446744073709551616) 8
theorem Ah(n:Nat):IntKind.u64.wrap ((n:Int)*8)=((n*8%18446744073709551616:Nat):Int):=by rw[fE];omega
theorem Ai(n:Nat):Int.tmod (n:Int) 64=((n%64:Nat):Int):=by
 have:=Int.ofNat_tmod n 64
 simpa using this.symm
theorem Aj(s:S8)(a b:AV)(ha:∀n,a.low1 n)(hb:∀n,b.low1 n)(n:Nat):∀v,v∈bS s++[a,b]→v.low1 n:=by
 intro v hv;rcases cD.1 hv with h|h
 ·exact bD n s.l v h
 ·simp only[d_,List.mem_nil_iff,or_false]at h;rcases h with rfl|rfl
  ·exact ha n
  ·exact hb n
theorem eJ(s:S8)(a b:AV)(ha:∀n,a.low1 n)(hb:∀n,b.low1 n)(n:Nat):∀v,v∈bS s∨v=a∨v=b→v.low1 n:=by
 intro v hv;refine Aj s a b ha hb n v ?_
 simpa using hv
theorem dX(s:S8)(n:Nat):∀v,v∈bS s→v.low1 n:=bD n s.l
theorem vG(ρ:Nat→Nat)(s:S8):AV.renL ρ (bS s)=bS s:=Ad ρ s.l
theorem bV(ρ:Nat→Nat)(L:List Nat):List.map (AV.renL ρ) (rb L)=rb L:=by
 simp[rb,AV.renL,AV.ren]
def eB(w:List Nat):List Nat:=w++List.replicate (32-w.length) 0
theorem pg{w:List Nat}(h:w.length≤32):(eB w).length=32:=by simp[eB];omega
theorem pj{w:List Nat}{x:Nat}(h:w.length<32):(eB w).set w.length x=eB (w++[x]):=by
 unfold eB;rw[List.set_append_right _ _ (cL _),Nat.sub_self];obtain⟨k,hk⟩:∃k,32-w.length=k+1:=⟨31-w.length,aq⟩;rw[hk,List.replicate_succ,List.set_cons_zero,cA];simp only[b_,List.length_singleton,List.singleton_append];rw[show 32-(w.length+1)=k by omega]
theorem nl{w:List Nat}(h:w.length=32):eB w=w:=by unfold eB;rw[h];simp
theorem JY(s:S8):List.take 8 (bS s)=bS s:=rfl
theorem vH(s:S8){i:Nat}(h:i<8):(bS s)[i]?=some (.d (.int .u32 ((s.l.getD i 0:Nat):Int))):=by
 rw[lF,iJ,cR];have:i<s.l.length:=h;rw[cm this];rfl
theorem OK(s:S8)(a b:AV):(List.drop 9 (bS s++[a,b])).head?=some b:=rfl
theorem OL(s:S8)(a b:AV):List.take 8 (bS s++[a,b])=bS s:=rfl
theorem mB(s:S8):(bS s).length=8:=rfl
theorem tW (s:S8) (R:AV) (rest:List Nat) (n:Nat) (hR:R=.d (nb rest) ∨ (R=.nil∧rest=[])) (hl:rest.length≤1000000000000) :
  cp Tryz.prog 60 1 [(0,⟨167,10,[bS s++[R,.d (.int .u64 (n:Int))]]⟩)] [.ptr 0 0 0 1]
   (fun r hp'=>r=.agg (cb (yx (lZ (lastOf rest n).length s (lastOf rest n)).1))∧lk 0 hp'=some ⟨167,10,[bS s++[R,.d (.int .u64 (n:Int))]]⟩):=by
 refine bw Tryz.func60 (by kernel_rfl) rfl Tryz.ntmps60 (rs:=[.cell 2 29]) rfl (qb rfl) (by decide) ?_;rcases hR with rfl|⟨rfl,rfl⟩
 ·simp [go_sem,nb,bS,dk,nk,aN];refine ⟨aq,aq,?_⟩
  refine am (fun l:List Nat=>⟨[(0,.ptr 0 0 0 1),(2,.ptr 2 0 0 1),(3,.own 98 0 l.length l.length)],[(98,⟨5,1,rb l⟩),(2,⟨29,32,[cb z32]⟩),(0,⟨167,10,[bS s++[.d (nb rest),.d (.int .u64 (n:Int))]]⟩)],450⟩)
   (fun l=>l.length≤1000000000000+65∧∃k,(120-l.length%64)%64≤k∧(k+l.length≤1000000000000+65)∧ji k l=ji 64 (rest++[128])) (fun l=>(120-l.length%64)%64) (rest++[128]) ⟨by have:=hl;simp only[b_,List.length_nil,List.length_singleton]at *;omega,64,aq,by have:=hl;simp only[b_,List.length_nil,List.length_singleton]at *;omega,rfl⟩ (by
    simp[ak,ah,fv,lk,AV.low,AV.low1,nb,bS]
    exact⟨aK _ _,aC _ _⟩) ?_
  rintro l⟨hl1,k,hk,hk2,hP⟩;have em:Int.tmod (l.length:Int) 64=((l.length%64:Nat):Int):=Ai _;simp only[go_sem,Nat.reduceEqDiff,Nat.reduceAdd,Nat.reduceLT,↓reduceIte,em];refine⟨by decide,fun h=>?_,fun h=>?_⟩
  ·have h56:l.length%64≠56:=aq;rw[nj h56 aq]at hP;refine⟨by decide,aN l,aq,?_⟩;rw[rW];refine aj (l++[0]) ⟨by simp only[b_,List.length_singleton];omega,k-1,by simp only[b_,List.length_singleton];omega,by simp only[b_,List.length_singleton];omega,hP⟩ (by simp only[b_,List.length_singleton];omega) ?_;simp[ak,ah,fv,lk,AV.low,AV.low1];exact⟨aK _ _,aC _ _,eJ s (.d (nb rest)) (.d (.int .u64 n)) (fun _=>trivial) (fun _=>trivial) _⟩
  ·have h56:l.length % 64=56:=aq;rw [pe h56] at hP;simp only [go_sem,Nat.reduceEqDiff,Nat.reduceAdd,Nat.reduceLT,↓reduceIte,OK,Ah];have hm:lastOf rest n=l ++ fF (n*8 % 18446744073709551616) 8:=by unfold lastOf;rw [← hP]
   generalize n*8%18446744073709551616=m at hm;generalize lastOf rest n=L at hm;clear hP hk hk2 hl
   refine am (fun j:Nat=>⟨[(0,.ptr 0 0 0 1),(2,.ptr 2 0 0 1),(3,.own 98 0 (l++fF m j).length (l++fF m j).length),(4,.d (.int .u64 (m:Int))),(5,.d (.int .i64 (56-8*(j:Int))))],[(98,⟨5,1,rb (l++fF m j)⟩),(2,⟨29,32,[cb z32]⟩),(0,⟨167,10,[bS s++[.d (nb rest),.d (.int .u64 (n:Int))]]⟩)],642⟩)
    (fun j=>j≤8) (fun j=>8-j) 0 aq (by
     simp[ak,ah,fv,lk,AV.low,AV.low1,fF]
     exact⟨aK _ _,aC _ _,eJ s (.d (nb rest)) (.d (.int .u64 n)) (fun _=>trivial) (fun _=>trivial) _⟩) ?_
   intro j hj;have hll:(l++fF m j).length=l.length+j:=by rw[b_,cT]
   have e8:(56:Int)-8*(j:Int)-8=56-8*((j+1:Nat):Int):=aq;have w8:IntKind.i64.wrap (56-8*(j:Int)-8)=56-8*((j+1:Nat):Int):=by rw[IntWalk.i64_in _ aq];omega
   simp only[go_sem,Nat.reduceEqDiff,Nat.reduceAdd,Nat.reduceLT,↓reduceIte];refine⟨fun h=>?_,fun h=>?_⟩
   ·have hj7:j≤7:=aq
    have eb:IntKind.u8.wrap (Int.fdiv (m:Int) (2 ^ (min (56-8*(j:Int)).toNat 64)))=((t8 (c8 (56-8*j) m):Nat):Int):=by
     rw[show min (56-8*(j:Int)).toNat 64=56-8*j by omega,JW,eP]
    have es:rb (l++fF m j)++[[AV.d (.int .u8 ((t8 (c8 (56-8*j) m):Nat):Int))]]=rb (l++fF m (j+1)):=by rw[fh,cA];rfl
    simp only[go_sem,Nat.reduceEqDiff,Nat.reduceAdd,Nat.reduceLT,↓reduceIte,IntKind.bits,eb,aN,es,w8];refine⟨aq,by decide,by have:=cT m j;omega,?_⟩;refine aj (j+1) aq aq ?_;have hl8:(fF m (j+1)).length=(fF m j).length+1:=by rw[cT,cT]
    simp[ak,ah,fv,lk,AV.low,AV.low1,hl8];exact⟨aq,aK _ _,aC _ _,eJ s (.d (nb rest)) (.d (.int .u64 n)) (fun _=>trivial) (fun _=>trivial) _⟩
   ·have hj8:j=8:=aq;subst hj8;rw[←hm];have hL64:L.length%64=0:=by rw[hm,b_,cT];omega
    have hLl:L.length≤2000000000000:=by rw[hm,b_,cT];omega
    have hLen:l.length+(fF m 8).length=L.length:=by rw[hm,b_]
    clear hm hll e8 w8 h56 h em;simp[go_sem,OL,mB,hLen];generalize hE0:lZ L.length s L=E
    refine am (fun t:Nat×S8=>⟨[(0,.ptr 0 0 0 1),(2,.ptr 2 0 0 1),(3,.own 98 (64*t.1) (L.length-64*t.1) L.length),(6,.ptr 834 0 0 1)],[(834,⟨164,8,[bS t.2]⟩),(98,⟨5,1,rb L⟩),(2,⟨29,32,[cb z32]⟩),(0,⟨167,10,[bS s++[.d (nb rest),.d (.int .u64 (n:Int))]]⟩)],898⟩)
     (fun t=>64*t.1≤L.length∧∃k,L.length-64*t.1≤k∧lZ k t.2 (L.drop (64*t.1))=E) (fun t=>L.length-64*t.1) (0,s) ⟨aq,L.length,aq,hE0⟩ (by
      simp[ak,ah,fv,lk,AV.low,AV.low1]
      exact⟨dX _ _,aK _ _,aC _ _,eJ s (.d (nb rest)) (.d (.int .u64 n)) (fun _=>trivial) (fun _=>trivial) _⟩) ?_
    rintro⟨j,s1⟩⟨hj64,k,hk,hE⟩;simp only at hj64 hk hE;have hdl:(L.drop (64*j)).length=L.length-64*j:=et;simp only[go_sem,Nat.reduceEqDiff,Nat.reduceAdd,Nat.reduceLT,↓reduceIte];refine⟨fun h=>?_,fun h=>?_⟩
    ·have h64:64≤L.length-64*j:=aq;rw[eat_more aq aq]at hE;simp[go_sem];refine⟨aq,?_⟩;refine aR [(0,834),(1,98)] (ma 164 8 s1 [] L (64*j) aq aw) rfl aw (by simp[lk]) (by simp[lk,Blk.ren,aT,AV.renL,AV.ren,bF,fL,bS,rb]) (by simp[AV.renL,AV.ren,bF,fL,lk]) ?_;rintro r hp'⟨rfl,h0,h1⟩;refine⟨[],rfl,?_⟩;simp[go_sem,bG,bE,h0,h1,Blk.ren,aT,vG,bV,AV.renL,AV.ren,bF];refine⟨aq,?_⟩;refine aj (j+1,Go.Sha.take s1 ((L.drop (64*j)).take 64)) ⟨by simp only;omega,k-1,by simp only;omega,?_⟩ (by simp only;omega) ?_
     ·rw[List.drop_drop]at hE;exact hE
     ·simp[ak,ah,fv,lk,AV.low,AV.low1];exact⟨⟨aq,aq⟩,dX _ _,aK _ _,aC _ _,eJ s (.d (nb rest)) (.d (.int .u64 n)) (fun _=>trivial) (fun _=>trivial) _⟩
    ·have hnil:L.drop (64*j)=[]:=c_ aq;rw[hnil,eat_none k s1 [] aw]at hE;have hs1:s1=E.1:=by rw[←hE]
     clear hE hE0 hdl hnil;simp[go_sem,mB]
     refine am (fun i:Nat=>⟨[(0,.ptr 0 0 0 1),(2,.ptr 2 0 0 1),(7,.ptr 994 0 0 1),(59,.agg (bS s1)),(60,.d (.int .i64 i))],[(994,⟨29,32,[cb (eB (gx s1.l i))]⟩),(2,⟨29,32,[cb z32]⟩),(0,⟨167,10,[bS s++[.d (nb rest),.d (.int .u64 (n:Int))]]⟩)],1090⟩)
      (fun i=>i≤8) (fun i=>8-i) 0 aq (by
       simp[ak,ah,fv,lk,AV.low,AV.low1,JY]
       exact⟨dX _ _,⟨rfl,aC _ _⟩,aC _ _,eJ s (.d (nb rest)) (.d (.int .u64 n)) (fun _=>trivial) (fun _=>trivial) _⟩) ?_
     intro i hi;have hpl:=jI s1.l i;simp only[go_sem,Nat.reduceEqDiff,Nat.reduceAdd,Nat.reduceLT,↓reduceIte];refine⟨fun h2=>?_,fun h2=>?_⟩
     ·have hg:=vH s1 (i:=i) aq;have hpre:gx s1.l (i+1)=gx s1.l i++qd (s1.l.getD i 0) 4:=rfl;generalize s1.l.getD i 0=x at hg hpre;simp[go_sem,hg];refine⟨aq,?_⟩
      refine am (fun k:Nat=>⟨[(0,.ptr 0 0 0 1),(2,.ptr 2 0 0 1),(7,.ptr 994 0 0 1),(59,.agg (bS s1)),(60,.d (.int .i64 i)),(8,.d (.int .i64 i)),(9,.d (.int .u32 (x:Int))),(64,.d (.int .i64 k))],[(994,⟨29,32,[cb (eB (gx s1.l i++qd x k))]⟩),(2,⟨29,32,[cb z32]⟩),(0,⟨167,10,[bS s++[.d (nb rest),.d (.int .u64 (n:Int))]]⟩)],1300⟩)
       (fun k=>k≤4) (fun k=>4-k) 0 aq (by
        simp[ak,ah,fv,lk,AV.low,AV.low1,qd]
        exact⟨dX _ _,aC _ _,aC _ _,eJ s (.d (nb rest)) (.d (.int .u64 n)) (fun _=>trivial) (fun _=>trivial) _⟩) ?_
      intro k hk4;have hkl:=my x k;simp only[go_sem,Nat.reduceEqDiff,Nat.reduceAdd,Nat.reduceLT,↓reduceIte];refine⟨fun h3=>?_,fun h3=>?_⟩
      ·have w1:IntKind.i64.wrap (4*(i:Int))=((4*i:Nat):Int):=by rw[IntWalk.i64_in _ aq];omega
       have w2:IntKind.i64.wrap (((4*i:Nat):Int)+(k:Int))=((4*i+k:Nat):Int):=by rw[IntWalk.i64_in _ aq];omega
       have w3:IntKind.i64.wrap (8*(k:Int))=((8*k:Nat):Int):=by rw[IntWalk.i64_in _ aq];omega
       have w4:IntKind.i64.wrap (24-((8*k:Nat):Int))=((24-8*k:Nat):Int):=by rw[IntWalk.i64_in _ aq];omega
       have w5:=al (k:=k) aq
       have eb:IntKind.u8.wrap (Int.fdiv (x:Int) (2 ^ (min (24-8*k) 32)))=((t8 (c8 (24-8*k) x):Nat):Int):=by
        rw[show min (24-8*k) 32=24-8*k by omega,JW,eP]
       have hset:(eB (gx s1.l i++qd x k)).set (4*i+k) (t8 (c8 (24-8*k) x))=eB (gx s1.l i++qd x (k+1)):=by
        have h:=pj (w:=gx s1.l i++qd x k) (x:=t8 (c8 (24-8*k) x)) (by rw[b_];omega);rw[b_,hpl,hkl,cA]at h;exact h
       have hrl:(eB (gx s1.l i++qd x k)).length=32:=pg (by rw[b_];omega);simp only[go_sem,Nat.reduceEqDiff,Nat.reduceAdd,Nat.reduceLT,↓reduceIte,w1,w2,w3,w4,IntKind.bits,Int.toNat_natCast,eb,Nat.mul_one,tV,hset,hrl,w5];refine⟨aq,aq,?_⟩;refine aj (k+1) aq aq ?_;simp[ak,ah,fv,lk,AV.low,AV.low1];exact⟨dX _ _,aC _ _,aC _ _,eJ s (.d (nb rest)) (.d (.int .u64 n)) (fun _=>trivial) (fun _=>trivial) _⟩
      ·have hk4':k=4:=aq;subst hk4';rw[←hpre];have w5:=al (k:=i) aq;simp only[go_sem,Nat.reduceEqDiff,Nat.reduceAdd,Nat.reduceLT,↓reduceIte,w5];refine aj (i+1) aq aq ?_;simp[ak,ah,fv,lk,AV.low,AV.low1];exact⟨dX _ _,aC _ _,aC _ _,eJ s (.d (nb rest)) (.d (.int .u64 n)) (fun _=>trivial) (fun _=>trivial) _⟩
     ·have hi8:i=8:=aq;subst hi8;have hfull:eB (gx s1.l 8)=yx s1:=nl hpl;rw[hfull,hs1];have hdl2:(yx E.1).length=32:=jI _ 8;have htk:List.take 32 (cb (yx E.1))=cb (yx E.1):=cx (by rw[ap];omega);simp[go_sem,ar,hdl2,htk];rfl
 ·simp [go_sem,nb,bS,dk,nk,aN]
  refine am (fun l:List Nat=>⟨[(0,.ptr 0 0 0 1),(2,.ptr 2 0 0 1),(3,.own 98 0 l.length l.length)],[(98,⟨5,1,rb l⟩),(2,⟨29,32,[cb z32]⟩),(0,⟨167,10,[bS s++[.nil,.d (.int .u64 (n:Int))]]⟩)],450⟩)
   (fun l=>l.length≤1000000000000+65∧∃k,(120-l.length%64)%64≤k∧(k+l.length≤1000000000000+65)∧ji k l=ji 64 ([]++[128])) (fun l=>(120-l.length%64)%64) ([]++[128]) ⟨by have:=hl;simp only[b_,List.length_nil,List.length_singleton]at *;omega,64,aq,by have:=hl;simp only[b_,List.length_nil,List.length_singleton]at *;omega,rfl⟩ (by
    simp[ak,ah,fv,lk,AV.low,AV.low1,nb,bS]
    exact⟨⟨rfl,aK _ _⟩,aC _ _⟩) ?_
  rintro l⟨hl1,k,hk,hk2,hP⟩;have em:Int.tmod (l.length:Int) 64=((l.length%64:Nat):Int):=Ai _;simp only[go_sem,Nat.reduceEqDiff,Nat.reduceAdd,Nat.reduceLT,↓reduceIte,em];refine⟨by decide,fun h=>?_,fun h=>?_⟩
  ·have h56:l.length%64≠56:=aq;rw[nj h56 aq]at hP;refine⟨by decide,aN l,aq,?_⟩;rw[rW];refine aj (l++[0]) ⟨by simp only[b_,List.length_singleton];omega,k-1,by simp only[b_,List.length_singleton];omega,by simp only[b_,List.length_singleton];omega,hP⟩ (by simp only[b_,List.length_singleton];omega) ?_;simp[ak,ah,fv,lk,AV.low,AV.low1];exact⟨aK _ _,aC _ _,eJ s (.nil) (.d (.int .u64 n)) (fun _=>trivial) (fun _=>trivial) _⟩
  ·have h56:l.length % 64=56:=aq;rw [pe h56] at hP;simp only [go_sem,Nat.reduceEqDiff,Nat.reduceAdd,Nat.reduceLT,↓reduceIte,OK,Ah];have hm:lastOf [] n=l ++ fF (n*8 % 18446744073709551616) 8:=by unfold lastOf;rw [← hP]
   generalize n*8%18446744073709551616=m at hm;generalize lastOf [] n=L at hm;clear hP hk hk2 hl
   refine am (fun j:Nat=>⟨[(0,.ptr 0 0 0 1),(2,.ptr 2 0 0 1),(3,.own 98 0 (l++fF m j).length (l++fF m j).length),(4,.d (.int .u64 (m:Int))),(5,.d (.int .i64 (56-8*(j:Int))))],[(98,⟨5,1,rb (l++fF m j)⟩),(2,⟨29,32,[cb z32]⟩),(0,⟨167,10,[bS s++[.nil,.d (.int .u64 (n:Int))]]⟩)],642⟩)
    (fun j=>j≤8) (fun j=>8-j) 0 aq (by
     simp[ak,ah,fv,lk,AV.low,AV.low1,fF]
     exact⟨aK _ _,aC _ _,eJ s (.nil) (.d (.int .u64 n)) (fun _=>trivial) (fun _=>trivial) _⟩) ?_
   intro j hj;have hll:(l++fF m j).length=l.length+j:=by rw[b_,cT]
   have e8:(56:Int)-8*(j:Int)-8=56-8*((j+1:Nat):Int):=aq;have w8:IntKind.i64.wrap (56-8*(j:Int)-8)=56-8*((j+1:Nat):Int):=by rw[IntWalk.i64_in _ aq];omega
   simp only[go_sem,Nat.reduceEqDiff,Nat.reduceAdd,Nat.reduceLT,↓reduceIte];refine⟨fun h=>?_,fun h=>?_⟩
   ·have hj7:j≤7:=aq
    have eb:IntKind.u8.wrap (Int.fdiv (m:Int) (2 ^ (min (56-8*(j:Int)).toNat 64)))=((t8 (c8 (56-8*j) m):Nat):Int):=by
     rw[show min (56-8*(j:Int)).toNat 64=56-8*j by omega,JW,eP]
    have es:rb (l++fF m j)++[[AV.d (.int .u8 ((t8 (c8 (56-8*j) m):Nat):Int))]]=rb (l++fF m (j+1)):=by rw[fh,cA];rfl
    simp only[go_sem,Nat.reduceEqDiff,Nat.reduceAdd,Nat.reduceLT,↓reduceIte,IntKind.bits,eb,aN,es,w8];refine⟨aq,by decide,by have:=cT m j;omega,?_⟩;refine aj (j+1) aq aq ?_;have hl8:(fF m (j+1)).length=(fF m j).length+1:=by rw[cT,cT]
    simp[ak,ah,fv,lk,AV.low,AV.low1,hl8];exact⟨aq,aK _ _,aC _ _,eJ s (.nil) (.d (.int .u64 n)) (fun _=>trivial) (fun _=>trivial) _⟩
   ·have hj8:j=8:=aq;subst hj8;rw[←hm];have hL64:L.length%64=0:=by rw[hm,b_,cT];omega
    have hLl:L.length≤2000000000000:=by rw[hm,b_,cT];omega
    have hLen:l.length+(fF m 8).length=L.length:=by rw[hm,b_]
    clear hm hll e8 w8 h56 h em;simp[go_sem,OL,mB,hLen];generalize hE0:lZ L.length s L=E
    refine am (fun t:Nat×S8=>⟨[(0,.ptr 0 0 0 1),(2,.ptr 2 0 0 1),(3,.own 98 (64*t.1) (L.length-64*t.1) L.length),(6,.ptr 834 0 0 1)],[(834,⟨164,8,[bS t.2]⟩),(98,⟨5,1,rb L⟩),(2,⟨29,32,[cb z32]⟩),(0,⟨167,10,[bS s++[.nil,.d (.int .u64 (n:Int))]]⟩)],898⟩)
     (fun t=>64*t.1≤L.length∧∃k,L.length-64*t.1≤k∧lZ k t.2 (L.drop (64*t.1))=E) (fun t=>L.length-64*t.1) (0,s) ⟨aq,L.length,aq,hE0⟩ (by
      simp[ak,ah,fv,lk,AV.low,AV.low1]
      exact⟨dX _ _,aK _ _,aC _ _,eJ s (.nil) (.d (.int .u64 n)) (fun _=>trivial) (fun _=>trivial) _⟩) ?_
    rintro⟨j,s1⟩⟨hj64,k,hk,hE⟩;simp only at hj64 hk hE;have hdl:(L.drop (64*j)).length=L.length-64*j:=et;simp only[go_sem,Nat.reduceEqDiff,Nat.reduceAdd,Nat.reduceLT,↓reduceIte];refine⟨fun h=>?_,fun h=>?_⟩
    ·have h64:64≤L.length-64*j:=aq;rw[eat_more aq aq]at hE;simp[go_sem];refine⟨aq,?_⟩;refine aR [(0,834),(1,98)] (ma 164 8 s1 [] L (64*j) aq aw) rfl aw (by simp[lk]) (by simp[lk,Blk.ren,aT,AV.renL,AV.ren,bF,fL,bS,rb]) (by simp[AV.renL,AV.ren,bF,fL,lk]) ?_;rintro r hp'⟨rfl,h0,h1⟩;refine⟨[],rfl,?_⟩;simp[go_sem,bG,bE,h0,h1,Blk.ren,aT,vG,bV,AV.renL,AV.ren,bF];refine⟨aq,?_⟩;refine aj (j+1,Go.Sha.take s1 ((L.drop (64*j)).take 64)) ⟨by simp only;omega,k-1,by simp only;omega,?_⟩ (by simp only;omega) ?_
     ·rw[List.drop_drop]at hE;exact hE
     ·simp[ak,ah,fv,lk,AV.low,AV.low1];exact⟨⟨aq,aq⟩,dX _ _,aK _ _,aC _ _,eJ s (.nil) (.d (.int .u64 n)) (fun _=>trivial) (fun _=>trivial) _⟩
    ·have hnil:L.drop (64*j)=[]:=c_ aq;rw[hnil,eat_none k s1 [] aw]at hE;have hs1:s1=E.1:=by rw[←hE]
     clear hE hE0 hdl hnil;simp[go_sem,mB]
     refine am (fun i:Nat=>⟨[(0,.ptr 0 0 0 1),(2,.ptr 2 0 0 1),(7,.ptr 994 0 0 1),(59,.agg (bS s1)),(60,.d (.int .i64 i))],[(994,⟨29,32,[cb (eB (gx s1.l i))]⟩),(2,⟨29,32,[cb z32]⟩),(0,⟨167,10,[bS s++[.nil,.d (.int .u64 (n:Int))]]⟩)],1090⟩)
      (fun i=>i≤8) (fun i=>8-i) 0 aq (by
       simp[ak,ah,fv,lk,AV.low,AV.low1,JY]
       exact⟨dX _ _,⟨rfl,aC _ _⟩,aC _ _,eJ s (.nil) (.d (.int .u64 n)) (fun _=>trivial) (fun _=>trivial) _⟩) ?_
     intro i hi;have hpl:=jI s1.l i;simp only[go_sem,Nat.reduceEqDiff,Nat.reduceAdd,Nat.reduceLT,↓reduceIte];refine⟨fun h2=>?_,fun h2=>?_⟩
     ·have hg:=vH s1 (i:=i) aq;have hpre:gx s1.l (i+1)=gx s1.l i++qd (s1.l.getD i 0) 4:=rfl;generalize s1.l.getD i 0=x at hg hpre;simp[go_sem,hg];refine⟨aq,?_⟩
      refine am (fun k:Nat=>⟨[(0,.ptr 0 0 0 1),(2,.ptr 2 0 0 1),(7,.ptr 994 0 0 1),(59,.agg (bS s1)),(60,.d (.int .i64 i)),(8,.d (.int .i64 i)),(9,.d (.int .u32 (x:Int))),(64,.d (.int .i64 k))],[(994,⟨29,32,[cb (eB (gx s1.l i++qd x k))]⟩),(2,⟨29,32,[cb z32]⟩),(0,⟨167,10,[bS s++[.nil,.d (.int .u64 (n:Int))]]⟩)],1300⟩)
       (fun k=>k≤4) (fun k=>4-k) 0 aq (by
        simp[ak,ah,fv,lk,AV.low,AV.low1,qd]
        exact⟨dX _ _,aC _ _,aC _ _,eJ s (.nil) (.d (.int .u64 n)) (fun _=>trivial) (fun _=>trivial) _⟩) ?_
      intro k hk4;have hkl:=my x k;simp only[go_sem,Nat.reduceEqDiff,Nat.reduceAdd,Nat.reduceLT,↓reduceIte];refine⟨fun h3=>?_,fun h3=>?_⟩
      ·have w1:IntKind.i64.wrap (4*(i:Int))=((4*i:Nat):Int):=by rw[IntWalk.i64_in _ aq];omega
       have w2:IntKind.i64.wrap (((4*i:Nat):Int)+(k:Int))=((4*i+k:Nat):Int):=by rw[IntWalk.i64_in _ aq];omega
       have w3:IntKind.i64.wrap (8*(k:Int))=((8*k:Nat):Int):=by rw[IntWalk.i64_in _ aq];omega
       have w4:IntKind.i64.wrap (24-((8*k:Nat):Int))=((24-8*k:Nat):Int):=by rw[IntWalk.i64_in _ aq];omega
       have w5:=al (k:=k) aq
       have eb:IntKind.u8.wrap (Int.fdiv (x:Int) (2 ^ (min (24-8*k) 32)))=((t8 (c8 (24-8*k) x):Nat):Int):=by
        rw[show min (24-8*k) 32=24-8*k by omega,JW,eP]
       have hset:(eB (gx s1.l i++qd x k)).set (4*i+k) (t8 (c8 (24-8*k) x))=eB (gx s1.l i++qd x (k+1)):=by
        have h:=pj (w:=gx s1.l i++qd x k) (x:=t8 (c8 (24-8*k) x)) (by rw[b_];omega);rw[b_,hpl,hkl,cA]at h;exact h
       have hrl:(eB (gx s1.l i++qd x k)).length=32:=pg (by rw[b_];omega);simp only[go_sem,Nat.reduceEqDiff,Nat.reduceAdd,Nat.reduceLT,↓reduceIte,w1,w2,w3,w4,IntKind.bits,Int.toNat_natCast,eb,Nat.mul_one,tV,hset,hrl,w5];refine⟨aq,aq,?_⟩;refine aj (k+1) aq aq ?_;simp[ak,ah,fv,lk,AV.low,AV.low1];exact⟨dX _ _,aC _ _,aC _ _,eJ s (.nil) (.d (.int .u64 n)) (fun _=>trivial) (fun _=>trivial) _⟩
      ·have hk4':k=4:=aq;subst hk4';rw[←hpre];have w5:=al (k:=i) aq;simp only[go_sem,Nat.reduceEqDiff,Nat.reduceAdd,Nat.reduceLT,↓reduceIte,w5];refine aj (i+1) aq aq ?_;simp[ak,ah,fv,lk,AV.low,AV.low1];exact⟨dX _ _,aC _ _,aC _ _,eJ s (.nil) (.d (.int .u64 n)) (fun _=>trivial) (fun _=>trivial) _⟩
     ·have hi8:i=8:=aq;subst hi8;have hfull:eB (gx s1.l 8)=yx s1:=nl hpl;rw[hfull,hs1];have hdl2:(yx E.1).length=32:=jI _ 8;have htk:List.take 32 (cb (yx E.1))=cb (yx E.1):=cx (by rw[ap];omega);simp[go_sem,ar,hdl2,htk];rfl
end Go.Proofs.YtmfnimjnneflnaaGreat
namespace Go.Sha
theorem rX:∀(k j:Nat)(s:S8)(b:List Nat),b.length≤k→b.length≤j→lZ k s b=lZ j s b
 |0,j,s,b,h,_=>by
  have hb:b.length<64:=aq;rw[Go.Proofs.YtmfnimjnneflnaaGreat.eat_none 0 s b hb,Go.Proofs.YtmfnimjnneflnaaGreat.eat_none j s b hb]
 |k+1,j,s,b,h,h2=>by
  by_cases h64:64≤b.length
  ·rw[Go.Proofs.YtmfnimjnneflnaaGreat.eat_more h64 h,Go.Proofs.YtmfnimjnneflnaaGreat.eat_more h64 h2];exact rX k (j-1) _ _ (by rw[et];omega) (by rw[et];omega)
  ·rw[Go.Proofs.YtmfnimjnneflnaaGreat.eat_none _ s b aq,Go.Proofs.YtmfnimjnneflnaaGreat.eat_none _ s b aq]
def E(s:S8)(b:List Nat):S8×List Nat:=lZ b.length s b
theorem qf{s:S8}{b:List Nat}(h:b.length<64):E s b=(s,b):=Go.Proofs.YtmfnimjnneflnaaGreat.eat_none _ s b h
theorem tX{s:S8}{b:List Nat}(h:64≤b.length):E s b=E (Go.Sha.take s (b.take 64)) (b.drop 64):=by
 unfold E;rw[Go.Proofs.YtmfnimjnneflnaaGreat.eat_more h (cL _)];exact rX _ _ _ _ (by rw[et];omega) (cL _)
theorem rY(b:List Nat):∀(n:Nat)(s:S8)(a:List Nat),a.length≤n→E s (a++b)=E (E s a).1 ((E s a).2++b)
 |0,s,a,h=>by rw[qf (b:=a) aq]
 |n+1,s,a,h=>by
  by_cases h64:64≤a.length
  ·rw[tX (b:=a) h64,tX (b:=a++b) (by rw[b_];omega)];rw[List.take_append_of_le_length h64,List.drop_append_of_le_length h64];exact rY b n _ _ (by rw[et];omega)
  ·rw[qf (b:=a) aq]
theorem rZ:∀(n:Nat)(s:S8)(a:List Nat),a.length≤n→(E s a).2.length≤a.length
 |0,s,a,h=>by rw[qf aq];exact cL _
 |n+1,s,a,h=>by
  by_cases h64:64≤a.length
  ·rw[tX h64];have:=rZ n (Go.Sha.take s (a.take 64)) (a.drop 64) (by rw[et];omega);rw[et]at this;omega
  ·rw[qf aq];exact cL _
def om(p:S8×List Nat)(n:Nat):List Nat:=yx (E p.1 (Go.Proofs.YtmfnimjnneflnaaGreat.lastOf p.2 n)).1
def bO(b:List Nat):List Nat:=om (E H0 b) b.length
def hJ(t b:List Nat):List Nat:=bO (bO t++(bO t++b))
theorem bk(b:List Nat):(bO b).length=32:=jI _ 8
end Go.Sha
namespace Go.Proofs.YtmfnimjnneflnaaGreat
open Go.Am Go.Sha
theorem wn(a b:Nat)(h:a+b<18446744073709551616):IntKind.u64.wrap ((a:Int)+IntKind.u64.wrap (b:Int))=((a+b:Nat):Int):=by rw[fE,fE];omega
theorem eC(ρ:Nat→Nat)(b:List Nat):(AV.d (nb b)).ren ρ=.d (nb b):=rfl
theorem d0(ρ:Nat→Nat):∀l:List Nat,AV.renL ρ (cb l)=cb l
 |[]=>by simp[cb,AV.renL]
 |x::r=>by
  have:=d0 ρ r;simp only[cb]at this;simp only[cb,List.map_cons,AV.renL,AV.ren,this]
theorem aA{l:List Nat}(h:l.length=32):List.take 32 (cb l)=cb l:=cx (by rw[ap];omega)
theorem aV:List.drop 32 (cb z32)=[]:=rfl
theorem ed(ρ:Nat→Nat)(s:S8)(a b:AV):AV.renL ρ (bS s++[a,b])=bS s++[a.ren ρ,b.ren ρ]:=by simp[bS,AV.renL,AV.ren]
theorem Hg(s:S8)(R:AV)(rest b:List Nat)(n:Nat)(hR:R=.d (nb rest)∨(R=.nil∧rest=[]))(hl:rest.length+b.length≤1000000000000)(hn:n+b.length<18446744073709551616) :
  cp Tryz.prog 58 1 [(0,⟨167,10,[bS s++[R,.d (.int .u64 (n:Int))]]⟩)] [.ptr 0 0 0 1,.d (nb b)]
   (fun r hp'=>r=.tup []∧lk 0 hp'=some ⟨167,10,[bS (E s (rest++b)).1++[.d (nb (E s (rest++b)).2),.d (.int .u64 ((n+b.length:Nat):Int))]]⟩):=by
 have:=Ag s R rest b n hR hl;rw[wn n b.length hn]at this;exact this
theorem pn(b:List Nat)(hb:b.length≤100000000000):au Tryz.prog 84 [.d (nb b)] (fun r=>r=.agg (cb (bO b))):=by
 refine bu Tryz.func84 Tryz.ntmps84 (rs:=[.cell 2 29]) a9 ?_;simp only[go_sem,Nat.reduceEqDiff,Nat.reduceAdd,Nat.reduceLT,↓reduceIte,Nat.reduceMul];refine aR [] j7 rfl aw aw aw (by simp[AV.renL]) ?_;rintro r hp'⟨rfl,h0⟩;refine⟨[(97,0)],rfl,?_⟩;simp[go_sem,bG,bE,h0,Blk.ren,aT,ed,AV.ren,bF];refine aR [(0,32)] (Hg H0 .nil [] b 0 (.inr ⟨rfl,rfl⟩) (by simp;omega) aq) rfl aw (by simp[lk]) (by simp[lk,Blk.ren,aT,ed,AV.ren,bF,fL]) (by simp[AV.renL,AV.ren,bF,fL,lk]) ?_;rintro r hp'⟨rfl,h0⟩;refine⟨[],rfl,?_⟩;simp[go_sem,bG,bE,h0,Blk.ren,aT,ed,eC,AV.renL,AV.ren,bF];refine aR [(0,32)] (tW (E H0 b).1 (.d (nb (E H0 b).2)) (E H0 b).2 b.length (.inl rfl) (by have:=rZ _ H0 b (cL _);omega)) rfl aw (by simp[lk]) (by simp[lk,Blk.ren,aT,ed,eC,AV.ren,bF,fL]) (by simp[AV.renL,AV.ren,bF,fL,lk]) ?_;rintro r hp'⟨rfl,h0⟩;refine⟨[],rfl,?_⟩;have hf:yx (lZ (lastOf (E H0 b).2 b.length).length (E H0 b).1 (lastOf (E H0 b).2 b.length)).1=bO b:=rfl;rw[hf]at *;simp[go_sem,bG,bE,h0,Blk.ren,aT,ed,eC,d0,AV.ren,bF,ar,bk,aA (bk b),aV];exact ag (by simp[AV.deep];exact cj _) rfl
theorem im{hp:Hp}{I:Nat→Prop}{id:Nat}{ty:TypeId}{l:List Nat}(hb:lk id hp=some ⟨ty,32,[cb l]⟩)(hI:I id)(hl:l.length=32):SnapD hp I (.sub id 0 0 1 32 32 1) (nb l):=by
 refine .sub (es:=l.map fun(x:Nat)=>[.int .u8 (x:Int)]) hI hb rfl rfl aq (by simp[hl]) (fun r hr=>by
  rw[List.mem_map]at hr;obtain⟨c,_,rfl⟩:=hr
  rfl) fun k j c r y hc hr hy=>?_
 simp only[Nat.zero_add,Nat.mul_one,cU,Option.map_eq_some_iff]at hc hr;obtain⟨x,hx,rfl⟩:=hr
 cases j with
 |succ j=>simp at hy
 |zero =>
  simp at hy;subst hy;rw[Nat.add_zero,tP,hx]at hc;simp at hc;subst hc;exact .d _
theorem io{b:List Nat}(hb:b.length=32):(List.range 32).map (fun k=>((cb b).drop k).take 1)=List.map ((fun r=>List.map AV.d r)∘fun(x:Nat)=>[DV.int .u8 (x:Int)]) b:=by
 apply List.ext_getElem?;intro i;by_cases hi:i<32
 ·rw[cU,cU,List.getElem?_range hi,cm (by omega:i<b.length)];have h:i<(cb b).length:=by rw[ap];omega
  have h1:(cb b)[i]?=some (.d (.int .u8 ((b[i]:Nat):Int))):=by rw[tP,cm (by omega:i<b.length)];rfl
  have h2:(cb b)[i]=.d (.int .u8 ((b[i]:Nat):Int)):=by
   rw[cm h]at h1;exact Option.some.inj h1
  rw[Option.map_some,Option.map_some,List.drop_eq_getElem_cons h,h2];rfl
 ·rw[List.getElem?_eq_none (by simp;omega),List.getElem?_eq_none (by simp;omega)]
theorem kN(ty:TypeId)(e:Nat)(row:List AV)(s:S8)(R:AV)(rest b:List Nat)(n:Int)(hx0:(List.range 32).map (fun k=>(row.drop k).take 1)=List.map ((fun r=>List.map AV.d r)∘fun(x:Nat)=>[DV.int .u8 (x:Int)]) b)(hlow:∀n v,v∈row→v.low1 n)(hR:R=.d (nb rest)∨(R=.nil∧rest=[]))(hl:rest.length+b.length≤1000000000000)(hb32:b.length=32) :
  cp Tryz.prog 58 2 [(0,⟨167,10,[bS s++[R,.d (.int .u64 n)]]⟩),(1,⟨ty,e,[row]⟩)] [.ptr 0 0 0 1,.sub 1 0 0 1 32 32 1]
   (fun r hp'=>r=.tup []∧lk 0 hp'=some ⟨167,10,[bS (lZ ((rest++b).length) s (rest++b)).1++[.d (nb (lZ ((rest++b).length) s (rest++b)).2),.d (.int .u64 (IntKind.u64.wrap (n+(IntKind.u64.wrap (b.length:Int)))))]]⟩∧lk 1 hp'=some ⟨ty,e,[row]⟩):=by
 refine bw Tryz.func58 (by kernel_rfl) rfl Tryz.ntmps58 (rs:=[]) rfl (qb rfl) (by decide) ?_;rw[hb32];generalize hn':IntKind.u64.wrap (n+(IntKind.u64.wrap ((32:Nat):Int)))=n';generalize hE0:lZ ((rest++b).length) s (rest++b)=E;have hx:=hx0;generalize hX:List.map ((fun r=>List.map AV.d r)∘fun(x:Nat)=>[DV.int .u8 (x:Int)]) b=X at hx;simp[go_sem]at hx;have hn2:IntKind.u64.wrap (n+IntKind.u64.wrap 32)=n':=hn';rcases hR with rfl|⟨rfl,rfl⟩
 ·simp[go_sem,nb,bS,hn2];refine cQ [0,1,2,3,4,5,6,7,8,9,10,11,12,13,14,15,16] [(17,[18,19]),(20,[])] 1 (k:=21) ?_;intro G hG;simp[go_sem,gZ,hx];rw[←hX,jJ];simp[go_sem,gZ];refine⟨by have:=hl;simp only[b_,List.length_nil]at *;omega,.inl (hG _ _ ?_)⟩;clear hG G
  refine am (fun t:S8×List Nat=>⟨[(0,.ptr 0 0 0 1)],[(0,⟨167,10,[bS t.1++[.d (nb t.2),.d (.int .u64 n')]]⟩),(1,⟨ty,e,[row]⟩)],1091⟩)
   (fun t=>t.2.length≤1000000000000∧∃k,t.2.length≤k∧lZ k t.1 t.2=E) (fun t=>t.2.length) (s,rest++b) ⟨by have:=hl;simp only[b_,List.length_nil]at *;omega,_,cL _,hE0⟩ (by
    simp[ak,ah,fv,lk,AV.low,AV.low1,nb,bS]
    exact hlow _) ?_
  rintro⟨s1,q⟩⟨hq,k,hk,hE⟩;simp only at hq hk hE;simp only[go_sem,Nat.reduceEqDiff,Nat.reduceAdd,Nat.reduceLT,↓reduceIte,bS,nb,List.length_map];refine⟨fun h=>?_,fun h=>?_⟩
  ·have h64:64≤q.length:=aq;rw[eat_more h64 hk]at hE;refine cQ [0,1,2,3,4,5,6,7] [(8,[])] 0 (k:=9) ?_;intro G hG;simp[go_sem];refine⟨aq,?_⟩;refine aR [(0,0)] (mA 167 10 s1 [.d (nb q),.d (.int .u64 n')] (q.take 64) (by simp;omega) (by simp[AV.low1])) rfl aw (by simp[lk]) (by simp[lk,Blk.ren,aT,AV.renL,AV.ren,bF,fL,bS,nb]) (by simp[AV.renL,AV.ren,bF,fL,lk,nb,List.map_take]) ?_;rintro r hp'⟨rfl,h0⟩;refine⟨[],rfl,?_⟩;simp[go_sem,bG,bE,h0,Blk.ren,aT,AV.renL,AV.ren,bF,bS];refine hG _ _ ?_;clear hG G;simp[go_sem,nb];refine⟨aq,?_⟩;refine aj (Go.Sha.take s1 (q.take 64),q.drop 64) ⟨by simp only[et];omega,k-1,by simp only[et];omega,hE⟩ (by simp only[et];omega) ?_;simp[ak,ah,fv,lk,AV.low,AV.low1,nb,bS,List.map_drop,gZ];exact hlow _
  ·rw[eat_none k s1 q aq]at hE;subst hE;rfl
 ·simp[go_sem,nb,bS,hn2];refine cQ [0,1,2,3,4,5,6,7,8,9,10,11,12,13,14,15,16] [(17,[18,19]),(20,[])] 1 (k:=21) ?_;intro G hG;simp[go_sem,gZ,hx];rw[←hX,jJ];simp[go_sem,gZ];refine⟨by have:=hl;simp only[b_,List.length_nil]at *;omega,.inl (hG _ _ ?_)⟩;clear hG G
  refine am (fun t:S8×List Nat=>⟨[(0,.ptr 0 0 0 1)],[(0,⟨167,10,[bS t.1++[.d (nb t.2),.d (.int .u64 n')]]⟩),(1,⟨ty,e,[row]⟩)],1091⟩)
   (fun t=>t.2.length≤1000000000000∧∃k,t.2.length≤k∧lZ k t.1 t.2=E) (fun t=>t.2.length) (s,[]++b) ⟨by have:=hl;simp only[b_,List.length_nil]at *;omega,_,cL _,hE0⟩ (by
    simp[ak,ah,fv,lk,AV.low,AV.low1,nb,bS]
    exact hlow _) ?_
  rintro⟨s1,q⟩⟨hq,k,hk,hE⟩;simp only at hq hk hE;simp only[go_sem,Nat.reduceEqDiff,Nat.reduceAdd,Nat.reduceLT,↓reduceIte,bS,nb,List.length_map];refine⟨fun h=>?_,fun h=>?_⟩
  ·have h64:64≤q.length:=aq;rw[eat_more h64 hk]at hE;refine cQ [0,1,2,3,4,5,6,7] [(8,[])] 0 (k:=9) ?_;intro G hG;simp[go_sem];refine⟨aq,?_⟩;refine aR [(0,0)] (mA 167 10 s1 [.d (nb q),.d (.int .u64 n')] (q.take 64) (by simp;omega) (by simp[AV.low1])) rfl aw (by simp[lk]) (by simp[lk,Blk.ren,aT,AV.renL,AV.ren,bF,fL,bS,nb]) (by simp[AV.renL,AV.ren,bF,fL,lk,nb,List.map_take]) ?_;rintro r hp'⟨rfl,h0⟩;refine⟨[],rfl,?_⟩;simp[go_sem,bG,bE,h0,Blk.ren,aT,AV.renL,AV.ren,bF,bS];refine hG _ _ ?_;clear hG G;simp[go_sem,nb];refine⟨aq,?_⟩;refine aj (Go.Sha.take s1 (q.take 64),q.drop 64) ⟨by simp only[et];omega,k-1,by simp only[et];omega,hE⟩ (by simp only[et];omega) ?_;simp[ak,ah,fv,lk,AV.low,AV.low1,nb,bS,List.map_drop,gZ];exact hlow _
  ·rw[eat_none k s1 q aq]at hE;subst hE;rfl
theorem vI(s:S8)(R:AV)(rest b:List Nat)(n:Nat)(hR:R=.d (nb rest)∨(R=.nil∧rest=[]))(hl:rest.length+b.length≤1000000000000)(hb32:b.length=32)(hn:n+b.length<18446744073709551616) :
  cp Tryz.prog 58 2 [(0,⟨167,10,[bS s++[R,.d (.int .u64 (n:Int))]]⟩),(1,⟨29,32,[cb b]⟩)] [.ptr 0 0 0 1,.sub 1 0 0 1 32 32 1]
   (fun r hp'=>r=.tup []∧lk 0 hp'=some ⟨167,10,[bS (E s (rest++b)).1++[.d (nb (E s (rest++b)).2),.d (.int .u64 ((n+b.length:Nat):Int))]]⟩∧lk 1 hp'=some ⟨29,32,[cb b]⟩):=by
 have:=kN 29 32 (cb b) s R rest b n (io hb32) (fun n=>aC n _) hR hl hb32;rw[wn n b.length hn]at this;exact this
theorem Ak(ty:TypeId)(e:Nat)(row:List AV)(s:S8)(R:AV)(rest b:List Nat)(n:Nat)(hx0:(List.range 32).map (fun k=>(row.drop k).take 1)=List.map ((fun r=>List.map AV.d r)∘fun(x:Nat)=>[DV.int .u8 (x:Int)]) b)(hlow:∀n v,v∈row→v.low1 n)(hR:R=.d (nb rest)∨(R=.nil∧rest=[]))(hl:rest.length+b.length≤1000000000000)(hb32:b.length=32)(hn:n+b.length<18446744073709551616) :
  cp Tryz.prog 58 2 [(0,⟨167,10,[bS s++[R,.d (.int .u64 (n:Int))]]⟩),(1,⟨ty,e,[row]⟩)] [.ptr 0 0 0 1,.sub 1 0 0 1 32 32 1]
   (fun r hp'=>r=.tup []∧lk 0 hp'=some ⟨167,10,[bS (E s (rest++b)).1++[.d (nb (E s (rest++b)).2),.d (.int .u64 ((n+b.length:Nat):Int))]]⟩∧lk 1 hp'=some ⟨ty,e,[row]⟩):=by
 have:=kN ty e row s R rest b n hx0 hlow hR hl hb32;rw[wn n b.length hn]at this;exact this
theorem lH(tag:List Nat)(ts:DV)(hts:ts=.str (tag.map fun(x:Nat)=>(x:Int)))(b:List Nat)(ht:tag.length≤1000)(hb:b.length≤10000000000):au Tryz.prog 62 [.d ts,.d (nb b)] (fun r=>r=.agg (cb (hJ tag b))):=by
 subst hts;refine bu Tryz.func62 Tryz.ntmps62 (rs:=[.cell 4 29]) a9 ?_;simp[go_sem,Tryz.underlying5];refine ae (pn tag aq) a9 ?_;have hD:=bk tag;have hg:hJ tag b=bO (bO tag++(bO tag++b)):=rfl;rw[hg];generalize bO tag=D at hD;simp[go_sem,hD,aV];refine aR [] j7 rfl aw aw aw (by simp[AV.renL]) ?_;rintro r hp'⟨rfl,h0⟩;refine⟨[(97,0)],rfl,?_⟩;simp[go_sem,bG,bE,h0,Blk.ren,aT,ed,AV.ren,bF]
 have hp1:E H0 (D++(D++b))=E (E (E H0 D).1 ((E H0 D).2++D)).1 ((E (E H0 D).1 ((E H0 D).2++D)).2++b):=by
  rw[rY _ _ _ D (cL _),←cA,rY _ _ _ ((E H0 D).2++D) (cL _)]
 have hfin:om (E (E (E H0 D).1 ((E H0 D).2++D)).1 ((E (E H0 D).1 ((E H0 D).2++D)).2++b)) (0+D.length+D.length+b.length)=bO (D++(D++b)):=by
  unfold bO;rw[hp1];congr 1;simp only[b_];omega
 have l1:=rZ _ H0 D (cL _);refine aR [(0,192),(1,128)] (vI H0 .nil [] D 0 (.inr ⟨rfl,rfl⟩) (by simp;omega) hD aq) rfl aw (by simp[lk]) (by simp[lk,Blk.ren,aT,ed,d0,AV.renL,AV.ren,bF,fL]) (by simp[AV.renL,AV.ren,bF,fL,lk]) ?_;rintro r hp'⟨rfl,h0,h1⟩;refine⟨[],rfl,?_⟩;rw[List.nil_append]at h0;generalize E H0 D=p1 at *;have l2:=rZ _ p1.1 (p1.2++D) (cL _);rw[b_]at l2;simp[go_sem,bG,bE,h0,h1,Blk.ren,aT,ed,d0,eC,AV.renL,AV.ren,bF];refine aR [(0,192),(1,128)] (vI p1.1 (.d (nb p1.2)) p1.2 D (0+D.length) (.inl rfl) aq hD aq) rfl aw (by simp[lk]) (by simp[lk,Blk.ren,aT,ed,d0,eC,AV.renL,AV.ren,bF,fL]) (by simp[AV.renL,AV.ren,bF,fL,lk]) ?_;rintro r hp'⟨rfl,h0,h1⟩;refine⟨[],rfl,?_⟩;generalize E p1.1 (p1.2++D)=p2 at *;have l3:=rZ _ p2.1 (p2.2++b) (cL _);rw[b_]at l3;simp[go_sem,bG,bE,h0,h1,Blk.ren,aT,ed,d0,eC,AV.renL,AV.ren,bF];refine aR [(0,192)] (Hg p2.1 (.d (nb p2.2)) p2.2 b (0+D.length+D.length) (.inl rfl) aq aq) rfl aw (by simp[lk]) (by simp[lk,Blk.ren,aT,ed,d0,eC,AV.renL,AV.ren,bF,fL]) (by simp[AV.renL,AV.ren,bF,fL,lk]) ?_;rintro r hp'⟨rfl,h0⟩;refine⟨[],rfl,?_⟩;generalize E p2.1 (p2.2++b)=p3 at *;simp[go_sem,bG,bE,h0,h1,Blk.ren,aT,ed,d0,eC,AV.renL,AV.ren,bF];refine aR [(0,192)] (tW p3.1 (.d (nb p3.2)) p3.2 (0+D.length+D.length+b.length) (.inl rfl) aq) rfl aw (by simp[lk]) (by simp[lk,Blk.ren,aT,ed,eC,AV.ren,bF,fL]) (by simp[AV.renL,AV.ren,bF,fL,lk]) ?_;rintro r hp'⟨rfl,h0⟩;refine⟨[],rfl,?_⟩;have hf:yx (lZ (lastOf p3.2 (0+D.length+D.length+b.length)).length p3.1 (lastOf p3.2 (0+D.length+D.length+b.length))).1=bO (D++(D++b)):=hfin;rw[hf];have hL:=bk (D++(D++b));generalize bO (D++(D++b))=R at *;simp[go_sem,bG,bE,h0,Blk.ren,aT,ed,eC,d0,AV.ren,bF,ar,hL,aA hL,aV];exact ag (by simp[AV.deep];exact cj _) rfl
end Go.Proofs.YtmfnimjnneflnaaGreat
