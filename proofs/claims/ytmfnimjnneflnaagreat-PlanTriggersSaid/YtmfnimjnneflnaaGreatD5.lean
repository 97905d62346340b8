/-
 Part 6 of what the claim rests on.
-/
import Derived.Test.YtmfnimjnneflnaaGreatD3
import Derived.Test.YtmfnimjnneflnaaGreatD4
import Derived.Lib.BytesEntry
set_option linter.unusedVariables false
set_option linter.unusedSimpArgs false
set_option maxRecDepth 100000
set_option maxHeartbeats 16000000
namespace Go.Sha
def le(x:Nat):Nat→List Nat
 |0=>[]
 |k+1=>le x k++[t8 (ej (8*k) x)]
theorem aO(x:Nat):∀k,(le x k).length=k
 |0=>rfl
 |k+1=>by simp[le,aO x k]
end Go.Sha
namespace Go.Proofs.YtmfnimjnneflnaaGreat
open Go.Am Go.Sha
theorem vI(k x:Nat):ej 8 (ej (8*k) x)=ej (8*(k+1)) x:=by
 unfold ej;rw[Nat.div_div_eq_div_mul,←Nat.pow_add];congr 1
theorem CC(a:Nat):Int.fdiv (a:Int) 256=((ej 8 a:Nat):Int):=fX a 256
theorem qe(b:List Nat):List.take b.length (rb b)++List.drop b.length (rb (List.replicate b.length 0))=rb b:=by
 rw[cx (by rw[aL];exact cL _),c_ (by rw[aL];simp),List.append_nil]
theorem jj{Q:AV→Prop}{st:St}{id:Nat}{L:List Nat}(a:lk id st.hp=some ⟨5,1,rb L⟩)(hq:Q (.d (nb L))):dm Q (.own id 0 L.length L.length) st:=by
 have h:=ry (I:=fun _=>True) (i0:=0) (n:=L.length) a trivial aq;rw[List.drop_zero,List.take_length]at h;exact dR (ao h) a9 hq
theorem G9(b:List Nat)(x n:Nat)(p:b.length≤1000000)(l:x<256)(q:n≤8):ap Tryz.prog 151 [.d (nb b),.d (.int .u8 (x:Int)),.d (.int .i64 (n:Int))] (fun r=>r=.d (nb (b++le x n))):=by
 refine bz Tryz.func151 Tryz.ntmps151 (rs:=[.tmp 6]) a9 ?_;have e:IntKind.i64.wrap ((b.length:Int)+(n:Int))=((b.length+n:Nat):Int):=by rw[IntWalk.i64_in _ aq];omega
 have j:IntKind.u64.wrap (x:Int)=(x:Int):=by rw[ij];omega
 have g:List.replicate b.length [AV.d (.int .u8 0)]=rb (List.replicate b.length 0):=by simp[rb]
 simp only[go_sem,Nat.reduceEqDiff,Nat.reduceAdd,Nat.reduceLT,↓reduceIte,Nat.reduceMul,e,j,nb,List.length_map,Int.toNat_natCast,g];simp[go_sem,dC,aL];rw[qe];refine⟨aq,aq,aq,aq,?_⟩
 refine au (fun k:Nat=>⟨[(7,.own 224 0 (b++le x k).length (b++le x k).length),(8,.d (.int .u64 ((ej (8*k) x:Nat):Int))),(21,.d (.int .i64 (n:Int))),(22,.d (.int .i64 (k:Int)))],[(224,⟨5,1,rb (b++le x k)⟩)],544⟩)
  (fun k=>k≤n) (fun k=>n-k) 0 aq (by
   simp[av,ah,fv,lk,AV.low,AV.low1,le,ej]
   exact aT _ _) ?_
 intro k m;have o:(b++le x k).length=b.length+k:=by rw[b_,aO]
 have i:rb (b++le x k)++[[AV.d (.int .u8 ((t8 (ej (8*k) x):Nat):Int))]]=rb (b++le x (k+1)):=by rw[hJ,cA];rfl
 have f:=az (k:=k) aq;simp only[go_sem,Nat.reduceEqDiff,Nat.reduceAdd,Nat.reduceLT,↓reduceIte];refine⟨fun h=>?_,fun h=>?_⟩
 ·simp[go_sem,fE,aL,i,aO,IntKind.bits,CC,vI,f];refine⟨aq,?_⟩;refine am (k+1) aq aq ?_;simp[av,ah,fv,lk,AV.low,AV.low1,aO];exact⟨aq,aT _ _⟩
 ·have c:k=n:=aq;subst c;simp[go_sem,ai];have a:b.length+(le x k).length=(b++le x k).length:=by rw[b_]
  rw[a];exact jj rfl (by simp[nb])
theorem Zo(b:List Nat)(x n:Nat)(p:b.length≤1000000)(l:x<65536)(q:n≤8):ap Tryz.prog 152 [.d (nb b),.d (.int .u16 (x:Int)),.d (.int .i64 (n:Int))] (fun r=>r=.d (nb (b++le x n))):=by
 refine bz Tryz.func152 Tryz.ntmps152 (rs:=[.tmp 6]) a9 ?_;have e:IntKind.i64.wrap ((b.length:Int)+(n:Int))=((b.length+n:Nat):Int):=by rw[IntWalk.i64_in _ aq];omega
 have j:IntKind.u64.wrap (x:Int)=(x:Int):=by rw[ij];omega
 have g:List.replicate b.length [AV.d (.int .u8 0)]=rb (List.replicate b.length 0):=by simp[rb]
 simp only[go_sem,Nat.reduceEqDiff,Nat.reduceAdd,Nat.reduceLT,↓reduceIte,Nat.reduceMul,e,j,nb,List.length_map,Int.toNat_natCast,g];simp[go_sem,dC,aL];rw[qe];refine⟨aq,aq,aq,aq,?_⟩
 refine au (fun k:Nat=>⟨[(7,.own 224 0 (b++le x k).length (b++le x k).length),(8,.d (.int .u64 ((ej (8*k) x:Nat):Int))),(21,.d (.int .i64 (n:Int))),(22,.d (.int .i64 (k:Int)))],[(224,⟨5,1,rb (b++le x k)⟩)],544⟩)
  (fun k=>k≤n) (fun k=>n-k) 0 aq (by
   simp[av,ah,fv,lk,AV.low,AV.low1,le,ej]
   exact aT _ _) ?_
 intro k m;have o:(b++le x k).length=b.length+k:=by rw[b_,aO]
 have i:rb (b++le x k)++[[AV.d (.int .u8 ((t8 (ej (8*k) x):Nat):Int))]]=rb (b++le x (k+1)):=by rw[hJ,cA];rfl
 have f:=az (k:=k) aq;simp only[go_sem,Nat.reduceEqDiff,Nat.reduceAdd,Nat.reduceLT,↓reduceIte];refine⟨fun h=>?_,fun h=>?_⟩
 ·simp[go_sem,fE,aL,i,aO,IntKind.bits,CC,vI,f];refine⟨aq,?_⟩;refine am (k+1) aq aq ?_;simp[av,ah,fv,lk,AV.low,AV.low1,aO];exact⟨aq,aT _ _⟩
 ·have c:k=n:=aq;subst c;simp[go_sem,ai];have a:b.length+(le x k).length=(b++le x k).length:=by rw[b_]
  rw[a];exact jj rfl (by simp[nb])
theorem Zp(b:List Nat)(x n:Nat)(p:b.length≤1000000)(l:x<4294967296)(q:n≤8):ap Tryz.prog 106 [.d (nb b),.d (.int .u32 (x:Int)),.d (.int .i64 (n:Int))] (fun r=>r=.d (nb (b++le x n))):=by
 refine bz Tryz.func106 Tryz.ntmps106 (rs:=[.tmp 6]) a9 ?_;have e:IntKind.i64.wrap ((b.length:Int)+(n:Int))=((b.length+n:Nat):Int):=by rw[IntWalk.i64_in _ aq];omega
 have j:IntKind.u64.wrap (x:Int)=(x:Int):=by rw[ij];omega
 have g:List.replicate b.length [AV.d (.int .u8 0)]=rb (List.replicate b.length 0):=by simp[rb]
 simp only[go_sem,Nat.reduceEqDiff,Nat.reduceAdd,Nat.reduceLT,↓reduceIte,Nat.reduceMul,e,j,nb,List.length_map,Int.toNat_natCast,g];simp[go_sem,dC,aL];rw[qe];refine⟨aq,aq,aq,aq,?_⟩
 refine au (fun k:Nat=>⟨[(7,.own 224 0 (b++le x k).length (b++le x k).length),(8,.d (.int .u64 ((ej (8*k) x:Nat):Int))),(21,.d (.int .i64 (n:Int))),(22,.d (.int .i64 (k:Int)))],[(224,⟨5,1,rb (b++le x k)⟩)],544⟩)
  (fun k=>k≤n) (fun k=>n-k) 0 aq (by
   simp[av,ah,fv,lk,AV.low,AV.low1,le,ej]
   exact aT _ _) ?_
 intro k m;have o:(b++le x k).length=b.length+k:=by rw[b_,aO]
 have i:rb (b++le x k)++[[AV.d (.int .u8 ((t8 (ej (8*k) x):Nat):Int))]]=rb (b++le x (k+1)):=by rw[hJ,cA];rfl
 have f:=az (k:=k) aq;simp only[go_sem,Nat.reduceEqDiff,Nat.reduceAdd,Nat.reduceLT,↓reduceIte];refine⟨fun h=>?_,fun h=>?_⟩
 ·simp[go_sem,fE,aL,i,aO,IntKind.bits,CC,vI,f];refine⟨aq,?_⟩;refine am (k+1) aq aq ?_;simp[av,ah,fv,lk,AV.low,AV.low1,aO];exact⟨aq,aT _ _⟩
 ·have c:k=n:=aq;subst c;simp[go_sem,ai];have a:b.length+(le x k).length=(b++le x k).length:=by rw[b_]
  rw[a];exact jj rfl (by simp[nb])
end Go.Proofs.YtmfnimjnneflnaaGreat
namespace Go.Sha
def LJ(a:Nat):Nat:=a%65536
def ax(n:Nat):List Nat:=if n<253 then le (t8 n) 1 else if n<65536 then le 253 1++le (LJ n) 2 else le 254 1++le (yn n) 4
theorem cj(n:Nat):(ax n).length≤5:=by
 unfold ax;split;simp[aO];split<;>simp[aO]
end Go.Sha
namespace Go.Proofs.YtmfnimjnneflnaaGreat
open Go.Am Go.Sha
theorem LK(b:List Nat)(x n:Nat)(p:b.length≤1000000)(l:x<256)(q:n≤8):c7 Tryz.prog 151 0 [] [.d (nb b),.d (.int .u8 (x:Int)),.d (.int .i64 (n:Int))] (fun r a=>r=.own 225 0 (b++le x n).length (b++le x n).length∧lk 225 a=some ⟨5,1,rb (b++le x n)⟩):=by
 refine aB Tryz.func151 (by kernel_rfl) rfl Tryz.ntmps151 (rs:=[.tmp 6]) rfl (fD rfl) (by decide) ?_;have e:IntKind.i64.wrap ((b.length:Int)+(n:Int))=((b.length+n:Nat):Int):=by rw[IntWalk.i64_in _ aq];omega
 have j:IntKind.u64.wrap (x:Int)=(x:Int):=by rw[ij];omega
 have g:List.replicate b.length [AV.d (.int .u8 0)]=rb (List.replicate b.length 0):=by simp[rb]
 simp only[go_sem,Nat.reduceEqDiff,Nat.reduceAdd,Nat.reduceLT,↓reduceIte,Nat.reduceMul,e,j,nb,List.length_map,Int.toNat_natCast,g];simp[go_sem,dC,aL];rw[qe];refine⟨aq,aq,aq,aq,?_⟩
 refine au (fun k:Nat=>⟨[(7,.own 225 0 (b++le x k).length (b++le x k).length),(8,.d (.int .u64 ((ej (8*k) x:Nat):Int))),(21,.d (.int .i64 (n:Int))),(22,.d (.int .i64 (k:Int)))],[(225,⟨5,1,rb (b++le x k)⟩)],545⟩)
  (fun k=>k≤n) (fun k=>n-k) 0 aq (by
   simp[av,ah,fv,lk,AV.low,AV.low1,le,ej]
   exact aT _ _) ?_
 intro k m;have o:(b++le x k).length=b.length+k:=by rw[b_,aO]
 have i:rb (b++le x k)++[[AV.d (.int .u8 ((t8 (ej (8*k) x):Nat):Int))]]=rb (b++le x (k+1)):=by rw[hJ,cA];rfl
 have f:=az (k:=k) aq;simp only[go_sem,Nat.reduceEqDiff,Nat.reduceAdd,Nat.reduceLT,↓reduceIte];refine⟨fun h=>?_,fun h=>?_⟩
 ·simp[go_sem,fE,aL,i,aO,IntKind.bits,CC,vI,f];refine⟨aq,?_⟩;refine am (k+1) aq aq ?_;simp[av,ah,fv,lk,AV.low,AV.low1,aO];exact⟨aq,aT _ _⟩
 ·have c:k=n:=aq;subst c;simp[go_sem,ai]
theorem IU(b:List Nat)(x n:Nat)(p:b.length≤1000000)(l:x<65536)(q:n≤8):c7 Tryz.prog 152 0 [] [.d (nb b),.d (.int .u16 (x:Int)),.d (.int .i64 (n:Int))] (fun r a=>r=.own 225 0 (b++le x n).length (b++le x n).length∧lk 225 a=some ⟨5,1,rb (b++le x n)⟩):=by
 refine aB Tryz.func152 (by kernel_rfl) rfl Tryz.ntmps152 (rs:=[.tmp 6]) rfl (fD rfl) (by decide) ?_;have e:IntKind.i64.wrap ((b.length:Int)+(n:Int))=((b.length+n:Nat):Int):=by rw[IntWalk.i64_in _ aq];omega
 have j:IntKind.u64.wrap (x:Int)=(x:Int):=by rw[ij];omega
 have g:List.replicate b.length [AV.d (.int .u8 0)]=rb (List.replicate b.length 0):=by simp[rb]
 simp only[go_sem,Nat.reduceEqDiff,Nat.reduceAdd,Nat.reduceLT,↓reduceIte,Nat.reduceMul,e,j,nb,List.length_map,Int.toNat_natCast,g];simp[go_sem,dC,aL];rw[qe];refine⟨aq,aq,aq,aq,?_⟩
 refine au (fun k:Nat=>⟨[(7,.own 225 0 (b++le x k).length (b++le x k).length),(8,.d (.int .u64 ((ej (8*k) x:Nat):Int))),(21,.d (.int .i64 (n:Int))),(22,.d (.int .i64 (k:Int)))],[(225,⟨5,1,rb (b++le x k)⟩)],545⟩)
  (fun k=>k≤n) (fun k=>n-k) 0 aq (by
   simp[av,ah,fv,lk,AV.low,AV.low1,le,ej]
   exact aT _ _) ?_
 intro k m;have o:(b++le x k).length=b.length+k:=by rw[b_,aO]
 have i:rb (b++le x k)++[[AV.d (.int .u8 ((t8 (ej (8*k) x):Nat):Int))]]=rb (b++le x (k+1)):=by rw[hJ,cA];rfl
 have f:=az (k:=k) aq;simp only[go_sem,Nat.reduceEqDiff,Nat.reduceAdd,Nat.reduceLT,↓reduceIte];refine⟨fun h=>?_,fun h=>?_⟩
 ·simp[go_sem,fE,aL,i,aO,IntKind.bits,CC,vI,f];refine⟨aq,?_⟩;refine am (k+1) aq aq ?_;simp[av,ah,fv,lk,AV.low,AV.low1,aO];exact⟨aq,aT _ _⟩
 ·have c:k=n:=aq;subst c;simp[go_sem,ai]
theorem yA(b:List Nat)(x n:Nat)(p:b.length≤1000000)(l:x<4294967296)(q:n≤8):c7 Tryz.prog 106 0 [] [.d (nb b),.d (.int .u32 (x:Int)),.d (.int .i64 (n:Int))] (fun r a=>r=.own 225 0 (b++le x n).length (b++le x n).length∧lk 225 a=some ⟨5,1,rb (b++le x n)⟩):=by
 refine aB Tryz.func106 (by kernel_rfl) rfl Tryz.ntmps106 (rs:=[.tmp 6]) rfl (fD rfl) (by decide) ?_;have e:IntKind.i64.wrap ((b.length:Int)+(n:Int))=((b.length+n:Nat):Int):=by rw[IntWalk.i64_in _ aq];omega
 have j:IntKind.u64.wrap (x:Int)=(x:Int):=by rw[ij];omega
 have g:List.replicate b.length [AV.d (.int .u8 0)]=rb (List.replicate b.length 0):=by simp[rb]
 simp only[go_sem,Nat.reduceEqDiff,Nat.reduceAdd,Nat.reduceLT,↓reduceIte,Nat.reduceMul,e,j,nb,List.length_map,Int.toNat_natCast,g];simp[go_sem,dC,aL];rw[qe];refine⟨aq,aq,aq,aq,?_⟩
 refine au (fun k:Nat=>⟨[(7,.own 225 0 (b++le x k).length (b++le x k).length),(8,.d (.int .u64 ((ej (8*k) x:Nat):Int))),(21,.d (.int .i64 (n:Int))),(22,.d (.int .i64 (k:Int)))],[(225,⟨5,1,rb (b++le x k)⟩)],545⟩)
  (fun k=>k≤n) (fun k=>n-k) 0 aq (by
   simp[av,ah,fv,lk,AV.low,AV.low1,le,ej]
   exact aT _ _) ?_
 intro k m;have o:(b++le x k).length=b.length+k:=by rw[b_,aO]
 have i:rb (b++le x k)++[[AV.d (.int .u8 ((t8 (ej (8*k) x):Nat):Int))]]=rb (b++le x (k+1)):=by rw[hJ,cA];rfl
 have f:=az (k:=k) aq;simp only[go_sem,Nat.reduceEqDiff,Nat.reduceAdd,Nat.reduceLT,↓reduceIte];refine⟨fun h=>?_,fun h=>?_⟩
 ·simp[go_sem,fE,aL,i,aO,IntKind.bits,CC,vI,f];refine⟨aq,?_⟩;refine am (k+1) aq aq ?_;simp[av,ah,fv,lk,AV.low,AV.low1,aO];exact⟨aq,aT _ _⟩
 ·have c:k=n:=aq;subst c;simp[go_sem,ai]
theorem Qv(a:Nat):IntKind.u16.wrap (a:Int)=((LJ a:Nat):Int):=by
 have:IntKind.u16.wrap (a:Int)=(a:Int)%65536:=by simp[IntKind.wrap,IntKind.bits,IntKind.signed]
 rw[this];unfold LJ;omega
theorem nQ(b:List Nat)(n:Nat)(i:b.length≤100000)(j:n<4294967296):c7 Tryz.prog 109 0 [] [.d (nb b),.d (.int .u64 (n:Int))] (fun r a=>∃I,r=.own I 0 (b++ax n).length (b++ax n).length∧lk I a=some ⟨5,1,rb (b++ax n)⟩):=by
 refine aB Tryz.func109 (by kernel_rfl) rfl Tryz.ntmps109 (rs:=[.tmp 4]) rfl (fD rfl) (by decide) ?_;by_cases g:n<253
 ·have e:ax n=le (t8 n) 1:=by unfold ax;rw[if_pos g]
  rw[e];have f:(n:Int)<253:=aq;simp[go_sem,f,fE];refine aZ [] (LK b (t8 n) 1 aq (by unfold t8;omega) aq) rfl aw aw aw (by simp[AV.renL,AV.ren]) ?_;rintro r a⟨rfl,c⟩;refine⟨[(225,0)],rfl,?_⟩;simp[go_sem,bZ,bF,c,Blk.ren,aS,dD,AV.renL,AV.ren,bX,ai]
 ·have f:¬(n:Int)<253:=aq;by_cases h:n<65536
  ·have e:ax n=le 253 1++le (LJ n) 2:=by unfold ax;rw[if_neg g,if_pos h]
   have i2:(n:Int)<65536:=aq;rw[e,←cA];simp[go_sem,f,i2,-List.append_assoc];refine ag (G9 b 253 1 aq aq aq) a9 ?_;simp[go_sem,Qv,-List.append_assoc];refine aZ [] (IU (b++le 253 1) (LJ n) 2 (by rw[b_,aO];omega) (by unfold LJ;omega) aq) rfl aw aw aw (by simp[AV.renL,AV.ren]) ?_;rintro r a⟨rfl,c⟩;refine⟨[(225,0)],rfl,?_⟩;simp[go_sem,bZ,bF,c,Blk.ren,aS,dD,AV.renL,AV.ren,bX,ai];omega
  ·have e:ax n=le 254 1++le (yn n) 4:=by unfold ax;rw[if_neg g,if_neg h]
   have i2:¬(n:Int)<65536:=aq;have i3:(n:Int)<4294967296:=aq;rw[e,←cA];simp[go_sem,f,i2,i3,-List.append_assoc];refine ag (G9 b 254 1 aq aq aq) a9 ?_;simp[go_sem,B8,-List.append_assoc];refine aZ [] (yA (b++le 254 1) (yn n) 4 (by rw[b_,aO];omega) (by unfold yn;omega) aq) rfl aw aw aw (by simp[AV.renL,AV.ren]) ?_;rintro r a⟨rfl,c⟩;refine⟨[(225,0)],rfl,?_⟩;simp[go_sem,bZ,bF,c,Blk.ren,aS,dD,AV.renL,AV.ren,bX,ai];omega
theorem fY(b x:List Nat)(f:b.length≤100000)(g:x.length<1000000):ap Tryz.prog 63 [.d (nb b),.d (nb x)] (fun r=>r=.d (nb (b++(ax x.length++x)))):=by
 refine bz Tryz.func63 Tryz.ntmps63 (rs:=[.tmp 4]) a9 ?_;have w:IntKind.u64.wrap (x.length:Int)=(x.length:Int):=by rw[ij];omega
 have a:=cj x.length;simp only[go_sem,Nat.reduceEqDiff,Nat.reduceAdd,Nat.reduceLT,↓reduceIte,nb,List.length_map,w];refine aZ [] (nQ b x.length aq aq) rfl aw aw aw (by simp[AV.renL,AV.ren,nb]) ?_;rintro r e⟨I,rfl,c⟩;refine⟨[(I,0)],by simp[dp,ii],?_⟩;simp[go_sem,bZ,bF,c,Blk.ren,aS,dD,AV.renL,AV.ren,bX,dC,aL,ai];refine⟨aq,?_⟩;rw[kL,show b.length+(ax x.length).length+x.length=(b++ax x.length++x).length by simp;omega];exact jj rfl (by simp[nb])
theorem lq(x:List Nat)(f:x.length≤100000):ap Tryz.prog 93 [.d (nb x)] (fun r=>r=.agg (cb (eH [84,97,112,76,101,97,102] (192::(ax x.length++x))))):=by
 refine bz Tryz.func93 Tryz.ntmps93 (rs:=[.cell 2 29]) a9 ?_;have c:=cj x.length;simp[go_sem]
 have e:∀(a:Hp),lk 32 a=some ⟨5,1,rb [192]⟩→SnapD a (fun id=>id∈[32]) (.own 32 0 1 1) (nb [192]):=fun a h=>by
  have:=ry (I:=fun id=>id∈[32]) (i0:=0) (n:=1) (L:=[192]) h aw aw;exact this
 refine bn [32] (fY [192] x aw aq) rfl (ak (.one (ao (e _ rfl))) (ak (.deep a9) aC)) ?_;simp[go_sem,aN];refine ag (gk [84,97,112,76,101,97,102] (.str [84,97,112,76,101,97,102]) rfl (192::(ax x.length++x)) aw (by simp;omega)) a9 ?_;have b:(eH [84,97,112,76,101,97,102] (192::(ax x.length++x))).length=32:=bo _;generalize eH [84,97,112,76,101,97,102] (192::(ax x.length++x))=R at *;simp[go_sem,ai,b,al b,bK];exact ae (by simp[AV.deep];exact aW _) rfl
def mL(a:List Nat):List UInt8:=Lib.bytesOf (a.map fun(x:Nat)=>(x:Int))
theorem yB{P:Program}{w:World}{S:Nat→Prop}{σ:Nat→Option Nat}{hp:Hp}{U:Nat→Prop}{a:List Nat}{x:Value}(h:AIs w S σ hp U (.d (nb a)) x):(Extern.Bytes.bytesOf x).run P w=.ok ⟨(mL a).toArray⟩ w:=by
 cases h with
 | d h =>
  unfold nb at h;generalize e:(a.map fun(b:Nat)=>[DV.int .u8 (b:Int)])=es at h;cases h with
  | ro _ _ A c vs hc he hA hv hd =>
   have f:es.length=a.length:=(by rw[←e,List.length_map]);cases A with
   | none =>
    have:a=[]:=by
     cases a with
     |nil=>rfl
     |cons y r =>
      obtain⟨ad,g,_⟩:=hA [DV.int .u8 (y:Int)] (by rw[←e];simp);cases g
    subst this;simp[Extern.Bytes.bytesOf,mL,Lib.bytesOf];rfl
   | some ad =>
    have l:=Lib.run_loadBytesX (P:=P) w (a.map fun(x:Nat)=>(x:Int)) ad .empty (fun j y k=>by
     simp only[cU,Option.map_eq_some_iff]at k;obtain⟨z,n,rfl⟩:=k;have g:es[j]?=some [DV.int .u8 (z:Int)]:=by rw[←e,cU,n];rfl
     have m:=hv ad rfl j 0 _ _ g rfl;have i:=hd j 0 _ _ g rfl;rw[Nat.mul_one,Nat.add_zero]at m;rw[m];generalize vs j 0=u at i;cases i
     rfl)
    rw[List.length_map]at l;show(Extern.Bytes.loadBytes ad es.length .empty).run P w=_;rw[f,l];congr 2;simp[mL]
theorem Qw(a b:List Nat):qM Tryz.prog 205 [.d (nb a),.d (nb b)] (.d (.int .i64 (Lib.compareBytes (mL a) (mL b)))):=by
 intro w S σ j U f i c
 match f,i with
 | [x,y],_ =>
  have g:=yB (P:=Tryz.prog) (c 0 _ x rfl rfl);have h:=yB (P:=Tryz.prog) (c 1 _ y rfl rfl);refine⟨.int .i64 (Lib.compareBytes (mL a) (mL b)),?_,.d (.int _ _)⟩;have hc:(Extern.BytealgCompare.compare #[x,y]).run Tryz.prog w=.ok (.int .i64 (Lib.compareBytes (mL a) (mL b))) w:=by
   change Sem.run Tryz.prog (do pure (goInt (Extern.BytealgCompare.cmp (←Extern.Bytes.bytesOf x) (←Extern.Bytes.bytesOf y)))) w=_;simp only[Sem.run_bind,g,h,Result.andThen_ok,Sem.run_pure,Lib.cmp_eq];rfl
  rw[run_callFunc_extern Tryz.func205 (by kernel_rfl) (by kernel_rfl) (by kernel_rfl) (e:=Extern.BytealgCompare.compare) (by kernel_rfl),hc];rfl
theorem E5(a b:List Nat):ap Tryz.prog 177 [.d (nb a),.d (nb b)] (fun r=>r=.d (.int .i64 (Lib.compareBytes (mL a) (mL b)))):=by
 refine bz Tryz.func177 Tryz.ntmps177 (rs:=[.tmp 4]) a9 ?_;simp only[go_sem,Nat.reduceEqDiff,Nat.reduceAdd,Nat.reduceLT,↓reduceIte];refine sQ (Qw a b) ?_;simp[go_sem,ai];exact ae a9 rfl
def eP:List Nat:=[84,97,112,66,114,97,110,99,104]
def cq(a b:List Nat):List Nat:=eH eP (if 0<Lib.compareBytes (mL a) (mL b)then b++a else a++b)
theorem CE{hp:Hp}{I:Nat→Prop}{id:Nat}{L:List Nat}(c:L.length=64)(a:lk id hp=some ⟨5,1,rb L⟩)(b:I id):SnapD hp I (.own id 0 64 64) (nb L):=by
 have h:=ry (i0:=0) (n:=64) (L:=L) a b aq;rw[List.drop_zero,cx aq,c]at h;exact h
theorem yC(a b:List Nat)(g:a.length=32)(f:b.length=32):ap Tryz.prog 153 [.agg (cb a),.agg (cb b)] (fun r=>r=.agg (cb (cq a b))):=by
 refine bz Tryz.func153 Tryz.ntmps153 (rs:=[.cell 4 29]) (by simp[AV.deep];exact⟨aW _,aW _⟩) ?_;simp[go_sem,g,f];refine cG [0,1] [(2,[3])] 1 (k:=4) ?_;intro G e;simp[go_sem];refine jx (E5 a b) rfl (ak (.one (ao (dE rfl trivial g))) (ak (.one (ao (dE rfl trivial f))) aC)) trivial ?_;simp[go_sem];refine e _ _ ?_;clear e G;by_cases hc:0<Lib.compareBytes (mL a) (mL b)
 ·have h:List.drop 32 (cb a)=[]:=c_ (by rw[aj];omega);have j:List.drop 32 (cb b)=[]:=c_ (by rw[aj];omega);simp[go_sem,hc,g,f,h,j,al g,al f];refine cG [0,1] [(2,[]),(3,[]),(4,[])] 0 (k:=5) ?_;intro G e;have c:=iP f;have d:=iP g;rw[dC]at c d;simp[go_sem]at c d;have m:(b++a).length=64:=by rw[b_];omega
  simp[go_sem];refine bn [416] (gk eP (.str [84,97,112,66,114,97,110,99,104]) rfl (b++a) (by simp[eP]) aq) rfl (ak (.deep a9) (ak (.one (ao (CE (L:=b++a) m (by simp[lk];rw[←kL,←c,←d];rfl) aw))) aC)) ?_;have l:cq a b=eH eP (b++a):=by unfold cq;rw[if_pos hc]
  rw[l]at e;have i:(eH eP (b++a)).length=32:=bo _;generalize eH eP (b++a)=R at *;simp[go_sem,aN,i];refine e _ _ ?_;clear e G;simp[go_sem,ai,i,al i,bK];exact ae (by simp[AV.deep];exact aW _) rfl
 ·have h:List.drop 32 (cb a)=[]:=c_ (by rw[aj];omega);have j:List.drop 32 (cb b)=[]:=c_ (by rw[aj];omega);simp[go_sem,hc,g,f,h,j,al g,al f];refine cG [0,1] [(2,[]),(3,[]),(4,[])] 0 (k:=5) ?_;intro G e;have c:=iP g;have d:=iP f;rw[dC]at c d;simp[go_sem]at c d;have m:(a++b).length=64:=by rw[b_];omega
  simp[go_sem];refine bn [288] (gk eP (.str [84,97,112,66,114,97,110,99,104]) rfl (a++b) (by simp[eP]) aq) rfl (ak (.deep a9) (ak (.one (ao (CE (L:=a++b) m (by simp[lk];rw[←kL,←c,←d];rfl) aw))) aC)) ?_;have l:cq a b=eH eP (a++b):=by unfold cq;rw[if_neg hc]
  rw[l]at e;have i:(eH eP (a++b)).length=32:=bo _;generalize eH eP (a++b)=R at *;simp[go_sem,aN,i];refine e _ _ ?_;clear e G;simp[go_sem,ai,i,al i,bK];exact ae (by simp[AV.deep];exact aW _) rfl
def cd(l:List Nat):List DV:=l.map fun(x:Nat)=>DV.int .u8 (x:Int)
theorem bV(l:List Nat):(cd l).length=l.length:=by simp[cd]
theorem cQ(l:List Nat):(cd l).map AV.d=cb l:=by simp[cd,cb]
def bS(a:List (List Nat)):DV:=.ro 32 (a.map cd)
def ar(inner:List Nat)(b a:AV):List AV:=cb inner++[b,a]
def jd(a:List (List Nat))(h:List Nat):List Nat:=a.foldl cq h
def Qx:List Nat:=[84,97,112,76,101,97,102]
def db(x:List Nat):List Nat:=eH Qx (192::(ax x.length++x))
theorem kt(x:List Nat):(db x).length=32:=bo _
theorem iC(a b:List Nat):(cq a b).length=32:=bo _
theorem Zq:fK Tryz.prog 33=some (ar z32 .nil .nil):=by kernel_rfl
attribute [go_sem] Zq
theorem fg{l:List Nat}(h:l.length=32):List.drop 32 (cb l)=[]:=c_ (by rw[aj];omega)
theorem iQ{inner:List Nat}(hi:inner.length=32)(a b:AV):(cb inner++[a,b])[32]?=some a:=by
 rw[dn (by rw[aj];omega),aj,hi];rfl
theorem kM{inner:List Nat}(hi:inner.length=32)(a b:AV):(cb inner++[a,b])[33]?=some b:=by
 rw[dn (by rw[aj];omega),aj,hi];rfl
theorem E6{a:List (List Nat)}{k:Nat}{p h:List Nat}(c:a[k]?=some p):jd (a.drop k) h=jd (a.drop (k+1)) (cq h p):=by
 obtain⟨b,d⟩:=ci.1 c;unfold jd;rw[List.drop_eq_getElem_cons b,List.foldl_cons,d]
theorem Qy(inner:List Nat)(a:List (List Nat))(x:List Nat)(hi:inner.length=32)(g:∀p,p∈a→p.length=32)(u:a.length≤1000)(q:x.length≤100000) :
  ap Tryz.prog 137 [.agg (ar inner (.d (bS a)) (.d (nb x)))] (fun r=>r=.agg (cb (jd a (db x)))):=by
 refine bz Tryz.func137 Tryz.ntmps137 (rs:=[.cell 2 29]) (by
  simp[AV.deep,ar];intro c hc;rcases hc with hc|rfl|rfl;exact aW _ _ hc;trivial
  trivial) ?_
 simp[go_sem,ar,kM hi];refine ag (lq x q) a9 ?_;have n:(eH [84,97,112,76,101,97,102] (192::(ax x.length++x))).length=32:=bo _;have o:jd a (db x)=jd (a.drop 0) (eH [84,97,112,76,101,97,102] (192::(ax x.length++x))):=by rw[List.drop_zero];rfl
 rw[o];generalize eH [84,97,112,76,101,97,102] (192::(ax x.length++x))=R at *;generalize z:jd (a.drop 0) R=T;clear o;simp[go_sem,iQ hi,bS,n,al n,bK]
 refine au (fun t:Nat×List Nat=>⟨[(2,.ptr 32 0 0 1),(3,.ptr 160 0 0 1),(10,.d (bS a)),(11,.d (.int .i64 (a.length:Int))),(12,.d (.int .i64 (t.1:Int)))],[(32,⟨29,32,[cb z32]⟩),(160,⟨29,32,[cb t.2]⟩)],1000⟩)
  (fun t=>t.1≤a.length∧t.2.length=32∧jd (a.drop t.1) t.2=T) (fun t=>a.length-t.1) (0,R) ⟨aq,n,z⟩ (by
   simp[av,ah,fv,lk,AV.low,AV.low1,bS]
   exact⟨aE _ _,aE _ _⟩) ?_
 rintro⟨k,h⟩⟨s,e,b⟩;simp only at s e b;simp only[go_sem,Nat.reduceEqDiff,Nat.reduceAdd,Nat.reduceLT,↓reduceIte];refine⟨fun v=>?_,fun y=>?_⟩
 ·have i:k<a.length:=aq;have j:=cm i;generalize a[k]=p at j;have f:p.length=32:=g p (cr j);rw[E6 j]at b;simp[go_sem,bS,j,bV,f,cQ,al f,aj,e,al e,bK];refine ag (yC h p e f) (by simp[AV.deep];exact⟨aW _,aW _⟩) ?_;have m:=iC h p;generalize cq h p=B at *;simp[go_sem,aj,m,e,al m,fg e];refine am (k+1,B) ⟨aq,m,b⟩ aq ?_;have w:=az (k:=k) aq;simp[av,ah,fv,lk,AV.low,AV.low1,bS,w];exact⟨aE _ _,aE _ _⟩
 ·have l:k=a.length:=aq;subst l;have:T=h:=by rw[←b,List.drop_length];rfl
  subst this;simp[go_sem,ai,e,al e,bK];exact ae (by simp[AV.deep];exact aW _) rfl
theorem LL(k:List Nat)(a:k.length=32):ap Tryz.prog 76 [.d (nb (81::32::k))] (fun r=>r=.tup [.agg (cb k),.d (.bool true)]):=by
 refine bz Tryz.func76 Tryz.ntmps76 (rs:=[.cell 2 29,.tmp 3]) a9 ?_;have c:List.take 32 (List.map (fun(b:Nat)=>[DV.int .u8 (b:Int)]) k)=List.map (fun(b:Nat)=>[DV.int .u8 (b:Int)]) k:=cx (by simp[a]);have e:(List.map (fun(b:Nat)=>[DV.int .u8 (b:Int)]) k).flatten=cd k:=by
  clear a c
  induction k with
  |nil=>rfl
  |cons x r ih=>simp only[List.map_cons,List.flatten_cons,ih];rfl
 simp[go_sem,nb,a,c,e,-List.map_flatten,-List.length_flatten,cQ,bV,aj,al a,bK,ai];exact ae (by simp[AV.deep,AV.deep1];exact aW _) rfl
end Go.Proofs.YtmfnimjnneflnaaGreat
namespace Go.Sha
def uj{α:Type}:Nat→(Nat→α)→α
 |0,k=>k 0
 |n+1,k=>k (n+1)
theorem kN{α:Type}(n:Nat)(k:Nat→α):uj n k=k n:=by cases n<;>rfl
def rdF{α:Type}(s:S8)(k w:Nat)(C:S8→α):α:=uj (T1 s k w) fun t=>uj (lT t (T2 s)) fun x=>uj (lT s.d t) fun y=>C ⟨x,s.a,s.b,s.c,y,s.e,s.f,s.g⟩
theorem VI{α:Type}(s:S8)(k w:Nat)(C:S8→α):rdF s k w C=C (rd s k w):=by simp only[rdF,kN,rd]
def vJ{α:Type}:List Nat→List Nat→S8→(S8→α)→α
 |k::ks,w::ws,s,C=>rdF s k w fun a=>vJ ks ws a C
 |_,_,s,C=>C s
theorem CG{α:Type}:∀(a b:List Nat)(s:S8)(C:S8→α),vJ a b s C=C ((a.zip b).foldl G2 s)
 |[],_,s,C=>by simp[vJ]
 |k::a,[],s,C=>by simp[vJ]
 |k::a,w::b,s,C=>by simp only[vJ,VI,CG a b,List.zip_cons_cons,List.foldl_cons];rfl
def CH{α:Type}:List Nat→(List Nat→α)→α
 |[],C=>C []
 |x::r,C=>uj x fun y=>CH r fun q=>C (y::q)
theorem vK{α:Type}:∀(l:List Nat)(C:List Nat→α),CH l C=C l
 |[],C=>rfl
 |x::r,C=>by simp only[CH,kN,vK r]
def wxR(l:List Nat):Nat :=
 lT (lT (lT (l.getD 15 0) (nO (nO (pY 25 (l.getD 14 0)) (pY 14 (l.getD 14 0))) (ej 3 (l.getD 14 0)))) (l.getD 6 0)) (nO (nO (pY 15 (l.getD 1 0)) (pY 13 (l.getD 1 0))) (ej 10 (l.getD 1 0)))
theorem rB(w:List Nat)(i:Nat)(h:i<w.length):w.reverse.getD i 0=w.getD (w.length-1-i) 0:=by
 rw[cR,cR,List.getElem?_reverse h]
theorem VJ(w:List Nat)(h:16≤w.length):wxR w.reverse=wx w:=by
 unfold wxR wx;rw[rB w 15 aq,rB w 14 aq,rB w 6 aq,rB w 1 aq];rw[show w.length-1-15=w.length-16 by omega,show w.length-1-14=w.length-15 by omega,show w.length-1-6=w.length-7 by omega,show w.length-1-1=w.length-2 by omega]
def Qz{α:Type}:Nat→List Nat→(List Nat→α)→α
 |0,l,C=>C l
 |n+1,l,C=>uj (wxR l) fun x=>Qz n (x::l) C
theorem Ha{α:Type}(b:List Nat):∀(n m:Nat)(C:List Nat→α),Qz n (dr b m).reverse C=C (dr b (m+n)).reverse
 |0,m,C=>rfl
 | n+1,m,C=>by
  have h:wxR (dr b m).reverse::(dr b m).reverse=(dr b (m+1)).reverse:=by
   rw[VJ _ (by rw[oN];omega)];simp[dr]
  simp only[Qz,kN,h];rw[Ha b n (m+1) C,show m+1+n=m+(n+1)by omega]
def LM{α:Type}(s:S8)(b:List Nat)(C:S8→α):α :=
 CH (iM b 16) fun q=>Qz 48 q.reverse fun l=>vJ K l.reverse s fun v=>C (B9 s v)
theorem LN{α:Type}(s:S8)(b:List Nat)(C:S8→α):LM s b C=C (take s b):=by
 unfold LM;rw[vK];have:=Ha b 48 0 (fun l=>vJ K l.reverse s fun v=>C (B9 s v));simp only[dr,Nat.zero_add]at this;rw[this,List.reverse_reverse,CG];rfl
def stB:S8:=⟨2631984358,2081516601,951306994,3272560777,3555955564,1197698656,2108899050,3720802505⟩
def pE:S8:=⟨2824544519,4153520746,2229753964,684640203,1629499091,3491316952,844107574,931321461⟩
end Go.Sha
namespace Go.Proofs.YtmfnimjnneflnaaGreat
open Go.Am Go.Sha
theorem Ad(l:List Nat):cn .u8 (cb l)=some (l.map fun(x:Nat)=>(x:Int)):=by
 have:=BW .u8 (l.map fun(x:Nat)=>(x:Int));rw[List.map_map]at this;exact this
theorem vM{a b:List Nat}:(a.map fun(x:Nat)=>(x:Int))=b.map (fun(x:Nat)=>(x:Int))↔a=b:=by
 constructor;intro h;have:=congrArg (List.map Int.toNat) h;simpa[List.map_map,Function.comp_def]using this;rintro rfl;rfl
theorem yD{hp:Hp}{I:Nat→Prop}{a a':List AV}:∀(l:List AV),(∀c,c∈l→c.deep1)→(∀(i:Nat)(c b:AV),a[i]?=some c→a'[i]?=some b→fx hp I c b)→∀(i:Nat)(c b:AV),(l++a)[i]?=some c→(l++a')[i]?=some b→fx hp I c b
 |[],_,h=>h
 |x::l,hl,h=>ay (aM (hl x (dz ..))) (yD l (fun c hc=>hl c (cS _ hc)) h)
theorem vO:∀(x y:List UInt8),(0<Lib.compareBytes x y↔Lib.compareBytes y x<0)∧(Lib.compareBytes x y=0→x=y)
 |[],[]=>by simp[Lib.compareBytes]
 |[],_::_=>by simp[Lib.compareBytes]
 |_::_,[]=>by simp[Lib.compareBytes]
 | a :: x,b :: y=>by
  have e:=vO x y;simp only[Lib.compareBytes];by_cases c:a<b;have d:¬b<a:=fun h=>by
   have:=UInt8.lt_iff_toNat_lt.1 h;have:=UInt8.lt_iff_toNat_lt.1 c;omega
  simp[c,d];by_cases d:b<a;simp[c,d];have:a=b:=UInt8.toNat_inj.1 (by
   have g:¬a.toNat<b.toNat:=fun h=>c (UInt8.lt_iff_toNat_lt.2 h);have f:¬b.toNat<a.toNat:=fun h=>d (UInt8.lt_iff_toNat_lt.2 h)
   omega)
  subst this;simp only[c,if_false];exact⟨e.1,fun h=>by rw[e.2 h]⟩
def bytes(l:List Nat):Prop:=∀x,x∈l→x<256
theorem He:∀{a b:List Nat},bytes a→bytes b→mL a=mL b→a=b
 |[],[],_,_,_=>rfl
 |[],_::_,_,_,h=>by simp[mL,Lib.bytesOf]at h
 |_::_,[],_,_,h=>by simp[mL,Lib.bytesOf]at h
 | x :: a,y :: b,ha,hb,h=>by
  have g:=ha x (dz ..);have i:=hb y (dz ..);simp[mL,Lib.bytesOf]at h;obtain⟨d,f⟩:=h;have:=He (fun z c=>ha z (cS _ c)) (fun z c=>hb z (cS _ c)) (by simpa[mL,Lib.bytesOf]using f);have e:x=y:=by
   have:=congrArg UInt8.toNat d;rw[UInt8.toNat_ofNat',UInt8.toNat_ofNat',Nat.mod_eq_of_lt aq,Nat.mod_eq_of_lt aq]at this;exact this
  rw[this,e]
theorem Ae{a b:List Nat}(g:bytes a)(d:bytes b):cq a b=cq b a:=by
 unfold cq;obtain⟨e,i⟩:=vO (mL a) (mL b);obtain⟨f,k⟩:=vO (mL b) (mL a);by_cases c:0<Lib.compareBytes (mL a) (mL b);have c2:¬ 0<Lib.compareBytes (mL b) (mL a):=by have:=e.1 c;omega
 rw[if_pos c,if_neg c2];by_cases c2:0<Lib.compareBytes (mL b) (mL a);rw[if_neg c,if_pos c2];have j:Lib.compareBytes (mL a) (mL b)=0:=by
  have:¬Lib.compareBytes (mL a) (mL b)<0:=fun h=>c2 (f.2 h);omega
 have:=He g d (i j);subst this;rfl
theorem dc(l:List Nat):(AV.agg (cb l)).deep:=aW l
theorem CJ{n:Nat}:∀(m:Nat){c:List DV},B6 (jh Tryz.prog (n+1)) Tryz.prog.cellsOf (List.replicate m 5) c→∃l:List Nat,c=cd l∧l.length=m∧bytes l
 |0,c,h=>⟨[],by simpa[B6,cd]using h,rfl,fun _ h=>by simp at h⟩
 | m+1,c,h=>by
  rw[List.replicate_succ]at h;obtain⟨a,b,rfl,_,e,i⟩:=h;simp only[jh,Tryz.underlying5]at e;obtain⟨x,rfl,k⟩:=e;obtain⟨l,rfl,g,f⟩:=CJ m i;have j:0≤x∧x<256:=by simp[IntKind.has,IntKind.min,IntKind.max,IntKind.signed,IntKind.bits]at k;omega
  refine⟨x.toNat::l,?_,by simp[g],fun y d=>?_⟩;simp only[cd,List.map_cons,List.cons_append,List.nil_append];rw[show((x.toNat:Nat):Int)=x by omega];rcases d_.1 d with rfl|d;omega;exact f y d
theorem E7{n:Nat}{a:List DV}(h:jh Tryz.prog (n+2) 29 a):∃l:List Nat,a=cd l∧l.length=32∧bytes l:=by
 rw[jh]at h;simp only[Tryz.underlying29]at h;exact CJ 32 h
theorem vP{n:Nat}{d:DV}(h:jh Tryz.prog (n+2) 31 [d]):∃a:List Nat,d=nb a∧a.length≤maxLen∧bytes a:=by
 simp only[jh,Tryz.underlying31,List.cons.injEq,and_true]at h;obtain⟨es,rfl,k,j⟩:=h;obtain⟨a,rfl,c⟩:=vC (enc:=fun b:Nat=>[DV.int .u8 (b:Int)]) (R:=fun b=>b<256) (es:=es) (fun r e=>by
  obtain⟨f,l⟩:=j r e;simp only[Tryz.underlying5]at f;obtain⟨x,rfl,i⟩:=f;have g:0≤x∧x<256:=by simp[IntKind.has,IntKind.min,IntKind.max,IntKind.signed,IntKind.bits]at i;omega
  exact⟨x.toNat,by rw[show((x.toNat:Nat):Int)=x by omega],aq⟩)
 exact⟨a,by rw[show Tryz.prog.cellsOf 5=1 by kernel_rfl];rfl,by simpa using k,c⟩
end Go.Proofs.YtmfnimjnneflnaaGreat
namespace Go.Sha
open Go.Am
theorem yE{a:List Nat}(b:a.length%64=0):∀(n:Nat)(l:List Nat),Go.Proofs.YtmfnimjnneflnaaGreat.padTo n (a++l)=a++Go.Proofs.YtmfnimjnneflnaaGreat.padTo n l
 |0,l=>rfl
 |n+1,l=>by
  unfold Go.Proofs.YtmfnimjnneflnaaGreat.padTo;have:(a++l).length%64=l.length%64:=by rw[b_];omega
  rw[this];split;rfl;rw[cA];exact yE b n (l++[0])
theorem E8{a l:List Nat}(b:a.length%64=0)(n:Nat):Go.Proofs.YtmfnimjnneflnaaGreat.lastOf (a++l) n=a++Go.Proofs.YtmfnimjnneflnaaGreat.lastOf l n:=by
 unfold Go.Proofs.YtmfnimjnneflnaaGreat.lastOf;rw[cA,yE b,cA]
theorem LO(n:Nat):∀(k:Nat)(s:S8)(b:List Nat),b.length≤k→E s (Go.Proofs.YtmfnimjnneflnaaGreat.lastOf b n)=E (E s b).1 (Go.Proofs.YtmfnimjnneflnaaGreat.lastOf (E s b).2 n)
 |0,s,b,h=>by rw[qd (b:=b) aq]
 | k+1,s,b,h=>by
  by_cases a:64≤b.length;rw[sU (b:=b) a];have e:Go.Proofs.YtmfnimjnneflnaaGreat.lastOf b n=b.take 64++Go.Proofs.YtmfnimjnneflnaaGreat.lastOf (b.drop 64) n:=by
   rw[←E8 (by rw[List.length_take];omega),List.take_append_drop]
  have c:64≤(b.take 64++Go.Proofs.YtmfnimjnneflnaaGreat.lastOf (b.drop 64) n).length:=by simp;omega
  rw[e,sU c];have d:(b.take 64).length=64:=by rw[List.length_take];omega
  rw[List.take_append_of_le_length aq,List.drop_append_of_le_length aq,cx (by omega:(b.take 64).length≤64),c_ aq,List.nil_append];exact LO n k _ _ (by rw[et];omega);rw[qd (b:=b) aq]
end Go.Sha
namespace Go.Proofs.YtmfnimjnneflnaaGreat
open Go.Am Go.Sha
theorem four{b:List Nat}{k:Nat}(h:k+4≤b.length):∃x0 x1 x2 x3,b[k]?=some x0∧b[k+1]?=some x1∧b[k+2]?=some x2∧b[k+3]?=some x3∧(b.take (k+4)).drop k=[x0,x1,x2,x3]:=by
 refine⟨b[k],b[k+1],b[k+2],b[k+3],cm _,cm _,cm _,cm _,?_⟩;rw[List.drop_take,show k+4-k=4 by omega,List.drop_eq_getElem_cons (by omega:k<b.length),List.drop_eq_getElem_cons (by omega:k+1<b.length),List.drop_eq_getElem_cons (by omega:k+1+1<b.length),List.drop_eq_getElem_cons (by omega:k+1+1+1<b.length)];rfl
end Go.Proofs.YtmfnimjnneflnaaGreat
namespace Go.Sha
theorem rC(x:Nat):t8 x<256:=Nat.mod_lt _ (by decide)
theorem yF(l:List Nat):∀n x,x∈pre l n→x<256
 |0,x,h=>by simp[pre]at h
 |n+1,x,h=>by
  rcases cD.1 h with h|h;exact yF l n x h;simp[Ac]at h;rcases h with rfl|rfl|rfl|rfl<;>exact rC _
theorem ik(b:List Nat):∀x,x∈b7 b→x<256:=fun x h=>yF _ 8 x h
end Go.Sha
namespace Go.Proofs.YtmfnimjnneflnaaGreat
open Go.Am Go.Sha
theorem bm{hp:Hp}{I:Nat→Prop}{id n:Nat}{L:List Nat}(c:L.length=n)(a:lk id hp=some ⟨5,1,rb L⟩)(b:I id):SnapD hp I (.own id 0 n n) (nb L):=by
 subst c;have h:=ry (i0:=0) (n:=L.length) (L:=L) a b aq;rw[List.drop_zero,cx (cL _)]at h;exact h
end Go.Proofs.YtmfnimjnneflnaaGreat
namespace Go.Sha
theorem Zr(a:Nat):t8 (t8 a)=t8 a:=by unfold t8;omega
theorem Zs(n:Nat):le (t8 n) 1=le n 1:=by simp[le,ej,Zr]
theorem VK(n:Nat):le (LJ n) 2=le n 2:=by
 have a:t8 (ej (8*0) (LJ n))=t8 (ej (8*0) n):=by simp only[t8,ej,LJ];omega
 have b:t8 (ej (8*1) (LJ n))=t8 (ej (8*1) n):=by simp only[t8,ej,LJ];omega
 simp only[le,a,b]
theorem VL(n:Nat):le (yn n) 4=le n 4:=by
 have d:t8 (ej (8*0) (yn n))=t8 (ej (8*0) n):=by simp only[t8,ej,yn];omega
 have c:t8 (ej (8*1) (yn n))=t8 (ej (8*1) n):=by simp only[t8,ej,yn];omega
 have a:t8 (ej (8*2) (yn n))=t8 (ej (8*2) n):=by simp only[t8,ej,yn];omega
 have b:t8 (ej (8*3) (yn n))=t8 (ej (8*3) n):=by simp only[t8,ej,yn];omega
 simp only[le,d,c,a,b]
end Go.Sha
namespace Go.Proofs.YtmfnimjnneflnaaGreat
open Go.Am Go.Sha
theorem lZ(b:List Nat)(x n:Nat)(m:Int)(o:m=(n:Int))(v:b.length≤10000000000)(e:x<18446744073709551616)(t:n≤8):c7 Tryz.prog 174 0 [] [.d (nb b),.d (.int .u64 (x:Int)),.d (.int .i64 m)] (fun r a=>r=.own 33 0 (b++le x n).length (b++le x n).length∧lk 33 a=some ⟨5,1,rb (b++le x n)⟩):=by
 subst o;refine aB Tryz.func174 (by kernel_rfl) rfl Tryz.ntmps174 (rs:=[.tmp 6]) rfl (fD rfl) (by decide) ?_;simp[go_sem,nb,dC,aL];refine⟨aq,?_⟩
 refine au (fun k:Nat=>⟨[(1,.d (.int .u64 ((ej (8*k) x:Nat):Int))),(2,.d (.int .i64 (n:Int))),(7,.own 33 0 (b++le x k).length (b++le x k).length),(8,.d (.int .i64 (k:Int)))],[(33,⟨5,1,rb (b++le x k)⟩)],300⟩)
  (fun k=>k≤n) (fun k=>n-k) 0 aq (by
   simp[av,ah,fv,lk,AV.low,AV.low1,le,ej]
   exact aT _ _) ?_
 intro k q;have u:(b++le x k).length=b.length+k:=by rw[b_,aO]
 have p:rb (b++le x k)++[[AV.d (.int .u8 ((t8 (ej (8*k) x):Nat):Int))]]=rb (b++le x (k+1)):=by rw[hJ,cA];rfl
 have g:ej (8*k) x<18446744073709551616:=Nat.lt_of_le_of_lt (Nat.div_le_self _ _) e;have j:IntKind.u64.wrap (Int.tdiv ((ej (8*k) x:Nat):Int) 256)=((ej (8*(k+1)) x:Nat):Int):=by
  have f:Int.tdiv ((ej (8*k) x:Nat):Int) 256=((ej (8*k) x/256:Nat):Int):=(Int.ofNat_tdiv _ 256).symm;have l:ej (8*k) x/256=ej (8*(k+1)) x:=by
   unfold ej;rw[Nat.div_div_eq_div_mul,show 2 ^ (8*k)*256=2 ^ (8*(k+1))by rw[show 8*(k+1)=8*k+8 by omega,Nat.pow_add]]
  have s:ej (8*k) x/256≤ej (8*k) x:=Nat.div_le_self _ _;rw[f,ij,←l];omega
 have i:=az (k:=k) aq;simp only[go_sem,Nat.reduceEqDiff,Nat.reduceAdd,Nat.reduceLT,↓reduceIte,Nat.reduceMul];refine⟨fun h=>?_,fun h=>?_⟩
 ·simp only[go_sem,Nat.reduceEqDiff,Nat.reduceAdd,Nat.reduceLT,↓reduceIte,fE,aL,p,aO,j,i];refine⟨aq,aq,by decide,?_⟩;refine am (k+1) aq aq ?_;simp[av,ah,fv,lk,AV.low,AV.low1,aO];exact⟨aq,aT _ _⟩
 ·have c:k=n:=aq;subst c;simp[go_sem,ai]
def vQ(L:List Nat)(r:AV)(a:Hp):Prop:=∃I,r=.own I 0 L.length L.length∧lk I a=some ⟨5,1,rb L⟩
theorem mf{g:FuncId}{args:List AV}{L:List Nat}(h:c7 Tryz.prog g 0 [] args (vQ L))(a:∀v,v∈args→v.deep):ap Tryz.prog g args (fun r=>r=.d (nb L)) :=
 IM h a fun r b⟨I,hr,hb⟩=>⟨.d (nb L),by subst hr;exact .one (ao (bm rfl hb trivial)),trivial,rfl⟩
theorem VM{g:FuncId}{k:Nat}{i:Hp}{args:List AV}{Q j:AV→Hp→Prop}(h:c7 Tryz.prog g k i args Q)(hq:∀r d,Q r d→j r d):c7 Tryz.prog g k i args j:=by
 obtain⟨o,l,q⟩:=h;refine⟨o,l,fun w S σ t a b c=>(q w S σ t a b c).mono fun e u p=>?_⟩;obtain⟨x,r,d,s,σ',n,m,f⟩:=p;exact⟨x,r,d,s,σ',n,hq r d m,f⟩
theorem rD(b:List Nat)(x n:Nat)(m:Int)(c:m=(n:Int))(a:b.length≤10000000000)(e:x<18446744073709551616)(f:n≤8):ap Tryz.prog 174 [.d (nb b),.d (.int .u64 (x:Int)),.d (.int .i64 m)] (fun r=>r=.d (nb (b++le x n))) :=
 mf (VM (lZ b x n m c a e f) fun r g h=>⟨33,h.1,h.2⟩) a9
theorem mM(b:List Nat)(n:Nat)(i:b.length≤1000000)(j:n<4294967296):c7 Tryz.prog 175 0 [] [.d (nb b),.d (.int .u64 (n:Int))] (vQ (b++ax n)):=by
 refine aB Tryz.func175 (by kernel_rfl) rfl Tryz.ntmps175 (rs:=[.tmp 4]) rfl (fD rfl) (by decide) ?_;by_cases g:n<253
 ·have e:ax n=le n 1:=by unfold ax;rw[if_pos g,Zs]
  rw[e];have f:(n:Int)<253:=aq;simp[go_sem,f];refine aZ [] (lZ b n 1 1 rfl aq aq aq) rfl aw aw aw (by simp[AV.renL,AV.ren]) ?_;rintro r a⟨rfl,c⟩;refine⟨[(33,0)],rfl,?_⟩;simp[go_sem,bZ,bF,c,Blk.ren,aS,dD,AV.renL,AV.ren,bX,ai,vQ]
 ·have f:¬(n:Int)<253:=aq;by_cases h:n<65536
  ·have e:ax n=le 253 1++le n 2:=by unfold ax;rw[if_neg g,if_pos h,VK]
   have i2:(n:Int)<65536:=aq;rw[e,←cA];simp[go_sem,f,i2,-List.append_assoc];refine ag (rD b 253 1 1 rfl aq aq aq) a9 ?_;simp[go_sem,-List.append_assoc];refine aZ [] (lZ (b++le 253 1) n 2 2 rfl (by rw[b_,aO];omega) aq aq) rfl aw aw aw (by simp[AV.renL,AV.ren]) ?_;rintro r a⟨rfl,c⟩;refine⟨[(33,0)],rfl,?_⟩;simp[go_sem,bZ,bF,c,Blk.ren,aS,dD,AV.renL,AV.ren,bX,ai,vQ,-List.append_assoc]
  ·have e:ax n=le 254 1++le n 4:=by unfold ax;rw[if_neg g,if_neg h,VL]
   have i2:¬(n:Int)<65536:=aq;have i3:(n:Int)<4294967296:=aq;rw[e,←cA];simp[go_sem,f,i2,i3,-List.append_assoc];refine ag (rD b 254 1 1 rfl aq aq aq) a9 ?_;simp[go_sem,-List.append_assoc];refine aZ [] (lZ (b++le 254 1) n 4 4 rfl (by rw[b_,aO];omega) aq aq) rfl aw aw aw (by simp[AV.renL,AV.ren]) ?_;rintro r a⟨rfl,c⟩;refine⟨[(33,0)],rfl,?_⟩;simp[go_sem,bZ,bF,c,Blk.ren,aS,dD,AV.renL,AV.ren,bX,ai,vQ,-List.append_assoc]
theorem xP(b x:List Nat)(f:b.length≤1000000)(g:x.length<1000000):c7 Tryz.prog 176 0 [] [.d (nb b),.d (nb x)] (vQ (b++ax x.length++x)):=by
 refine aB Tryz.func176 (by kernel_rfl) rfl Tryz.ntmps176 (rs:=[.tmp 4]) rfl (fD rfl) (by decide) ?_;have w:IntKind.u64.wrap (x.length:Int)=(x.length:Int):=by rw[ij];omega
 have a:=cj x.length;simp only[go_sem,Nat.reduceEqDiff,Nat.reduceAdd,Nat.reduceLT,↓reduceIte,nb,List.length_map,w];refine aZ [] (mM b x.length aq aq) rfl aw aw aw (by simp[AV.renL,AV.ren,nb]) ?_;rintro r e⟨I,rfl,c⟩;refine⟨[(I,0)],by simp[dp,ii],?_⟩;simp[go_sem,bZ,bF,c,Blk.ren,aS,dD,AV.renL,AV.ren,bX,dC,aL,ai];refine⟨aq,161,?_,?_⟩
 rw[show(b++(ax x.length++x)).length=b.length+(ax x.length).length+x.length by simp;omega];simp[lk,←kL]
theorem rF(b x:List Nat)(a:b.length≤1000000)(c:x.length<1000000):ap Tryz.prog 176 [.d (nb b),.d (nb x)] (fun r=>r=.d (nb (b++(ax x.length++x)))):=by
 rw[←cA];exact mf (xP b x a c) a9
def sb(l:List Nat):List Int:=l.map fun(x:Nat)=>(x:Int)
theorem VN{a b:List Nat}:sb a=sb b↔a=b:=vM
end Go.Proofs.YtmfnimjnneflnaaGreat
namespace Go.Sha
abbrev Wd:=Nat×List Nat
def gr(x:List Nat):Wd:=(if x.length≤75 then x.length else if x.length≤255 then 76 else 77,x)
def cN(x:List Nat):Wd :=
 match x with
 |[c]=>if 1≤c∧c≤16 then(80+c,[])else if c=129 then(79,[])else gr [c]
 |x=>gr x
theorem E9{x:List Nat}(h:x.length≠1):cN x=gr x:=by
 match x,h with
 |[],_=>rfl
 |[c],h=>exact absurd rfl h
 |_::_::_,_=>rfl
theorem TM{x:Nat}(h:x<256):t8 x=x:=Nat.mod_eq_of_lt h
end Go.Sha
namespace Go.Proofs.YtmfnimjnneflnaaGreat
open Go.Am Go.Sha
def pF(w:Wd):List DV:=[.int .u8 (w.1:Int),nb w.2]
def rG(w:Wd):List AV:=[.d (.int .u8 (w.1:Int)),.d (nb w.2)]
theorem ek(b:List Nat)(e:b.length≤100000000000):ap Tryz.prog 52 [.d (nb b)] (fun r=>r=.d (nb b)):=by
 refine bz Tryz.func52 Tryz.ntmps52 (rs:=[.tmp 2]) a9 ?_;simp only[go_sem,nb,Nat.reduceEqDiff,Nat.reduceAdd,Nat.reduceLT,↓reduceIte];intro t a
 cases t with
 |true =>
  have c:b=[]:=List.eq_nil_of_length_eq_zero (by simpa using a rfl);subst c;simp only[go_sem,Nat.reduceEqDiff,Nat.reduceAdd,Nat.reduceLT,↓reduceIte];exact dR (.inr ⟨_,rfl,.nil 1⟩) a9 rfl
 |false =>
  simp[go_sem,dC,aL];refine⟨aq,dR (ao (bm (L:=b) rfl rfl trivial)) a9 rfl⟩
theorem oQ(x:List Nat)(p:x.length≤60000)(i:bytes x):ap Tryz.prog 16 [.d (nb x)] (fun r=>r=.agg (rG (cN x))):=by
 refine bz Tryz.func16 Tryz.ntmps16 (rs:=[.cell 2 42]) a9 ?_;by_cases k:x.length=1
 ·obtain⟨c,rfl⟩:∃c,x=[c]:=by
   match x,k with
   |[c],_=>exact⟨c,rfl⟩
  have hc:=i c aw;by_cases m:1≤c∧c≤16
  ·have a:1≤(c:Int):=aq;have i2:(c:Int)≤16:=aq;have e:cN [c]=(80+c,[]):=if_pos m;have w:IntKind.u8.wrap (80+(c:Int))=((80+c:Nat):Int):=by rw[JR];omega
   rw[e];simp[go_sem,nb,a,i2,w,ai];exact vA (ay (aM trivial) (ay (ao (.nil 1)) bO)) rfl a9 (by simp[rG,nb])
  ·by_cases l:c=129
   ·subst l;have e:cN [129]=(79,[]):=rfl;rw[e];simp[go_sem,nb,ai];exact vA (ay (aM trivial) (ay (ao (.nil 1)) bO)) rfl a9 (by simp[rG,nb])
   ·have e:cN [c]=gr [c]:=(if_neg m).trans (if_neg l);have b:¬(c:Int)=129:=aq;rw[e];by_cases o:1≤c
    ·have a:1≤(c:Int):=aq;have i2:¬(c:Int)≤16:=aq;simp[go_sem,nb,a,i2,b];refine ag (ek [c] aw) a9 ?_;simp[go_sem,ai,fE,nb];refine ae a9 ?_;simp[gr,rG,nb];decide
    ·have a:¬ 1≤(c:Int):=aq;simp[go_sem,nb,a,b];refine ag (ek [c] aw) a9 ?_;simp[go_sem,ai,fE,nb];refine ae a9 ?_;simp[gr,rG,nb];decide
 ·have f:¬(x.length:Int)=1:=aq;rw[E9 k];simp[go_sem,nb,f];refine ag (ek x aq) a9 ?_;rcases(by omega:x.length≤75∨(75<x.length∧x.length≤255)∨255<x.length)with j|⟨j,g⟩|j
  ·have a:(x.length:Int)≤75:=aq;simp[go_sem,a,ai,fE];refine ae a9 ?_;simp[gr,rG,nb,j,TM (show x.length<256 by omega)]
  ·have a:¬(x.length:Int)≤75:=aq;have i2:(x.length:Int)≤255:=aq;have h:¬x.length≤75:=aq;simp[go_sem,a,i2,ai];refine ae a9 ?_;simp[gr,rG,nb,h,g]
  ·have a:¬(x.length:Int)≤75:=aq;have i2:¬(x.length:Int)≤255:=aq;have h:¬x.length≤75:=aq;have n:¬x.length≤255:=aq;simp[go_sem,a,i2,ai];refine ae a9 ?_;simp[gr,rG,nb,h,n]
end Go.Proofs.YtmfnimjnneflnaaGreat
namespace Go.Sha
def dF(w:Wd):List Nat×Bool :=
 if 0<w.1∧w.1≤75 then(w.1::w.2,decide (w.2.length=w.1))
 else if w.1=76 then(76::t8 w.2.length::w.2,decide (w.2.length≤255))
 else if w.1=77 then(77::t8 w.2.length::t8 (ej 8 w.2.length)::w.2,decide (w.2.length≤65535))
 else([w.1],decide (w.2.length=0))
theorem CL(w:Wd):(dF w).1.length≤w.2.length+3:=by
 unfold dF;split;simp;split;simp;split;simp;simp
def uk:List Nat→List Wd→List Nat×Int
 |out,[]=>(out,0)
 |out,w::r=>if(dF w).2=true then uk (out++(dF w).1) r else([],1)
def IV(w:Wd):List Nat:=[w.1]++(if w.1=76∨w.1=77 then[t8 w.2.length]else[])++(if w.1=77 then[t8 (ej 8 w.2.length)]else[])++w.2
theorem rH{w:Wd}(h:(dF w).2=true):IV w=(dF w).1:=by
 unfold dF at h⊢;unfold IV;by_cases a:0<w.1∧w.1≤75;have d:¬(w.1=76∨w.1=77):=aq;have e:¬w.1=77:=aq;rw[if_pos a,if_neg d,if_neg e];simp;by_cases b:w.1=76;simp[a,b];by_cases c:w.1=77;simp[a,b,c];rw[if_neg a,if_neg b,if_neg c]at h;have:w.2=[]:=by simpa using h
 simp[a,b,c,this]
end Go.Sha
namespace Go.Proofs.YtmfnimjnneflnaaGreat
open Go.Am Go.Sha
theorem CM(w:Wd):∀c,c∈rG w→c.deep1:=by
 intro c hc;simp[rG]at hc;rcases hc with rfl|rfl<;>trivial
theorem kO{Q:AV→Prop}{st:St}{id n:Nat}{b:Bool}{L:List Nat}(c:L.length=n)(a:lk id st.hp=some ⟨5,1,rb L⟩)(hq:Q (.tup [.d (nb L),.d (.bool b)])):dm Q (.tup [.own id 0 n n,.d (.bool b)]) st :=
 ew (ay (ao (bm c a trivial)) (ay (aM trivial) bO)) rfl a9 hq
theorem VO(w:Wd)(s:w.2.length≤60000)(q:w.1<256):ap Tryz.prog 95 [.agg (rG w)] (fun r=>r=.tup [.d (nb (dF w).1),.d (.bool (dF w).2)]):=by
 refine bz Tryz.func95 Tryz.ntmps95 (rs:=[.tmp 2,.tmp 3]) (by intro v o;simp at o;subst o;exact CM w) ?_;obtain⟨b,p⟩:=w;simp only at s q;by_cases m:0<b∧b≤75
 ·obtain⟨e,g⟩:=m;have f:0<(b:Int):=aq;have i2:(b:Int)≤75:=aq;have t:IntKind.i64.wrap (b:Int)=(b:Int):=IntWalk.i64_in _ aq;simp[go_sem,rG,f,i2,e,g];refine cG [0,1,3,4,6,7,8,9,10] [(2,[]),(5,[11,12])] 2 (k:=13) ?_;intro G j;simp[go_sem,nb,dC,t,aL];refine⟨aq,j _ _ ?_⟩;clear j G;have c:dF (b,p)=(b::p,decide (p.length=b)):=by unfold dF;rw[if_pos ⟨e,g⟩]
  rw[c];have a:decide ((p.length:Int)=(b:Int))=decide (p.length=b):=by congr 1;exact propext aq
  simp[go_sem,ai,a];exact kO (L:=b::p) (by simp;omega) rfl rfl
 ·by_cases n:b=76
  ·subst n;have c:dF (76,p)=(76::t8 p.length::p,decide (p.length≤255)):=rfl;rw[c];have a:decide ((p.length:Int)≤255)=decide (p.length≤255):=by congr 1;exact propext aq
   simp[go_sem,rG,nb,dC,aL,fE,a,ai];exact⟨aq,kO (L:=76::t8 p.length::p) (by simp;omega) rfl (by simp[nb])⟩
  ·by_cases h:b=77
   ·subst h;have c:dF (77,p)=(77::t8 p.length::t8 (ej 8 p.length)::p,decide (p.length≤65535)):=rfl;rw[c];have a:decide ((p.length:Int)≤65535)=decide (p.length≤65535):=by congr 1;exact propext aq
    simp[go_sem,rG,nb,dC,aL,fE,a,ai,IntKind.bits,CC];exact⟨aq,kO (L:=77::t8 p.length::t8 (ej 8 p.length)::p) (by simp;omega) rfl (by simp[nb])⟩
   ·have c:dF (b,p)=([b],decide (p.length=0)):=by unfold dF;rw[if_neg m,if_neg n,if_neg h]
    rw[c];have l:¬(b:Int)=76:=aq;have i:¬(b:Int)=77:=aq;have a:decide ((p.length:Int)=0)=decide (p.length=0):=by congr 1;exact propext aq
    by_cases e:0<b
    ·have f:0<(b:Int):=aq;have i2:¬(b:Int)≤75:=aq;simp[go_sem,rG,nb,dC,aL,f,e,i2,l,i,a,ai];refine kO (L:=[b]) (id:=832) rfl rfl ?_;simp[nb]
    ·have f:¬ 0<(b:Int):=aq;simp[go_sem,rG,nb,dC,aL,f,e,l,i,a,ai];refine kO (L:=[b]) (id:=832) rfl rfl ?_;simp[nb]
end Go.Proofs.YtmfnimjnneflnaaGreat
namespace Go.Sha
theorem LP(w:Wd):(IV w).length≤w.2.length+3:=by
 unfold IV;simp only[b_];split<;>split<;>simp<;>omega
def rI:List Nat→List (List Nat)→Option (List Nat)
 |out,[]=>some out
 |out,x::r=>if 1000<x.length then none else rI (out++(dF (cN x)).1) r
def qf(things:List (List Nat))(a:List Nat):List Nat×Int :=
 match rI [] things with
 |none=>([],4)
 |some out=>if 1000<(out++a).length then([],4)else(out++a,0)
theorem oR{x:List Nat}(h:x.length≤1000):(dF (cN x)).2=true:=by
 have g:(dF (gr x)).2=true:=by
  unfold gr dF;by_cases a:x.length≤75;by_cases k:x.length=0;have:x=[]:=List.eq_nil_of_length_eq_zero k;subst this;rfl;have:0<x.length∧x.length≤75:=aq;simp[a,this];by_cases d:x.length≤255;simp[a,d];simp[a,d];omega
 match x,g with
 |[],g=>exact g
 | [c],g =>
  show(dF (if 1≤c∧c≤16 then(80+c,[])else if c=129 then(79,[])else gr [c])).2=true;by_cases e:1≤c∧c≤16
  ·rw[if_pos e];unfold dF;have f:¬(0<80+c∧80+c≤75):=aq;have j:¬ 80+c=76:=aq;have i:¬ 80+c=77:=aq;simp[f,j,i]
  ·rw[if_neg e];by_cases b:c=129;rw[if_pos b];rfl;rw[if_neg b];exact g
 |_::_::_,g=>exact g
end Go.Sha
namespace Go.Sha
theorem fC(x:List Nat):(cN x).2.length≤x.length:=by
 match x with
 |[]=>exact cL _
 | [c] =>
  show(if 1≤c∧c≤16 then(80+c,[])else if c=129 then(79,[])else gr [c]).2.length≤1
  split;simp;split;simp;exact cL _
 |_::_::_=>exact cL _
end Go.Sha
namespace Go.Proofs.YtmfnimjnneflnaaGreat
open Go.Am Go.Sha
def xQ(w:Wd):Prop:=w.2.length≤60000∧w.1<256
theorem yG{Q:AV→Prop}{st:St}{id:Nat}{e:Int}{L:List Nat}(a:lk id st.hp=some ⟨5,1,rb L⟩)(hq:Q (.tup [.d (nb L),.d (.int .i64 e)])):dm Q (.tup [.own id 0 L.length L.length,.d (.int .i64 e)]) st :=
 ew (ay (ao (bm rfl a trivial)) (ay (aM trivial) bO)) rfl a9 hq
theorem qh{Q:AV→Prop}{st:St}{e:Int}(hq:Q (.tup [.d (nb []),.d (.int .i64 e)])):dm Q (.tup [.nil,.d (.int .i64 e)]) st :=
 ew (ay (ao (.nil 1)) (ay (aM trivial) bO)) rfl a9 hq
theorem CN(b:List Wd)(q:∀w,w∈b→xQ w)(x:b.length≤10000):ap Tryz.prog 51 [.d (.ro 2 (b.map pF))] (fun r=>r=.tup [.d (nb (uk [] b).1),.d (.int .i64 (uk [] b).2)]):=by
 refine bz Tryz.func51 Tryz.ntmps51 (rs:=[.tmp 2,.tmp 3]) a9 ?_;generalize a:uk [] b=B;simp only[go_sem,Nat.reduceEqDiff,Nat.reduceAdd,Nat.reduceLT,↓reduceIte,Nat.reduceMul]
 refine au (fun t:Nat×List Nat=>⟨[(4,.own 1000 0 t.2.length t.2.length),(9,.d (.ro 2 (b.map pF))),(10,.d (.int .i64 (b.length:Int))),(11,.d (.int .i64 (t.1:Int)))],[(1000,⟨5,1,rb t.2⟩)],1001⟩)
  (fun t=>t.1≤b.length∧t.2.length≤60003*t.1∧uk t.2 (b.drop t.1)=B) (fun t=>b.length-t.1) (0,[]) ⟨aq,aw,a⟩ (by
   simp[av,ah,fv,lk,AV.low,AV.low1,rb]) ?_
 clear a;rintro⟨k,g⟩⟨j,m,a⟩;simp only at j m a;simp only[go_sem,Nat.reduceEqDiff,Nat.reduceAdd,Nat.reduceLT,↓reduceIte,Nat.reduceMul];refine⟨fun h=>?_,fun h=>?_⟩
 ·obtain⟨w,e,s⟩:=bg (l:=b) (k:=k) aq;obtain⟨p,o⟩:=q w (cr e);rw[s]at a;simp only[uk]at a;have n:=CL w;have c:pF w=[.int .u8 (w.1:Int),nb w.2]:=rfl;simp[go_sem,e,c];refine ag (VO w p o) (by intro v i;simp at i;subst i;exact CM w) ?_
  cases f:(dF w).2 with
  |false =>
   simp[go_sem,ai];rw[f,if_neg aw]at a;rw[←a];exact qh rfl
  |true =>
   rw[f,if_pos rfl]at a;have u:=az (k:=k) aq;generalize(dF w).1=L at *;simp[go_sem,nb,dC,aL,kL,u];refine⟨aq,?_⟩;refine am (k+1,g++L) ⟨by simp only;omega,by simp only[b_];omega,a⟩ (by simp only;omega) ?_;simp[av,ah,fv,lk,AV.low,AV.low1];exact aT _ _
 ·rw[c_ aq]at a;simp only[uk]at a;simp[go_sem,ai];rw[←a];exact yG rfl rfl
def bP(x:List Nat):List DV:=[nb x]
theorem kP{x:List Nat}(h:x.length≤60000)(a:bytes x):xQ (cN x):=by
 have g:xQ (gr x):=by
  unfold gr;refine⟨h,?_⟩;simp only;split;omega;split<;>omega
 match x,a,g with
 |[],_,g=>exact g
 | [c],a,g =>
  show xQ (if 1≤c∧c≤16 then(80+c,[])else if c=129 then(79,[])else gr [c]);by_cases d:1≤c∧c≤16
  ·rw[if_pos d];exact⟨aw,by simp only;omega⟩
  ·rw[if_neg d];by_cases b:c=129;rw[if_pos b];exact⟨aw,aw⟩;rw[if_neg b];exact g
 |_::_::_,_,g=>exact g
theorem QA{hp:Hp}{I:Nat→Prop}{id:Nat}{w:Wd}(a:lk id hp=some ⟨42,2,[rG w]⟩)(b:I id):SnapD hp I (.own id 0 1 1) (.ro 2 ([w].map pF)) :=
 eu (es:=[w].map pF) (by rw[a];rfl) b rfl (by simp[pF])
theorem vU(things:List (List Nat))(a:List Nat)(G:things.length≤1000)(F:∀x,x∈things→x.length≤60000∧bytes x)(H:a.length≤100000) :
  ap Tryz.prog 26 [.d (.ro 1 (things.map bP)),.d (nb a)] (fun r=>r=.tup [.d (nb (qf things a).1),.d (.int .i64 (qf things a).2)]):=by
 refine bz Tryz.func26 Tryz.ntmps26 (rs:=[.tmp 4,.tmp 5]) a9 ?_;unfold qf;generalize c:rI [] things=B;simp only[go_sem,Nat.reduceEqDiff,Nat.reduceAdd,Nat.reduceLT,↓reduceIte,Nat.reduceMul]
 refine au (fun t:Nat×List Nat=>⟨[(1,.d (nb a)),(6,.own 1000 0 t.2.length t.2.length),(11,.d (.ro 1 (things.map bP))),(12,.d (.int .i64 (things.length:Int))),(13,.d (.int .i64 (t.1:Int)))],[(1000,⟨5,1,rb t.2⟩)],1001⟩)
  (fun t=>t.1≤things.length∧t.2.length≤60003*t.1∧rI t.2 (things.drop t.1)=B) (fun t=>things.length-t.1) (0,[]) ⟨aq,aw,c⟩ (by
   simp[av,ah,fv,lk,AV.low,AV.low1,rb]) ?_
 clear c;rintro⟨k,b⟩⟨v,y,c⟩;simp only at v y c;simp only[go_sem,Nat.reduceEqDiff,Nat.reduceAdd,Nat.reduceLT,↓reduceIte,Nat.reduceMul];refine⟨fun h=>?_,fun h=>?_⟩
 ·obtain⟨x,i,D⟩:=bg (l:=things) (k:=k) aq;obtain⟨u,q⟩:=F x (cr i);rw[D]at c;simp only[rI]at c;by_cases j:1000<x.length
  ·rw[if_pos j]at c;subst c;have g:1000<(x.length:Int):=aq;simp[go_sem,i,bP,nb,g,ai];exact qh rfl
  ·rw[if_neg j]at c;have g:¬ 1000<(x.length:Int):=aq;have o:=oR (x:=x) aq;have p:=kP u q;have z:=CL (cN x);have C:(cN x).2.length≤x.length:=fC x;have n:uk [] [cN x]=((dF (cN x)).1,0):=(by simp[uk,o]);simp[go_sem,i,bP,nb,g];refine ag (oQ x u q) a9 ?_;have m:(rG (cN x)).length=2:=rfl;simp[go_sem,m];refine bn [1289] (CN [cN x] (by intro w s;simp at s;subst s;exact p) aw) rfl (ak (.one (ao (QA rfl aw))) aC) ?_;rw[n];have E:=az (k:=k) aq;generalize(dF (cN x)).1=L at *;simp[go_sem,aN,nb,dC,aL,kL,E];refine⟨aq,?_⟩;refine am (k+1,b++L) ⟨by simp only;omega,by simp only[b_];omega,c⟩ (by simp only;omega) ?_;simp[av,ah,fv,lk,AV.low,AV.low1,nb];exact aT _ _
 ·rw[c_ aq]at c;simp only[rI]at c;subst c;have A:k=things.length:=aq;simp only;by_cases f:1000<b.length+a.length
  ·rw[if_pos f];have g:1000<((b.length+a.length:Nat):Int):=aq;have i2:1000<(b.length:Int)+(a.length:Int):=aq;simp[go_sem,nb,dC,aL,g,i2,ai];exact⟨aq,qh rfl⟩
  ·rw[if_neg f];have g:¬ 1000<((b.length+a.length:Nat):Int):=aq;have i2:¬ 1000<(b.length:Int)+(a.length:Int):=aq;simp[go_sem,nb,dC,aL,kL,g,i2,ai];refine⟨aq,?_⟩;have:=yG (id:=1000) (L:=b++a) (e:=0) (Q:=fun r=>r=AV.tup [AV.d (nb (b++a)),AV.d (.int .i64 0)]) (st:=⟨[],[(1000,⟨5,1,rb (b++a)⟩)],0⟩) rfl rfl;simp[nb]at this;exact this
def aQ(a:List Wd):List Nat:=(a.map IV).flatten
def Af(things:List (List Nat)):List Wd:=things.map cN
theorem CO:∀(things:List (List Nat))(a:List Nat),(∀x,x∈things→x.length≤1000)→rI a things=some (a++aQ (Af things))
 |[],a,_=>by simp[rI,aQ,Af]
 |x::r,a,h=>by
  have b:=h x (dz ..);simp only[rI];rw[if_neg aq,CO r _ (fun y c=>h y (cS _ c)),←rH (oR b)];simp[aQ,Af]
def Ag:List Nat:=[86,97,117,108,116,82,101,99,111,118,101,114,121]
def pG(x:List Nat):List Nat:=eH Ag (ax x.length++x)
theorem nR(x:List Nat):(pG x).length=32:=bo _
theorem vV(x:List Nat)(e:x.length≤100000):ap Tryz.prog 20 [.d (nb x)] (fun r=>r=.agg (cb (pG x))):=by
 refine bz Tryz.func20 Tryz.ntmps20 (rs:=[.cell 2 29]) a9 ?_;have b:=cj x.length;simp[go_sem];refine bn [] (fY [] x aw aq) rfl (ak (.one (ao (.nil 1))) (ak (.deep a9) aC)) ?_;simp[go_sem,aN];refine ag (gk Ag (.str [86,97,117,108,116,82,101,99,111,118,101,114,121]) rfl (ax x.length++x) (by simp[Ag]) (by simp;omega)) a9 ?_;have c:pG x=eH Ag (ax x.length++x):=rfl;rw[←c];have a:=nR x;generalize pG x=R at *;simp[go_sem,ai,a,al a,bK];exact ae (by simp[AV.deep];exact aW _) rfl
def eQ(c:Int×Int):List DV:=[.int .i64 c.1,.int .u64 c.2]
theorem Hf{P:Program}{s t:TypeId}{a:AV→Hp→Prop}{hp:Hp}(l:List Nat)(el:TypeId)(c:bytes l)(e:bU P s=.slice el)(i:bU P t=.str)(h3:P.underlying el=some (.int .u8))(g:a (.d (.str (sb l))) hp):cvS P s t (l.map fun(x:Nat)=>[DV.int .u8 (x:Int)]) a hp:=by
 refine⟨sb l,by simp[sb],fun b h=>?_,?_⟩;simp only[sb,List.mem_map]at h;obtain⟨x,f,rfl⟩:=h;have:=c x f;omega;rw[e,i];exact⟨h3,g⟩
theorem vW{w:Wd}(b:w.1<256)(hp:bytes w.2):bytes (dF w).1:=by
 unfold dF;split;intro y a;rcases d_.1 a with rfl|a;exact b;exact hp y a;split;intro y a;simp only[d_]at a;rcases a with rfl|rfl|a;omega;exact rC _;exact hp y a;split;intro y a;simp only[d_]at a;rcases a with rfl|rfl|rfl|a;omega;exact rC _;exact rC _;exact hp y a;intro y a;simp only[List.mem_singleton]at a;rw[a];exact b
theorem jS{x:List Nat}(a:bytes x):bytes (cN x).2:=by
 match x,a with
 |[],a=>exact a
 | [c],a =>
  show bytes (if 1≤c∧c≤16 then(80+c,[])else if c=129 then(79,[])else gr [c]).2
  split;intro y b;simp at b;split;intro y b;simp at b;exact a
 |_::_::_,a=>exact a
theorem yH{a b:List Nat}(d:bytes a)(c:bytes b):bytes (a++b):=fun y e=>(cD.1 e).elim (d y) (c y)
theorem vX:∀(things:List (List Nat))(a o:List Nat),bytes a→(∀x,x∈things→x.length≤60000∧bytes x)→rI a things=some o→bytes o
 |[],a,o,h,_,e=>by simp only[rI,Option.some.injEq]at e;subst e;exact h
 |x::r,a,o,h,ht,e=>by
  obtain⟨c,b⟩:=ht x (dz ..);simp only[rI]at e;split at e;cases e;exact vX r _ o (yH h (vW (kP c b).2 (jS b))) (fun y d=>ht y (cS _ d)) e
theorem Fa{things:List (List Nat)}{a:List Nat}(c:bytes a)(d:∀x,x∈things→x.length≤60000∧bytes x):bytes (qf things a).1:=by
 unfold qf;cases h:rI [] things with
 |none=>intro y b;simp at b
 |some o =>
  have:=vX things [] o (by intro y b;simp at b) d h;simp only;split;intro y b;simp at b;exact yH this c
theorem IW{n:Nat}{d:DV}(h:jh Tryz.prog (n+3) 34 [d]):∃xs:List (List Nat),d=.ro 1 (xs.map bP)∧∀x,x∈xs→bytes x:=by
 rw[jh]at h;simp only[Tryz.underlying34,List.cons.injEq,and_true]at h;obtain⟨es,rfl,i,g⟩:=h;obtain⟨xs,rfl,b⟩:=vC (enc:=bP) (R:=fun x=>bytes x) (es:=es) (fun r c=>by
  obtain⟨a,e⟩:=g r c;rw[show Tryz.prog.cellsOf 31=1 by kernel_rfl]at e
  match r,a,e with
  |[y],a,_ =>
   obtain⟨x,rfl,_,f⟩:=vP a
   exact⟨x,rfl,f⟩)
 exact⟨xs,by rw[show Tryz.prog.cellsOf 31=1 by kernel_rfl],b⟩
def yI:Nat→Nat→List Nat
 |0,_=>[]
 |k+1,m=>if m=0 then[]else m%256::yI k (m/256)
theorem oS:∀(k m:Nat),bytes (yI k m)
 |0,_=>fun x h=>by simp[yI]at h
 | k+1,m=>by
  rw[yI];split;exact fun x h=>by simp at h
  intro x h;rcases d_.1 h with rfl|h;omega;exact oS k _ x h
theorem Hg:∀(k m:Nat),(yI k m).length≤k
 |0,_=>by simp[yI]
 |k+1,m=>by
  rw[yI];split;simp;have:=Hg k (m/256);simp;omega
def iR(neg:Bool)(a:List Nat)(x:Nat):List Nat :=
 if 128≤x then(if neg then a++[x,128]else a++[x,0])else(if neg then a++[x+128]else a++[x])
def IX(neg:Bool)(b:List Nat):List Nat:=match b.reverse with
 |[]=>[]
 |x::r=>iR neg r.reverse x
def aU(n:Int):List Nat:=IX (decide (n<0)) (yI 8 n.natAbs)
theorem oU(neg:Bool)(a:List Nat)(x:Nat):IX neg (a++[x])=iR neg a x:=by simp[IX]
theorem fh(b:List Nat):b=[]∨∃a x,b=a++[x]:=by
 rcases h:b.reverse with _|⟨x,r⟩;exact .inl (by simpa using h);exact .inr ⟨r.reverse,x,by rw[←List.reverse_reverse b,h,List.reverse_cons]⟩
theorem fi(n:Int):bytes (aU n):=by
 unfold aU;rcases fh (yI 8 n.natAbs)with h|⟨a,x,h⟩;rw[h];exact fun x d=>by simp[IX]at d
 ·have c:=oS 8 n.natAbs;rw[h]at c⊢;rw[oU];have d:=c x aw;have e:bytes a:=fun z b=>c z (by simp[b]);unfold iR;intro z b;split at b<;>split at b<;>simp at b
  all_goals
   rcases b with h|h;exact e z h;omega
theorem iT(n:Int):(aU n).length≤9:=by
 unfold aU;have b:=Hg 8 n.natAbs;rcases fh (yI 8 n.natAbs)with h|⟨a,x,h⟩;rw[h];simp[IX];rw[h]at b⊢;rw[oU];unfold iR;simp at b;split<;>split<;>simp<;>omega
theorem LQ:∀x:Nat,x<256→bits .and .u8 (x:Int) 128=if 128≤x then 128 else 0:=by decide +kernel
theorem Zt:∀x:Nat,x<128→bits .or .u8 (x:Int) 128=((x+128:Nat):Int):=by decide +kernel
theorem mN (n:Int) (W:-9223372036854775808≤n) (X:n<9223372036854775808):ap Tryz.prog 64 [.d (.int .i64 n)] (fun r=>r=.d (nb (aU n))):=by
  refine bz Tryz.func64 Tryz.ntmps64 (rs:=[.tmp 2]) a9 ?_;have R:n.natAbs<18446744073709551616:=aq;simp[go_sem];have v:(256:Nat) ^ 8=18446744073709551616:=by decide
  have ij:∀x:Int,IntKind.u64.wrap x=x%18446744073709551616:=fun x=>by simp[IntKind.wrap,IntKind.bits,IntKind.signed]
  have K:n<0→IntKind.u64.wrap (-IntKind.u64.wrap n)=(n.natAbs:Int):=fun h=>by rw[ij,ij];omega
  have Q:0≤n→IntKind.u64.wrap n=(n.natAbs:Int):=fun h=>by rw[ij];omega
  have fd:∀m:Nat,Int.fdiv (m:Int) 256=((m/256:Nat):Int):=fun m=>by rw[Int.fdiv_eq_ediv_of_nonneg _ (by decide)];omega
  have o:∀k,yI k 0=[]:=fun k=>by cases k<;>simp[yI]
  have A:aU n=IX (decide (n<0)) (yI 8 n.natAbs):=rfl;refine⟨fun g=>?_,fun g=>?_⟩
  all_goals
    refine au (fun t:Nat×List Nat×Nat=>⟨[(3,.d (.bool (decide (n<0)))),(4,.d (.int .u64 (t.2.2:Int))),(5,.own 5000 0 t.2.1.length t.2.1.length)],[(5000,⟨5,1,rb t.2.1⟩)],6000⟩)
      (fun t=>t.2.2<256 ^ t.1∧t.1≤8∧t.2.1.length+t.1≤8∧t.2.1 ++ yI t.1 t.2.2=yI 8 n.natAbs) (fun t=>t.1) (8,[],n.natAbs) ⟨by rw [v];exact R,aw,aw,rfl⟩ (by
        first
          | (have w:=K g
             simp[av,ah,fv,lk,AV.low,AV.low1,w,rb])
          | (have w:=Q g
             simp[av,ah,fv,lk,AV.low,AV.low1,w,rb])) ?_
    rintro⟨k,b,m⟩⟨l,z,s,j⟩;simp only at l z j s;simp only;simp[go_sem];refine⟨fun F=>?_,fun F=>?_⟩
    · match k,l,z,j,s with
      |0,l,_,_,_=>simp at l;omega
      | k+1,l,z,j,s =>
        refine⟨aL b,aq,?_⟩;rw[yI,if_neg aq]at j;rw[Nat.pow_succ]at l;have S:m/256<256 ^ k:=Nat.div_lt_of_lt_mul aq;have M:IntKind.u8.wrap (m:Int)=((m%256:Nat):Int):=by rw[JR];omega
        refine am (k,b++[m%256],m/256) ⟨S,by show k≤8;omega,by simp;omega,by rw[←j];simp⟩ (by show k<k+1;omega) ⟨?_,?_,aw⟩
        · simp[ah,fv,lk,AV.low,AV.low1,fd]
        · intro p G
          simp only[d_,List.mem_nil_iff,or_false]at G;subst G;exact⟨.inl (by rw[M];simp[lk,rb]),by show 5000<6000;omega,aT _ _⟩
    · subst F
      rw[o,List.append_nil]at j;subst j;rw[A];have B:=oS 8 n.natAbs;generalize yI 8 n.natAbs=b at *;refine⟨fun D=>?_,fun D=>?_⟩
      · subst D
        exact dR (ao (bm rfl rfl trivial)) trivial rfl
      · rcases fh b with h | ⟨a,x,rfl⟩
        · exact absurd h D
        rw[oU];have O:IntKind.i64.wrap (((a++[x]).length:Int)-1)=(a.length:Int):=by
          have q:(a++[x]).length=a.length+1:=(by simp);rw[q]at s⊢;rw[IntWalk.i64_in _ aq];omega
        have J:x<256:=B x aw;have f:(rb (a++[x]))[a.length]?=some [.d (.int .u8 (x:Int))]:=(by simp[rb]);have e:∀h,(rb (a++[x]))[a.length]'h=[.d (.int .u8 (x:Int))]:=fun h=>by rw[cm h]at f;exact Option.some.inj f
        have q:a.length≤7:=by simp at s;omega
        have H:IntKind.i64.wrap ((a.length:Int)+1)=((a.length+1:Nat):Int):=by rw[IntWalk.i64_in _ aq];omega
        have U:IntKind.i64.wrap (a.length:Int)=(a.length:Int):=IntWalk.i64_in _ aq;have C:(rb (a++[x])++[[AV.d (.int .u8 0)]])[a.length+1]?=some [.d (.int .u8 0)]:=(by simp[rb]);have E:∀h,(rb (a++[x])++[[AV.d (.int .u8 0)]])[a.length+1]'h=[.d (.int .u8 0)]:=fun h=>by rw[cm h]at C;exact Option.some.inj C
        have N:(rb (a++[x])++[[AV.d (.int .u8 0)]]).set (a.length+1) [.d (.int .u8 128)]=rb (a++[x,128]):=by
          have:rb (a++[x])=rb a++[[.d (.int .u8 (x:Int))]]:=(hJ a x).symm;rw[this,cA,List.set_append_right _ _ (by rw[aL];omega),aL,show a.length+1-a.length=1 by omega];simp[rb]
        have I:bits .or .u8 0 128=128:=(by decide);have V:∀y:Nat,(rb (a++[x])).set a.length [.d (.int .u8 (y:Int))]=rb (a++[y]):=fun y=>by
          have:rb (a++[x])=rb a++[[.d (.int .u8 (x:Int))]]:=(hJ a x).symm;rw[this,List.set_append_right _ _ (by rw[aL];omega),aL,Nat.sub_self];simp[rb]
        have u:=LQ x J;rw[O];by_cases c:128≤x
        · rw [if_pos c] at u
          simp[go_sem,f,e,aL,u];by_cases i:n<0
          · simp [go_sem,i,aL,H,C,E,I,N]
            repeat' apply And.intro
            all_goals first
              |omega
              |exact fun h=>absurd i aq
              |exact dR (ao (bm (L:=iR true a x) (by simp[iR,c]) (by simp[lk,iR,c,rb]) trivial)) trivial rfl
              |exact fun _=>dR (ao (bm (L:=iR true a x) (by simp[iR,c]) (by simp[lk,iR,c,rb]) trivial)) trivial rfl
          · simp [go_sem,i]
            repeat' apply And.intro
            all_goals first
              |omega
              |exact fun h=>absurd i aq
              |exact dR (ao (bm (L:=iR false a x) (by simp[iR,c]) (by simp[lk,iR,c,rb]) trivial)) trivial rfl
              |exact fun _=>dR (ao (bm (L:=iR false a x) (by simp[iR,c]) (by simp[lk,iR,c,rb]) trivial)) trivial rfl
        · rw [if_neg c] at u
          have T:=Zt x aq;simp[go_sem,f,e,aL,u];by_cases i:n<0
          · simp [go_sem,i,aL,U,e,T,V,-Int.natCast_add]
            repeat' apply And.intro
            all_goals first
              |omega
              |exact fun h=>absurd i aq
              |exact dR (ao (bm (L:=iR true a x) (by simp[iR,c]) (by simp[lk,iR,c,rb]) trivial)) trivial rfl
              |exact fun _=>dR (ao (bm (L:=iR true a x) (by simp[iR,c]) (by simp[lk,iR,c,rb]) trivial)) trivial rfl
          · simp [go_sem,i]
            repeat' apply And.intro
            all_goals first
              |omega
              |exact fun h=>absurd i aq
              |exact dR (ao (bm (L:=iR false a x) (by simp[iR,c]) (by simp[lk,iR,c,rb]) trivial)) trivial rfl
              |exact fun _=>dR (ao (bm (L:=iR false a x) (by simp[iR,c]) (by simp[lk,iR,c,rb]) trivial)) trivial rfl
end Go.Proofs.YtmfnimjnneflnaaGreat
namespace Go.Am
section
variable {P:Program}
def VP(P:Program)(n:Nat)(x:Code)(Q:Exit→St→Prop)(st:St):Prop:=∀(c:Ctx)(a:Act)(w:World),c.n=n→lG c st a w→x.wp P (fun e b d=>∃st',Q e st'∧lG c st' b d) a w
theorem aD{n:Nat}{x:Code}{Q:Exit→St→Prop}{st:St}(h:nC P n x Q st):VP P n x Q st:=fun c a w d b=>by
 subst d;exact kp x Q st a w h b
theorem nS{n:Nat}{x:Code}{Q:Exit→St→Prop}{st st':St}(b:Wk st st')(h:VP P n x Q st'):VP P n x Q st:=fun c a w e d=>h c a w e (b c a w d)
theorem bQ{n:Nat}{x y:Code}{Q:Exit→St→Prop}{st:St}(h:VP P n x (fN (VP P n y Q) Q) st):VP P n (.seq x y) Q st:=by
 intro c a w b d;refine wp_seq (wp_mono (h c a w b d) fun e f g⟨st',hq,hs'⟩=>?_);cases e with
 |normal=>exact hq c f g b hs'
 |_=>exact⟨st',hq,hs'⟩
theorem mh {g : FuncId} {fn : Func} {code : Code} {args : List AV} {Q : AV → Prop} (hf : P.funcs[g]? = some fn) (hn : (fn.name == "runtime.NumGoroutine") = false) (hb : fn.body = some code)
  {n:Nat} {rs:List ResultVar} (hnt:fn.ntmps=n) (hrs:fn.results.toList=rs) (hle:args.length≤n) (hd:∀v,v∈args→v.deep)
  (h:VP P n code (KJ P rs (dm Q)) ⟨JQ 0 args,[],0⟩):ap P g args Q:=by
 subst hnt;subst hrs;refine⟨⟨fn,hf,hn,by simp[hb]⟩,fun w S vs hS hl hv=>?_⟩;have hsz:((vs.toArray++Array.replicate (fn.ntmps-vs.toArray.size) undef):Array Value).size=fn.ntmps:=by simp;omega
 refine calls_of_wp hf hb ?_
 let c:Ctx:=⟨w,fun _=>False,S,fn.ntmps,fun _ h=>h.elim,fun _=>False,fun _=>none,[],0,aq⟩
 have hsim:lG c ⟨JQ 0 args,[],0⟩ { tmps:=vs.toArray++Array.replicate (fn.ntmps-vs.toArray.size) undef,defers:=[] } w:=by
  refine⟨rfl,hsz,fun _=>none,⟨(fun i j bi bj g h=>by cases h),(fun i b h=>by cases h),(fun i b h=>by cases h),(fun i b g h=>by cases h),rfl,rfl,rfl,cL _,fun _ _ _=>rfl⟩,fun n=>?_,⟨fun _ h=>h.elim,fun _ h=>h.elim,fun i h=>absurd h (Nat.not_lt_zero _),fun i b' h=>absurd h (Nat.not_lt_zero _)⟩⟩;simp only[fv,zR,Nat.zero_le,if_true,Nat.sub_zero]
  cases hn:args[n]? with
  |none=>exact .any _
  | some v =>
   have hlt:n<vs.length:=by have:=(ci.1 hn).1;omega
   have hx:vs[n]?=some vs[n]:=cm hlt
   have:(vs.toArray++Array.replicate (fn.ntmps-vs.toArray.size) undef).getD n undef=vs[n]:=by
    rw[ct,Array.getElem?_append,if_pos (by simpa using hlt)];simp[hx]
   rw[this];simp only[Option.getD_some];exact mI (hd v (cr hn)) (fun b hb=>⟨⟨hS b hb,(fun id blk g h=>by cases h)⟩,.inl hb⟩) (hv n v _ hn hx)
 have tQ:∀st a w',BV P fn.results.toList (dm Q) st→lG c st a w'→∃v,(results fn a.tmps).run P w'=.ok v w'∧∃x r,Ending.returned v=.returned x∧Q r∧r.deep∧RowKit.Below w.heap.size w w' ∧
   AIs w' (fun b=>S b∨(w.heap.size≤b∧b<w'.heap.size)) (fun _=>none) [] (fun _=>False) r x:=by
  intro st a w' hret hs;obtain⟨v,x,⟨r,hsn,hrd,hQ⟩,hrun,σ,hr,hx,_⟩:=zQ hs hret;refine⟨x,hrun,x,r,rfl,hQ,hrd,⟨hr.os,hr.tape,hr.output,hr.size,fun b hb=>hr.old b hb (fun h=>h)⟩,?_⟩;refine mJ (fun b hb=>?_) (fun id blk g _ hk hg=>?_) hr hsn hx
  ·rcases hb.2 with h|h
   ·exact .inl h
   ·exact .inr ⟨h,hb.1.1⟩
  ·rcases hr.mine id blk g hk hg with h|h
   ·exact h.elim
   ·exact .inr ⟨h,dS (hr.at hk hg)⟩
 refine wp_mono (h c _ w rfl hsim) fun e a w'⟨st,hq,hs⟩=>?_
 cases e with
 |normal=>exact⟨hs.1,tQ st a w' hq hs⟩
 |ret=>exact⟨hs.1,tQ st a w' hq hs⟩
 |_=>exact hq.elim
end
end Go.Am
namespace Go.Proofs.YtmfnimjnneflnaaGreat
open Go.Am Go.Sha
abbrev iU:=Nat→List (List Nat)
def pB(q:List (List Nat)):Blk:=⟨29,32,q.map cb⟩
def j9(P:Nat):Nat→iU→Hp
 |0,_=>[]
 |n+1,f=>(P,pB (f 0))::j9 (P+1) n (fun j=>f (j+1))
def TN(f:iU)(j:Nat)(q:List (List Nat)):iU:=fun i=>if i=j then q else f i
def sV(j:Nat):Nat:=1+j
theorem lI{j:Nat}(h:j<8)(c:Nat)(hc:9≤c):(c=sV j)=False:=by unfold sV;simp;omega
theorem pQ(j:Nat):(0=sV j)=False:=by unfold sV;simp;omega
theorem nT:∀(n P:Nat)(f:iU)(j:Nat),j<n→lk (P+j) (j9 P n f)=some (pB (f j))
 |n+1,P,f,0,_=>by simp[j9,lk]
 |n+1,P,f,j+1,h=>by
  have:=nT n (P+1) (fun j=>f (j+1)) j aq;rw[j9,lk,if_neg aq,show P+(j+1)=P+1+j by omega,this]
theorem CP:∀(n P:Nat)(f:iU)(j:Nat)(q:List (List Nat)),j<n→bJ (P+j) (pB q) (j9 P n f)=j9 P n (TN f j q)
 |n+1,P,f,0,q,_=>by
  simp only[j9,bJ,Nat.add_zero,if_true];congr 1
 |n+1,P,f,j+1,q,h=>by
  have:=CP n (P+1) (fun j=>f (j+1)) j q aq;rw[j9,bJ,if_neg aq,show P+(j+1)=P+1+j by omega,this,j9];simp[TN];congr 1
theorem jz:∀(n P:Nat)(f:iU)(p:Nat×Blk),p∈j9 P n f→∃j,j<n∧p=(P+j,pB (f j))
 |0,_,_,p,h=>by simp[j9]at h
 |n+1,P,f,p,h=>by
  rw[j9]at h;rcases d_.1 h with rfl|h;exact⟨0,aq,rfl⟩;obtain⟨j,a,rfl⟩:=jz n (P+1) _ p h;exact⟨j+1,aq,by rw[show P+1+j=P+(j+1)by omega]⟩
theorem lJ{f:iU}{j:Nat}(h:j<8):lk (sV j) (j9 1 8 f)=some (pB (f j)):=nT 8 1 f j h
theorem CQ{f:iU}{j:Nat}(q:List (List Nat))(h:j<8):bJ (sV j) (pB q) (j9 1 8 f)=j9 1 8 (TN f j q):=CP 8 1 f j q h
theorem TP(q:List (List Nat)):(pB q).ty=29:=rfl
theorem Zu(q:List (List Nat)):(pB q).e=32:=rfl
theorem TQ(q:List (List Nat)):(pB q).es=q.map cb:=rfl
theorem vY{inner:List Nat}(hi:inner.length=32)(a b c:AV):(cb inner++[a,b]).set 32 c=cb inner++[c,b]:=by
 have d:(cb inner).length=32:=by rw[aj,hi]
 rw[List.set_append_right _ _ aq,d];rfl
def lc(inner:List Nat)(idf:Nat→Nat)(f:iU)(xs:List (List Nat)):List (List AV):=xs.mapIdx fun j x=>ar inner (.own (idf j) 0 (f j).length (f j).length) (.d (nb x))
theorem jA{inner:List Nat}{idf:Nat→Nat}{f:iU}{xs:List (List Nat)}:(lc inner idf f xs).length=xs.length:=by simp[lc]
theorem Ah{inner:List Nat}{idf:Nat→Nat}{f:iU}{xs:List (List Nat)}{j:Nat}{x:List Nat}(h:xs[j]?=some x):(lc inner idf f xs)[j]?=some (ar inner (.own (idf j) 0 (f j).length (f j).length) (.d (nb x))):=by
 simp[lc,h]
theorem Hh{inner:List Nat}{idf:Nat→Nat}{f:iU}{xs:List (List Nat)}{j:Nat}{x:List Nat}(q:List (List Nat))(h:xs[j]?=some x):(lc inner idf f xs).set j (ar inner (.own (idf j) 0 q.length q.length) (.d (nb x)))=lc inner idf (TN f j q) xs:=by
 have b:=(ci.1 h).1;apply List.ext_getElem?;intro i;rw[List.getElem?_set];by_cases a:j=i;subst a;rw[if_pos rfl,if_pos (by rw[jA];exact b),Ah h];simp[TN];rw[if_neg a];simp only[lc,List.getElem?_mapIdx,TN];rw[if_neg (fun e=>a e.symm)]
theorem qi(n:Nat)(inner:List Nat)(a b:AV)(e:a.low1 n)(d:b.low1 n):∀v,v∈ar inner a b→v.low1 n:=by
 intro v c;unfold ar at c;rcases cD.1 c with h|h;exact aE _ _ v h;simp at h;rcases h with rfl|rfl;exact e;exact d
theorem Hi{n:Nat}{inner:List Nat}{idf:Nat→Nat}{f:iU}{xs:List (List Nat)}(h:∀j,j<xs.length→idf j<n):∀r,r∈lc inner idf f xs→∀v,v∈r→v.low1 n:=by
 intro r a;simp only[lc,List.mem_mapIdx]at a;obtain⟨j,b,rfl⟩:=a;exact qi _ _ _ _ (h j b) trivial
theorem Fb(n:Nat)(q:List (List Nat)):∀r,r∈(pB q).es→∀v,v∈r→v.low1 n:=by
 intro r a;simp only[pB,List.mem_map]at a;obtain⟨p,_,rfl⟩:=a;exact aE _ _
def bH(h:List Nat)(first a:Nat):List AV:=cb h++[.d (.int .i64 (first:Int)),.d (.int .i64 (a:Int))]
theorem kQ{h:List Nat}(c:h.length=32)(a b:Nat):(bH h a b).length=34:=by simp[bH,aj,c]
theorem dJ{h:List Nat}(c:h.length=32)(a b:Nat):List.take 34 (bH h a b)=bH h a b:=cx (by rw[kQ c];exact cL _)
theorem qj{h:List Nat}(c:h.length=32)(a b:Nat):(bH h a b)[32]?=some (.d (.int .i64 (a:Int))):=iQ c _ _
theorem vZ{h:List Nat}(c:h.length=32)(a b:Nat):(bH h a b)[33]?=some (.d (.int .i64 (b:Int))):=kM c _ _
theorem jB{h:List Nat}(c:h.length=32)(a b:Nat)(e:32<(bH h a b).length):(bH h a b)[32]=.d (.int .i64 (a:Int)):=by
 have:=qj c a b;rw[cm e]at this;exact Option.some.inj this
theorem jC{h:List Nat}(c:h.length=32)(a b:Nat)(e:33<(bH h a b).length):(bH h a b)[33]=.d (.int .i64 (b:Int)):=by
 have:=vZ c a b;rw[cm e]at this;exact Option.some.inj this
theorem uz{h:List Nat}(c:h.length=32)(a b:Nat):List.take 32 (bH h a b)=cb h:=by
 unfold bH;rw[List.take_append_of_le_length (by rw[aj,c];exact cL _),cx (by rw[aj,c];exact cL _)]
theorem Hj{h:List Nat}(c:h.length=32)(a b:AV):List.drop 33 (cb h++[a,b])=[b]:=by
 rw[List.drop_append,aj,c,c_ (by rw[aj];omega)];rfl
theorem Ai{h:List Nat}(c:h.length=32)(a b:AV):List.take 33 (cb h++[a,b])=cb h++[a]:=by
 rw[List.take_append,aj,c,cx (by rw[aj];omega)];rfl
theorem Aj{h:List Nat}(c:h.length=32)(a b:AV):List.drop 34 (cb h++[a,b])=[]:=c_ (by simp[aj,c])
theorem cT(n:Nat)(h:List Nat)(a b:Nat):∀v,v∈bH h a b→v.low1 n:=by
 intro v c;rcases cD.1 c with q|q;exact aE _ _ v q;simp at q;rcases q with rfl|rfl<;>trivial
theorem Zv:fK Tryz.prog 174=some (bH z32 0 0):=by kernel_rfl
attribute [go_sem] Zv
def cy(first k:Nat)(h:List Nat)(f:iU):iU:=fun j=>if first≤j∧j<first+k then f j++[h]else f j
theorem yJ(first:Nat)(h:List Nat)(f:iU):cy first 0 h f=f:=by
 funext j;unfold cy;rw[if_neg aq]
theorem uA(first k:Nat)(h:List Nat)(f:iU):cy first k h f (first+k)=f (first+k):=by unfold cy;rw[if_neg aq]
theorem yK(first k:Nat)(h:List Nat)(f:iU):TN (cy first k h f) (first+k) (f (first+k)++[h])=cy first (k+1) h f:=by
 funext j;unfold TN cy;by_cases a:j=first+k
 subst a;rw[if_pos rfl,if_pos aq]
 ·rw[if_neg a];by_cases b:first≤j∧j<first+k
  rw[if_pos b,if_pos aq];rw[if_neg b,if_neg aq]
def JS(inner:List Nat)(xs:List (List Nat))(c a b:List AV)(f:iU):Hp :=
 (74,⟨174,34,[c]⟩)::(42,⟨174,34,[a]⟩)::(10,⟨174,34,[b]⟩)::(0,⟨33,34,lc inner sV f xs⟩)::j9 1 8 f
theorem kR{inner:List Nat}{xs:List (List Nat)}{d c e:List AV}{f:iU}{hp:Hp}{nx N:Nat}(o:100≤N)(q:xs.length≤8)(h:∀v,v∈d→v.low1 N)(m:∀v,v∈c→v.low1 N)(hc:∀v,v∈e→v.low1 N)
  (i:lk 74 hp=some ⟨174,34,[d]⟩) (l:lk 42 hp=some ⟨174,34,[c]⟩) (h3:lk 10 hp=some ⟨174,34,[e]⟩) (k:lk 0 hp=some ⟨33,34,lc inner sV f xs⟩) (n:∀j,j<8→lk (sV j) hp=some (pB (f j))) :
  ∀p,p∈JS inner xs d c e f→(lk p.1 hp=some p.2∨(nx≤p.1∧p.2.es=[]))∧p.1<N∧∀r,r∈p.2.es→∀v,v∈r→v.low1 N:=by
 intro p a;unfold JS at a;simp only[d_]at a;rcases a with rfl|rfl|rfl|rfl|a;exact⟨.inl i,by show 74<N;omega,by intro r b;simp at b;subst b;exact h⟩;exact⟨.inl l,by show 42<N;omega,by intro r b;simp at b;subst b;exact m⟩;exact⟨.inl h3,by show 10<N;omega,by intro r b;simp at b;subst b;exact hc⟩;exact⟨.inl k,by show 0<N;omega,Hi (fun j g=>by show 1+j<N;omega)⟩
 obtain⟨j,g,rfl⟩:=jz 8 1 f p a;exact⟨.inl (n j g),by show 1+j<N;omega,Fb _ _⟩
theorem LR(inner a b:List Nat)(xs:List (List Nat))(f:iU)(i w l t:Nat)(hi:inner.length=32)(o:a.length=32)(p:b.length=32)(L:xs.length≤8)(h1:i+w≤xs.length)(h2:l+t≤xs.length)(hf:∀j,(f j).length≤100) :
  c7 Tryz.prog 112 9 ((0,⟨33,34,lc inner sV f xs⟩)::j9 1 8 f) [.own 0 0 xs.length xs.length,.agg (bH a i w),.agg (bH b l t)]
   (fun r O=>r=.agg (bH (cq a b) i (w+t))∧lk 0 O=some ⟨33,34,lc inner sV (cy l t a (cy i w b f)) xs⟩∧∀j,j<8→lk (sV j) O=some (pB (cy l t a (cy i w b f) j))):=by
 refine aB Tryz.func112 (by kernel_rfl) rfl Tryz.ntmps112 (rs:=[.cell 6 174]) rfl (fD rfl) (fD rfl) ?_;have B:=kQ o i w;have sb:=kQ p l t;have w1:IntKind.i64.wrap ((i:Int)+w)=((i+w:Nat):Int):=by rw[IntWalk.i64_in _ aq];omega
 have w2:IntKind.i64.wrap ((l:Int)+t)=((l+t:Nat):Int):=by rw[IntWalk.i64_in _ aq];omega
 have M:(bH z32 0 0).length=34:=rfl;simp[go_sem,B,sb,M,dJ o,dJ p,jB o,jC o,jB p,jC p,jA,w1,-Int.natCast_add];refine⟨aq,?_⟩
 refine au (fun k:Nat=>⟨[(0,.own 0 0 xs.length xs.length),(4,.ptr 10 0 0 1),(5,.ptr 42 0 0 1),(6,.ptr 74 0 0 1),(20,.d (.int .i64 (w:Int))),(21,.d (.int .i64 (k:Int)))],
   JS inner xs (bH z32 0 0) (bH b l t) (bH a i w) (cy i k b f),10000⟩)
  (fun k=>k≤w) (fun k=>w-k) 0 aq (by
   rw[yJ];refine⟨?_,?_,aw⟩;simp[ah,fv,lk,AV.low,AV.low1]
   exact kR (fD rfl) L (cT _ _ _ _) (cT _ _ _ _) (cT _ _ _ _) rfl rfl rfl rfl (fun j n=>by simp[lk,lI n,pQ,lJ n])) ?_
 intro k hk;simp only[JS];simp only[go_sem,Nat.reduceEqDiff,Nat.reduceAdd,Nat.reduceLT,↓reduceIte,Nat.reduceMul];refine⟨fun h=>?_,fun h=>?_⟩
 ·have n:i+k<xs.length:=aq;obtain⟨x,N⟩:∃x,xs[i+k]?=some x:=⟨_,cm n⟩;have w3:=az (k:=k) aq;have V:IntKind.i64.wrap ((i:Int)+k)=((i+k:Nat):Int):=by rw[IntWalk.i64_in _ aq];omega
  have A:=Ah (inner:=inner) (idf:=sV) (f:=cy i k b f) N;have I:=fun q=>Hh (inner:=inner) (idf:=sV) (f:=cy i k b f) q N;have z:i+k<8:=aq;have J:=lI z;have X:=pQ (i+k);rw[uA]at A;simp[go_sem,B,sb,M,dJ o,dJ p,jB o,jC o,jB p,jC p,qj o,jA,V,-Int.natCast_add];refine⟨aq,?_⟩
  have D:∀(f:iU)(c:Nat),9≤c→∀(a:Nat)(b:Blk),(a,b)∈j9 1 8 f→¬c=a:=by
   intro f c hc a b E e;obtain⟨j,n,R⟩:=jz 8 1 f _ E;simp only[Prod.mk.injEq]at R;omega
  refine cO [1,2,3,4,5,6] [0,7,8,9,10,11] [1,2,3,4,5,6] (.alt (bt 0 (bt 7 (a_ [8,9,10,11]))) (bt 7 (.alt (bt 0 (a_ [8,9,10,11])) (a_ [8,0,9,10,11])))) ⟨[(0,.own 0 0 xs.length xs.length),(4,.ptr 10 0 0 1),(5,.ptr 42 0 0 1),(6,.ptr 74 0 0 1),(20,.d (.int .i64 (w:Int))),(21,.d (.int .i64 (k:Int)))],JS inner xs (bH z32 0 0) (bH b l t) (bH a i w) (cy i (k+1) b f),20000⟩ (k:=12) ?h3 ?hq
  case h3 =>
   intro G Q;have U:∀(y:Fr)(H:Hp),(fv 0 y=.own 0 0 xs.length xs.length∧fv 4 y=.ptr 10 0 0 1∧fv 5 y=.ptr 42 0 0 1∧fv 6 y=.ptr 74 0 0 1∧fv 20 y=.d (.int .i64 (w:Int))∧fv 21 y=.d (.int .i64 (k:Int)) ∧
     H=(10544,⟨29,32,[cb b]⟩)::(74,⟨174,34,[bH z32 0 0]⟩)::(42,⟨174,34,[bH b l t]⟩)::(10,⟨174,34,[bH a i w]⟩)::(0,⟨33,34,lc inner sV (cy i (k+1) b f) xs⟩)::j9 1 8 (cy i (k+1) b f))→G y H:=by
    rintro y H⟨Y,q1,Z,q3,S,T,rfl⟩;refine Q _ _ (aV ⟨?_,?_,aw⟩);simp[ah,AV.low,AV.low1,Y,q1,Z,q3,S,T];exact kR (fD rfl) L (cT _ _ _ _) (cT _ _ _ _) (cT _ _ _ _) rfl rfl rfl rfl (fun j n=>by simp[lk,lI n,pQ,lJ n])
   have s:=I (f (i+k)++[b]);have m:=CQ (f:=cy i k b f) (f (i+k)++[b]) z;rw[yK]at s m;simp[ar,pB]at s m;have W:=hf (i+k);simp[go_sem,sb,A,p,hi,ar,iQ hi,uz p,lJ z,jA,J,X,uA,TP,Zu,TQ,vY hi,s,m]
   repeat' apply And.intro
   all_goals first|exact U _ _ (by simp[fv,lk])|omega|exact fun a c E e=>absurd e (D _ _ aq _ _ E)
  case hq =>
   simp[go_sem,w3];refine am (k+1) aq aq ⟨?_,?_,aw⟩
   simp[ah,fv,lk,AV.low,AV.low1];exact kR (fD rfl) L (cT _ _ _ _) (cT _ _ _ _) (cT _ _ _ _) rfl rfl rfl rfl (fun j n=>by simp[JS,lk,lI n,pQ,lJ n])
 ·have C:k=w:=aq;subst C;simp[go_sem,B,sb,M,dJ o,dJ p,jB o,jC o,jB p,jC p,qj o,vZ o,qj p,vZ p,jA,w2,-Int.natCast_add];refine⟨aq,?_⟩
  have hg:∀j,(cy i k b f j).length≤101:=by
   intro j;have:=hf j;unfold cy;split;simp;omega;omega
  have ab:i+k≤8:=aq;generalize cy i k b f=g at *;clear hk h w1;revert B;revert h1;generalize k=F;intro h1 B;refine au (fun k:Nat=>⟨[(0,.own 0 0 xs.length xs.length),(4,.ptr 10 0 0 1),(5,.ptr 42 0 0 1),(6,.ptr 74 0 0 1),(51,.d (.int .i64 (t:Int))),(52,.d (.int .i64 (k:Int)))],
    JS inner xs (bH z32 0 0) (bH b l t) (bH a i F) (cy l k a g),10000⟩)
   (fun k=>k≤t) (fun k=>t-k) 0 aq (by
    rw[yJ];refine⟨?_,?_,aw⟩;simp[ah,fv,lk,AV.low,AV.low1]
    exact kR (fD rfl) L (cT _ _ _ _) (cT _ _ _ _) (cT _ _ _ _) rfl rfl rfl rfl (fun j n=>by simp[lk,lI n,pQ,lJ n])) ?_
  intro k hk;simp only[JS];simp only[go_sem,Nat.reduceEqDiff,Nat.reduceAdd,Nat.reduceLT,↓reduceIte,Nat.reduceMul];refine⟨fun h=>?_,fun h=>?_⟩
  ·have n:l+k<xs.length:=aq;obtain⟨x,N⟩:∃x,xs[l+k]?=some x:=⟨_,cm n⟩;have w3:=az (k:=k) aq;have V:IntKind.i64.wrap ((l:Int)+k)=((l+k:Nat):Int):=by rw[IntWalk.i64_in _ aq];omega
   have A:=Ah (inner:=inner) (idf:=sV) (f:=cy l k a g) N;have I:=fun q=>Hh (inner:=inner) (idf:=sV) (f:=cy l k a g) q N;have z:l+k<8:=aq;have J:=lI z;have X:=pQ (l+k);rw[uA]at A;simp[go_sem,B,sb,M,dJ o,dJ p,jB o,jC o,jB p,jC p,qj p,jA,V,-Int.natCast_add];refine⟨aq,?_⟩
   have D:∀(f:iU)(c:Nat),9≤c→∀(u:Nat)(v:Blk),(u,v)∈j9 1 8 f→¬c=u:=by
    intro f c hc u v E e;obtain⟨j,n,R⟩:=jz 8 1 f _ E;simp only[Prod.mk.injEq]at R;omega
   refine cO [1,2,3,4,5,6] [0,7,8,9,10,11] [1,2,3,4,5,6] (.alt (bt 0 (bt 7 (a_ [8,9,10,11]))) (bt 7 (.alt (bt 0 (a_ [8,9,10,11])) (a_ [8,0,9,10,11])))) ⟨[(0,.own 0 0 xs.length xs.length),(4,.ptr 10 0 0 1),(5,.ptr 42 0 0 1),(6,.ptr 74 0 0 1),(51,.d (.int .i64 (t:Int))),(52,.d (.int .i64 (k:Int)))],JS inner xs (bH z32 0 0) (bH b l t) (bH a i F) (cy l (k+1) a g),20000⟩ (k:=12) ?h3 ?hq
   case h3 =>
    intro G Q;have U:∀(y:Fr)(H:Hp),(fv 0 y=.own 0 0 xs.length xs.length∧fv 4 y=.ptr 10 0 0 1∧fv 5 y=.ptr 42 0 0 1∧fv 6 y=.ptr 74 0 0 1∧fv 51 y=.d (.int .i64 (t:Int))∧fv 52 y=.d (.int .i64 (k:Int)) ∧
      H=(10544,⟨29,32,[cb a]⟩)::(74,⟨174,34,[bH z32 0 0]⟩)::(42,⟨174,34,[bH b l t]⟩)::(10,⟨174,34,[bH a i F]⟩)::(0,⟨33,34,lc inner sV (cy l (k+1) a g) xs⟩)::j9 1 8 (cy l (k+1) a g))→G y H:=by
     rintro y H⟨Y,q1,Z,q3,S,T,rfl⟩;refine Q _ _ (aV ⟨?_,?_,aw⟩);simp[ah,AV.low,AV.low1,Y,q1,Z,q3,S,T];exact kR (fD rfl) L (cT _ _ _ _) (cT _ _ _ _) (cT _ _ _ _) rfl rfl rfl rfl (fun j n=>by simp[lk,lI n,pQ,lJ n])
    have s:=I (g (l+k)++[a]);have m:=CQ (f:=cy l k a g) (g (l+k)++[a]) z;rw[yK]at s m;simp[ar,pB]at s m;have W:=hg (l+k);simp[go_sem,B,A,o,hi,ar,iQ hi,uz o,lJ z,jA,J,X,uA,TP,Zu,TQ,vY hi,s,m]
    repeat' apply And.intro
    all_goals first|exact U _ _ (by simp[fv,lk])|omega|exact fun a c E e=>absurd e (D _ _ aq _ _ E)
   case hq =>
    simp[go_sem,w3];refine am (k+1) aq aq ⟨?_,?_,aw⟩
    simp[ah,fv,lk,AV.low,AV.low1];exact kR (fD rfl) L (cT _ _ _ _) (cT _ _ _ _) (cT _ _ _ _) rfl rfl rfl rfl (fun j n=>by simp[JS,lk,lI n,pQ,lJ n])
  ·have C:k=t:=aq;subst C;have w5:IntKind.i64.wrap ((F:Int)+k)=((F+k:Nat):Int):=by rw[IntWalk.i64_in _ aq];omega
   have K:=iC a b;skip;refine cO [0,1,2,3,5,6,7,8,9,10,11] [4,13] [0,1,2,3,5,6,7,8,9,10,11,12] (.step 4 [12] true (a_ [13])) ⟨[(6,.ptr 74 0 0 1)],JS inner xs (bH (cq a b) i (F+k)) (bH b l k) (bH a i F) (cy l k a g),30000⟩ (k:=14) ?h3 ?hq
   case h3 =>
    intro G Q;simp[go_sem,B,sb,M,uz o,uz p,o,p,dJ o,dJ p,jB o,jC o,jB p,jC p,qj o,vZ o,qj p,vZ p,w5,-Int.natCast_add];refine ag (yC a b o p) (by intro v hv;simp at hv;rcases hv with rfl|rfl<;>exact aW _) ?_;have hz:List.drop 32 (bH z32 0 0)=[.d (.int .i64 0),.d (.int .i64 0)]:=rfl;have aa:List.drop 34 (bH z32 0 0)=[]:=rfl;have e1:=Hj K;have R:=Ai K;have e3:=Aj K;simp[go_sem,K,al K,aj,M,hz,aa,e1,R,e3];refine Q _ _ (aV ⟨?_,?_,aw⟩)
    simp[ah,fv,lk,AV.low,AV.low1];exact kR (fD rfl) L (cT _ _ _ _) (cT _ _ _ _) (cT _ _ _ _) (by simp[lk,bH]) rfl rfl rfl (fun j n=>by simp[lk,lI n,pQ,lJ n])
   case hq =>
    simp[go_sem,JS,dJ K,kQ K];intro j n;simp[lI n,pQ,lJ n]
def ke(j:Nat):Nat:=20000+j
def nU:List (Nat×Nat):=[(0,10000),(1,20000),(2,20001),(3,20002),(4,20003),(5,20004),(6,20005),(7,20006),(8,20007)]
theorem jT(ρ:Nat→Nat):∀l:List AV,AV.renL ρ l=l.map (AV.ren ρ)
 |[]=>rfl
 |a::r=>by rw[AV.renL,List.map_cons,jT ρ r]
theorem Fe(ρ:Nat→Nat)(l:List Nat):(cb l).map (AV.ren ρ)=cb l:=by simp[cb,AV.ren]
theorem CS{ρ:Nat→Nat}{inner:List Nat}{idf a:Nat→Nat}{f:iU}{xs:List (List Nat)}(h:∀j,j<xs.length→ρ (idf j)=a j):aS ρ (lc inner idf f xs)=lc inner a f xs:=by
 apply List.ext_getElem?;intro i;simp only[aS,lc,cU,List.getElem?_mapIdx,Option.map_map];cases b:xs[i]? with
 |none=>rfl
 |some x =>
  have c:=(ci.1 b).1;simp[ar,jT,Fe,AV.ren,h i c]
theorem LS(ρ:Nat→Nat)(q:List (List Nat)):(pB q).ren ρ=pB q:=by
 unfold Blk.ren pB;simp only[aS,List.map_map,Blk.mk.injEq,true_and];apply List.map_congr_left;intro l _;simp only[Function.comp_apply,jT,Fe]
theorem CU(ρ:Nat→Nat)(h:List Nat)(a b:Nat):(AV.agg (bH h a b)).ren ρ=.agg (bH h a b):=by
 rw[AV.ren,jT,bH,List.map_append,Fe];rfl
theorem acx:∀j,j<8→bX (iy nU) 9 (ke j)=sV j:=by decide
theorem acy(N:Nat):∀j,j<8→bX (bF nU [] N) (N+31) (sV j)=ke j:=by
 have h:∀j,j<8→lk (sV j) nU=some (ke j):=by decide
 intro j a;unfold bX bF;rw[List.map_nil,List.append_nil,h j a];rfl
theorem LU{f:iU}{i:Nat}(h:i<20000∨20008≤i):lk i (j9 20000 8 f)=none:=by
 cases a:lk i (j9 20000 8 f)with
 |none=>rfl
 |some b =>
  obtain⟨j,c,e⟩:=jz 8 20000 f _ (bN a);simp only[Prod.mk.injEq]at e;omega
theorem CV{f:iU}{i:Nat}{r:Hp}(h:i<20000∨20008≤i):lk i (j9 20000 8 f++r)=lk i r:=by
 rw[nL,LU h]
theorem yL{i:Nat}{b:Blk}:∀{a r:Hp},(∀p,p∈a→p.1≠i)→bJ i b (a++r)=a++bJ i b r
 |[],r,_=>rfl
 |(m,v)::t,r,h=>by
  rw[List.cons_append,bJ,if_neg (h _ (dz ..)),yL (fun p c=>h p (cS _ c))];rfl
theorem Ff{f:iU}{i:Nat}{b:Blk}{r:Hp}(h:i<20000∨20008≤i):bJ i b (j9 20000 8 f++r)=j9 20000 8 f++bJ i b r :=
 yL (fun p a=>by
  obtain⟨j,c,rfl⟩:=jz 8 20000 f p a;show 20000+j≠i
  omega)
theorem VQ{f:iU}{j:Nat}{r:Hp}(h:j<8):lk (ke j) (j9 20000 8 f++r)=some (pB (f j)):=by
 rw[nL,show lk (ke j) (j9 20000 8 f)=some (pB (f j))from nT 8 20000 f j h]
theorem LV{P:Program}{N:Nat}{K:AV→Hp→Prop}{pre:Hp}(inner a b:List Nat)(xs:List (List Nat))(f:iU)(e d k c:Nat)(Q:xs.length≤8)
  (M:c7 P 112 9 ((0,⟨33,34,lc inner sV f xs⟩)::j9 1 8 f) [.own 0 0 xs.length xs.length,.agg (bH a e d),.agg (bH b k c)]
   (fun r l=>r=.agg (bH (cq a b) e (d+c))∧lk 0 l=some ⟨33,34,lc inner sV (cy k c a (cy e d b f)) xs⟩∧∀j,j<8→lk (sV j) l=some (pB (cy k c a (cy e d b f) j))))
  (n:∀p,p∈pre→p.1≠10000∧(p.1<20000∨20008≤p.1))
  (F:K (.agg (bH (cq a b) e (d+c))) ((10000,⟨33,34,lc inner ke (cy k c a (cy e d b f)) xs⟩)::(j9 20000 8 (cy k c a (cy e d b f))++pre))) :
  uh P 112 [.own 10000 0 xs.length xs.length,.agg (bH a e d),.agg (bH b k c)] (pre++(10000,⟨33,34,lc inner ke f xs⟩)::j9 20000 8 f) N K:=by
 have g:∀i,(i=10000∨(20000≤i∧i<20008))→lk i pre=none:=by
  intro i O;cases I:lk i pre with
  |none=>rfl
  |some b =>
   have:=n _ (bN I);simp only at this;omega
 have q:lk 10000 (pre++(10000,⟨33,34,lc inner ke f xs⟩)::j9 20000 8 f)=some ⟨33,34,lc inner ke f xs⟩:=by
  rw[nL,g 10000 (.inl rfl)];rfl
 have lP:∀j,j<8→lk (ke j) (pre++(10000,⟨33,34,lc inner ke f xs⟩)::j9 20000 8 f)=some (pB (f j)):=by
  intro j m;rw[nL,g (ke j) (.inr ⟨by unfold ke;omega,by unfold ke;omega⟩)];show lk (ke j) ((10000,_)::j9 20000 8 f)=_;rw[lk,if_neg (by unfold ke;omega)];exact nT 8 20000 f j m
 have t:∀p,p∈nU→p=(0,10000)∨∃j,j<8∧p=(sV j,ke j):=by decide
 refine aZ nU M rfl ?_ ?_ ?_ ?_ ?_;decide;intro p h;rcases t p h with rfl|⟨j,m,rfl⟩;exact⟨_,q,aw⟩;exact⟨_,lP j m,by simp[pB]⟩;intro p h;rcases d_.1 h with rfl|h;refine⟨10000,_,rfl,q,?_⟩;simp only[Blk.ren,Blk.mk.injEq,true_and];exact(CS (fun j m=>acx j aq)).symm;obtain⟨j,m,rfl⟩:=jz 8 1 f p h;have v:∀j,j<8→lk (1+j) nU=some (ke j):=by decide
 exact⟨ke j,_,v j m,lP j m,(LS _ _).symm⟩;simp only[jT,List.map_cons,List.map_nil,CU];rfl;rintro r l⟨rfl,L,o⟩;refine⟨[],rfl,?_⟩;rw[CU];have H:bZ nU [] N l (pre++(10000,⟨33,34,lc inner ke f xs⟩)::j9 20000 8 f)=(10000,⟨33,34,lc inner ke (cy k c a (cy e d b f)) xs⟩)::(j9 20000 8 (cy k c a (cy e d b f))++pre):=by
  unfold bZ;have u:((pre++(10000,⟨33,34,lc inner ke f xs⟩)::j9 20000 8 f).filter fun p=>!(nU.map (·.2)).contains p.1)=pre:=by
   rw[List.filter_append];have J:pre.filter (fun p=>!(nU.map (·.2)).contains p.1)=pre:=by
    rw[List.filter_eq_self];intro p h;have:=n p h;simp[nU];omega
   have G:((10000,(⟨33,34,lc inner ke f xs⟩:Blk))::j9 20000 8 f).filter (fun p=>!(nU.map (·.2)).contains p.1)=[]:=by
    rw[List.filter_eq_nil_iff];intro p h;rcases d_.1 h with rfl|h;simp[nU];obtain⟨j,m,rfl⟩:=jz 8 20000 f p h;simp[nU];omega
   rw[J,G,List.append_nil]
  rw[u,←List.cons_append];congr 1;have x:=o 0 aq;have z:=o 1 aq;have B:=o 2 aq;have E:=o 3 aq;have C:=o 4 aq;have D:=o 5 aq;have y:=o 6 aq;have A:=o 7 aq;simp only[sV,Nat.reduceAdd]at x z B E C D y A;have w:(⟨33,34,lc inner sV (cy k c a (cy e d b f)) xs⟩:Blk).ren (bX (bF nU [] N) (N+31))=⟨33,34,lc inner ke (cy k c a (cy e d b f)) xs⟩:=by
   simp only[Blk.ren,Blk.mk.injEq,true_and];exact CS (fun j m=>acy N j aq)
  have s:bF nU [] N=nU:=by simp[bF]
  rw[s]at w⊢;simp only[nU]at w⊢;simp[L,x,z,B,E,C,D,y,A,LS,j9,w]
 rw[H];exact F
end Go.Proofs.YtmfnimjnneflnaaGreat
namespace Go.Am
def VR(n:Nat)(v a:AV):Prop:=a=v∨(v=.nil∧∃id,id<n∧a=.own id 0 0 0)
def QB(n:Nat)(v a:AV):Prop:=a=v∨(v=.nil∧∃id,id<n∧a=.own id 0 0 0)∨(v=.nil∧∃e,a=.d (.ro e []))
theorem yM{st:St}{L:Nat}{b:Blk}{es':List (List AV)}(W:lk L st.hp=some b)(hz:b.e≠0)(hl:es'.length=b.es.length)
  (hc:∀(i:Nat)(x G:List AV),b.es[i]?=some x→es'[i]?=some G→G.length=x.length∧∀(j:Nat)(v U:AV),x[j]?=some v→G[j]?=some U→QB st.nx v U):Wk st ⟨st.fr,bJ L ⟨b.ty,b.e,es'⟩ st.hp,st.nx⟩:=by
 intro c a w hs;obtain⟨h1,h2,σ,r,hf,u⟩:=hs;have l:∀i k,lk i (bJ L ⟨b.ty,b.e,es'⟩ st.hp)=some k→∃p,lk i st.hp=some p∧k.ty=p.ty∧k.e=p.e∧k.es.length=p.es.length∧(i≠L→k=p)∧(i=L→k=⟨b.ty,b.e,es'⟩∧p=b):=by
  intro i k h;rw[km]at h;by_cases m:i=L;subst m;rw[if_pos rfl,W]at h;simp only[Option.map_some,Option.some.injEq]at h;subst h;exact⟨b,W,rfl,rfl,hl,fun e=>absurd rfl e,fun _=>⟨rfl,rfl⟩⟩;rw[if_neg m]at h;exact⟨k,h,rfl,rfl,rfl,fun _=>rfl,fun e=>absurd e m⟩
 have hS:∀p,bD c w σ st.hp p→bD c w σ (bJ L ⟨b.ty,b.e,es'⟩ st.hp) p:=fun p t=>⟨⟨t.1.1,fun id N g h B=>by
  obtain⟨f,o,_⟩:=l id N h
  exact t.1.2 id f g o B⟩,t.2⟩
 have step:Step w (bD c w σ st.hp) σ st.hp (fun i=>i<st.nx) w (bD c w σ (bJ L ⟨b.ty,b.e,es'⟩ st.hp)) σ (bJ L ⟨b.ty,b.e,es'⟩ st.hp) (fun i=>i<st.nx) :=
  ⟨hS,fun _ _=>rfl,fun _ h=>h,fun id k _ h=>by
   obtain⟨f,o,z,E,Q,_⟩:=l id k h
   exact⟨f,o,E,z,aq,fun _ g B=>⟨B,fun _ h=>h⟩⟩⟩
 refine⟨h1,h2,σ,⟨fun i j bi bj g m D I J=>?_,fun i k h=>?_,fun i k h=>?_,fun i k g h B=>?_,r.os,r.tape,r.output,r.size,r.old⟩,fun n=>(hf n).step step,u.trans step⟩;obtain⟨f,o,_⟩:=l i bi m;obtain⟨b2,z,_⟩:=l j bj D;exact r.inj i j f b2 g o z I J;obtain⟨f,o,_⟩:=l i k h;exact r.lt i f o;obtain⟨f,o,z,E,Q,T,K⟩:=l i k h;rcases r.blk i f o with ⟨F,k2⟩|⟨g,F,R,k2,k3,k4,k5,Y⟩;refine .inl ⟨F,?_⟩;by_cases m:i=L;obtain⟨rfl,rfl⟩:=K m;have:=k2.none hz;exact .inl (List.length_eq_zero_iff.1 (by rw[Q,this];rfl));rw[T m];exact k2;refine .inr ⟨g,F,R,by rw[z];exact k2,k3,?_,by rw[Q,E];exact k5,?_⟩;by_cases m:i=L;obtain⟨rfl,rfl⟩:=K m;intro x Z;obtain⟨n,X,rfl⟩:=List.mem_iff_getElem.1 Z;have q:n<f.es.length:=by simp only at X;omega
 obtain⟨V,_⟩:=hc n f.es[n] _ (cm q) (cm X);rw[V];exact k4 _ (List.getElem_mem _);rw[T m];exact k4;intro s j x y v C S H;rw[E]at H;by_cases m:i=L;obtain⟨rfl,rfl⟩:=K m;have q:s<f.es.length:=by have:=(ci.1 C).1;simp only at this;omega
 obtain⟨V,q2⟩:=hc s f.es[s] x (cm q) C;have D:j<f.es[s].length:=by have:=(ci.1 S).1;omega
 have A:=Y s j f.es[s] f.es[s][j] v (cm q) (cm D) H;rcases q2 j _ y (cm D) S with rfl|⟨M,id,O,rfl⟩|⟨M,e,rfl⟩;exact A.step step;rw[M]at A;cases A with
 |nil=>exact .own id 0 0 0 none 0 O (cL _) (fun _=>rfl) fun b2 aa=>⟨Nat.zero_le _,fun _=>⟨cL _,cL _,fun h=>aq⟩⟩
 ·rw[M]at A;cases A with
  |nil=>exact .d (.ro e [] none 0 (fun _ _=>undef) (cL _) aw aw aw aw)
 ·rw[T m]at C;exact(Y s j x y v C S H).step step
 ·obtain⟨f,o,_⟩:=l i k h;exact r.mine i f g o B
theorem LW{st:St}{L:Nat}{b:Blk}{es':List (List AV)}(g:lk L st.hp=some b)(hz:b.e≠0)(l:es'.length=b.es.length)
  (hc:∀(i:Nat)(x a:List AV),b.es[i]?=some x→es'[i]?=some a→a.length=x.length∧∀(j:Nat)(v c:AV),x[j]?=some v→a[j]?=some c→VR st.nx v c):Wk st ⟨st.fr,bJ L ⟨b.ty,b.e,es'⟩ st.hp,st.nx⟩ :=
 yM g hz l fun i x a d f=>⟨(hc i x a d f).1,fun j v c h k=>((hc i x a d f).2 j v c h k).imp id .inl⟩
end Go.Am
namespace Go.Proofs.YtmfnimjnneflnaaGreat
open Go.Am Go.Sha
abbrev Row:=List (List Nat×Nat)
def CW(h:List Nat)(s m:Nat):List DV:=cd h++[.int .i64 (s:Int),.int .i64 (m:Int)]
def lK:Nat→Row→List (List DV)
 |_,[]=>[]
 |s,p::r=>CW p.1 s p.2::lK (s+p.2) r
theorem CX(h:List Nat)(s m:Nat):(CW h s m).map AV.d=bH h s m:=by simp[CW,bH,cQ]
theorem v8{h:List Nat}(a:h.length=32)(s m:Nat):(CW h s m).length=34:=by simp[CW,bV,a]
theorem mO:∀(s:Nat)(r:Row),(lK s r).length=r.length
 |_,[]=>rfl
 |s,p::r=>by rw[lK,List.length_cons,List.length_cons,mO]
def gJ(r:Row):Nat:=(r.map (·.2)).sum
theorem uB:∀(s:Nat)(a b:Row),lK s (a++b)=lK s a++lK (s+gJ a) b
 |s,[],b=>by simp[lK,gJ]
 |s,p::a,b=>by
  rw[List.cons_append,lK,lK,uB (s+p.2) a b,List.cons_append];congr 2;simp[gJ,Nat.add_assoc]
theorem we:∀(s:Nat)(r:Row),(∀p,p∈r→p.1.length=32)→∀x,x∈lK s r→x.length=34
 |_,[],_,x,h=>by simp[lK]at h
 |s,p::r,hp,x,h=>by
  rcases d_.1 h with rfl|h;exact v8 (hp p (dz ..)) _ _;exact we _ r (fun q a=>hp q (cS _ a)) x h
theorem Ak(n s:Nat)(r:Row):∀x,x∈(lK s r).map (fun q=>q.map AV.d)→∀v,v∈x→v.low1 n:=by
 intro x b v a;obtain⟨q,_,rfl⟩:=List.mem_map.1 b;obtain⟨d,_,rfl⟩:=List.mem_map.1 a;trivial
def dG:Row→Row
 |a::b::r=>(cq a.1 b.1,a.2+b.2)::dG r
 |r=>r
def fF:Nat→Row→iU→iU
 |s,a::b::r,f=>fF (s+a.2+b.2) r (cy (s+a.2) b.2 a.1 (cy s a.2 b.1 f))
 |_,_,f=>f
theorem nV:∀r:Row,2*(dG r).length≤r.length+1
 |[]=>by simp[dG]
 |[a]=>by simp[dG]
 |a::b::r=>by
  have:=nV r;simp only[dG,List.length_cons];omega
theorem qk:∀r:Row,gJ (dG r)=gJ r
 |[]=>rfl
 |[a]=>rfl
 |a::b::r=>by
  have:=qk r;simp only[dG,gJ,List.map_cons,List.sum_cons]at this⊢;omega
theorem uC:∀r:Row,(∀p,p∈r→p.1.length=32)→∀p,p∈dG r→p.1.length=32
 |[],h=>h
 |[a],h=>h
 |a::b::r,h=>by
  intro p c;rcases d_.1 c with rfl|c;exact iC _ _;exact uC r (fun q d=>h q (by simp[d])) p c
def dP:Nat→Row→iU→Row×iU
 |0,r,f=>(r,f)
 |n+1,r,f=>if 1<r.length then dP n (dG r) (fF 0 r f)else(r,f)
theorem Fg{n:Nat}{r:Row}{f:iU}(h:r.length≤1):dP n r f=(r,f):=by
 cases n with
 |zero=>rfl
 |succ n=>rw[dP,if_neg aq]
def fj(xs:List (List Nat)):Row:=xs.map fun x=>(db x,1)
theorem qm(xs:List (List Nat)):gJ (fj xs)=xs.length:=by
 induction xs with
 |nil=>rfl
 |cons a r ih=>simp only[fj,gJ,List.map_cons,List.sum_cons,List.length_cons]at ih⊢;omega
theorem rJ(xs:List (List Nat)):∀p,p∈fj xs→p.1.length=32:=by
 intro p a;obtain⟨x,_,rfl⟩:=List.mem_map.1 a;exact kt x
theorem LX(a b:List (List Nat)):fj (a++b)=fj a++fj b:=by simp[fj]
def bp(xs:List (List Nat)):iU:=(dP 7 (fj xs) fun _=>[]).2
theorem rK{first k:Nat}{h:List Nat}{f:iU}{B s:Nat}(b:∀j,(f j).length≤if j<s then B+1 else B)(c:s≤first):∀j,((cy first k h f) j).length≤if j<first+k then B+1 else B:=by
 intro j;have:=b j;unfold cy;by_cases a:first≤j∧j<first+k
 rw[if_pos a,if_pos a.2];rw[if_neg aq]at this;simp;omega;rw[if_neg a];split at this;rw[if_pos aq];omega;split<;>omega
def dY(inner:List Nat)(l:List (List Nat)×List Nat):List DV:=cd inner++[bS l.1,nb l.2]
theorem ku{inner:List Nat}(hi:inner.length=32)(l:List (List Nat)×List Nat):(dY inner l).length=34:=by simp[dY,bV,hi]
theorem oV(inner:List Nat)(l:List (List Nat)×List Nat):(dY inner l).map AV.d=ar inner (.d (bS l.1)) (.d (nb l.2)):=by simp[dY,ar,cQ]
theorem Fh(inner:List Nat)(a b:DV):(AV.agg (ar inner (.d a) (.d b))).deep:=by
 intro c hc;unfold ar at hc;rcases cD.1 hc with h|h;exact aW _ _ h;simp at h;rcases h with rfl|rfl<;>trivial
theorem jk{inner:List Nat}(hi:inner.length=32)(a b:AV):(ar inner a b).length=34:=by simp[ar,aj,hi]
theorem jl{inner:List Nat}(hi:inner.length=32)(a b:AV):List.take 34 (ar inner a b)=ar inner a b:=cx (by rw[jk hi];exact cL _)
theorem mP(inner:List Nat)(a b:DV):∀v,v∈[AV.agg (ar inner (.d a) (.d b))]→v.deep:=by
 intro v c;simp at c;subst c;exact Fh _ _ _
theorem LY(inner:List Nat)(l:List (List Nat)×List Nat)(O:List Nat)(e:Int)(hi:inner.length=32)
  (g:ap Tryz.prog 46 [.agg (ar inner (.d (bS l.1)) (.d (nb l.2)))] (fun r=>r=.tup [.d (nb O),.d (.int .i64 e)])) :
  ap Tryz.prog 113 [.agg (ar inner (.d (bS l.1)) (.d (nb l.2)))] (fun r=>r=.d (.bool (!decide (e=0)))):=by
 refine bz Tryz.func113 Tryz.ntmps113 (rs:=[.tmp 2]) (mP _ _ _) ?_;simp[go_sem,jk hi,jl hi];refine ag g (mP _ _ _) ?_;simp[go_sem,ai];exact ae a9 rfl
abbrev Lf:=List (List Nat)×List Nat
def rL(E:Lf→Int)(a:List Lf):Bool:=a.any fun l=>!decide (E l=0)
theorem LZ{E:Lf→Int}{l:List Lf}{k:Nat}{x:Lf}{b:Bool}(a:l.drop k=x::l.drop (k+1))(h:rL E (l.drop k)=b)(c:E x=0):rL E (l.drop (k+1))=b:=by
 rw[a]at h;rw[←h];simp[rL,c]
theorem L0{E:Lf→Int}{l:List Lf}{k:Nat}{x:Lf}{b:Bool}(a:l.drop k=x::l.drop (k+1))(h:rL E (l.drop k)=b)(c:¬E x=0):b=true:=by
 rw[a]at h;rw[←h];simp[rL,c]
theorem IY(inner:List Nat)(a:List Lf)(O:Lf→List Nat)(E:Lf→Int)(hi:inner.length=32)(p:a.length≤1000000000)
  (g:∀l,l∈a→ap Tryz.prog 46 [.agg (ar inner (.d (bS l.1)) (.d (nb l.2)))] (fun r=>r=.tup [.d (nb (O l)),.d (.int .i64 (E l))])) :
  ap Tryz.prog 154 [.d (.ro 34 (a.map (dY inner))),.fn 113 []] (fun r=>∃n:Int,r=.d (.int .i64 n)∧decide (0≤n)=rL E a):=by
 refine bz Tryz.func154 Tryz.ntmps154 (rs:=[.tmp 4]) a9 ?_;simp[go_sem]
 refine au (fun k:Nat=>⟨[(0,.d (.ro 34 (a.map (dY inner)))),(1,.fn 113 []),(7,.d (.int .i64 (a.length:Int))),(8,.d (.int .i64 (k:Int)))],[],1000⟩)
  (fun k=>k≤a.length∧rL E (a.drop k)=rL E a) (fun k=>a.length-k) 0 ⟨aq,rfl⟩ (by
   simp[av,ah,fv,lk,AV.low,AV.low1]) ?_
 rintro k⟨o,f⟩;simp only[go_sem,Nat.reduceEqDiff,Nat.reduceAdd,Nat.reduceLT,↓reduceIte,Nat.reduceMul];refine⟨fun h=>?_,fun h=>?_⟩
 ·obtain⟨x,c,j⟩:=bg (l:=a) (k:=k) aq;have m:=az (k:=k) aq;have b:=ku hi x;simp[go_sem,c,b,oV,jl hi,jk hi];refine ag (LY inner x (O x) (E x) hi (g x (cr c))) (mP _ _ _) ?_;by_cases e:E x=0
  ·simp[go_sem,e,m];refine am (k+1) ⟨aq,LZ j f e⟩ aq ?_;simp[av,ah,fv,lk,AV.low,AV.low1]
  ·have:=L0 j f e;simp[go_sem,e];exact ae a9 ⟨_,rfl,by rw[this];simp⟩
 ·have i:k=a.length:=aq;subst i;rw[List.drop_length]at f;simp[go_sem];exact ae a9 ⟨_,rfl,by rw[←f];rfl⟩
theorem An(inner:List Nat)(a:List Lf)(O:Lf→List Nat)(E:Lf→Int)(hi:inner.length=32)(c:a.length≤1000000000)
  (g:∀l,l∈a→ap Tryz.prog 46 [.agg (ar inner (.d (bS l.1)) (.d (nb l.2)))] (fun r=>r=.tup [.d (nb (O l)),.d (.int .i64 (E l))])) :
  ap Tryz.prog 114 [.d (.ro 34 (a.map (dY inner))),.fn 113 []] (fun r=>r=.d (.bool (rL E a))):=by
 refine bz Tryz.func114 Tryz.ntmps114 (rs:=[.tmp 4]) a9 ?_;simp[go_sem];refine Lm (IY inner a O E hi c g) a9 ?_;rintro r⟨n,rfl,b⟩;rw[←b];simp[go_sem];exact ae a9 rfl
def lL(f:iU)(xs:List (List Nat)):List Lf:=xs.mapIdx fun j x=>(f j,x)
theorem Ao{hp:Hp}{I:Nat→Prop}{a c:List AV}{b d:List DV}(h:CellsR hp I a b)(e:CellsR hp I c d):CellsR hp I (a++c) (b++d):=by
 induction h with
 |nil=>exact e
 |cons h t ih=>exact .cons h ih
theorem tV{hp:Hp}{I:Nat→Prop}:∀(rows:List (List AV))(es:List (List DV)),rows.length=es.length→(∀(i:Nat)(x:List AV)(y:List DV),rows[i]?=some x→es[i]?=some y→CellsR hp I x y)→RowsR hp I rows es
 |[],[],_,_=>.nil
 |[],_::_,h,_=>by simp at h
 |_::_,[],h,_=>by simp at h
 |x::rows,y::es,h,hg=>.cons (hg 0 x y rfl rfl) (tV rows es (by simpa using h) (fun i a b c d=>hg (i+1) a b (by simpa using c) (by simpa using d)))
theorem Ap(f:iU)(xs:List (List Nat)):(lL f xs).length=xs.length:=by simp[lL]
theorem CY{hp:Hp}{I:Nat→Prop}{inner:List Nat}{idf:Nat→Nat}{f:iU}{xs:List (List Nat)}{id:Nat}(hi:inner.length=32)(q:lk id hp=some ⟨33,34,lc inner idf f xs⟩)(o:I id)(g:∀j,j<xs.length→I (idf j))
  (a:∀j p,p∈f j→p.length=32) (s:∀j,j<xs.length→lk (idf j) hp=some (pB (f j))):SnapD hp I (.own id 0 xs.length xs.length) (.ro 34 ((lL f xs).map (dY inner))):=by
 refine j5 q o jA ?_ (by rw[List.length_map,Ap]) (fun r c=>?_);rw[List.drop_zero,cx (by rw[jA];exact cL _)];refine tV _ _ (by simp[jA,Ap]) (fun i x y k m=>?_);simp only[lc,lL,cU,List.getElem?_mapIdx,Option.map_map,Option.map_eq_some_iff]at k m;obtain⟨u,h,rfl⟩:=k;obtain⟨v,n,rfl⟩:=m;rw[h]at n;cases n;unfold ar;simp only[Function.comp_apply,dY];rw[←cQ];refine Ao (jg _) (.cons ?_ (.cons (.d _) .nil));have b:=(ci.1 h).1;refine eu (ty:=29) (e:=32) (es:=(f i).map cd) ?_ (g i b) aw (fun r c=>?_);rw[s i b];simp[pB,cQ];obtain⟨p,hp,rfl⟩:=List.mem_map.1 c;rw[bV];exact a i p hp;obtain⟨l,_,rfl⟩:=List.mem_map.1 c;exact ku hi l
end Go.Proofs.YtmfnimjnneflnaaGreat
