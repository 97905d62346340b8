/-
 Part 6 of what the claim rests on.
-/
import Derived.Test.YtmfnimjnneflnaaGreatX3
import Derived.Test.YtmfnimjnneflnaaGreatX4
import Derived.Lib.BytesEntry
set_option linter.unusedVariables false
set_option linter.unusedSimpArgs false
set_option maxRecDepth 100000
set_option maxHeartbeats 16000000
namespace Go.Sha
def le(x:Nat):Nat→List Nat
 |0=>[]
 |k+1=>le x k++[t8 (eQ (8*k) x)]
theorem aM(x:Nat):∀k,(le x k).length=k
 |0=>rfl
 |k+1=>by simp[le,aM x k]
end Go.Sha
namespace Go.Proofs.YtmfnimjnneflnaaGreat
open Go.Am Go.Sha
theorem xc(k x:Nat):eQ 8 (eQ (8*k) x)=eQ (8*(k+1)) x:=by
 unfold eQ;rw[Nat.div_div_eq_div_mul,←Nat.pow_add];congr 1
theorem DT(a:Nat):Int.fdiv (a:Int) 256=((eQ 8 a:Nat):Int):=gn a 256
theorem qY(b:List Nat):List.take b.length (rb b)++List.drop b.length (rb (List.replicate b.length 0))=rb b:=by
 rw[cx (by rw[aH];exact cR _),dg (by rw[aH];simp),List.append_nil]
theorem jM{Q:AV→Prop}{st:St}{id:Nat}{L:List Nat}(a:lk id st.hp=some ⟨5,1,rb L⟩)(hq:Q (.d (nb L))):dC Q (.own id 0 L.length L.length) st:=by
 have h:=sC (I:=fun _=>True) (i0:=0) (n:=L.length) a trivial aq;rw[List.drop_zero,List.take_length]at h;exact dU (ao h) a9 hq
theorem Im(b:List Nat)(x n:Nat)(l:b.length≤1000000)(o:x<256)(m:n≤8):au Tryz.prog 151 [.d (nb b),.d (.int .u8 (x:Int)),.d (.int .i64 (n:Int))] (fun r=>r=.d (nb (b++le x n))):=by
 refine bF Tryz.func151 Tryz.ntmps151 (rs:=[.tmp 6]) a9 ?_;have i:IntKind.i64.wrap ((b.length:Int)+(n:Int))=((b.length+n:Nat):Int):=by rw[IntWalk.i64_in _ aq];omega
 have f:IntKind.u64.wrap (x:Int)=(x:Int):=by rw[iK];omega
 have e:List.replicate b.length [AV.d (.int .u8 0)]=rb (List.replicate b.length 0):=by simp[rb]
 simp only[go_sem,Nat.reduceEqDiff,Nat.reduceAdd,Nat.reduceLT,↓reduceIte,i,f,nb,List.length_map,Int.toNat_natCast,e];simp[go_sem,dk,aH];rw[qY];refine⟨aq,aq,aq,aq,?_⟩
 refine av (fun k:Nat=>⟨[(7,.own 224 0 (b++le x k).length (b++le x k).length),(8,.d (.int .u64 ((eQ (8*k) x:Nat):Int))),(21,.d (.int .i64 (n:Int))),(22,.d (.int .i64 (k:Int)))],[(224,⟨5,1,rb (b++le x k)⟩)],544⟩)
  (fun k=>k≤n) (fun k=>n-k) 0 aq (by
   simp[az,ai,fv,lk,AV.low,AV.low1,le,eQ]
   exact aU _ _) ?_
 intro k q;have p:(b++le x k).length=b.length+k:=by rw[b_,aM]
 have j:rb (b++le x k)++[[AV.d (.int .u8 ((t8 (eQ (8*k) x):Nat):Int))]]=rb (b++le x (k+1)):=by rw[iF,cD];rfl
 have g:=ay (k:=k) aq;simp only[go_sem,Nat.reduceEqDiff,Nat.reduceAdd,Nat.reduceLT,↓reduceIte];refine⟨fun h=>?_,fun h=>?_⟩
 ·simp[go_sem,fY,aH,j,aM,DT,xc,g];refine⟨aq,?_⟩;refine am (k+1) aq aq ?_;simp[az,ai,fv,lk,AV.low,AV.low1];exact⟨aq,aU _ _⟩
 ·have a:k=n:=aq;subst a;simp[go_sem];have c:b.length+(le x k).length=(b++le x k).length:=by rw[b_]
  rw[c];exact jM rfl (by simp[nb])
theorem aaQ(b:List Nat)(x n:Nat)(l:b.length≤1000000)(o:x<65536)(m:n≤8):au Tryz.prog 152 [.d (nb b),.d (.int .u16 (x:Int)),.d (.int .i64 (n:Int))] (fun r=>r=.d (nb (b++le x n))):=by
 refine bF Tryz.func152 Tryz.ntmps152 (rs:=[.tmp 6]) a9 ?_;have i:IntKind.i64.wrap ((b.length:Int)+(n:Int))=((b.length+n:Nat):Int):=by rw[IntWalk.i64_in _ aq];omega
 have f:IntKind.u64.wrap (x:Int)=(x:Int):=by rw[iK];omega
 have e:List.replicate b.length [AV.d (.int .u8 0)]=rb (List.replicate b.length 0):=by simp[rb]
 simp only[go_sem,Nat.reduceEqDiff,Nat.reduceAdd,Nat.reduceLT,↓reduceIte,i,f,nb,List.length_map,Int.toNat_natCast,e];simp[go_sem,dk,aH];rw[qY];refine⟨aq,aq,aq,aq,?_⟩
 refine av (fun k:Nat=>⟨[(7,.own 224 0 (b++le x k).length (b++le x k).length),(8,.d (.int .u64 ((eQ (8*k) x:Nat):Int))),(21,.d (.int .i64 (n:Int))),(22,.d (.int .i64 (k:Int)))],[(224,⟨5,1,rb (b++le x k)⟩)],544⟩)
  (fun k=>k≤n) (fun k=>n-k) 0 aq (by
   simp[az,ai,fv,lk,AV.low,AV.low1,le,eQ]
   exact aU _ _) ?_
 intro k q;have p:(b++le x k).length=b.length+k:=by rw[b_,aM]
 have j:rb (b++le x k)++[[AV.d (.int .u8 ((t8 (eQ (8*k) x):Nat):Int))]]=rb (b++le x (k+1)):=by rw[iF,cD];rfl
 have g:=ay (k:=k) aq;simp only[go_sem,Nat.reduceEqDiff,Nat.reduceAdd,Nat.reduceLT,↓reduceIte];refine⟨fun h=>?_,fun h=>?_⟩
 ·simp[go_sem,fY,aH,j,aM,DT,xc,g];refine⟨aq,?_⟩;refine am (k+1) aq aq ?_;simp[az,ai,fv,lk,AV.low,AV.low1];exact⟨aq,aU _ _⟩
 ·have a:k=n:=aq;subst a;simp[go_sem];have c:b.length+(le x k).length=(b++le x k).length:=by rw[b_]
  rw[c];exact jM rfl (by simp[nb])
theorem aaR(b:List Nat)(x n:Nat)(l:b.length≤1000000)(o:x<4294967296)(m:n≤8):au Tryz.prog 106 [.d (nb b),.d (.int .u32 (x:Int)),.d (.int .i64 (n:Int))] (fun r=>r=.d (nb (b++le x n))):=by
 refine bF Tryz.func106 Tryz.ntmps106 (rs:=[.tmp 6]) a9 ?_;have i:IntKind.i64.wrap ((b.length:Int)+(n:Int))=((b.length+n:Nat):Int):=by rw[IntWalk.i64_in _ aq];omega
 have f:IntKind.u64.wrap (x:Int)=(x:Int):=by rw[iK];omega
 have e:List.replicate b.length [AV.d (.int .u8 0)]=rb (List.replicate b.length 0):=by simp[rb]
 simp only[go_sem,Nat.reduceEqDiff,Nat.reduceAdd,Nat.reduceLT,↓reduceIte,i,f,nb,List.length_map,Int.toNat_natCast,e];simp[go_sem,dk,aH];rw[qY];refine⟨aq,aq,aq,aq,?_⟩
 refine av (fun k:Nat=>⟨[(7,.own 224 0 (b++le x k).length (b++le x k).length),(8,.d (.int .u64 ((eQ (8*k) x:Nat):Int))),(21,.d (.int .i64 (n:Int))),(22,.d (.int .i64 (k:Int)))],[(224,⟨5,1,rb (b++le x k)⟩)],544⟩)
  (fun k=>k≤n) (fun k=>n-k) 0 aq (by
   simp[az,ai,fv,lk,AV.low,AV.low1,le,eQ]
   exact aU _ _) ?_
 intro k q;have p:(b++le x k).length=b.length+k:=by rw[b_,aM]
 have j:rb (b++le x k)++[[AV.d (.int .u8 ((t8 (eQ (8*k) x):Nat):Int))]]=rb (b++le x (k+1)):=by rw[iF,cD];rfl
 have g:=ay (k:=k) aq;simp only[go_sem,Nat.reduceEqDiff,Nat.reduceAdd,Nat.reduceLT,↓reduceIte];refine⟨fun h=>?_,fun h=>?_⟩
 ·simp[go_sem,fY,aH,j,aM,DT,xc,g];refine⟨aq,?_⟩;refine am (k+1) aq aq ?_;simp[az,ai,fv,lk,AV.low,AV.low1];exact⟨aq,aU _ _⟩
 ·have a:k=n:=aq;subst a;simp[go_sem];have c:b.length+(le x k).length=(b++le x k).length:=by rw[b_]
  rw[c];exact jM rfl (by simp[nb])
end Go.Proofs.YtmfnimjnneflnaaGreat
namespace Go.Sha
def NM(a:Nat):Nat:=a%65536
def aA(n:Nat):List Nat:=if n<253 then le (t8 n) 1 else if n<65536 then le 253 1++le (NM n) 2 else le 254 1++le (zq n) 4
theorem cv(n:Nat):(aA n).length≤5:=by
 unfold aA;split;simp[aM];split<;>simp[aM]
end Go.Sha
namespace Go.Proofs.YtmfnimjnneflnaaGreat
open Go.Am Go.Sha
theorem NN(b:List Nat)(x n:Nat)(l:b.length≤1000000)(o:x<256)(m:n≤8):cX Tryz.prog 151 0 [] [.d (nb b),.d (.int .u8 (x:Int)),.d (.int .i64 (n:Int))] (fun r a=>r=.own 225 0 (b++le x n).length (b++le x n).length∧lk 225 a=some ⟨5,1,rb (b++le x n)⟩):=by
 refine ap Tryz.func151 (by kernel_rfl) rfl Tryz.ntmps151 (rs:=[.tmp 6]) rfl (dJ rfl) (by decide) ?_;have i:IntKind.i64.wrap ((b.length:Int)+(n:Int))=((b.length+n:Nat):Int):=by rw[IntWalk.i64_in _ aq];omega
 have f:IntKind.u64.wrap (x:Int)=(x:Int):=by rw[iK];omega
 have e:List.replicate b.length [AV.d (.int .u8 0)]=rb (List.replicate b.length 0):=by simp[rb]
 simp only[go_sem,Nat.reduceEqDiff,Nat.reduceAdd,Nat.reduceLT,↓reduceIte,i,f,nb,List.length_map,Int.toNat_natCast,e];simp[go_sem,dk,aH];rw[qY];refine⟨aq,aq,aq,aq,?_⟩
 refine av (fun k:Nat=>⟨[(7,.own 225 0 (b++le x k).length (b++le x k).length),(8,.d (.int .u64 ((eQ (8*k) x:Nat):Int))),(21,.d (.int .i64 (n:Int))),(22,.d (.int .i64 (k:Int)))],[(225,⟨5,1,rb (b++le x k)⟩)],545⟩)
  (fun k=>k≤n) (fun k=>n-k) 0 aq (by
   simp[az,ai,fv,lk,AV.low,AV.low1,le,eQ]
   exact aU _ _) ?_
 intro k q;have p:(b++le x k).length=b.length+k:=by rw[b_,aM]
 have j:rb (b++le x k)++[[AV.d (.int .u8 ((t8 (eQ (8*k) x):Nat):Int))]]=rb (b++le x (k+1)):=by rw[iF,cD];rfl
 have g:=ay (k:=k) aq;simp only[go_sem,Nat.reduceEqDiff,Nat.reduceAdd,Nat.reduceLT,↓reduceIte];refine⟨fun h=>?_,fun h=>?_⟩
 ·simp[go_sem,fY,aH,j,aM,DT,xc,g];refine⟨aq,?_⟩;refine am (k+1) aq aq ?_;simp[az,ai,fv,lk,AV.low,AV.low1];exact⟨aq,aU _ _⟩
 ·have c:k=n:=aq;subst c;simp[go_sem]
theorem Ku(b:List Nat)(x n:Nat)(l:b.length≤1000000)(o:x<65536)(m:n≤8):cX Tryz.prog 152 0 [] [.d (nb b),.d (.int .u16 (x:Int)),.d (.int .i64 (n:Int))] (fun r a=>r=.own 225 0 (b++le x n).length (b++le x n).length∧lk 225 a=some ⟨5,1,rb (b++le x n)⟩):=by
 refine ap Tryz.func152 (by kernel_rfl) rfl Tryz.ntmps152 (rs:=[.tmp 6]) rfl (dJ rfl) (by decide) ?_;have i:IntKind.i64.wrap ((b.length:Int)+(n:Int))=((b.length+n:Nat):Int):=by rw[IntWalk.i64_in _ aq];omega
 have f:IntKind.u64.wrap (x:Int)=(x:Int):=by rw[iK];omega
 have e:List.replicate b.length [AV.d (.int .u8 0)]=rb (List.replicate b.length 0):=by simp[rb]
 simp only[go_sem,Nat.reduceEqDiff,Nat.reduceAdd,Nat.reduceLT,↓reduceIte,i,f,nb,List.length_map,Int.toNat_natCast,e];simp[go_sem,dk,aH];rw[qY];refine⟨aq,aq,aq,aq,?_⟩
 refine av (fun k:Nat=>⟨[(7,.own 225 0 (b++le x k).length (b++le x k).length),(8,.d (.int .u64 ((eQ (8*k) x:Nat):Int))),(21,.d (.int .i64 (n:Int))),(22,.d (.int .i64 (k:Int)))],[(225,⟨5,1,rb (b++le x k)⟩)],545⟩)
  (fun k=>k≤n) (fun k=>n-k) 0 aq (by
   simp[az,ai,fv,lk,AV.low,AV.low1,le,eQ]
   exact aU _ _) ?_
 intro k q;have p:(b++le x k).length=b.length+k:=by rw[b_,aM]
 have j:rb (b++le x k)++[[AV.d (.int .u8 ((t8 (eQ (8*k) x):Nat):Int))]]=rb (b++le x (k+1)):=by rw[iF,cD];rfl
 have g:=ay (k:=k) aq;simp only[go_sem,Nat.reduceEqDiff,Nat.reduceAdd,Nat.reduceLT,↓reduceIte];refine⟨fun h=>?_,fun h=>?_⟩
 ·simp[go_sem,fY,aH,j,aM,DT,xc,g];refine⟨aq,?_⟩;refine am (k+1) aq aq ?_;simp[az,ai,fv,lk,AV.low,AV.low1];exact⟨aq,aU _ _⟩
 ·have c:k=n:=aq;subst c;simp[go_sem]
theorem zD(b:List Nat)(x n:Nat)(l:b.length≤1000000)(o:x<4294967296)(m:n≤8):cX Tryz.prog 106 0 [] [.d (nb b),.d (.int .u32 (x:Int)),.d (.int .i64 (n:Int))] (fun r a=>r=.own 225 0 (b++le x n).length (b++le x n).length∧lk 225 a=some ⟨5,1,rb (b++le x n)⟩):=by
 refine ap Tryz.func106 (by kernel_rfl) rfl Tryz.ntmps106 (rs:=[.tmp 6]) rfl (dJ rfl) (by decide) ?_;have i:IntKind.i64.wrap ((b.length:Int)+(n:Int))=((b.length+n:Nat):Int):=by rw[IntWalk.i64_in _ aq];omega
 have f:IntKind.u64.wrap (x:Int)=(x:Int):=by rw[iK];omega
 have e:List.replicate b.length [AV.d (.int .u8 0)]=rb (List.replicate b.length 0):=by simp[rb]
 simp only[go_sem,Nat.reduceEqDiff,Nat.reduceAdd,Nat.reduceLT,↓reduceIte,i,f,nb,List.length_map,Int.toNat_natCast,e];simp[go_sem,dk,aH];rw[qY];refine⟨aq,aq,aq,aq,?_⟩
 refine av (fun k:Nat=>⟨[(7,.own 225 0 (b++le x k).length (b++le x k).length),(8,.d (.int .u64 ((eQ (8*k) x:Nat):Int))),(21,.d (.int .i64 (n:Int))),(22,.d (.int .i64 (k:Int)))],[(225,⟨5,1,rb (b++le x k)⟩)],545⟩)
  (fun k=>k≤n) (fun k=>n-k) 0 aq (by
   simp[az,ai,fv,lk,AV.low,AV.low1,le,eQ]
   exact aU _ _) ?_
 intro k q;have p:(b++le x k).length=b.length+k:=by rw[b_,aM]
 have j:rb (b++le x k)++[[AV.d (.int .u8 ((t8 (eQ (8*k) x):Nat):Int))]]=rb (b++le x (k+1)):=by rw[iF,cD];rfl
 have g:=ay (k:=k) aq;simp only[go_sem,Nat.reduceEqDiff,Nat.reduceAdd,Nat.reduceLT,↓reduceIte];refine⟨fun h=>?_,fun h=>?_⟩
 ·simp[go_sem,fY,aH,j,aM,DT,xc,g];refine⟨aq,?_⟩;refine am (k+1) aq aq ?_;simp[az,ai,fv,lk,AV.low,AV.low1];exact⟨aq,aU _ _⟩
 ·have c:k=n:=aq;subst c;simp[go_sem]
theorem SQ(a:Nat):IntKind.u16.wrap (a:Int)=((NM a:Nat):Int):=by
 have:IntKind.u16.wrap (a:Int)=(a:Int)%65536:=by simp[IntKind.wrap,IntKind.bits,IntKind.signed]
 rw[this];unfold NM;omega
theorem oU(b:List Nat)(n:Nat)(i:b.length≤100000)(j:n<4294967296):cX Tryz.prog 109 0 [] [.d (nb b),.d (.int .u64 (n:Int))] (fun r a=>∃I,r=.own I 0 (b++aA n).length (b++aA n).length∧lk I a=some ⟨5,1,rb (b++aA n)⟩):=by
 refine ap Tryz.func109 (by kernel_rfl) rfl Tryz.ntmps109 (rs:=[.tmp 4]) rfl (dJ rfl) (by decide) ?_;by_cases g:n<253
 ·have e:aA n=le (t8 n) 1:=by unfold aA;rw[if_pos g]
  rw[e];have f:(n:Int)<253:=aq;simp[go_sem,f,fY];refine aP [] (NN b (t8 n) 1 aq (by unfold t8;omega) aq) rfl aw aw aw (by simp[AV.renL,AV.ren]) ?_;rintro r a⟨rfl,c⟩;refine⟨[(225,0)],rfl,?_⟩;simp[go_sem,bZ,bB,c,Blk.ren,aO,dA,AV.ren,b8,ah]
 ·have f:¬(n:Int)<253:=aq;by_cases h:n<65536
  ·have e:aA n=le 253 1++le (NM n) 2:=by unfold aA;rw[if_neg g,if_pos h]
   have i2:(n:Int)<65536:=aq;rw[e,←cD];simp[go_sem,f,i2,-List.append_assoc];refine ag (Im b 253 1 aq aq aq) a9 ?_;simp[go_sem,SQ,-List.append_assoc];refine aP [] (Ku (b++le 253 1) (NM n) 2 (by rw[b_,aM];omega) (by unfold NM;omega) aq) rfl aw aw aw (by simp[AV.renL,AV.ren]) ?_;rintro r a⟨rfl,c⟩;refine⟨[(225,0)],rfl,?_⟩;simp[go_sem,bZ,bB,c,Blk.ren,aO,dA,AV.ren,b8,ah];omega
  ·have e:aA n=le 254 1++le (zq n) 4:=by unfold aA;rw[if_neg g,if_neg h]
   have i2:¬(n:Int)<65536:=aq;have i3:(n:Int)<4294967296:=aq;rw[e,←cD];simp[go_sem,f,i2,i3,-List.append_assoc];refine ag (Im b 254 1 aq aq aq) a9 ?_;simp[go_sem,DC,-List.append_assoc];refine aP [] (zD (b++le 254 1) (zq n) 4 (by rw[b_,aM];omega) (by unfold zq;omega) aq) rfl aw aw aw (by simp[AV.renL,AV.ren]) ?_;rintro r a⟨rfl,c⟩;refine⟨[(225,0)],rfl,?_⟩;simp[go_sem,bZ,bB,c,Blk.ren,aO,dA,AV.ren,b8,ah];omega
theorem gp(b x:List Nat)(f:b.length≤100000)(g:x.length<1000000):au Tryz.prog 63 [.d (nb b),.d (nb x)] (fun r=>r=.d (nb (b++(aA x.length++x)))):=by
 refine bF Tryz.func63 Tryz.ntmps63 (rs:=[.tmp 4]) a9 ?_;have w:IntKind.u64.wrap (x.length:Int)=(x.length:Int):=by rw[iK];omega
 have e:=cv x.length;simp only[go_sem,Nat.reduceEqDiff,Nat.reduceAdd,Nat.reduceLT,↓reduceIte,nb,List.length_map,w];refine aP [] (oU b x.length aq aq) rfl aw aw aw (by simp[AV.renL,AV.ren,nb]) ?_;rintro r a⟨I,rfl,c⟩;refine⟨[(I,0)],by simp[db,gm],?_⟩;simp[go_sem,bZ,bB,c,Blk.ren,aO,dA,AV.ren,b8,dk,aH,ah];refine⟨aq,?_⟩;rw[lu,show b.length+(aA x.length).length+x.length=(b++aA x.length++x).length by simp;omega];exact jM rfl (by simp[nb])
theorem oV(x:List Nat)(f:x.length≤100000):au Tryz.prog 93 [.d (nb x)] (fun r=>r=.agg (cb (fJ [84,97,112,76,101,97,102] (192::(aA x.length++x))))):=by
 refine bF Tryz.func93 Tryz.ntmps93 (rs:=[.cell 2 29]) a9 ?_;have c:=cv x.length;simp[go_sem]
 have e:∀(a:Hp),lk 32 a=some ⟨5,1,rb [192]⟩→SnapD a (fun id=>id∈[32]) (.own 32 0 1 1) (nb [192]):=fun a h=>by
  have:=sC (I:=fun id=>id∈[32]) (i0:=0) (n:=1) (L:=[192]) h aw aw;exact this
 refine bA [32] (gp [192] x aw aq) rfl (aj (.one (ao (e _ rfl))) (aj (.deep a9) aD)) ?_;simp[go_sem,aE];refine ag (iR [84,97,112,76,101,97,102] (.str [84,97,112,76,101,97,102]) rfl (192::(aA x.length++x)) aw (by simp;omega)) a9 ?_;have b:(fJ [84,97,112,76,101,97,102] (192::(aA x.length++x))).length=32:=bf _;generalize fJ [84,97,112,76,101,97,102] (192::(aA x.length++x))=R at *;simp[go_sem,ah,b,al b,cp];exact aa (by simp[AV.deep];exact bn _) rfl
def nH(a:List Nat):List UInt8:=Lib.bytesOf (a.map fun(x:Nat)=>(x:Int))
theorem zE{P:Program}{w:World}{S:Nat→Prop}{σ:Nat→Option Nat}{hp:Hp}{U:Nat→Prop}{a:List Nat}{x:Value}(h:AIs w S σ hp U (.d (nb a)) x):(Extern.Bytes.bytesOf x).run P w=.ok ⟨(nH a).toArray⟩ w:=by
 cases h with
 | d h =>
  unfold nb at h;generalize e:(a.map fun(b:Nat)=>[DV.int .u8 (b:Int)])=es at h;cases h with
  | ro _ _ A c vs hc he hA hv hd =>
   have f:es.length=a.length:=by rw[←e,List.length_map]
   cases A with
   | none =>
    have:a=[]:=by
     cases a with
     |nil=>rfl
     |cons y r =>
      obtain⟨g,i,_⟩:=hA [DV.int .u8 (y:Int)] (by rw[←e];simp);cases i
    subst this;simp[Extern.Bytes.bytesOf,nH,Lib.bytesOf];rfl
   | some g =>
    have l:=Lib.run_loadBytesX (P:=P) w (a.map fun(x:Nat)=>(x:Int)) g .empty (fun j y n=>by
     simp only[c_,Option.map_eq_some_iff]at n;obtain⟨z,o,rfl⟩:=n;have i:es[j]?=some [DV.int .u8 (z:Int)]:=by rw[←e,c_,o];rfl
     have m:=hv g rfl j 0 _ _ i rfl;have k:=hd j 0 _ _ i rfl;rw[Nat.mul_one,Nat.add_zero]at m;rw[m];generalize vs j 0=u at k;cases k
     rfl)
    rw[List.length_map]at l;show(Extern.Bytes.loadBytes g es.length .empty).run P w=_;rw[f,l];congr 2;simp[nH]
theorem SR(a b:List Nat):rT Tryz.prog 205 [.d (nb a),.d (nb b)] (.d (.int .i64 (Lib.compareBytes (nH a) (nH b)))):=by
 intro w S σ j U i h c
 match i,h with
 | [x,y],_ =>
  have f:=zE (P:=Tryz.prog) (c 0 _ x rfl rfl);have g:=zE (P:=Tryz.prog) (c 1 _ y rfl rfl);refine⟨.int .i64 (Lib.compareBytes (nH a) (nH b)),?_,.d (.int _ _)⟩;have hc:(Extern.BytealgCompare.compare #[x,y]).run Tryz.prog w=.ok (.int .i64 (Lib.compareBytes (nH a) (nH b))) w:=by
   change Sem.run Tryz.prog (do pure (goInt (Extern.BytealgCompare.cmp (←Extern.Bytes.bytesOf x) (←Extern.Bytes.bytesOf y)))) w=_;simp only[Sem.run_bind,f,g,Result.andThen_ok,Sem.run_pure,Lib.cmp_eq];rfl
  rw[run_callFunc_extern Tryz.func205 (by kernel_rfl) (by kernel_rfl) (by kernel_rfl) (e:=Extern.BytealgCompare.compare) (by kernel_rfl),hc];rfl
theorem Gl(a b:List Nat):au Tryz.prog 177 [.d (nb a),.d (nb b)] (fun r=>r=.d (.int .i64 (Lib.compareBytes (nH a) (nH b)))):=by
 refine bF Tryz.func177 Tryz.ntmps177 (rs:=[.tmp 4]) a9 ?_;simp only[go_sem,Nat.reduceEqDiff,Nat.reduceAdd,Nat.reduceLT,↓reduceIte];refine tW (SR a b) ?_;simp[go_sem,ah];exact aa a9 rfl
def fl:List Nat:=[84,97,112,66,114,97,110,99,104]
def cC(a b:List Nat):List Nat:=fJ fl (if 0<Lib.compareBytes (nH a) (nH b)then b++a else a++b)
theorem DU{hp:Hp}{I:Nat→Prop}{id:Nat}{L:List Nat}(c:L.length=64)(b:lk id hp=some ⟨5,1,rb L⟩)(a:I id):SnapD hp I (.own id 0 64 64) (nb L):=by
 have h:=sC (i0:=0) (n:=64) (L:=L) b a aq;rw[List.drop_zero,cx aq,c]at h;exact h
theorem zF(a b:List Nat)(g:a.length=32)(h:b.length=32):au Tryz.prog 153 [.agg (cb a),.agg (cb b)] (fun r=>r=.agg (cb (cC a b))):=by
 refine bF Tryz.func153 Tryz.ntmps153 (rs:=[.cell 4 29]) (by simp[AV.deep];exact⟨bn _,bn _⟩) ?_;simp[go_sem,g,h];refine cz [0,1] [(2,[3])] 1 (k:=4) ?_;intro G e;simp[go_sem];refine jh (Gl a b) rfl (aj (.one (ao (eU rfl trivial g))) (aj (.one (ao (eU rfl trivial h))) aD)) trivial ?_;simp[go_sem];refine e _ _ ?_;clear e G;by_cases hc:0<Lib.compareBytes (nH a) (nH b)
 ·have i:List.drop 32 (cb a)=[]:=dg (by rw[ak];omega);have j:List.drop 32 (cb b)=[]:=dg (by rw[ak];omega);simp[go_sem,hc,g,h,i,j,al g,al h];refine cz [0,1] [(2,[]),(3,[]),(4,[])] 0 (k:=5) ?_;intro G e;have c:=jm h;have d:=jm g;rw[dk]at c d;simp[go_sem]at c d;have m:(b++a).length=64:=by rw[b_];omega
  simp[go_sem];refine bA [416] (iR fl (.str [84,97,112,66,114,97,110,99,104]) rfl (b++a) (by simp[fl]) aq) rfl (aj (.deep a9) (aj (.one (ao (DU (L:=b++a) m (by simp[lk];rw[←lu,←c,←d];rfl) aw))) aD)) ?_;have l:cC a b=fJ fl (b++a):=by unfold cC;rw[if_pos hc]
  rw[l]at e;have f:(fJ fl (b++a)).length=32:=bf _;generalize fJ fl (b++a)=R at *;simp[go_sem,aE,f];refine e _ _ ?_;clear e G;simp[go_sem,ah,f,al f,cp];exact aa (by simp[AV.deep];exact bn _) rfl
 ·have i:List.drop 32 (cb a)=[]:=dg (by rw[ak];omega);have j:List.drop 32 (cb b)=[]:=dg (by rw[ak];omega);simp[go_sem,hc];refine cz [0,1] [(2,[]),(3,[]),(4,[])] 0 (k:=5) ?_;intro G e;have c:=jm g;have d:=jm h;rw[dk]at c d;simp[go_sem]at c d;have m:(a++b).length=64:=by rw[b_];omega
  simp[go_sem];refine bA [288] (iR fl (.str [84,97,112,66,114,97,110,99,104]) rfl (a++b) (by simp[fl]) aq) rfl (aj (.deep a9) (aj (.one (ao (DU (L:=a++b) m (by simp[lk];rw[←lu,←c,←d];rfl) aw))) aD)) ?_;have l:cC a b=fJ fl (a++b):=by unfold cC;rw[if_neg hc]
  rw[l]at e;have f:(fJ fl (a++b)).length=32:=bf _;generalize fJ fl (a++b)=R at *;simp[go_sem,aE,f];refine e _ _ ?_;clear e G;simp[go_sem,ah,f,al f,cp];exact aa (by simp[AV.deep];exact bn _) rfl
def cd(l:List Nat):List DV:=l.map fun(x:Nat)=>DV.int .u8 (x:Int)
theorem cj(l:List Nat):(cd l).length=l.length:=by simp[cd]
theorem da(l:List Nat):(cd l).map AV.d=cb l:=by simp[cd,cb]
def bW(a:List (List Nat)):DV:=.ro 32 (a.map cd)
def ar(inner:List Nat)(b a:AV):List AV:=cb inner++[b,a]
def jI(a:List (List Nat))(h:List Nat):List Nat:=a.foldl cC h
def SS:List Nat:=[84,97,112,76,101,97,102]
def eo(x:List Nat):List Nat:=fJ SS (192::(aA x.length++x))
theorem mW(x:List Nat):(eo x).length=32:=bf _
theorem iT(a b:List Nat):(cC a b).length=32:=bf _
theorem aaS:fQ Tryz.prog 33=some (ar z32 .nil .nil):=by kernel_rfl
attribute [go_sem] aaS
theorem gK{l:List Nat}(h:l.length=32):List.drop 32 (cb l)=[]:=dg (by rw[ak];omega)
theorem jo{inner:List Nat}(hi:inner.length=32)(a b:AV):(cb inner++[a,b])[32]?=some a:=by
 rw[dz (by rw[ak];omega),ak,hi];rfl
theorem lv{inner:List Nat}(hi:inner.length=32)(a b:AV):(cb inner++[a,b])[33]?=some b:=by
 rw[dz (by rw[ak];omega),ak,hi];rfl
theorem Gm{a:List (List Nat)}{k:Nat}{p h:List Nat}(b:a[k]?=some p):jI (a.drop k) h=jI (a.drop (k+1)) (cC h p):=by
 obtain⟨d,c⟩:=ci.1 b;unfold jI;rw[List.drop_eq_getElem_cons d,List.foldl_cons,c]
theorem SU(inner:List Nat)(a:List (List Nat))(x:List Nat)(hi:inner.length=32)(i:∀p,p∈a→p.length=32)(z:a.length≤1000)(s:x.length≤100000) :
  au Tryz.prog 137 [.agg (ar inner (.d (bW a)) (.d (nb x)))] (fun r=>r=.agg (cb (jI a (eo x)))):=by
 refine bF Tryz.func137 Tryz.ntmps137 (rs:=[.cell 2 29]) (by
  simp[AV.deep,ar];intro c hc;rcases hc with hc|rfl|rfl;exact bn _ _ hc;trivial
  trivial) ?_
 simp[go_sem,ar,lv hi];refine ag (oV x s) a9 ?_;have m:(fJ [84,97,112,76,101,97,102] (192::(aA x.length++x))).length=32:=bf _;have o:jI a (eo x)=jI (a.drop 0) (fJ [84,97,112,76,101,97,102] (192::(aA x.length++x))):=by rw[List.drop_zero];rfl
 rw[o];generalize fJ [84,97,112,76,101,97,102] (192::(aA x.length++x))=R at *;generalize y:jI (a.drop 0) R=T;clear o;simp[go_sem,jo hi,bW,m,cp]
 refine av (fun t:Nat×List Nat=>⟨[(2,.ptr 32 0 0 1),(3,.ptr 160 0 0 1),(10,.d (bW a)),(11,.d (.int .i64 (a.length:Int))),(12,.d (.int .i64 (t.1:Int)))],[(32,⟨29,32,[cb z32]⟩),(160,⟨29,32,[cb t.2]⟩)],1000⟩)
  (fun t=>t.1≤a.length∧t.2.length=32∧jI (a.drop t.1) t.2=T) (fun t=>a.length-t.1) (0,R) ⟨aq,m,y⟩ (by
   simp[az,ai,fv,lk,AV.low,AV.low1,bW]
   exact⟨aJ _ _,aJ _ _⟩) ?_
 rintro⟨k,h⟩⟨v,e,b⟩;simp only at v e b;simp only[go_sem,Nat.reduceEqDiff,Nat.reduceAdd,Nat.reduceLT,↓reduceIte];refine⟨fun q=>?_,fun u=>?_⟩
 ·have g:k<a.length:=aq;have j:=cm g;generalize a[k]=p at j;have f:p.length=32:=i p (cr j);rw[Gm j]at b;simp[go_sem,bW,j,cj,f,da,al f,ak,e,al e,cp];refine ag (zF h p e f) (by simp[AV.deep];exact⟨bn _,bn _⟩) ?_;have n:=iT h p;generalize cC h p=B at *;simp[go_sem,ak,n,e,gK e];refine am (k+1,B) ⟨aq,n,b⟩ aq ?_;have w:=ay (k:=k) aq;simp[az,ai,fv,lk,AV.low,AV.low1,w];exact⟨aJ _ _,aJ _ _⟩
 ·have l:k=a.length:=aq;subst l;have:T=h:=by rw[←b,List.drop_length];rfl
  subst this;simp[go_sem,e,al e,cp];exact aa (by simp[AV.deep];exact bn _) rfl
theorem NP(k:List Nat)(a:k.length=32):au Tryz.prog 76 [.d (nb (81::32::k))] (fun r=>r=.tup [.agg (cb k),.d (.bool true)]):=by
 refine bF Tryz.func76 Tryz.ntmps76 (rs:=[.cell 2 29,.tmp 3]) a9 ?_;have c:List.take 32 (List.map (fun(b:Nat)=>[DV.int .u8 (b:Int)]) k)=List.map (fun(b:Nat)=>[DV.int .u8 (b:Int)]) k:=cx (by simp[a]);have e:(List.map (fun(b:Nat)=>[DV.int .u8 (b:Int)]) k).flatten=cd k:=by
  clear a c
  induction k with
  |nil=>rfl
  |cons x r ih=>simp only[List.map_cons,List.flatten_cons,ih];rfl
 simp[go_sem,nb,a,c,e,-List.map_flatten,-List.length_flatten,da,ak,al a,cp,ah];exact aa (by simp[AV.deep,AV.deep1];exact bn _) rfl
end Go.Proofs.YtmfnimjnneflnaaGreat
namespace Go.Sha
def vj{α:Type}:Nat→(Nat→α)→α
 |0,k=>k 0
 |n+1,k=>k (n+1)
theorem lw{α:Type}(n:Nat)(k:Nat→α):vj n k=k n:=by cases n<;>rfl
def rdF{α:Type}(s:S8)(k w:Nat)(C:S8→α):α:=vj (T1 s k w) fun t=>vj (mO t (T2 s)) fun x=>vj (mO s.d t) fun y=>C ⟨x,s.a,s.b,s.c,y,s.e,s.f,s.g⟩
theorem XF{α:Type}(s:S8)(k w:Nat)(C:S8→α):rdF s k w C=C (rd s k w):=by simp only[rdF,lw,rd]
def xe{α:Type}:List Nat→List Nat→S8→(S8→α)→α
 |k::ks,w::ws,s,C=>rdF s k w fun a=>xe ks ws a C
 |_,_,s,C=>C s
theorem DW{α:Type}:∀(a b:List Nat)(s:S8)(C:S8→α),xe a b s C=C ((a.zip b).foldl If s)
 |[],_,s,C=>by simp[xe]
 |k::a,[],s,C=>by simp[xe]
 |k::a,w::b,s,C=>by simp only[xe,XF,DW a b,List.zip_cons_cons,List.foldl_cons];rfl
def DX{α:Type}:List Nat→(List Nat→α)→α
 |[],C=>C []
 |x::r,C=>vj x fun y=>DX r fun q=>C (y::q)
theorem xf{α:Type}:∀(l:List Nat)(C:List Nat→α),DX l C=C l
 |[],C=>rfl
 |x::r,C=>by simp only[DX,lw,xf r]
def wxR(l:List Nat):Nat :=
 mO (mO (mO (l.getD 15 0) (oR (oR (qV 25 (l.getD 14 0)) (qV 14 (l.getD 14 0))) (eQ 3 (l.getD 14 0)))) (l.getD 6 0)) (oR (oR (qV 15 (l.getD 1 0)) (qV 13 (l.getD 1 0))) (eQ 10 (l.getD 1 0)))
theorem sE(w:List Nat)(i:Nat)(h:i<w.length):w.reverse.getD i 0=w.getD (w.length-1-i) 0:=by
 rw[cS,cS,List.getElem?_reverse h]
theorem XG(w:List Nat)(h:16≤w.length):wxR w.reverse=wx w:=by
 unfold wxR wx;rw[sE w 15 aq,sE w 14 aq,sE w 6 aq,sE w 1 aq];rw[show w.length-1-15=w.length-16 by omega,show w.length-1-14=w.length-15 by omega,show w.length-1-6=w.length-7 by omega,show w.length-1-1=w.length-2 by omega]
def SV{α:Type}:Nat→List Nat→(List Nat→α)→α
 |0,l,C=>C l
 |n+1,l,C=>vj (wxR l) fun x=>SV n (x::l) C
theorem Io{α:Type}(b:List Nat):∀(n m:Nat)(C:List Nat→α),SV n (dD b m).reverse C=C (dD b (m+n)).reverse
 |0,m,C=>rfl
 | n+1,m,C=>by
  have h:wxR (dD b m).reverse::(dD b m).reverse=(dD b (m+1)).reverse:=by
   rw[XG _ (by rw[pI];omega)];simp[dD]
  simp only[SV,lw,h];rw[Io b n (m+1) C,show m+1+n=m+(n+1)by omega]
def NQ{α:Type}(s:S8)(b:List Nat)(C:S8→α):α :=
 DX (jj b 16) fun q=>SV 48 q.reverse fun l=>xe K l.reverse s fun v=>C (DD s v)
theorem NR{α:Type}(s:S8)(b:List Nat)(C:S8→α):NQ s b C=C (take s b):=by
 unfold NQ;rw[xf];have:=Io b 48 0 (fun l=>xe K l.reverse s fun v=>C (DD s v));simp only[dD]at this;rw[this,List.reverse_reverse,DW];rfl
def stB:S8:=⟨2631984358,2081516601,951306994,3272560777,3555955564,1197698656,2108899050,3720802505⟩
def kP:S8:=⟨2824544519,4153520746,2229753964,684640203,1629499091,3491316952,844107574,931321461⟩
end Go.Sha
namespace Go.Proofs.YtmfnimjnneflnaaGreat
open Go.Am Go.Sha
theorem A7(l:List Nat):cy .u8 (cb l)=some (l.map fun(x:Nat)=>(x:Int)):=by
 have:=Dv .u8 (l.map fun(x:Nat)=>(x:Int));rw[List.map_map]at this;exact this
theorem xg{a b:List Nat}:(a.map fun(x:Nat)=>(x:Int))=b.map (fun(x:Nat)=>(x:Int))↔a=b:=by
 constructor;intro h;have:=congrArg (List.map Int.toNat) h;simpa[List.map_map,Function.comp_def]using this;rintro rfl;rfl
theorem zG{hp:Hp}{I:Nat→Prop}{a a':List AV}:∀(l:List AV),(∀c,c∈l→c.deep1)→(∀(i:Nat)(c b:AV),a[i]?=some c→a'[i]?=some b→fH hp I c b)→∀(i:Nat)(c b:AV),(l++a)[i]?=some c→(l++a')[i]?=some b→fH hp I c b
 |[],_,h=>h
 |x::l,hl,h=>ax (aL (hl x (d7 ..))) (zG l (fun c hc=>hl c (cU _ hc)) h)
theorem xh:∀(x y:List UInt8),(0<Lib.compareBytes x y↔Lib.compareBytes y x<0)∧(Lib.compareBytes x y=0→x=y)
 |[],[]=>by simp[Lib.compareBytes]
 |[],_::_=>by simp[Lib.compareBytes]
 |_::_,[]=>by simp[Lib.compareBytes]
 | a :: x,b :: y=>by
  have e:=xh x y;simp only[Lib.compareBytes];by_cases c:a<b;have d:¬b<a:=fun h=>by
   have:=UInt8.lt_iff_toNat_lt.1 h;have:=UInt8.lt_iff_toNat_lt.1 c;omega
  simp[c,d];by_cases d:b<a;simp[c,d];have:a=b:=UInt8.toNat_inj.1 (by
   have f:¬a.toNat<b.toNat:=fun h=>c (UInt8.lt_iff_toNat_lt.2 h);have g:¬b.toNat<a.toNat:=fun h=>d (UInt8.lt_iff_toNat_lt.2 h)
   omega)
  subst this;simp only[c,if_false];exact⟨e.1,fun h=>by rw[e.2 h]⟩
def bytes(l:List Nat):Prop:=∀x,x∈l→x<256
theorem Iq:∀{a b:List Nat},bytes a→bytes b→nH a=nH b→a=b
 |[],[],_,_,_=>rfl
 |[],_::_,_,_,h=>by simp[nH,Lib.bytesOf]at h
 |_::_,[],_,_,h=>by simp[nH,Lib.bytesOf]at h
 | x :: a,y :: b,ha,hb,h=>by
  have g:=ha x (d7 ..);have i:=hb y (d7 ..);simp[nH,Lib.bytesOf]at h;obtain⟨f,d⟩:=h;have:=Iq (fun z c=>ha z (cU _ c)) (fun z c=>hb z (cU _ c)) (by simpa[nH,Lib.bytesOf]using d);have e:x=y:=by
   have:=congrArg UInt8.toNat f;rw[UInt8.toNat_ofNat',UInt8.toNat_ofNat',Nat.mod_eq_of_lt aq,Nat.mod_eq_of_lt aq]at this;exact this
  rw[this,e]
theorem A8{a b:List Nat}(d:bytes a)(g:bytes b):cC a b=cC b a:=by
 unfold cC;obtain⟨j,e⟩:=xh (nH a) (nH b);obtain⟨f,k⟩:=xh (nH b) (nH a);by_cases c:0<Lib.compareBytes (nH a) (nH b);have c2:¬ 0<Lib.compareBytes (nH b) (nH a):=by have:=j.1 c;omega
 rw[if_pos c,if_neg c2];by_cases c2:0<Lib.compareBytes (nH b) (nH a);rw[if_neg c,if_pos c2];have i:Lib.compareBytes (nH a) (nH b)=0:=by
  have:¬Lib.compareBytes (nH a) (nH b)<0:=fun h=>c2 (f.2 h);omega
 have:=Iq d g (e i);subst this;rfl
theorem dV(l:List Nat):(AV.agg (cb l)).deep:=bn l
theorem DY{n:Nat}:∀(m:Nat){c:List DV},J9 (kq Tryz.prog (n+1)) Tryz.prog.cellsOf (List.replicate m 5) c→∃l:List Nat,c=cd l∧l.length=m∧bytes l
 |0,c,h=>⟨[],by simpa[J9,cd]using h,rfl,fun _ h=>by simp at h⟩
 | m+1,c,h=>by
  rw[List.replicate_succ]at h;obtain⟨a,b,rfl,_,e,f⟩:=h;simp only[kq,Tryz.underlying5]at e;obtain⟨x,rfl,k⟩:=e;obtain⟨l,rfl,i,g⟩:=DY m f;have j:0≤x∧x<256:=by simp[IntKind.has,IntKind.min,IntKind.max,IntKind.signed,IntKind.bits]at k;omega
  refine⟨x.toNat::l,?_,by simp[i],fun y d=>?_⟩;simp only[cd,List.map_cons,List.cons_append,List.nil_append];rw[show((x.toNat:Nat):Int)=x by omega];rcases et.1 d with rfl|d;omega;exact g y d
theorem A9{n:Nat}{a:List DV}(h:kq Tryz.prog (n+2) 29 a):∃l:List Nat,a=cd l∧l.length=32∧bytes l:=by
 rw[kq]at h;simp only[Tryz.underlying29]at h;exact DY 32 h
theorem SX{n:Nat}{a:AV}(h:sy Tryz.prog (n+2) 29 a):∃l:List Nat,a=.agg (cb l)∧l.length=32∧bytes l:=by
 unfold sy at h;simp only[Tryz.underlying29]at h;obtain⟨d,rfl,h⟩:=h;obtain⟨l,rfl,c,b⟩:=A9 h;exact⟨l,by rw[da],c,b⟩
theorem xi{n:Nat}{d:DV}(h:kq Tryz.prog (n+2) 31 [d]):∃a:List Nat,d=nb a∧a.length≤maxLen∧bytes a:=by
 simp only[kq,Tryz.underlying31,List.cons.injEq,and_true]at h;obtain⟨es,rfl,i,g⟩:=h;obtain⟨a,rfl,c⟩:=wV (enc:=fun b:Nat=>[DV.int .u8 (b:Int)]) (R:=fun b=>b<256) (es:=es) (fun r e=>by
  obtain⟨f,l⟩:=g r e;simp only[Tryz.underlying5]at f;obtain⟨x,rfl,k⟩:=f;have j:0≤x∧x<256:=by simp[IntKind.has,IntKind.min,IntKind.max,IntKind.signed,IntKind.bits]at k;omega
  exact⟨x.toNat,by rw[show((x.toNat:Nat):Int)=x by omega],aq⟩)
 exact⟨a,by rw[show Tryz.prog.cellsOf 5=1 by kernel_rfl];rfl,by simpa using i,c⟩
end Go.Proofs.YtmfnimjnneflnaaGreat
namespace Go.Sha
open Go.Am
theorem zH{a:List Nat}(b:a.length%64=0):∀(n:Nat)(l:List Nat),Go.Proofs.YtmfnimjnneflnaaGreat.padTo n (a++l)=a++Go.Proofs.YtmfnimjnneflnaaGreat.padTo n l
 |0,l=>rfl
 |n+1,l=>by
  unfold Go.Proofs.YtmfnimjnneflnaaGreat.padTo;have:(a++l).length%64=l.length%64:=by rw[b_];omega
  rw[this];split;rfl;rw[cD];exact zH b n (l++[0])
theorem Gn{a l:List Nat}(b:a.length%64=0)(n:Nat):Go.Proofs.YtmfnimjnneflnaaGreat.lastOf (a++l) n=a++Go.Proofs.YtmfnimjnneflnaaGreat.lastOf l n:=by
 unfold Go.Proofs.YtmfnimjnneflnaaGreat.lastOf;rw[cD,zH b,cD]
theorem NS(n:Nat):∀(k:Nat)(s:S8)(b:List Nat),b.length≤k→E s (Go.Proofs.YtmfnimjnneflnaaGreat.lastOf b n)=E (E s b).1 (Go.Proofs.YtmfnimjnneflnaaGreat.lastOf (E s b).2 n)
 |0,s,b,h=>by rw[qX (b:=b) aq]
 | k+1,s,b,h=>by
  by_cases a:64≤b.length;rw[t6 (b:=b) a];have e:Go.Proofs.YtmfnimjnneflnaaGreat.lastOf b n=b.take 64++Go.Proofs.YtmfnimjnneflnaaGreat.lastOf (b.drop 64) n:=by
   rw[←Gn (by rw[List.length_take];omega),List.take_append_drop]
  have c:64≤(b.take 64++Go.Proofs.YtmfnimjnneflnaaGreat.lastOf (b.drop 64) n).length:=by simp;omega
  rw[e,t6 c];have d:(b.take 64).length=64:=by rw[List.length_take];omega
  rw[List.take_append_of_le_length aq,List.drop_append_of_le_length aq,cx (by omega:(b.take 64).length≤64),dg aq,List.nil_append];exact NS n k _ _ (by rw[e_];omega);rw[qX (b:=b) aq]
end Go.Sha
namespace Go.Proofs.YtmfnimjnneflnaaGreat
open Go.Am Go.Sha
theorem four{b:List Nat}{k:Nat}(h:k+4≤b.length):∃x0 x1 x2 x3,b[k]?=some x0∧b[k+1]?=some x1∧b[k+2]?=some x2∧b[k+3]?=some x3∧(b.take (k+4)).drop k=[x0,x1,x2,x3]:=by
 refine⟨b[k],b[k+1],b[k+2],b[k+3],cm _,cm _,cm _,cm _,?_⟩;rw[List.drop_take,show k+4-k=4 by omega,List.drop_eq_getElem_cons (by omega:k<b.length),List.drop_eq_getElem_cons (by omega:k+1<b.length),List.drop_eq_getElem_cons (by omega:k+1+1<b.length),List.drop_eq_getElem_cons (by omega:k+1+1+1<b.length)];rfl
end Go.Proofs.YtmfnimjnneflnaaGreat
namespace Go.Sha
theorem sF(x:Nat):t8 x<256:=Nat.mod_lt _ (by decide)
theorem zJ(l:List Nat):∀n x,x∈pre l n→x<256
 |0,x,h=>by simp[pre]at h
 |n+1,x,h=>by
  rcases cL.1 h with h|h;exact zJ l n x h;simp[A6]at h;rcases h with rfl|rfl|rfl|rfl<;>exact sF _
theorem fA(b:List Nat):∀x,x∈aW b→x<256:=fun x h=>zJ _ 8 x h
end Go.Sha
namespace Go.Proofs.YtmfnimjnneflnaaGreat
open Go.Am Go.Sha
theorem bo{hp:Hp}{I:Nat→Prop}{id n:Nat}{L:List Nat}(c:L.length=n)(b:lk id hp=some ⟨5,1,rb L⟩)(a:I id):SnapD hp I (.own id 0 n n) (nb L):=by
 subst c;have h:=sC (i0:=0) (n:=L.length) (L:=L) b a aq;rw[List.drop_zero,cx (cR _)]at h;exact h
end Go.Proofs.YtmfnimjnneflnaaGreat
namespace Go.Sha
theorem aaT(a:Nat):t8 (t8 a)=t8 a:=by unfold t8;omega
theorem aaU(n:Nat):le (t8 n) 1=le n 1:=by simp[le,eQ,aaT]
theorem XH(n:Nat):le (NM n) 2=le n 2:=by
 have a:t8 (eQ (8*0) (NM n))=t8 (eQ (8*0) n):=by simp only[t8,eQ,NM];omega
 have b:t8 (eQ (8*1) (NM n))=t8 (eQ (8*1) n):=by simp only[t8,eQ,NM];omega
 simp only[le,a,b]
theorem XI(n:Nat):le (zq n) 4=le n 4:=by
 have d:t8 (eQ (8*0) (zq n))=t8 (eQ (8*0) n):=by simp only[t8,eQ,zq];omega
 have a:t8 (eQ (8*1) (zq n))=t8 (eQ (8*1) n):=by simp only[t8,eQ,zq];omega
 have b:t8 (eQ (8*2) (zq n))=t8 (eQ (8*2) n):=by simp only[t8,eQ,zq];omega
 have c:t8 (eQ (8*3) (zq n))=t8 (eQ (8*3) n):=by simp only[t8,eQ,zq];omega
 simp only[le,d,a,b,c]
end Go.Sha
namespace Go.Proofs.YtmfnimjnneflnaaGreat
open Go.Am Go.Sha
theorem mX(b:List Nat)(x n:Nat)(m:Int)(j:m=(n:Int))(q:b.length≤10000000000)(f:x<18446744073709551616)(s:n≤8):cX Tryz.prog 174 0 [] [.d (nb b),.d (.int .u64 (x:Int)),.d (.int .i64 m)] (fun r a=>r=.own 33 0 (b++le x n).length (b++le x n).length∧lk 33 a=some ⟨5,1,rb (b++le x n)⟩):=by
 subst j;refine ap Tryz.func174 (by kernel_rfl) rfl Tryz.ntmps174 (rs:=[.tmp 6]) rfl (dJ rfl) (by decide) ?_;simp[go_sem,nb,dk,aH];refine⟨aq,?_⟩
 refine av (fun k:Nat=>⟨[(1,.d (.int .u64 ((eQ (8*k) x:Nat):Int))),(2,.d (.int .i64 (n:Int))),(7,.own 33 0 (b++le x k).length (b++le x k).length),(8,.d (.int .i64 (k:Int)))],[(33,⟨5,1,rb (b++le x k)⟩)],300⟩)
  (fun k=>k≤n) (fun k=>n-k) 0 aq (by
   simp[az,ai,fv,lk,AV.low,AV.low1,le,eQ]
   exact aU _ _) ?_
 intro k v;have u:(b++le x k).length=b.length+k:=by rw[b_,aM]
 have p:rb (b++le x k)++[[AV.d (.int .u8 ((t8 (eQ (8*k) x):Nat):Int))]]=rb (b++le x (k+1)):=by rw[iF,cD];rfl
 have e:eQ (8*k) x<18446744073709551616:=Nat.lt_of_le_of_lt (Nat.div_le_self _ _) f;have g:IntKind.u64.wrap (Int.tdiv ((eQ (8*k) x:Nat):Int) 256)=((eQ (8*(k+1)) x:Nat):Int):=by
  have i:Int.tdiv ((eQ (8*k) x:Nat):Int) 256=((eQ (8*k) x/256:Nat):Int):=(Int.ofNat_tdiv _ 256).symm;have o:eQ (8*k) x/256=eQ (8*(k+1)) x:=by
   unfold eQ;rw[Nat.div_div_eq_div_mul,show 2 ^ (8*k)*256=2 ^ (8*(k+1))by rw[show 8*(k+1)=8*k+8 by omega,Nat.pow_add]]
  have t:eQ (8*k) x/256≤eQ (8*k) x:=Nat.div_le_self _ _;rw[i,iK,←o];omega
 have l:=ay (k:=k) aq;simp only[go_sem,Nat.reduceEqDiff,Nat.reduceAdd,Nat.reduceLT,↓reduceIte,Nat.reduceMul];refine⟨fun h=>?_,fun h=>?_⟩
 ·simp only[go_sem,fY,aH,p,aM,g,l];refine⟨aq,aq,by decide,?_⟩;refine am (k+1) aq aq ?_;simp[az,ai,fv,lk,AV.low,AV.low1];exact⟨aq,aU _ _⟩
 ·have c:k=n:=aq;subst c;simp[go_sem]
def xj(L:List Nat)(r:AV)(a:Hp):Prop:=∃I,r=.own I 0 L.length L.length∧lk I a=some ⟨5,1,rb L⟩
theorem mY{g:FuncId}{args:List AV}{L:List Nat}(h:cX Tryz.prog g 0 [] args (xj L))(b:∀v,v∈args→v.deep):au Tryz.prog g args (fun r=>r=.d (nb L)) :=
 J8 h b fun r a⟨I,hr,hb⟩=>⟨.d (nb L),by subst hr;exact .one (ao (bo rfl hb trivial)),trivial,rfl⟩
theorem XJ{g:FuncId}{k:Nat}{i:Hp}{args:List AV}{Q j:AV→Hp→Prop}(h:cX Tryz.prog g k i args Q)(hq:∀r d,Q r d→j r d):cX Tryz.prog g k i args j:=by
 obtain⟨n,s,t⟩:=h;refine⟨n,s,fun w S σ q a b c=>(t w S σ q a b c).mono fun e u p=>?_⟩;obtain⟨x,r,d,m,σ',o,l,f⟩:=p;exact⟨x,r,d,m,σ',o,hq r d l,f⟩
theorem sG(b:List Nat)(x n:Nat)(m:Int)(c:m=(n:Int))(e:b.length≤10000000000)(g:x<18446744073709551616)(f:n≤8):au Tryz.prog 174 [.d (nb b),.d (.int .u64 (x:Int)),.d (.int .i64 m)] (fun r=>r=.d (nb (b++le x n))) :=
 mY (XJ (mX b x n m c e g f) fun r a h=>⟨33,h.1,h.2⟩) a9
theorem nI(b:List Nat)(n:Nat)(i:b.length≤1000000)(j:n<4294967296):cX Tryz.prog 175 0 [] [.d (nb b),.d (.int .u64 (n:Int))] (xj (b++aA n)):=by
 refine ap Tryz.func175 (by kernel_rfl) rfl Tryz.ntmps175 (rs:=[.tmp 4]) rfl (dJ rfl) (by decide) ?_;by_cases g:n<253
 ·have e:aA n=le n 1:=by unfold aA;rw[if_pos g,aaU]
  rw[e];have f:(n:Int)<253:=aq;simp[go_sem,f];refine aP [] (mX b n 1 1 rfl aq aq aq) rfl aw aw aw (by simp[AV.renL,AV.ren]) ?_;rintro r a⟨rfl,c⟩;refine⟨[(33,0)],rfl,?_⟩;simp[go_sem,bZ,bB,c,Blk.ren,aO,dA,AV.ren,b8,ah,xj]
 ·have f:¬(n:Int)<253:=aq;by_cases h:n<65536
  ·have e:aA n=le 253 1++le n 2:=by unfold aA;rw[if_neg g,if_pos h,XH]
   have i2:(n:Int)<65536:=aq;rw[e,←cD];simp[go_sem,f,i2,-List.append_assoc];refine ag (sG b 253 1 1 rfl aq aq aq) a9 ?_;simp[go_sem,-List.append_assoc];refine aP [] (mX (b++le 253 1) n 2 2 rfl (by rw[b_,aM];omega) aq aq) rfl aw aw aw (by simp[AV.renL,AV.ren]) ?_;rintro r a⟨rfl,c⟩;refine⟨[(33,0)],rfl,?_⟩;simp[go_sem,bZ,bB,c,Blk.ren,aO,dA,AV.ren,b8,ah,xj,-List.append_assoc]
  ·have e:aA n=le 254 1++le n 4:=by unfold aA;rw[if_neg g,if_neg h,XI]
   have i2:¬(n:Int)<65536:=aq;have i3:(n:Int)<4294967296:=aq;rw[e,←cD];simp[go_sem,f,i2,i3,-List.append_assoc];refine ag (sG b 254 1 1 rfl aq aq aq) a9 ?_;simp[go_sem,-List.append_assoc];refine aP [] (mX (b++le 254 1) n 4 4 rfl (by rw[b_,aM];omega) aq aq) rfl aw aw aw (by simp[AV.renL,AV.ren]) ?_;rintro r a⟨rfl,c⟩;refine⟨[(33,0)],rfl,?_⟩;simp[go_sem,bZ,bB,c,Blk.ren,aO,dA,AV.ren,b8,ah,xj,-List.append_assoc]
theorem yL(b x:List Nat)(f:b.length≤1000000)(g:x.length<1000000):cX Tryz.prog 176 0 [] [.d (nb b),.d (nb x)] (xj (b++aA x.length++x)):=by
 refine ap Tryz.func176 (by kernel_rfl) rfl Tryz.ntmps176 (rs:=[.tmp 4]) rfl (dJ rfl) (by decide) ?_;have w:IntKind.u64.wrap (x.length:Int)=(x.length:Int):=by rw[iK];omega
 have e:=cv x.length;simp only[go_sem,Nat.reduceEqDiff,Nat.reduceAdd,Nat.reduceLT,↓reduceIte,nb,List.length_map,w];refine aP [] (nI b x.length aq aq) rfl aw aw aw (by simp[AV.renL,AV.ren,nb]) ?_;rintro r a⟨I,rfl,c⟩;refine⟨[(I,0)],by simp[db,gm],?_⟩;simp[go_sem,bZ,bB,c,Blk.ren,aO,dA,AV.ren,b8,dk,aH,ah];refine⟨aq,161,?_,?_⟩
 rw[show(b++(aA x.length++x)).length=b.length+(aA x.length).length+x.length by simp;omega];simp[lk,←lu]
theorem sH(b x:List Nat)(a:b.length≤1000000)(c:x.length<1000000):au Tryz.prog 176 [.d (nb b),.d (nb x)] (fun r=>r=.d (nb (b++(aA x.length++x)))):=by
 rw[←cD];exact mY (yL b x a c) a9
def sb(l:List Nat):List Int:=l.map fun(x:Nat)=>(x:Int)
theorem Gp{a b:List Nat}:sb a=sb b↔a=b:=xg
end Go.Proofs.YtmfnimjnneflnaaGreat
namespace Go.Sha
abbrev Wd:=Nat×List Nat
def gR(x:List Nat):Wd:=(if x.length≤75 then x.length else if x.length≤255 then 76 else 77,x)
def cY(x:List Nat):Wd :=
 match x with
 |[c]=>if 1≤c∧c≤16 then(80+c,[])else if c=129 then(79,[])else gR [c]
 |x=>gR x
theorem Gq{x:List Nat}(h:x.length≠1):cY x=gR x:=by
 match x,h with
 |[],_=>rfl
 |[c],h=>exact absurd rfl h
 |_::_::_,_=>rfl
theorem VD{x:Nat}(h:x<256):t8 x=x:=Nat.mod_eq_of_lt h
end Go.Sha
namespace Go.Proofs.YtmfnimjnneflnaaGreat
open Go.Am Go.Sha
def qD(w:Wd):List DV:=[.int .u8 (w.1:Int),nb w.2]
def sJ(w:Wd):List AV:=[.d (.int .u8 (w.1:Int)),.d (nb w.2)]
theorem ec(b:List Nat)(e:b.length≤100000000000):au Tryz.prog 52 [.d (nb b)] (fun r=>r=.d (nb b)):=by
 refine bF Tryz.func52 Tryz.ntmps52 (rs:=[.tmp 2]) a9 ?_;simp only[go_sem,nb,Nat.reduceEqDiff,Nat.reduceAdd,Nat.reduceLT,↓reduceIte];intro t a
 cases t with
 |true =>
  have c:b=[]:=List.eq_nil_of_length_eq_zero (by simpa using a rfl);subst c;simp only[go_sem,Nat.reduceAdd,Nat.reduceLT,↓reduceIte];exact dU (.inr ⟨_,rfl,.nil 1⟩) a9 rfl
 |false =>
  simp[go_sem,dk,aH];refine⟨aq,dU (ao (bo (L:=b) rfl rfl trivial)) a9 rfl⟩
theorem pM(x:List Nat)(p:x.length≤60000)(i:bytes x):au Tryz.prog 16 [.d (nb x)] (fun r=>r=.agg (sJ (cY x))):=by
 refine bF Tryz.func16 Tryz.ntmps16 (rs:=[.cell 2 42]) a9 ?_;by_cases m:x.length=1
 ·obtain⟨c,rfl⟩:∃c,x=[c]:=by
   match x,m with
   |[c],_=>exact⟨c,rfl⟩
  have hc:=i c aw;by_cases l:1≤c∧c≤16
  ·have a:1≤(c:Int):=aq;have i2:(c:Int)≤16:=aq;have e:cY [c]=(80+c,[]):=if_pos l;have w:IntKind.u8.wrap (80+(c:Int))=((80+c:Nat):Int):=by rw[LJ];omega
   rw[e];simp[go_sem,nb,a,i2,w,ah];exact wU (ax (aL trivial) (ax (ao (.nil 1)) bV)) rfl a9 (by simp[sJ,nb])
  ·by_cases k:c=129
   ·subst k;have e:cY [129]=(79,[]):=rfl;rw[e];simp[go_sem,nb,ah];exact wU (ax (aL trivial) (ax (ao (.nil 1)) bV)) rfl a9 (by simp[sJ,nb])
   ·have e:cY [c]=gR [c]:=(if_neg l).trans (if_neg k);have b:¬(c:Int)=129:=aq;rw[e];by_cases o:1≤c
    ·have a:1≤(c:Int):=aq;have i2:¬(c:Int)≤16:=aq;simp[go_sem,nb,a,i2,b];refine ag (ec [c] aw) a9 ?_;simp[go_sem,ah,nb];refine aa a9 ?_;simp[gR,sJ,nb];decide
    ·have a:¬ 1≤(c:Int):=aq;simp[go_sem,nb,a,b];refine ag (ec [c] aw) a9 ?_;simp[go_sem,ah,nb];refine aa a9 ?_;simp[gR,sJ,nb];decide
 ·have g:¬(x.length:Int)=1:=aq;rw[Gq m];simp[go_sem,nb,g];refine ag (ec x aq) a9 ?_;rcases(by omega:x.length≤75∨(75<x.length∧x.length≤255)∨255<x.length)with f|⟨f,h⟩|f
  ·have a:(x.length:Int)≤75:=aq;simp[go_sem,a,ah,fY];refine aa a9 ?_;simp[gR,sJ,nb,f,VD (show x.length<256 by omega)]
  ·have a:¬(x.length:Int)≤75:=aq;have i2:(x.length:Int)≤255:=aq;have j:¬x.length≤75:=aq;simp[go_sem,a,i2,ah];refine aa a9 ?_;simp[gR,sJ,nb,j,h]
  ·have a:¬(x.length:Int)≤75:=aq;have i2:¬(x.length:Int)≤255:=aq;have j:¬x.length≤75:=aq;have n:¬x.length≤255:=aq;simp[go_sem,a,i2,ah];refine aa a9 ?_;simp[gR,sJ,nb,j,n]
end Go.Proofs.YtmfnimjnneflnaaGreat
namespace Go.Sha
def ed(w:Wd):List Nat×Bool :=
 if 0<w.1∧w.1≤75 then(w.1::w.2,decide (w.2.length=w.1))
 else if w.1=76 then(76::t8 w.2.length::w.2,decide (w.2.length≤255))
 else if w.1=77 then(77::t8 w.2.length::t8 (eQ 8 w.2.length)::w.2,decide (w.2.length≤65535))
 else([w.1],decide (w.2.length=0))
theorem DZ(w:Wd):(ed w).1.length≤w.2.length+3:=by
 unfold ed;split;simp;split;simp;split;simp;simp
def vu:List Nat→List Wd→List Nat×Int
 |out,[]=>(out,0)
 |out,w::r=>if(ed w).2=true then vu (out++(ed w).1) r else([],1)
def Kv(w:Wd):List Nat:=[w.1]++(if w.1=76∨w.1=77 then[t8 w.2.length]else[])++(if w.1=77 then[t8 (eQ 8 w.2.length)]else[])++w.2
theorem vJ{w:Wd}(h:(ed w).2=true):Kv w=(ed w).1:=by
 unfold ed at h⊢;unfold Kv;by_cases c:0<w.1∧w.1≤75;have e:¬(w.1=76∨w.1=77):=aq;have d:¬w.1=77:=aq;rw[if_pos c,if_neg e,if_neg d];simp;by_cases a:w.1=76;simp[a];by_cases b:w.1=77;simp[b];rw[if_neg c,if_neg a,if_neg b]at h;have:w.2=[]:=by simpa using h
 simp[c,a,b,this]
end Go.Sha
namespace Go.Proofs.YtmfnimjnneflnaaGreat
open Go.Am Go.Sha
theorem D1(w:Wd):∀c,c∈sJ w→c.deep1:=by
 intro c hc;simp[sJ]at hc;rcases hc with rfl|rfl<;>trivial
theorem lA{Q:AV→Prop}{st:St}{id n:Nat}{b:Bool}{L:List Nat}(c:L.length=n)(a:lk id st.hp=some ⟨5,1,rb L⟩)(hq:Q (.tup [.d (nb L),.d (.bool b)])):dC Q (.tup [.own id 0 n n,.d (.bool b)]) st :=
 ek (ax (ao (bo c a trivial)) (ax (aL trivial) bV)) rfl a9 hq
theorem XK(w:Wd)(o:w.2.length≤60000)(q:w.1<256):au Tryz.prog 95 [.agg (sJ w)] (fun r=>r=.tup [.d (nb (ed w).1),.d (.bool (ed w).2)]):=by
 refine bF Tryz.func95 Tryz.ntmps95 (rs:=[.tmp 2,.tmp 3]) (by intro v n;simp at n;subst n;exact D1 w) ?_;obtain⟨b,p⟩:=w;simp only at o q;by_cases h:0<b∧b≤75
 ·obtain⟨e,s⟩:=h;have j:0<(b:Int):=aq;have i2:(b:Int)≤75:=aq;have t:IntKind.i64.wrap (b:Int)=(b:Int):=IntWalk.i64_in _ aq;simp[go_sem,sJ,i2,e];refine cz [0,1,3,4,6,7,8,9,10] [(2,[]),(5,[11,12])] 2 (k:=13) ?_;intro G f;simp[go_sem,nb,dk,t,aH];refine⟨aq,f _ _ ?_⟩;clear f G;have c:ed (b,p)=(b::p,decide (p.length=b)):=by unfold ed;rw[if_pos ⟨e,s⟩]
  rw[c];have a:decide ((p.length:Int)=(b:Int))=decide (p.length=b):=by congr 1;exact propext aq
  simp[go_sem,ah,a];exact lA (L:=b::p) (by simp;omega) rfl rfl
 ·by_cases l:b=76
  ·subst l;have c:ed (76,p)=(76::t8 p.length::p,decide (p.length≤255)):=rfl;rw[c];have a:decide ((p.length:Int)≤255)=decide (p.length≤255):=by congr 1;exact propext aq
   simp[go_sem,sJ,nb,dk,aH,fY,a,ah];exact⟨aq,lA (L:=76::t8 p.length::p) (by simp;omega) rfl (by simp[nb])⟩
  ·by_cases i:b=77
   ·subst i;have c:ed (77,p)=(77::t8 p.length::t8 (eQ 8 p.length)::p,decide (p.length≤65535)):=rfl;rw[c];have a:decide ((p.length:Int)≤65535)=decide (p.length≤65535):=by congr 1;exact propext aq
    simp[go_sem,sJ,nb,dk,aH,fY,a,ah,IntKind.bits,DT];exact⟨aq,lA (L:=77::t8 p.length::t8 (eQ 8 p.length)::p) (by simp;omega) rfl (by simp[nb])⟩
   ·have c:ed (b,p)=([b],decide (p.length=0)):=by unfold ed;rw[if_neg h,if_neg l,if_neg i]
    rw[c];have m:¬(b:Int)=76:=aq;have g:¬(b:Int)=77:=aq;have a:decide ((p.length:Int)=0)=decide (p.length=0):=by congr 1;exact propext aq
    by_cases e:0<b
    ·have j:0<(b:Int):=aq;have i2:¬(b:Int)≤75:=aq;simp[go_sem,sJ,nb,e,i2,m,g,ah];refine lA (L:=[b]) (id:=832) rfl rfl ?_;simp[nb]
    ·have j:¬ 0<(b:Int):=aq;simp[go_sem,sJ,nb,e,m,g,ah];refine lA (L:=[b]) (id:=832) rfl rfl ?_;simp[nb]
end Go.Proofs.YtmfnimjnneflnaaGreat
namespace Go.Sha
theorem NT(w:Wd):(Kv w).length≤w.2.length+3:=by
 unfold Kv;simp only[b_];split<;>split<;>simp<;>omega
def sK:List Nat→List (List Nat)→Option (List Nat)
 |out,[]=>some out
 |out,x::r=>if 1000<x.length then none else sK (out++(ed (cY x)).1) r
def qZ(things:List (List Nat))(a:List Nat):List Nat×Int :=
 match sK [] things with
 |none=>([],4)
 |some out=>if 1000<(out++a).length then([],4)else(out++a,0)
theorem pO{x:List Nat}(h:x.length≤1000):(ed (cY x)).2=true:=by
 have g:(ed (gR x)).2=true:=by
  unfold gR ed;by_cases a:x.length≤75;by_cases i:x.length=0;have:x=[]:=List.eq_nil_of_length_eq_zero i;subst this;rfl;have:0<x.length∧x.length≤75:=aq;simp[a,this];by_cases e:x.length≤255;simp[a,e];simp[a,e];omega
 match x,g with
 |[],g=>exact g
 | [c],g =>
  show(ed (if 1≤c∧c≤16 then(80+c,[])else if c=129 then(79,[])else gR [c])).2=true;by_cases b:1≤c∧c≤16
  ·rw[if_pos b];unfold ed;have j:¬(0<80+c∧80+c≤75):=aq;have f:¬ 80+c=76:=aq;have k:¬ 80+c=77:=aq;simp[j,f,k]
  ·rw[if_neg b];by_cases d:c=129;rw[if_pos d];rfl;rw[if_neg d];exact g
 |_::_::_,g=>exact g
end Go.Sha
namespace Go.Sha
theorem fU(x:List Nat):(cY x).2.length≤x.length:=by
 match x with
 |[]=>exact cR _
 | [c] =>
  show(if 1≤c∧c≤16 then(80+c,[])else if c=129 then(79,[])else gR [c]).2.length≤1
  split;simp;split;simp;exact cR _
 |_::_::_=>exact cR _
end Go.Sha
namespace Go.Proofs.YtmfnimjnneflnaaGreat
open Go.Am Go.Sha
def yM(w:Wd):Prop:=w.2.length≤60000∧w.1<256
theorem zK{Q:AV→Prop}{st:St}{id:Nat}{e:Int}{L:List Nat}(a:lk id st.hp=some ⟨5,1,rb L⟩)(hq:Q (.tup [.d (nb L),.d (.int .i64 e)])):dC Q (.tup [.own id 0 L.length L.length,.d (.int .i64 e)]) st :=
 ek (ax (ao (bo rfl a trivial)) (ax (aL trivial) bV)) rfl a9 hq
theorem rf{Q:AV→Prop}{st:St}{e:Int}(hq:Q (.tup [.d (nb []),.d (.int .i64 e)])):dC Q (.tup [.nil,.d (.int .i64 e)]) st :=
 ek (ax (ao (.nil 1)) (ax (aL trivial) bV)) rfl a9 hq
theorem D2(b:List Wd)(j:∀w,w∈b→yM w)(x:b.length≤10000):au Tryz.prog 51 [.d (.ro 2 (b.map qD))] (fun r=>r=.tup [.d (nb (vu [] b).1),.d (.int .i64 (vu [] b).2)]):=by
 refine bF Tryz.func51 Tryz.ntmps51 (rs:=[.tmp 2,.tmp 3]) a9 ?_;generalize a:vu [] b=B;simp only[go_sem,Nat.reduceEqDiff,Nat.reduceAdd,Nat.reduceLT,↓reduceIte]
 refine av (fun t:Nat×List Nat=>⟨[(4,.own 1000 0 t.2.length t.2.length),(9,.d (.ro 2 (b.map qD))),(10,.d (.int .i64 (b.length:Int))),(11,.d (.int .i64 (t.1:Int)))],[(1000,⟨5,1,rb t.2⟩)],1001⟩)
  (fun t=>t.1≤b.length∧t.2.length≤60003*t.1∧vu t.2 (b.drop t.1)=B) (fun t=>b.length-t.1) (0,[]) ⟨aq,aw,a⟩ (by
   simp[az,ai,fv,lk,AV.low,AV.low1,rb]) ?_
 clear a;rintro⟨k,g⟩⟨n,s,a⟩;simp only at n s a;simp only[go_sem,Nat.reduceEqDiff,Nat.reduceAdd,Nat.reduceLT,↓reduceIte];refine⟨fun h=>?_,fun h=>?_⟩
 ·obtain⟨w,e,p⟩:=bg (l:=b) (k:=k) aq;obtain⟨q,u⟩:=j w (cr e);rw[p]at a;simp only[vu]at a;have m:=DZ w;have c:qD w=[.int .u8 (w.1:Int),nb w.2]:=rfl;simp[go_sem,e,c];refine ag (XK w q u) (by intro v i;simp at i;subst i;exact D1 w) ?_
  cases f:(ed w).2 with
  |false =>
   simp[go_sem,ah];rw[f,if_neg aw]at a;rw[←a];exact rf rfl
  |true =>
   rw[f,if_pos rfl]at a;have o:=ay (k:=k) aq;generalize(ed w).1=L at *;simp[go_sem,nb,dk,aH,lu,o];refine⟨aq,?_⟩;refine am (k+1,g++L) ⟨by simp only;omega,by simp only[b_];omega,a⟩ (by simp only;omega) ?_;simp[az,ai,fv,lk,AV.low,AV.low1];exact aU _ _
 ·rw[dg aq]at a;simp only[vu]at a;simp[go_sem];rw[←a];exact zK rfl rfl
def bL(x:List Nat):List DV:=[nb x]
theorem lB{x:List Nat}(h:x.length≤60000)(b:bytes x):yM (cY x):=by
 have g:yM (gR x):=by
  unfold gR;refine⟨h,?_⟩;simp only;split;omega;split<;>omega
 match x,b,g with
 |[],_,g=>exact g
 | [c],b,g =>
  show yM (if 1≤c∧c≤16 then(80+c,[])else if c=129 then(79,[])else gR [c]);by_cases d:1≤c∧c≤16
  ·rw[if_pos d];exact⟨aw,by simp only;omega⟩
  ·rw[if_neg d];by_cases a:c=129;rw[if_pos a];exact⟨aw,aw⟩;rw[if_neg a];exact g
 |_::_::_,_,g=>exact g
theorem SY{hp:Hp}{I:Nat→Prop}{id:Nat}{w:Wd}(b:lk id hp=some ⟨42,2,[sJ w]⟩)(a:I id):SnapD hp I (.own id 0 1 1) (.ro 2 ([w].map qD)) :=
 ej (es:=[w].map qD) (by rw[b];rfl) a rfl (by simp[qD])
theorem xk(things:List (List Nat))(a:List Nat)(H:things.length≤1000)(E:∀x,x∈things→x.length≤60000∧bytes x)(G:a.length≤100000) :
  au Tryz.prog 26 [.d (.ro 1 (things.map bL)),.d (nb a)] (fun r=>r=.tup [.d (nb (qZ things a).1),.d (.int .i64 (qZ things a).2)]):=by
 refine bF Tryz.func26 Tryz.ntmps26 (rs:=[.tmp 4,.tmp 5]) a9 ?_;unfold qZ;generalize c:sK [] things=B;simp only[go_sem,Nat.reduceEqDiff,Nat.reduceAdd,Nat.reduceLT,↓reduceIte]
 refine av (fun t:Nat×List Nat=>⟨[(1,.d (nb a)),(6,.own 1000 0 t.2.length t.2.length),(11,.d (.ro 1 (things.map bL))),(12,.d (.int .i64 (things.length:Int))),(13,.d (.int .i64 (t.1:Int)))],[(1000,⟨5,1,rb t.2⟩)],1001⟩)
  (fun t=>t.1≤things.length∧t.2.length≤60003*t.1∧sK t.2 (things.drop t.1)=B) (fun t=>things.length-t.1) (0,[]) ⟨aq,aw,c⟩ (by
   simp[az,ai,fv,lk,AV.low,AV.low1,rb]) ?_
 clear c;rintro⟨k,b⟩⟨z,D,c⟩;simp only at z D c;simp only[go_sem,Nat.reduceEqDiff,Nat.reduceAdd,Nat.reduceLT,↓reduceIte];refine⟨fun h=>?_,fun h=>?_⟩
 ·obtain⟨x,g,C⟩:=bg (l:=things) (k:=k) aq;obtain⟨s,u⟩:=E x (cr g);rw[C]at c;simp only[sK]at c;by_cases j:1000<x.length
  ·rw[if_pos j]at c;subst c;have i:1000<(x.length:Int):=aq;simp[go_sem,g,bL,nb,i];exact rf rfl
  ·rw[if_neg j]at c;have i:¬ 1000<(x.length:Int):=aq;have o:=pO (x:=x) aq;have p:=lB s u;have y:=DZ (cY x);have F:(cY x).2.length≤x.length:=fU x;have n:vu [] [cY x]=((ed (cY x)).1,0):=by simp[vu,o]
   simp[go_sem,g,bL,nb,i];refine ag (pM x s u) a9 ?_;have m:(sJ (cY x)).length=2:=rfl;simp[go_sem,m];refine bA [1289] (D2 [cY x] (by intro w q;simp at q;subst q;exact p) aw) rfl (aj (.one (ao (SY rfl aw))) aD) ?_;rw[n];have A:=ay (k:=k) aq;generalize(ed (cY x)).1=L at *;simp[go_sem,aE,nb,dk,aH,lu,A];refine⟨aq,?_⟩;refine am (k+1,b++L) ⟨by simp only;omega,by simp only[b_];omega,c⟩ (by simp only;omega) ?_;simp[az,ai,fv,lk,AV.low,AV.low1];exact aU _ _
 ·rw[dg aq]at c;simp only[sK]at c;subst c;have v:k=things.length:=aq;simp only;by_cases f:1000<b.length+a.length
  ·rw[if_pos f];have i:1000<((b.length+a.length:Nat):Int):=aq;have i2:1000<(b.length:Int)+(a.length:Int):=aq;simp[go_sem,nb,dk,aH,i2,ah];exact⟨aq,rf rfl⟩
  ·rw[if_neg f];have i:¬ 1000<((b.length+a.length:Nat):Int):=aq;have i2:¬ 1000<(b.length:Int)+(a.length:Int):=aq;simp[go_sem,nb,dk,aH,lu,i2,ah];refine⟨aq,?_⟩;have:=zK (id:=1000) (L:=b++a) (e:=0) (Q:=fun r=>r=AV.tup [AV.d (nb (b++a)),AV.d (.int .i64 0)]) (st:=⟨[],[(1000,⟨5,1,rb (b++a)⟩)],0⟩) rfl rfl;simp[nb]at this;exact this
def bz(a:List Wd):List Nat:=(a.map Kv).flatten
def Ba(things:List (List Nat)):List Wd:=things.map cY
theorem D3:∀(things:List (List Nat))(a:List Nat),(∀x,x∈things→x.length≤1000)→sK a things=some (a++bz (Ba things))
 |[],a,_=>by simp[sK,bz,Ba]
 |x::r,a,h=>by
  have b:=h x (d7 ..);simp only[sK];rw[if_neg aq,D3 r _ (fun y c=>h y (cU _ c)),←vJ (pO b)];simp[bz,Ba]
def Bc:List Nat:=[86,97,117,108,116,82,101,99,111,118,101,114,121]
def jb(x:List Nat):List Nat:=fJ Bc (aA x.length++x)
theorem lC(x:List Nat):(jb x).length=32:=bf _
theorem xm(x:List Nat)(e:x.length≤100000):au Tryz.prog 20 [.d (nb x)] (fun r=>r=.agg (cb (jb x))):=by
 refine bF Tryz.func20 Tryz.ntmps20 (rs:=[.cell 2 29]) a9 ?_;have c:=cv x.length;simp[go_sem];refine bA [] (gp [] x aw aq) rfl (aj (.one (ao (.nil 1))) (aj (.deep a9) aD)) ?_;simp[go_sem,aE];refine ag (iR Bc (.str [86,97,117,108,116,82,101,99,111,118,101,114,121]) rfl (aA x.length++x) (by simp[Bc]) (by simp;omega)) a9 ?_;have b:jb x=fJ Bc (aA x.length++x):=rfl;rw[←b];have a:=lC x;generalize jb x=R at *;simp[go_sem,ah,a,al a,cp];exact aa (by simp[AV.deep];exact bn _) rfl
def dW(c:Int×Int):List DV:=[.int .i64 c.1,.int .u64 c.2]
theorem pQ{P:Program}{s t:TypeId}{a:AV→Hp→Prop}{hp:Hp}(l:List Nat)(el:TypeId)(f:bytes l)(c:ca P s=.slice el)(g:ca P t=.str)(h3:P.underlying el=some (.int .u8))(e:a (.d (.str (sb l))) hp):cvS P s t (l.map fun(x:Nat)=>[DV.int .u8 (x:Int)]) a hp:=by
 refine⟨sb l,by simp[sb],fun b h=>?_,?_⟩;simp only[sb,List.mem_map]at h;obtain⟨x,i,rfl⟩:=h;have:=f x i;omega;rw[c,g];exact⟨h3,e⟩
theorem xn{w:Wd}(b:w.1<256)(hp:bytes w.2):bytes (ed w).1:=by
 unfold ed;split;intro y a;rcases et.1 a with rfl|a;exact b;exact hp y a;split;intro y a;simp only[et]at a;rcases a with rfl|rfl|a;omega;exact sF _;exact hp y a;split;intro y a;simp only[et]at a;rcases a with rfl|rfl|rfl|a;omega;exact sF _;exact sF _;exact hp y a;intro y a;simp only[List.mem_singleton]at a;rw[a];exact b
theorem mh{x:List Nat}(a:bytes x):bytes (cY x).2:=by
 match x,a with
 |[],a=>exact a
 | [c],a =>
  show bytes (if 1≤c∧c≤16 then(80+c,[])else if c=129 then(79,[])else gR [c]).2
  split;intro y b;simp at b;split;intro y b;simp at b;exact a
 |_::_::_,a=>exact a
theorem t7{a b:List Nat}(c:bytes a)(d:bytes b):bytes (a++b):=fun y e=>(cL.1 e).elim (c y) (d y)
theorem xo:∀(things:List (List Nat))(a o:List Nat),bytes a→(∀x,x∈things→x.length≤60000∧bytes x)→sK a things=some o→bytes o
 |[],a,o,h,_,e=>by simp only[sK,Option.some.injEq]at e;subst e;exact h
 |x::r,a,o,h,ht,e=>by
  obtain⟨c,b⟩:=ht x (d7 ..);simp only[sK]at e;split at e;cases e;exact xo r _ o (t7 h (xn (lB c b).2 (mh b))) (fun y d=>ht y (cU _ d)) e
theorem Gs{things:List (List Nat)}{a:List Nat}(c:bytes a)(d:∀x,x∈things→x.length≤60000∧bytes x):bytes (qZ things a).1:=by
 unfold qZ;cases h:sK [] things with
 |none=>intro y b;simp at b
 |some o =>
  have:=xo things [] o (by intro y b;simp at b) d h;simp only;split;intro y b;simp at b;exact t7 this c
theorem Kw{n:Nat}{d:DV}(h:kq Tryz.prog (n+3) 34 [d]):∃xs:List (List Nat),d=.ro 1 (xs.map bL)∧∀x,x∈xs→bytes x:=by
 rw[kq]at h;simp only[Tryz.underlying34,List.cons.injEq,and_true]at h;obtain⟨es,rfl,i,f⟩:=h;obtain⟨xs,rfl,c⟩:=wV (enc:=bL) (R:=fun x=>bytes x) (es:=es) (fun r b=>by
  obtain⟨a,e⟩:=f r b;rw[show Tryz.prog.cellsOf 31=1 by kernel_rfl]at e
  match r,a,e with
  |[y],a,_ =>
   obtain⟨x,rfl,_,g⟩:=xi a
   exact⟨x,rfl,g⟩)
 exact⟨xs,by rw[show Tryz.prog.cellsOf 31=1 by kernel_rfl],c⟩
def zL:Nat→Nat→List Nat
 |0,_=>[]
 |k+1,m=>if m=0 then[]else m%256::zL k (m/256)
theorem pR:∀(k m:Nat),bytes (zL k m)
 |0,_=>fun x h=>by simp[zL]at h
 | k+1,m=>by
  rw[zL];split;exact fun x h=>by simp at h
  intro x h;rcases et.1 h with rfl|h;omega;exact pR k _ x h
theorem Ir:∀(k m:Nat),(zL k m).length≤k
 |0,_=>by simp[zL]
 |k+1,m=>by
  rw[zL];split;simp;have:=Ir k (m/256);simp;omega
def jq(neg:Bool)(a:List Nat)(x:Nat):List Nat :=
 if 128≤x then(if neg then a++[x,128]else a++[x,0])else(if neg then a++[x+128]else a++[x])
def Kx(neg:Bool)(b:List Nat):List Nat:=match b.reverse with
 |[]=>[]
 |x::r=>jq neg r.reverse x
def cQ(n:Int):List Nat:=Kx (decide (n<0)) (zL 8 n.natAbs)
theorem pS(neg:Bool)(a:List Nat)(x:Nat):Kx neg (a++[x])=jq neg a x:=by simp[Kx]
theorem fe(b:List Nat):b=[]∨∃a x,b=a++[x]:=by
 rcases h:b.reverse with _|⟨x,r⟩;exact .inl (by simpa using h);exact .inr ⟨r.reverse,x,by rw[←List.reverse_reverse b,h,List.reverse_cons]⟩
theorem ep(n:Int):bytes (cQ n):=by
 unfold cQ;rcases fe (zL 8 n.natAbs)with h|⟨a,x,h⟩;rw[h];exact fun x d=>by simp[Kx]at d
 ·have c:=pR 8 n.natAbs;rw[h]at c⊢;rw[pS];have d:=c x aw;have e:bytes a:=fun z b=>c z (by simp[b]);unfold jq;intro z b;split at b<;>split at b<;>simp at b
  all_goals
   rcases b with h|h;exact e z h;omega
theorem gq(n:Int):(cQ n).length≤9:=by
 unfold cQ;have b:=Ir 8 n.natAbs;rcases fe (zL 8 n.natAbs)with h|⟨a,x,h⟩;rw[h];simp[Kx];rw[h]at b⊢;rw[pS];unfold jq;simp at b;split<;>split<;>simp<;>omega
theorem NU:∀x:Nat,x<256→bits .and .u8 (x:Int) 128=if 128≤x then 128 else 0:=by decide +kernel
theorem aaV:∀x:Nat,x<128→bits .or .u8 (x:Int) 128=((x+128:Nat):Int):=by decide +kernel
theorem lD (n:Int) (X:-9223372036854775808≤n) (Y:n<9223372036854775808):au Tryz.prog 64 [.d (.int .i64 n)] (fun r=>r=.d (nb (cQ n))):=by
  refine bF Tryz.func64 Tryz.ntmps64 (rs:=[.tmp 2]) a9 ?_;have K:n.natAbs<18446744073709551616:=aq;simp[go_sem];have B:(256:Nat) ^ 8=18446744073709551616:=by decide
  have iK:∀x:Int,IntKind.u64.wrap x=x%18446744073709551616:=fun x=>by simp[IntKind.wrap,IntKind.bits,IntKind.signed]
  have J:n<0→IntKind.u64.wrap (-IntKind.u64.wrap n)=(n.natAbs:Int):=fun h=>by rw[iK,iK];omega
  have I:0≤n→IntKind.u64.wrap n=(n.natAbs:Int):=fun h=>by rw[iK];omega
  have R:∀m:Nat,Int.fdiv (m:Int) 256=((m/256:Nat):Int):=fun m=>by rw[Int.fdiv_eq_ediv_of_nonneg _ (by decide)];omega
  have o:∀k,zL k 0=[]:=fun k=>by cases k<;>simp[zL]
  have A:cQ n=Kx (decide (n<0)) (zL 8 n.natAbs):=rfl;refine⟨fun f=>?_,fun f=>?_⟩
  all_goals
    refine av (fun t:Nat×List Nat×Nat=>⟨[(3,.d (.bool (decide (n<0)))),(4,.d (.int .u64 (t.2.2:Int))),(5,.own 5000 0 t.2.1.length t.2.1.length)],[(5000,⟨5,1,rb t.2.1⟩)],6000⟩)
      (fun t=>t.2.2<256 ^ t.1∧t.1≤8∧t.2.1.length+t.1≤8∧t.2.1 ++ zL t.1 t.2.2=zL 8 n.natAbs) (fun t=>t.1) (8,[],n.natAbs) ⟨by rw [B];exact K,aw,aw,rfl⟩ (by
        first
          | (have w:=J f
             simp[az,ai,fv,lk,AV.low,AV.low1,w,rb])
          | (have w:=I f
             simp[az,ai,fv,lk,AV.low,AV.low1,w,rb])) ?_
    rintro⟨k,b,m⟩⟨l,z,s,j⟩;simp only at l z j s;simp only;simp[go_sem];refine⟨fun F=>?_,fun F=>?_⟩
    · match k,l,z,j,s with
      |0,l,_,_,_=>simp at l;omega
      | k+1,l,z,j,s =>
        refine⟨aH b,aq,?_⟩;rw[zL,if_neg aq]at j;rw[Nat.pow_succ]at l;have S:m/256<256 ^ k:=Nat.div_lt_of_lt_mul aq;have O:IntKind.u8.wrap (m:Int)=((m%256:Nat):Int):=by rw[LJ];omega
        refine am (k,b++[m%256],m/256) ⟨S,by show k≤8;omega,by simp;omega,by rw[←j];simp⟩ (by show k<k+1;omega) ⟨?_,?_,aw⟩
        · simp[ai,fv,lk,AV.low,AV.low1,R]
        · intro p E
          simp only[et,List.mem_nil_iff,or_false]at E;subst E;exact⟨.inl (by rw[O];simp[lk,rb]),by show 5000<6000;omega,aU _ _⟩
    · subst F
      rw[o,List.append_nil]at j;subst j;rw[A];have D:=pR 8 n.natAbs;generalize zL 8 n.natAbs=b at *;refine⟨fun v=>?_,fun v=>?_⟩
      · subst v
        exact dU (ao (bo rfl rfl trivial)) trivial rfl
      · rcases fe b with h | ⟨a,x,rfl⟩
        · exact absurd h v
        rw[pS];have W:IntKind.i64.wrap (((a++[x]).length:Int)-1)=(a.length:Int):=by
          have q:(a++[x]).length=a.length+1:=(by simp);rw[q]at s⊢;rw[IntWalk.i64_in _ aq];omega
        have H:x<256:=D x aw;have i:(rb (a++[x]))[a.length]?=some [.d (.int .u8 (x:Int))]:=(by simp[rb]);have e:∀h,(rb (a++[x]))[a.length]'h=[.d (.int .u8 (x:Int))]:=fun h=>by rw[cm h]at i;exact Option.some.inj i
        have q:a.length≤7:=by simp at s;omega
        have V:IntKind.i64.wrap ((a.length:Int)+1)=((a.length+1:Nat):Int):=by rw[IntWalk.i64_in _ aq];omega
        have T:IntKind.i64.wrap (a.length:Int)=(a.length:Int):=IntWalk.i64_in _ aq;have G:(rb (a++[x])++[[AV.d (.int .u8 0)]])[a.length+1]?=some [.d (.int .u8 0)]:=(by simp[rb]);have C:∀h,(rb (a++[x])++[[AV.d (.int .u8 0)]])[a.length+1]'h=[.d (.int .u8 0)]:=fun h=>by rw[cm h]at G;exact Option.some.inj G
        have Q:(rb (a++[x])++[[AV.d (.int .u8 0)]]).set (a.length+1) [.d (.int .u8 128)]=rb (a++[x,128]):=by
          have:rb (a++[x])=rb a++[[.d (.int .u8 (x:Int))]]:=(iF a x).symm;rw[this,cD,List.set_append_right _ _ (by rw[aH];omega),aH,show a.length+1-a.length=1 by omega];simp[rb]
        have N:bits .or .u8 0 128=128:=(by decide);have U:∀y:Nat,(rb (a++[x])).set a.length [.d (.int .u8 (y:Int))]=rb (a++[y]):=fun y=>by
          have:rb (a++[x])=rb a++[[.d (.int .u8 (x:Int))]]:=(iF a x).symm;rw[this,List.set_append_right _ _ (by rw[aH];omega),aH,Nat.sub_self];simp[rb]
        have u:=NU x H;rw[W];by_cases c:128≤x
        · rw [if_pos c] at u
          simp[go_sem,e,aH,u];by_cases g:n<0
          · simp [go_sem,g,aH,V,C,N,Q]
            repeat' apply And.intro
            all_goals first
              |omega
              |exact fun h=>absurd g aq
              |exact dU (ao (bo (L:=jq true a x) (by simp[jq,c]) (by simp[lk,jq,c,rb]) trivial)) trivial rfl
              |exact fun _=>dU (ao (bo (L:=jq true a x) (by simp[jq,c]) (by simp[lk,jq,c,rb]) trivial)) trivial rfl
          · simp [go_sem,g]
            repeat' apply And.intro
            all_goals first
              |omega
              |exact fun h=>absurd g aq
              |exact dU (ao (bo (L:=jq false a x) (by simp[jq,c]) (by simp[jq,c,rb]) trivial)) trivial rfl
              |exact fun _=>dU (ao (bo (L:=jq false a x) (by simp[jq,c]) (by simp[lk,jq,c,rb]) trivial)) trivial rfl
        · rw [if_neg c] at u
          have M:=aaV x aq;simp[go_sem,e,aH,u];by_cases g:n<0
          · simp [go_sem,g,aH,T,e,M,U,-Int.natCast_add]
            repeat' apply And.intro
            all_goals first
              |omega
              |exact fun h=>absurd g aq
              |exact dU (ao (bo (L:=jq true a x) (by simp[jq,c]) (by simp[lk,jq,c,rb]) trivial)) trivial rfl
              |exact fun _=>dU (ao (bo (L:=jq true a x) (by simp[jq,c]) (by simp[lk,jq,c,rb]) trivial)) trivial rfl
          · simp [go_sem,g]
            repeat' apply And.intro
            all_goals first
              |omega
              |exact fun h=>absurd g aq
              |exact dU (ao (bo (L:=jq false a x) (by simp[jq,c]) (by simp[jq,c,rb]) trivial)) trivial rfl
              |exact fun _=>dU (ao (bo (L:=jq false a x) (by simp[jq,c]) (by simp[lk,jq,c,rb]) trivial)) trivial rfl
end Go.Proofs.YtmfnimjnneflnaaGreat
namespace Go.Am
section
variable {P:Program}
def XL(P:Program)(n:Nat)(x:Code)(Q:Exit→St→Prop)(st:St):Prop:=∀(c:Ctx)(a:Act)(w:World),c.n=n→mF c st a w→x.wp P (fun e d b=>∃st',Q e st'∧mF c st' d b) a w
theorem gr{n:Nat}{x:Code}{Q:Exit→St→Prop}{st:St}(h:oy P n x Q st):XL P n x Q st:=fun c a w b d=>by
 subst b;exact kO x Q st a w h d
theorem Bd{n:Nat}{x:Code}{Q:Exit→St→Prop}{st st':St}(d:Wk st st')(h:XL P n x Q st'):XL P n x Q st:=fun c a w b e=>h c a w b (d c a w e)
theorem sL{n:Nat}{x y:Code}{Q:Exit→St→Prop}{st:St}(h:XL P n x (AO (XL P n y Q) Q) st):XL P n (.seq x y) Q st:=by
 intro c a w b g;refine wp_seq (wp_mono (h c a w b g) fun e f d⟨st',hq,hs'⟩=>?_);cases e with
 |normal=>exact hq c f d b hs'
 |_=>exact⟨st',hq,hs'⟩
theorem ua {g : FuncId} {fn : Func} {code : Code} {args : List AV} {Q : AV → Prop} (hf : P.funcs[g]? = some fn) (hn : (fn.name == "runtime.NumGoroutine") = false) (hb : fn.body = some code)
  {n:Nat} {rs:List ResultVar} (hnt:fn.ntmps=n) (hrs:fn.results.toList=rs) (hle:args.length≤n) (hd:∀v,v∈args→v.deep)
  (h:XL P n code (MQ P rs (dC Q)) ⟨LI 0 args,[],0⟩):au P g args Q:=by
 subst hnt;subst hrs;refine⟨⟨fn,hf,hn,by simp[hb]⟩,fun w S vs hS hl hv=>?_⟩;have hsz:((vs.toArray++Array.replicate (fn.ntmps-vs.toArray.size) undef):Array Value).size=fn.ntmps:=by simp;omega
 refine calls_of_wp hf hb ?_
 let c:Ctx:=⟨w,fun _=>False,S,fn.ntmps,fun _ h=>h.elim,fun _=>False,fun _=>none,[],0,aq⟩
 have hsim:mF c ⟨LI 0 args,[],0⟩ { tmps:=vs.toArray++Array.replicate (fn.ntmps-vs.toArray.size) undef,defers:=[] } w:=by
  refine⟨rfl,hsz,fun _=>none,⟨(fun i j bi bj g h=>by cases h),(fun i b h=>by cases h),(fun i b h=>by cases h),(fun i b g h=>by cases h),rfl,rfl,rfl,cR _,fun _ _ _=>rfl⟩,fun n=>?_,⟨fun _ h=>h.elim,fun _ h=>h.elim,fun i h=>absurd h (Nat.not_lt_zero _),fun i b' h=>absurd h (Nat.not_lt_zero _)⟩⟩;simp only[fv,AS,Nat.zero_le,if_true,Nat.sub_zero]
  cases hn:args[n]? with
  |none=>exact .any _
  | some v =>
   have hlt:n<vs.length:=by have:=(ci.1 hn).1;omega
   have hx:vs[n]?=some vs[n]:=cm hlt
   have:(vs.toArray++Array.replicate (fn.ntmps-vs.toArray.size) undef).getD n undef=vs[n]:=by
    rw[ct,Array.getElem?_append,if_pos (by simpa using hlt)];simp[hx]
   rw[this];simp only[Option.getD_some];exact nE (hd v (cr hn)) (fun b hb=>⟨⟨hS b hb,(fun id blk g h=>by cases h)⟩,.inl hb⟩) (hv n v _ hn hx)
 have uO:∀st a w',Du P fn.results.toList (dC Q) st→mF c st a w'→∃v,(results fn a.tmps).run P w'=.ok v w'∧∃x r,Ending.returned v=.returned x∧Q r∧r.deep∧RowKit.Below w.heap.size w w' ∧
   AIs w' (fun b=>S b∨(w.heap.size≤b∧b<w'.heap.size)) (fun _=>none) [] (fun _=>False) r x:=by
  intro st a w' hret hs;obtain⟨v,x,⟨r,hsn,hrd,hQ⟩,hrun,σ,hr,hx,_⟩:=AQ hs hret;refine⟨x,hrun,x,r,rfl,hQ,hrd,⟨hr.os,hr.tape,hr.output,hr.size,fun b hb=>hr.old b hb (fun h=>h)⟩,?_⟩;refine nF (fun b hb=>?_) (fun id blk g _ hk hg=>?_) hr hsn hx
  ·rcases hb.2 with h|h
   ·exact .inl h
   ·exact .inr ⟨h,hb.1.1⟩
  ·rcases hr.mine id blk g hk hg with h|h
   ·exact h.elim
   ·exact .inr ⟨h,eg (hr.at hk hg)⟩
 refine wp_mono (h c _ w rfl hsim) fun e a w'⟨st,hq,hs⟩=>?_
 cases e with
 |normal=>exact⟨hs.1,uO st a w' hq hs⟩
 |ret=>exact⟨hs.1,uO st a w' hq hs⟩
 |_=>exact hq.elim
end
end Go.Am
namespace Go.Proofs.YtmfnimjnneflnaaGreat
open Go.Am Go.Sha
abbrev jr:=Nat→List (List Nat)
def pB(q:List (List Nat)):Blk:=⟨29,32,q.map cb⟩
def kF(P:Nat):Nat→jr→Hp
 |0,_=>[]
 |n+1,f=>(P,pB (f 0))::kF (P+1) n (fun j=>f (j+1))
def VE(f:jr)(j:Nat)(q:List (List Nat)):jr:=fun i=>if i=j then q else f i
def ub(j:Nat):Nat:=1+j
theorem mH{j:Nat}(h:j<8)(c:Nat)(hc:9≤c):(c=ub j)=False:=by unfold ub;simp;omega
theorem qK(j:Nat):(0=ub j)=False:=by unfold ub;simp;omega
theorem oW:∀(n P:Nat)(f:jr)(j:Nat),j<n→lk (P+j) (kF P n f)=some (pB (f j))
 |n+1,P,f,0,_=>by simp[kF,lk]
 |n+1,P,f,j+1,h=>by
  have:=oW n (P+1) (fun j=>f (j+1)) j aq;rw[kF,lk,if_neg aq,show P+(j+1)=P+1+j by omega,this]
theorem D4:∀(n P:Nat)(f:jr)(j:Nat)(q:List (List Nat)),j<n→bX (P+j) (pB q) (kF P n f)=kF P n (VE f j q)
 |n+1,P,f,0,q,_=>by
  simp only[kF,bX,Nat.add_zero,if_true];congr 1
 |n+1,P,f,j+1,q,h=>by
  have:=D4 n (P+1) (fun j=>f (j+1)) j q aq;rw[kF,bX,if_neg aq,show P+(j+1)=P+1+j by omega,this,kF];simp[VE];congr 1
theorem jV:∀(n P:Nat)(f:jr)(p:Nat×Blk),p∈kF P n f→∃j,j<n∧p=(P+j,pB (f j))
 |0,_,_,p,h=>by simp[kF]at h
 |n+1,P,f,p,h=>by
  rw[kF]at h;rcases et.1 h with rfl|h;exact⟨0,aq,rfl⟩;obtain⟨j,a,rfl⟩:=jV n (P+1) _ p h;exact⟨j+1,aq,by rw[show P+1+j=P+(j+1)by omega]⟩
theorem mI{f:jr}{j:Nat}(h:j<8):lk (ub j) (kF 1 8 f)=some (pB (f j)):=oW 8 1 f j h
theorem D5{f:jr}{j:Nat}(q:List (List Nat))(h:j<8):bX (ub j) (pB q) (kF 1 8 f)=kF 1 8 (VE f j q):=D4 8 1 f j q h
theorem VF(q:List (List Nat)):(pB q).ty=29:=rfl
theorem aaW(q:List (List Nat)):(pB q).e=32:=rfl
theorem VG(q:List (List Nat)):(pB q).es=q.map cb:=rfl
theorem xp{inner:List Nat}(hi:inner.length=32)(a b c:AV):(cb inner++[a,b]).set 32 c=cb inner++[c,b]:=by
 have d:(cb inner).length=32:=by rw[ak,hi]
 rw[List.set_append_right _ _ aq,d];rfl
def lT(inner:List Nat)(idf:Nat→Nat)(f:jr)(xs:List (List Nat)):List (List AV):=xs.mapIdx fun j x=>ar inner (.own (idf j) 0 (f j).length (f j).length) (.d (nb x))
theorem jW{inner:List Nat}{idf:Nat→Nat}{f:jr}{xs:List (List Nat)}:(lT inner idf f xs).length=xs.length:=by simp[lT]
theorem Be{inner:List Nat}{idf:Nat→Nat}{f:jr}{xs:List (List Nat)}{j:Nat}{x:List Nat}(h:xs[j]?=some x):(lT inner idf f xs)[j]?=some (ar inner (.own (idf j) 0 (f j).length (f j).length) (.d (nb x))):=by
 simp[lT,h]
theorem Is{inner:List Nat}{idf:Nat→Nat}{f:jr}{xs:List (List Nat)}{j:Nat}{x:List Nat}(q:List (List Nat))(h:xs[j]?=some x):(lT inner idf f xs).set j (ar inner (.own (idf j) 0 q.length q.length) (.d (nb x)))=lT inner idf (VE f j q) xs:=by
 have b:=(ci.1 h).1;apply List.ext_getElem?;intro i;rw[List.getElem?_set];by_cases a:j=i;subst a;rw[if_pos rfl,if_pos (by rw[jW];exact b),Be h];simp[VE];rw[if_neg a];simp only[lT,List.getElem?_mapIdx,VE];rw[if_neg (fun e=>a e.symm)]
theorem rh(n:Nat)(inner:List Nat)(a b:AV)(d:a.low1 n)(e:b.low1 n):∀v,v∈ar inner a b→v.low1 n:=by
 intro v c;unfold ar at c;rcases cL.1 c with h|h;exact aJ _ _ v h;simp at h;rcases h with rfl|rfl;exact d;exact e
theorem It{n:Nat}{inner:List Nat}{idf:Nat→Nat}{f:jr}{xs:List (List Nat)}(h:∀j,j<xs.length→idf j<n):∀r,r∈lT inner idf f xs→∀v,v∈r→v.low1 n:=by
 intro r a;simp only[lT,List.mem_mapIdx]at a;obtain⟨j,b,rfl⟩:=a;exact rh _ _ _ _ (h j b) trivial
theorem Gt(n:Nat)(q:List (List Nat)):∀r,r∈(pB q).es→∀v,v∈r→v.low1 n:=by
 intro r a;simp only[pB,List.mem_map]at a;obtain⟨p,_,rfl⟩:=a;exact aJ _ _
def bO(h:List Nat)(first a:Nat):List AV:=cb h++[.d (.int .i64 (first:Int)),.d (.int .i64 (a:Int))]
theorem lF{h:List Nat}(c:h.length=32)(a b:Nat):(bO h a b).length=34:=by simp[bO,ak,c]
theorem dM{h:List Nat}(c:h.length=32)(a b:Nat):List.take 34 (bO h a b)=bO h a b:=cx (by rw[lF c];exact cR _)
theorem rj{h:List Nat}(c:h.length=32)(a b:Nat):(bO h a b)[32]?=some (.d (.int .i64 (a:Int))):=jo c _ _
theorem xq{h:List Nat}(c:h.length=32)(a b:Nat):(bO h a b)[33]?=some (.d (.int .i64 (b:Int))):=lv c _ _
theorem jX{h:List Nat}(c:h.length=32)(a b:Nat)(e:32<(bO h a b).length):(bO h a b)[32]=.d (.int .i64 (a:Int)):=by
 have:=rj c a b;rw[cm e]at this;exact Option.some.inj this
theorem jY{h:List Nat}(c:h.length=32)(a b:Nat)(e:33<(bO h a b).length):(bO h a b)[33]=.d (.int .i64 (b:Int)):=by
 have:=xq c a b;rw[cm e]at this;exact Option.some.inj this
theorem vK{h:List Nat}(c:h.length=32)(a b:Nat):List.take 32 (bO h a b)=cb h:=by
 unfold bO;rw[List.take_append_of_le_length (by rw[ak,c];exact cR _),cx (by rw[ak,c];exact cR _)]
theorem Iu{h:List Nat}(c:h.length=32)(a b:AV):List.drop 33 (cb h++[a,b])=[b]:=by
 rw[List.drop_append,ak,c,dg (by rw[ak];omega)];rfl
theorem Bf{h:List Nat}(c:h.length=32)(a b:AV):List.take 33 (cb h++[a,b])=cb h++[a]:=by
 rw[List.take_append,ak,c,cx (by rw[ak];omega)];rfl
theorem Bg{h:List Nat}(c:h.length=32)(a b:AV):List.drop 34 (cb h++[a,b])=[]:=dg (by simp[ak,c])
theorem cZ(n:Nat)(h:List Nat)(a b:Nat):∀v,v∈bO h a b→v.low1 n:=by
 intro v c;rcases cL.1 c with q|q;exact aJ _ _ v q;simp at q;rcases q with rfl|rfl<;>trivial
theorem aaX:fQ Tryz.prog 174=some (bO z32 0 0):=by kernel_rfl
attribute [go_sem] aaX
def cG(first k:Nat)(h:List Nat)(f:jr):jr:=fun j=>if first≤j∧j<first+k then f j++[h]else f j
theorem zM(first:Nat)(h:List Nat)(f:jr):cG first 0 h f=f:=by
 funext j;unfold cG;rw[if_neg aq]
theorem vM(first k:Nat)(h:List Nat)(f:jr):cG first k h f (first+k)=f (first+k):=by unfold cG;rw[if_neg aq]
theorem zN(first k:Nat)(h:List Nat)(f:jr):VE (cG first k h f) (first+k) (f (first+k)++[h])=cG first (k+1) h f:=by
 funext j;unfold VE cG;by_cases b:j=first+k
 subst b;rw[if_pos rfl,if_pos aq]
 ·rw[if_neg b];by_cases a:first≤j∧j<first+k
  rw[if_pos a,if_pos aq];rw[if_neg a,if_neg aq]
def LK(inner:List Nat)(xs:List (List Nat))(b c a:List AV)(f:jr):Hp :=
 (74,⟨174,34,[b]⟩)::(42,⟨174,34,[c]⟩)::(10,⟨174,34,[a]⟩)::(0,⟨33,34,lT inner ub f xs⟩)::kF 1 8 f
theorem lG{inner:List Nat}{xs:List (List Nat)}{d e c:List AV}{f:jr}{hp:Hp}{nx N:Nat}(q:100≤N)(o:xs.length≤8)(k:∀v,v∈d→v.low1 N)(h:∀v,v∈e→v.low1 N)(hc:∀v,v∈c→v.low1 N)
  (i:lk 74 hp=some ⟨174,34,[d]⟩) (l:lk 42 hp=some ⟨174,34,[e]⟩) (h3:lk 10 hp=some ⟨174,34,[c]⟩) (n:lk 0 hp=some ⟨33,34,lT inner ub f xs⟩) (m:∀j,j<8→lk (ub j) hp=some (pB (f j))) :
  ∀p,p∈LK inner xs d e c f→(lk p.1 hp=some p.2∨(nx≤p.1∧p.2.es=[]))∧p.1<N∧∀r,r∈p.2.es→∀v,v∈r→v.low1 N:=by
 intro p a;unfold LK at a;simp only[et]at a;rcases a with rfl|rfl|rfl|rfl|a;exact⟨.inl i,by show 74<N;omega,by intro r b;simp at b;subst b;exact k⟩;exact⟨.inl l,by show 42<N;omega,by intro r b;simp at b;subst b;exact h⟩;exact⟨.inl h3,by show 10<N;omega,by intro r b;simp at b;subst b;exact hc⟩;exact⟨.inl n,by show 0<N;omega,It (fun j g=>by show 1+j<N;omega)⟩
 obtain⟨j,g,rfl⟩:=jV 8 1 f p a;exact⟨.inl (m j g),by show 1+j<N;omega,Gt _ _⟩
theorem NV(inner a b:List Nat)(xs:List (List Nat))(f:jr)(i s l p:Nat)(hi:inner.length=32)(z:a.length=32)(A:b.length=32)(B:xs.length≤8)(h1:i+s≤xs.length)(h2:l+p≤xs.length)(hf:∀j,(f j).length≤100) :
  cX Tryz.prog 112 9 ((0,⟨33,34,lT inner ub f xs⟩)::kF 1 8 f) [.own 0 0 xs.length xs.length,.agg (bO a i s),.agg (bO b l p)]
   (fun r M=>r=.agg (bO (cC a b) i (s+p))∧lk 0 M=some ⟨33,34,lT inner ub (cG l p a (cG i s b f)) xs⟩∧∀j,j<8→lk (ub j) M=some (pB (cG l p a (cG i s b f) j))):=by
 refine ap Tryz.func112 (by kernel_rfl) rfl Tryz.ntmps112 (rs:=[.cell 6 174]) rfl (dJ rfl) (dJ rfl) ?_;have L:=lF z i s;have sb:=lF A l p;have w1:IntKind.i64.wrap ((i:Int)+s)=((i+s:Nat):Int):=by rw[IntWalk.i64_in _ aq];omega
 have w2:IntKind.i64.wrap ((l:Int)+p)=((l+p:Nat):Int):=by rw[IntWalk.i64_in _ aq];omega
 have zs:(bO z32 0 0).length=34:=rfl;simp[go_sem,L,sb,zs,jX z,jY z,w1,-Int.natCast_add];refine⟨aq,?_⟩
 refine av (fun k:Nat=>⟨[(0,.own 0 0 xs.length xs.length),(4,.ptr 10 0 0 1),(5,.ptr 42 0 0 1),(6,.ptr 74 0 0 1),(20,.d (.int .i64 (s:Int))),(21,.d (.int .i64 (k:Int)))],
   LK inner xs (bO z32 0 0) (bO b l p) (bO a i s) (cG i k b f),10000⟩)
  (fun k=>k≤s) (fun k=>s-k) 0 aq (by
   rw[zM];refine⟨?_,?_,aw⟩;simp[ai,fv,lk,AV.low,AV.low1]
   exact lG (dJ rfl) B (cZ _ _ _ _) (cZ _ _ _ _) (cZ _ _ _ _) rfl rfl rfl rfl (fun j n=>by simp[lk,mH n,qK,mI n])) ?_
 intro k hk;simp only[LK];simp only[go_sem,Nat.reduceEqDiff,Nat.reduceAdd,Nat.reduceLT,↓reduceIte];refine⟨fun h=>?_,fun h=>?_⟩
 ·have n:i+k<xs.length:=aq;obtain⟨x,O⟩:∃x,xs[i+k]?=some x:=⟨_,cm n⟩;have W:=ay (k:=k) aq;have U:IntKind.i64.wrap ((i:Int)+k)=((i+k:Nat):Int):=by rw[IntWalk.i64_in _ aq];omega
  have y:=Be (inner:=inner) (idf:=ub) (f:=cG i k b f) O;have D:=fun q=>Is (inner:=inner) (idf:=ub) (f:=cG i k b f) q O;have w:i+k<8:=aq;have E:=mH w;have R:=qK (i+k);rw[vM]at y;simp[go_sem,L,jX z,jW,U,-Int.natCast_add];refine⟨aq,?_⟩
  have F:∀(f:jr)(c:Nat),9≤c→∀(a:Nat)(b:Blk),(a,b)∈kF 1 8 f→¬c=a:=by
   intro f c hc a b J e;obtain⟨j,n,Q⟩:=jV 8 1 f _ J;simp only[Prod.mk.injEq]at Q;omega
  refine dE [1,2,3,4,5,6] [0,7,8,9,10,11] [1,2,3,4,5,6] (.alt (bt 0 (bt 7 (a_ [8,9,10,11]))) (bt 7 (.alt (bt 0 (a_ [8,9,10,11])) (a_ [8,0,9,10,11])))) ⟨[(0,.own 0 0 xs.length xs.length),(4,.ptr 10 0 0 1),(5,.ptr 42 0 0 1),(6,.ptr 74 0 0 1),(20,.d (.int .i64 (s:Int))),(21,.d (.int .i64 (k:Int)))],LK inner xs (bO z32 0 0) (bO b l p) (bO a i s) (cG i (k+1) b f),20000⟩ (k:=12) ?h3 ?hq
  case h3 =>
   intro G N;have Z:∀(t:Fr)(H:Hp),(fv 0 t=.own 0 0 xs.length xs.length∧fv 4 t=.ptr 10 0 0 1∧fv 5 t=.ptr 42 0 0 1∧fv 6 t=.ptr 74 0 0 1∧fv 20 t=.d (.int .i64 (s:Int))∧fv 21 t=.d (.int .i64 (k:Int)) ∧
     H=(10544,⟨29,32,[cb b]⟩)::(74,⟨174,34,[bO z32 0 0]⟩)::(42,⟨174,34,[bO b l p]⟩)::(10,⟨174,34,[bO a i s]⟩)::(0,⟨33,34,lT inner ub (cG i (k+1) b f) xs⟩)::kF 1 8 (cG i (k+1) b f))→G t H:=by
    rintro t H⟨V,Y,q2,S,T,q5,rfl⟩;refine N _ _ (b7 ⟨?_,?_,aw⟩);simp[ai,AV.low,AV.low1,V,Y,q2,S,T,q5];exact lG (dJ rfl) B (cZ _ _ _ _) (cZ _ _ _ _) (cZ _ _ _ _) rfl rfl rfl rfl (fun j n=>by simp[lk,mH n,qK,mI n])
   have o:=D (f (i+k)++[b]);have m:=D5 (f:=cG i k b f) (f (i+k)++[b]) w;rw[zN]at o m;simp[ar,pB]at o m;have aa:=hf (i+k);simp[go_sem,sb,y,A,hi,ar,vK A,mI w,jW,E,R,vM,VF,aaW,VG,xp hi,o,m]
   repeat' apply And.intro
   all_goals first|exact Z _ _ (by simp[fv,lk])|omega|exact fun a c J e=>absurd e (F _ _ aq _ _ J)
  case hq =>
   simp[go_sem,W];refine am (k+1) aq aq ⟨?_,?_,aw⟩
   simp[ai,fv,lk,AV.low,AV.low1];exact lG (dJ rfl) B (cZ _ _ _ _) (cZ _ _ _ _) (cZ _ _ _ _) rfl rfl rfl rfl (fun j n=>by simp[LK,lk,mH n,qK,mI n])
 ·have I:k=s:=aq;subst I;simp[go_sem,sb,jX A,jY A,w2,-Int.natCast_add];refine⟨aq,?_⟩
  have hg:∀j,(cG i k b f j).length≤101:=by
   intro j;have:=hf j;unfold cG;split;simp;omega;omega
  have ab:i+k≤8:=aq;generalize cG i k b f=g at *;clear hk h w1;revert L;revert h1;generalize k=C;intro h1 L;refine av (fun k:Nat=>⟨[(0,.own 0 0 xs.length xs.length),(4,.ptr 10 0 0 1),(5,.ptr 42 0 0 1),(6,.ptr 74 0 0 1),(51,.d (.int .i64 (p:Int))),(52,.d (.int .i64 (k:Int)))],
    LK inner xs (bO z32 0 0) (bO b l p) (bO a i C) (cG l k a g),10000⟩)
   (fun k=>k≤p) (fun k=>p-k) 0 aq (by
    rw[zM];refine⟨?_,?_,aw⟩;simp[ai,fv,lk,AV.low,AV.low1]
    exact lG (dJ rfl) B (cZ _ _ _ _) (cZ _ _ _ _) (cZ _ _ _ _) rfl rfl rfl rfl (fun j n=>by simp[lk,mH n,qK,mI n])) ?_
  intro k hk;simp only[LK];simp only[go_sem,Nat.reduceEqDiff,Nat.reduceAdd,Nat.reduceLT,↓reduceIte];refine⟨fun h=>?_,fun h=>?_⟩
  ·have n:l+k<xs.length:=aq;obtain⟨x,O⟩:∃x,xs[l+k]?=some x:=⟨_,cm n⟩;have W:=ay (k:=k) aq;have U:IntKind.i64.wrap ((l:Int)+k)=((l+k:Nat):Int):=by rw[IntWalk.i64_in _ aq];omega
   have y:=Be (inner:=inner) (idf:=ub) (f:=cG l k a g) O;have D:=fun q=>Is (inner:=inner) (idf:=ub) (f:=cG l k a g) q O;have w:l+k<8:=aq;have E:=mH w;have R:=qK (l+k);rw[vM]at y;simp[go_sem,sb,jX A,jW,U,-Int.natCast_add];refine⟨aq,?_⟩
   have F:∀(f:jr)(c:Nat),9≤c→∀(u:Nat)(v:Blk),(u,v)∈kF 1 8 f→¬c=u:=by
    intro f c hc u v J e;obtain⟨j,n,Q⟩:=jV 8 1 f _ J;simp only[Prod.mk.injEq]at Q;omega
   refine dE [1,2,3,4,5,6] [0,7,8,9,10,11] [1,2,3,4,5,6] (.alt (bt 0 (bt 7 (a_ [8,9,10,11]))) (bt 7 (.alt (bt 0 (a_ [8,9,10,11])) (a_ [8,0,9,10,11])))) ⟨[(0,.own 0 0 xs.length xs.length),(4,.ptr 10 0 0 1),(5,.ptr 42 0 0 1),(6,.ptr 74 0 0 1),(51,.d (.int .i64 (p:Int))),(52,.d (.int .i64 (k:Int)))],LK inner xs (bO z32 0 0) (bO b l p) (bO a i C) (cG l (k+1) a g),20000⟩ (k:=12) ?h3 ?hq
   case h3 =>
    intro G N;have Z:∀(t:Fr)(H:Hp),(fv 0 t=.own 0 0 xs.length xs.length∧fv 4 t=.ptr 10 0 0 1∧fv 5 t=.ptr 42 0 0 1∧fv 6 t=.ptr 74 0 0 1∧fv 51 t=.d (.int .i64 (p:Int))∧fv 52 t=.d (.int .i64 (k:Int)) ∧
      H=(10544,⟨29,32,[cb a]⟩)::(74,⟨174,34,[bO z32 0 0]⟩)::(42,⟨174,34,[bO b l p]⟩)::(10,⟨174,34,[bO a i C]⟩)::(0,⟨33,34,lT inner ub (cG l (k+1) a g) xs⟩)::kF 1 8 (cG l (k+1) a g))→G t H:=by
     rintro t H⟨V,Y,q2,S,T,q5,rfl⟩;refine N _ _ (b7 ⟨?_,?_,aw⟩);simp[ai,AV.low,AV.low1,V,Y,q2,S,T,q5];exact lG (dJ rfl) B (cZ _ _ _ _) (cZ _ _ _ _) (cZ _ _ _ _) rfl rfl rfl rfl (fun j n=>by simp[lk,mH n,qK,mI n])
    have o:=D (g (l+k)++[a]);have m:=D5 (f:=cG l k a g) (g (l+k)++[a]) w;rw[zN]at o m;simp[ar,pB]at o m;have aa:=hg (l+k);simp[go_sem,L,y,z,hi,ar,vK z,mI w,jW,E,R,vM,VF,aaW,VG,xp hi,o,m]
    repeat' apply And.intro
    all_goals first|exact Z _ _ (by simp[fv,lk])|omega|exact fun a c J e=>absurd e (F _ _ aq _ _ J)
   case hq =>
    simp[go_sem,W];refine am (k+1) aq aq ⟨?_,?_,aw⟩
    simp[ai,fv,lk,AV.low,AV.low1];exact lG (dJ rfl) B (cZ _ _ _ _) (cZ _ _ _ _) (cZ _ _ _ _) rfl rfl rfl rfl (fun j n=>by simp[LK,lk,mH n,qK,mI n])
  ·have I:k=p:=aq;subst I;have w5:IntKind.i64.wrap ((C:Int)+k)=((C+k:Nat):Int):=by rw[IntWalk.i64_in _ aq];omega
   have K:=iT a b;skip;refine dE [0,1,2,3,5,6,7,8,9,10,11] [4,13] [0,1,2,3,5,6,7,8,9,10,11,12] (.step 4 [12] true (a_ [13])) ⟨[(6,.ptr 74 0 0 1)],LK inner xs (bO (cC a b) i (C+k)) (bO b l k) (bO a i C) (cG l k a g),30000⟩ (k:=14) ?h3 ?hq
   case h3 =>
    intro G N;simp[go_sem,L,sb,vK z,vK A,jX z,jY z,jY A,w5,-Int.natCast_add];refine ag (zF a b z A) (by intro v hv;simp at hv;rcases hv with rfl|rfl<;>exact bn _) ?_;have hz:List.drop 32 (bO z32 0 0)=[.d (.int .i64 0),.d (.int .i64 0)]:=rfl;have X:List.drop 34 (bO z32 0 0)=[]:=rfl;have e1:=Iu K;have Q:=Bf K;have e3:=Bg K;simp[go_sem,K,ak,zs,hz,X,e1,Q,e3];refine N _ _ (b7 ⟨?_,?_,aw⟩)
    simp[ai,fv,lk,AV.low,AV.low1];exact lG (dJ rfl) B (cZ _ _ _ _) (cZ _ _ _ _) (cZ _ _ _ _) (by simp[lk,bO]) rfl rfl rfl (fun j n=>by simp[lk,mH n,qK,mI n])
   case hq =>
    simp[go_sem,LK,dM K,lF K];intro j n;simp[mH n,qK,mI n]
def kG(j:Nat):Nat:=20000+j
def oY:List (Nat×Nat):=[(0,10000),(1,20000),(2,20001),(3,20002),(4,20003),(5,20004),(6,20005),(7,20006),(8,20007)]
theorem kn(ρ:Nat→Nat):∀l:List AV,AV.renL ρ l=l.map (AV.ren ρ)
 |[]=>rfl
 |a::r=>by rw[AV.renL,List.map_cons,kn ρ r]
theorem Gu(ρ:Nat→Nat)(l:List Nat):(cb l).map (AV.ren ρ)=cb l:=by simp[cb,AV.ren]
theorem D6{ρ:Nat→Nat}{inner:List Nat}{idf a:Nat→Nat}{f:jr}{xs:List (List Nat)}(h:∀j,j<xs.length→ρ (idf j)=a j):aO ρ (lT inner idf f xs)=lT inner a f xs:=by
 apply List.ext_getElem?;intro i;simp only[aO,lT,c_,List.getElem?_mapIdx,Option.map_map];cases c:xs[i]? with
 |none=>rfl
 |some x =>
  have b:=(ci.1 c).1;simp[ar,kn,Gu,AV.ren,h i b]
theorem NW(ρ:Nat→Nat)(q:List (List Nat)):(pB q).ren ρ=pB q:=by
 unfold Blk.ren pB;simp only[aO,List.map_map,Blk.mk.injEq,true_and];apply List.map_congr_left;intro l _;simp only[Function.comp_apply,kn,Gu]
theorem D7(ρ:Nat→Nat)(h:List Nat)(a b:Nat):(AV.agg (bO h a b)).ren ρ=.agg (bO h a b):=by
 rw[AV.ren,kn,bO,List.map_append,Gu];rfl
theorem adQ:∀j,j<8→b8 (iJ oY) 9 (kG j)=ub j:=by decide
theorem adR(N:Nat):∀j,j<8→b8 (bB oY [] N) (N+31) (ub j)=kG j:=by
 have h:∀j,j<8→lk (ub j) oY=some (kG j):=by decide
 intro j a;unfold b8 bB;rw[List.map_nil,List.append_nil,h j a];rfl
theorem NX{f:jr}{i:Nat}(h:i<20000∨20008≤i):lk i (kF 20000 8 f)=none:=by
 cases a:lk i (kF 20000 8 f)with
 |none=>rfl
 |some b =>
  obtain⟨j,c,e⟩:=jV 8 20000 f _ (bK a);simp only[Prod.mk.injEq]at e;omega
theorem D8{f:jr}{i:Nat}{r:Hp}(h:i<20000∨20008≤i):lk i (kF 20000 8 f++r)=lk i r:=by
 rw[oP,NX h]
theorem zO{i:Nat}{b:Blk}:∀{a r:Hp},(∀p,p∈a→p.1≠i)→bX i b (a++r)=a++bX i b r
 |[],r,_=>rfl
 |(m,v)::t,r,h=>by
  rw[List.cons_append,bX,if_neg (h _ (d7 ..)),zO (fun p c=>h p (cU _ c))];rfl
theorem Gv{f:jr}{i:Nat}{b:Blk}{r:Hp}(h:i<20000∨20008≤i):bX i b (kF 20000 8 f++r)=kF 20000 8 f++bX i b r :=
 zO (fun p a=>by
  obtain⟨j,c,rfl⟩:=jV 8 20000 f p a;show 20000+j≠i
  omega)
theorem XM{f:jr}{j:Nat}{r:Hp}(h:j<8):lk (kG j) (kF 20000 8 f++r)=some (pB (f j)):=by
 rw[oP,show lk (kG j) (kF 20000 8 f)=some (pB (f j))from oW 8 20000 f j h]
theorem NY{P:Program}{N:Nat}{K:AV→Hp→Prop}{pre:Hp}(inner a b:List Nat)(xs:List (List Nat))(f:jr)(c d k e:Nat)(O:xs.length≤8)
  (M:cX P 112 9 ((0,⟨33,34,lT inner ub f xs⟩)::kF 1 8 f) [.own 0 0 xs.length xs.length,.agg (bO a c d),.agg (bO b k e)]
   (fun r l=>r=.agg (bO (cC a b) c (d+e))∧lk 0 l=some ⟨33,34,lT inner ub (cG k e a (cG c d b f)) xs⟩∧∀j,j<8→lk (ub j) l=some (pB (cG k e a (cG c d b f) j))))
  (o:∀p,p∈pre→p.1≠10000∧(p.1<20000∨20008≤p.1))
  (F:K (.agg (bO (cC a b) c (d+e))) ((10000,⟨33,34,lT inner kG (cG k e a (cG c d b f)) xs⟩)::(kF 20000 8 (cG k e a (cG c d b f))++pre))) :
  uK P 112 [.own 10000 0 xs.length xs.length,.agg (bO a c d),.agg (bO b k e)] (pre++(10000,⟨33,34,lT inner kG f xs⟩)::kF 20000 8 f) N K:=by
 have h:∀i,(i=10000∨(20000≤i∧i<20008))→lk i pre=none:=by
  intro i Q;cases J:lk i pre with
  |none=>rfl
  |some b =>
   have:=o _ (bK J);simp only at this;omega
 have u:lk 10000 (pre++(10000,⟨33,34,lT inner kG f xs⟩)::kF 20000 8 f)=some ⟨33,34,lT inner kG f xs⟩:=by
  rw[oP,h 10000 (.inl rfl)];rfl
 have lP:∀j,j<8→lk (kG j) (pre++(10000,⟨33,34,lT inner kG f xs⟩)::kF 20000 8 f)=some (pB (f j)):=by
  intro j m;rw[oP,h (kG j) (.inr ⟨by unfold kG;omega,by unfold kG;omega⟩)];show lk (kG j) ((10000,_)::kF 20000 8 f)=_;rw[lk,if_neg (by unfold kG;omega)];exact oW 8 20000 f j m
 have q:∀p,p∈oY→p=(0,10000)∨∃j,j<8∧p=(ub j,kG j):=by decide
 refine aP oY M rfl ?_ ?_ ?_ ?_ ?_;decide;intro p g;rcases q p g with rfl|⟨j,m,rfl⟩;exact⟨_,u,aw⟩;exact⟨_,lP j m,by simp[pB]⟩;intro p g;rcases et.1 g with rfl|g;refine⟨10000,_,rfl,u,?_⟩;simp only[Blk.ren,Blk.mk.injEq,true_and];exact(D6 (fun j m=>adQ j aq)).symm;obtain⟨j,m,rfl⟩:=jV 8 1 f p g;have w:∀j,j<8→lk (1+j) oY=some (kG j):=by decide
 exact⟨kG j,_,w j m,lP j m,(NW _ _).symm⟩;simp only[kn,List.map_cons,List.map_nil,D7];rfl;rintro r l⟨rfl,G,n⟩;refine⟨[],rfl,?_⟩;rw[D7];have H:bZ oY [] N l (pre++(10000,⟨33,34,lT inner kG f xs⟩)::kF 20000 8 f)=(10000,⟨33,34,lT inner kG (cG k e a (cG c d b f)) xs⟩)::(kF 20000 8 (cG k e a (cG c d b f))++pre):=by
  unfold bZ;have s:((pre++(10000,⟨33,34,lT inner kG f xs⟩)::kF 20000 8 f).filter fun p=>!(oY.map (·.2)).contains p.1)=pre:=by
   rw[List.filter_append];have L:pre.filter (fun p=>!(oY.map (·.2)).contains p.1)=pre:=by
    rw[List.filter_eq_self];intro p g;have:=o p g;simp[oY];omega
   have I:((10000,(⟨33,34,lT inner kG f xs⟩:Blk))::kF 20000 8 f).filter (fun p=>!(oY.map (·.2)).contains p.1)=[]:=by
    rw[List.filter_eq_nil_iff];intro p g;rcases et.1 g with rfl|g;simp[oY];obtain⟨j,m,rfl⟩:=jV 8 20000 f p g;simp[oY];omega
   rw[L,I,List.append_nil]
  rw[s,←List.cons_append];congr 1;have E:=n 0 aq;have y:=n 1 aq;have D:=n 2 aq;have A:=n 3 aq;have C:=n 4 aq;have z:=n 5 aq;have x:=n 6 aq;have B:=n 7 aq;simp only[ub,Nat.reduceAdd]at E y D A C z x B;have v:(⟨33,34,lT inner ub (cG k e a (cG c d b f)) xs⟩:Blk).ren (b8 (bB oY [] N) (N+31))=⟨33,34,lT inner kG (cG k e a (cG c d b f)) xs⟩:=by
   simp only[Blk.ren,Blk.mk.injEq,true_and];exact D6 (fun j m=>adR N j aq)
  have t:bB oY [] N=oY:=by simp[bB]
  rw[t]at v⊢;simp only[oY]at v⊢;simp[G,E,y,D,A,C,z,x,B,NW,kF,v]
 rw[H];exact F
end Go.Proofs.YtmfnimjnneflnaaGreat
namespace Go.Am
def XN(n:Nat)(v a:AV):Prop:=a=v∨(v=.nil∧∃id,id<n∧a=.own id 0 0 0)
def SZ(n:Nat)(v a:AV):Prop:=a=v∨(v=.nil∧∃id,id<n∧a=.own id 0 0 0)∨(v=.nil∧∃e,a=.d (.ro e []))
theorem zP{st:St}{L:Nat}{b:Blk}{es':List (List AV)}(V:lk L st.hp=some b)(hz:b.e≠0)(hl:es'.length=b.es.length)
  (hc:∀(i:Nat)(x G:List AV),b.es[i]?=some x→es'[i]?=some G→G.length=x.length∧∀(j:Nat)(v W:AV),x[j]?=some v→G[j]?=some W→SZ st.nx v W):Wk st ⟨st.fr,bX L ⟨b.ty,b.e,es'⟩ st.hp,st.nx⟩:=by
 intro c a w hs;obtain⟨h1,h2,σ,r,Z,u⟩:=hs;have l:∀i k,lk i (bX L ⟨b.ty,b.e,es'⟩ st.hp)=some k→∃p,lk i st.hp=some p∧k.ty=p.ty∧k.e=p.e∧k.es.length=p.es.length∧(i≠L→k=p)∧(i=L→k=⟨b.ty,b.e,es'⟩∧p=b):=by
  intro i k h;rw[lW]at h;by_cases m:i=L;subst m;rw[if_pos rfl,V]at h;simp only[Option.map_some,Option.some.injEq]at h;subst h;exact⟨b,V,rfl,rfl,hl,fun e=>absurd rfl e,fun _=>⟨rfl,rfl⟩⟩;rw[if_neg m]at h;exact⟨k,h,rfl,rfl,rfl,fun _=>rfl,fun e=>absurd e m⟩
 have hS:∀p,bQ c w σ st.hp p→bQ c w σ (bX L ⟨b.ty,b.e,es'⟩ st.hp) p:=fun p t=>⟨⟨t.1.1,fun id S g h z=>by
  obtain⟨f,o,_⟩:=l id S h
  exact t.1.2 id f g o z⟩,t.2⟩
 have step:Step w (bQ c w σ st.hp) σ st.hp (fun i=>i<st.nx) w (bQ c w σ (bX L ⟨b.ty,b.e,es'⟩ st.hp)) σ (bX L ⟨b.ty,b.e,es'⟩ st.hp) (fun i=>i<st.nx) :=
  ⟨hS,fun _ _=>rfl,fun _ h=>h,fun id k _ h=>by
   obtain⟨f,o,B,D,R,_⟩:=l id k h
   exact⟨f,o,D,B,aq,fun _ g z=>⟨z,fun _ h=>h⟩⟩⟩
 refine⟨h1,h2,σ,⟨fun i j bi bj g m E N M=>?_,fun i k h=>?_,fun i k h=>?_,fun i k g h z=>?_,r.os,r.tape,r.output,r.size,r.old⟩,fun n=>(Z n).step step,u.trans step⟩;obtain⟨f,o,_⟩:=l i bi m;obtain⟨b2,B,_⟩:=l j bj E;exact r.inj i j f b2 g o B N M;obtain⟨f,o,_⟩:=l i k h;exact r.lt i f o;obtain⟨f,o,B,D,R,T,K⟩:=l i k h;rcases r.blk i f o with ⟨O,k2⟩|⟨g,O,F,k2,k3,k4,k5,Y⟩;refine .inl ⟨O,?_⟩;by_cases m:i=L;obtain⟨rfl,rfl⟩:=K m;have:=k2.none hz;exact .inl (List.length_eq_zero_iff.1 (by rw[R,this];rfl));rw[T m];exact k2;refine .inr ⟨g,O,F,by rw[B];exact k2,k3,?_,by rw[R,D];exact k5,?_⟩;by_cases m:i=L;obtain⟨rfl,rfl⟩:=K m;intro x hx;obtain⟨n,U,rfl⟩:=List.mem_iff_getElem.1 hx;have q:n<f.es.length:=by simp only at U;omega
 obtain⟨X,_⟩:=hc n f.es[n] _ (cm q) (cm U);rw[X];exact k4 _ (List.getElem_mem _);rw[T m];exact k4;intro s j x y v C H Q;rw[D]at Q;by_cases m:i=L;obtain⟨rfl,rfl⟩:=K m;have q:s<f.es.length:=by have:=(ci.1 C).1;simp only at this;omega
 obtain⟨X,q2⟩:=hc s f.es[s] x (cm q) C;have E:j<f.es[s].length:=by have:=(ci.1 H).1;omega
 have A:=Y s j f.es[s] f.es[s][j] v (cm q) (cm E) Q;rcases q2 j _ y (cm E) H with rfl|⟨I,id,J,rfl⟩|⟨I,e,rfl⟩;exact A.step step;rw[I]at A;cases A with
 |nil=>exact .own id 0 0 0 none 0 J (cR _) (fun _=>rfl) fun b2 aa=>⟨Nat.zero_le _,fun _=>⟨cR _,cR _,fun h=>aq⟩⟩
 ·rw[I]at A;cases A with
  |nil=>exact .d (.ro e [] none 0 (fun _ _=>undef) (cR _) aw aw aw aw)
 ·rw[T m]at C;exact(Y s j x y v C H Q).step step
 ·obtain⟨f,o,_⟩:=l i k h;exact r.mine i f g o z
theorem NZ{st:St}{L:Nat}{b:Blk}{es':List (List AV)}(k:lk L st.hp=some b)(hz:b.e≠0)(l:es'.length=b.es.length)
  (hc:∀(i:Nat)(x a:List AV),b.es[i]?=some x→es'[i]?=some a→a.length=x.length∧∀(j:Nat)(v c:AV),x[j]?=some v→a[j]?=some c→XN st.nx v c):Wk st ⟨st.fr,bX L ⟨b.ty,b.e,es'⟩ st.hp,st.nx⟩ :=
 zP k hz l fun i x a f d=>⟨(hc i x a f d).1,fun j v c h g=>((hc i x a f d).2 j v c h g).imp id .inl⟩
end Go.Am
namespace Go.Proofs.YtmfnimjnneflnaaGreat
open Go.Am Go.Sha
abbrev Row:=List (List Nat×Nat)
def D9(h:List Nat)(s m:Nat):List DV:=cd h++[.int .i64 (s:Int),.int .i64 (m:Int)]
def mJ:Nat→Row→List (List DV)
 |_,[]=>[]
 |s,p::r=>D9 p.1 s p.2::mJ (s+p.2) r
theorem Ea(h:List Nat)(s m:Nat):(D9 h s m).map AV.d=bO h s m:=by simp[D9,bO,da]
theorem xu{h:List Nat}(a:h.length=32)(s m:Nat):(D9 h s m).length=34:=by simp[D9,cj,a]
theorem nJ:∀(s:Nat)(r:Row),(mJ s r).length=r.length
 |_,[]=>rfl
 |s,p::r=>by rw[mJ,List.length_cons,List.length_cons,nJ]
def io(r:Row):Nat:=(r.map (·.2)).sum
theorem vO:∀(s:Nat)(a b:Row),mJ s (a++b)=mJ s a++mJ (s+io a) b
 |s,[],b=>by simp[mJ,io]
 |s,p::a,b=>by
  rw[List.cons_append,mJ,mJ,vO (s+p.2) a b,List.cons_append];congr 2;simp[io,Nat.add_assoc]
theorem xw:∀(s:Nat)(r:Row),(∀p,p∈r→p.1.length=32)→∀x,x∈mJ s r→x.length=34
 |_,[],_,x,h=>by simp[mJ]at h
 |s,p::r,hp,x,h=>by
  rcases et.1 h with rfl|h;exact xu (hp p (d7 ..)) _ _;exact xw _ r (fun q a=>hp q (cU _ a)) x h
theorem Bh(n s:Nat)(r:Row):∀x,x∈(mJ s r).map (fun q=>q.map AV.d)→∀v,v∈x→v.low1 n:=by
 intro x a v b;obtain⟨q,_,rfl⟩:=List.mem_map.1 a;obtain⟨d,_,rfl⟩:=List.mem_map.1 b;trivial
def dQ:Row→Row
 |a::b::r=>(cC a.1 b.1,a.2+b.2)::dQ r
 |r=>r
def gu:Nat→Row→jr→jr
 |s,a::b::r,f=>gu (s+a.2+b.2) r (cG (s+a.2) b.2 a.1 (cG s a.2 b.1 f))
 |_,_,f=>f
theorem oZ:∀r:Row,2*(dQ r).length≤r.length+1
 |[]=>by simp[dQ]
 |[a]=>by simp[dQ]
 |a::b::r=>by
  have:=oZ r;simp only[dQ,List.length_cons];omega
theorem rk:∀r:Row,io (dQ r)=io r
 |[]=>rfl
 |[a]=>rfl
 |a::b::r=>by
  have:=rk r;simp only[dQ,io,List.map_cons,List.sum_cons]at this⊢;omega
theorem vP:∀r:Row,(∀p,p∈r→p.1.length=32)→∀p,p∈dQ r→p.1.length=32
 |[],h=>h
 |[a],h=>h
 |a::b::r,h=>by
  intro p c;rcases et.1 c with rfl|c;exact iT _ _;exact vP r (fun q d=>h q (by simp[d])) p c
def d0:Nat→Row→jr→Row×jr
 |0,r,f=>(r,f)
 |n+1,r,f=>if 1<r.length then d0 n (dQ r) (gu 0 r f)else(r,f)
theorem Gw{n:Nat}{r:Row}{f:jr}(h:r.length≤1):d0 n r f=(r,f):=by
 cases n with
 |zero=>rfl
 |succ n=>rw[d0,if_neg aq]
def fK(xs:List (List Nat)):Row:=xs.map fun x=>(eo x,1)
theorem rl(xs:List (List Nat)):io (fK xs)=xs.length:=by
 induction xs with
 |nil=>rfl
 |cons a r ih=>simp only[fK,io,List.map_cons,List.sum_cons,List.length_cons]at ih⊢;omega
theorem sM(xs:List (List Nat)):∀p,p∈fK xs→p.1.length=32:=by
 intro p a;obtain⟨x,_,rfl⟩:=List.mem_map.1 a;exact mW x
theorem N1(a b:List (List Nat)):fK (a++b)=fK a++fK b:=by simp[fK]
def bM(xs:List (List Nat)):jr:=(d0 7 (fK xs) fun _=>[]).2
theorem sN{first k:Nat}{h:List Nat}{f:jr}{B s:Nat}(b:∀j,(f j).length≤if j<s then B+1 else B)(c:s≤first):∀j,((cG first k h f) j).length≤if j<first+k then B+1 else B:=by
 intro j;have:=b j;unfold cG;by_cases a:first≤j∧j<first+k
 rw[if_pos a,if_pos a.2];rw[if_neg aq]at this;simp;omega;rw[if_neg a];split at this;rw[if_pos aq];omega;split<;>omega
def c7(inner:List Nat)(l:List (List Nat)×List Nat):List DV:=cd inner++[bW l.1,nb l.2]
theorem kX{inner:List Nat}(hi:inner.length=32)(l:List (List Nat)×List Nat):(c7 inner l).length=34:=by simp[c7,cj,hi]
theorem pT(inner:List Nat)(l:List (List Nat)×List Nat):(c7 inner l).map AV.d=ar inner (.d (bW l.1)) (.d (nb l.2)):=by simp[c7,ar,da]
theorem Gx(inner:List Nat)(a b:DV):(AV.agg (ar inner (.d a) (.d b))).deep:=by
 intro c hc;unfold ar at hc;rcases cL.1 hc with h|h;exact bn _ _ h;simp at h;rcases h with rfl|rfl<;>trivial
theorem iU{inner:List Nat}(hi:inner.length=32)(a b:AV):(ar inner a b).length=34:=by simp[ar,ak,hi]
theorem iL{inner:List Nat}(hi:inner.length=32)(a b:AV):List.take 34 (ar inner a b)=ar inner a b:=cx (by rw[iU hi];exact cR _)
theorem pU(inner:List Nat)(a b:DV):∀v,v∈[AV.agg (ar inner (.d a) (.d b))]→v.deep:=by
 intro v c;simp at c;subst c;exact Gx _ _ _
theorem N2(inner:List Nat)(l:List (List Nat)×List Nat)(O:List Nat)(e:Int)(hi:inner.length=32)
  (g:au Tryz.prog 46 [.agg (ar inner (.d (bW l.1)) (.d (nb l.2)))] (fun r=>r=.tup [.d (nb O),.d (.int .i64 e)])) :
  au Tryz.prog 113 [.agg (ar inner (.d (bW l.1)) (.d (nb l.2)))] (fun r=>r=.d (.bool (!decide (e=0)))):=by
 refine bF Tryz.func113 Tryz.ntmps113 (rs:=[.tmp 2]) (pU _ _ _) ?_;simp[go_sem,iU hi,iL hi];refine ag g (pU _ _ _) ?_;simp[go_sem,ah];exact aa a9 rfl
abbrev Lf:=List (List Nat)×List Nat
def sO(E:Lf→Int)(a:List Lf):Bool:=a.any fun l=>!decide (E l=0)
theorem N4{E:Lf→Int}{l:List Lf}{k:Nat}{x:Lf}{b:Bool}(a:l.drop k=x::l.drop (k+1))(h:sO E (l.drop k)=b)(c:E x=0):sO E (l.drop (k+1))=b:=by
 rw[a]at h;rw[←h];simp[sO,c]
theorem N5{E:Lf→Int}{l:List Lf}{k:Nat}{x:Lf}{b:Bool}(a:l.drop k=x::l.drop (k+1))(h:sO E (l.drop k)=b)(c:¬E x=0):b=true:=by
 rw[a]at h;rw[←h];simp[sO,c]
theorem Ky(inner:List Nat)(a:List Lf)(O:Lf→List Nat)(E:Lf→Int)(hi:inner.length=32)(o:a.length≤1000000000)
  (g:∀l,l∈a→au Tryz.prog 46 [.agg (ar inner (.d (bW l.1)) (.d (nb l.2)))] (fun r=>r=.tup [.d (nb (O l)),.d (.int .i64 (E l))])) :
  au Tryz.prog 154 [.d (.ro 34 (a.map (c7 inner))),.fn 113 []] (fun r=>∃n:Int,r=.d (.int .i64 n)∧decide (0≤n)=sO E a):=by
 refine bF Tryz.func154 Tryz.ntmps154 (rs:=[.tmp 4]) a9 ?_;simp[go_sem]
 refine av (fun k:Nat=>⟨[(0,.d (.ro 34 (a.map (c7 inner)))),(1,.fn 113 []),(7,.d (.int .i64 (a.length:Int))),(8,.d (.int .i64 (k:Int)))],[],1000⟩)
  (fun k=>k≤a.length∧sO E (a.drop k)=sO E a) (fun k=>a.length-k) 0 ⟨aq,rfl⟩ (by
   simp[az,ai,fv,lk,AV.low,AV.low1]) ?_
 rintro k⟨p,f⟩;simp only[go_sem,Nat.reduceEqDiff,Nat.reduceAdd,Nat.reduceLT,↓reduceIte];refine⟨fun h=>?_,fun h=>?_⟩
 ·obtain⟨x,c,j⟩:=bg (l:=a) (k:=k) aq;have m:=ay (k:=k) aq;have b:=kX hi x;simp[go_sem,c,b,pT,iL hi];refine ag (N2 inner x (O x) (E x) hi (g x (cr c))) (pU _ _ _) ?_;by_cases e:E x=0
  ·simp[go_sem,e,m];refine am (k+1) ⟨aq,N4 j f e⟩ aq ?_;simp[az,ai,fv,lk,AV.low,AV.low1]
  ·have:=N5 j f e;simp[go_sem,e];exact aa a9 ⟨_,rfl,by rw[this];simp⟩
 ·have i:k=a.length:=aq;subst i;rw[List.drop_length]at f;simp[go_sem];exact aa a9 ⟨_,rfl,by rw[←f];rfl⟩
theorem Bi(inner:List Nat)(a:List Lf)(O:Lf→List Nat)(E:Lf→Int)(hi:inner.length=32)(c:a.length≤1000000000)
  (g:∀l,l∈a→au Tryz.prog 46 [.agg (ar inner (.d (bW l.1)) (.d (nb l.2)))] (fun r=>r=.tup [.d (nb (O l)),.d (.int .i64 (E l))])) :
  au Tryz.prog 114 [.d (.ro 34 (a.map (c7 inner))),.fn 113 []] (fun r=>r=.d (.bool (sO E a))):=by
 refine bF Tryz.func114 Tryz.ntmps114 (rs:=[.tmp 4]) a9 ?_;simp[go_sem];refine Nu (Ky inner a O E hi c g) a9 ?_;rintro r⟨n,rfl,b⟩;rw[←b];simp[go_sem];exact aa a9 rfl
def mZ(f:jr)(xs:List (List Nat)):List Lf:=xs.mapIdx fun j x=>(f j,x)
theorem Bj{hp:Hp}{I:Nat→Prop}{a c:List AV}{b d:List DV}(h:CellsR hp I a b)(e:CellsR hp I c d):CellsR hp I (a++c) (b++d):=by
 induction h with
 |nil=>exact e
 |cons h t ih=>exact .cons h ih
theorem uP{hp:Hp}{I:Nat→Prop}:∀(rows:List (List AV))(es:List (List DV)),rows.length=es.length→(∀(i:Nat)(x:List AV)(y:List DV),rows[i]?=some x→es[i]?=some y→CellsR hp I x y)→RowsR hp I rows es
 |[],[],_,_=>.nil
 |[],_::_,h,_=>by simp at h
 |_::_,[],h,_=>by simp at h
 |x::rows,y::es,h,hg=>.cons (hg 0 x y rfl rfl) (uP rows es (by simpa using h) (fun i a b d c=>hg (i+1) a b (by simpa using d) (by simpa using c)))
theorem Bl(f:jr)(xs:List (List Nat)):(mZ f xs).length=xs.length:=by simp[mZ]
theorem Eb{hp:Hp}{I:Nat→Prop}{inner:List Nat}{idf:Nat→Nat}{f:jr}{xs:List (List Nat)}{id:Nat}(hi:inner.length=32)(o:lk id hp=some ⟨33,34,lT inner idf f xs⟩)(q:I id)(g:∀j,j<xs.length→I (idf j))
  (a:∀j p,p∈f j→p.length=32) (s:∀j,j<xs.length→lk (idf j) hp=some (pB (f j))):SnapD hp I (.own id 0 xs.length xs.length) (.ro 34 ((mZ f xs).map (c7 inner))):=by
 refine kr o q jW ?_ (by rw[List.length_map,Bl]) (fun r c=>?_);rw[List.drop_zero,cx (by rw[jW];exact cR _)];refine uP _ _ (by simp[jW,Bl]) (fun i x y k m=>?_);simp only[lT,mZ,c_,List.getElem?_mapIdx,Option.map_map,Option.map_eq_some_iff]at k m;obtain⟨u,h,rfl⟩:=k;obtain⟨v,n,rfl⟩:=m;rw[h]at n;cases n;unfold ar;simp only[Function.comp_apply,c7];rw[←da];refine Bj (kW _) (.cons ?_ (.cons (.d _) .nil));have b:=(ci.1 h).1;refine ej (ty:=29) (e:=32) (es:=(f i).map cd) ?_ (g i b) aw (fun r c=>?_);rw[s i b];simp[pB,da];obtain⟨p,hp,rfl⟩:=List.mem_map.1 c;rw[cj];exact a i p hp;obtain⟨l,_,rfl⟩:=List.mem_map.1 c;exact kX hi l
end Go.Proofs.YtmfnimjnneflnaaGreat
