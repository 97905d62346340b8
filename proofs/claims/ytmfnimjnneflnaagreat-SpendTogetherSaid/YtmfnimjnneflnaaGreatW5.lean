/-
 Part 6 of what the claim rests on.
-/
import Derived.Test.YtmfnimjnneflnaaGreatW3
import Derived.Test.YtmfnimjnneflnaaGreatW4
import Derived.Lib.BytesEntry
set_option linter.unusedVariables false
set_option linter.unusedSimpArgs false
set_option maxRecDepth 100000
set_option maxHeartbeats 16000000
namespace Go.Sha
def le(x:Nat):Nat→List Nat
 |0=>[]
 |k+1=>le x k++[t8 (jr (8*k) x)]
theorem aQ(x:Nat):∀k,(le x k).length=k
 |0=>rfl
 |k+1=>by simp[le,aQ x k]
end Go.Sha
namespace Go.Proofs.YtmfnimjnneflnaaGreat
open Go.Am Go.Sha
theorem tJ(k x:Nat):jr 8 (jr (8*k) x)=jr (8*(k+1)) x:=by
 unfold jr;rw[Nat.div_div_eq_div_mul,←Nat.pow_add];congr 1
theorem zO(a:Nat):Int.fdiv (a:Int) 256=((jr 8 a:Nat):Int):=fl a 256
theorem oQ(b:List Nat):List.take b.length (rb b)++List.drop b.length (rb (List.replicate b.length 0))=rb b:=by
 rw[cx (by rw[aG];exact cL _),c_ (by rw[aG];simp),List.append_nil]
theorem iK{Q:AV→Prop}{st:St}{id:Nat}{L:List Nat}(hb:lk id st.hp=some ⟨5,1,rb L⟩)(hq:Q (.d (nb L))):dc Q (.own id 0 L.length L.length) st:=by
 have h:=pX (I:=fun _=>True) (i0:=0) (n:=L.length) hb trivial aq;rw[List.drop_zero,List.take_length]at h;exact cQ (al h) a9 hq
theorem D3(b:List Nat)(x n:Nat)(hb:b.length≤1000000)(hx:x<256)(hn:n≤8):au Tryz.prog 151 [.d (nb b),.d (.int .u8 (x:Int)),.d (.int .i64 (n:Int))] (fun r=>r=.d (nb (b++le x n))):=by
 refine bC Tryz.func151 Tryz.ntmps151 (rs:=[.tmp 6]) a9 ?_;have w1:IntKind.i64.wrap ((b.length:Int)+(n:Int))=((b.length+n:Nat):Int):=by rw[IntWalk.i64_in _ aq];omega
 have w2:IntKind.u64.wrap (x:Int)=(x:Int):=by rw[jA];omega
 have hr:List.replicate b.length [AV.d (.int .u8 0)]=rb (List.replicate b.length 0):=by simp[rb]
 simp only[go_sem,Nat.reduceEqDiff,Nat.reduceAdd,Nat.reduceLT,↓reduceIte,Nat.reduceMul,w1,w2,nb,List.length_map,Int.toNat_natCast,hr];simp[go_sem,cC,aG];rw[oQ];refine⟨aq,aq,aq,aq,?_⟩
 refine av (fun k:Nat=>⟨[(7,.own 224 0 (b++le x k).length (b++le x k).length),(8,.d (.int .u64 ((jr (8*k) x:Nat):Int))),(21,.d (.int .i64 (n:Int))),(22,.d (.int .i64 (k:Int)))],[(224,⟨5,1,rb (b++le x k)⟩)],544⟩)
  (fun k=>k≤n) (fun k=>n-k) 0 aq (by
   simp[az,ai,fv,lk,AV.low,AV.low1,le,jr]
   exact bq _ _) ?_
 intro k hk;have hl:(b++le x k).length=b.length+k:=by rw[b_,aQ]
 have hs:rb (b++le x k)++[[AV.d (.int .u8 ((t8 (jr (8*k) x):Nat):Int))]]=rb (b++le x (k+1)):=by rw[gW,cA];rfl
 have w5:=ax (k:=k) aq;simp only[go_sem,Nat.reduceEqDiff,Nat.reduceAdd,Nat.reduceLT,↓reduceIte];refine⟨fun h=>?_,fun h=>?_⟩
 ·simp[go_sem,fj,aG,hs,aQ,IntKind.bits,zO,tJ,w5];refine⟨aq,?_⟩;refine ao (k+1) aq aq ?_;simp[az,ai,fv,lk,AV.low,AV.low1,aQ];exact⟨aq,bq _ _⟩
 ·have hkn:k=n:=aq;subst hkn;simp[go_sem,ah];have hl2:b.length+(le x k).length=(b++le x k).length:=by rw[b_]
  rw[hl2];exact iK rfl (by simp[nb])
theorem VV(b:List Nat)(x n:Nat)(hb:b.length≤1000000)(hx:x<65536)(hn:n≤8):au Tryz.prog 152 [.d (nb b),.d (.int .u16 (x:Int)),.d (.int .i64 (n:Int))] (fun r=>r=.d (nb (b++le x n))):=by
 refine bC Tryz.func152 Tryz.ntmps152 (rs:=[.tmp 6]) a9 ?_;have w1:IntKind.i64.wrap ((b.length:Int)+(n:Int))=((b.length+n:Nat):Int):=by rw[IntWalk.i64_in _ aq];omega
 have w2:IntKind.u64.wrap (x:Int)=(x:Int):=by rw[jA];omega
 have hr:List.replicate b.length [AV.d (.int .u8 0)]=rb (List.replicate b.length 0):=by simp[rb]
 simp only[go_sem,Nat.reduceEqDiff,Nat.reduceAdd,Nat.reduceLT,↓reduceIte,Nat.reduceMul,w1,w2,nb,List.length_map,Int.toNat_natCast,hr];simp[go_sem,cC,aG];rw[oQ];refine⟨aq,aq,aq,aq,?_⟩
 refine av (fun k:Nat=>⟨[(7,.own 224 0 (b++le x k).length (b++le x k).length),(8,.d (.int .u64 ((jr (8*k) x:Nat):Int))),(21,.d (.int .i64 (n:Int))),(22,.d (.int .i64 (k:Int)))],[(224,⟨5,1,rb (b++le x k)⟩)],544⟩)
  (fun k=>k≤n) (fun k=>n-k) 0 aq (by
   simp[az,ai,fv,lk,AV.low,AV.low1,le,jr]
   exact bq _ _) ?_
 intro k hk;have hl:(b++le x k).length=b.length+k:=by rw[b_,aQ]
 have hs:rb (b++le x k)++[[AV.d (.int .u8 ((t8 (jr (8*k) x):Nat):Int))]]=rb (b++le x (k+1)):=by rw[gW,cA];rfl
 have w5:=ax (k:=k) aq;simp only[go_sem,Nat.reduceEqDiff,Nat.reduceAdd,Nat.reduceLT,↓reduceIte];refine⟨fun h=>?_,fun h=>?_⟩
 ·simp[go_sem,fj,aG,hs,aQ,IntKind.bits,zO,tJ,w5];refine⟨aq,?_⟩;refine ao (k+1) aq aq ?_;simp[az,ai,fv,lk,AV.low,AV.low1,aQ];exact⟨aq,bq _ _⟩
 ·have hkn:k=n:=aq;subst hkn;simp[go_sem,ah];have hl2:b.length+(le x k).length=(b++le x k).length:=by rw[b_]
  rw[hl2];exact iK rfl (by simp[nb])
theorem VW(b:List Nat)(x n:Nat)(hb:b.length≤1000000)(hx:x<4294967296)(hn:n≤8):au Tryz.prog 106 [.d (nb b),.d (.int .u32 (x:Int)),.d (.int .i64 (n:Int))] (fun r=>r=.d (nb (b++le x n))):=by
 refine bC Tryz.func106 Tryz.ntmps106 (rs:=[.tmp 6]) a9 ?_;have w1:IntKind.i64.wrap ((b.length:Int)+(n:Int))=((b.length+n:Nat):Int):=by rw[IntWalk.i64_in _ aq];omega
 have w2:IntKind.u64.wrap (x:Int)=(x:Int):=by rw[jA];omega
 have hr:List.replicate b.length [AV.d (.int .u8 0)]=rb (List.replicate b.length 0):=by simp[rb]
 simp only[go_sem,Nat.reduceEqDiff,Nat.reduceAdd,Nat.reduceLT,↓reduceIte,Nat.reduceMul,w1,w2,nb,List.length_map,Int.toNat_natCast,hr];simp[go_sem,cC,aG];rw[oQ];refine⟨aq,aq,aq,aq,?_⟩
 refine av (fun k:Nat=>⟨[(7,.own 224 0 (b++le x k).length (b++le x k).length),(8,.d (.int .u64 ((jr (8*k) x:Nat):Int))),(21,.d (.int .i64 (n:Int))),(22,.d (.int .i64 (k:Int)))],[(224,⟨5,1,rb (b++le x k)⟩)],544⟩)
  (fun k=>k≤n) (fun k=>n-k) 0 aq (by
   simp[az,ai,fv,lk,AV.low,AV.low1,le,jr]
   exact bq _ _) ?_
 intro k hk;have hl:(b++le x k).length=b.length+k:=by rw[b_,aQ]
 have hs:rb (b++le x k)++[[AV.d (.int .u8 ((t8 (jr (8*k) x):Nat):Int))]]=rb (b++le x (k+1)):=by rw[gW,cA];rfl
 have w5:=ax (k:=k) aq;simp only[go_sem,Nat.reduceEqDiff,Nat.reduceAdd,Nat.reduceLT,↓reduceIte];refine⟨fun h=>?_,fun h=>?_⟩
 ·simp[go_sem,fj,aG,hs,aQ,IntKind.bits,zO,tJ,w5];refine⟨aq,?_⟩;refine ao (k+1) aq aq ?_;simp[az,ai,fv,lk,AV.low,AV.low1,aQ];exact⟨aq,bq _ _⟩
 ·have hkn:k=n:=aq;subst hkn;simp[go_sem,ah];have hl2:b.length+(le x k).length=(b++le x k).length:=by rw[b_]
  rw[hl2];exact iK rfl (by simp[nb])
end Go.Proofs.YtmfnimjnneflnaaGreat
namespace Go.Sha
def UM(a:Nat):Nat:=a%65536
def aL(n:Nat):List Nat:=if n<253 then le (t8 n) 1 else if n<65536 then le 253 1++le (UM n) 2 else le 254 1++le (IL n) 4
theorem cK(n:Nat):(aL n).length≤5:=by
 unfold aL
 split
 ·simp[aQ]
 ·split<;>simp[aQ]
end Go.Sha
namespace Go.Proofs.YtmfnimjnneflnaaGreat
open Go.Am Go.Sha
theorem IV(b:List Nat)(x n:Nat)(hb:b.length≤1000000)(hx:x<256)(hn:n≤8):cT Tryz.prog 151 0 [] [.d (nb b),.d (.int .u8 (x:Int)),.d (.int .i64 (n:Int))] (fun r hp'=>r=.own 225 0 (b++le x n).length (b++le x n).length∧lk 225 hp'=some ⟨5,1,rb (b++le x n)⟩):=by
 refine ar Tryz.func151 (by kernel_rfl) rfl Tryz.ntmps151 (rs:=[.tmp 6]) rfl (d5 rfl) (by decide) ?_;have w1:IntKind.i64.wrap ((b.length:Int)+(n:Int))=((b.length+n:Nat):Int):=by rw[IntWalk.i64_in _ aq];omega
 have w2:IntKind.u64.wrap (x:Int)=(x:Int):=by rw[jA];omega
 have hr:List.replicate b.length [AV.d (.int .u8 0)]=rb (List.replicate b.length 0):=by simp[rb]
 simp only[go_sem,Nat.reduceEqDiff,Nat.reduceAdd,Nat.reduceLT,↓reduceIte,Nat.reduceMul,w1,w2,nb,List.length_map,Int.toNat_natCast,hr];simp[go_sem,cC,aG];rw[oQ];refine⟨aq,aq,aq,aq,?_⟩
 refine av (fun k:Nat=>⟨[(7,.own 225 0 (b++le x k).length (b++le x k).length),(8,.d (.int .u64 ((jr (8*k) x:Nat):Int))),(21,.d (.int .i64 (n:Int))),(22,.d (.int .i64 (k:Int)))],[(225,⟨5,1,rb (b++le x k)⟩)],545⟩)
  (fun k=>k≤n) (fun k=>n-k) 0 aq (by
   simp[az,ai,fv,lk,AV.low,AV.low1,le,jr]
   exact bq _ _) ?_
 intro k hk;have hl:(b++le x k).length=b.length+k:=by rw[b_,aQ]
 have hs:rb (b++le x k)++[[AV.d (.int .u8 ((t8 (jr (8*k) x):Nat):Int))]]=rb (b++le x (k+1)):=by rw[gW,cA];rfl
 have w5:=ax (k:=k) aq;simp only[go_sem,Nat.reduceEqDiff,Nat.reduceAdd,Nat.reduceLT,↓reduceIte];refine⟨fun h=>?_,fun h=>?_⟩
 ·simp[go_sem,fj,aG,hs,aQ,IntKind.bits,zO,tJ,w5];refine⟨aq,?_⟩;refine ao (k+1) aq aq ?_;simp[az,ai,fv,lk,AV.low,AV.low1,aQ];exact⟨aq,bq _ _⟩
 ·have hkn:k=n:=aq;subst hkn;simp[go_sem,ah]
theorem Gk(b:List Nat)(x n:Nat)(hb:b.length≤1000000)(hx:x<65536)(hn:n≤8):cT Tryz.prog 152 0 [] [.d (nb b),.d (.int .u16 (x:Int)),.d (.int .i64 (n:Int))] (fun r hp'=>r=.own 225 0 (b++le x n).length (b++le x n).length∧lk 225 hp'=some ⟨5,1,rb (b++le x n)⟩):=by
 refine ar Tryz.func152 (by kernel_rfl) rfl Tryz.ntmps152 (rs:=[.tmp 6]) rfl (d5 rfl) (by decide) ?_;have w1:IntKind.i64.wrap ((b.length:Int)+(n:Int))=((b.length+n:Nat):Int):=by rw[IntWalk.i64_in _ aq];omega
 have w2:IntKind.u64.wrap (x:Int)=(x:Int):=by rw[jA];omega
 have hr:List.replicate b.length [AV.d (.int .u8 0)]=rb (List.replicate b.length 0):=by simp[rb]
 simp only[go_sem,Nat.reduceEqDiff,Nat.reduceAdd,Nat.reduceLT,↓reduceIte,Nat.reduceMul,w1,w2,nb,List.length_map,Int.toNat_natCast,hr];simp[go_sem,cC,aG];rw[oQ];refine⟨aq,aq,aq,aq,?_⟩
 refine av (fun k:Nat=>⟨[(7,.own 225 0 (b++le x k).length (b++le x k).length),(8,.d (.int .u64 ((jr (8*k) x:Nat):Int))),(21,.d (.int .i64 (n:Int))),(22,.d (.int .i64 (k:Int)))],[(225,⟨5,1,rb (b++le x k)⟩)],545⟩)
  (fun k=>k≤n) (fun k=>n-k) 0 aq (by
   simp[az,ai,fv,lk,AV.low,AV.low1,le,jr]
   exact bq _ _) ?_
 intro k hk;have hl:(b++le x k).length=b.length+k:=by rw[b_,aQ]
 have hs:rb (b++le x k)++[[AV.d (.int .u8 ((t8 (jr (8*k) x):Nat):Int))]]=rb (b++le x (k+1)):=by rw[gW,cA];rfl
 have w5:=ax (k:=k) aq;simp only[go_sem,Nat.reduceEqDiff,Nat.reduceAdd,Nat.reduceLT,↓reduceIte];refine⟨fun h=>?_,fun h=>?_⟩
 ·simp[go_sem,fj,aG,hs,aQ,IntKind.bits,zO,tJ,w5];refine⟨aq,?_⟩;refine ao (k+1) aq aq ?_;simp[az,ai,fv,lk,AV.low,AV.low1,aQ];exact⟨aq,bq _ _⟩
 ·have hkn:k=n:=aq;subst hkn;simp[go_sem,ah]
theorem vZ(b:List Nat)(x n:Nat)(hb:b.length≤1000000)(hx:x<4294967296)(hn:n≤8):cT Tryz.prog 106 0 [] [.d (nb b),.d (.int .u32 (x:Int)),.d (.int .i64 (n:Int))] (fun r hp'=>r=.own 225 0 (b++le x n).length (b++le x n).length∧lk 225 hp'=some ⟨5,1,rb (b++le x n)⟩):=by
 refine ar Tryz.func106 (by kernel_rfl) rfl Tryz.ntmps106 (rs:=[.tmp 6]) rfl (d5 rfl) (by decide) ?_;have w1:IntKind.i64.wrap ((b.length:Int)+(n:Int))=((b.length+n:Nat):Int):=by rw[IntWalk.i64_in _ aq];omega
 have w2:IntKind.u64.wrap (x:Int)=(x:Int):=by rw[jA];omega
 have hr:List.replicate b.length [AV.d (.int .u8 0)]=rb (List.replicate b.length 0):=by simp[rb]
 simp only[go_sem,Nat.reduceEqDiff,Nat.reduceAdd,Nat.reduceLT,↓reduceIte,Nat.reduceMul,w1,w2,nb,List.length_map,Int.toNat_natCast,hr];simp[go_sem,cC,aG];rw[oQ];refine⟨aq,aq,aq,aq,?_⟩
 refine av (fun k:Nat=>⟨[(7,.own 225 0 (b++le x k).length (b++le x k).length),(8,.d (.int .u64 ((jr (8*k) x:Nat):Int))),(21,.d (.int .i64 (n:Int))),(22,.d (.int .i64 (k:Int)))],[(225,⟨5,1,rb (b++le x k)⟩)],545⟩)
  (fun k=>k≤n) (fun k=>n-k) 0 aq (by
   simp[az,ai,fv,lk,AV.low,AV.low1,le,jr]
   exact bq _ _) ?_
 intro k hk;have hl:(b++le x k).length=b.length+k:=by rw[b_,aQ]
 have hs:rb (b++le x k)++[[AV.d (.int .u8 ((t8 (jr (8*k) x):Nat):Int))]]=rb (b++le x (k+1)):=by rw[gW,cA];rfl
 have w5:=ax (k:=k) aq;simp only[go_sem,Nat.reduceEqDiff,Nat.reduceAdd,Nat.reduceLT,↓reduceIte];refine⟨fun h=>?_,fun h=>?_⟩
 ·simp[go_sem,fj,aG,hs,aQ,IntKind.bits,zO,tJ,w5];refine⟨aq,?_⟩;refine ao (k+1) aq aq ?_;simp[az,ai,fv,lk,AV.low,AV.low1,aQ];exact⟨aq,bq _ _⟩
 ·have hkn:k=n:=aq;subst hkn;simp[go_sem,ah]
theorem NE(a:Nat):IntKind.u16.wrap (a:Int)=((UM a:Nat):Int):=by
 have:IntKind.u16.wrap (a:Int)=(a:Int)%65536:=by simp[IntKind.wrap,IntKind.bits,IntKind.signed]
 rw[this];unfold UM;omega
theorem mP(b:List Nat)(n:Nat)(hb:b.length≤100000)(hn:n<4294967296):cT Tryz.prog 109 0 [] [.d (nb b),.d (.int .u64 (n:Int))] (fun r hp'=>∃I,r=.own I 0 (b++aL n).length (b++aL n).length∧lk I hp'=some ⟨5,1,rb (b++aL n)⟩):=by
 refine ar Tryz.func109 (by kernel_rfl) rfl Tryz.ntmps109 (rs:=[.tmp 4]) rfl (d5 rfl) (by decide) ?_;by_cases h1:n<253
 ·have e:aL n=le (t8 n) 1:=by unfold aL;rw[if_pos h1]
  rw[e];have i1:(n:Int)<253:=aq;simp[go_sem,i1,fj];refine bn [] (IV b (t8 n) 1 aq (by unfold t8;omega) aq) rfl aw aw aw (by simp[AV.renL,AV.ren]) ?_;rintro r hp'⟨rfl,h0⟩;refine⟨[(225,0)],rfl,?_⟩;simp[go_sem,bU,bM,h0,Blk.ren,aV,dI,AV.renL,AV.ren,bT,ah]
 ·have i1:¬(n:Int)<253:=aq;by_cases h2:n<65536
  ·have e:aL n=le 253 1++le (UM n) 2:=by unfold aL;rw[if_neg h1,if_pos h2]
   have i2:(n:Int)<65536:=aq;rw[e,←cA];simp[go_sem,i1,i2,-List.append_assoc];refine ag (D3 b 253 1 aq aq aq) a9 ?_;simp[go_sem,NE,-List.append_assoc];refine bn [] (Gk (b++le 253 1) (UM n) 2 (by rw[b_,aQ];omega) (by unfold UM;omega) aq) rfl aw aw aw (by simp[AV.renL,AV.ren]) ?_;rintro r hp'⟨rfl,h0⟩;refine⟨[(225,0)],rfl,?_⟩;simp[go_sem,bU,bM,h0,Blk.ren,aV,dI,AV.renL,AV.ren,bT,ah];omega
  ·have e:aL n=le 254 1++le (IL n) 4:=by unfold aL;rw[if_neg h1,if_neg h2]
   have i2:¬(n:Int)<65536:=aq;have i3:(n:Int)<4294967296:=aq;rw[e,←cA];simp[go_sem,i1,i2,i3,-List.append_assoc];refine ag (D3 b 254 1 aq aq aq) a9 ?_;simp[go_sem,zD,-List.append_assoc];refine bn [] (vZ (b++le 254 1) (IL n) 4 (by rw[b_,aQ];omega) (by unfold IL;omega) aq) rfl aw aw aw (by simp[AV.renL,AV.ren]) ?_;rintro r hp'⟨rfl,h0⟩;refine⟨[(225,0)],rfl,?_⟩;simp[go_sem,bU,bM,h0,Blk.ren,aV,dI,AV.renL,AV.ren,bT,ah];omega
theorem ew(b x:List Nat)(hb:b.length≤100000)(hx:x.length<1000000):au Tryz.prog 63 [.d (nb b),.d (nb x)] (fun r=>r=.d (nb (b++(aL x.length++x)))):=by
 refine bC Tryz.func63 Tryz.ntmps63 (rs:=[.tmp 4]) a9 ?_;have w:IntKind.u64.wrap (x.length:Int)=(x.length:Int):=by rw[jA];omega
 have hp5:=cK x.length;simp only[go_sem,Nat.reduceEqDiff,Nat.reduceAdd,Nat.reduceLT,↓reduceIte,nb,List.length_map,w];refine bn [] (mP b x.length aq aq) rfl aw aw aw (by simp[AV.renL,AV.ren,nb]) ?_;rintro r hp'⟨I,rfl,h0⟩;refine⟨[(I,0)],by simp[cv,fi],?_⟩;simp[go_sem,bU,bM,h0,Blk.ren,aV,dI,AV.renL,AV.ren,bT,cC,aG,ah];refine⟨aq,?_⟩;rw[jZ,show b.length+(aL x.length).length+x.length=(b++aL x.length++x).length by simp;omega];exact iK rfl (by simp[nb])
theorem r7(x:List Nat)(hx:x.length≤100000):au Tryz.prog 93 [.d (nb x)] (fun r=>r=.agg (cb (eu [84,97,112,76,101,97,102] (192::(aL x.length++x))))):=by
 refine bC Tryz.func93 Tryz.ntmps93 (rs:=[.cell 2 29]) a9 ?_;have hp5:=cK x.length;simp[go_sem]
 have hs:∀(hp:Hp),lk 32 hp=some ⟨5,1,rb [192]⟩→SnapD hp (fun id=>id∈[32]) (.own 32 0 1 1) (nb [192]):=fun hp h=>by
  have:=pX (I:=fun id=>id∈[32]) (i0:=0) (n:=1) (L:=[192]) h aw aw;exact this
 refine bV [32] (ew [192] x aw aq) rfl (aj (.one (al (hs _ rfl))) (aj (.deep a9) aC)) ?_;simp[go_sem,aE];refine ag (eV [84,97,112,76,101,97,102] (.str [84,97,112,76,101,97,102]) rfl (192::(aL x.length++x)) aw (by simp;omega)) a9 ?_;have hL:(eu [84,97,112,76,101,97,102] (192::(aL x.length++x))).length=32:=aJ _;generalize eu [84,97,112,76,101,97,102] (192::(aL x.length++x))=R at *;simp[go_sem,ah,hL,am hL,bA];exact aa (by simp[AV.deep];exact bD _) rfl
def BS(a:List Nat):List UInt8:=Lib.bytesOf (a.map fun(x:Nat)=>(x:Int))
theorem v6{P:Program}{w:World}{S:Nat→Prop}{σ:Nat→Option Nat}{hp:Hp}{U:Nat→Prop}{a:List Nat}{x:Value}(h:AIs w S σ hp U (.d (nb a)) x):(Extern.Bytes.bytesOf x).run P w=.ok ⟨(BS a).toArray⟩ w:=by
 cases h with
 | d h =>
  unfold nb at h;generalize hes:(a.map fun(b:Nat)=>[DV.int .u8 (b:Int)])=es at h
  cases h with
  | ro _ _ A c vs hc he hA hv hd =>
   have hlen:es.length=a.length:=by rw[←hes,List.length_map]
   cases A with
   | none =>
    have:a=[]:=by
     cases a with
     |nil=>rfl
     |cons y r =>
      obtain⟨ad,h1,_⟩:=hA [DV.int .u8 (y:Int)] (by rw[←hes];simp)
      cases h1
    subst this;simp[Extern.Bytes.bytesOf,BS,Lib.bytesOf];rfl
   | some ad =>
    have hl:=Lib.run_loadBytesX (P:=P) w (a.map fun(x:Nat)=>(x:Int)) ad .empty (fun j y hj=>by
     simp only[cU,Option.map_eq_some_iff]at hj;obtain⟨z,hz,rfl⟩:=hj;have h1:es[j]?=some [DV.int .u8 (z:Int)]:=by rw[←hes,cU,hz];rfl
     have h2:=hv ad rfl j 0 _ _ h1 rfl;have h3:=hd j 0 _ _ h1 rfl;rw[Nat.mul_one,Nat.add_zero]at h2;rw[h2];generalize vs j 0=u at h3
     cases h3
     rfl)
    rw[List.length_map]at hl;show(Extern.Bytes.loadBytes ad es.length .empty).run P w=_;rw[hlen,hl];congr 2;simp[BS]
theorem NF(a b:List Nat):pA Tryz.prog 205 [.d (nb a),.d (nb b)] (.d (.int .i64 (Lib.compareBytes (BS a) (BS b)))):=by
 intro w S σ hp U vs hl hv
 match vs,hl with
 | [x,y],_ =>
  have hx:=v6 (P:=Tryz.prog) (hv 0 _ x rfl rfl);have hy:=v6 (P:=Tryz.prog) (hv 1 _ y rfl rfl);refine⟨.int .i64 (Lib.compareBytes (BS a) (BS b)),?_,.d (.int _ _)⟩
  have hc:(Extern.BytealgCompare.compare #[x,y]).run Tryz.prog w=.ok (.int .i64 (Lib.compareBytes (BS a) (BS b))) w:=by
   change Sem.run Tryz.prog (do pure (goInt (Extern.BytealgCompare.cmp (←Extern.Bytes.bytesOf x) (←Extern.Bytes.bytesOf y)))) w=_
   simp only[Sem.run_bind,hx,hy,Result.andThen_ok,Sem.run_pure,Lib.cmp_eq];rfl
  rw[run_callFunc_extern Tryz.func205 (by kernel_rfl) (by kernel_rfl) (by kernel_rfl) (e:=Extern.BytealgCompare.compare) (by kernel_rfl),hc];rfl
theorem BU(a b:List Nat):au Tryz.prog 177 [.d (nb a),.d (nb b)] (fun r=>r=.d (.int .i64 (Lib.compareBytes (BS a) (BS b)))):=by
 refine bC Tryz.func177 Tryz.ntmps177 (rs:=[.tmp 4]) a9 ?_;simp only[go_sem,Nat.reduceEqDiff,Nat.reduceAdd,Nat.reduceLT,↓reduceIte];refine qX (NF a b) ?_;simp[go_sem,ah];exact aa a9 rfl
def ef:List Nat:=[84,97,112,66,114,97,110,99,104]
def jB(a b:List Nat):List Nat:=eu ef (if 0<Lib.compareBytes (BS a) (BS b)then b++a else a++b)
theorem zP{hp:Hp}{I:Nat→Prop}{id:Nat}{L:List Nat}(hl:L.length=64)(hb:lk id hp=some ⟨5,1,rb L⟩)(hI:I id):SnapD hp I (.own id 0 64 64) (nb L):=by
 have h:=pX (i0:=0) (n:=64) (L:=L) hb hI aq;rw[List.drop_zero,cx aq,hl]at h;exact h
theorem Gl(a b:List Nat)(ha:a.length=32)(hb:b.length=32):au Tryz.prog 153 [.agg (cb a),.agg (cb b)] (fun r=>r=.agg (cb (jB a b))):=by
 refine bC Tryz.func153 Tryz.ntmps153 (rs:=[.cell 4 29]) (by simp[AV.deep];exact⟨bD _,bD _⟩) ?_;simp[go_sem,ha,hb];refine ca [0,1] [(2,[3])] 1 (k:=4) ?_;intro G hG;simp[go_sem];refine d6 (BU a b) rfl (aj (.one (al (dW rfl trivial ha))) (aj (.one (al (dW rfl trivial hb))) aC)) trivial ?_;simp[go_sem];refine hG _ _ ?_;clear hG G;by_cases hc:0<Lib.compareBytes (BS a) (BS b)
 ·have hda:List.drop 32 (cb a)=[]:=c_ (by rw[ak];omega);have hdb:List.drop 32 (cb b)=[]:=c_ (by rw[ak];omega);simp[go_sem,hc,ha,hb,hda,hdb,am ha,am hb];refine ca [0,1] [(2,[]),(3,[]),(4,[])] 0 (k:=5) ?_;intro G hG;have hx1:=eN hb;have hx2:=eN ha;rw[cC]at hx1 hx2;simp[go_sem]at hx1 hx2;have hl:(b++a).length=64:=by rw[b_];omega
  simp[go_sem];refine bV [416] (eV ef (.str [84,97,112,66,114,97,110,99,104]) rfl (b++a) (by simp[ef]) aq) rfl (aj (.deep a9) (aj (.one (al (zP (L:=b++a) hl (by simp[lk];rw[←jZ,←hx1,←hx2];rfl) aw))) aC)) ?_;have hR:jB a b=eu ef (b++a):=by unfold jB;rw[if_pos hc]
  rw[hR]at hG;have hL:(eu ef (b++a)).length=32:=aJ _;generalize eu ef (b++a)=R at *;simp[go_sem,aE,hL];refine hG _ _ ?_;clear hG G;simp[go_sem,ah,hL,am hL,bA];exact aa (by simp[AV.deep];exact bD _) rfl
 ·have hda:List.drop 32 (cb a)=[]:=c_ (by rw[ak];omega);have hdb:List.drop 32 (cb b)=[]:=c_ (by rw[ak];omega);simp[go_sem,hc,ha,hb,hda,hdb,am ha,am hb];refine ca [0,1] [(2,[]),(3,[]),(4,[])] 0 (k:=5) ?_;intro G hG;have hx1:=eN ha;have hx2:=eN hb;rw[cC]at hx1 hx2;simp[go_sem]at hx1 hx2;have hl:(a++b).length=64:=by rw[b_];omega
  simp[go_sem];refine bV [288] (eV ef (.str [84,97,112,66,114,97,110,99,104]) rfl (a++b) (by simp[ef]) aq) rfl (aj (.deep a9) (aj (.one (al (zP (L:=a++b) hl (by simp[lk];rw[←jZ,←hx1,←hx2];rfl) aw))) aC)) ?_;have hR:jB a b=eu ef (a++b):=by unfold jB;rw[if_neg hc]
  rw[hR]at hG;have hL:(eu ef (a++b)).length=32:=aJ _;generalize eu ef (a++b)=R at *;simp[go_sem,aE,hL];refine hG _ _ ?_;clear hG G;simp[go_sem,ah,hL,am hL,bA];exact aa (by simp[AV.deep];exact bD _) rfl
def cd(l:List Nat):List DV:=l.map fun(x:Nat)=>DV.int .u8 (x:Int)
theorem cE(l:List Nat):(cd l).length=l.length:=by simp[cd]
theorem eg(l:List Nat):(cd l).map AV.d=cb l:=by simp[cd,cb]
def dX(ps:List (List Nat)):DV:=.ro 32 (ps.map cd)
def ay(inner:List Nat)(path script:AV):List AV:=cb inner++[path,script]
def mQ(ps:List (List Nat))(h:List Nat):List Nat:=ps.foldl jB h
def NG:List Nat:=[84,97,112,76,101,97,102]
def j5(x:List Nat):List Nat:=eu NG (192::(aL x.length++x))
theorem rk(x:List Nat):(j5 x).length=32:=aJ _
theorem se(a b:List Nat):(jB a b).length=32:=aJ _
theorem VX:fa Tryz.prog 33=some (ay z32 .nil .nil):=by kernel_rfl
attribute [go_sem] VX
theorem fE{l:List Nat}(h:l.length=32):List.drop 32 (cb l)=[]:=c_ (by rw[ak];omega)
theorem mR{inner:List Nat}(hi:inner.length=32)(a b:AV):(cb inner++[a,b])[32]?=some a:=by
 rw[dn (by rw[ak];omega),ak,hi];rfl
theorem mS{inner:List Nat}(hi:inner.length=32)(a b:AV):(cb inner++[a,b])[33]?=some b:=by
 rw[dn (by rw[ak];omega),ak,hi];rfl
theorem BV{ps:List (List Nat)}{k:Nat}{p h:List Nat}(hk:ps[k]?=some p):mQ (ps.drop k) h=mQ (ps.drop (k+1)) (jB h p):=by
 obtain⟨h1,h2⟩:=ci.1 hk;unfold mQ;rw[List.drop_eq_getElem_cons h1,List.foldl_cons,h2]
theorem NH(inner:List Nat)(ps:List (List Nat))(x:List Nat)(hi:inner.length=32)(hp32:∀p,p∈ps→p.length=32)(hps:ps.length≤1000)(hx:x.length≤100000) :
  au Tryz.prog 137 [.agg (ay inner (.d (dX ps)) (.d (nb x)))] (fun r=>r=.agg (cb (mQ ps (j5 x)))):=by
 refine bC Tryz.func137 Tryz.ntmps137 (rs:=[.cell 2 29]) (by
  simp[AV.deep,ay];intro c hc;rcases hc with hc|rfl|rfl
  ·exact bD _ _ hc
  ·trivial
  ·trivial) ?_
 simp[go_sem,ay,mS hi];refine ag (r7 x hx) a9 ?_;have hL:(eu [84,97,112,76,101,97,102] (192::(aL x.length++x))).length=32:=aJ _;have hR:mQ ps (j5 x)=mQ (ps.drop 0) (eu [84,97,112,76,101,97,102] (192::(aL x.length++x))):=by rw[List.drop_zero];rfl
 rw[hR];generalize eu [84,97,112,76,101,97,102] (192::(aL x.length++x))=R at *;generalize hT:mQ (ps.drop 0) R=T;clear hR;simp[go_sem,mR hi,dX,hL,am hL,bA]
 refine av (fun t:Nat×List Nat=>⟨[(2,.ptr 32 0 0 1),(3,.ptr 160 0 0 1),(10,.d (dX ps)),(11,.d (.int .i64 (ps.length:Int))),(12,.d (.int .i64 (t.1:Int)))],[(32,⟨29,32,[cb z32]⟩),(160,⟨29,32,[cb t.2]⟩)],1000⟩)
  (fun t=>t.1≤ps.length∧t.2.length=32∧mQ (ps.drop t.1) t.2=T) (fun t=>ps.length-t.1) (0,R) ⟨aq,hL,hT⟩ (by
   simp[az,ai,fv,lk,AV.low,AV.low1,dX]
   exact⟨aI _ _,aI _ _⟩) ?_
 rintro⟨k,h⟩⟨hk,hh,hT'⟩;simp only at hk hh hT';simp only[go_sem,Nat.reduceEqDiff,Nat.reduceAdd,Nat.reduceLT,↓reduceIte];refine⟨fun hlt=>?_,fun hge=>?_⟩
 ·have hlt':k<ps.length:=aq;have hp:=cm hlt';generalize ps[k]=p at hp;have hpl:p.length=32:=hp32 p (cr hp);rw[BV hp]at hT';simp[go_sem,dX,hp,cE,hpl,eg,am hpl,ak,hh,am hh,bA];refine ag (Gl h p hh hpl) (by simp[AV.deep];exact⟨bD _,bD _⟩) ?_;have hB:=se h p;generalize jB h p=B at *;simp[go_sem,ak,hB,hh,am hB,fE hh];refine ao (k+1,B) ⟨aq,hB,hT'⟩ aq ?_;have w:=ax (k:=k) aq;simp[az,ai,fv,lk,AV.low,AV.low1,dX,w];exact⟨aI _ _,aI _ _⟩
 ·have hkn:k=ps.length:=aq;subst hkn;have:T=h:=by rw[←hT',List.drop_length];rfl
  subst this;simp[go_sem,ah,hh,am hh,bA];exact aa (by simp[AV.deep];exact bD _) rfl
theorem IW(k:List Nat)(hk:k.length=32):au Tryz.prog 76 [.d (nb (81::32::k))] (fun r=>r=.tup [.agg (cb k),.d (.bool true)]):=by
 refine bC Tryz.func76 Tryz.ntmps76 (rs:=[.cell 2 29,.tmp 3]) a9 ?_;have e1:List.take 32 (List.map (fun(b:Nat)=>[DV.int .u8 (b:Int)]) k)=List.map (fun(b:Nat)=>[DV.int .u8 (b:Int)]) k:=cx (by simp[hk])
 have e2:(List.map (fun(b:Nat)=>[DV.int .u8 (b:Int)]) k).flatten=cd k:=by
  clear hk e1
  induction k with
  |nil=>rfl
  |cons x r ih=>simp only[List.map_cons,List.flatten_cons,ih];rfl
 simp[go_sem,nb,hk,e1,e2,-List.map_flatten,-List.length_flatten,eg,cE,ak,am hk,bA,ah];exact aa (by simp[AV.deep,AV.deep1];exact bD _) rfl
end Go.Proofs.YtmfnimjnneflnaaGreat
namespace Go.Sha
def NI{α:Type}:Nat→(Nat→α)→α
 |0,k=>k 0
 |n+1,k=>k (n+1)
theorem oR{α:Type}(n:Nat)(k:Nat→α):NI n k=k n:=by cases n<;>rfl
def XA:S8:=⟨2631984358,2081516601,951306994,3272560777,3555955564,1197698656,2108899050,3720802505⟩
def jC:S8:=⟨2824544519,4153520746,2229753964,684640203,1629499091,3491316952,844107574,931321461⟩
end Go.Sha
namespace Go.Proofs.YtmfnimjnneflnaaGreat
open Go.Am Go.Sha
theorem nL(l:List Nat):bX .u8 (cb l)=some (l.map fun(x:Nat)=>(x:Int)):=by
 have:=zA .u8 (l.map fun(x:Nat)=>(x:Int));rw[List.map_map]at this;exact this
theorem tK{a b:List Nat}:(a.map fun(x:Nat)=>(x:Int))=b.map (fun(x:Nat)=>(x:Int))↔a=b:=by
 constructor
 ·intro h;have:=congrArg (List.map Int.toNat) h
  simpa[List.map_map,Function.comp_def]using this
 ·rintro rfl;rfl
def bytes(l:List Nat):Prop:=∀x,x∈l→x<256
theorem dB(l:List Nat):(AV.agg (cb l)).deep:=bD l
theorem zQ{n:Nat}:∀(m:Nat){ds:List DV},F9 (jY Tryz.prog (n+1)) Tryz.prog.cellsOf (List.replicate m 5) ds→∃l:List Nat,ds=cd l∧l.length=m∧bytes l
 |0,ds,h=>⟨[],by simpa[F9,cd]using h,rfl,fun _ h=>by simp at h⟩
 | m+1,ds,h=>by
  rw[List.replicate_succ]at h;obtain⟨a,b,rfl,_,h2,h3⟩:=h;simp only[jY,Tryz.underlying5]at h2;obtain⟨x,rfl,hx⟩:=h2;obtain⟨l,rfl,hl,hb⟩:=zQ m h3;have hx':0≤x∧x<256:=by simp[IntKind.has,IntKind.min,IntKind.max,IntKind.signed,IntKind.bits]at hx;omega
  refine⟨x.toNat::l,?_,by simp[hl],fun y hy=>?_⟩
  ·simp only[cd,List.map_cons,List.cons_append,List.nil_append];rw[show((x.toNat:Nat):Int)=x by omega]
  ·rcases d_.1 hy with rfl|hy
   ·omega
   ·exact hb y hy
theorem RY{n:Nat}{ds:List DV}(h:jY Tryz.prog (n+2) 29 ds):∃l:List Nat,ds=cd l∧l.length=32∧bytes l:=by
 rw[jY]at h;simp only[Tryz.underlying29]at h;exact zQ 32 h
theorem zR{n:Nat}{d:DV}(h:jY Tryz.prog (n+2) 31 [d]):∃bs:List Nat,d=nb bs∧bs.length≤maxLen∧bytes bs:=by
 simp only[jY,Tryz.underlying31,List.cons.injEq,and_true]at h;obtain⟨es,rfl,hl,hr⟩:=h
 obtain⟨bs,rfl,hbs⟩:=tw (enc:=fun b:Nat=>[DV.int .u8 (b:Int)]) (R:=fun b=>b<256) (es:=es) (fun r hr'=>by
  obtain⟨h1,h2⟩:=hr r hr';simp only[Tryz.underlying5]at h1;obtain⟨x,rfl,hx⟩:=h1;have hx':0≤x∧x<256:=by simp[IntKind.has,IntKind.min,IntKind.max,IntKind.signed,IntKind.bits]at hx;omega
  exact⟨x.toNat,by rw[show((x.toNat:Nat):Int)=x by omega],aq⟩)
 exact⟨bs,by rw[show Tryz.prog.cellsOf 5=1 by kernel_rfl];rfl,by simpa using hl,hbs⟩
end Go.Proofs.YtmfnimjnneflnaaGreat
namespace Go.Sha
open Go.Am
end Go.Sha
namespace Go.Proofs.YtmfnimjnneflnaaGreat
open Go.Am Go.Sha
theorem four{b:List Nat}{k:Nat}(h:k+4≤b.length):∃x0 x1 x2 x3,b[k]?=some x0∧b[k+1]?=some x1∧b[k+2]?=some x2∧b[k+3]?=some x3∧(b.take (k+4)).drop k=[x0,x1,x2,x3]:=by
 refine⟨b[k],b[k+1],b[k+2],b[k+3],cm _,cm _,cm _,cm _,?_⟩;rw[List.drop_take,show k+4-k=4 by omega,List.drop_eq_getElem_cons (by omega:k<b.length),List.drop_eq_getElem_cons (by omega:k+1<b.length),List.drop_eq_getElem_cons (by omega:k+1+1<b.length),List.drop_eq_getElem_cons (by omega:k+1+1+1<b.length)];rfl
end Go.Proofs.YtmfnimjnneflnaaGreat
namespace Go.Sha
theorem qa(x:Nat):t8 x<256:=Nat.mod_lt _ (by decide)
theorem v8(l:List Nat):∀n x,x∈kt l n→x<256
 |0,x,h=>by simp[kt]at h
 |n+1,x,h=>by
  rcases cD.1 h with h|h
  ·exact v8 l n x h
  ·simp[xC]at h;rcases h with rfl|rfl|rfl|rfl<;>exact qa _
theorem gn(b:List Nat):∀x,x∈aO b→x<256:=fun x h=>v8 _ 8 x h
end Go.Sha
namespace Go.Proofs.YtmfnimjnneflnaaGreat
open Go.Am Go.Sha
theorem aM{hp:Hp}{I:Nat→Prop}{id n:Nat}{L:List Nat}(hl:L.length=n)(hb:lk id hp=some ⟨5,1,rb L⟩)(hI:I id):SnapD hp I (.own id 0 n n) (nb L):=by
 subst hl;have h:=pX (i0:=0) (n:=L.length) (L:=L) hb hI aq;rw[List.drop_zero,cx (cL _)]at h;exact h
end Go.Proofs.YtmfnimjnneflnaaGreat
namespace Go.Sha
end Go.Sha
namespace Go.Proofs.YtmfnimjnneflnaaGreat
open Go.Am Go.Sha
def Gm(L:List Nat)(r:AV)(hp':Hp):Prop:=∃I,r=.own I 0 L.length L.length∧lk I hp'=some ⟨5,1,rb L⟩
theorem tL{g:FuncId}{args:List AV}{L:List Nat}(h:cT Tryz.prog g 0 [] args (Gm L))(hd:∀v,v∈args→v.deep):au Tryz.prog g args (fun r=>r=.d (nb L)) :=
 F8 h hd fun r hp'⟨I,hr,hb⟩=>⟨.d (nb L),by subst hr;exact .one (al (aM rfl hb trivial)),trivial,rfl⟩
def sb(l:List Nat):List Int:=l.map fun(x:Nat)=>(x:Int)
theorem RZ{a b:List Nat}:sb a=sb b↔a=b:=tK
end Go.Proofs.YtmfnimjnneflnaaGreat
namespace Go.Sha
abbrev Wd:=Nat×List Nat
def jd(x:List Nat):Wd:=(if x.length≤75 then x.length else if x.length≤255 then 76 else 77,x)
def gw(x:List Nat):Wd :=
 match x with
 |[c]=>if 1≤c∧c≤16 then(80+c,[])else if c=129 then(79,[])else jd [c]
 |x=>jd x
theorem BW{x:List Nat}(h:x.length≠1):gw x=jd x:=by
 match x,h with
 |[],_=>rfl
 |[c],h=>exact absurd rfl h
 |_::_::_,_=>rfl
theorem VY{x:Nat}(h:x<256):t8 x=x:=Nat.mod_eq_of_lt h
end Go.Sha
namespace Go.Proofs.YtmfnimjnneflnaaGreat
open Go.Am Go.Sha
def Gn(w:Wd):List DV:=[.int .u8 (w.1:Int),nb w.2]
def xF(w:Wd):List AV:=[.d (.int .u8 (w.1:Int)),.d (nb w.2)]
theorem fF(b:List Nat)(hl:b.length≤100000000000):au Tryz.prog 52 [.d (nb b)] (fun r=>r=.d (nb b)):=by
 refine bC Tryz.func52 Tryz.ntmps52 (rs:=[.tmp 2]) a9 ?_;simp only[go_sem,nb,Nat.reduceEqDiff,Nat.reduceAdd,Nat.reduceLT,↓reduceIte];intro t hb
 cases t with
 |true =>
  have h0:b=[]:=List.eq_nil_of_length_eq_zero (by simpa using hb rfl);subst h0;simp only[go_sem,Nat.reduceEqDiff,Nat.reduceAdd,Nat.reduceLT,↓reduceIte];exact cQ (.inr ⟨_,rfl,.nil 1⟩) a9 rfl
 |false =>
  simp[go_sem,cC,aG];refine⟨aq,cQ (al (aM (L:=b) rfl rfl trivial)) a9 rfl⟩
theorem D4(x:List Nat)(hl:x.length≤60000)(hxb:bytes x):au Tryz.prog 16 [.d (nb x)] (fun r=>r=.agg (xF (gw x))):=by
 refine bC Tryz.func16 Tryz.ntmps16 (rs:=[.cell 2 42]) a9 ?_;by_cases h1:x.length=1
 ·obtain⟨c,rfl⟩:∃c,x=[c]:=by
   match x,h1 with
   |[c],_=>exact⟨c,rfl⟩
  have hc:=hxb c aw;by_cases hA:1≤c∧c≤16
  ·have i1:1≤(c:Int):=aq;have i2:(c:Int)≤16:=aq;have hP:gw [c]=(80+c,[]):=if_pos hA;have w:IntKind.u8.wrap (80+(c:Int))=((80+c:Nat):Int):=by rw[Hm];omega
   rw[hP];simp[go_sem,nb,i1,i2,w,ah];exact zy (ap (aR trivial) (ap (al (.nil 1)) bo)) rfl a9 (by simp[xF,nb])
  ·by_cases hB:c=129
   ·subst hB;have hP:gw [129]=(79,[]):=rfl;rw[hP];simp[go_sem,nb,ah];exact zy (ap (aR trivial) (ap (al (.nil 1)) bo)) rfl a9 (by simp[xF,nb])
   ·have hP:gw [c]=jd [c]:=(if_neg hA).trans (if_neg hB);have hB':¬(c:Int)=129:=aq;rw[hP];by_cases j1:1≤c
    ·have i1:1≤(c:Int):=aq;have i2:¬(c:Int)≤16:=aq;simp[go_sem,nb,i1,i2,hB'];refine ag (fF [c] aw) a9 ?_;simp[go_sem,ah,fj,nb];refine aa a9 ?_;simp[jd,xF,nb];decide
    ·have i1:¬ 1≤(c:Int):=aq;simp[go_sem,nb,i1,hB'];refine ag (fF [c] aw) a9 ?_;simp[go_sem,ah,fj,nb];refine aa a9 ?_;simp[jd,xF,nb];decide
 ·have h1':¬(x.length:Int)=1:=aq;rw[BW h1];simp[go_sem,nb,h1'];refine ag (fF x aq) a9 ?_;rcases(by omega:x.length≤75∨(75<x.length∧x.length≤255)∨255<x.length)with hn|⟨hn,hn2⟩|hn
  ·have i1:(x.length:Int)≤75:=aq;simp[go_sem,i1,ah,fj];refine aa a9 ?_;simp[jd,xF,nb,hn,VY (show x.length<256 by omega)]
  ·have i1:¬(x.length:Int)≤75:=aq;have i2:(x.length:Int)≤255:=aq;have n1:¬x.length≤75:=aq;simp[go_sem,i1,i2,ah];refine aa a9 ?_;simp[jd,xF,nb,n1,hn2]
  ·have i1:¬(x.length:Int)≤75:=aq;have i2:¬(x.length:Int)≤255:=aq;have n1:¬x.length≤75:=aq;have n2:¬x.length≤255:=aq;simp[go_sem,i1,i2,ah];refine aa a9 ?_;simp[jd,xF,nb,n1,n2]
end Go.Proofs.YtmfnimjnneflnaaGreat
namespace Go.Sha
def jD(w:Wd):List Nat×Bool :=
 if 0<w.1∧w.1≤75 then(w.1::w.2,decide (w.2.length=w.1))
 else if w.1=76 then(76::t8 w.2.length::w.2,decide (w.2.length≤255))
 else if w.1=77 then(77::t8 w.2.length::t8 (jr 8 w.2.length)::w.2,decide (w.2.length≤65535))
 else([w.1],decide (w.2.length=0))
theorem zS(w:Wd):(jD w).1.length≤w.2.length+3:=by
 unfold jD
 split
 ·simp
 ·split
  ·simp
  ·split
   ·simp
   ·simp
def xG:List Nat→List Wd→List Nat×Int
 |out,[]=>(out,0)
 |out,w::r=>if(jD w).2=true then xG (out++(jD w).1) r else([],1)
end Go.Sha
namespace Go.Proofs.YtmfnimjnneflnaaGreat
open Go.Am Go.Sha
theorem zT(w:Wd):∀c,c∈xF w→c.deep1:=by
 intro c hc;simp[xF]at hc;rcases hc with rfl|rfl<;>trivial
theorem j6{Q:AV→Prop}{st:St}{id n:Nat}{b:Bool}{L:List Nat}(hl:L.length=n)(hb:lk id st.hp=some ⟨5,1,rb L⟩)(hq:Q (.tup [.d (nb L),.d (.bool b)])):dc Q (.tup [.own id 0 n n,.d (.bool b)]) st :=
 cB (ap (al (aM hl hb trivial)) (ap (aR trivial) bo)) rfl a9 hq
theorem R7(w:Wd)(hl:w.2.length≤60000)(h8:w.1<256):au Tryz.prog 95 [.agg (xF w)] (fun r=>r=.tup [.d (nb (jD w).1),.d (.bool (jD w).2)]):=by
 refine bC Tryz.func95 Tryz.ntmps95 (rs:=[.tmp 2,.tmp 3]) (by intro v hv;simp at hv;subst hv;exact zT w) ?_;obtain⟨op,p⟩:=w;simp only at hl h8;by_cases h1:0<op∧op≤75
 ·obtain⟨j1,j2⟩:=h1;have i1:0<(op:Int):=aq;have i2:(op:Int)≤75:=aq;have wi:IntKind.i64.wrap (op:Int)=(op:Int):=IntWalk.i64_in _ aq;simp[go_sem,xF,i1,i2,j1,j2];refine ca [0,1,3,4,6,7,8,9,10] [(2,[]),(5,[11,12])] 2 (k:=13) ?_;intro G hG;simp[go_sem,nb,cC,wi,aG];refine⟨aq,hG _ _ ?_⟩;clear hG G;have hy:jD (op,p)=(op::p,decide (p.length=op)):=by unfold jD;rw[if_pos ⟨j1,j2⟩]
  rw[hy];have hcast:decide ((p.length:Int)=(op:Int))=decide (p.length=op):=by congr 1;exact propext aq
  simp[go_sem,ah,hcast];exact j6 (L:=op::p) (by simp;omega) rfl rfl
 ·by_cases h2:op=76
  ·subst h2;have hy:jD (76,p)=(76::t8 p.length::p,decide (p.length≤255)):=rfl;rw[hy];have hcast:decide ((p.length:Int)≤255)=decide (p.length≤255):=by congr 1;exact propext aq
   simp[go_sem,xF,nb,cC,aG,fj,hcast,ah];exact⟨aq,j6 (L:=76::t8 p.length::p) (by simp;omega) rfl (by simp[nb])⟩
  ·by_cases h3:op=77
   ·subst h3;have hy:jD (77,p)=(77::t8 p.length::t8 (jr 8 p.length)::p,decide (p.length≤65535)):=rfl;rw[hy];have hcast:decide ((p.length:Int)≤65535)=decide (p.length≤65535):=by congr 1;exact propext aq
    simp[go_sem,xF,nb,cC,aG,fj,hcast,ah,IntKind.bits,zO];exact⟨aq,j6 (L:=77::t8 p.length::t8 (jr 8 p.length)::p) (by simp;omega) rfl (by simp[nb])⟩
   ·have hy:jD (op,p)=([op],decide (p.length=0)):=by unfold jD;rw[if_neg h1,if_neg h2,if_neg h3]
    rw[hy];have e2:¬(op:Int)=76:=aq;have e3:¬(op:Int)=77:=aq;have hcast:decide ((p.length:Int)=0)=decide (p.length=0):=by congr 1;exact propext aq
    by_cases j1:0<op
    ·have i1:0<(op:Int):=aq;have i2:¬(op:Int)≤75:=aq;simp[go_sem,xF,nb,cC,aG,i1,j1,i2,e2,e3,hcast,ah];refine j6 (L:=[op]) (id:=832) rfl rfl ?_;simp[nb]
    ·have i1:¬ 0<(op:Int):=aq;simp[go_sem,xF,nb,cC,aG,i1,j1,e2,e3,hcast,ah];refine j6 (L:=[op]) (id:=832) rfl rfl ?_;simp[nb]
end Go.Proofs.YtmfnimjnneflnaaGreat
namespace Go.Sha
def tM:List Nat→List (List Nat)→Option (List Nat)
 |out,[]=>some out
 |out,x::r=>if 1000<x.length then none else tM (out++(jD (gw x)).1) r
def rl(things:List (List Nat))(body:List Nat):List Nat×Int :=
 match tM [] things with
 |none=>([],4)
 |some out=>if 1000<(out++body).length then([],4)else(out++body,0)
theorem NJ{x:List Nat}(h:x.length≤1000):(jD (gw x)).2=true:=by
 have g:(jD (jd x)).2=true:=by
  unfold jd jD;by_cases h1:x.length≤75
  ·by_cases h0:x.length=0
   ·have:x=[]:=List.eq_nil_of_length_eq_zero h0;subst this;rfl
   ·have:0<x.length∧x.length≤75:=aq;simp[h1,this]
  ·by_cases h2:x.length≤255
   ·simp[h1,h2]
   ·simp[h1,h2];omega
 match x,g with
 |[],g=>exact g
 | [c],g =>
  show(jD (if 1≤c∧c≤16 then(80+c,[])else if c=129 then(79,[])else jd [c])).2=true;by_cases hA:1≤c∧c≤16
  ·rw[if_pos hA];unfold jD;have n1:¬(0<80+c∧80+c≤75):=aq;have n2:¬ 80+c=76:=aq;have n3:¬ 80+c=77:=aq;simp[n1,n2,n3]
  ·rw[if_neg hA];by_cases hB:c=129
   ·rw[if_pos hB];rfl
   ·rw[if_neg hB];exact g
 |_::_::_,g=>exact g
end Go.Sha
namespace Go.Sha
theorem we(x:List Nat):(gw x).2.length≤x.length:=by
 match x with
 |[]=>exact cL _
 | [c] =>
  show(if 1≤c∧c≤16 then(80+c,[])else if c=129 then(79,[])else jd [c]).2.length≤1
  split
  ·simp
  ·split
   ·simp
   ·exact cL _
 |_::_::_=>exact cL _
end Go.Sha
namespace Go.Proofs.YtmfnimjnneflnaaGreat
open Go.Am Go.Sha
def IX(w:Wd):Prop:=w.2.length≤60000∧w.1<256
theorem wh{Q:AV→Prop}{st:St}{id:Nat}{e:Int}{L:List Nat}(hb:lk id st.hp=some ⟨5,1,rb L⟩)(hq:Q (.tup [.d (nb L),.d (.int .i64 e)])):dc Q (.tup [.own id 0 L.length L.length,.d (.int .i64 e)]) st :=
 cB (ap (al (aM rfl hb trivial)) (ap (aR trivial) bo)) rfl a9 hq
theorem oS{Q:AV→Prop}{st:St}{e:Int}(hq:Q (.tup [.d (nb []),.d (.int .i64 e)])):dc Q (.tup [.nil,.d (.int .i64 e)]) st :=
 cB (ap (al (.nil 1)) (ap (aR trivial) bo)) rfl a9 hq
theorem IY(ws:List Wd)(hw:∀w,w∈ws→IX w)(hl:ws.length≤10000):au Tryz.prog 51 [.d (.ro 2 (ws.map Gn))] (fun r=>r=.tup [.d (nb (xG [] ws).1),.d (.int .i64 (xG [] ws).2)]):=by
 refine bC Tryz.func51 Tryz.ntmps51 (rs:=[.tmp 2,.tmp 3]) a9 ?_;generalize hB:xG [] ws=B;simp only[go_sem,Nat.reduceEqDiff,Nat.reduceAdd,Nat.reduceLT,↓reduceIte,Nat.reduceMul]
 refine av (fun t:Nat×List Nat=>⟨[(4,.own 1000 0 t.2.length t.2.length),(9,.d (.ro 2 (ws.map Gn))),(10,.d (.int .i64 (ws.length:Int))),(11,.d (.int .i64 (t.1:Int)))],[(1000,⟨5,1,rb t.2⟩)],1001⟩)
  (fun t=>t.1≤ws.length∧t.2.length≤60003*t.1∧xG t.2 (ws.drop t.1)=B) (fun t=>ws.length-t.1) (0,[]) ⟨aq,aw,hB⟩ (by
   simp[az,ai,fv,lk,AV.low,AV.low1,rb]) ?_
 clear hB;rintro⟨k,out⟩⟨hk,ho,hB⟩;simp only at hk ho hB;simp only[go_sem,Nat.reduceEqDiff,Nat.reduceAdd,Nat.reduceLT,↓reduceIte,Nat.reduceMul];refine⟨fun h=>?_,fun h=>?_⟩
 ·obtain⟨w,hw1,hd⟩:=bp (l:=ws) (k:=k) aq;obtain⟨q1,q2⟩:=hw w (cr hw1);rw[hd]at hB;simp only[xG]at hB;have hll:=zS w;have hrow:Gn w=[.int .u8 (w.1:Int),nb w.2]:=rfl;simp[go_sem,hw1,hrow];refine ag (R7 w q1 q2) (by intro v hv;simp at hv;subst hv;exact zT w) ?_
  cases hok:(jD w).2 with
  |false =>
   simp[go_sem,ah];rw[hok,if_neg aw]at hB;rw[←hB];exact oS rfl
  |true =>
   rw[hok,if_pos rfl]at hB;have w3:=ax (k:=k) aq;generalize(jD w).1=L at *;simp[go_sem,nb,cC,aG,jZ,w3];refine⟨aq,?_⟩;refine ao (k+1,out++L) ⟨by simp only;omega,by simp only[b_];omega,hB⟩ (by simp only;omega) ?_;simp[az,ai,fv,lk,AV.low,AV.low1];exact bq _ _
 ·rw[c_ aq]at hB;simp only[xG]at hB;simp[go_sem,ah];rw[←hB];exact wh rfl rfl
def aP(x:List Nat):List DV:=[nb x]
theorem tN{x:List Nat}(h:x.length≤60000)(hb:bytes x):IX (gw x):=by
 have g:IX (jd x):=by
  unfold jd;refine⟨h,?_⟩;simp only
  split
  ·omega
  ·split<;>omega
 match x,hb,g with
 |[],_,g=>exact g
 | [c],hb,g =>
  show IX (if 1≤c∧c≤16 then(80+c,[])else if c=129 then(79,[])else jd [c]);by_cases hA:1≤c∧c≤16
  ·rw[if_pos hA];exact⟨aw,by simp only;omega⟩
  ·rw[if_neg hA];by_cases hB:c=129
   ·rw[if_pos hB];exact⟨aw,aw⟩
   ·rw[if_neg hB];exact g
 |_::_::_,_,g=>exact g
theorem NK{hp:Hp}{I:Nat→Prop}{id:Nat}{w:Wd}(hb:lk id hp=some ⟨42,2,[xF w]⟩)(hI:I id):SnapD hp I (.own id 0 1 1) (.ro 2 ([w].map Gn)) :=
 ja (es:=[w].map Gn) (by rw[hb];rfl) hI rfl (by simp[Gn])
theorem BX(things:List (List Nat))(body:List Nat)(hl:things.length≤1000)(ht:∀x,x∈things→x.length≤60000∧bytes x)(hb:body.length≤100000) :
  au Tryz.prog 26 [.d (.ro 1 (things.map aP)),.d (nb body)] (fun r=>r=.tup [.d (nb (rl things body).1),.d (.int .i64 (rl things body).2)]):=by
 refine bC Tryz.func26 Tryz.ntmps26 (rs:=[.tmp 4,.tmp 5]) a9 ?_;unfold rl;generalize hB:tM [] things=B;simp only[go_sem,Nat.reduceEqDiff,Nat.reduceAdd,Nat.reduceLT,↓reduceIte,Nat.reduceMul]
 refine av (fun t:Nat×List Nat=>⟨[(1,.d (nb body)),(6,.own 1000 0 t.2.length t.2.length),(11,.d (.ro 1 (things.map aP))),(12,.d (.int .i64 (things.length:Int))),(13,.d (.int .i64 (t.1:Int)))],[(1000,⟨5,1,rb t.2⟩)],1001⟩)
  (fun t=>t.1≤things.length∧t.2.length≤60003*t.1∧tM t.2 (things.drop t.1)=B) (fun t=>things.length-t.1) (0,[]) ⟨aq,aw,hB⟩ (by
   simp[az,ai,fv,lk,AV.low,AV.low1,rb]) ?_
 clear hB;rintro⟨k,out⟩⟨hk,ho,hB⟩;simp only at hk ho hB;simp only[go_sem,Nat.reduceEqDiff,Nat.reduceAdd,Nat.reduceLT,↓reduceIte,Nat.reduceMul];refine⟨fun h=>?_,fun h=>?_⟩
 ·obtain⟨x,hx1,hd⟩:=bp (l:=things) (k:=k) aq;obtain⟨q1,q2⟩:=ht x (cr hx1);rw[hd]at hB;simp only[tM]at hB;by_cases hxl:1000<x.length
  ·rw[if_pos hxl]at hB;subst hB;have i1:1000<(x.length:Int):=aq;simp[go_sem,hx1,aP,nb,i1,ah];exact oS rfl
  ·rw[if_neg hxl]at hB;have i1:¬ 1000<(x.length:Int):=aq;have hok:=NJ (x:=x) aq;have hwd:=tN q1 q2;have hll:=zS (gw x);have hpl:(gw x).2.length≤x.length:=we x;have hbl:xG [] [gw x]=((jD (gw x)).1,0):=by simp[xG,hok]
   simp[go_sem,hx1,aP,nb,i1];refine ag (D4 x q1 q2) a9 ?_;have hsz:(xF (gw x)).length=2:=rfl;simp[go_sem,hsz];refine bV [1289] (IY [gw x] (by intro w hw;simp at hw;subst hw;exact hwd) aw) rfl (aj (.one (al (NK rfl aw))) aC) ?_;rw[hbl];have w3:=ax (k:=k) aq;generalize(jD (gw x)).1=L at *;simp[go_sem,aE,nb,cC,aG,jZ,w3];refine⟨aq,?_⟩;refine ao (k+1,out++L) ⟨by simp only;omega,by simp only[b_];omega,hB⟩ (by simp only;omega) ?_;simp[az,ai,fv,lk,AV.low,AV.low1,nb];exact bq _ _
 ·rw[c_ aq]at hB;simp only[tM]at hB;subst hB;have hkl:k=things.length:=aq;simp only;by_cases hbig:1000<out.length+body.length
  ·rw[if_pos hbig];have i1:1000<((out.length+body.length:Nat):Int):=aq;have i2:1000<(out.length:Int)+(body.length:Int):=aq;simp[go_sem,nb,cC,aG,i1,i2,ah];exact⟨aq,oS rfl⟩
  ·rw[if_neg hbig];have i1:¬ 1000<((out.length+body.length:Nat):Int):=aq;have i2:¬ 1000<(out.length:Int)+(body.length:Int):=aq;simp[go_sem,nb,cC,aG,jZ,i1,i2,ah];refine⟨aq,?_⟩;have:=wh (id:=1000) (L:=out++body) (e:=0) (Q:=fun r=>r=AV.tup [AV.d (nb (out++body)),AV.d (.int .i64 0)]) (st:=⟨[],[(1000,⟨5,1,rb (out++body)⟩)],0⟩) rfl rfl;simp[nb]at this;exact this
def xH:List Nat:=[86,97,117,108,116,82,101,99,111,118,101,114,121]
def zU(x:List Nat):List Nat:=eu xH (aL x.length++x)
theorem zV(x:List Nat):(zU x).length=32:=aJ _
theorem BZ(x:List Nat)(hx:x.length≤100000):au Tryz.prog 20 [.d (nb x)] (fun r=>r=.agg (cb (zU x))):=by
 refine bC Tryz.func20 Tryz.ntmps20 (rs:=[.cell 2 29]) a9 ?_;have hp5:=cK x.length;simp[go_sem];refine bV [] (ew [] x aw aq) rfl (aj (.one (al (.nil 1))) (aj (.deep a9) aC)) ?_;simp[go_sem,aE];refine ag (eV xH (.str [86,97,117,108,116,82,101,99,111,118,101,114,121]) rfl (aL x.length++x) (by simp[xH]) (by simp;omega)) a9 ?_;have hR:zU x=eu xH (aL x.length++x):=rfl;rw[←hR];have hL:=zV x;generalize zU x=R at *;simp[go_sem,ah,hL,am hL,bA];exact aa (by simp[AV.deep];exact bD _) rfl
def a8(c:Int×Int):List DV:=[.int .i64 c.1,.int .u64 c.2]
def rm(o:Int×List Nat):List DV:=[.int .u64 o.1,nb o.2]
def li(out:Int):List (Int×Int)→Int→Int×Int
 |[],s=>(s,0)
 |c::r,s=>if c.1≠out then li out r s else if IntKind.u64.wrap (s+c.2)<c.2 then(0,31)else li out r (IntKind.u64.wrap (s+c.2))
theorem NL(cs:List (Int×Int))(out:Int)(hl:cs.length<4611686018427387904):au Tryz.prog 121 [.d (.ro 2 (cs.map a8)),.d (.int .i64 out)] (fun r=>r=.tup [.d (.int .u64 (li out cs 0).1),.d (.int .i64 (li out cs 0).2)]):=by
 refine bC Tryz.func121 Tryz.ntmps121 (rs:=[.tmp 4,.tmp 5]) a9 ?_;simp only[go_sem,Nat.reduceEqDiff,Nat.reduceAdd,Nat.reduceLT,↓reduceIte,Nat.reduceMul]
 refine av (fun t:Nat×Int=>⟨[(0,.d (.ro 2 (cs.map a8))),(1,.d (.int .i64 out)),(6,.d (.int .u64 t.2)),(9,.d (.ro 2 (cs.map a8))),(10,.d (.int .i64 cs.length)),(11,.d (.int .i64 t.1))],[],64⟩)
  (fun t=>t.1≤cs.length∧li out (cs.drop t.1) t.2=li out cs 0) (fun t=>cs.length-t.1) (0,0) ⟨aq,rfl⟩ (by simp[az,ai,fv,lk,AV.low,AV.low1]) ?_
 rintro⟨k,s⟩⟨hk0,ho⟩;simp only[go_sem,Nat.reduceEqDiff,Nat.reduceAdd,Nat.reduceLT,↓reduceIte,Nat.reduceMul];simp only at hk0 ho;refine⟨fun hk=>?_,fun hk=>?_⟩
 ·obtain⟨c,hc,hd⟩:=bp (l:=cs) (k:=k) aq;rw[hd]at ho;simp only[go_sem,Nat.reduceEqDiff,Nat.reduceAdd,Nat.reduceLT,↓reduceIte,hc,a8,Nat.reduceLeDiff,ax (show k<4611686018427387904 by omega)];refine⟨fun h=>?_,fun h=>⟨fun h2=>?_,fun h2=>?_⟩⟩
  ·refine ao (k+1,s) ⟨by simp;omega,?_⟩ (by simp;omega) (by simp[az,ai,fv,lk,AV.low,AV.low1])
   simpa[li,h]using ho
  ·refine aa a9 ?_;simp[li,h,h2]at ho;simp[←ho]
  ·refine ao (k+1,IntKind.u64.wrap (s+c.2)) ⟨by simp;omega,?_⟩ (by simp;omega) (by simp[az,ai,fv,lk,AV.low,AV.low1])
   simpa[li,h,h2]using ho
 ·refine aa a9 ?_;rw[c_ aq]at ho;simp[li]at ho;simp[←ho]
def uY(n:Int):List (Int×Int)→Bool
 |[]=>true
 |c::r=>if c.1<0 then false else if n≤c.1 then false else uY n r
def uZ(cs:List (Int×Int)):Nat→List (Int×List Nat)→Bool
 |_,[]=>true
 |i,o::r=>if(li i cs 0).2≠0 then false else if o.1<(li i cs 0).1 then false else uZ cs (i+1) r
def hJ(outs:List (Int×List Nat))(cs:List (Int×Int)):Int:=if uY outs.length cs then(if uZ cs 0 outs then 0 else 40)else 1
theorem Gp(outs:List (Int×List Nat))(cs:List (Int×Int))(hl:cs.length<4611686018427387904)(ho:outs.length<4611686018427387904) :
  au Tryz.prog 79 [.d (.ro 2 (outs.map rm)),.d (.ro 2 (cs.map a8))] (fun r=>r=.d (.int .i64 (hJ outs cs))):=by
 refine bC Tryz.func79 Tryz.ntmps79 (rs:=[.tmp 4]) a9 ?_;simp only[go_sem,Nat.reduceEqDiff,Nat.reduceAdd,Nat.reduceLT,↓reduceIte,Nat.reduceMul]
 refine av (fun k:Nat=>⟨[(0,.d (.ro 2 (outs.map rm))),(1,.d (.ro 2 (cs.map a8))),(11,.d (.ro 2 (cs.map a8))),(12,.d (.int .i64 cs.length)),(13,.d (.int .i64 k))],[],64⟩)
  (fun k=>k≤cs.length∧uY outs.length (cs.drop k)=uY outs.length cs) (fun k=>cs.length-k) 0 ⟨aq,rfl⟩ (by simp[az,ai,fv,lk,AV.low,AV.low1]) ?_
 rintro k⟨hk0,hq⟩;simp only[go_sem,Nat.reduceEqDiff,Nat.reduceAdd,Nat.reduceLT,↓reduceIte,Nat.reduceMul];refine⟨fun hk=>?_,fun hk=>?_⟩
 ·obtain⟨c,hc,hd⟩:=bp (l:=cs) (k:=k) aq;rw[hd]at hq;by_cases h1:c.1<0
  ·simp[go_sem,hc,a8,h1];refine aa a9 ?_;simp[uY,h1]at hq;simp[hJ,hq]
  ·by_cases h2:(outs.length:Int)≤c.1
   ·simp[go_sem,hc,a8,h1,h2];refine aa a9 ?_;simp[uY,h1,h2]at hq;simp[hJ,hq]
   ·simp[go_sem,hc,a8,h1,h2,ax (show k<4611686018427387904 by omega)];refine ao (k+1) ⟨aq,?_⟩ aq (by simp[az,ai,fv,lk,AV.low,AV.low1])
    simpa[uY,h1,h2]using hq
 ·rw [c_ aq] at hq;simp [go_sem]
  refine av (fun k:Nat=>⟨[(0,.d (.ro 2 (outs.map rm))),(1,.d (.ro 2 (cs.map a8))),(28,.d (.ro 2 (outs.map rm))),(29,.d (.int .i64 outs.length)),(30,.d (.int .i64 k))],[],64⟩)
   (fun k=>k≤outs.length∧uZ cs k (outs.drop k)=uZ cs 0 outs) (fun k=>outs.length-k) 0 ⟨aq,rfl⟩ (by simp[az,ai,fv,lk,AV.low,AV.low1]) ?_
  rintro k⟨hk0,hq2⟩;simp only[go_sem,Nat.reduceEqDiff,Nat.reduceAdd,Nat.reduceLT,↓reduceIte,Nat.reduceMul];refine⟨fun hk=>?_,fun hk=>?_⟩
  ·obtain⟨o,hc,hd⟩:=bp (l:=outs) (k:=k) aq;rw[hd]at hq2;simp[go_sem,hc,rm];refine ag (NL cs k hl) a9 ?_;by_cases h1:(li k cs 0).2=0
   ·by_cases h2:o.1<(li k cs 0).1
    ·simp[go_sem,h1,h2];refine aa a9 ?_;simp[uZ,h1,h2]at hq2;simp[hJ,←hq,←hq2,uY]
    ·simp[go_sem,h1,h2,ax (show k<4611686018427387904 by omega)];refine ao (k+1) ⟨aq,?_⟩ aq (by simp[az,ai,fv,lk,AV.low,AV.low1])
     simpa[uZ,h1,h2]using hq2
   ·simp[go_sem,h1];refine aa a9 ?_;simp[uZ,h1]at hq2;simp[hJ,←hq,←hq2,uY]
  ·simp[go_sem];refine aa a9 ?_;rw[c_ aq]at hq2;simp[uZ]at hq2;simp[hJ,←hq,←hq2,uY]
theorem D5{P:Program}{s t:TypeId}{Kk:AV→Hp→Prop}{hp:Hp}(l:List Nat)(el:TypeId)(hb:bytes l)(h1:bS P s=.slice el)(h2:bS P t=.str)(h3:P.underlying el=some (.int .u8))(hK:Kk (.d (.str (sb l))) hp):Zp P s t (l.map fun(x:Nat)=>[DV.int .u8 (x:Int)]) Kk hp:=by
 refine⟨sb l,by simp[sb],fun b h=>?_,?_⟩
 ·simp only[sb,List.mem_map]at h;obtain⟨x,hx,rfl⟩:=h;have:=hb x hx;omega
 ·rw[h1,h2];exact⟨h3,hK⟩
theorem B5{w:Wd}(h8:w.1<256)(hp:bytes w.2):bytes (jD w).1:=by
 unfold jD
 split
 ·intro y hy;rcases d_.1 hy with rfl|hy
  ·exact h8
  ·exact hp y hy
 ·split
  ·intro y hy;simp only[d_]at hy;rcases hy with rfl|rfl|hy
   ·omega
   ·exact qa _
   ·exact hp y hy
  ·split
   ·intro y hy;simp only[d_]at hy;rcases hy with rfl|rfl|rfl|hy
    ·omega
    ·exact qa _
    ·exact qa _
    ·exact hp y hy
   ·intro y hy;simp only[List.mem_singleton]at hy;rw[hy];exact h8
theorem sf{x:List Nat}(hb:bytes x):bytes (gw x).2:=by
 match x,hb with
 |[],hb=>exact hb
 | [c],hb =>
  show bytes (if 1≤c∧c≤16 then(80+c,[])else if c=129 then(79,[])else jd [c]).2
  split
  ·intro y hy;simp at hy
  ·split
   ·intro y hy;simp at hy
   ·exact hb
 |_::_::_,hb=>exact hb
theorem rp{a b:List Nat}(ha:bytes a)(hb:bytes b):bytes (a++b):=fun y hy=>(cD.1 hy).elim (ha y) (hb y)
theorem tO:∀(things:List (List Nat))(out o:List Nat),bytes out→(∀x,x∈things→x.length≤60000∧bytes x)→tM out things=some o→bytes o
 |[],out,o,h,_,e=>by simp only[tM,Option.some.injEq]at e;subst e;exact h
 |x::r,out,o,h,ht,e=>by
  obtain⟨q1,q2⟩:=ht x (dz ..);simp only[tM]at e
  split at e
  ·cases e
  ·exact tO r _ o (rp h (B5 (tN q1 q2).2 (sf q2))) (fun y hy=>ht y (cS _ hy)) e
theorem B6{things:List (List Nat)}{body:List Nat}(hb:bytes body)(ht:∀x,x∈things→x.length≤60000∧bytes x):bytes (rl things body).1:=by
 unfold rl
 cases h:tM [] things with
 |none=>intro y hy;simp at hy
 |some o =>
  have:=tO things [] o (by intro y hy;simp at hy) ht h;simp only
  split
  ·intro y hy;simp at hy
  ·exact rp this hb
theorem NM{n:Nat}{t:TypeId}{a:AV}{k:TypeDesc}(hu:Tryz.prog.underlying t=some k)(hk:∀fs,k≠.struct fs)(hk2:∀m e,k≠.array m e)(h:rW Tryz.prog n t a):∃d,a=.d d∧jY Tryz.prog n t [d]:=by
 unfold rW at h;rw[hu]at h
 cases k<;>first|exact h|exact absurd rfl (hk _)|exact absurd rfl (hk2 _ _)
theorem Gq{n:Nat}{d:DV}(h:jY Tryz.prog (n+3) 34 [d]):∃xs:List (List Nat),d=.ro 1 (xs.map aP)∧∀x,x∈xs→bytes x:=by
 rw[jY]at h;simp only[Tryz.underlying34,List.cons.injEq,and_true]at h;obtain⟨es,rfl,hl,hr⟩:=h
 obtain⟨xs,rfl,hxs⟩:=tw (enc:=aP) (R:=fun x=>bytes x) (es:=es) (fun r hr'=>by
  obtain⟨h1,h2⟩:=hr r hr';rw[show Tryz.prog.cellsOf 31=1 by kernel_rfl]at h2
  match r,h1,h2 with
  |[y],h1,_ =>
   obtain⟨x,rfl,_,hb⟩:=zR h1
   exact⟨x,rfl,hb⟩)
 exact⟨xs,by rw[show Tryz.prog.cellsOf 31=1 by kernel_rfl],hxs⟩
def zX:Nat→Nat→List Nat
 |0,_=>[]
 |k+1,m=>if m=0 then[]else m%256::zX k (m/256)
theorem ru:∀(k m:Nat),bytes (zX k m)
 |0,_=>fun x h=>by simp[zX]at h
 | k+1,m=>by
  rw[zX]
  split
  ·exact fun x h=>by simp at h
  ·intro x h;rcases d_.1 h with rfl|h
   ·omega
   ·exact ru k _ x h
theorem D6:∀(k m:Nat),(zX k m).length≤k
 |0,_=>by simp[zX]
 |k+1,m=>by
  rw[zX]
  split
  ·simp
  ·have:=D6 k (m/256);simp;omega
def iw(neg:Bool)(a:List Nat)(x:Nat):List Nat :=
 if 128≤x then(if neg then a++[x,128]else a++[x,0])else(if neg then a++[x+128]else a++[x])
def Gs(neg:Bool)(b:List Nat):List Nat:=match b.reverse with
 |[]=>[]
 |x::r=>iw neg r.reverse x
def gp(n:Int):List Nat:=Gs (decide (n<0)) (zX 8 n.natAbs)
theorem ry(neg:Bool)(a:List Nat)(x:Nat):Gs neg (a++[x])=iw neg a x:=by simp[Gs]
theorem eE(b:List Nat):b=[]∨∃a x,b=a++[x]:=by
 rcases h:b.reverse with _|⟨x,r⟩
 ·exact .inl (by simpa using h)
 ·exact .inr ⟨r.reverse,x,by rw[←List.reverse_reverse b,h,List.reverse_cons]⟩
theorem gq(n:Int):bytes (gp n):=by
 unfold gp;rcases eE (zX 8 n.natAbs)with h|⟨a,x,h⟩
 ·rw[h];exact fun x hx=>by simp[Gs]at hx
 ·have hb:=ru 8 n.natAbs;rw[h]at hb⊢;rw[ry];have hx:=hb x aw;have ha:bytes a:=fun z hz=>hb z (by simp[hz]);unfold iw;intro z hz
  split at hz<;>split at hz<;>simp at hz
  all_goals
   rcases hz with h|h
   ·exact ha z h
   ·omega
theorem lj(n:Int):(gp n).length≤9:=by
 unfold gp;have hl:=D6 8 n.natAbs;rcases eE (zX 8 n.natAbs)with h|⟨a,x,h⟩
 ·rw[h];simp[Gs]
 ·rw[h]at hl⊢;rw[ry];unfold iw;simp at hl
  split<;>split<;>simp<;>omega
theorem IZ:∀x:Nat,x<256→bits .and .u8 (x:Int) 128=if 128≤x then 128 else 0:=by decide +kernel
theorem VZ:∀x:Nat,x<128→bits .or .u8 (x:Int) 128=((x+128:Nat):Int):=by decide +kernel
theorem lJ (n:Int) (h1:-9223372036854775808≤n) (h2:n<9223372036854775808):au Tryz.prog 64 [.d (.int .i64 n)] (fun r=>r=.d (nb (gp n))):=by
  refine bC Tryz.func64 Tryz.ntmps64 (rs:=[.tmp 2]) a9 ?_;have hM:n.natAbs<18446744073709551616:=aq;simp[go_sem];have hpw:(256:Nat) ^ 8=18446744073709551616:=by decide
  have jA:∀x:Int,IntKind.u64.wrap x=x%18446744073709551616:=fun x=>by simp[IntKind.wrap,IntKind.bits,IntKind.signed]
  have wA:n<0→IntKind.u64.wrap (-IntKind.u64.wrap n)=(n.natAbs:Int):=fun h=>by rw[jA,jA];omega
  have wB:0≤n→IntKind.u64.wrap n=(n.natAbs:Int):=fun h=>by rw[jA];omega
  have fd:∀m:Nat,Int.fdiv (m:Int) 256=((m/256:Nat):Int):=fun m=>by rw[Int.fdiv_eq_ediv_of_nonneg _ (by decide)];omega
  have leF0:∀k,zX k 0=[]:=fun k=>by cases k<;>simp[zX]
  have hnn:gp n=Gs (decide (n<0)) (zX 8 n.natAbs):=rfl;refine⟨fun hneg=>?_,fun hneg=>?_⟩
  all_goals
    refine av (fun t:Nat×List Nat×Nat=>⟨[(3,.d (.bool (decide (n<0)))),(4,.d (.int .u64 (t.2.2:Int))),(5,.own 5000 0 t.2.1.length t.2.1.length)],[(5000,⟨5,1,rb t.2.1⟩)],6000⟩)
      (fun t=>t.2.2<256 ^ t.1∧t.1≤8∧t.2.1.length+t.1≤8∧t.2.1 ++ zX t.1 t.2.2=zX 8 n.natAbs) (fun t=>t.1) (8,[],n.natAbs) ⟨by rw [hpw];exact hM,aw,aw,rfl⟩ (by
        first
          | (have w:=wA hneg
             simp[az,ai,fv,lk,AV.low,AV.low1,w,rb])
          | (have w:=wB hneg
             simp[az,ai,fv,lk,AV.low,AV.low1,w,rb])) ?_
    rintro⟨k,b,m⟩⟨p1,p2,p4,p3⟩;simp only at p1 p2 p3 p4;simp only;simp[go_sem];refine⟨fun hm=>?_,fun hm=>?_⟩
    · match k,p1,p2,p3,p4 with
      |0,p1,_,_,_=>simp at p1;omega
      | k+1,p1,p2,p3,p4 =>
        refine⟨aG b,aq,?_⟩;rw[zX,if_neg aq]at p3;rw[Nat.pow_succ]at p1;have hd:m/256<256 ^ k:=Nat.div_lt_of_lt_mul aq;have w8:IntKind.u8.wrap (m:Int)=((m%256:Nat):Int):=by rw[Hm];omega
        refine ao (k,b++[m%256],m/256) ⟨hd,by show k≤8;omega,by simp;omega,by rw[←p3];simp⟩ (by show k<k+1;omega) ⟨?_,?_,aw⟩
        · simp[ai,fv,lk,AV.low,AV.low1,fd]
        · intro p hp
          simp only[d_,List.mem_nil_iff,or_false]at hp;subst hp;exact⟨.inl (by rw[w8];simp[lk,rb]),by show 5000<6000;omega,bq _ _⟩
    · subst hm
      rw[leF0,List.append_nil]at p3;subst p3;rw[hnn];have hbb:=ru 8 n.natAbs;generalize zX 8 n.natAbs=b at *;refine⟨fun hb=>?_,fun hb=>?_⟩
      · subst hb
        exact cQ (al (aM rfl rfl trivial)) trivial rfl
      · rcases eE b with h | ⟨a,x,rfl⟩
        · exact absurd h hb
        rw[ry]
        have wl:IntKind.i64.wrap (((a++[x]).length:Int)-1)=(a.length:Int):=by
          have hal:(a++[x]).length=a.length+1:=by simp
          rw[hal]at p4⊢;rw[IntWalk.i64_in _ aq];omega
        have hx:x<256:=hbb x aw;have hrow:(rb (a++[x]))[a.length]?=some [.d (.int .u8 (x:Int))]:=by simp[rb]
        have hrowg:∀h,(rb (a++[x]))[a.length]'h=[.d (.int .u8 (x:Int))]:=fun h=>by rw[cm h]at hrow;exact Option.some.inj hrow
        have hal:a.length≤7:=by simp at p4;omega
        have w1:IntKind.i64.wrap ((a.length:Int)+1)=((a.length+1:Nat):Int):=by rw[IntWalk.i64_in _ aq];omega
        have w2:IntKind.i64.wrap (a.length:Int)=(a.length:Int):=IntWalk.i64_in _ aq;have R1:(rb (a++[x])++[[AV.d (.int .u8 0)]])[a.length+1]?=some [.d (.int .u8 0)]:=by simp[rb]
        have R1g:∀h,(rb (a++[x])++[[AV.d (.int .u8 0)]])[a.length+1]'h=[.d (.int .u8 0)]:=fun h=>by rw[cm h]at R1;exact Option.some.inj R1
        have S1:(rb (a++[x])++[[AV.d (.int .u8 0)]]).set (a.length+1) [.d (.int .u8 128)]=rb (a++[x,128]):=by
          have:rb (a++[x])=rb a++[[.d (.int .u8 (x:Int))]]:=(gW a x).symm;rw[this,cA,List.set_append_right _ _ (by rw[aG];omega),aG,show a.length+1-a.length=1 by omega];simp[rb]
        have o0:bits .or .u8 0 128=128:=by decide
        have S2:∀y:Nat,(rb (a++[x])).set a.length [.d (.int .u8 (y:Int))]=rb (a++[y]):=fun y=>by
          have:rb (a++[x])=rb a++[[.d (.int .u8 (x:Int))]]:=(gW a x).symm;rw[this,List.set_append_right _ _ (by rw[aG];omega),aG,Nat.sub_self];simp[rb]
        have hA:=IZ x hx;rw[wl];by_cases h128:128≤x
        · rw [if_pos h128] at hA
          simp[go_sem,hrow,hrowg,aG,hA];by_cases hs:n<0
          · simp [go_sem,hs,aG,w1,R1,R1g,o0,S1]
            repeat' apply And.intro
            all_goals first
              |omega
              |exact fun h=>absurd hs aq
              |exact cQ (al (aM (L:=iw true a x) (by simp[iw,h128]) (by simp[lk,iw,h128,rb]) trivial)) trivial rfl
              |exact fun _=>cQ (al (aM (L:=iw true a x) (by simp[iw,h128]) (by simp[lk,iw,h128,rb]) trivial)) trivial rfl
          · simp [go_sem,hs]
            repeat' apply And.intro
            all_goals first
              |omega
              |exact fun h=>absurd hs aq
              |exact cQ (al (aM (L:=iw false a x) (by simp[iw,h128]) (by simp[lk,iw,h128,rb]) trivial)) trivial rfl
              |exact fun _=>cQ (al (aM (L:=iw false a x) (by simp[iw,h128]) (by simp[lk,iw,h128,rb]) trivial)) trivial rfl
        · rw [if_neg h128] at hA
          have hO:=VZ x aq;simp[go_sem,hrow,hrowg,aG,hA];by_cases hs:n<0
          · simp [go_sem,hs,aG,w2,hrowg,hO,S2,-Int.natCast_add]
            repeat' apply And.intro
            all_goals first
              |omega
              |exact fun h=>absurd hs aq
              |exact cQ (al (aM (L:=iw true a x) (by simp[iw,h128]) (by simp[lk,iw,h128,rb]) trivial)) trivial rfl
              |exact fun _=>cQ (al (aM (L:=iw true a x) (by simp[iw,h128]) (by simp[lk,iw,h128,rb]) trivial)) trivial rfl
          · simp [go_sem,hs]
            repeat' apply And.intro
            all_goals first
              |omega
              |exact fun h=>absurd hs aq
              |exact cQ (al (aM (L:=iw false a x) (by simp[iw,h128]) (by simp[lk,iw,h128,rb]) trivial)) trivial rfl
              |exact fun _=>cQ (al (aM (L:=iw false a x) (by simp[iw,h128]) (by simp[lk,iw,h128,rb]) trivial)) trivial rfl
end Go.Proofs.YtmfnimjnneflnaaGreat
namespace Go.Am
section
variable {P:Program}
def R9(P:Program)(n:Nat)(x:Code)(Q:Exit→St→Prop)(st:St):Prop:=∀(c:Ctx)(a:Act)(w:World),c.n=n→kU c st a w→x.wp P (fun e a' w'=>∃st',Q e st'∧kU c st' a' w') a w
theorem lK{n:Nat}{x:Code}{Q:Exit→St→Prop}{st:St}(h:mr P n x Q st):R9 P n x Q st:=fun c a w hn hs=>by
 subst hn;exact jz x Q st a w h hs
theorem I0{n:Nat}{x:Code}{Q:Exit→St→Prop}{st st':St}(hw:Wk st st')(h:R9 P n x Q st'):R9 P n x Q st:=fun c a w hn hs=>h c a w hn (hw c a w hs)
theorem xI{n:Nat}{x y:Code}{Q:Exit→St→Prop}{st:St}(h:R9 P n x (BE (R9 P n y Q) Q) st):R9 P n (.seq x y) Q st:=by
 intro c a w hn hs;refine wp_seq (wp_mono (h c a w hn hs) fun e a' w'⟨st',hq,hs'⟩=>?_)
 cases e with
 |normal=>exact hq c a' w' hn hs'
 |_=>exact⟨st',hq,hs'⟩
theorem Gt {g : FuncId} {fn : Func} {code : Code} {args : List AV} {Q : AV → Prop} (hf : P.funcs[g]? = some fn) (hn : (fn.name == "runtime.NumGoroutine") = false) (hb : fn.body = some code)
  {n:Nat} {rs:List ResultVar} (hnt:fn.ntmps=n) (hrs:fn.results.toList=rs) (hle:args.length≤n) (hd:∀v,v∈args→v.deep)
  (h:R9 P n code (H3 P rs (dc Q)) ⟨Hl 0 args,[],0⟩):au P g args Q:=by
 subst hnt;subst hrs;refine⟨⟨fn,hf,hn,by simp[hb]⟩,fun w S vs hS hl hv=>?_⟩;have hsz:((vs.toArray++Array.replicate (fn.ntmps-vs.toArray.size) undef):Array Value).size=fn.ntmps:=by simp;omega
 refine calls_of_wp hf hb ?_
 let c:Ctx:=⟨w,fun _=>False,S,fn.ntmps,fun _ h=>h.elim,fun _=>False,fun _=>none,[],0,aq⟩
 have hsim:kU c ⟨Hl 0 args,[],0⟩ { tmps:=vs.toArray++Array.replicate (fn.ntmps-vs.toArray.size) undef,defers:=[] } w:=by
  refine⟨rfl,hsz,fun _=>none,⟨(fun i j bi bj g h=>by cases h),(fun i b h=>by cases h),(fun i b h=>by cases h),(fun i b g h=>by cases h),rfl,rfl,rfl,cL _,fun _ _ _=>rfl⟩,fun n=>?_,⟨fun _ h=>h.elim,fun _ h=>h.elim,fun i h=>absurd h (Nat.not_lt_zero _),fun i b' h=>absurd h (Nat.not_lt_zero _)⟩⟩;simp only[fv,xj,Nat.zero_le,if_true,Nat.sub_zero]
  cases hn:args[n]? with
  |none=>exact .any _
  | some v =>
   have hlt:n<vs.length:=by have:=(ci.1 hn).1;omega
   have hx:vs[n]?=some vs[n]:=cm hlt
   have:(vs.toArray++Array.replicate (fn.ntmps-vs.toArray.size) undef).getD n undef=vs[n]:=by
    rw[ct,Array.getElem?_append,if_pos (by simpa using hlt)];simp[hx]
   rw[this];simp only[Option.getD_some];exact lH (hd v (cr hn)) (fun b hb=>⟨⟨hS b hb,(fun id blk g h=>by cases h)⟩,.inl hb⟩) (hv n v _ hn hx)
 have rZ:∀st a w',zx P fn.results.toList (dc Q) st→kU c st a w'→∃v,(results fn a.tmps).run P w'=.ok v w'∧∃x r,Ending.returned v=.returned x∧Q r∧r.deep∧RowKit.Below w.heap.size w w' ∧
   AIs w' (fun b=>S b∨(w.heap.size≤b∧b<w'.heap.size)) (fun _=>none) [] (fun _=>False) r x:=by
  intro st a w' hret hs;obtain⟨v,x,⟨r,hsn,hrd,hQ⟩,hrun,σ,hr,hx,_⟩:=xi hs hret;refine⟨x,hrun,x,r,rfl,hQ,hrd,⟨hr.os,hr.tape,hr.output,hr.size,fun b hb=>hr.old b hb (fun h=>h)⟩,?_⟩;refine nF (fun b hb=>?_) (fun id blk g _ hk hg=>?_) hr hsn hx
  ·rcases hb.2 with h|h
   ·exact .inl h
   ·exact .inr ⟨h,hb.1.1⟩
  ·rcases hr.mine id blk g hk hg with h|h
   ·exact h.elim
   ·exact .inr ⟨h,dN (hr.at hk hg)⟩
 refine wp_mono (h c _ w rfl hsim) fun e a w'⟨st,hq,hs⟩=>?_
 cases e with
 |normal=>exact⟨hs.1,rZ st a w' hq hs⟩
 |ret=>exact⟨hs.1,rZ st a w' hq hs⟩
 |_=>exact hq.elim
end
end Go.Am
namespace Go.Proofs.YtmfnimjnneflnaaGreat
open Go.Am Go.Sha
def V0(h:List Nat)(first many:Nat):List AV:=cb h++[.d (.int .i64 (first:Int)),.d (.int .i64 (many:Int))]
theorem V1:fa Tryz.prog 174=some (V0 z32 0 0):=by kernel_rfl
attribute [go_sem] V1
theorem qd(ρ:Nat→Nat):∀l:List AV,AV.renL ρ l=l.map (AV.ren ρ)
 |[]=>rfl
 |a::r=>by rw[AV.renL,List.map_cons,qd ρ r]
end Go.Proofs.YtmfnimjnneflnaaGreat
namespace Go.Am
def NN(n:Nat)(v v':AV):Prop:=v'=v∨(v=.nil∧∃id,id<n∧v'=.own id 0 0 0)∨(v=.nil∧∃e,v'=.d (.ro e []))
theorem Gu{st:St}{L:Nat}{b:Blk}{es':List (List AV)}(hb:lk L st.hp=some b)(hz:b.e≠0)(hl:es'.length=b.es.length)
  (hc:∀(i:Nat)(x x':List AV),b.es[i]?=some x→es'[i]?=some x'→x'.length=x.length∧∀(j:Nat)(v v':AV),x[j]?=some v→x'[j]?=some v'→NN st.nx v v'):Wk st ⟨st.fr,b8 L ⟨b.ty,b.e,es'⟩ st.hp,st.nx⟩:=by
 intro c a w hs;obtain⟨h1,h2,σ,hr,hf,hist⟩:=hs
 have hlk:∀i b',lk i (b8 L ⟨b.ty,b.e,es'⟩ st.hp)=some b'→∃b0,lk i st.hp=some b0∧b'.ty=b0.ty∧b'.e=b0.e∧b'.es.length=b0.es.length∧(i≠L→b'=b0)∧(i=L→b'=⟨b.ty,b.e,es'⟩∧b0=b):=by
  intro i b' h;rw[kB]at h;by_cases hi:i=L
  ·subst hi;rw[if_pos rfl,hb]at h;simp only[Option.map_some,Option.some.injEq]at h;subst h;exact⟨b,hb,rfl,rfl,hl,fun e=>absurd rfl e,fun _=>⟨rfl,rfl⟩⟩
  ·rw[if_neg hi]at h;exact⟨b',h,rfl,rfl,rfl,fun _=>rfl,fun e=>absurd e hi⟩
 have hS:∀b0,bL c w σ st.hp b0→bL c w σ (b8 L ⟨b.ty,b.e,es'⟩ st.hp) b0:=fun b0 hb0=>⟨⟨hb0.1.1,fun id blk g h hg=>by
  obtain⟨b1,h3,_⟩:=hlk id blk h
  exact hb0.1.2 id b1 g h3 hg⟩,hb0.2⟩
 have step:Step w (bL c w σ st.hp) σ st.hp (fun i=>i<st.nx) w (bL c w σ (b8 L ⟨b.ty,b.e,es'⟩ st.hp)) σ (b8 L ⟨b.ty,b.e,es'⟩ st.hp) (fun i=>i<st.nx) :=
  ⟨hS,fun _ _=>rfl,fun _ h=>h,fun id b' _ h=>by
   obtain⟨b1,h3,h4,h5,h6,_⟩:=hlk id b' h
   exact⟨b1,h3,h5,h4,aq,fun _ g hg=>⟨hg,fun _ h=>h⟩⟩⟩
 refine⟨h1,h2,σ,⟨fun i j bi bj g hi hj hgi hgj=>?_,fun i b' h=>?_,fun i b' h=>?_,fun i b' g h hg=>?_,hr.os,hr.tape,hr.output,hr.size,hr.old⟩,fun n=>(hf n).step step,hist.trans step⟩
 ·obtain⟨b1,h3,_⟩:=hlk i bi hi;obtain⟨b2,h4,_⟩:=hlk j bj hj;exact hr.inj i j b1 b2 g h3 h4 hgi hgj
 ·obtain⟨b1,h3,_⟩:=hlk i b' h;exact hr.lt i b1 h3
 ·obtain⟨b1,h3,h4,h5,h6,h7,h8⟩:=hlk i b' h;rcases hr.blk i b1 h3 with ⟨k1,k2⟩|⟨g,k1,ccs,k2,k3,k4,k5,k6⟩
  ·refine .inl ⟨k1,?_⟩;by_cases hi:i=L
   ·obtain⟨rfl,rfl⟩:=h8 hi;have:=k2.none hz;exact .inl (List.length_eq_zero_iff.1 (by rw[h6,this];rfl))
   ·rw[h7 hi];exact k2
  ·refine .inr ⟨g,k1,ccs,by rw[h4];exact k2,k3,?_,by rw[h6,h5];exact k5,?_⟩
   ·by_cases hi:i=L
    ·obtain⟨rfl,rfl⟩:=h8 hi;intro x hx;obtain⟨n,hn,rfl⟩:=List.mem_iff_getElem.1 hx;have hn':n<b1.es.length:=by simp only at hn;omega
     obtain⟨q1,_⟩:=hc n b1.es[n] _ (cm hn') (cm hn);rw[q1];exact k4 _ (List.getElem_mem _)
    ·rw[h7 hi];exact k4
   ·intro i' j x y v a1 a2 a3;rw[h5]at a3;by_cases hi:i=L
    ·obtain⟨rfl,rfl⟩:=h8 hi;have hn':i'<b1.es.length:=by have:=(ci.1 a1).1;simp only at this;omega
     obtain⟨q1,q2⟩:=hc i' b1.es[i'] x (cm hn') a1;have hj:j<b1.es[i'].length:=by have:=(ci.1 a2).1;omega
     have hv:=k6 i' j b1.es[i'] b1.es[i'][j] v (cm hn') (cm hj) a3;rcases q2 j _ y (cm hj) a2 with rfl|⟨e1,id,hid,rfl⟩|⟨e1,e,rfl⟩
     ·exact hv.step step
     ·rw[e1]at hv
      cases hv with
      |nil=>exact .own id 0 0 0 none 0 hid (cL _) (fun _=>rfl) fun b2 hb2=>⟨Nat.zero_le _,fun _=>⟨cL _,cL _,fun h=>aq⟩⟩
     ·rw[e1]at hv
      cases hv with
      |nil=>exact .d (.ro e [] none 0 (fun _ _=>undef) (cL _) aw aw aw aw)
    ·rw[h7 hi]at a1;exact(k6 i' j x y v a1 a2 a3).step step
 ·obtain⟨b1,h3,_⟩:=hlk i b' h;exact hr.mine i b1 g h3 hg
end Go.Am
namespace Go.Proofs.YtmfnimjnneflnaaGreat
open Go.Am Go.Sha
abbrev Row:=List (List Nat×Nat)
end Go.Proofs.YtmfnimjnneflnaaGreat
