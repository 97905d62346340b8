/-
 Part 6 of what the claim rests on.
-/
import Derived.Test.YtmfnimjnneflnaaGreatY3
import Derived.Test.YtmfnimjnneflnaaGreatY4
import Derived.Lib.BytesEntry
set_option linter.unusedVariables false
set_option linter.unusedSimpArgs false
set_option maxRecDepth 100000
set_option maxHeartbeats 16000000
namespace Go.Sha
def le(x:Nat):Nat→List Nat
 |0=>[]
 |k+1=>le x k++[t8 (c8 (8*k) x)]
theorem aE(x:Nat):∀k,(le x k).length=k
 |0=>rfl
 |k+1=>by simp[le,aE x k]
end Go.Sha
namespace Go.Proofs.YtmfnimjnneflnaaGreat
open Go.Am Go.Sha
theorem np(k x:Nat):c8 8 (c8 (8*k) x)=c8 (8*(k+1)) x:=by
 unfold c8;rw[Nat.div_div_eq_div_mul,←Nat.pow_add];congr 1
theorem tY(a:Nat):Int.fdiv (a:Int) 256=((c8 8 a:Nat):Int):=dy a 256
theorem j8(b:List Nat):List.take b.length (rb b)++List.drop b.length (rb (List.replicate b.length 0))=rb b:=by
 rw[cx (by rw[aN];exact cL _),c_ (by rw[aN];simp),List.append_nil]
theorem eU{Q:AV→Prop}{st:St}{id:Nat}{L:List Nat}(hb:lk id st.hp=some ⟨5,1,rb L⟩)(hq:Q (.d (nb L))):eH Q (.own id 0 L.length L.length) st:=by
 have h:=qe (I:=fun _=>True) (i0:=0) (n:=L.length) hb trivial aq;rw[List.drop_zero,List.take_length]at h;exact mY (az h) a9 hq
theorem vJ(b:List Nat)(x n:Nat)(hb:b.length≤1000000)(hx:x<256)(hn:n≤8):au Tryz.prog 151 [.d (nb b),.d (.int .u8 (x:Int)),.d (.int .i64 (n:Int))] (fun r=>r=.d (nb (b++le x n))):=by
 refine bu Tryz.func151 Tryz.ntmps151 (rs:=[.tmp 6]) a9 ?_;have w1:IntKind.i64.wrap ((b.length:Int)+(n:Int))=((b.length+n:Nat):Int):=by rw[IntWalk.i64_in _ aq];omega
 have w2:IntKind.u64.wrap (x:Int)=(x:Int):=by rw[fE];omega
 have hr:List.replicate b.length [AV.d (.int .u8 0)]=rb (List.replicate b.length 0):=by simp[rb]
 simp only[go_sem,Nat.reduceEqDiff,Nat.reduceAdd,Nat.reduceLT,↓reduceIte,Nat.reduceMul,w1,w2,nb,List.length_map,Int.toNat_natCast,hr];simp[go_sem,dk,aN];rw[j8];refine⟨aq,aq,aq,aq,?_⟩
 refine am (fun k:Nat=>⟨[(7,.own 224 0 (b++le x k).length (b++le x k).length),(8,.d (.int .u64 ((c8 (8*k) x:Nat):Int))),(21,.d (.int .i64 (n:Int))),(22,.d (.int .i64 (k:Int)))],[(224,⟨5,1,rb (b++le x k)⟩)],544⟩)
  (fun k=>k≤n) (fun k=>n-k) 0 aq (by
   simp[ak,ah,fv,lk,AV.low,AV.low1,le,c8]
   exact aK _ _) ?_
 intro k hk;have hl:(b++le x k).length=b.length+k:=by rw[b_,aE]
 have hs:rb (b++le x k)++[[AV.d (.int .u8 ((t8 (c8 (8*k) x):Nat):Int))]]=rb (b++le x (k+1)):=by rw[fh,cA];rfl
 have w5:=al (k:=k) aq;simp only[go_sem,Nat.reduceEqDiff,Nat.reduceAdd,Nat.reduceLT,↓reduceIte];refine⟨fun h=>?_,fun h=>?_⟩
 ·simp[go_sem,eP,aN,hs,aE,IntKind.bits,tY,np,w5];refine⟨aq,?_⟩;refine aj (k+1) aq aq ?_;simp[ak,ah,fv,lk,AV.low,AV.low1,aE];exact⟨aq,aK _ _⟩
 ·have hkn:k=n:=aq;subst hkn;simp[go_sem,ar];have hl2:b.length+(le x k).length=(b++le x k).length:=by rw[b_]
  rw[hl2];exact eU rfl (by simp[nb])
theorem JZ(b:List Nat)(x n:Nat)(hb:b.length≤1000000)(hx:x<65536)(hn:n≤8):au Tryz.prog 152 [.d (nb b),.d (.int .u16 (x:Int)),.d (.int .i64 (n:Int))] (fun r=>r=.d (nb (b++le x n))):=by
 refine bu Tryz.func152 Tryz.ntmps152 (rs:=[.tmp 6]) a9 ?_;have w1:IntKind.i64.wrap ((b.length:Int)+(n:Int))=((b.length+n:Nat):Int):=by rw[IntWalk.i64_in _ aq];omega
 have w2:IntKind.u64.wrap (x:Int)=(x:Int):=by rw[fE];omega
 have hr:List.replicate b.length [AV.d (.int .u8 0)]=rb (List.replicate b.length 0):=by simp[rb]
 simp only[go_sem,Nat.reduceEqDiff,Nat.reduceAdd,Nat.reduceLT,↓reduceIte,Nat.reduceMul,w1,w2,nb,List.length_map,Int.toNat_natCast,hr];simp[go_sem,dk,aN];rw[j8];refine⟨aq,aq,aq,aq,?_⟩
 refine am (fun k:Nat=>⟨[(7,.own 224 0 (b++le x k).length (b++le x k).length),(8,.d (.int .u64 ((c8 (8*k) x:Nat):Int))),(21,.d (.int .i64 (n:Int))),(22,.d (.int .i64 (k:Int)))],[(224,⟨5,1,rb (b++le x k)⟩)],544⟩)
  (fun k=>k≤n) (fun k=>n-k) 0 aq (by
   simp[ak,ah,fv,lk,AV.low,AV.low1,le,c8]
   exact aK _ _) ?_
 intro k hk;have hl:(b++le x k).length=b.length+k:=by rw[b_,aE]
 have hs:rb (b++le x k)++[[AV.d (.int .u8 ((t8 (c8 (8*k) x):Nat):Int))]]=rb (b++le x (k+1)):=by rw[fh,cA];rfl
 have w5:=al (k:=k) aq;simp only[go_sem,Nat.reduceEqDiff,Nat.reduceAdd,Nat.reduceLT,↓reduceIte];refine⟨fun h=>?_,fun h=>?_⟩
 ·simp[go_sem,eP,aN,hs,aE,IntKind.bits,tY,np,w5];refine⟨aq,?_⟩;refine aj (k+1) aq aq ?_;simp[ak,ah,fv,lk,AV.low,AV.low1,aE];exact⟨aq,aK _ _⟩
 ·have hkn:k=n:=aq;subst hkn;simp[go_sem,ar];have hl2:b.length+(le x k).length=(b++le x k).length:=by rw[b_]
  rw[hl2];exact eU rfl (by simp[nb])
theorem J0(b:List Nat)(x n:Nat)(hb:b.length≤1000000)(hx:x<4294967296)(hn:n≤8):au Tryz.prog 106 [.d (nb b),.d (.int .u32 (x:Int)),.d (.int .i64 (n:Int))] (fun r=>r=.d (nb (b++le x n))):=by
 refine bu Tryz.func106 Tryz.ntmps106 (rs:=[.tmp 6]) a9 ?_;have w1:IntKind.i64.wrap ((b.length:Int)+(n:Int))=((b.length+n:Nat):Int):=by rw[IntWalk.i64_in _ aq];omega
 have w2:IntKind.u64.wrap (x:Int)=(x:Int):=by rw[fE];omega
 have hr:List.replicate b.length [AV.d (.int .u8 0)]=rb (List.replicate b.length 0):=by simp[rb]
 simp only[go_sem,Nat.reduceEqDiff,Nat.reduceAdd,Nat.reduceLT,↓reduceIte,Nat.reduceMul,w1,w2,nb,List.length_map,Int.toNat_natCast,hr];simp[go_sem,dk,aN];rw[j8];refine⟨aq,aq,aq,aq,?_⟩
 refine am (fun k:Nat=>⟨[(7,.own 224 0 (b++le x k).length (b++le x k).length),(8,.d (.int .u64 ((c8 (8*k) x:Nat):Int))),(21,.d (.int .i64 (n:Int))),(22,.d (.int .i64 (k:Int)))],[(224,⟨5,1,rb (b++le x k)⟩)],544⟩)
  (fun k=>k≤n) (fun k=>n-k) 0 aq (by
   simp[ak,ah,fv,lk,AV.low,AV.low1,le,c8]
   exact aK _ _) ?_
 intro k hk;have hl:(b++le x k).length=b.length+k:=by rw[b_,aE]
 have hs:rb (b++le x k)++[[AV.d (.int .u8 ((t8 (c8 (8*k) x):Nat):Int))]]=rb (b++le x (k+1)):=by rw[fh,cA];rfl
 have w5:=al (k:=k) aq;simp only[go_sem,Nat.reduceEqDiff,Nat.reduceAdd,Nat.reduceLT,↓reduceIte];refine⟨fun h=>?_,fun h=>?_⟩
 ·simp[go_sem,eP,aN,hs,aE,IntKind.bits,tY,np,w5];refine⟨aq,?_⟩;refine aj (k+1) aq aq ?_;simp[ak,ah,fv,lk,AV.low,AV.low1,aE];exact⟨aq,aK _ _⟩
 ·have hkn:k=n:=aq;subst hkn;simp[go_sem,ar];have hl2:b.length+(le x k).length=(b++le x k).length:=by rw[b_]
  rw[hl2];exact eU rfl (by simp[nb])
end Go.Proofs.YtmfnimjnneflnaaGreat
namespace Go.Sha
def An(a:Nat):Nat:=a%65536
def ao(n:Nat):List Nat:=if n<253 then le (t8 n) 1 else if n<65536 then le 253 1++le (An n) 2 else le 254 1++le (o5 n) 4
theorem bz(n:Nat):(ao n).length≤5:=by
 unfold ao
 split
 ·simp[aE]
 ·split<;>simp[aE]
end Go.Sha
namespace Go.Proofs.YtmfnimjnneflnaaGreat
open Go.Am Go.Sha
theorem Ao(b:List Nat)(x n:Nat)(hb:b.length≤1000000)(hx:x<256)(hn:n≤8):cp Tryz.prog 151 0 [] [.d (nb b),.d (.int .u8 (x:Int)),.d (.int .i64 (n:Int))] (fun r hp'=>r=.own 225 0 (b++le x n).length (b++le x n).length∧lk 225 hp'=some ⟨5,1,rb (b++le x n)⟩):=by
 refine bw Tryz.func151 (by kernel_rfl) rfl Tryz.ntmps151 (rs:=[.tmp 6]) rfl (qb rfl) (by decide) ?_;have w1:IntKind.i64.wrap ((b.length:Int)+(n:Int))=((b.length+n:Nat):Int):=by rw[IntWalk.i64_in _ aq];omega
 have w2:IntKind.u64.wrap (x:Int)=(x:Int):=by rw[fE];omega
 have hr:List.replicate b.length [AV.d (.int .u8 0)]=rb (List.replicate b.length 0):=by simp[rb]
 simp only[go_sem,Nat.reduceEqDiff,Nat.reduceAdd,Nat.reduceLT,↓reduceIte,Nat.reduceMul,w1,w2,nb,List.length_map,Int.toNat_natCast,hr];simp[go_sem,dk,aN];rw[j8];refine⟨aq,aq,aq,aq,?_⟩
 refine am (fun k:Nat=>⟨[(7,.own 225 0 (b++le x k).length (b++le x k).length),(8,.d (.int .u64 ((c8 (8*k) x:Nat):Int))),(21,.d (.int .i64 (n:Int))),(22,.d (.int .i64 (k:Int)))],[(225,⟨5,1,rb (b++le x k)⟩)],545⟩)
  (fun k=>k≤n) (fun k=>n-k) 0 aq (by
   simp[ak,ah,fv,lk,AV.low,AV.low1,le,c8]
   exact aK _ _) ?_
 intro k hk;have hl:(b++le x k).length=b.length+k:=by rw[b_,aE]
 have hs:rb (b++le x k)++[[AV.d (.int .u8 ((t8 (c8 (8*k) x):Nat):Int))]]=rb (b++le x (k+1)):=by rw[fh,cA];rfl
 have w5:=al (k:=k) aq;simp only[go_sem,Nat.reduceEqDiff,Nat.reduceAdd,Nat.reduceLT,↓reduceIte];refine⟨fun h=>?_,fun h=>?_⟩
 ·simp[go_sem,eP,aN,hs,aE,IntKind.bits,tY,np,w5];refine⟨aq,?_⟩;refine aj (k+1) aq aq ?_;simp[ak,ah,fv,lk,AV.low,AV.low1,aE];exact⟨aq,aK _ _⟩
 ·have hkn:k=n:=aq;subst hkn;simp[go_sem,ar]
theorem xK(b:List Nat)(x n:Nat)(hb:b.length≤1000000)(hx:x<65536)(hn:n≤8):cp Tryz.prog 152 0 [] [.d (nb b),.d (.int .u16 (x:Int)),.d (.int .i64 (n:Int))] (fun r hp'=>r=.own 225 0 (b++le x n).length (b++le x n).length∧lk 225 hp'=some ⟨5,1,rb (b++le x n)⟩):=by
 refine bw Tryz.func152 (by kernel_rfl) rfl Tryz.ntmps152 (rs:=[.tmp 6]) rfl (qb rfl) (by decide) ?_;have w1:IntKind.i64.wrap ((b.length:Int)+(n:Int))=((b.length+n:Nat):Int):=by rw[IntWalk.i64_in _ aq];omega
 have w2:IntKind.u64.wrap (x:Int)=(x:Int):=by rw[fE];omega
 have hr:List.replicate b.length [AV.d (.int .u8 0)]=rb (List.replicate b.length 0):=by simp[rb]
 simp only[go_sem,Nat.reduceEqDiff,Nat.reduceAdd,Nat.reduceLT,↓reduceIte,Nat.reduceMul,w1,w2,nb,List.length_map,Int.toNat_natCast,hr];simp[go_sem,dk,aN];rw[j8];refine⟨aq,aq,aq,aq,?_⟩
 refine am (fun k:Nat=>⟨[(7,.own 225 0 (b++le x k).length (b++le x k).length),(8,.d (.int .u64 ((c8 (8*k) x:Nat):Int))),(21,.d (.int .i64 (n:Int))),(22,.d (.int .i64 (k:Int)))],[(225,⟨5,1,rb (b++le x k)⟩)],545⟩)
  (fun k=>k≤n) (fun k=>n-k) 0 aq (by
   simp[ak,ah,fv,lk,AV.low,AV.low1,le,c8]
   exact aK _ _) ?_
 intro k hk;have hl:(b++le x k).length=b.length+k:=by rw[b_,aE]
 have hs:rb (b++le x k)++[[AV.d (.int .u8 ((t8 (c8 (8*k) x):Nat):Int))]]=rb (b++le x (k+1)):=by rw[fh,cA];rfl
 have w5:=al (k:=k) aq;simp only[go_sem,Nat.reduceEqDiff,Nat.reduceAdd,Nat.reduceLT,↓reduceIte];refine⟨fun h=>?_,fun h=>?_⟩
 ·simp[go_sem,eP,aN,hs,aE,IntKind.bits,tY,np,w5];refine⟨aq,?_⟩;refine aj (k+1) aq aq ?_;simp[ak,ah,fv,lk,AV.low,AV.low1,aE];exact⟨aq,aK _ _⟩
 ·have hkn:k=n:=aq;subst hkn;simp[go_sem,ar]
theorem po(b:List Nat)(x n:Nat)(hb:b.length≤1000000)(hx:x<4294967296)(hn:n≤8):cp Tryz.prog 106 0 [] [.d (nb b),.d (.int .u32 (x:Int)),.d (.int .i64 (n:Int))] (fun r hp'=>r=.own 225 0 (b++le x n).length (b++le x n).length∧lk 225 hp'=some ⟨5,1,rb (b++le x n)⟩):=by
 refine bw Tryz.func106 (by kernel_rfl) rfl Tryz.ntmps106 (rs:=[.tmp 6]) rfl (qb rfl) (by decide) ?_;have w1:IntKind.i64.wrap ((b.length:Int)+(n:Int))=((b.length+n:Nat):Int):=by rw[IntWalk.i64_in _ aq];omega
 have w2:IntKind.u64.wrap (x:Int)=(x:Int):=by rw[fE];omega
 have hr:List.replicate b.length [AV.d (.int .u8 0)]=rb (List.replicate b.length 0):=by simp[rb]
 simp only[go_sem,Nat.reduceEqDiff,Nat.reduceAdd,Nat.reduceLT,↓reduceIte,Nat.reduceMul,w1,w2,nb,List.length_map,Int.toNat_natCast,hr];simp[go_sem,dk,aN];rw[j8];refine⟨aq,aq,aq,aq,?_⟩
 refine am (fun k:Nat=>⟨[(7,.own 225 0 (b++le x k).length (b++le x k).length),(8,.d (.int .u64 ((c8 (8*k) x:Nat):Int))),(21,.d (.int .i64 (n:Int))),(22,.d (.int .i64 (k:Int)))],[(225,⟨5,1,rb (b++le x k)⟩)],545⟩)
  (fun k=>k≤n) (fun k=>n-k) 0 aq (by
   simp[ak,ah,fv,lk,AV.low,AV.low1,le,c8]
   exact aK _ _) ?_
 intro k hk;have hl:(b++le x k).length=b.length+k:=by rw[b_,aE]
 have hs:rb (b++le x k)++[[AV.d (.int .u8 ((t8 (c8 (8*k) x):Nat):Int))]]=rb (b++le x (k+1)):=by rw[fh,cA];rfl
 have w5:=al (k:=k) aq;simp only[go_sem,Nat.reduceEqDiff,Nat.reduceAdd,Nat.reduceLT,↓reduceIte];refine⟨fun h=>?_,fun h=>?_⟩
 ·simp[go_sem,eP,aN,hs,aE,IntKind.bits,tY,np,w5];refine⟨aq,?_⟩;refine aj (k+1) aq aq ?_;simp[ak,ah,fv,lk,AV.low,AV.low1,aE];exact⟨aq,aK _ _⟩
 ·have hkn:k=n:=aq;subst hkn;simp[go_sem,ar]
theorem DT(a:Nat):IntKind.u16.wrap (a:Int)=((An a:Nat):Int):=by
 have:IntKind.u16.wrap (a:Int)=(a:Int)%65536:=by simp[IntKind.wrap,IntKind.bits,IntKind.signed]
 rw[this];unfold An;omega
theorem jj(b:List Nat)(n:Nat)(hb:b.length≤100000)(hn:n<4294967296):cp Tryz.prog 109 0 [] [.d (nb b),.d (.int .u64 (n:Int))] (fun r hp'=>∃I,r=.own I 0 (b++ao n).length (b++ao n).length∧lk I hp'=some ⟨5,1,rb (b++ao n)⟩):=by
 refine bw Tryz.func109 (by kernel_rfl) rfl Tryz.ntmps109 (rs:=[.tmp 4]) rfl (qb rfl) (by decide) ?_;by_cases h1:n<253
 ·have e:ao n=le (t8 n) 1:=by unfold ao;rw[if_pos h1]
  rw[e];have i1:(n:Int)<253:=aq;simp[go_sem,i1,eP];refine aR [] (Ao b (t8 n) 1 aq (by unfold t8;omega) aq) rfl aw aw aw (by simp[AV.renL,AV.ren]) ?_;rintro r hp'⟨rfl,h0⟩;refine⟨[(225,0)],rfl,?_⟩;simp[go_sem,bG,bE,h0,Blk.ren,aT,bV,AV.renL,AV.ren,bF,ar]
 ·have i1:¬(n:Int)<253:=aq;by_cases h2:n<65536
  ·have e:ao n=le 253 1++le (An n) 2:=by unfold ao;rw[if_neg h1,if_pos h2]
   have i2:(n:Int)<65536:=aq;rw[e,←cA];simp[go_sem,i1,i2,-List.append_assoc];refine ae (vJ b 253 1 aq aq aq) a9 ?_;simp[go_sem,DT,-List.append_assoc];refine aR [] (xK (b++le 253 1) (An n) 2 (by rw[b_,aE];omega) (by unfold An;omega) aq) rfl aw aw aw (by simp[AV.renL,AV.ren]) ?_;rintro r hp'⟨rfl,h0⟩;refine⟨[(225,0)],rfl,?_⟩;simp[go_sem,bG,bE,h0,Blk.ren,aT,bV,AV.renL,AV.ren,bF,ar];omega
  ·have e:ao n=le 254 1++le (o5 n) 4:=by unfold ao;rw[if_neg h1,if_neg h2]
   have i2:¬(n:Int)<65536:=aq;have i3:(n:Int)<4294967296:=aq;rw[e,←cA];simp[go_sem,i1,i2,i3,-List.append_assoc];refine ae (vJ b 254 1 aq aq aq) a9 ?_;simp[go_sem,rQ,-List.append_assoc];refine aR [] (po (b++le 254 1) (o5 n) 4 (by rw[b_,aE];omega) (by unfold o5;omega) aq) rfl aw aw aw (by simp[AV.renL,AV.ren]) ?_;rintro r hp'⟨rfl,h0⟩;refine⟨[(225,0)],rfl,?_⟩;simp[go_sem,bG,bE,h0,Blk.ren,aT,bV,AV.renL,AV.ren,bF,ar];omega
theorem fG(b x:List Nat)(hb:b.length≤100000)(hx:x.length<1000000):au Tryz.prog 63 [.d (nb b),.d (nb x)] (fun r=>r=.d (nb (b++(ao x.length++x)))):=by
 refine bu Tryz.func63 Tryz.ntmps63 (rs:=[.tmp 4]) a9 ?_;have w:IntKind.u64.wrap (x.length:Int)=(x.length:Int):=by rw[fE];omega
 have hp5:=bz x.length;simp only[go_sem,Nat.reduceEqDiff,Nat.reduceAdd,Nat.reduceLT,↓reduceIte,nb,List.length_map,w];refine aR [] (jj b x.length aq aq) rfl aw aw aw (by simp[AV.renL,AV.ren,nb]) ?_;rintro r hp'⟨I,rfl,h0⟩;refine⟨[(I,0)],by simp[fB,gw],?_⟩;simp[go_sem,bG,bE,h0,Blk.ren,aT,bV,AV.renL,AV.ren,bF,dk,aN,ar];refine⟨aq,?_⟩;rw[lG,show b.length+(ao x.length).length+x.length=(b++ao x.length++x).length by simp;omega];exact eU rfl (by simp[nb])
def cd(l:List Nat):List DV:=l.map fun(x:Nat)=>DV.int .u8 (x:Int)
theorem da(l:List Nat):(cd l).length=l.length:=by simp[cd]
theorem tZ(l:List Nat):(cd l).map AV.d=cb l:=by simp[cd,cb]
def Nu(ps:List (List Nat)):DV:=.ro 32 (ps.map cd)
def Ap(inner:List Nat)(path script:AV):List AV:=cb inner++[path,script]
def DU:List Nat:=[84,97,112,76,101,97,102]
def J1(x:List Nat):List Nat:=hJ DU (192::(ao x.length++x))
theorem J2:ek Tryz.prog 33=some (Ap z32 .nil .nil):=by kernel_rfl
attribute [go_sem] J2
theorem iK{l:List Nat}(h:l.length=32):List.drop 32 (cb l)=[]:=c_ (by rw[ap];omega)
theorem Aq(k:List Nat)(hk:k.length=32):au Tryz.prog 76 [.d (nb (81::32::k))] (fun r=>r=.tup [.agg (cb k),.d (.bool true)]):=by
 refine bu Tryz.func76 Tryz.ntmps76 (rs:=[.cell 2 29,.tmp 3]) a9 ?_;have e1:List.take 32 (List.map (fun(b:Nat)=>[DV.int .u8 (b:Int)]) k)=List.map (fun(b:Nat)=>[DV.int .u8 (b:Int)]) k:=cx (by simp[hk])
 have e2:(List.map (fun(b:Nat)=>[DV.int .u8 (b:Int)]) k).flatten=cd k:=by
  clear hk e1
  induction k with
  |nil=>rfl
  |cons x r ih=>simp only[List.map_cons,List.flatten_cons,ih];rfl
 simp[go_sem,nb,hk,e1,e2,-List.map_flatten,-List.length_flatten,tZ,da,ap,aA hk,aV,ar];exact ag (by simp[AV.deep,AV.deep1];exact cj _) rfl
end Go.Proofs.YtmfnimjnneflnaaGreat
namespace Go.Sha
def pp{α:Type}:Nat→(Nat→α)→α
 |0,k=>k 0
 |n+1,k=>k (n+1)
theorem jk{α:Type}(n:Nat)(k:Nat→α):pp n k=k n:=by cases n<;>rfl
def LN:S8:=⟨2631984358,2081516601,951306994,3272560777,3555955564,1197698656,2108899050,3720802505⟩
end Go.Sha
namespace Go.Proofs.YtmfnimjnneflnaaGreat
open Go.Am Go.Sha
theorem t6{a b:List Nat}:(a.map fun(x:Nat)=>(x:Int))=b.map (fun(x:Nat)=>(x:Int))↔a=b:=by
 constructor
 ·intro h;have:=congrArg (List.map Int.toNat) h
  simpa[List.map_map,Function.comp_def]using this
 ·rintro rfl;rfl
def bytes(l:List Nat):Prop:=∀x,x∈l→x<256
theorem eD(l:List Nat):(AV.agg (cb l)).deep:=cj l
theorem r5{n:Nat}:∀(m:Nat){ds:List DV},rO (fD Tryz.prog (n+1)) Tryz.prog.cellsOf (List.replicate m 5) ds→∃l:List Nat,ds=cd l∧l.length=m∧bytes l
 |0,ds,h=>⟨[],by simpa[rO,cd]using h,rfl,fun _ h=>by simp at h⟩
 | m+1,ds,h=>by
  rw[List.replicate_succ]at h;obtain⟨a,b,rfl,_,h2,h3⟩:=h;simp only[fD,Tryz.underlying5]at h2;obtain⟨x,rfl,hx⟩:=h2;obtain⟨l,rfl,hl,hb⟩:=r5 m h3;have hx':0≤x∧x<256:=by simp[IntKind.has,IntKind.min,IntKind.max,IntKind.signed,IntKind.bits]at hx;omega
  refine⟨x.toNat::l,?_,by simp[hl],fun y hy=>?_⟩
  ·simp only[cd,List.map_cons,List.cons_append,List.nil_append];rw[show((x.toNat:Nat):Int)=x by omega]
  ·rcases d_.1 hy with rfl|hy
   ·omega
   ·exact hb y hy
theorem Hh{n:Nat}{ds:List DV}(h:fD Tryz.prog (n+2) 29 ds):∃l:List Nat,ds=cd l∧l.length=32∧bytes l:=by
 rw[fD]at h;simp only[Tryz.underlying29]at h;exact r5 32 h
theorem r6{n:Nat}{d:DV}(h:fD Tryz.prog (n+2) 31 [d]):∃bs:List Nat,d=nb bs∧bs.length≤maxLen∧bytes bs:=by
 simp only[fD,Tryz.underlying31,List.cons.injEq,and_true]at h;obtain⟨es,rfl,hl,hr⟩:=h
 obtain⟨bs,rfl,hbs⟩:=nf (enc:=fun b:Nat=>[DV.int .u8 (b:Int)]) (R:=fun b=>b<256) (es:=es) (fun r hr'=>by
  obtain⟨h1,h2⟩:=hr r hr';simp only[Tryz.underlying5]at h1;obtain⟨x,rfl,hx⟩:=h1;have hx':0≤x∧x<256:=by simp[IntKind.has,IntKind.min,IntKind.max,IntKind.signed,IntKind.bits]at hx;omega
  exact⟨x.toNat,by rw[show((x.toNat:Nat):Int)=x by omega],aq⟩)
 exact⟨bs,by rw[show Tryz.prog.cellsOf 5=1 by kernel_rfl];rfl,by simpa using hl,hbs⟩
end Go.Proofs.YtmfnimjnneflnaaGreat
namespace Go.Sha
open Go.Am
end Go.Sha
namespace Go.Proofs.YtmfnimjnneflnaaGreat
open Go.Am Go.Sha
theorem four{b:List Nat}{k:Nat}(h:k+4≤b.length):∃x0 x1 x2 x3,b[k]?=some x0∧b[k+1]?=some x1∧b[k+2]?=some x2∧b[k+3]?=some x3∧(b.take (k+4)).drop k=[x0,x1,x2,x3]:=by
 refine⟨b[k],b[k+1],b[k+2],b[k+3],cm _,cm _,cm _,cm _,?_⟩;rw[List.drop_take,show k+4-k=4 by omega,List.drop_eq_getElem_cons (by omega:k<b.length),List.drop_eq_getElem_cons (by omega:k+1<b.length),List.drop_eq_getElem_cons (by omega:k+1+1<b.length),List.drop_eq_getElem_cons (by omega:k+1+1+1<b.length)];rfl
end Go.Proofs.YtmfnimjnneflnaaGreat
namespace Go.Sha
theorem Ar(x:Nat):t8 x<256:=Nat.mod_lt _ (by decide)
theorem pq(l:List Nat):∀n x,x∈gx l n→x<256
 |0,x,h=>by simp[gx]at h
 |n+1,x,h=>by
  rcases cD.1 h with h|h
  ·exact pq l n x h
  ·simp[qd]at h;rcases h with rfl|rfl|rfl|rfl<;>exact Ar _
theorem t7(b:List Nat):∀x,x∈bO b→x<256:=fun x h=>pq _ 8 x h
end Go.Sha
namespace Go.Proofs.YtmfnimjnneflnaaGreat
open Go.Am Go.Sha
theorem bo{hp:Hp}{I:Nat→Prop}{id n:Nat}{L:List Nat}(hl:L.length=n)(hb:lk id hp=some ⟨5,1,rb L⟩)(hI:I id):SnapD hp I (.own id 0 n n) (nb L):=by
 subst hl;have h:=qe (i0:=0) (n:=L.length) (L:=L) hb hI aq;rw[List.drop_zero,cx (cL _)]at h;exact h
end Go.Proofs.YtmfnimjnneflnaaGreat
namespace Go.Sha
theorem J3(a:Nat):t8 (t8 a)=t8 a:=by unfold t8;omega
theorem J4(n:Nat):le (t8 n) 1=le n 1:=by simp[le,c8,J3]
theorem Hi(n:Nat):le (An n) 2=le n 2:=by
 have e0:t8 (c8 (8*0) (An n))=t8 (c8 (8*0) n):=by simp only[t8,c8,An];omega
 have e1:t8 (c8 (8*1) (An n))=t8 (c8 (8*1) n):=by simp only[t8,c8,An];omega
 simp only[le,e0,e1]
theorem Hj(n:Nat):le (o5 n) 4=le n 4:=by
 have e0:t8 (c8 (8*0) (o5 n))=t8 (c8 (8*0) n):=by simp only[t8,c8,o5];omega
 have e1:t8 (c8 (8*1) (o5 n))=t8 (c8 (8*1) n):=by simp only[t8,c8,o5];omega
 have e2:t8 (c8 (8*2) (o5 n))=t8 (c8 (8*2) n):=by simp only[t8,c8,o5];omega
 have e3:t8 (c8 (8*3) (o5 n))=t8 (c8 (8*3) n):=by simp only[t8,c8,o5];omega
 simp only[le,e0,e1,e2,e3]
end Go.Sha
namespace Go.Proofs.YtmfnimjnneflnaaGreat
open Go.Am Go.Sha
theorem iq(b:List Nat)(x n:Nat)(m:Int)(hm:m=(n:Int))(hb:b.length≤10000000000)(hx:x<18446744073709551616)(hn:n≤8):cp Tryz.prog 174 0 [] [.d (nb b),.d (.int .u64 (x:Int)),.d (.int .i64 m)] (fun r hp'=>r=.own 33 0 (b++le x n).length (b++le x n).length∧lk 33 hp'=some ⟨5,1,rb (b++le x n)⟩):=by
 subst hm;refine bw Tryz.func174 (by kernel_rfl) rfl Tryz.ntmps174 (rs:=[.tmp 6]) rfl (qb rfl) (by decide) ?_;simp[go_sem,nb,dk,aN];refine⟨aq,?_⟩
 refine am (fun k:Nat=>⟨[(1,.d (.int .u64 ((c8 (8*k) x:Nat):Int))),(2,.d (.int .i64 (n:Int))),(7,.own 33 0 (b++le x k).length (b++le x k).length),(8,.d (.int .i64 (k:Int)))],[(33,⟨5,1,rb (b++le x k)⟩)],300⟩)
  (fun k=>k≤n) (fun k=>n-k) 0 aq (by
   simp[ak,ah,fv,lk,AV.low,AV.low1,le,c8]
   exact aK _ _) ?_
 intro k hk;have hl:(b++le x k).length=b.length+k:=by rw[b_,aE]
 have hs:rb (b++le x k)++[[AV.d (.int .u8 ((t8 (c8 (8*k) x):Nat):Int))]]=rb (b++le x (k+1)):=by rw[fh,cA];rfl
 have hxk:c8 (8*k) x<18446744073709551616:=Nat.lt_of_le_of_lt (Nat.div_le_self _ _) hx
 have hq:IntKind.u64.wrap (Int.tdiv ((c8 (8*k) x:Nat):Int) 256)=((c8 (8*(k+1)) x:Nat):Int):=by
  have e1:Int.tdiv ((c8 (8*k) x:Nat):Int) 256=((c8 (8*k) x/256:Nat):Int):=(Int.ofNat_tdiv _ 256).symm
  have e2:c8 (8*k) x/256=c8 (8*(k+1)) x:=by
   unfold c8;rw[Nat.div_div_eq_div_mul,show 2 ^ (8*k)*256=2 ^ (8*(k+1))by rw[show 8*(k+1)=8*k+8 by omega,Nat.pow_add]]
  have h3:c8 (8*k) x/256≤c8 (8*k) x:=Nat.div_le_self _ _;rw[e1,fE,←e2];omega
 have w5:=al (k:=k) aq;simp only[go_sem,Nat.reduceEqDiff,Nat.reduceAdd,Nat.reduceLT,↓reduceIte,Nat.reduceMul];refine⟨fun h=>?_,fun h=>?_⟩
 ·simp only[go_sem,Nat.reduceEqDiff,Nat.reduceAdd,Nat.reduceLT,↓reduceIte,eP,aN,hs,aE,hq,w5];refine⟨aq,aq,by decide,?_⟩;refine aj (k+1) aq aq ?_;simp[ak,ah,fv,lk,AV.low,AV.low1,aE];exact⟨aq,aK _ _⟩
 ·have hkn:k=n:=aq;subst hkn;simp[go_sem,ar]
def nq(L:List Nat)(r:AV)(hp':Hp):Prop:=∃I,r=.own I 0 L.length L.length∧lk I hp'=some ⟨5,1,rb L⟩
theorem iu{g:FuncId}{args:List AV}{L:List Nat}(h:cp Tryz.prog g 0 [] args (nq L))(hd:∀v,v∈args→v.deep):au Tryz.prog g args (fun r=>r=.d (nb L)) :=
 xC h hd fun r hp'⟨I,hr,hb⟩=>⟨.d (nb L),by subst hr;exact .one (az (bo rfl hb trivial)),trivial,rfl⟩
theorem Hk{g:FuncId}{k:Nat}{hp0:Hp}{args:List AV}{Q Q':AV→Hp→Prop}(h:cp Tryz.prog g k hp0 args Q)(hq:∀r hp',Q r hp'→Q' r hp'):cp Tryz.prog g k hp0 args Q':=by
 obtain⟨h1,hk,h2⟩:=h;refine⟨h1,hk,fun w S σ vs a b c=>(h2 w S σ vs a b c).mono fun e w' he=>?_⟩;obtain⟨x,r,hp',U',σ',e1,hQ,rest⟩:=he;exact⟨x,r,hp',U',σ',e1,hq r hp' hQ,rest⟩
theorem kO(b:List Nat)(x n:Nat)(m:Int)(hm:m=(n:Int))(hb:b.length≤10000000000)(hx:x<18446744073709551616)(hn:n≤8):au Tryz.prog 174 [.d (nb b),.d (.int .u64 (x:Int)),.d (.int .i64 m)] (fun r=>r=.d (nb (b++le x n))) :=
 iu (Hk (iq b x n m hm hb hx hn) fun r hp' h=>⟨33,h.1,h.2⟩) a9
theorem iL(b:List Nat)(n:Nat)(hb:b.length≤1000000)(hn:n<4294967296):cp Tryz.prog 175 0 [] [.d (nb b),.d (.int .u64 (n:Int))] (nq (b++ao n)):=by
 refine bw Tryz.func175 (by kernel_rfl) rfl Tryz.ntmps175 (rs:=[.tmp 4]) rfl (qb rfl) (by decide) ?_;by_cases h1:n<253
 ·have e:ao n=le n 1:=by unfold ao;rw[if_pos h1,J4]
  rw[e];have i1:(n:Int)<253:=aq;simp[go_sem,i1];refine aR [] (iq b n 1 1 rfl aq aq aq) rfl aw aw aw (by simp[AV.renL,AV.ren]) ?_;rintro r hp'⟨rfl,h0⟩;refine⟨[(33,0)],rfl,?_⟩;simp[go_sem,bG,bE,h0,Blk.ren,aT,bV,AV.renL,AV.ren,bF,ar,nq]
 ·have i1:¬(n:Int)<253:=aq;by_cases h2:n<65536
  ·have e:ao n=le 253 1++le n 2:=by unfold ao;rw[if_neg h1,if_pos h2,Hi]
   have i2:(n:Int)<65536:=aq;rw[e,←cA];simp[go_sem,i1,i2,-List.append_assoc];refine ae (kO b 253 1 1 rfl aq aq aq) a9 ?_;simp[go_sem,-List.append_assoc];refine aR [] (iq (b++le 253 1) n 2 2 rfl (by rw[b_,aE];omega) aq aq) rfl aw aw aw (by simp[AV.renL,AV.ren]) ?_;rintro r hp'⟨rfl,h0⟩;refine⟨[(33,0)],rfl,?_⟩;simp[go_sem,bG,bE,h0,Blk.ren,aT,bV,AV.renL,AV.ren,bF,ar,nq,-List.append_assoc]
  ·have e:ao n=le 254 1++le n 4:=by unfold ao;rw[if_neg h1,if_neg h2,Hj]
   have i2:¬(n:Int)<65536:=aq;have i3:(n:Int)<4294967296:=aq;rw[e,←cA];simp[go_sem,i1,i2,i3,-List.append_assoc];refine ae (kO b 254 1 1 rfl aq aq aq) a9 ?_;simp[go_sem,-List.append_assoc];refine aR [] (iq (b++le 254 1) n 4 4 rfl (by rw[b_,aE];omega) aq aq) rfl aw aw aw (by simp[AV.renL,AV.ren]) ?_;rintro r hp'⟨rfl,h0⟩;refine⟨[(33,0)],rfl,?_⟩;simp[go_sem,bG,bE,h0,Blk.ren,aT,bV,AV.renL,AV.ren,bF,ar,nq,-List.append_assoc]
theorem oC(b x:List Nat)(hb:b.length≤1000000)(hx:x.length<1000000):cp Tryz.prog 176 0 [] [.d (nb b),.d (nb x)] (nq (b++ao x.length++x)):=by
 refine bw Tryz.func176 (by kernel_rfl) rfl Tryz.ntmps176 (rs:=[.tmp 4]) rfl (qb rfl) (by decide) ?_;have w:IntKind.u64.wrap (x.length:Int)=(x.length:Int):=by rw[fE];omega
 have hp5:=bz x.length;simp only[go_sem,Nat.reduceEqDiff,Nat.reduceAdd,Nat.reduceLT,↓reduceIte,nb,List.length_map,w];refine aR [] (iL b x.length aq aq) rfl aw aw aw (by simp[AV.renL,AV.ren,nb]) ?_;rintro r hp'⟨I,rfl,h0⟩;refine⟨[(I,0)],by simp[fB,gw],?_⟩;simp[go_sem,bG,bE,h0,Blk.ren,aT,bV,AV.renL,AV.ren,bF,dk,aN,ar];refine⟨aq,161,?_,?_⟩
 ·rw[show(b++(ao x.length++x)).length=b.length+(ao x.length).length+x.length by simp;omega]
 ·simp[lk,←lG]
theorem kP(b x:List Nat)(hb:b.length≤1000000)(hx:x.length<1000000):au Tryz.prog 176 [.d (nb b),.d (nb x)] (fun r=>r=.d (nb (b++(ao x.length++x)))):=by
 rw[←cA];exact iu (oC b x hb hx) a9
def sb(l:List Nat):List Int:=l.map fun(x:Nat)=>(x:Int)
theorem Hl{a b:List Nat}:sb a=sb b↔a=b:=t6
end Go.Proofs.YtmfnimjnneflnaaGreat
namespace Go.Sha
end Go.Sha
namespace Go.Proofs.YtmfnimjnneflnaaGreat
open Go.Am Go.Sha
end Go.Proofs.YtmfnimjnneflnaaGreat
namespace Go.Sha
end Go.Sha
namespace Go.Proofs.YtmfnimjnneflnaaGreat
open Go.Am Go.Sha
end Go.Proofs.YtmfnimjnneflnaaGreat
namespace Go.Sha
end Go.Sha
namespace Go.Sha
end Go.Sha
namespace Go.Proofs.YtmfnimjnneflnaaGreat
open Go.Am Go.Sha
def bp(x:List Nat):List DV:=[nb x]
def bT(c:Int×Int):List DV:=[.int .i64 c.1,.int .u64 c.2]
def lI(o:Int×List Nat):List DV:=[.int .u64 o.1,nb o.2]
def kQ(out:Int):List (Int×Int)→Int→Int×Int
 |[],s=>(s,0)
 |c::r,s=>if c.1≠out then kQ out r s else if IntKind.u64.wrap (s+c.2)<c.2 then(0,31)else kQ out r (IntKind.u64.wrap (s+c.2))
theorem DW(cs:List (Int×Int))(out:Int)(hl:cs.length<4611686018427387904):au Tryz.prog 121 [.d (.ro 2 (cs.map bT)),.d (.int .i64 out)] (fun r=>r=.tup [.d (.int .u64 (kQ out cs 0).1),.d (.int .i64 (kQ out cs 0).2)]):=by
 refine bu Tryz.func121 Tryz.ntmps121 (rs:=[.tmp 4,.tmp 5]) a9 ?_;simp only[go_sem,Nat.reduceEqDiff,Nat.reduceAdd,Nat.reduceLT,↓reduceIte,Nat.reduceMul]
 refine am (fun t:Nat×Int=>⟨[(0,.d (.ro 2 (cs.map bT))),(1,.d (.int .i64 out)),(6,.d (.int .u64 t.2)),(9,.d (.ro 2 (cs.map bT))),(10,.d (.int .i64 cs.length)),(11,.d (.int .i64 t.1))],[],64⟩)
  (fun t=>t.1≤cs.length∧kQ out (cs.drop t.1) t.2=kQ out cs 0) (fun t=>cs.length-t.1) (0,0) ⟨aq,rfl⟩ (by simp[ak,ah,fv,lk,AV.low,AV.low1]) ?_
 rintro⟨k,s⟩⟨hk0,ho⟩;simp only[go_sem,Nat.reduceEqDiff,Nat.reduceAdd,Nat.reduceLT,↓reduceIte,Nat.reduceMul];simp only at hk0 ho;refine⟨fun hk=>?_,fun hk=>?_⟩
 ·obtain⟨c,hc,hd⟩:=aL (l:=cs) (k:=k) aq;rw[hd]at ho;simp only[go_sem,Nat.reduceEqDiff,Nat.reduceAdd,Nat.reduceLT,↓reduceIte,hc,bT,Nat.reduceLeDiff,al (show k<4611686018427387904 by omega)];refine⟨fun h=>?_,fun h=>⟨fun h2=>?_,fun h2=>?_⟩⟩
  ·refine aj (k+1,s) ⟨by simp;omega,?_⟩ (by simp;omega) (by simp[ak,ah,fv,lk,AV.low,AV.low1])
   simpa[kQ,h]using ho
  ·refine ag a9 ?_;simp[kQ,h,h2]at ho;simp[←ho]
  ·refine aj (k+1,IntKind.u64.wrap (s+c.2)) ⟨by simp;omega,?_⟩ (by simp;omega) (by simp[ak,ah,fv,lk,AV.low,AV.low1])
   simpa[kQ,h,h2]using ho
 ·refine ag a9 ?_;rw[c_ aq]at ho;simp[kQ]at ho;simp[←ho]
def oD(n:Int):List (Int×Int)→Bool
 |[]=>true
 |c::r=>if c.1<0 then false else if n≤c.1 then false else oD n r
def r7(cs:List (Int×Int)):Nat→List (Int×List Nat)→Bool
 |_,[]=>true
 |i,o::r=>if(kQ i cs 0).2≠0 then false else if o.1<(kQ i cs 0).1 then false else r7 cs (i+1) r
def jl(outs:List (Int×List Nat))(cs:List (Int×Int)):Int:=if oD outs.length cs then(if r7 cs 0 outs then 0 else 40)else 1
theorem xM(outs:List (Int×List Nat))(cs:List (Int×Int))(hl:cs.length<4611686018427387904)(ho:outs.length<4611686018427387904) :
  au Tryz.prog 79 [.d (.ro 2 (outs.map lI)),.d (.ro 2 (cs.map bT))] (fun r=>r=.d (.int .i64 (jl outs cs))):=by
 refine bu Tryz.func79 Tryz.ntmps79 (rs:=[.tmp 4]) a9 ?_;simp only[go_sem,Nat.reduceEqDiff,Nat.reduceAdd,Nat.reduceLT,↓reduceIte,Nat.reduceMul]
 refine am (fun k:Nat=>⟨[(0,.d (.ro 2 (outs.map lI))),(1,.d (.ro 2 (cs.map bT))),(11,.d (.ro 2 (cs.map bT))),(12,.d (.int .i64 cs.length)),(13,.d (.int .i64 k))],[],64⟩)
  (fun k=>k≤cs.length∧oD outs.length (cs.drop k)=oD outs.length cs) (fun k=>cs.length-k) 0 ⟨aq,rfl⟩ (by simp[ak,ah,fv,lk,AV.low,AV.low1]) ?_
 rintro k⟨hk0,hq⟩;simp only[go_sem,Nat.reduceEqDiff,Nat.reduceAdd,Nat.reduceLT,↓reduceIte,Nat.reduceMul];refine⟨fun hk=>?_,fun hk=>?_⟩
 ·obtain⟨c,hc,hd⟩:=aL (l:=cs) (k:=k) aq;rw[hd]at hq;by_cases h1:c.1<0
  ·simp[go_sem,hc,bT,h1];refine ag a9 ?_;simp[oD,h1]at hq;simp[jl,hq]
  ·by_cases h2:(outs.length:Int)≤c.1
   ·simp[go_sem,hc,bT,h1,h2];refine ag a9 ?_;simp[oD,h1,h2]at hq;simp[jl,hq]
   ·simp[go_sem,hc,bT,h1,h2,al (show k<4611686018427387904 by omega)];refine aj (k+1) ⟨aq,?_⟩ aq (by simp[ak,ah,fv,lk,AV.low,AV.low1])
    simpa[oD,h1,h2]using hq
 ·rw [c_ aq] at hq;simp [go_sem]
  refine am (fun k:Nat=>⟨[(0,.d (.ro 2 (outs.map lI))),(1,.d (.ro 2 (cs.map bT))),(28,.d (.ro 2 (outs.map lI))),(29,.d (.int .i64 outs.length)),(30,.d (.int .i64 k))],[],64⟩)
   (fun k=>k≤outs.length∧r7 cs k (outs.drop k)=r7 cs 0 outs) (fun k=>outs.length-k) 0 ⟨aq,rfl⟩ (by simp[ak,ah,fv,lk,AV.low,AV.low1]) ?_
  rintro k⟨hk0,hq2⟩;simp only[go_sem,Nat.reduceEqDiff,Nat.reduceAdd,Nat.reduceLT,↓reduceIte,Nat.reduceMul];refine⟨fun hk=>?_,fun hk=>?_⟩
  ·obtain⟨o,hc,hd⟩:=aL (l:=outs) (k:=k) aq;rw[hd]at hq2;simp[go_sem,hc,lI];refine ae (DW cs k hl) a9 ?_;by_cases h1:(kQ k cs 0).2=0
   ·by_cases h2:o.1<(kQ k cs 0).1
    ·simp[go_sem,h1,h2];refine ag a9 ?_;simp[r7,h1,h2]at hq2;simp[jl,←hq,←hq2,oD]
    ·simp[go_sem,h1,h2,al (show k<4611686018427387904 by omega)];refine aj (k+1) ⟨aq,?_⟩ aq (by simp[ak,ah,fv,lk,AV.low,AV.low1])
     simpa[r7,h1,h2]using hq2
   ·simp[go_sem,h1];refine ag a9 ?_;simp[r7,h1]at hq2;simp[jl,←hq,←hq2,oD]
  ·simp[go_sem];refine ag a9 ?_;rw[c_ aq]at hq2;simp[r7]at hq2;simp[jl,←hq,←hq2,oD]
theorem vK{P:Program}{s t:TypeId}{Kk:AV→Hp→Prop}{hp:Hp}(l:List Nat)(el:TypeId)(hb:bytes l)(h1:bg P s=.slice el)(h2:bg P t=.str)(h3:P.underlying el=some (.int .u8))(hK:Kk (.d (.str (sb l))) hp):On P s t (l.map fun(x:Nat)=>[DV.int .u8 (x:Int)]) Kk hp:=by
 refine⟨sb l,by simp[sb],fun b h=>?_,?_⟩
 ·simp only[sb,List.mem_map]at h;obtain⟨x,hx,rfl⟩:=h;have:=hb x hx;omega
 ·rw[h1,h2];exact⟨h3,hK⟩
theorem DX{n:Nat}{t:TypeId}{a:AV}{k:TypeDesc}(hu:Tryz.prog.underlying t=some k)(hk:∀fs,k≠.struct fs)(hk2:∀m e,k≠.array m e)(h:jT Tryz.prog n t a):∃d,a=.d d∧fD Tryz.prog n t [d]:=by
 unfold jT at h;rw[hu]at h
 cases k<;>first|exact h|exact absurd rfl (hk _)|exact absurd rfl (hk2 _ _)
theorem xN{n:Nat}{d:DV}(h:fD Tryz.prog (n+3) 34 [d]):∃xs:List (List Nat),d=.ro 1 (xs.map bp)∧∀x,x∈xs→bytes x:=by
 rw[fD]at h;simp only[Tryz.underlying34,List.cons.injEq,and_true]at h;obtain⟨es,rfl,hl,hr⟩:=h
 obtain⟨xs,rfl,hxs⟩:=nf (enc:=bp) (R:=fun x=>bytes x) (es:=es) (fun r hr'=>by
  obtain⟨h1,h2⟩:=hr r hr';rw[show Tryz.prog.cellsOf 31=1 by kernel_rfl]at h2
  match r,h1,h2 with
  |[y],h1,_ =>
   obtain⟨x,rfl,_,hb⟩:=r6 h1
   exact⟨x,rfl,hb⟩)
 exact⟨xs,by rw[show Tryz.prog.cellsOf 31=1 by kernel_rfl],hxs⟩
end Go.Proofs.YtmfnimjnneflnaaGreat
namespace Go.Am
section
variable {P:Program}
def Hm(P:Program)(n:Nat)(x:Code)(Q:Exit→St→Prop)(st:St):Prop:=∀(c:Ctx)(a:Act)(w:World),c.n=n→gW c st a w→x.wp P (fun e a' w'=>∃st',Q e st'∧gW c st' a' w') a w
theorem aM{n:Nat}{x:Code}{Q:Exit→St→Prop}{st:St}(h:iZ P n x Q st):Hm P n x Q st:=fun c a w hn hs=>by
 subst hn;exact fV x Q st a w h hs
theorem ua{n:Nat}{x:Code}{Q:Exit→St→Prop}{st st':St}(hw:Wk st st')(h:Hm P n x Q st'):Hm P n x Q st:=fun c a w hn hs=>h c a w hn (hw c a w hs)
theorem bW{n:Nat}{x y:Code}{Q:Exit→St→Prop}{st:St}(h:Hm P n x (gl (Hm P n y Q) Q) st):Hm P n (.seq x y) Q st:=by
 intro c a w hn hs;refine wp_seq (wp_mono (h c a w hn hs) fun e a' w'⟨st',hq,hs'⟩=>?_)
 cases e with
 |normal=>exact hq c a' w' hn hs'
 |_=>exact⟨st',hq,hs'⟩
theorem xO {g : FuncId} {fn : Func} {code : Code} {args : List AV} {Q : AV → Prop} (hf : P.funcs[g]? = some fn) (hn : (fn.name == "runtime.NumGoroutine") = false) (hb : fn.body = some code)
  {n:Nat} {rs:List ResultVar} (hnt:fn.ntmps=n) (hrs:fn.results.toList=rs) (hle:args.length≤n) (hd:∀v,v∈args→v.deep)
  (h:Hm P n code (zn P rs (eH Q)) ⟨yv 0 args,[],0⟩):au P g args Q:=by
 subst hnt;subst hrs;refine⟨⟨fn,hf,hn,by simp[hb]⟩,fun w S vs hS hl hv=>?_⟩;have hsz:((vs.toArray++Array.replicate (fn.ntmps-vs.toArray.size) undef):Array Value).size=fn.ntmps:=by simp;omega
 refine calls_of_wp hf hb ?_
 let c:Ctx:=⟨w,fun _=>False,S,fn.ntmps,fun _ h=>h.elim,fun _=>False,fun _=>none,[],0,aq⟩
 have hsim:gW c ⟨yv 0 args,[],0⟩ { tmps:=vs.toArray++Array.replicate (fn.ntmps-vs.toArray.size) undef,defers:=[] } w:=by
  refine⟨rfl,hsz,fun _=>none,⟨(fun i j bi bj g h=>by cases h),(fun i b h=>by cases h),(fun i b h=>by cases h),(fun i b g h=>by cases h),rfl,rfl,rfl,cL _,fun _ _ _=>rfl⟩,fun n=>?_,⟨fun _ h=>h.elim,fun _ h=>h.elim,fun i h=>absurd h (Nat.not_lt_zero _),fun i b' h=>absurd h (Nat.not_lt_zero _)⟩⟩;simp only[fv,pT,Nat.zero_le,if_true,Nat.sub_zero]
  cases hn:args[n]? with
  |none=>exact .any _
  | some v =>
   have hlt:n<vs.length:=by have:=(ci.1 hn).1;omega
   have hx:vs[n]?=some vs[n]:=cm hlt
   have:(vs.toArray++Array.replicate (fn.ntmps-vs.toArray.size) undef).getD n undef=vs[n]:=by
    rw[ct,Array.getElem?_append,if_pos (by simpa using hlt)];simp[hx]
   rw[this];simp only[Option.getD_some];exact iI (hd v (cr hn)) (fun b hb=>⟨⟨hS b hb,(fun id blk g h=>by cases h)⟩,.inl hb⟩) (hv n v _ hn hx)
 have om:∀st a w',rJ P fn.results.toList (eH Q) st→gW c st a w'→∃v,(results fn a.tmps).run P w'=.ok v w'∧∃x r,Ending.returned v=.returned x∧Q r∧r.deep∧RowKit.Below w.heap.size w w' ∧
   AIs w' (fun b=>S b∨(w.heap.size≤b∧b<w'.heap.size)) (fun _=>none) [] (fun _=>False) r x:=by
  intro st a w' hret hs;obtain⟨v,x,⟨r,hsn,hrd,hQ⟩,hrun,σ,hr,hx,_⟩:=pS hs hret;refine⟨x,hrun,x,r,rfl,hQ,hrd,⟨hr.os,hr.tape,hr.output,hr.size,fun b hb=>hr.old b hb (fun h=>h)⟩,?_⟩;refine gG (fun b hb=>?_) (fun id blk g _ hk hg=>?_) hr hsn hx
  ·rcases hb.2 with h|h
   ·exact .inl h
   ·exact .inr ⟨h,hb.1.1⟩
  ·rcases hr.mine id blk g hk hg with h|h
   ·exact h.elim
   ·exact .inr ⟨h,bQ (hr.at hk hg)⟩
 refine wp_mono (h c _ w rfl hsim) fun e a w'⟨st,hq,hs⟩=>?_
 cases e with
 |normal=>exact⟨hs.1,om st a w' hq hs⟩
 |ret=>exact⟨hs.1,om st a w' hq hs⟩
 |_=>exact hq.elim
end
end Go.Am
namespace Go.Proofs.YtmfnimjnneflnaaGreat
open Go.Am Go.Sha
def J5(h:List Nat)(first many:Nat):List AV:=cb h++[.d (.int .i64 (first:Int)),.d (.int .i64 (many:Int))]
theorem J6:ek Tryz.prog 174=some (J5 z32 0 0):=by kernel_rfl
attribute [go_sem] J6
end Go.Proofs.YtmfnimjnneflnaaGreat
namespace Go.Am
end Go.Am
namespace Go.Proofs.YtmfnimjnneflnaaGreat
open Go.Am Go.Sha
abbrev Row:=List (List Nat×Nat)
theorem mf{hp:Hp}{I:Nat→Prop}:∀(rows:List (List AV))(es:List (List DV)),rows.length=es.length→(∀(i:Nat)(x:List AV)(y:List DV),rows[i]?=some x→es[i]?=some y→CellsR hp I x y)→RowsR hp I rows es
 |[],[],_,_=>.nil
 |[],_::_,h,_=>by simp at h
 |_::_,[],h,_=>by simp at h
 |x::rows,y::es,h,hg=>.cons (hg 0 x y rfl rfl) (mf rows es (by simpa using h) (fun i a b h1 h2=>hg (i+1) a b (by simpa using h1) (by simpa using h2)))
end Go.Proofs.YtmfnimjnneflnaaGreat
