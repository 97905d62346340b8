/-
 Part 6.
-/
import Derived.Test.YtmfnimjnneflnaaGreatN4
import Derived.Lib.BytesEntry
set_option linter.unusedVariables false
set_option linter.unusedSimpArgs false
set_option maxRecDepth 100000
set_option maxHeartbeats 16000000
open Go.Proofs.Tryz
namespace Go.Proofs.YtmfnimjnneflnaaGreat
def le(x:Nat):Nat→List Nat
 |0=>[]
 |k+1=>le x k++[t8 (fe (8*k) x)]
theorem aO(x:Nat):∀k,(le x k).length=k
 |0=>rfl
 |k+1=>by simp[le,aO x k]
theorem xA(k x:Nat):fe 8 (fe (8*k) x)=fe (8*(k+1)) x:=by
 unfold fe;rw[Nat.div_div_eq_div_mul,←Nat.pow_add];congr 1
theorem Ee(a:Nat):Int.fdiv (a:Int) 256=((fe 8 a:Nat):Int):=gC a 256
theorem rm(b:List Nat):List.take b.length (rb b)++List.drop b.length (rb (List.replicate b.length 0))=rb b:=by
 rw[cx (by rw[aJ];exact cL _),c_ (by rw[aJ];simp),List.append_nil]
theorem jW{Q:AV→Prop}{st:St}{id:Nat}{L:List Nat}(a:lk id st.hp=some ⟨5,1,rb L⟩)(hq:Q (.d (nb L))):dG Q (.own id 0 L.length L.length) st:=by
 have h:=sJ (I:=fun _=>True) (i0:=0) (n:=L.length) a trivial aq;rw[List.drop_zero,List.take_length]at h;exact d5 (am h) a9 hq
theorem IQ(b:List Nat)(x n:Nat)(p:b.length≤1000000)(o:x<256)(l:n≤8):fm prog 151 [.d (nb b),.d (.int .u8 (x:Int)),.d (.int .i64 (n:Int))] (.d (nb (b++le x n))):=by
 refine bL func151 ntmps151 (rs:=[.tmp 6]) a9 ?_;have e:IntKind.i64.wrap ((b.length:Int)+(n:Int))=((b.length+n:Nat):Int):=by rw[IntWalk.i64_in _ aq];omega
 have i:IntKind.u64.wrap (x:Int)=(x:Int):=by rw[iW];omega
 have f:List.replicate b.length [AV.d (.int .u8 0)]=rb (List.replicate b.length 0):=by simp[rb]
 simp only[go_sem,Nat.reduceEqDiff,Nat.reduceAdd,Nat.reduceLT,↓reduceIte,e,i,nb,List.length_map,Int.toNat_natCast,f];simp[go_sem,dx,aJ];rw[rm];refine⟨aq,aq,aq,aq,?_⟩
 refine av (fun k:Nat=>⟨[(7,.own 224 0 (b++le x k).length (b++le x k).length),(8,.d (.int .u64 ((fe (8*k) x:Nat):Int))),(21,.d (.int .i64 (n:Int))),(22,.d (.int .i64 (k:Int)))],[(224,⟨5,1,rb (b++le x k)⟩)],544⟩)
  (fun k=>k≤n) (fun k=>n-k) 0 aq (by
   simp[aA,ai,fv,lk,AV.low,AV.l,le,fe]
   exact aZ _ _) ?_
 intro k q;have m:(b++le x k).length=b.length+k:=by rw[b_,aO]
 have g:rb (b++le x k)++[[AV.d (.int .u8 ((t8 (fe (8*k) x):Nat):Int))]]=rb (b++le x (k+1)):=by rw[iQ,cA];rfl
 have j:=ay (k:=k) aq;simp only[go_sem,Nat.reduceEqDiff,Nat.reduceAdd,Nat.reduceLT,↓reduceIte];refine⟨fun h=>?_,fun h=>?_⟩
 ·simp[go_sem,gl,aJ,g,aO,Ee,xA,j];refine⟨aq,?_⟩;refine ao (k+1) aq aq ?_;simp[aA,ai,fv,lk,AV.low,AV.l];exact⟨aq,aZ _ _⟩
 ·have a:k=n:=aq;subst a;simp[go_sem];have c:b.length+(le x k).length=(b++le x k).length:=by rw[b_]
  rw[c];exact jW rfl (by simp[nb])
theorem abl(b:List Nat)(x n:Nat)(p:b.length≤1000000)(o:x<65536)(l:n≤8):fm prog 152 [.d (nb b),.d (.int .u16 (x:Int)),.d (.int .i64 (n:Int))] (.d (nb (b++le x n))):=by
 refine bL func152 ntmps152 (rs:=[.tmp 6]) a9 ?_;have e:IntKind.i64.wrap ((b.length:Int)+(n:Int))=((b.length+n:Nat):Int):=by rw[IntWalk.i64_in _ aq];omega
 have i:IntKind.u64.wrap (x:Int)=(x:Int):=by rw[iW];omega
 have f:List.replicate b.length [AV.d (.int .u8 0)]=rb (List.replicate b.length 0):=by simp[rb]
 simp only[go_sem,Nat.reduceEqDiff,Nat.reduceAdd,Nat.reduceLT,↓reduceIte,e,i,nb,List.length_map,Int.toNat_natCast,f];simp[go_sem,dx,aJ];rw[rm];refine⟨aq,aq,aq,aq,?_⟩
 refine av (fun k:Nat=>⟨[(7,.own 224 0 (b++le x k).length (b++le x k).length),(8,.d (.int .u64 ((fe (8*k) x:Nat):Int))),(21,.d (.int .i64 (n:Int))),(22,.d (.int .i64 (k:Int)))],[(224,⟨5,1,rb (b++le x k)⟩)],544⟩)
  (fun k=>k≤n) (fun k=>n-k) 0 aq (by
   simp[aA,ai,fv,lk,AV.low,AV.l,le,fe]
   exact aZ _ _) ?_
 intro k q;have m:(b++le x k).length=b.length+k:=by rw[b_,aO]
 have g:rb (b++le x k)++[[AV.d (.int .u8 ((t8 (fe (8*k) x):Nat):Int))]]=rb (b++le x (k+1)):=by rw[iQ,cA];rfl
 have j:=ay (k:=k) aq;simp only[go_sem,Nat.reduceEqDiff,Nat.reduceAdd,Nat.reduceLT,↓reduceIte];refine⟨fun h=>?_,fun h=>?_⟩
 ·simp[go_sem,gl,aJ,g,aO,Ee,xA,j];refine⟨aq,?_⟩;refine ao (k+1) aq aq ?_;simp[aA,ai,fv,lk,AV.low,AV.l];exact⟨aq,aZ _ _⟩
 ·have a:k=n:=aq;subst a;simp[go_sem];have c:b.length+(le x k).length=(b++le x k).length:=by rw[b_]
  rw[c];exact jW rfl (by simp[nb])
theorem abm(b:List Nat)(x n:Nat)(p:b.length≤1000000)(o:x<4294967296)(l:n≤8):fm prog 106 [.d (nb b),.d (.int .u32 (x:Int)),.d (.int .i64 (n:Int))] (.d (nb (b++le x n))):=by
 refine bL func106 ntmps106 (rs:=[.tmp 6]) a9 ?_;have e:IntKind.i64.wrap ((b.length:Int)+(n:Int))=((b.length+n:Nat):Int):=by rw[IntWalk.i64_in _ aq];omega
 have i:IntKind.u64.wrap (x:Int)=(x:Int):=by rw[iW];omega
 have f:List.replicate b.length [AV.d (.int .u8 0)]=rb (List.replicate b.length 0):=by simp[rb]
 simp only[go_sem,Nat.reduceEqDiff,Nat.reduceAdd,Nat.reduceLT,↓reduceIte,e,i,nb,List.length_map,Int.toNat_natCast,f];simp[go_sem,dx,aJ];rw[rm];refine⟨aq,aq,aq,aq,?_⟩
 refine av (fun k:Nat=>⟨[(7,.own 224 0 (b++le x k).length (b++le x k).length),(8,.d (.int .u64 ((fe (8*k) x:Nat):Int))),(21,.d (.int .i64 (n:Int))),(22,.d (.int .i64 (k:Int)))],[(224,⟨5,1,rb (b++le x k)⟩)],544⟩)
  (fun k=>k≤n) (fun k=>n-k) 0 aq (by
   simp[aA,ai,fv,lk,AV.low,AV.l,le,fe]
   exact aZ _ _) ?_
 intro k q;have m:(b++le x k).length=b.length+k:=by rw[b_,aO]
 have g:rb (b++le x k)++[[AV.d (.int .u8 ((t8 (fe (8*k) x):Nat):Int))]]=rb (b++le x (k+1)):=by rw[iQ,cA];rfl
 have j:=ay (k:=k) aq;simp only[go_sem,Nat.reduceEqDiff,Nat.reduceAdd,Nat.reduceLT,↓reduceIte];refine⟨fun h=>?_,fun h=>?_⟩
 ·simp[go_sem,gl,aJ,g,aO,Ee,xA,j];refine⟨aq,?_⟩;refine ao (k+1) aq aq ?_;simp[aA,ai,fv,lk,AV.low,AV.l];exact⟨aq,aZ _ _⟩
 ·have a:k=n:=aq;subst a;simp[go_sem];have c:b.length+(le x k).length=(b++le x k).length:=by rw[b_]
  rw[c];exact jW rfl (by simp[nb])
def Oi(a:Nat):Nat:=a%65536
def az(n:Nat):List Nat:=if n<253 then le (t8 n) 1 else if n<65536 then le 253 1++le (Oi n) 2 else le 254 1++le (zT n) 4
theorem cC(n:Nat):(az n).length≤5:=by
 unfold az;split;simp[aO];split<;>simp[aO]
theorem Oj(b:List Nat)(x n:Nat)(p:b.length≤1000000)(o:x<256)(l:n≤8):cZ prog 151 0 [] [.d (nb b),.d (.int .u8 (x:Int)),.d (.int .i64 (n:Int))] (fun r a=>r=.own 225 0 (b++le x n).length (b++le x n).length∧lk 225 a=some ⟨5,1,rb (b++le x n)⟩):=by
 refine ap func151 (by kernel_rfl) rfl ntmps151 (rs:=[.tmp 6]) rfl (dN rfl) (by decide) ?_;have e:IntKind.i64.wrap ((b.length:Int)+(n:Int))=((b.length+n:Nat):Int):=by rw[IntWalk.i64_in _ aq];omega
 have i:IntKind.u64.wrap (x:Int)=(x:Int):=by rw[iW];omega
 have f:List.replicate b.length [AV.d (.int .u8 0)]=rb (List.replicate b.length 0):=by simp[rb]
 simp only[go_sem,Nat.reduceEqDiff,Nat.reduceAdd,Nat.reduceLT,↓reduceIte,e,i,nb,List.length_map,Int.toNat_natCast,f];simp[go_sem,dx,aJ];rw[rm];refine⟨aq,aq,aq,aq,?_⟩
 refine av (fun k:Nat=>⟨[(7,.own 225 0 (b++le x k).length (b++le x k).length),(8,.d (.int .u64 ((fe (8*k) x:Nat):Int))),(21,.d (.int .i64 (n:Int))),(22,.d (.int .i64 (k:Int)))],[(225,⟨5,1,rb (b++le x k)⟩)],545⟩)
  (fun k=>k≤n) (fun k=>n-k) 0 aq (by
   simp[aA,ai,fv,lk,AV.low,AV.l,le,fe]
   exact aZ _ _) ?_
 intro k q;have m:(b++le x k).length=b.length+k:=by rw[b_,aO]
 have g:rb (b++le x k)++[[AV.d (.int .u8 ((t8 (fe (8*k) x):Nat):Int))]]=rb (b++le x (k+1)):=by rw[iQ,cA];rfl
 have j:=ay (k:=k) aq;simp only[go_sem,Nat.reduceEqDiff,Nat.reduceAdd,Nat.reduceLT,↓reduceIte];refine⟨fun h=>?_,fun h=>?_⟩
 ·simp[go_sem,gl,aJ,g,aO,Ee,xA,j];refine⟨aq,?_⟩;refine ao (k+1) aq aq ?_;simp[aA,ai,fv,lk,AV.low,AV.l];exact⟨aq,aZ _ _⟩
 ·have c:k=n:=aq;subst c;simp[go_sem]
theorem KZ(b:List Nat)(x n:Nat)(p:b.length≤1000000)(o:x<65536)(l:n≤8):cZ prog 152 0 [] [.d (nb b),.d (.int .u16 (x:Int)),.d (.int .i64 (n:Int))] (fun r a=>r=.own 225 0 (b++le x n).length (b++le x n).length∧lk 225 a=some ⟨5,1,rb (b++le x n)⟩):=by
 refine ap func152 (by kernel_rfl) rfl ntmps152 (rs:=[.tmp 6]) rfl (dN rfl) (by decide) ?_;have e:IntKind.i64.wrap ((b.length:Int)+(n:Int))=((b.length+n:Nat):Int):=by rw[IntWalk.i64_in _ aq];omega
 have i:IntKind.u64.wrap (x:Int)=(x:Int):=by rw[iW];omega
 have f:List.replicate b.length [AV.d (.int .u8 0)]=rb (List.replicate b.length 0):=by simp[rb]
 simp only[go_sem,Nat.reduceEqDiff,Nat.reduceAdd,Nat.reduceLT,↓reduceIte,e,i,nb,List.length_map,Int.toNat_natCast,f];simp[go_sem,dx,aJ];rw[rm];refine⟨aq,aq,aq,aq,?_⟩
 refine av (fun k:Nat=>⟨[(7,.own 225 0 (b++le x k).length (b++le x k).length),(8,.d (.int .u64 ((fe (8*k) x:Nat):Int))),(21,.d (.int .i64 (n:Int))),(22,.d (.int .i64 (k:Int)))],[(225,⟨5,1,rb (b++le x k)⟩)],545⟩)
  (fun k=>k≤n) (fun k=>n-k) 0 aq (by
   simp[aA,ai,fv,lk,AV.low,AV.l,le,fe]
   exact aZ _ _) ?_
 intro k q;have m:(b++le x k).length=b.length+k:=by rw[b_,aO]
 have g:rb (b++le x k)++[[AV.d (.int .u8 ((t8 (fe (8*k) x):Nat):Int))]]=rb (b++le x (k+1)):=by rw[iQ,cA];rfl
 have j:=ay (k:=k) aq;simp only[go_sem,Nat.reduceEqDiff,Nat.reduceAdd,Nat.reduceLT,↓reduceIte];refine⟨fun h=>?_,fun h=>?_⟩
 ·simp[go_sem,gl,aJ,g,aO,Ee,xA,j];refine⟨aq,?_⟩;refine ao (k+1) aq aq ?_;simp[aA,ai,fv,lk,AV.low,AV.l];exact⟨aq,aZ _ _⟩
 ·have c:k=n:=aq;subst c;simp[go_sem]
theorem Ad(b:List Nat)(x n:Nat)(p:b.length≤1000000)(o:x<4294967296)(l:n≤8):cZ prog 106 0 [] [.d (nb b),.d (.int .u32 (x:Int)),.d (.int .i64 (n:Int))] (fun r a=>r=.own 225 0 (b++le x n).length (b++le x n).length∧lk 225 a=some ⟨5,1,rb (b++le x n)⟩):=by
 refine ap func106 (by kernel_rfl) rfl ntmps106 (rs:=[.tmp 6]) rfl (dN rfl) (by decide) ?_;have e:IntKind.i64.wrap ((b.length:Int)+(n:Int))=((b.length+n:Nat):Int):=by rw[IntWalk.i64_in _ aq];omega
 have i:IntKind.u64.wrap (x:Int)=(x:Int):=by rw[iW];omega
 have f:List.replicate b.length [AV.d (.int .u8 0)]=rb (List.replicate b.length 0):=by simp[rb]
 simp only[go_sem,Nat.reduceEqDiff,Nat.reduceAdd,Nat.reduceLT,↓reduceIte,e,i,nb,List.length_map,Int.toNat_natCast,f];simp[go_sem,dx,aJ];rw[rm];refine⟨aq,aq,aq,aq,?_⟩
 refine av (fun k:Nat=>⟨[(7,.own 225 0 (b++le x k).length (b++le x k).length),(8,.d (.int .u64 ((fe (8*k) x:Nat):Int))),(21,.d (.int .i64 (n:Int))),(22,.d (.int .i64 (k:Int)))],[(225,⟨5,1,rb (b++le x k)⟩)],545⟩)
  (fun k=>k≤n) (fun k=>n-k) 0 aq (by
   simp[aA,ai,fv,lk,AV.low,AV.l,le,fe]
   exact aZ _ _) ?_
 intro k q;have m:(b++le x k).length=b.length+k:=by rw[b_,aO]
 have g:rb (b++le x k)++[[AV.d (.int .u8 ((t8 (fe (8*k) x):Nat):Int))]]=rb (b++le x (k+1)):=by rw[iQ,cA];rfl
 have j:=ay (k:=k) aq;simp only[go_sem,Nat.reduceEqDiff,Nat.reduceAdd,Nat.reduceLT,↓reduceIte];refine⟨fun h=>?_,fun h=>?_⟩
 ·simp[go_sem,gl,aJ,g,aO,Ee,xA,j];refine⟨aq,?_⟩;refine ao (k+1) aq aq ?_;simp[aA,ai,fv,lk,AV.low,AV.l];exact⟨aq,aZ _ _⟩
 ·have c:k=n:=aq;subst c;simp[go_sem]
theorem TF(a:Nat):IntKind.u16.wrap (a:Int)=((Oi a:Nat):Int):=by
 have:IntKind.u16.wrap (a:Int)=(a:Int)%65536:=by simp[IntKind.wrap,IntKind.bits,IntKind.signed]
 rw[this];unfold Oi;omega
theorem o7(b:List Nat)(n:Nat)(j:b.length≤100000)(i:n<4294967296):cZ prog 109 0 [] [.d (nb b),.d (.int .u64 (n:Int))] (fun r a=>∃I,r=.own I 0 (b++az n).length (b++az n).length∧lk I a=some ⟨5,1,rb (b++az n)⟩):=by
 refine ap func109 (by kernel_rfl) rfl ntmps109 (rs:=[.tmp 4]) rfl (dN rfl) (by decide) ?_;by_cases g:n<253
 ·have e:az n=le (t8 n) 1:=by unfold az;rw[if_pos g]
  rw[e];have f:(n:Int)<253:=aq;simp[go_sem,f,gl];refine aS [] (Oj b (t8 n) 1 aq (by unfold t8;omega) aq) rfl aw aw aw (by simp[AV.R,AV.r]) ?_;rintro r a⟨rfl,c⟩;refine⟨[(225,0)],rfl,?_⟩;simp[go_sem,cj,bK,c,Blk.r,aQ,dE,AV.r,cn,ah]
 ·have f:¬(n:Int)<253:=aq;by_cases h:n<65536
  ·have e:az n=le 253 1++le (Oi n) 2:=by unfold az;rw[if_neg g,if_pos h]
   have i2:(n:Int)<65536:=aq;rw[e,←cA];simp[go_sem,f,i2,-List.append_assoc];refine ag (IQ b 253 1 aq aq aq) a9 ?_;simp[go_sem,TF,-List.append_assoc];refine aS [] (KZ (b++le 253 1) (Oi n) 2 (by rw[b_,aO];omega) (by unfold Oi;omega) aq) rfl aw aw aw (by simp[AV.R,AV.r]) ?_;rintro r a⟨rfl,c⟩;refine⟨[(225,0)],rfl,?_⟩;simp[go_sem,cj,bK,c,Blk.r,aQ,dE,AV.r,cn,ah];omega
  ·have e:az n=le 254 1++le (zT n) 4:=by unfold az;rw[if_neg g,if_neg h]
   have i2:¬(n:Int)<65536:=aq;have i3:(n:Int)<4294967296:=aq;rw[e,←cA];simp[go_sem,f,i2,i3,-List.append_assoc];refine ag (IQ b 254 1 aq aq aq) a9 ?_;simp[go_sem,D2,-List.append_assoc];refine aS [] (Ad (b++le 254 1) (zT n) 4 (by rw[b_,aO];omega) (by unfold zT;omega) aq) rfl aw aw aw (by simp[AV.R,AV.r]) ?_;rintro r a⟨rfl,c⟩;refine⟨[(225,0)],rfl,?_⟩;simp[go_sem,cj,bK,c,Blk.r,aQ,dE,AV.r,cn,ah];omega
theorem gG(b x:List Nat)(f:b.length≤100000)(g:x.length<1000000):fm prog 63 [.d (nb b),.d (nb x)] (.d (nb (b++(az x.length++x)))):=by
 refine bL func63 ntmps63 (rs:=[.tmp 4]) a9 ?_;have w:IntKind.u64.wrap (x.length:Int)=(x.length:Int):=by rw[iW];omega
 have a:=cC x.length;simp only[go_sem,Nat.reduceEqDiff,Nat.reduceAdd,Nat.reduceLT,↓reduceIte,nb,List.length_map,w];refine aS [] (o7 b x.length aq aq) rfl aw aw aw (by simp[AV.R,AV.r,nb]) ?_;rintro r e⟨I,rfl,c⟩;refine⟨[(I,0)],by simp[de,gB],?_⟩;simp[go_sem,cj,bK,c,Blk.r,aQ,dE,AV.r,cn,dx,aJ,ah];refine⟨aq,?_⟩;rw[lJ,show b.length+(az x.length).length+x.length=(b++az x.length++x).length by simp;omega];exact jW rfl (by simp[nb])
theorem o8(x:List Nat)(f:x.length≤100000):fm prog 93 [.d (nb x)] (.agg (cb (fQ [84,97,112,76,101,97,102] (192::(az x.length++x))))):=by
 refine bL func93 ntmps93 (rs:=[.cell 2 29]) a9 ?_;have c:=cC x.length;simp[go_sem]
 have e:∀(a:Hp),lk 32 a=some ⟨5,1,rb [192]⟩→SnapD a (fun id=>id∈[32]) (.own 32 0 1 1) (nb [192]):=fun a h=>by
  have:=sJ (I:=fun id=>id∈[32]) (i0:=0) (n:=1) (L:=[192]) h aw aw;exact this
 refine bJ [32] (gG [192] x aw aq) rfl (ak (.one (am (e _ rfl))) (ak (.deep a9) aF)) ?_;simp[go_sem,aC];refine ag (jc [84,97,112,76,101,97,102] (.str [84,97,112,76,101,97,102]) rfl (192::(az x.length++x)) aw (by simp;omega)) a9 ?_;have b:(fQ [84,97,112,76,101,97,102] (192::(az x.length++x))).length=32:=aR _;generalize fQ [84,97,112,76,101,97,102] (192::(az x.length++x))=R at *;simp[go_sem,ah,b,al b,cf];exact aa (by simp[AV.deep];exact bp _) rfl
def nR(a:List Nat):List UInt8:=Lib.bytesOf (a.map fun(x:Nat)=>(x:Int))
theorem Ae{P:Program}{w:World}{S:Nat→Prop}{σ:Nat→Option Nat}{hp:Hp}{U:Nat→Prop}{a:List Nat}{x:Value}(h:AIs w S σ hp U (.d (nb a)) x):(Extern.Bytes.bytesOf x).run P w=.ok ⟨(nR a).toArray⟩ w:=by
 cases h with
 | d h =>
  unfold nb at h;generalize e:(a.map fun(b:Nat)=>[DV.int .u8 (b:Int)])=es at h;cases h with
  | ro _ _ A c vs hc he hA hv hd =>
   have f:es.length=a.length:=(by rw[←e,List.length_map]);cases A with
   | none =>
    have:a=[]:=by
     cases a with
     |nil=>rfl
     |cons y r =>
      obtain⟨ad,g,_⟩:=hA [DV.int .u8 (y:Int)] (by rw[←e];simp);cases g
    subst this;simp[Extern.Bytes.bytesOf,nR,Lib.bytesOf];rfl
   | some ad =>
    have l:=Lib.run_loadBytesX (P:=P) w (a.map fun(x:Nat)=>(x:Int)) ad .empty (fun j y k=>by
     simp only[cU,Option.map_eq_some_iff]at k;obtain⟨z,n,rfl⟩:=k;have g:es[j]?=some [DV.int .u8 (z:Int)]:=by rw[←e,cU,n];rfl
     have m:=hv ad rfl j 0 _ _ g rfl;have i:=hd j 0 _ _ g rfl;rw[Nat.mul_one,Nat.add_zero]at m;rw[m];generalize vs j 0=u at i;cases i
     rfl)
    rw[List.length_map]at l;show(Extern.Bytes.loadBytes ad es.length .empty).run P w=_;rw[f,l];congr 2;simp[nR]
theorem TG(a b:List Nat):rY prog 205 [.d (nb a),.d (nb b)] (.d (.int .i64 (Lib.compareBytes (nR a) (nR b)))):=by
 intro w S σ j U g h c
 match g,h with
 | [x,y],_ =>
  have i:=Ae (P:=prog) (c 0 _ x rfl rfl);have f:=Ae (P:=prog) (c 1 _ y rfl rfl);refine⟨.int .i64 (Lib.compareBytes (nR a) (nR b)),?_,.d (.int _ _)⟩;have hc:(Extern.BytealgCompare.compare #[x,y]).run prog w=.ok (.int .i64 (Lib.compareBytes (nR a) (nR b))) w:=by
   change Sem.run prog (do pure (goInt (Extern.BytealgCompare.cmp (←Extern.Bytes.bytesOf x) (←Extern.Bytes.bytesOf y)))) w=_;simp only[Sem.run_bind,i,f,Result.andThen_ok,Sem.run_pure,Lib.cmp_eq];rfl
  rw[run_callFunc_extern func205 (by kernel_rfl) (by kernel_rfl) (by kernel_rfl) (e:=Extern.BytealgCompare.compare) (by kernel_rfl),hc];rfl
theorem GP(a b:List Nat):fm prog 177 [.d (nb a),.d (nb b)] (.d (.int .i64 (Lib.compareBytes (nR a) (nR b)))):=by
 refine bL func177 ntmps177 (rs:=[.tmp 4]) a9 ?_;simp only[go_sem,Nat.reduceEqDiff,Nat.reduceAdd,Nat.reduceLT,↓reduceIte];refine ug (TG a b) ?_;simp[go_sem,ah];exact aa a9 rfl
def fB:List Nat:=[84,97,112,66,114,97,110,99,104]
def cG(a b:List Nat):List Nat:=fQ fB (if 0<Lib.compareBytes (nR a) (nR b)then b++a else a++b)
theorem Ef{hp:Hp}{I:Nat→Prop}{id:Nat}{L:List Nat}(c:L.length=64)(b:lk id hp=some ⟨5,1,rb L⟩)(a:I id):SnapD hp I (.own id 0 64 64) (nb L):=by
 have h:=sJ (i0:=0) (n:=64) (L:=L) b a aq;rw[List.drop_zero,cx aq,c]at h;exact h
theorem Af(a b:List Nat)(h:a.length=32)(g:b.length=32):fm prog 153 [.agg (cb a),.agg (cb b)] (.agg (cb (cG a b))):=by
 refine bL func153 ntmps153 (rs:=[.cell 4 29]) (by simp[AV.deep];exact⟨bp _,bp _⟩) ?_;simp[go_sem,h,g];refine cK [0,1] [(2,[3])] 1 (k:=4) ?_;intro G e;simp[go_sem];refine ju (GP a b) rfl (ak (.one (am (fh rfl trivial h))) (ak (.one (am (fh rfl trivial g))) aF)) trivial ?_;simp[go_sem];refine e _ _ ?_;clear e G;by_cases hc:0<Lib.compareBytes (nR a) (nR b)
 ·have i:List.drop 32 (cb a)=[]:=c_ (by rw[aj];omega);have j:List.drop 32 (cb b)=[]:=c_ (by rw[aj];omega);simp[go_sem,hc,h,g,i,j,al h,al g];refine cK [0,1] [(2,[]),(3,[]),(4,[])] 0 (k:=5) ?_;intro G e;have c:=jz g;have d:=jz h;rw[dx]at c d;simp[go_sem]at c d;have m:(b++a).length=64:=by rw[b_];omega
  simp[go_sem];refine bJ [416] (jc fB (.str [84,97,112,66,114,97,110,99,104]) rfl (b++a) (by simp[fB]) aq) rfl (ak (.deep a9) (ak (.one (am (Ef (L:=b++a) m (by simp[lk];rw[←lJ,←c,←d];rfl) aw))) aF)) ?_;have l:cG a b=fQ fB (b++a):=by unfold cG;rw[if_pos hc]
  rw[l]at e;have f:(fQ fB (b++a)).length=32:=aR _;generalize fQ fB (b++a)=R at *;simp[go_sem,aC,f];refine e _ _ ?_;clear e G;simp[go_sem,ah,f,al f,cf];exact aa (by simp[AV.deep];exact bp _) rfl
 ·have i:List.drop 32 (cb a)=[]:=c_ (by rw[aj];omega);have j:List.drop 32 (cb b)=[]:=c_ (by rw[aj];omega);simp[go_sem,hc];refine cK [0,1] [(2,[]),(3,[]),(4,[])] 0 (k:=5) ?_;intro G e;have c:=jz h;have d:=jz g;rw[dx]at c d;simp[go_sem]at c d;have m:(a++b).length=64:=by rw[b_];omega
  simp[go_sem];refine bJ [288] (jc fB (.str [84,97,112,66,114,97,110,99,104]) rfl (a++b) (by simp[fB]) aq) rfl (ak (.deep a9) (ak (.one (am (Ef (L:=a++b) m (by simp[lk];rw[←lJ,←c,←d];rfl) aw))) aF)) ?_;have l:cG a b=fQ fB (a++b):=by unfold cG;rw[if_neg hc]
  rw[l]at e;have f:(fQ fB (a++b)).length=32:=aR _;generalize fQ fB (a++b)=R at *;simp[go_sem,aC,f];refine e _ _ ?_;clear e G;simp[go_sem,ah,f,al f,cf];exact aa (by simp[AV.deep];exact bp _) rfl
def cd(l:List Nat):List DV:=l.map fun(x:Nat)=>DV.int .u8 (x:Int)
theorem b7(l:List Nat):(cd l).length=l.length:=by simp[cd]
theorem dc(l:List Nat):(cd l).map AV.d=cb l:=by simp[cd,cb]
def cz(ps:List (List Nat)):DV:=.ro 32 (ps.map cd)
def au(inner:List Nat)(b a:AV):List AV:=cb inner++[b,a]
def jS(ps:List (List Nat))(h:List Nat):List Nat:=ps.foldl cG h
def TJ:List Nat:=[84,97,112,76,101,97,102]
def eD(x:List Nat):List Nat:=fQ TJ (192::(az x.length++x))
theorem nh(x:List Nat):(eD x).length=32:=aR _
theorem jd(a b:List Nat):(cG a b).length=32:=aR _
theorem abn:gi prog 33=some (au z32 .nil .nil):=by kernel_rfl
attribute [go_sem] abn
theorem ia{l:List Nat}(h:l.length=32):List.drop 32 (cb l)=[]:=c_ (by rw[aj];omega)
theorem jA{inner:List Nat}(hi:inner.length=32)(a b:AV):(cb inner++[a,b])[32]?=some a:=by
 rw[dn (by rw[aj];omega),aj,hi];rfl
theorem lK{inner:List Nat}(hi:inner.length=32)(a b:AV):(cb inner++[a,b])[33]?=some b:=by
 rw[dn (by rw[aj];omega),aj,hi];rfl
theorem GQ{ps:List (List Nat)}{k:Nat}{p h:List Nat}(b:ps[k]?=some p):jS (ps.drop k) h=jS (ps.drop (k+1)) (cG h p):=by
 obtain⟨c,a⟩:=ci.1 b;unfold jS;rw[List.drop_eq_getElem_cons c,List.foldl_cons,a]
theorem TL(inner:List Nat)(ps:List (List Nat))(x:List Nat)(hi:inner.length=32)(f:∀p,p∈ps→p.length=32)(o:ps.length≤1000)(v:x.length≤100000) :
  fm prog 137 [.agg (au inner (.d (cz ps)) (.d (nb x)))] (.agg (cb (jS ps (eD x)))):=by
 refine bL func137 ntmps137 (rs:=[.cell 2 29]) (by
  simp[AV.deep,au];intro c hc;rcases hc with hc|rfl|rfl;exact bp _ _ hc;trivial
  trivial) ?_
 simp[go_sem,au,lK hi];refine ag (o8 x v) a9 ?_;have n:(fQ [84,97,112,76,101,97,102] (192::(az x.length++x))).length=32:=aR _;have l:jS ps (eD x)=jS (ps.drop 0) (fQ [84,97,112,76,101,97,102] (192::(az x.length++x))):=by rw[List.drop_zero];rfl
 rw[l];generalize fQ [84,97,112,76,101,97,102] (192::(az x.length++x))=R at *;generalize s:jS (ps.drop 0) R=T;clear l;simp[go_sem,jA hi,cz,n,cf]
 refine av (fun t:Nat×List Nat=>⟨[(2,.ptr 32 0 0 1),(3,.ptr 160 0 0 1),(10,.d (cz ps)),(11,.d (.int .i64 (ps.length:Int))),(12,.d (.int .i64 (t.1:Int)))],[(32,⟨29,32,[cb z32]⟩),(160,⟨29,32,[cb t.2]⟩)],1000⟩)
  (fun t=>t.1≤ps.length∧t.2.length=32∧jS (ps.drop t.1) t.2=T) (fun t=>ps.length-t.1) (0,R) ⟨aq,n,s⟩ (by
   simp[aA,ai,fv,lk,AV.low,AV.l,cz]
   exact⟨aI _ _,aI _ _⟩) ?_
 rintro⟨k,h⟩⟨y,b,a⟩;simp only at y b a;simp only[go_sem,Nat.reduceEqDiff,Nat.reduceAdd,Nat.reduceLT,↓reduceIte];refine⟨fun q=>?_,fun u=>?_⟩
 ·have g:k<ps.length:=aq;have i:=cm g;generalize ps[k]=p at i;have e:p.length=32:=f p (cr i);rw[GQ i]at a;simp[go_sem,cz,i,b7,e,dc,al e,aj,b,al b,cf];refine ag (Af h p b e) (by simp[AV.deep];exact⟨bp _,bp _⟩) ?_;have m:=jd h p;generalize cG h p=B at *;simp[go_sem,aj,m,b,ia b];refine ao (k+1,B) ⟨aq,m,a⟩ aq ?_;have w:=ay (k:=k) aq;simp[aA,ai,fv,lk,AV.low,AV.l,w];exact⟨aI _ _,aI _ _⟩
 ·have j:k=ps.length:=aq;subst j;have:T=h:=by rw[←a,List.drop_length];rfl
  subst this;simp[go_sem,b,al b,cf];exact aa (by simp[AV.deep];exact bp _) rfl
theorem Ol(k:List Nat)(a:k.length=32):fm prog 76 [.d (nb (81::32::k))] (.tup [.agg (cb k),.d (.bool true)]):=by
 refine bL func76 ntmps76 (rs:=[.cell 2 29,.tmp 3]) a9 ?_;have c:List.take 32 (List.map (fun(b:Nat)=>[DV.int .u8 (b:Int)]) k)=List.map (fun(b:Nat)=>[DV.int .u8 (b:Int)]) k:=cx (by simp[a]);have e:(List.map (fun(b:Nat)=>[DV.int .u8 (b:Int)]) k).flatten=cd k:=by
  clear a c
  induction k with
  |nil=>rfl
  |cons x r ih=>simp only[List.map_cons,List.flatten_cons,ih];rfl
 simp[go_sem,nb,a,c,e,-List.map_flatten,-List.length_flatten,dc,aj,al a,cf,ah];exact aa (by simp[AV.deep,AV.deep1];exact bp _) rfl
def vO{α:Type}:Nat→(Nat→α)→α
 |0,k=>k 0
 |n+1,k=>k (n+1)
theorem lL{α:Type}(n:Nat)(k:Nat→α):vO n k=k n:=by cases n<;>rfl
def rdF{α:Type}(s:S8)(k w:Nat)(C:S8→α):α:=vO (T1 s k w) fun t=>vO (mW t (T2 s)) fun x=>vO (mW s.d t) fun y=>C ⟨x,s.a,s.b,s.c,y,s.e,s.f,s.g⟩
theorem X7{α:Type}(s:S8)(k w:Nat)(C:S8→α):rdF s k w C=C (rd s k w):=by simp only[rdF,lL,rd]
def xB{α:Type}:List Nat→List Nat→S8→(S8→α)→α
 |k::ks,w::ws,s,C=>rdF s k w fun a=>xB ks ws a C
 |_,_,s,C=>C s
theorem Eg{α:Type}:∀(a b:List Nat)(s:S8)(C:S8→α),xB a b s C=C ((a.zip b).foldl II s)
 |[],_,s,C=>by simp[xB]
 |k::a,[],s,C=>by simp[xB]
 |k::a,w::b,s,C=>by simp only[xB,X7,Eg a b,List.zip_cons_cons,List.foldl_cons];rfl
def Eh{α:Type}:List Nat→(List Nat→α)→α
 |[],C=>C []
 |x::r,C=>vO x fun y=>Eh r fun q=>C (y::q)
theorem xC{α:Type}:∀(l:List Nat)(C:List Nat→α),Eh l C=C l
 |[],C=>rfl
 |x::r,C=>by simp only[Eh,lL,xC r]
def wxR(l:List Nat):Nat :=
 mW (mW (mW (l.getD 15 0) (o5 (o5 (rj 25 (l.getD 14 0)) (rj 14 (l.getD 14 0))) (fe 3 (l.getD 14 0)))) (l.getD 6 0)) (o5 (o5 (rj 15 (l.getD 1 0)) (rj 13 (l.getD 1 0))) (fe 10 (l.getD 1 0)))
theorem sL(w:List Nat)(i:Nat)(h:i<w.length):w.reverse.getD i 0=w.getD (w.length-1-i) 0:=by
 rw[cR,cR,List.getElem?_reverse h]
theorem X8(w:List Nat)(h:16≤w.length):wxR w.reverse=wx w:=by
 unfold wxR wx;rw[sL w 15 aq,sL w 14 aq,sL w 6 aq,sL w 1 aq];rw[show w.length-1-15=w.length-16 by omega,show w.length-1-14=w.length-15 by omega,show w.length-1-6=w.length-7 by omega,show w.length-1-1=w.length-2 by omega]
def TM{α:Type}:Nat→List Nat→(List Nat→α)→α
 |0,l,C=>C l
 |n+1,l,C=>vO (wxR l) fun x=>TM n (x::l) C
theorem IR{α:Type}(b:List Nat):∀(n m:Nat)(C:List Nat→α),TM n (dH b m).reverse C=C (dH b (m+n)).reverse
 |0,m,C=>rfl
 | n+1,m,C=>by
  have h:wxR (dH b m).reverse::(dH b m).reverse=(dH b (m+1)).reverse:=by
   rw[X8 _ (by rw[pV];omega)];simp[dH]
  simp only[TM,lL,h];rw[IR b n (m+1) C,show m+1+n=m+(n+1)by omega]
def Om{α:Type}(s:S8)(b:List Nat)(C:S8→α):α :=
 Eh (jw b 16) fun q=>TM 48 q.reverse fun l=>xB K l.reverse s fun v=>C (D3 s v)
theorem On{α:Type}(s:S8)(b:List Nat)(C:S8→α):Om s b C=C (take s b):=by
 unfold Om;rw[xC];have:=IR b 48 0 (fun l=>xB K l.reverse s fun v=>C (D3 s v));simp only[dH]at this;rw[this,List.reverse_reverse,Eg];rfl
def eb:S8:=⟨2631984358,2081516601,951306994,3272560777,3555955564,1197698656,2108899050,3720802505⟩
def lc:S8:=⟨2824544519,4153520746,2229753964,684640203,1629499091,3491316952,844107574,931321461⟩
theorem we(l:List Nat):cF .u8 (cb l)=some (l.map fun(x:Nat)=>(x:Int)):=by
 have:=DW .u8 (l.map fun(x:Nat)=>(x:Int));rw[List.map_map]at this;exact this
theorem xE{a b:List Nat}:(a.map fun(x:Nat)=>(x:Int))=b.map (fun(x:Nat)=>(x:Int))↔a=b:=by
 constructor;intro h;have:=congrArg (List.map Int.toNat) h;simpa[List.map_map,Function.comp_def]using this;rintro rfl;rfl
theorem Ag{hp:Hp}{I:Nat→Prop}{a a':List AV}:∀(l:List AV),(∀c,c∈l→c.deep1)→(∀(i:Nat)(c b:AV),a[i]?=some c→a'[i]?=some b→fP hp I c b)→∀(i:Nat)(c b:AV),(l++a)[i]?=some c→(l++a')[i]?=some b→fP hp I c b
 |[],_,h=>h
 |x::l,hl,h=>ax (aM (hl x (dz ..))) (Ag l (fun c hc=>hl c (cS _ hc)) h)
theorem xF:∀(x y:List UInt8),(0<Lib.compareBytes x y↔Lib.compareBytes y x<0)∧(Lib.compareBytes x y=0→x=y)
 |[],[]=>by simp[Lib.compareBytes]
 |[],_::_=>by simp[Lib.compareBytes]
 |_::_,[]=>by simp[Lib.compareBytes]
 | a :: x,b :: y=>by
  have e:=xF x y;simp only[Lib.compareBytes];by_cases c:a<b;have d:¬b<a:=fun h=>by
   have:=UInt8.lt_iff_toNat_lt.1 h;have:=UInt8.lt_iff_toNat_lt.1 c;omega
  simp[c,d];by_cases d:b<a;simp[c,d];have:a=b:=UInt8.toNat_inj.1 (by
   have f:¬a.toNat<b.toNat:=fun h=>c (UInt8.lt_iff_toNat_lt.2 h);have g:¬b.toNat<a.toNat:=fun h=>d (UInt8.lt_iff_toNat_lt.2 h)
   omega)
  subst this;simp only[c,if_false];exact⟨e.1,fun h=>by rw[e.2 h]⟩
def bytes(l:List Nat):Prop:=∀x,x∈l→x<256
theorem IS:∀{a b:List Nat},bytes a→bytes b→nR a=nR b→a=b
 |[],[],_,_,_=>rfl
 |[],_::_,_,_,h=>by simp[nR,Lib.bytesOf]at h
 |_::_,[],_,_,h=>by simp[nR,Lib.bytesOf]at h
 | x :: a,y :: b,ha,hb,h=>by
  have i:=ha x (dz ..);have g:=hb y (dz ..);simp[nR,Lib.bytesOf]at h;obtain⟨f,d⟩:=h;have:=IS (fun z c=>ha z (cS _ c)) (fun z c=>hb z (cS _ c)) (by simpa[nR,Lib.bytesOf]using d);have e:x=y:=by
   have:=congrArg UInt8.toNat f;rw[UInt8.toNat_ofNat',UInt8.toNat_ofNat',Nat.mod_eq_of_lt aq,Nat.mod_eq_of_lt aq]at this;exact this
  rw[this,e]
theorem BC{a b:List Nat}(g:bytes a)(e:bytes b):cG a b=cG b a:=by
 unfold cG;obtain⟨j,i⟩:=xF (nR a) (nR b);obtain⟨d,k⟩:=xF (nR b) (nR a);by_cases c:0<Lib.compareBytes (nR a) (nR b);have c2:¬ 0<Lib.compareBytes (nR b) (nR a):=by have:=j.1 c;omega
 rw[if_pos c,if_neg c2];by_cases c2:0<Lib.compareBytes (nR b) (nR a);rw[if_neg c,if_pos c2];have f:Lib.compareBytes (nR a) (nR b)=0:=by
  have:¬Lib.compareBytes (nR a) (nR b)<0:=fun h=>c2 (d.2 h);omega
 have:=IS g e (i f);subst this;rfl
theorem d6(l:List Nat):(AV.agg (cb l)).deep:=bp l
theorem Ei{n:Nat}:∀(m:Nat){c:List DV},KR (kH prog (n+1)) prog.cellsOf (List.replicate m 5) c→∃l:List Nat,c=cd l∧l.length=m∧bytes l
 |0,c,h=>⟨[],by simpa[KR,cd]using h,rfl,fun _ h=>by simp at h⟩
 | m+1,c,h=>by
  rw[List.replicate_succ]at h;obtain⟨a,b,rfl,_,e,f⟩:=h;simp only[kH,underlying5]at e;obtain⟨x,rfl,j⟩:=e;obtain⟨l,rfl,k,g⟩:=Ei m f;have i:0≤x∧x<256:=by simp[IntKind.has,IntKind.min,IntKind.max,IntKind.signed,IntKind.bits]at j;omega
  refine⟨x.toNat::l,?_,by simp[k],fun y d=>?_⟩;simp only[cd,List.map_cons,List.cons_append,List.nil_append];rw[show((x.toNat:Nat):Int)=x by omega];rcases d_.1 d with rfl|d;omega;exact g y d
theorem BD{n:Nat}{a:List DV}(h:kH prog (n+2) 29 a):∃l:List Nat,a=cd l∧l.length=32∧bytes l:=by
 rw[kH]at h;simp only[underlying29]at h;exact Ei 32 h
theorem TN{n:Nat}{a:AV}(h:sF prog (n+2) 29 a):∃l:List Nat,a=.agg (cb l)∧l.length=32∧bytes l:=by
 unfold sF at h;simp only[underlying29]at h;obtain⟨d,rfl,h⟩:=h;obtain⟨l,rfl,c,b⟩:=BD h;exact⟨l,by rw[dc],c,b⟩
theorem xG{n:Nat}{d:DV}(h:kH prog (n+2) 31 [d]):∃a:List Nat,d=nb a∧a.length≤maxLen∧bytes a:=by
 simp only[kH,underlying31,List.cons.injEq,and_true]at h;obtain⟨es,rfl,k,g⟩:=h;obtain⟨a,rfl,e⟩:=xn (enc:=fun b:Nat=>[DV.int .u8 (b:Int)]) (R:=fun b=>b<256) (es:=es) (fun r c=>by
  obtain⟨f,l⟩:=g r c;simp only[underlying5]at f;obtain⟨x,rfl,j⟩:=f;have i:0≤x∧x<256:=by simp[IntKind.has,IntKind.min,IntKind.max,IntKind.signed,IntKind.bits]at j;omega
  exact⟨x.toNat,by rw[show((x.toNat:Nat):Int)=x by omega],aq⟩)
 exact⟨a,by rw[show prog.cellsOf 5=1 by kernel_rfl];rfl,by simpa using k,e⟩
theorem Ah{a:List Nat}(b:a.length%64=0):∀(n:Nat)(l:List Nat),Go.Proofs.YtmfnimjnneflnaaGreat.padTo n (a++l)=a++Go.Proofs.YtmfnimjnneflnaaGreat.padTo n l
 |0,l=>rfl
 |n+1,l=>by
  unfold Go.Proofs.YtmfnimjnneflnaaGreat.padTo;have:(a++l).length%64=l.length%64:=by rw[b_];omega
  rw[this];split;rfl;rw[cA];exact Ah b n (l++[0])
theorem GR{a l:List Nat}(b:a.length%64=0)(n:Nat):Go.Proofs.YtmfnimjnneflnaaGreat.lastOf (a++l) n=a++Go.Proofs.YtmfnimjnneflnaaGreat.lastOf l n:=by
 unfold Go.Proofs.YtmfnimjnneflnaaGreat.lastOf;rw[cA,Ah b,cA]
theorem Oo(n:Nat):∀(k:Nat)(s:S8)(b:List Nat),b.length≤k→E s (Go.Proofs.YtmfnimjnneflnaaGreat.lastOf b n)=E (E s b).1 (Go.Proofs.YtmfnimjnneflnaaGreat.lastOf (E s b).2 n)
 |0,s,b,h=>by rw[rl (b:=b) aq]
 | k+1,s,b,h=>by
  by_cases a:64≤b.length;rw[uk (b:=b) a];have e:Go.Proofs.YtmfnimjnneflnaaGreat.lastOf b n=b.take 64++Go.Proofs.YtmfnimjnneflnaaGreat.lastOf (b.drop 64) n:=by
   rw[←GR (by rw[List.length_take];omega),List.take_append_drop]
  have c:64≤(b.take 64++Go.Proofs.YtmfnimjnneflnaaGreat.lastOf (b.drop 64) n).length:=by simp;omega
  rw[e,uk c];have d:(b.take 64).length=64:=by rw[List.length_take];omega
  rw[List.take_append_of_le_length aq,List.drop_append_of_le_length aq,cx (by omega:(b.take 64).length≤64),c_ aq,List.nil_append];exact Oo n k _ _ (by rw[e_];omega);rw[rl (b:=b) aq]
theorem four{b:List Nat}{k:Nat}(h:k+4≤b.length):∃x0 x1 x2 x3,b[k]?=some x0∧b[k+1]?=some x1∧b[k+2]?=some x2∧b[k+3]?=some x3∧(b.take (k+4)).drop k=[x0,x1,x2,x3]:=by
 refine⟨b[k],b[k+1],b[k+2],b[k+3],cm _,cm _,cm _,cm _,?_⟩;rw[List.drop_take,show k+4-k=4 by omega,List.drop_eq_getElem_cons (by omega:k<b.length),List.drop_eq_getElem_cons (by omega:k+1<b.length),List.drop_eq_getElem_cons (by omega:k+1+1<b.length),List.drop_eq_getElem_cons (by omega:k+1+1+1<b.length)];rfl
theorem sM(x:Nat):t8 x<256:=Nat.mod_lt _ (by decide)
theorem Ai(l:List Nat):∀n x,x∈pre l n→x<256
 |0,x,h=>by simp[pre]at h
 |n+1,x,h=>by
  rcases cD.1 h with h|h;exact Ai l n x h;simp[BB]at h;rcases h with rfl|rfl|rfl|rfl<;>exact sM _
theorem eE(b:List Nat):∀x,x∈bc b→x<256:=fun x h=>Ai _ 8 x h
theorem bq{hp:Hp}{I:Nat→Prop}{id n:Nat}{L:List Nat}(c:L.length=n)(b:lk id hp=some ⟨5,1,rb L⟩)(a:I id):SnapD hp I (.own id 0 n n) (nb L):=by
 subst c;have h:=sJ (i0:=0) (n:=L.length) (L:=L) b a aq;rw[List.drop_zero,cx (cL _)]at h;exact h
theorem abo(a:Nat):t8 (t8 a)=t8 a:=by unfold t8;omega
theorem abp(n:Nat):le (t8 n) 1=le n 1:=by simp[le,fe,abo]
theorem X9(n:Nat):le (Oi n) 2=le n 2:=by
 have b:t8 (fe (8*0) (Oi n))=t8 (fe (8*0) n):=by simp only[t8,fe,Oi];omega
 have a:t8 (fe (8*1) (Oi n))=t8 (fe (8*1) n):=by simp only[t8,fe,Oi];omega
 simp only[le,b,a]
theorem Ya(n:Nat):le (zT n) 4=le n 4:=by
 have c:t8 (fe (8*0) (zT n))=t8 (fe (8*0) n):=by simp only[t8,fe,zT];omega
 have b:t8 (fe (8*1) (zT n))=t8 (fe (8*1) n):=by simp only[t8,fe,zT];omega
 have d:t8 (fe (8*2) (zT n))=t8 (fe (8*2) n):=by simp only[t8,fe,zT];omega
 have a:t8 (fe (8*3) (zT n))=t8 (fe (8*3) n):=by simp only[t8,fe,zT];omega
 simp only[le,c,b,d,a]
theorem ni(b:List Nat)(x n:Nat)(m:Int)(p:m=(n:Int))(u:b.length≤10000000000)(j:x<18446744073709551616)(q:n≤8):cZ prog 174 0 [] [.d (nb b),.d (.int .u64 (x:Int)),.d (.int .i64 m)] (fun r a=>r=.own 33 0 (b++le x n).length (b++le x n).length∧lk 33 a=some ⟨5,1,rb (b++le x n)⟩):=by
 subst p;refine ap func174 (by kernel_rfl) rfl ntmps174 (rs:=[.tmp 6]) rfl (dN rfl) (by decide) ?_;simp[go_sem,nb,dx,aJ];refine⟨aq,?_⟩
 refine av (fun k:Nat=>⟨[(1,.d (.int .u64 ((fe (8*k) x:Nat):Int))),(2,.d (.int .i64 (n:Int))),(7,.own 33 0 (b++le x k).length (b++le x k).length),(8,.d (.int .i64 (k:Int)))],[(33,⟨5,1,rb (b++le x k)⟩)],300⟩)
  (fun k=>k≤n) (fun k=>n-k) 0 aq (by
   simp[aA,ai,fv,lk,AV.low,AV.l,le,fe]
   exact aZ _ _) ?_
 intro k v;have t:(b++le x k).length=b.length+k:=by rw[b_,aO]
 have g:rb (b++le x k)++[[AV.d (.int .u8 ((t8 (fe (8*k) x):Nat):Int))]]=rb (b++le x (k+1)):=by rw[iQ,cA];rfl
 have f:fe (8*k) x<18446744073709551616:=Nat.lt_of_le_of_lt (Nat.div_le_self _ _) j;have e:IntKind.u64.wrap (Int.tdiv ((fe (8*k) x:Nat):Int) 256)=((fe (8*(k+1)) x:Nat):Int):=by
  have i:Int.tdiv ((fe (8*k) x:Nat):Int) 256=((fe (8*k) x/256:Nat):Int):=(Int.ofNat_tdiv _ 256).symm;have l:fe (8*k) x/256=fe (8*(k+1)) x:=by
   unfold fe;rw[Nat.div_div_eq_div_mul,show 2 ^ (8*k)*256=2 ^ (8*(k+1))by rw[show 8*(k+1)=8*k+8 by omega,Nat.pow_add]]
  have s:fe (8*k) x/256≤fe (8*k) x:=Nat.div_le_self _ _;rw[i,iW,←l];omega
 have o:=ay (k:=k) aq;simp only[go_sem,Nat.reduceEqDiff,Nat.reduceAdd,Nat.reduceLT,↓reduceIte,Nat.reduceMul];refine⟨fun h=>?_,fun h=>?_⟩
 ·simp only[go_sem,gl,aJ,g,aO,e,o];refine⟨aq,aq,by decide,?_⟩;refine ao (k+1) aq aq ?_;simp[aA,ai,fv,lk,AV.low,AV.l];exact⟨aq,aZ _ _⟩
 ·have c:k=n:=aq;subst c;simp[go_sem]
def xH(L:List Nat)(r:AV)(a:Hp):Prop:=∃I,r=.own I 0 L.length L.length∧lk I a=some ⟨5,1,rb L⟩
theorem nj{g:FuncId}{args:List AV}{L:List Nat}(h:cZ prog g 0 [] args (xH L))(a:∀v,v∈args→v.deep):ar prog g args (fun r=>r=.d (nb L)) :=
 KQ h a fun r b⟨I,hr,hb⟩=>⟨.d (nb L),by subst hr;exact .one (am (bq rfl hb trivial)),trivial,rfl⟩
theorem Yb{g:FuncId}{k:Nat}{i:Hp}{args:List AV}{Q j:AV→Hp→Prop}(h:cZ prog g k i args Q)(hq:∀r d,Q r d→j r d):cZ prog g k i args j:=by
 obtain⟨q,p,o⟩:=h;refine⟨q,p,fun w S σ l a b c=>(o w S σ l a b c).mono fun e u t=>?_⟩;obtain⟨x,r,d,s,σ',m,n,f⟩:=t;exact⟨x,r,d,s,σ',m,hq r d n,f⟩
theorem sN(b:List Nat)(x n:Nat)(m:Int)(e:m=(n:Int))(c:b.length≤10000000000)(f:x<18446744073709551616)(a:n≤8):fm prog 174 [.d (nb b),.d (.int .u64 (x:Int)),.d (.int .i64 m)] (.d (nb (b++le x n))) :=
 nj (Yb (ni b x n m e c f a) fun r g h=>⟨33,h.1,h.2⟩) a9
theorem nS(b:List Nat)(n:Nat)(j:b.length≤1000000)(i:n<4294967296):cZ prog 175 0 [] [.d (nb b),.d (.int .u64 (n:Int))] (xH (b++az n)):=by
 refine ap func175 (by kernel_rfl) rfl ntmps175 (rs:=[.tmp 4]) rfl (dN rfl) (by decide) ?_;by_cases g:n<253
 ·have e:az n=le n 1:=by unfold az;rw[if_pos g,abp]
  rw[e];have f:(n:Int)<253:=aq;simp[go_sem,f];refine aS [] (ni b n 1 1 rfl aq aq aq) rfl aw aw aw (by simp[AV.R,AV.r]) ?_;rintro r c⟨rfl,a⟩;refine⟨[(33,0)],rfl,?_⟩;simp[go_sem,cj,bK,a,Blk.r,aQ,dE,AV.r,cn,ah,xH]
 ·have f:¬(n:Int)<253:=aq;by_cases h:n<65536
  ·have e:az n=le 253 1++le n 2:=by unfold az;rw[if_neg g,if_pos h,X9]
   have i2:(n:Int)<65536:=aq;rw[e,←cA];simp[go_sem,f,i2,-List.append_assoc];refine ag (sN b 253 1 1 rfl aq aq aq) a9 ?_;simp[go_sem,-List.append_assoc];refine aS [] (ni (b++le 253 1) n 2 2 rfl (by rw[b_,aO];omega) aq aq) rfl aw aw aw (by simp[AV.R,AV.r]) ?_;rintro r c⟨rfl,a⟩;refine⟨[(33,0)],rfl,?_⟩;simp[go_sem,cj,bK,a,Blk.r,aQ,dE,AV.r,cn,ah,xH,-List.append_assoc]
  ·have e:az n=le 254 1++le n 4:=by unfold az;rw[if_neg g,if_neg h,Ya]
   have i2:¬(n:Int)<65536:=aq;have i3:(n:Int)<4294967296:=aq;rw[e,←cA];simp[go_sem,f,i2,i3,-List.append_assoc];refine ag (sN b 254 1 1 rfl aq aq aq) a9 ?_;simp[go_sem,-List.append_assoc];refine aS [] (ni (b++le 254 1) n 4 4 rfl (by rw[b_,aO];omega) aq aq) rfl aw aw aw (by simp[AV.R,AV.r]) ?_;rintro r c⟨rfl,a⟩;refine⟨[(33,0)],rfl,?_⟩;simp[go_sem,cj,bK,a,Blk.r,aQ,dE,AV.r,cn,ah,xH,-List.append_assoc]
theorem zh(b x:List Nat)(f:b.length≤1000000)(g:x.length<1000000):cZ prog 176 0 [] [.d (nb b),.d (nb x)] (xH (b++az x.length++x)):=by
 refine ap func176 (by kernel_rfl) rfl ntmps176 (rs:=[.tmp 4]) rfl (dN rfl) (by decide) ?_;have w:IntKind.u64.wrap (x.length:Int)=(x.length:Int):=by rw[iW];omega
 have a:=cC x.length;simp only[go_sem,Nat.reduceEqDiff,Nat.reduceAdd,Nat.reduceLT,↓reduceIte,nb,List.length_map,w];refine aS [] (nS b x.length aq aq) rfl aw aw aw (by simp[AV.R,AV.r,nb]) ?_;rintro r e⟨I,rfl,c⟩;refine⟨[(I,0)],by simp[de,gB],?_⟩;simp[go_sem,cj,bK,c,Blk.r,aQ,dE,AV.r,cn,dx,aJ,ah];refine⟨aq,161,?_,?_⟩
 rw[show(b++(az x.length++x)).length=b.length+(az x.length).length+x.length by simp;omega];simp[lk,←lJ]
theorem sO(b x:List Nat)(a:b.length≤1000000)(c:x.length<1000000):fm prog 176 [.d (nb b),.d (nb x)] (.d (nb (b++(az x.length++x)))):=by
 rw[←cA];exact nj (zh b x a c) a9
def sb(l:List Nat):List Int:=l.map fun(x:Nat)=>(x:Int)
theorem Yc{a b:List Nat}:sb a=sb b↔a=b:=xE
abbrev Wd:=Nat×List Nat
def ij(x:List Nat):Wd:=(if x.length≤75 then x.length else if x.length≤255 then 76 else 77,x)
def c6(x:List Nat):Wd :=
 match x with
 |[c]=>if 1≤c∧c≤16 then(80+c,[])else if c=129 then(79,[])else ij [c]
 |x=>ij x
theorem GU{x:List Nat}(h:x.length≠1):c6 x=ij x:=by
 match x,h with
 |[],_=>rfl
 |[c],h=>exact absurd rfl h
 |_::_::_,_=>rfl
theorem V5{x:Nat}(h:x<256):t8 x=x:=Nat.mod_eq_of_lt h
def qL(w:Wd):List DV:=[.int .u8 (w.1:Int),nb w.2]
def sP(w:Wd):List AV:=[.d (.int .u8 (w.1:Int)),.d (nb w.2)]
theorem eo(b:List Nat)(e:b.length≤100000000000):fm prog 52 [.d (nb b)] (.d (nb b)):=by
 refine bL func52 ntmps52 (rs:=[.tmp 2]) a9 ?_;simp only[go_sem,nb,Nat.reduceEqDiff,Nat.reduceAdd,Nat.reduceLT,↓reduceIte];intro t a
 cases t with
 |true =>
  have c:b=[]:=List.eq_nil_of_length_eq_zero (by simpa using a rfl);subst c;simp only[go_sem,Nat.reduceAdd,Nat.reduceLT,↓reduceIte];exact d5 (.inr ⟨_,rfl,.nil 1⟩) a9 rfl
 |false =>
  simp[go_sem,dx,aJ];refine⟨aq,d5 (am (bq (L:=b) rfl rfl trivial)) a9 rfl⟩
theorem pY(x:List Nat)(o:x.length≤60000)(h:bytes x):fm prog 16 [.d (nb x)] (.agg (sP (c6 x))):=by
 refine bL func16 ntmps16 (rs:=[.cell 2 42]) a9 ?_;by_cases l:x.length=1
 ·obtain⟨c,rfl⟩:∃c,x=[c]:=by
   match x,l with
   |[c],_=>exact⟨c,rfl⟩
  have hc:=h c aw;by_cases m:1≤c∧c≤16
  ·have a:1≤(c:Int):=aq;have i2:(c:Int)≤16:=aq;have b:c6 [c]=(80+c,[]):=if_pos m;have w:IntKind.u8.wrap (80+(c:Int))=((80+c:Nat):Int):=by rw[MF];omega
   rw[b];simp[go_sem,nb,a,i2,w,ah];exact xm (ax (aM trivial) (ax (am (.nil 1)) ca)) rfl a9 (by simp[sP,nb])
  ·by_cases k:c=129
   ·subst k;have b:c6 [129]=(79,[]):=rfl;rw[b];simp[go_sem,nb,ah];exact xm (ax (aM trivial) (ax (am (.nil 1)) ca)) rfl a9 (by simp[sP,nb])
   ·have b:c6 [c]=ij [c]:=(if_neg m).trans (if_neg k);have e:¬(c:Int)=129:=aq;rw[b];by_cases p:1≤c
    ·have a:1≤(c:Int):=aq;have i2:¬(c:Int)≤16:=aq;simp[go_sem,nb,a,i2,e];refine ag (eo [c] aw) a9 ?_;simp[go_sem,ah,nb];refine aa a9 ?_;simp[ij,sP,nb];decide
    ·have a:¬ 1≤(c:Int):=aq;simp[go_sem,nb,a,e];refine ag (eo [c] aw) a9 ?_;simp[go_sem,ah,nb];refine aa a9 ?_;simp[ij,sP,nb];decide
 ·have i:¬(x.length:Int)=1:=aq;rw[GU l];simp[go_sem,nb,i];refine ag (eo x aq) a9 ?_;rcases(by omega:x.length≤75∨(75<x.length∧x.length≤255)∨255<x.length)with f|⟨f,j⟩|f
  ·have a:(x.length:Int)≤75:=aq;simp[go_sem,a,ah,gl];refine aa a9 ?_;simp[ij,sP,nb,f,V5 (show x.length<256 by omega)]
  ·have a:¬(x.length:Int)≤75:=aq;have i2:(x.length:Int)≤255:=aq;have g:¬x.length≤75:=aq;simp[go_sem,a,i2,ah];refine aa a9 ?_;simp[ij,sP,nb,g,j]
  ·have a:¬(x.length:Int)≤75:=aq;have i2:¬(x.length:Int)≤255:=aq;have g:¬x.length≤75:=aq;have n:¬x.length≤255:=aq;simp[go_sem,a,i2,ah];refine aa a9 ?_;simp[ij,sP,nb,g,n]
def ef(w:Wd):List Nat×Bool :=
 if 0<w.1∧w.1≤75 then(w.1::w.2,decide (w.2.length=w.1))
 else if w.1=76 then(76::t8 w.2.length::w.2,decide (w.2.length≤255))
 else if w.1=77 then(77::t8 w.2.length::t8 (fe 8 w.2.length)::w.2,decide (w.2.length≤65535))
 else([w.1],decide (w.2.length=0))
theorem Ej(w:Wd):(ef w).1.length≤w.2.length+3:=by
 unfold ef;split;simp;split;simp;split;simp;simp
def vP:List Nat→List Wd→List Nat×Int
 |out,[]=>(out,0)
 |out,w::r=>if(ef w).2=true then vP (out++(ef w).1) r else([],1)
def K0(w:Wd):List Nat:=[w.1]++(if w.1=76∨w.1=77 then[t8 w.2.length]else[])++(if w.1=77 then[t8 (fe 8 w.2.length)]else[])++w.2
theorem wh{w:Wd}(h:(ef w).2=true):K0 w=(ef w).1:=by
 unfold ef at h⊢;unfold K0;by_cases c:0<w.1∧w.1≤75;have e:¬(w.1=76∨w.1=77):=aq;have d:¬w.1=77:=aq;rw[if_pos c,if_neg e,if_neg d];simp;by_cases b:w.1=76;simp[b];by_cases a:w.1=77;simp[a];rw[if_neg c,if_neg b,if_neg a]at h;have:w.2=[]:=by simpa using h
 simp[c,b,a,this]
theorem Ek(w:Wd):∀c,c∈sP w→c.deep1:=by
 intro c hc;simp[sP]at hc;rcases hc with rfl|rfl<;>trivial
theorem lM{Q:AV→Prop}{st:St}{id n:Nat}{b:Bool}{L:List Nat}(c:L.length=n)(a:lk id st.hp=some ⟨5,1,rb L⟩)(hq:Q (.tup [.d (nb L),.d (.bool b)])):dG Q (.tup [.own id 0 n n,.d (.bool b)]) st :=
 eC (ax (am (bq c a trivial)) (ax (aM trivial) ca)) rfl a9 hq
theorem Yd(w:Wd)(o:w.2.length≤60000)(q:w.1<256):fm prog 95 [.agg (sP w)] (.tup [.d (nb (ef w).1),.d (.bool (ef w).2)]):=by
 refine bL func95 ntmps95 (rs:=[.tmp 2,.tmp 3]) (by intro v i;simp at i;subst i;exact Ek w) ?_;obtain⟨b,p⟩:=w;simp only at o q;by_cases l:0<b∧b≤75
 ·obtain⟨e,s⟩:=l;have n:0<(b:Int):=aq;have i2:(b:Int)≤75:=aq;have t:IntKind.i64.wrap (b:Int)=(b:Int):=IntWalk.i64_in _ aq;simp[go_sem,sP,i2,e];refine cK [0,1,3,4,6,7,8,9,10] [(2,[]),(5,[11,12])] 2 (k:=13) ?_;intro G m;simp[go_sem,nb,dx,t,aJ];refine⟨aq,m _ _ ?_⟩;clear m G;have c:ef (b,p)=(b::p,decide (p.length=b)):=by unfold ef;rw[if_pos ⟨e,s⟩]
  rw[c];have a:decide ((p.length:Int)=(b:Int))=decide (p.length=b):=by congr 1;exact propext aq
  simp[go_sem,ah,a];exact lM (L:=b::p) (by simp;omega) rfl rfl
 ·by_cases j:b=76
  ·subst j;have c:ef (76,p)=(76::t8 p.length::p,decide (p.length≤255)):=rfl;rw[c];have a:decide ((p.length:Int)≤255)=decide (p.length≤255):=by congr 1;exact propext aq
   simp[go_sem,sP,nb,dx,aJ,gl,a,ah];exact⟨aq,lM (L:=76::t8 p.length::p) (by simp;omega) rfl (by simp[nb])⟩
  ·by_cases f:b=77
   ·subst f;have c:ef (77,p)=(77::t8 p.length::t8 (fe 8 p.length)::p,decide (p.length≤65535)):=rfl;rw[c];have a:decide ((p.length:Int)≤65535)=decide (p.length≤65535):=by congr 1;exact propext aq
    simp[go_sem,sP,nb,dx,aJ,gl,a,ah,IntKind.bits,Ee];exact⟨aq,lM (L:=77::t8 p.length::t8 (fe 8 p.length)::p) (by simp;omega) rfl (by simp[nb])⟩
   ·have c:ef (b,p)=([b],decide (p.length=0)):=by unfold ef;rw[if_neg l,if_neg j,if_neg f]
    rw[c];have h:¬(b:Int)=76:=aq;have g:¬(b:Int)=77:=aq;have a:decide ((p.length:Int)=0)=decide (p.length=0):=by congr 1;exact propext aq
    by_cases e:0<b
    ·have n:0<(b:Int):=aq;have i2:¬(b:Int)≤75:=aq;simp[go_sem,sP,nb,e,i2,h,g,ah];refine lM (L:=[b]) (id:=832) rfl rfl ?_;simp[nb]
    ·have n:¬ 0<(b:Int):=aq;simp[go_sem,sP,nb,e,h,g,ah];refine lM (L:=[b]) (id:=832) rfl rfl ?_;simp[nb]
theorem Oq(w:Wd):(K0 w).length≤w.2.length+3:=by
 unfold K0;simp only[b_];split<;>split<;>simp<;>omega
def sQ:List Nat→List (List Nat)→Option (List Nat)
 |out,[]=>some out
 |out,x::r=>if 1000<x.length then none else sQ (out++(ef (c6 x)).1) r
def rp(things:List (List Nat))(a:List Nat):List Nat×Int :=
 match sQ [] things with
 |none=>([],4)
 |some out=>if 1000<(out++a).length then([],4)else(out++a,0)
theorem my{x:List Nat}(h:x.length≤1000):(ef (c6 x)).2=true:=by
 have g:(ef (ij x)).2=true:=by
  unfold ij ef;by_cases a:x.length≤75;by_cases f:x.length=0;have:x=[]:=List.eq_nil_of_length_eq_zero f;subst this;rfl;have:0<x.length∧x.length≤75:=aq;simp[a,this];by_cases e:x.length≤255;simp[a,e];simp[a,e];omega
 match x,g with
 |[],g=>exact g
 | [c],g =>
  show(ef (if 1≤c∧c≤16 then(80+c,[])else if c=129 then(79,[])else ij [c])).2=true;by_cases b:1≤c∧c≤16
  ·rw[if_pos b];unfold ef;have k:¬(0<80+c∧80+c≤75):=aq;have i:¬ 80+c=76:=aq;have j:¬ 80+c=77:=aq;simp[k,i,j]
  ·rw[if_neg b];by_cases d:c=129;rw[if_pos d];rfl;rw[if_neg d];exact g
 |_::_::_,g=>exact g
theorem gk(x:List Nat):(c6 x).2.length≤x.length:=by
 match x with
 |[]=>exact cL _
 | [c] =>
  show(if 1≤c∧c≤16 then(80+c,[])else if c=129 then(79,[])else ij [c]).2.length≤1
  split;simp;split;simp;exact cL _
 |_::_::_=>exact cL _
def zi(w:Wd):Prop:=w.2.length≤60000∧w.1<256
theorem Aj{Q:AV→Prop}{st:St}{id:Nat}{e:Int}{L:List Nat}(a:lk id st.hp=some ⟨5,1,rb L⟩)(hq:Q (.tup [.d (nb L),.d (.int .i64 e)])):dG Q (.tup [.own id 0 L.length L.length,.d (.int .i64 e)]) st :=
 eC (ax (am (bq rfl a trivial)) (ax (aM trivial) ca)) rfl a9 hq
theorem ru{Q:AV→Prop}{st:St}{e:Int}(hq:Q (.tup [.d (nb []),.d (.int .i64 e)])):dG Q (.tup [.nil,.d (.int .i64 e)]) st :=
 eC (ax (am (.nil 1)) (ax (aM trivial) ca)) rfl a9 hq
theorem Em(b:List Wd)(q:∀w,w∈b→zi w)(x:b.length≤10000):fm prog 51 [.d (.ro 2 (b.map qL))] (.tup [.d (nb (vP [] b).1),.d (.int .i64 (vP [] b).2)]):=by
 refine bL func51 ntmps51 (rs:=[.tmp 2,.tmp 3]) a9 ?_;generalize a:vP [] b=B;simp only[go_sem,Nat.reduceEqDiff,Nat.reduceAdd,Nat.reduceLT,↓reduceIte]
 refine av (fun t:Nat×List Nat=>⟨[(4,.own 1000 0 t.2.length t.2.length),(9,.d (.ro 2 (b.map qL))),(10,.d (.int .i64 (b.length:Int))),(11,.d (.int .i64 (t.1:Int)))],[(1000,⟨5,1,rb t.2⟩)],1001⟩)
  (fun t=>t.1≤b.length∧t.2.length≤60003*t.1∧vP t.2 (b.drop t.1)=B) (fun t=>b.length-t.1) (0,[]) ⟨aq,aw,a⟩ (by
   simp[aA,ai,fv,lk,AV.low,AV.l,rb]) ?_
 clear a;rintro⟨k,g⟩⟨p,j,a⟩;simp only at p j a;simp only[go_sem,Nat.reduceEqDiff,Nat.reduceAdd,Nat.reduceLT,↓reduceIte];refine⟨fun h=>?_,fun h=>?_⟩
 ·obtain⟨w,f,m⟩:=bu (l:=b) (k:=k) aq;obtain⟨o,n⟩:=q w (cr f);rw[m]at a;simp only[vP]at a;have s:=Ej w;have e:qL w=[.int .u8 (w.1:Int),nb w.2]:=rfl;simp[go_sem,f,e];refine ag (Yd w o n) (by intro v i;simp at i;subst i;exact Ek w) ?_
  cases c:(ef w).2 with
  |false =>
   simp[go_sem,ah];rw[c,if_neg aw]at a;rw[←a];exact ru rfl
  |true =>
   rw[c,if_pos rfl]at a;have u:=ay (k:=k) aq;generalize(ef w).1=L at *;simp[go_sem,nb,dx,aJ,lJ,u];refine⟨aq,?_⟩;refine ao (k+1,g++L) ⟨by simp only;omega,by simp only[b_];omega,a⟩ (by simp only;omega) ?_;simp[aA,ai,fv,lk,AV.low,AV.l];exact aZ _ _
 ·rw[c_ aq]at a;simp only[vP]at a;simp[go_sem];rw[←a];exact Aj rfl rfl
def bX(x:List Nat):List DV:=[nb x]
theorem kC{x:List Nat}(h:x.length≤60000)(d:bytes x):zi (c6 x):=by
 have g:zi (ij x):=by
  unfold ij;refine⟨h,?_⟩;simp only;split;omega;split<;>omega
 match x,d,g with
 |[],_,g=>exact g
 | [c],d,g =>
  show zi (if 1≤c∧c≤16 then(80+c,[])else if c=129 then(79,[])else ij [c]);by_cases a:1≤c∧c≤16
  ·rw[if_pos a];exact⟨aw,by simp only;omega⟩
  ·rw[if_neg a];by_cases b:c=129;rw[if_pos b];exact⟨aw,aw⟩;rw[if_neg b];exact g
 |_::_::_,_,g=>exact g
theorem TP{hp:Hp}{I:Nat→Prop}{id:Nat}{w:Wd}(b:lk id hp=some ⟨42,2,[sP w]⟩)(a:I id):SnapD hp I (.own id 0 1 1) (.ro 2 ([w].map qL)) :=
 eB (es:=[w].map qL) (by rw[b];rfl) a rfl (by simp[qL])
theorem xI(things:List (List Nat))(a:List Nat)(G:things.length≤1000)(z:∀x,x∈things→x.length≤60000∧bytes x)(H:a.length≤100000) :
  fm prog 26 [.d (.ro 1 (things.map bX)),.d (nb a)] (.tup [.d (nb (rp things a).1),.d (.int .i64 (rp things a).2)]):=by
 refine bL func26 ntmps26 (rs:=[.tmp 4,.tmp 5]) a9 ?_;unfold rp;generalize c:sQ [] things=B;simp only[go_sem,Nat.reduceEqDiff,Nat.reduceAdd,Nat.reduceLT,↓reduceIte]
 refine av (fun t:Nat×List Nat=>⟨[(1,.d (nb a)),(6,.own 1000 0 t.2.length t.2.length),(11,.d (.ro 1 (things.map bX))),(12,.d (.int .i64 (things.length:Int))),(13,.d (.int .i64 (t.1:Int)))],[(1000,⟨5,1,rb t.2⟩)],1001⟩)
  (fun t=>t.1≤things.length∧t.2.length≤60003*t.1∧sQ t.2 (things.drop t.1)=B) (fun t=>things.length-t.1) (0,[]) ⟨aq,aw,c⟩ (by
   simp[aA,ai,fv,lk,AV.low,AV.l,rb]) ?_
 clear c;rintro⟨k,b⟩⟨A,v,c⟩;simp only at A v c;simp only[go_sem,Nat.reduceEqDiff,Nat.reduceAdd,Nat.reduceLT,↓reduceIte];refine⟨fun h=>?_,fun h=>?_⟩
 ·obtain⟨x,g,y⟩:=bu (l:=things) (k:=k) aq;obtain⟨s,q⟩:=z x (cr g);rw[y]at c;simp only[sQ]at c;by_cases i:1000<x.length
  ·rw[if_pos i]at c;subst c;have j:1000<(x.length:Int):=aq;simp[go_sem,g,bX,nb,j];exact ru rfl
  ·rw[if_neg i]at c;have j:¬ 1000<(x.length:Int):=aq;have m:=my (x:=x) aq;have p:=kC s q;have D:=Ej (c6 x);have C:(c6 x).2.length≤x.length:=gk x;have n:vP [] [c6 x]=((ef (c6 x)).1,0):=(by simp[vP,m]);simp[go_sem,g,bX,nb,j];refine ag (pY x s q) a9 ?_;have o:(sP (c6 x)).length=2:=rfl;simp[go_sem,o];refine bJ [1289] (Em [c6 x] (by intro w u;simp at u;subst u;exact p) aw) rfl (ak (.one (am (TP rfl aw))) aF) ?_;rw[n];have F:=ay (k:=k) aq;generalize(ef (c6 x)).1=L at *;simp[go_sem,aC,nb,dx,aJ,lJ,F];refine⟨aq,?_⟩;refine ao (k+1,b++L) ⟨by simp only;omega,by simp only[b_];omega,c⟩ (by simp only;omega) ?_;simp[aA,ai,fv,lk,AV.low,AV.l];exact aZ _ _
 ·rw[c_ aq]at c;simp only[sQ]at c;subst c;have E:k=things.length:=aq;simp only;by_cases f:1000<b.length+a.length
  ·rw[if_pos f];have j:1000<((b.length+a.length:Nat):Int):=aq;have i2:1000<(b.length:Int)+(a.length:Int):=aq;simp[go_sem,nb,dx,aJ,i2,ah];exact⟨aq,ru rfl⟩
  ·rw[if_neg f];have j:¬ 1000<((b.length+a.length:Nat):Int):=aq;have i2:¬ 1000<(b.length:Int)+(a.length:Int):=aq;simp[go_sem,nb,dx,aJ,lJ,i2,ah];refine⟨aq,?_⟩;have:=Aj (id:=1000) (L:=b++a) (e:=0) (Q:=fun r=>r=AV.tup [AV.d (nb (b++a)),AV.d (.int .i64 0)]) (st:=⟨[],[(1000,⟨5,1,rb (b++a)⟩)],0⟩) rfl rfl;simp[nb]at this;exact this
def bw(a:List Wd):List Nat:=(a.map K0).flatten
def BE(things:List (List Nat)):List Wd:=things.map c6
theorem En:∀(things:List (List Nat))(out:List Nat),(∀x,x∈things→x.length≤1000)→sQ out things=some (out++bw (BE things))
 |[],out,_=>by simp[sQ,bw,BE]
 |x::r,out,h=>by
  have b:=h x (dz ..);simp only[sQ];rw[if_neg aq,En r _ (fun y a=>h y (cS _ a)),←wh (my b)];simp[bw,BE]
def BF:List Nat:=[86,97,117,108,116,82,101,99,111,118,101,114,121]
def qM(x:List Nat):List Nat:=fQ BF (az x.length++x)
theorem o9(x:List Nat):(qM x).length=32:=aR _
theorem xJ(x:List Nat)(e:x.length≤100000):fm prog 20 [.d (nb x)] (.agg (cb (qM x))):=by
 refine bL func20 ntmps20 (rs:=[.cell 2 29]) a9 ?_;have b:=cC x.length;simp[go_sem];refine bJ [] (gG [] x aw aq) rfl (ak (.one (am (.nil 1))) (ak (.deep a9) aF)) ?_;simp[go_sem,aC];refine ag (jc BF (.str [86,97,117,108,116,82,101,99,111,118,101,114,121]) rfl (az x.length++x) (by simp[BF]) (by simp;omega)) a9 ?_;have c:qM x=fQ BF (az x.length++x):=rfl;rw[←c];have a:=o9 x;generalize qM x=R at *;simp[go_sem,ah,a,al a,cf];exact aa (by simp[AV.deep];exact bp _) rfl
def fi(c:Int×Int):List DV:=[.int .i64 c.1,.int .u64 c.2]
theorem IT{P:Program}{s t:TypeId}{a:AV→Hp→Prop}{hp:Hp}(l:List Nat)(el:TypeId)(e:bytes l)(g:cp P s=.slice el)(f:cp P t=.str)(h3:P.underlying el=some (.int .u8))(c:a (.d (.str (sb l))) hp):cvS P s t (l.map fun(x:Nat)=>[DV.int .u8 (x:Int)]) a hp:=by
 refine⟨sb l,by simp[sb],fun b h=>?_,?_⟩;simp only[sb,List.mem_map]at h;obtain⟨x,i,rfl⟩:=h;have:=e x i;omega;rw[g,f];exact⟨h3,c⟩
theorem xM{w:Wd}(b:w.1<256)(hp:bytes w.2):bytes (ef w).1:=by
 unfold ef;split;intro y a;rcases d_.1 a with rfl|a;exact b;exact hp y a;split;intro y a;simp only[d_]at a;rcases a with rfl|rfl|a;omega;exact sM _;exact hp y a;split;intro y a;simp only[d_]at a;rcases a with rfl|rfl|rfl|a;omega;exact sM _;exact sM _;exact hp y a;intro y a;simp only[List.mem_singleton]at a;rw[a];exact b
theorem kD{x:List Nat}(a:bytes x):bytes (c6 x).2:=by
 match x,a with
 |[],a=>exact a
 | [c],a =>
  show bytes (if 1≤c∧c≤16 then(80+c,[])else if c=129 then(79,[])else ij [c]).2
  split;intro y b;simp at b;split;intro y b;simp at b;exact a
 |_::_::_,a=>exact a
theorem um{a b:List Nat}(e:bytes a)(d:bytes b):bytes (a++b):=fun y c=>(cD.1 c).elim (e y) (d y)
theorem xN:∀(things:List (List Nat))(out o:List Nat),bytes out→(∀x,x∈things→x.length≤60000∧bytes x)→sQ out things=some o→bytes o
 |[],out,o,h,_,e=>by simp only[sQ,Option.some.injEq]at e;subst e;exact h
 |x::r,out,o,h,ht,e=>by
  obtain⟨c,a⟩:=ht x (dz ..);simp only[sQ]at e;split at e;cases e;exact xN r _ o (um h (xM (kC c a).2 (kD a))) (fun y b=>ht y (cS _ b)) e
theorem GV{things:List (List Nat)}{a:List Nat}(c:bytes a)(d:∀x,x∈things→x.length≤60000∧bytes x):bytes (rp things a).1:=by
 unfold rp;cases h:sQ [] things with
 |none=>intro y b;simp at b
 |some o =>
  have:=xN things [] o (by intro y b;simp at b) d h;simp only;split;intro y b;simp at b;exact um this c
theorem K1{n:Nat}{d:DV}(h:kH prog (n+3) 34 [d]):∃xs:List (List Nat),d=.ro 1 (xs.map bX)∧∀x,x∈xs→bytes x:=by
 rw[kH]at h;simp only[underlying34,List.cons.injEq,and_true]at h;obtain⟨es,rfl,i,g⟩:=h;obtain⟨xs,rfl,a⟩:=xn (enc:=bX) (R:=fun x=>bytes x) (es:=es) (fun r b=>by
  obtain⟨c,e⟩:=g r b;rw[show prog.cellsOf 31=1 by kernel_rfl]at e
  match r,c,e with
  |[y],c,_ =>
   obtain⟨x,rfl,_,f⟩:=xG c
   exact⟨x,rfl,f⟩)
 exact⟨xs,by rw[show prog.cellsOf 31=1 by kernel_rfl],a⟩
def vQ:Nat→Nat→List Nat
 |0,_=>[]
 |k+1,m=>if m=0 then[]else m%256::vQ k (m/256)
theorem qa:∀(k m:Nat),bytes (vQ k m)
 |0,_=>fun x h=>by simp[vQ]at h
 | k+1,m=>by
  rw[vQ];split;exact fun x h=>by simp at h
  intro x h;rcases d_.1 h with rfl|h;omega;exact qa k _ x h
theorem IU:∀(k m:Nat),(vQ k m).length≤k
 |0,_=>by simp[vQ]
 |k+1,m=>by
  rw[vQ];split;simp;have:=IU k (m/256);simp;omega
def jl(neg:Bool)(a:List Nat)(x:Nat):List Nat :=
 if 128≤x then(if neg then a++[x,128]else a++[x,0])else(if neg then a++[x+128]else a++[x])
def GW(neg:Bool)(b:List Nat):List Nat:=match b.reverse with
 |[]=>[]
 |x::r=>jl neg r.reverse x
def dk(n:Int):List Nat:=GW (decide (n<0)) (vQ 8 n.natAbs)
theorem nk(neg:Bool)(a:List Nat)(x:Nat):GW neg (a++[x])=jl neg a x:=by simp[GW]
theorem eF(b:List Nat):b=[]∨∃a x,b=a++[x]:=by
 rcases h:b.reverse with _|⟨x,r⟩;exact .inl (by simpa using h);exact .inr ⟨r.reverse,x,by rw[←List.reverse_reverse b,h,List.reverse_cons]⟩
theorem eG(n:Int):bytes (dk n):=by
 unfold dk;rcases eF (vQ 8 n.natAbs)with h|⟨a,x,h⟩;rw[h];exact fun x d=>by simp[GW]at d
 ·have c:=qa 8 n.natAbs;rw[h]at c⊢;rw[nk];have d:=c x aw;have e:bytes a:=fun z b=>c z (by simp[b]);unfold jl;intro z b;split at b<;>split at b<;>simp at b
  all_goals
   rcases b with h|h;exact e z h;omega
theorem iH(n:Int):(dk n).length≤9:=by
 unfold dk;have b:=IU 8 n.natAbs;rcases eF (vQ 8 n.natAbs)with h|⟨a,x,h⟩;rw[h];simp[GW];rw[h]at b⊢;rw[nk];unfold jl;simp at b;split<;>split<;>simp<;>omega
theorem Ot:∀x:Nat,x<256→bits .and .u8 (x:Int) 128=if 128≤x then 128 else 0:=by decide +kernel
theorem abq:∀x:Nat,x<128→bits .or .u8 (x:Int) 128=((x+128:Nat):Int):=by decide +kernel
theorem mO (n:Int) (X:-9223372036854775808≤n) (W:n<9223372036854775808):fm prog 64 [.d (.int .i64 n)] (.d (nb (dk n))):=by
  refine bL func64 ntmps64 (rs:=[.tmp 2]) a9 ?_;have I:n.natAbs<18446744073709551616:=aq;simp[go_sem];have C:(256:Nat) ^ 8=18446744073709551616:=by decide
  have iW:∀x:Int,IntKind.u64.wrap x=x%18446744073709551616:=fun x=>by simp[IntKind.wrap,IntKind.bits,IntKind.signed]
  have N:n<0→IntKind.u64.wrap (-IntKind.u64.wrap n)=(n.natAbs:Int):=fun h=>by rw[iW,iW];omega
  have M:0≤n→IntKind.u64.wrap n=(n.natAbs:Int):=fun h=>by rw[iW];omega
  have fd:∀m:Nat,Int.fdiv (m:Int) 256=((m/256:Nat):Int):=fun m=>by rw[Int.fdiv_eq_ediv_of_nonneg _ (by decide)];omega
  have q:∀k,vQ k 0=[]:=fun k=>by cases k<;>simp[vQ]
  have v:dk n=GW (decide (n<0)) (vQ 8 n.natAbs):=rfl;refine⟨fun f=>?_,fun f=>?_⟩
  all_goals
    refine av (fun t:Nat×List Nat×Nat=>⟨[(3,.d (.bool (decide (n<0)))),(4,.d (.int .u64 (t.2.2:Int))),(5,.own 5000 0 t.2.1.length t.2.1.length)],[(5000,⟨5,1,rb t.2.1⟩)],6000⟩)
      (fun t=>t.2.2<256 ^ t.1∧t.1≤8∧t.2.1.length+t.1≤8∧t.2.1 ++ vQ t.1 t.2.2=vQ 8 n.natAbs) (fun t=>t.1) (8,[],n.natAbs) ⟨by rw [C];exact I,aw,aw,rfl⟩ (by
        first
          | (have w:=N f
             simp[aA,ai,fv,lk,AV.low,AV.l,w,rb])
          | (have w:=M f
             simp[aA,ai,fv,lk,AV.low,AV.l,w,rb])) ?_
    rintro⟨k,b,m⟩⟨l,A,s,j⟩;simp only at l A j s;simp only;simp[go_sem];refine⟨fun F=>?_,fun F=>?_⟩
    · match k,l,A,j,s with
      |0,l,_,_,_=>simp at l;omega
      | k+1,l,A,j,s =>
        refine⟨aJ b,aq,?_⟩;rw[vQ,if_neg aq]at j;rw[Nat.pow_succ]at l;have K:m/256<256 ^ k:=Nat.div_lt_of_lt_mul aq;have R:IntKind.u8.wrap (m:Int)=((m%256:Nat):Int):=by rw[MF];omega
        refine ao (k,b++[m%256],m/256) ⟨K,by show k≤8;omega,by simp;omega,by rw[←j];simp⟩ (by show k<k+1;omega) ⟨?_,?_,aw⟩
        · simp[ai,fv,lk,AV.low,AV.l,fd]
        · intro p G
          simp only[d_,List.mem_nil_iff,or_false]at G;subst G;exact⟨.inl (by rw[R];simp[lk,rb]),by show 5000<6000;omega,aZ _ _⟩
    · subst F
      rw[q,List.append_nil]at j;subst j;rw[v];have D:=qa 8 n.natAbs;generalize vQ 8 n.natAbs=b at *;refine⟨fun B=>?_,fun B=>?_⟩
      · subst B
        exact d5 (am (bq rfl rfl trivial)) trivial rfl
      · rcases eF b with h | ⟨a,x,rfl⟩
        · exact absurd h B
        rw[nk];have V:IntKind.i64.wrap (((a++[x]).length:Int)-1)=(a.length:Int):=by
          have o:(a++[x]).length=a.length+1:=(by simp);rw[o]at s⊢;rw[IntWalk.i64_in _ aq];omega
        have O:x<256:=D x aw;have i:(rb (a++[x]))[a.length]?=some [.d (.int .u8 (x:Int))]:=(by simp[rb]);have e:∀h,(rb (a++[x]))[a.length]'h=[.d (.int .u8 (x:Int))]:=fun h=>by rw[cm h]at i;exact Option.some.inj i
        have o:a.length≤7:=by simp at s;omega
        have H:IntKind.i64.wrap ((a.length:Int)+1)=((a.length+1:Nat):Int):=by rw[IntWalk.i64_in _ aq];omega
        have Q:IntKind.i64.wrap (a.length:Int)=(a.length:Int):=IntWalk.i64_in _ aq;have E:(rb (a++[x])++[[AV.d (.int .u8 0)]])[a.length+1]?=some [.d (.int .u8 0)]:=(by simp[rb]);have z:∀h,(rb (a++[x])++[[AV.d (.int .u8 0)]])[a.length+1]'h=[.d (.int .u8 0)]:=fun h=>by rw[cm h]at E;exact Option.some.inj E
        have U:(rb (a++[x])++[[AV.d (.int .u8 0)]]).set (a.length+1) [.d (.int .u8 128)]=rb (a++[x,128]):=by
          have:rb (a++[x])=rb a++[[.d (.int .u8 (x:Int))]]:=(iQ a x).symm;rw[this,cA,List.set_append_right _ _ (by rw[aJ];omega),aJ,show a.length+1-a.length=1 by omega];simp[rb]
        have S:bits .or .u8 0 128=128:=(by decide);have T:∀y:Nat,(rb (a++[x])).set a.length [.d (.int .u8 (y:Int))]=rb (a++[y]):=fun y=>by
          have:rb (a++[x])=rb a++[[.d (.int .u8 (x:Int))]]:=(iQ a x).symm;rw[this,List.set_append_right _ _ (by rw[aJ];omega),aJ,Nat.sub_self];simp[rb]
        have u:=Ot x O;rw[V];by_cases c:128≤x
        · rw [if_pos c] at u
          simp[go_sem,e,aJ,u];by_cases g:n<0
          · simp [go_sem,g,aJ,H,z,S,U]
            repeat' apply And.intro
            all_goals first
              |omega
              |exact fun h=>absurd g aq
              |exact d5 (am (bq (L:=jl true a x) (by simp[jl,c]) (by simp[lk,jl,c,rb]) trivial)) trivial rfl
              |exact fun _=>d5 (am (bq (L:=jl true a x) (by simp[jl,c]) (by simp[lk,jl,c,rb]) trivial)) trivial rfl
          · simp [go_sem,g]
            repeat' apply And.intro
            all_goals first
              |omega
              |exact fun h=>absurd g aq
              |exact d5 (am (bq (L:=jl false a x) (by simp[jl,c]) (by simp[jl,c,rb]) trivial)) trivial rfl
              |exact fun _=>d5 (am (bq (L:=jl false a x) (by simp[jl,c]) (by simp[lk,jl,c,rb]) trivial)) trivial rfl
        · rw [if_neg c] at u
          have J:=abq x aq;simp[go_sem,e,aJ,u];by_cases g:n<0
          · simp [go_sem,g,aJ,Q,e,J,T,-Int.natCast_add]
            repeat' apply And.intro
            all_goals first
              |omega
              |exact fun h=>absurd g aq
              |exact d5 (am (bq (L:=jl true a x) (by simp[jl,c]) (by simp[lk,jl,c,rb]) trivial)) trivial rfl
              |exact fun _=>d5 (am (bq (L:=jl true a x) (by simp[jl,c]) (by simp[lk,jl,c,rb]) trivial)) trivial rfl
          · simp [go_sem,g]
            repeat' apply And.intro
            all_goals first
              |omega
              |exact fun h=>absurd g aq
              |exact d5 (am (bq (L:=jl false a x) (by simp[jl,c]) (by simp[jl,c,rb]) trivial)) trivial rfl
              |exact fun _=>d5 (am (bq (L:=jl false a x) (by simp[jl,c]) (by simp[lk,jl,c,rb]) trivial)) trivial rfl
section
variable {P:Program}
def Ye(P:Program)(n:Nat)(x:Code)(Q:Exit→St→Prop)(st:St):Prop:=∀(c:Ctx)(a:Act)(w:World),c.n=n→mM c st a w→x.wp P (fun e d b=>∃st',Q e st'∧mM c st' d b) a w
theorem aN{n:Nat}{x:Code}{Q:Exit→St→Prop}{st:St}(h:oL P n x Q st):Ye P n x Q st:=fun c a w b d=>by
 subst b;exact kZ x Q st a w h d
theorem uo{n:Nat}{x:Code}{Q:Exit→St→Prop}{st st':St}(b:Wk st st')(h:Ye P n x Q st'):Ye P n x Q st:=fun c a w d e=>h c a w d (b c a w e)
theorem dh{n:Nat}{x y:Code}{Q:Exit→St→Prop}{st:St}(h:Ye P n x (jP (Ye P n y Q) Q) st):Ye P n (.seq x y) Q st:=by
 intro c a w b g;refine wp_seq (wp_mono (h c a w b g) fun e f d⟨st',hq,hs'⟩=>?_);cases e with
 |normal=>exact hq c f d b hs'
 |_=>exact⟨st',hq,hs'⟩
theorem qd {g : FuncId} {fn : Func} {code : Code} {args : List AV} {Q : AV → Prop} (hf : P.funcs[g]? = some fn) (hn : (fn.name == "runtime.NumGoroutine") = false) (hb : fn.body = some code)
  {n:Nat} {rs:List ResultVar} (hnt:fn.ntmps=n) (hrs:fn.results.toList=rs) (hle:args.length≤n) (hd:∀v,v∈args→v.deep)
  (h:Ye P n code (Nq P rs (dG Q)) ⟨ME 0 args,[],0⟩):ar P g args Q:=by
 subst hnt;subst hrs;refine⟨⟨fn,hf,hn,by simp[hb]⟩,fun w S vs hS hl hv=>?_⟩;have hsz:((vs.toArray++Array.replicate (fn.ntmps-vs.toArray.size) undef):Array Value).size=fn.ntmps:=by simp;omega
 refine calls_of_wp hf hb ?_
 let c:Ctx:=⟨w,fun _=>False,S,fn.ntmps,fun _ h=>h.elim,fun _=>False,fun _=>none,[],0,aq⟩
 have hsim:mM c ⟨ME 0 args,[],0⟩ { tmps:=vs.toArray++Array.replicate (fn.ntmps-vs.toArray.size) undef,defers:=[] } w:=by
  refine⟨rfl,hsz,fun _=>none,⟨(fun i j bi bj g h=>by cases h),(fun i b h=>by cases h),(fun i b h=>by cases h),(fun i b g h=>by cases h),rfl,rfl,rfl,cL _,fun _ _ _=>rfl⟩,fun n=>?_,⟨fun _ h=>h.elim,fun _ h=>h.elim,fun i h=>absurd h (Nat.not_lt_zero _),fun i b' h=>absurd h (Nat.not_lt_zero _)⟩⟩;simp only[fv,Bl,Nat.zero_le,if_true,Nat.sub_zero]
  cases hn:args[n]? with
  |none=>exact .any _
  | some v =>
   have hlt:n<vs.length:=by have:=(ci.1 hn).1;omega
   have hx:vs[n]?=some vs[n]:=cm hlt
   have:(vs.toArray++Array.replicate (fn.ntmps-vs.toArray.size) undef).getD n undef=vs[n]:=by
    rw[ct,Array.getElem?_append,if_pos (by simpa using hlt)];simp[hx]
   rw[this];simp only[Option.getD_some];exact nO (hd v (cr hn)) (fun b hb=>⟨⟨hS b hb,(fun id blk g h=>by cases h)⟩,.inl hb⟩) (hv n v _ hn hx)
 have u7:∀st a w',DU P fn.results.toList (dG Q) st→mM c st a w'→∃v,(results fn a.tmps).run P w'=.ok v w'∧∃x r,Ending.returned v=.returned x∧Q r∧r.deep∧RowKit.Below w.heap.size w w' ∧
   AIs w' (fun b=>S b∨(w.heap.size≤b∧b<w'.heap.size)) (fun _=>none) [] (fun _=>False) r x:=by
  intro st a w' hret hs;obtain⟨v,x,⟨r,hsn,hrd,hQ⟩,hrun,σ,hr,hx,_⟩:=Bj hs hret;refine⟨x,hrun,x,r,rfl,hQ,hrd,⟨hr.os,hr.tape,hr.output,hr.size,fun b hb=>hr.old b hb (fun h=>h)⟩,?_⟩;refine nP (fun b hb=>?_) (fun id blk g _ hk hg=>?_) hr hsn hx
  ·rcases hb.2 with h|h
   ·exact .inl h
   ·exact .inr ⟨h,hb.1.1⟩
  ·rcases hr.mine id blk g hk hg with h|h
   ·exact h.elim
   ·exact .inr ⟨h,ee (hr.at hk hg)⟩
 refine wp_mono (h c _ w rfl hsim) fun e a w'⟨st,hq,hs⟩=>?_
 cases e with
 |normal=>exact⟨hs.1,u7 st a w' hq hs⟩
 |ret=>exact⟨hs.1,u7 st a w' hq hs⟩
 |_=>exact hq.elim
end
abbrev jB:=Nat→List (List Nat)
def pB(q:List (List Nat)):Blk:=⟨29,32,q.map cb⟩
def kQ(P:Nat):Nat→jB→Hp
 |0,_=>[]
 |n+1,f=>(P,pB (f 0))::kQ (P+1) n (fun j=>f (j+1))
def V6(f:jB)(j:Nat)(q:List (List Nat)):jB:=fun i=>if i=j then q else f i
def uq(j:Nat):Nat:=1+j
theorem mP{j:Nat}(h:j<8)(c:Nat)(hc:9≤c):(c=uq j)=False:=by unfold uq;simp;omega
theorem qS(j:Nat):(0=uq j)=False:=by unfold uq;simp;omega
theorem pa:∀(n P:Nat)(f:jB)(j:Nat),j<n→lk (P+j) (kQ P n f)=some (pB (f j))
 |n+1,P,f,0,_=>by simp[kQ,lk]
 |n+1,P,f,j+1,h=>by
  have:=pa n (P+1) (fun j=>f (j+1)) j aq;rw[kQ,lk,if_neg aq,show P+(j+1)=P+1+j by omega,this]
theorem Eo:∀(n P:Nat)(f:jB)(j:Nat)(q:List (List Nat)),j<n→bV (P+j) (pB q) (kQ P n f)=kQ P n (V6 f j q)
 |n+1,P,f,0,q,_=>by
  simp only[kQ,bV,Nat.add_zero,if_true];congr 1
 |n+1,P,f,j+1,q,h=>by
  have:=Eo n (P+1) (fun j=>f (j+1)) j q aq;rw[kQ,bV,if_neg aq,show P+(j+1)=P+1+j by omega,this,kQ];simp[V6];congr 1
theorem j9:∀(n P:Nat)(f:jB)(p:Nat×Blk),p∈kQ P n f→∃j,j<n∧p=(P+j,pB (f j))
 |0,_,_,p,h=>by simp[kQ]at h
 |n+1,P,f,p,h=>by
  rw[kQ]at h;rcases d_.1 h with rfl|h;exact⟨0,aq,rfl⟩;obtain⟨j,a,rfl⟩:=j9 n (P+1) _ p h;exact⟨j+1,aq,by rw[show P+1+j=P+(j+1)by omega]⟩
theorem mQ{f:jB}{j:Nat}(h:j<8):lk (uq j) (kQ 1 8 f)=some (pB (f j)):=pa 8 1 f j h
theorem Ep{f:jB}{j:Nat}(q:List (List Nat))(h:j<8):bV (uq j) (pB q) (kQ 1 8 f)=kQ 1 8 (V6 f j q):=Eo 8 1 f j q h
theorem V7(q:List (List Nat)):(pB q).ty=29:=rfl
theorem abr(q:List (List Nat)):(pB q).e=32:=rfl
theorem V9(q:List (List Nat)):(pB q).es=q.map cb:=rfl
theorem xO{inner:List Nat}(hi:inner.length=32)(a b c:AV):(cb inner++[a,b]).set 32 c=cb inner++[c,b]:=by
 have d:(cb inner).length=32:=by rw[aj,hi]
 rw[List.set_append_right _ _ aq,d];rfl
def mi(inner:List Nat)(idf:Nat→Nat)(f:jB)(xs:List (List Nat)):List (List AV):=xs.mapIdx fun j x=>au inner (.own (idf j) 0 (f j).length (f j).length) (.d (nb x))
theorem ke{inner:List Nat}{idf:Nat→Nat}{f:jB}{xs:List (List Nat)}:(mi inner idf f xs).length=xs.length:=by simp[mi]
theorem BG{inner:List Nat}{idf:Nat→Nat}{f:jB}{xs:List (List Nat)}{j:Nat}{x:List Nat}(h:xs[j]?=some x):(mi inner idf f xs)[j]?=some (au inner (.own (idf j) 0 (f j).length (f j).length) (.d (nb x))):=by
 simp[mi,h]
theorem IV{inner:List Nat}{idf:Nat→Nat}{f:jB}{xs:List (List Nat)}{j:Nat}{x:List Nat}(q:List (List Nat))(h:xs[j]?=some x):(mi inner idf f xs).set j (au inner (.own (idf j) 0 q.length q.length) (.d (nb x)))=mi inner idf (V6 f j q) xs:=by
 have b:=(ci.1 h).1;apply List.ext_getElem?;intro i;rw[List.getElem?_set];by_cases a:j=i;subst a;rw[if_pos rfl,if_pos (by rw[ke];exact b),BG h];simp[V6];rw[if_neg a];simp only[mi,List.getElem?_mapIdx,V6];rw[if_neg (fun e=>a e.symm)]
theorem ry(n:Nat)(inner:List Nat)(a b:AV)(e:a.l n)(d:b.l n):∀v,v∈au inner a b→v.l n:=by
 intro v c;unfold au at c;rcases cD.1 c with h|h;exact aI _ _ v h;simp at h;rcases h with rfl|rfl;exact e;exact d
theorem IW{n:Nat}{inner:List Nat}{idf:Nat→Nat}{f:jB}{xs:List (List Nat)}(h:∀j,j<xs.length→idf j<n):∀r,r∈mi inner idf f xs→∀v,v∈r→v.l n:=by
 intro r a;simp only[mi,List.mem_mapIdx]at a;obtain⟨j,b,rfl⟩:=a;exact ry _ _ _ _ (h j b) trivial
theorem GX(n:Nat)(q:List (List Nat)):∀r,r∈(pB q).es→∀v,v∈r→v.l n:=by
 intro r a;simp only[pB,List.mem_map]at a;obtain⟨p,_,rfl⟩:=a;exact aI _ _
def bU(h:List Nat)(first a:Nat):List AV:=cb h++[.d (.int .i64 (first:Int)),.d (.int .i64 (a:Int))]
theorem lN{h:List Nat}(c:h.length=32)(a b:Nat):(bU h a b).length=34:=by simp[bU,aj,c]
theorem dQ{h:List Nat}(c:h.length=32)(a b:Nat):List.take 34 (bU h a b)=bU h a b:=cx (by rw[lN c];exact cL _)
theorem rA{h:List Nat}(c:h.length=32)(a b:Nat):(bU h a b)[32]?=some (.d (.int .i64 (a:Int))):=jA c _ _
theorem xP{h:List Nat}(c:h.length=32)(a b:Nat):(bU h a b)[33]?=some (.d (.int .i64 (b:Int))):=lK c _ _
theorem kg{h:List Nat}(c:h.length=32)(a b:Nat)(e:32<(bU h a b).length):(bU h a b)[32]=.d (.int .i64 (a:Int)):=by
 have:=rA c a b;rw[cm e]at this;exact Option.some.inj this
theorem kh{h:List Nat}(c:h.length=32)(a b:Nat)(e:33<(bU h a b).length):(bU h a b)[33]=.d (.int .i64 (b:Int)):=by
 have:=xP c a b;rw[cm e]at this;exact Option.some.inj this
theorem wj{h:List Nat}(c:h.length=32)(a b:Nat):List.take 32 (bU h a b)=cb h:=by
 unfold bU;rw[List.take_append_of_le_length (by rw[aj,c];exact cL _),cx (by rw[aj,c];exact cL _)]
theorem IX{h:List Nat}(c:h.length=32)(a b:AV):List.drop 33 (cb h++[a,b])=[b]:=by
 rw[List.drop_append,aj,c,c_ (by rw[aj];omega)];rfl
theorem BH{h:List Nat}(c:h.length=32)(a b:AV):List.take 33 (cb h++[a,b])=cb h++[a]:=by
 rw[List.take_append,aj,c,cx (by rw[aj];omega)];rfl
theorem BI{h:List Nat}(c:h.length=32)(a b:AV):List.drop 34 (cb h++[a,b])=[]:=c_ (by simp[aj,c])
theorem da(n:Nat)(h:List Nat)(a b:Nat):∀v,v∈bU h a b→v.l n:=by
 intro v c;rcases cD.1 c with q|q;exact aI _ _ v q;simp at q;rcases q with rfl|rfl<;>trivial
theorem abt:gi prog 174=some (bU z32 0 0):=by kernel_rfl
attribute [go_sem] abt
def cM(first k:Nat)(h:List Nat)(f:jB):jB:=fun j=>if first≤j∧j<first+k then f j++[h]else f j
theorem Ak(first:Nat)(h:List Nat)(f:jB):cM first 0 h f=f:=by
 funext j;unfold cM;rw[if_neg aq]
theorem wm(first k:Nat)(h:List Nat)(f:jB):cM first k h f (first+k)=f (first+k):=by unfold cM;rw[if_neg aq]
theorem An(first k:Nat)(h:List Nat)(f:jB):V6 (cM first k h f) (first+k) (f (first+k)++[h])=cM first (k+1) h f:=by
 funext j;unfold V6 cM;by_cases b:j=first+k
 subst b;rw[if_pos rfl,if_pos aq]
 ·rw[if_neg b];by_cases a:first≤j∧j<first+k
  rw[if_pos a,if_pos aq];rw[if_neg a,if_neg aq]
def MG(inner:List Nat)(xs:List (List Nat))(a b c:List AV)(f:jB):Hp :=
 (74,⟨174,34,[a]⟩)::(42,⟨174,34,[b]⟩)::(10,⟨174,34,[c]⟩)::(0,⟨33,34,mi inner uq f xs⟩)::kQ 1 8 f
theorem lO{inner:List Nat}{xs:List (List Nat)}{e d c:List AV}{f:jB}{hp:Hp}{nx N:Nat}(q:100≤N)(o:xs.length≤8)(h:∀v,v∈e→v.l N)(i:∀v,v∈d→v.l N)(hc:∀v,v∈c→v.l N)
  (m:lk 74 hp=some ⟨174,34,[e]⟩) (k:lk 42 hp=some ⟨174,34,[d]⟩) (h3:lk 10 hp=some ⟨174,34,[c]⟩) (l:lk 0 hp=some ⟨33,34,mi inner uq f xs⟩) (n:∀j,j<8→lk (uq j) hp=some (pB (f j))) :
  ∀p,p∈MG inner xs e d c f→(lk p.1 hp=some p.2∨(nx≤p.1∧p.2.es=[]))∧p.1<N∧∀r,r∈p.2.es→∀v,v∈r→v.l N:=by
 intro p a;unfold MG at a;simp only[d_]at a;rcases a with rfl|rfl|rfl|rfl|a;exact⟨.inl m,by show 74<N;omega,by intro r b;simp at b;subst b;exact h⟩;exact⟨.inl k,by show 42<N;omega,by intro r b;simp at b;subst b;exact i⟩;exact⟨.inl h3,by show 10<N;omega,by intro r b;simp at b;subst b;exact hc⟩;exact⟨.inl l,by show 0<N;omega,IW (fun j g=>by show 1+j<N;omega)⟩
 obtain⟨j,g,rfl⟩:=j9 8 1 f p a;exact⟨.inl (n j g),by show 1+j<N;omega,GX _ _⟩
theorem Ou(inner a b:List Nat)(xs:List (List Nat))(f:jB)(i s m p:Nat)(hi:inner.length=32)(z:a.length=32)(A:b.length=32)(B:xs.length≤8)(h1:i+s≤xs.length)(h2:m+p≤xs.length)(hf:∀j,(f j).length≤100) :
  cZ prog 112 9 ((0,⟨33,34,mi inner uq f xs⟩)::kQ 1 8 f) [.own 0 0 xs.length xs.length,.agg (bU a i s),.agg (bU b m p)]
   (fun r M=>r=.agg (bU (cG a b) i (s+p))∧lk 0 M=some ⟨33,34,mi inner uq (cM m p a (cM i s b f)) xs⟩∧∀j,j<8→lk (uq j) M=some (pB (cM m p a (cM i s b f) j))):=by
 refine ap func112 (by kernel_rfl) rfl ntmps112 (rs:=[.cell 6 174]) rfl (dN rfl) (dN rfl) ?_;have K:=lN z i s;have sb:=lN A m p;have w1:IntKind.i64.wrap ((i:Int)+s)=((i+s:Nat):Int):=by rw[IntWalk.i64_in _ aq];omega
 have w2:IntKind.i64.wrap ((m:Int)+p)=((m+p:Nat):Int):=by rw[IntWalk.i64_in _ aq];omega
 have zs:(bU z32 0 0).length=34:=rfl;simp[go_sem,K,sb,zs,kg z,kh z,w1,-Int.natCast_add];refine⟨aq,?_⟩
 refine av (fun k:Nat=>⟨[(0,.own 0 0 xs.length xs.length),(4,.ptr 10 0 0 1),(5,.ptr 42 0 0 1),(6,.ptr 74 0 0 1),(20,.d (.int .i64 (s:Int))),(21,.d (.int .i64 (k:Int)))],
   MG inner xs (bU z32 0 0) (bU b m p) (bU a i s) (cM i k b f),10000⟩)
  (fun k=>k≤s) (fun k=>s-k) 0 aq (by
   rw[Ak];refine⟨?_,?_,aw⟩;simp[ai,fv,lk,AV.low,AV.l]
   exact lO (dN rfl) B (da _ _ _ _) (da _ _ _ _) (da _ _ _ _) rfl rfl rfl rfl (fun j n=>by simp[lk,mP n,qS,mQ n])) ?_
 intro k hk;simp only[MG];simp only[go_sem,Nat.reduceEqDiff,Nat.reduceAdd,Nat.reduceLT,↓reduceIte];refine⟨fun h=>?_,fun h=>?_⟩
 ·have n:i+k<xs.length:=aq;obtain⟨x,N⟩:∃x,xs[i+k]?=some x:=⟨_,cm n⟩;have w3:=ay (k:=k) aq;have Y:IntKind.i64.wrap ((i:Int)+k)=((i+k:Nat):Int):=by rw[IntWalk.i64_in _ aq];omega
  have y:=BG (inner:=inner) (idf:=uq) (f:=cM i k b f) N;have I:=fun q=>IV (inner:=inner) (idf:=uq) (f:=cM i k b f) q N;have w:i+k<8:=aq;have E:=mP w;have R:=qS (i+k);rw[wm]at y;simp[go_sem,K,kg z,ke,Y,-Int.natCast_add];refine⟨aq,?_⟩
  have C:∀(f:jB)(c:Nat),9≤c→∀(a:Nat)(b:Blk),(a,b)∈kQ 1 8 f→¬c=a:=by
   intro f c hc a b F e;obtain⟨j,n,O⟩:=j9 8 1 f _ F;simp only[Prod.mk.injEq]at O;omega
  refine dI [1,2,3,4,5,6] [0,7,8,9,10,11] [1,2,3,4,5,6] (.alt (bt 0 (bt 7 (a_ [8,9,10,11]))) (bt 7 (.alt (bt 0 (a_ [8,9,10,11])) (a_ [8,0,9,10,11])))) ⟨[(0,.own 0 0 xs.length xs.length),(4,.ptr 10 0 0 1),(5,.ptr 42 0 0 1),(6,.ptr 74 0 0 1),(20,.d (.int .i64 (s:Int))),(21,.d (.int .i64 (k:Int)))],MG inner xs (bU z32 0 0) (bU b m p) (bU a i s) (cM i (k+1) b f),20000⟩ (k:=12) ?h3 ?hq
  case h3 =>
   intro G Q;have X:∀(t:Fr)(J:Hp),(fv 0 t=.own 0 0 xs.length xs.length∧fv 4 t=.ptr 10 0 0 1∧fv 5 t=.ptr 42 0 0 1∧fv 6 t=.ptr 74 0 0 1∧fv 20 t=.d (.int .i64 (s:Int))∧fv 21 t=.d (.int .i64 (k:Int)) ∧
     J=(10544,⟨29,32,[cb b]⟩)::(74,⟨174,34,[bU z32 0 0]⟩)::(42,⟨174,34,[bU b m p]⟩)::(10,⟨174,34,[bU a i s]⟩)::(0,⟨33,34,mi inner uq (cM i (k+1) b f) xs⟩)::kQ 1 8 (cM i (k+1) b f))→G t J:=by
    rintro t J⟨Z,W,V,U,S,T,rfl⟩;refine Q _ _ (b8 ⟨?_,?_,aw⟩);simp[ai,AV.low,AV.l,Z,W,V,U,S,T];exact lO (dN rfl) B (da _ _ _ _) (da _ _ _ _) (da _ _ _ _) rfl rfl rfl rfl (fun j n=>by simp[lk,mP n,qS,mQ n])
   have o:=I (f (i+k)++[b]);have l:=Ep (f:=cM i k b f) (f (i+k)++[b]) w;rw[An]at o l;simp[au,pB]at o l;have aa:=hf (i+k);simp[go_sem,sb,y,A,hi,au,wj A,mQ w,ke,E,R,wm,V7,abr,V9,xO hi,o,l]
   repeat' apply And.intro
   all_goals first|exact X _ _ (by simp[fv,lk])|omega|exact fun a c F e=>absurd e (C _ _ aq _ _ F)
  case hq =>
   simp[go_sem,w3];refine ao (k+1) aq aq ⟨?_,?_,aw⟩
   simp[ai,fv,lk,AV.low,AV.l];exact lO (dN rfl) B (da _ _ _ _) (da _ _ _ _) (da _ _ _ _) rfl rfl rfl rfl (fun j n=>by simp[MG,lk,mP n,qS,mQ n])
 ·have H:k=s:=aq;subst H;simp[go_sem,sb,kg A,kh A,w2,-Int.natCast_add];refine⟨aq,?_⟩
  have hg:∀j,(cM i k b f j).length≤101:=by
   intro j;have:=hf j;unfold cM;split;simp;omega;omega
  have ac:i+k≤8:=aq;generalize cM i k b f=g at *;clear hk h w1;revert K;revert h1;generalize k=D;intro h1 K;refine av (fun k:Nat=>⟨[(0,.own 0 0 xs.length xs.length),(4,.ptr 10 0 0 1),(5,.ptr 42 0 0 1),(6,.ptr 74 0 0 1),(51,.d (.int .i64 (p:Int))),(52,.d (.int .i64 (k:Int)))],
    MG inner xs (bU z32 0 0) (bU b m p) (bU a i D) (cM m k a g),10000⟩)
   (fun k=>k≤p) (fun k=>p-k) 0 aq (by
    rw[Ak];refine⟨?_,?_,aw⟩;simp[ai,fv,lk,AV.low,AV.l]
    exact lO (dN rfl) B (da _ _ _ _) (da _ _ _ _) (da _ _ _ _) rfl rfl rfl rfl (fun j n=>by simp[lk,mP n,qS,mQ n])) ?_
  intro k hk;simp only[MG];simp only[go_sem,Nat.reduceEqDiff,Nat.reduceAdd,Nat.reduceLT,↓reduceIte];refine⟨fun h=>?_,fun h=>?_⟩
  ·have n:m+k<xs.length:=aq;obtain⟨x,N⟩:∃x,xs[m+k]?=some x:=⟨_,cm n⟩;have w3:=ay (k:=k) aq;have Y:IntKind.i64.wrap ((m:Int)+k)=((m+k:Nat):Int):=by rw[IntWalk.i64_in _ aq];omega
   have y:=BG (inner:=inner) (idf:=uq) (f:=cM m k a g) N;have I:=fun q=>IV (inner:=inner) (idf:=uq) (f:=cM m k a g) q N;have w:m+k<8:=aq;have E:=mP w;have R:=qS (m+k);rw[wm]at y;simp[go_sem,sb,kg A,ke,Y,-Int.natCast_add];refine⟨aq,?_⟩
   have C:∀(f:jB)(c:Nat),9≤c→∀(u:Nat)(v:Blk),(u,v)∈kQ 1 8 f→¬c=u:=by
    intro f c hc u v F e;obtain⟨j,n,O⟩:=j9 8 1 f _ F;simp only[Prod.mk.injEq]at O;omega
   refine dI [1,2,3,4,5,6] [0,7,8,9,10,11] [1,2,3,4,5,6] (.alt (bt 0 (bt 7 (a_ [8,9,10,11]))) (bt 7 (.alt (bt 0 (a_ [8,9,10,11])) (a_ [8,0,9,10,11])))) ⟨[(0,.own 0 0 xs.length xs.length),(4,.ptr 10 0 0 1),(5,.ptr 42 0 0 1),(6,.ptr 74 0 0 1),(51,.d (.int .i64 (p:Int))),(52,.d (.int .i64 (k:Int)))],MG inner xs (bU z32 0 0) (bU b m p) (bU a i D) (cM m (k+1) a g),20000⟩ (k:=12) ?h3 ?hq
   case h3 =>
    intro G Q;have X:∀(t:Fr)(J:Hp),(fv 0 t=.own 0 0 xs.length xs.length∧fv 4 t=.ptr 10 0 0 1∧fv 5 t=.ptr 42 0 0 1∧fv 6 t=.ptr 74 0 0 1∧fv 51 t=.d (.int .i64 (p:Int))∧fv 52 t=.d (.int .i64 (k:Int)) ∧
      J=(10544,⟨29,32,[cb a]⟩)::(74,⟨174,34,[bU z32 0 0]⟩)::(42,⟨174,34,[bU b m p]⟩)::(10,⟨174,34,[bU a i D]⟩)::(0,⟨33,34,mi inner uq (cM m (k+1) a g) xs⟩)::kQ 1 8 (cM m (k+1) a g))→G t J:=by
     rintro t J⟨Z,W,V,U,S,T,rfl⟩;refine Q _ _ (b8 ⟨?_,?_,aw⟩);simp[ai,AV.low,AV.l,Z,W,V,U,S,T];exact lO (dN rfl) B (da _ _ _ _) (da _ _ _ _) (da _ _ _ _) rfl rfl rfl rfl (fun j n=>by simp[lk,mP n,qS,mQ n])
    have o:=I (g (m+k)++[a]);have l:=Ep (f:=cM m k a g) (g (m+k)++[a]) w;rw[An]at o l;simp[au,pB]at o l;have aa:=hg (m+k);simp[go_sem,K,y,z,hi,au,wj z,mQ w,ke,E,R,wm,V7,abr,V9,xO hi,o,l]
    repeat' apply And.intro
    all_goals first|exact X _ _ (by simp[fv,lk])|omega|exact fun a c F e=>absurd e (C _ _ aq _ _ F)
   case hq =>
    simp[go_sem,w3];refine ao (k+1) aq aq ⟨?_,?_,aw⟩
    simp[ai,fv,lk,AV.low,AV.l];exact lO (dN rfl) B (da _ _ _ _) (da _ _ _ _) (da _ _ _ _) rfl rfl rfl rfl (fun j n=>by simp[MG,lk,mP n,qS,mQ n])
  ·have H:k=p:=aq;subst H;have w5:IntKind.i64.wrap ((D:Int)+k)=((D+k:Nat):Int):=by rw[IntWalk.i64_in _ aq];omega
   have L:=jd a b;skip;refine dI [0,1,2,3,5,6,7,8,9,10,11] [4,13] [0,1,2,3,5,6,7,8,9,10,11,12] (.step 4 [12] true (a_ [13])) ⟨[(6,.ptr 74 0 0 1)],MG inner xs (bU (cG a b) i (D+k)) (bU b m k) (bU a i D) (cM m k a g),30000⟩ (k:=14) ?h3 ?hq
   case h3 =>
    intro G Q;simp[go_sem,K,sb,wj z,wj A,kg z,kh z,kh A,w5,-Int.natCast_add];refine ag (Af a b z A) (by intro v hv;simp at hv;rcases hv with rfl|rfl<;>exact bp _) ?_;have hz:List.drop 32 (bU z32 0 0)=[.d (.int .i64 0),.d (.int .i64 0)]:=rfl;have ab:List.drop 34 (bU z32 0 0)=[]:=rfl;have e1:=IX L;have O:=BH L;have e3:=BI L;simp[go_sem,L,aj,zs,hz,ab,e1,O,e3];refine Q _ _ (b8 ⟨?_,?_,aw⟩)
    simp[ai,fv,lk,AV.low,AV.l];exact lO (dN rfl) B (da _ _ _ _) (da _ _ _ _) (da _ _ _ _) (by simp[lk,bU]) rfl rfl rfl (fun j n=>by simp[lk,mP n,qS,mQ n])
   case hq =>
    simp[go_sem,MG,dQ L,lN L];intro j n;simp[mP n,qS,mQ n]
def kR(j:Nat):Nat:=20000+j
def pe:List (Nat×Nat):=[(0,10000),(1,20000),(2,20001),(3,20002),(4,20003),(5,20004),(6,20005),(7,20006),(8,20007)]
theorem kE(ρ:Nat→Nat):∀l:List AV,AV.R ρ l=l.map (AV.r ρ)
 |[]=>rfl
 |a::r=>by rw[AV.R,List.map_cons,kE ρ r]
theorem GY(ρ:Nat→Nat)(l:List Nat):(cb l).map (AV.r ρ)=cb l:=by simp[cb,AV.r]
theorem Es{ρ:Nat→Nat}{inner:List Nat}{idf a:Nat→Nat}{f:jB}{xs:List (List Nat)}(h:∀j,j<xs.length→ρ (idf j)=a j):aQ ρ (mi inner idf f xs)=mi inner a f xs:=by
 apply List.ext_getElem?;intro i;simp only[aQ,mi,cU,List.getElem?_mapIdx,Option.map_map];cases c:xs[i]? with
 |none=>rfl
 |some x =>
  have b:=(ci.1 c).1;simp[au,kE,GY,AV.r,h i b]
theorem Ov(ρ:Nat→Nat)(q:List (List Nat)):(pB q).r ρ=pB q:=by
 unfold Blk.r pB;simp only[aQ,List.map_map,Blk.mk.injEq,true_and];apply List.map_congr_left;intro l _;simp only[Function.comp_apply,kE,GY]
theorem Et(ρ:Nat→Nat)(h:List Nat)(a b:Nat):(AV.agg (bU h a b)).r ρ=.agg (bU h a b):=by
 rw[AV.r,kE,bU,List.map_append,GY];rfl
theorem aek:∀j,j<8→cn (iV pe) 9 (kR j)=uq j:=by decide
theorem ael(N:Nat):∀j,j<8→cn (bK pe [] N) (N+31) (uq j)=kR j:=by
 have h:∀j,j<8→lk (uq j) pe=some (kR j):=by decide
 intro j a;unfold cn bK;rw[List.map_nil,List.append_nil,h j a];rfl
theorem Ox{f:jB}{i:Nat}(h:i<20000∨20008≤i):lk i (kQ 20000 8 f)=none:=by
 cases a:lk i (kQ 20000 8 f)with
 |none=>rfl
 |some b =>
  obtain⟨j,c,e⟩:=j9 8 20000 f _ (bR a);simp only[Prod.mk.injEq]at e;omega
theorem Eu{f:jB}{i:Nat}{r:Hp}(h:i<20000∨20008≤i):lk i (kQ 20000 8 f++r)=lk i r:=by
 rw[oZ,Ox h]
theorem Ao{i:Nat}{b:Blk}:∀{a r:Hp},(∀p,p∈a→p.1≠i)→bV i b (a++r)=a++bV i b r
 |[],r,_=>rfl
 |(m,v)::t,r,h=>by
  rw[List.cons_append,bV,if_neg (h _ (dz ..)),Ao (fun p c=>h p (cS _ c))];rfl
theorem GZ{f:jB}{i:Nat}{b:Blk}{r:Hp}(h:i<20000∨20008≤i):bV i b (kQ 20000 8 f++r)=kQ 20000 8 f++bV i b r :=
 Ao (fun p a=>by
  obtain⟨j,c,rfl⟩:=j9 8 20000 f p a;show 20000+j≠i
  omega)
theorem Yf{f:jB}{j:Nat}{r:Hp}(h:j<8):lk (kR j) (kQ 20000 8 f++r)=some (pB (f j)):=by
 rw[oZ,show lk (kR j) (kQ 20000 8 f)=some (pB (f j))from pa 8 20000 f j h]
theorem Oy{P:Program}{N:Nat}{K:AV→Hp→Prop}{pre:Hp}(inner a b:List Nat)(xs:List (List Nat))(f:jB)(e c k d:Nat)(O:xs.length≤8)
  (L:cZ P 112 9 ((0,⟨33,34,mi inner uq f xs⟩)::kQ 1 8 f) [.own 0 0 xs.length xs.length,.agg (bU a e c),.agg (bU b k d)]
   (fun r m=>r=.agg (bU (cG a b) e (c+d))∧lk 0 m=some ⟨33,34,mi inner uq (cM k d a (cM e c b f)) xs⟩∧∀j,j<8→lk (uq j) m=some (pB (cM k d a (cM e c b f) j))))
  (n:∀p,p∈pre→p.1≠10000∧(p.1<20000∨20008≤p.1))
  (M:K (.agg (bU (cG a b) e (c+d))) ((10000,⟨33,34,mi inner kR (cM k d a (cM e c b f)) xs⟩)::(kQ 20000 8 (cM k d a (cM e c b f))++pre))) :
  uX P 112 [.own 10000 0 xs.length xs.length,.agg (bU a e c),.agg (bU b k d)] (pre++(10000,⟨33,34,mi inner kR f xs⟩)::kQ 20000 8 f) N K:=by
 have g:∀i,(i=10000∨(20000≤i∧i<20008))→lk i pre=none:=by
  intro i Q;cases H:lk i pre with
  |none=>rfl
  |some b =>
   have:=n _ (bR H);simp only at this;omega
 have t:lk 10000 (pre++(10000,⟨33,34,mi inner kR f xs⟩)::kQ 20000 8 f)=some ⟨33,34,mi inner kR f xs⟩:=by
  rw[oZ,g 10000 (.inl rfl)];rfl
 have lP:∀j,j<8→lk (kR j) (pre++(10000,⟨33,34,mi inner kR f xs⟩)::kQ 20000 8 f)=some (pB (f j)):=by
  intro j l;rw[oZ,g (kR j) (.inr ⟨by unfold kR;omega,by unfold kR;omega⟩)];show lk (kR j) ((10000,_)::kQ 20000 8 f)=_;rw[lk,if_neg (by unfold kR;omega)];exact pa 8 20000 f j l
 have q:∀p,p∈pe→p=(0,10000)∨∃j,j<8∧p=(uq j,kR j):=by decide
 refine aS pe L rfl ?_ ?_ ?_ ?_ ?_;decide;intro p h;rcases q p h with rfl|⟨j,l,rfl⟩;exact⟨_,t,aw⟩;exact⟨_,lP j l,by simp[pB]⟩;intro p h;rcases d_.1 h with rfl|h;refine⟨10000,_,rfl,t,?_⟩;simp only[Blk.r,Blk.mk.injEq,true_and];exact(Es (fun j l=>aek j aq)).symm;obtain⟨j,l,rfl⟩:=j9 8 1 f p h;have w:∀j,j<8→lk (1+j) pe=some (kR j):=by decide
 exact⟨kR j,_,w j l,lP j l,(Ov _ _).symm⟩;simp only[kE,List.map_cons,List.map_nil,Et];rfl;rintro r m⟨rfl,G,o⟩;refine⟨[],rfl,?_⟩;rw[Et];have I:cj pe [] N m (pre++(10000,⟨33,34,mi inner kR f xs⟩)::kQ 20000 8 f)=(10000,⟨33,34,mi inner kR (cM k d a (cM e c b f)) xs⟩)::(kQ 20000 8 (cM k d a (cM e c b f))++pre):=by
  unfold cj;have u:((pre++(10000,⟨33,34,mi inner kR f xs⟩)::kQ 20000 8 f).filter fun p=>!(pe.map (·.2)).contains p.1)=pre:=by
   rw[List.filter_append];have F:pre.filter (fun p=>!(pe.map (·.2)).contains p.1)=pre:=by
    rw[List.filter_eq_self];intro p h;have:=n p h;simp[pe];omega
   have J:((10000,(⟨33,34,mi inner kR f xs⟩:Blk))::kQ 20000 8 f).filter (fun p=>!(pe.map (·.2)).contains p.1)=[]:=by
    rw[List.filter_eq_nil_iff];intro p h;rcases d_.1 h with rfl|h;simp[pe];obtain⟨j,l,rfl⟩:=j9 8 20000 f p h;simp[pe];omega
   rw[F,J,List.append_nil]
  rw[u,←List.cons_append];congr 1;have z:=o 0 aq;have E:=o 1 aq;have x:=o 2 aq;have y:=o 3 aq;have A:=o 4 aq;have B:=o 5 aq;have D:=o 6 aq;have C:=o 7 aq;simp only[uq,Nat.reduceAdd]at z E x y A B D C;have v:(⟨33,34,mi inner uq (cM k d a (cM e c b f)) xs⟩:Blk).r (cn (bK pe [] N) (N+31))=⟨33,34,mi inner kR (cM k d a (cM e c b f)) xs⟩:=by
   simp only[Blk.r,Blk.mk.injEq,true_and];exact Es (fun j l=>ael N j aq)
  have s:bK pe [] N=pe:=by simp[bK]
  rw[s]at v⊢;simp only[pe]at v⊢;simp[G,z,E,x,y,A,B,D,C,Ov,kQ,v]
 rw[I];exact M
def Yg(n:Nat)(v a:AV):Prop:=a=v∨(v=.nil∧∃id,id<n∧a=.own id 0 0 0)
def TQ(n:Nat)(v a:AV):Prop:=a=v∨(v=.nil∧∃id,id<n∧a=.own id 0 0 0)∨(v=.nil∧∃e,a=.d (.ro e []))
theorem Ap{st:St}{L:Nat}{b:Blk}{es':List (List AV)}(Y:lk L st.hp=some b)(hz:b.e≠0)(hl:es'.length=b.es.length)
  (hc:∀(i:Nat)(x R:List AV),b.es[i]?=some x→es'[i]?=some R→R.length=x.length∧∀(j:Nat)(v V:AV),x[j]?=some v→R[j]?=some V→TQ st.nx v V):Wk st ⟨st.fr,bV L ⟨b.ty,b.e,es'⟩ st.hp,st.nx⟩:=by
 intro c a w hs;obtain⟨h1,h2,σ,q,hf,A⟩:=hs;have l:∀i k,lk i (bV L ⟨b.ty,b.e,es'⟩ st.hp)=some k→∃p,lk i st.hp=some p∧k.ty=p.ty∧k.e=p.e∧k.es.length=p.es.length∧(i≠L→k=p)∧(i=L→k=⟨b.ty,b.e,es'⟩∧p=b):=by
  intro i k h;rw[kW]at h;by_cases m:i=L;subst m;rw[if_pos rfl,Y]at h;simp only[Option.map_some,Option.some.injEq]at h;subst h;exact⟨b,Y,rfl,rfl,hl,fun e=>absurd rfl e,fun _=>⟨rfl,rfl⟩⟩;rw[if_neg m]at h;exact⟨k,h,rfl,rfl,rfl,fun _=>rfl,fun e=>absurd e m⟩
 have Z:∀p,bQ c w σ st.hp p→bQ c w σ (bV L ⟨b.ty,b.e,es'⟩ st.hp) p:=fun p t=>⟨⟨t.1.1,fun id N g h u=>by
  obtain⟨f,o,_⟩:=l id N h
  exact t.1.2 id f g o u⟩,t.2⟩
 have step:Step w (bQ c w σ st.hp) σ st.hp (fun i=>i<st.nx) w (bQ c w σ (bV L ⟨b.ty,b.e,es'⟩ st.hp)) σ (bV L ⟨b.ty,b.e,es'⟩ st.hp) (fun i=>i<st.nx) :=
  ⟨Z,fun _ _=>rfl,fun _ h=>h,fun id k _ h=>by
   obtain⟨f,o,B,E,S,_⟩:=l id k h
   exact⟨f,o,E,B,aq,fun _ g u=>⟨u,fun _ h=>h⟩⟩⟩
 refine⟨h1,h2,σ,⟨fun i j bi bj g m C Q H=>?_,fun i k h=>?_,fun i k h=>?_,fun i k g h u=>?_,q.os,q.tape,q.output,q.size,q.old⟩,fun n=>(hf n).step step,A.trans step⟩;obtain⟨f,o,_⟩:=l i bi m;obtain⟨b2,B,_⟩:=l j bj C;exact q.inj i j f b2 g o B Q H;obtain⟨f,o,_⟩:=l i k h;exact q.lt i f o;obtain⟨f,o,B,E,S,G,J⟩:=l i k h;rcases q.blk i f o with ⟨T,k2⟩|⟨g,T,I,k2,k3,k4,k5,X⟩;refine .inl ⟨T,?_⟩;by_cases m:i=L;obtain⟨rfl,rfl⟩:=J m;have:=k2.none hz;exact .inl (List.length_eq_zero_iff.1 (by rw[S,this];rfl));rw[G m];exact k2;refine .inr ⟨g,T,I,by rw[B];exact k2,k3,?_,by rw[S,E];exact k5,?_⟩;by_cases m:i=L;obtain⟨rfl,rfl⟩:=J m;intro x hx;obtain⟨n,U,rfl⟩:=List.mem_iff_getElem.1 hx;have r:n<f.es.length:=by simp only at U;omega
 obtain⟨W,_⟩:=hc n f.es[n] _ (cm r) (cm U);rw[W];exact k4 _ (List.getElem_mem _);rw[G m];exact k4;intro s j x y v D O F;rw[E]at F;by_cases m:i=L;obtain⟨rfl,rfl⟩:=J m;have r:s<f.es.length:=by have:=(ci.1 D).1;simp only at this;omega
 obtain⟨W,q2⟩:=hc s f.es[s] x (cm r) D;have C:j<f.es[s].length:=by have:=(ci.1 O).1;omega
 have z:=X s j f.es[s] f.es[s][j] v (cm r) (cm C) F;rcases q2 j _ y (cm C) O with rfl|⟨K,id,M,rfl⟩|⟨K,e,rfl⟩;exact z.step step;rw[K]at z;cases z with
 |nil=>exact .own id 0 0 0 none 0 M (cL _) (fun _=>rfl) fun b2 aa=>⟨Nat.zero_le _,fun _=>⟨cL _,cL _,fun h=>aq⟩⟩
 ·rw[K]at z;cases z with
  |nil=>exact .d (.ro e [] none 0 (fun _ _=>undef) (cL _) aw aw aw aw)
 ·rw[G m]at D;exact(X s j x y v D O F).step step
 ·obtain⟨f,o,_⟩:=l i k h;exact q.mine i f g o u
theorem Oz{st:St}{L:Nat}{b:Blk}{es':List (List AV)}(h:lk L st.hp=some b)(hz:b.e≠0)(l:es'.length=b.es.length)
  (hc:∀(i:Nat)(x a:List AV),b.es[i]?=some x→es'[i]?=some a→a.length=x.length∧∀(j:Nat)(v c:AV),x[j]?=some v→a[j]?=some c→Yg st.nx v c):Wk st ⟨st.fr,bV L ⟨b.ty,b.e,es'⟩ st.hp,st.nx⟩ :=
 Ap h hz l fun i x a f d=>⟨(hc i x a f d).1,fun j v c g k=>((hc i x a f d).2 j v c g k).imp id .inl⟩
abbrev Row:=List (List Nat×Nat)
def Ew(h:List Nat)(s m:Nat):List DV:=cd h++[.int .i64 (s:Int),.int .i64 (m:Int)]
def mR:Nat→Row→List (List DV)
 |_,[]=>[]
 |s,p::r=>Ew p.1 s p.2::mR (s+p.2) r
theorem Ey(h:List Nat)(s m:Nat):(Ew h s m).map AV.d=bU h s m:=by simp[Ew,bU,dc]
theorem xQ{h:List Nat}(a:h.length=32)(s m:Nat):(Ew h s m).length=34:=by simp[Ew,b7,a]
theorem nT:∀(s:Nat)(r:Row),(mR s r).length=r.length
 |_,[]=>rfl
 |s,p::r=>by rw[mR,List.length_cons,List.length_cons,nT]
def iI(r:Row):Nat:=(r.map (·.2)).sum
theorem wo:∀(s:Nat)(a b:Row),mR s (a++b)=mR s a++mR (s+iI a) b
 |s,[],b=>by simp[mR,iI]
 |s,p::a,b=>by
  rw[List.cons_append,mR,mR,wo (s+p.2) a b,List.cons_append];congr 2;simp[iI,Nat.add_assoc]
theorem xR:∀(s:Nat)(r:Row),(∀p,p∈r→p.1.length=32)→∀x,x∈mR s r→x.length=34
 |_,[],_,x,h=>by simp[mR]at h
 |s,p::r,hp,x,h=>by
  rcases d_.1 h with rfl|h;exact xQ (hp p (dz ..)) _ _;exact xR _ r (fun q a=>hp q (cS _ a)) x h
theorem BJ(n s:Nat)(r:Row):∀x,x∈(mR s r).map (fun q=>q.map AV.d)→∀v,v∈x→v.l n:=by
 intro x a v b;obtain⟨q,_,rfl⟩:=List.mem_map.1 a;obtain⟨d,_,rfl⟩:=List.mem_map.1 b;trivial
def dW:Row→Row
 |a::b::r=>(cG a.1 b.1,a.2+b.2)::dW r
 |r=>r
def gJ:Nat→Row→jB→jB
 |s,a::b::r,f=>gJ (s+a.2+b.2) r (cM (s+a.2) b.2 a.1 (cM s a.2 b.1 f))
 |_,_,f=>f
theorem pg:∀r:Row,2*(dW r).length≤r.length+1
 |[]=>by simp[dW]
 |[a]=>by simp[dW]
 |a::b::r=>by
  have:=pg r;simp only[dW,List.length_cons];omega
theorem rB:∀r:Row,iI (dW r)=iI r
 |[]=>rfl
 |[a]=>rfl
 |a::b::r=>by
  have:=rB r;simp only[dW,iI,List.map_cons,List.sum_cons]at this⊢;omega
theorem wy:∀r:Row,(∀p,p∈r→p.1.length=32)→∀p,p∈dW r→p.1.length=32
 |[],h=>h
 |[a],h=>h
 |a::b::r,h=>by
  intro p c;rcases d_.1 c with rfl|c;exact jd _ _;exact wy r (fun q d=>h q (by simp[d])) p c
def eg:Nat→Row→jB→Row×jB
 |0,r,f=>(r,f)
 |n+1,r,f=>if 1<r.length then eg n (dW r) (gJ 0 r f)else(r,f)
theorem G0{n:Nat}{r:Row}{f:jB}(h:r.length≤1):eg n r f=(r,f):=by
 cases n with
 |zero=>rfl
 |succ n=>rw[eg,if_neg aq]
def fS(xs:List (List Nat)):Row:=xs.map fun x=>(eD x,1)
theorem rC(xs:List (List Nat)):iI (fS xs)=xs.length:=by
 induction xs with
 |nil=>rfl
 |cons a r ih=>simp only[fS,iI,List.map_cons,List.sum_cons,List.length_cons]at ih⊢;omega
theorem sR(xs:List (List Nat)):∀p,p∈fS xs→p.1.length=32:=by
 intro p a;obtain⟨x,_,rfl⟩:=List.mem_map.1 a;exact nh x
theorem OA(a b:List (List Nat)):fS (a++b)=fS a++fS b:=by simp[fS]
def bS(xs:List (List Nat)):jB:=(eg 7 (fS xs) fun _=>[]).2
theorem sS{first k:Nat}{h:List Nat}{f:jB}{B s:Nat}(b:∀j,(f j).length≤if j<s then B+1 else B)(c:s≤first):∀j,((cM first k h f) j).length≤if j<first+k then B+1 else B:=by
 intro j;have:=b j;unfold cM;by_cases a:first≤j∧j<first+k
 rw[if_pos a,if_pos a.2];rw[if_neg aq]at this;simp;omega;rw[if_neg a];split at this;rw[if_pos aq];omega;split<;>omega
def eP(inner:List Nat)(l:List (List Nat)×List Nat):List DV:=cd inner++[cz l.1,nb l.2]
theorem nl{inner:List Nat}(hi:inner.length=32)(l:List (List Nat)×List Nat):(eP inner l).length=34:=by simp[eP,b7,hi]
theorem uu(inner:List Nat)(l:List (List Nat)×List Nat):(eP inner l).map AV.d=au inner (.d (cz l.1)) (.d (nb l.2)):=by simp[eP,au,dc]
theorem G1(inner:List Nat)(a b:DV):(AV.agg (au inner (.d a) (.d b))).deep:=by
 intro c hc;unfold au at hc;rcases cD.1 hc with h|h;exact bp _ _ h;simp at h;rcases h with rfl|rfl<;>trivial
theorem lq{inner:List Nat}(hi:inner.length=32)(a b:AV):(au inner a b).length=34:=by simp[au,aj,hi]
theorem lQ{inner:List Nat}(hi:inner.length=32)(a b:AV):List.take 34 (au inner a b)=au inner a b:=cx (by rw[lq hi];exact cL _)
theorem qe(inner:List Nat)(a b:DV):∀v,v∈[AV.agg (au inner (.d a) (.d b))]→v.deep:=by
 intro v c;simp at c;subst c;exact G1 _ _ _
theorem OB(inner:List Nat)(l:List (List Nat)×List Nat)(O:List Nat)(e:Int)(hi:inner.length=32)
  (g:fm prog 46 [.agg (au inner (.d (cz l.1)) (.d (nb l.2)))] (.tup [.d (nb O),.d (.int .i64 e)])) :
  fm prog 113 [.agg (au inner (.d (cz l.1)) (.d (nb l.2)))] (.d (.bool (!decide (e=0)))):=by
 refine bL func113 ntmps113 (rs:=[.tmp 2]) (qe _ _ _) ?_;simp[go_sem,lq hi,lQ hi];refine ag g (qe _ _ _) ?_;simp[go_sem,ah];exact aa a9 rfl
abbrev Lf:=List (List Nat)×List Nat
def sT(E:Lf→Int)(a:List Lf):Bool:=a.any fun l=>!decide (E l=0)
theorem OC{E:Lf→Int}{l:List Lf}{k:Nat}{x:Lf}{b:Bool}(a:l.drop k=x::l.drop (k+1))(h:sT E (l.drop k)=b)(c:E x=0):sT E (l.drop (k+1))=b:=by
 rw[a]at h;rw[←h];simp[sT,c]
theorem OD{E:Lf→Int}{l:List Lf}{k:Nat}{x:Lf}{b:Bool}(a:l.drop k=x::l.drop (k+1))(h:sT E (l.drop k)=b)(c:¬E x=0):b=true:=by
 rw[a]at h;rw[←h];simp[sT,c]
theorem K2(inner:List Nat)(a:List Lf)(O:Lf→List Nat)(E:Lf→Int)(hi:inner.length=32)(o:a.length≤1000000000)
  (g:∀l,l∈a→fm prog 46 [.agg (au inner (.d (cz l.1)) (.d (nb l.2)))] (.tup [.d (nb (O l)),.d (.int .i64 (E l))])) :
  ar prog 154 [.d (.ro 34 (a.map (eP inner))),.fn 113 []] (fun r=>∃n:Int,r=.d (.int .i64 n)∧decide (0≤n)=sT E a):=by
 refine bL func154 ntmps154 (rs:=[.tmp 4]) a9 ?_;simp[go_sem]
 refine av (fun k:Nat=>⟨[(0,.d (.ro 34 (a.map (eP inner)))),(1,.fn 113 []),(7,.d (.int .i64 (a.length:Int))),(8,.d (.int .i64 (k:Int)))],[],1000⟩)
  (fun k=>k≤a.length∧sT E (a.drop k)=sT E a) (fun k=>a.length-k) 0 ⟨aq,rfl⟩ (by
   simp[aA,ai,fv,lk,AV.low,AV.l]) ?_
 rintro k⟨p,e⟩;simp only[go_sem,Nat.reduceEqDiff,Nat.reduceAdd,Nat.reduceLT,↓reduceIte];refine⟨fun h=>?_,fun h=>?_⟩
 ·obtain⟨x,c,j⟩:=bu (l:=a) (k:=k) aq;have m:=ay (k:=k) aq;have b:=nl hi x;simp[go_sem,c,b,uu,lQ hi];refine ag (OB inner x (O x) (E x) hi (g x (cr c))) (qe _ _ _) ?_;by_cases f:E x=0
  ·simp[go_sem,f,m];refine ao (k+1) ⟨aq,OC j e f⟩ aq ?_;simp[aA,ai,fv,lk,AV.low,AV.l]
  ·have:=OD j e f;simp[go_sem,f];exact aa a9 ⟨_,rfl,by rw[this];simp⟩
 ·have i:k=a.length:=aq;subst i;rw[List.drop_length]at e;simp[go_sem];exact aa a9 ⟨_,rfl,by rw[←e];rfl⟩
theorem BK(inner:List Nat)(a:List Lf)(O:Lf→List Nat)(E:Lf→Int)(hi:inner.length=32)(c:a.length≤1000000000)
  (g:∀l,l∈a→fm prog 46 [.agg (au inner (.d (cz l.1)) (.d (nb l.2)))] (.tup [.d (nb (O l)),.d (.int .i64 (E l))])) :
  fm prog 114 [.d (.ro 34 (a.map (eP inner))),.fn 113 []] (.d (.bool (sT E a))):=by
 refine bL func114 ntmps114 (rs:=[.tmp 4]) a9 ?_;simp[go_sem];refine NW (K2 inner a O E hi c g) a9 ?_;rintro r⟨n,rfl,b⟩;rw[←b];simp[go_sem];exact aa a9 rfl
def nn(f:jB)(xs:List (List Nat)):List Lf:=xs.mapIdx fun j x=>(f j,x)
theorem BL{hp:Hp}{I:Nat→Prop}{a c:List AV}{b d:List DV}(h:CellsR hp I a b)(e:CellsR hp I c d):CellsR hp I (a++c) (b++d):=by
 induction h with
 |nil=>exact e
 |cons h t ih=>exact .cons h ih
theorem ve{hp:Hp}{I:Nat→Prop}:∀(rows:List (List AV))(es:List (List DV)),rows.length=es.length→(∀(i:Nat)(x:List AV)(y:List DV),rows[i]?=some x→es[i]?=some y→CellsR hp I x y)→RowsR hp I rows es
 |[],[],_,_=>.nil
 |[],_::_,h,_=>by simp at h
 |_::_,[],h,_=>by simp at h
 |x::rows,y::es,h,hg=>.cons (hg 0 x y rfl rfl) (ve rows es (by simpa using h) (fun i a b d c=>hg (i+1) a b (by simpa using d) (by simpa using c)))
theorem BM(f:jB)(xs:List (List Nat)):(nn f xs).length=xs.length:=by simp[nn]
theorem Ez{hp:Hp}{I:Nat→Prop}{inner:List Nat}{idf:Nat→Nat}{f:jB}{xs:List (List Nat)}{id:Nat}(hi:inner.length=32)(q:lk id hp=some ⟨33,34,mi inner idf f xs⟩)(o:I id)(g:∀j,j<xs.length→I (idf j))
  (a:∀j p,p∈f j→p.length=32) (s:∀j,j<xs.length→lk (idf j) hp=some (pB (f j))):SnapD hp I (.own id 0 xs.length xs.length) (.ro 34 ((nn f xs).map (eP inner))):=by
 refine kJ q o ke ?_ (by rw[List.length_map,BM]) (fun r c=>?_);rw[List.drop_zero,cx (by rw[ke];exact cL _)];refine ve _ _ (by simp[ke,BM]) (fun i x y n m=>?_);simp only[mi,nn,cU,List.getElem?_mapIdx,Option.map_map,Option.map_eq_some_iff]at n m;obtain⟨u,h,rfl⟩:=n;obtain⟨v,k,rfl⟩:=m;rw[h]at k;cases k;unfold au;simp only[Function.comp_apply,eP];rw[←dc];refine BL (lp _) (.cons ?_ (.cons (.d _) .nil));have b:=(ci.1 h).1;refine eB (ty:=29) (e:=32) (es:=(f i).map cd) ?_ (g i b) aw (fun r c=>?_);rw[s i b];simp[pB,dc];obtain⟨p,hp,rfl⟩:=List.mem_map.1 c;rw[b7];exact a i p hp;obtain⟨l,_,rfl⟩:=List.mem_map.1 c;exact nl hi l
end Go.Proofs.YtmfnimjnneflnaaGreat
