/-
 Part 8.
-/
import Derived.Test.YtmfnimjnneflnaaGreatN6
set_option linter.unusedVariables false
set_option linter.unusedSimpArgs false
set_option maxRecDepth 100000
set_option maxHeartbeats 16000000
open Go.Proofs.Tryz
namespace Go.Proofs.YtmfnimjnneflnaaGreat
structure Ip where
 hash:List Nat
 idx:Nat
 seq:Nat
 wit:List (List Nat)
structure Tn where
 ver:Nat
 ins:List Ip
 outs:List (Nat×List Nat)
 lock:Nat
def Ip.ok(i:Ip):Prop:=i.hash.length=32∧i.idx<4294967296∧i.seq<4294967296
def Tn.ok(t:Tn):Prop:=t.ver<4294967296∧t.lock<4294967296∧(∀i,i∈t.ins→i.ok)∧(∀o,o∈t.outs→o.1<18446744073709551616)
def fK(n:Nat)(xs:List (List Nat)):Bool:=xs.all fun x=>decide (x.length≤n)
def cT(n:Nat)(os:List (Nat×List Nat)):Bool:=os.all fun o=>decide (o.2.length≤n)
def iY(m n:Nat)(is:List Ip):Bool:=is.all fun i=>decide (i.wit.length≤m)&&fK n i.wit
def iu(a m n:Nat)(t:Tn):Bool:=decide (t.ins.length≤a)&&(decide (t.outs.length≤a)&&(cT n t.outs&&iY m n t.ins))
def eO(o:Nat×List Nat):List DV:=[.int .u64 (o.1:Int),nb o.2]
def eI(i:Ip):List DV:=cd i.hash++[.int .u32 (i.idx:Int),.int .u32 (i.seq:Int),.ro 1 (i.wit.map bX)]
def eT(t:Tn):List AV:=[.d (.int .u32 (t.ver:Int)),.d (.ro 35 (t.ins.map eI)),.d (.ro 2 (t.outs.map eO)),.d (.int .u32 (t.lock:Int))]
def eS(t:Tn)(n:Int)(coins:List (Nat×List Nat)):List AV:=[.d (.int .u32 (t.ver:Int)),.d (.ro 35 (t.ins.map eI)),.d (.ro 2 (t.outs.map eO)),.d (.int .u32 (t.lock:Int)),.d (.int .i64 n),.d (.ro 2 (coins.map eO))]
theorem x9{i:Ip}(h:i.hash.length=32):(eI i).drop 34=[.ro 1 (i.wit.map bX)]:=by
 unfold eI;rw[List.drop_append,c_ (by rw[b7];omega),b7,h];rfl
theorem abw{i:Ip}(h:i.hash.length=32):(eI i).drop 33=[.int .u32 (i.seq:Int),.ro 1 (i.wit.map bX)]:=by
 unfold eI;rw[List.drop_append,c_ (by rw[b7];omega),b7,h];rfl
theorem aem{i:Ip}(h:i.hash.length=32):(eI i).drop 32=[.int .u32 (i.idx:Int),.int .u32 (i.seq:Int),.ro 1 (i.wit.map bX)]:=by
 unfold eI;rw[List.drop_append,c_ (by rw[b7];omega),b7,h];rfl
theorem lS{i:Ip}(h:i.hash.length=32):(eI i).length=35:=by simp[eI,b7,h]
theorem iK{α:Type}{l:List α}{k:Nat}{p:α→Bool}{x:α}{b:Bool}(a:l.drop k=x::l.drop (k+1))(h:(l.drop k).all p=b)(c:p x=true):(l.drop (k+1)).all p=b:=by
 rw[a,List.all_cons,c,Bool.true_and]at h;exact h
theorem fY{α:Type}{l:List α}{k:Nat}{p:α→Bool}{x:α}{b:Bool}(a:l.drop k=x::l.drop (k+1))(h:(l.drop k).all p=b)(c:p x=false):b=false:=by
 rw[a,List.all_cons,c,Bool.false_and]at h;exact h.symm
theorem iL{α:Type}{l:List α}{p:α→Bool}{b:Bool}(h:(l.drop l.length).all p=b):b=true:=by
 rw[List.drop_length]at h;exact h.symm
theorem G7 (t:Tn) (G:t.ok):fm prog 67 [.agg (eT t)] (.d (.bool (iu 6 6 600 t))):=by
 obtain⟨_,_,F,_⟩:=G;refine bL func67 ntmps67 (rs:=[.tmp 2]) (by simp[AV.deep,AV.deep1,eT]) ?_;by_cases C:t.ins.length≤6
 ·by_cases B:t.outs.length≤6
  ·have q:¬ 6<(t.ins.length:Int):=aq;have i2:¬ 6<(t.outs.length:Int):=aq;have J:iu 6 6 600 t=(cT 600 t.outs && iY 6 600 t.ins):=(by simp [iu,C,B]);rw[J];simp[go_sem,eT,q,i2]
   refine av (fun k:Nat=>⟨[(1,.ptr 0 0 0 1),(3,.d (.int .i64 (k:Int)))],[(0,⟨26,4,[eT t]⟩)],2000⟩)
    (fun k=>k≤t.outs.length∧cT 600 (t.outs.drop k)=cT 600 t.outs) (fun k=>t.outs.length-k) 0 ⟨aq,rfl⟩ (by
     simp[aA,ai,fv,lk,AV.low,AV.l,eT]) ?_
   rintro k⟨I,b⟩;simp only[eT];simp only[go_sem,Nat.reduceEqDiff,Nat.reduceAdd,Nat.reduceLT,↓reduceIte];refine⟨fun h=>?_,fun h=>?_⟩
   ·obtain⟨o,p,m⟩:=bu (l:=t.outs) (k:=k) aq;have K:=ay (k:=k) aq;by_cases u:o.2.length≤600
    ·have f:¬ 600<(o.2.length:Int):=aq;simp[go_sem,p,eO,nb,f,K];refine ao (k+1) ⟨aq,iK m b (by simpa using u)⟩ aq ?_;simp[aA,ai,fv,lk,AV.low,AV.l]
    ·have f:600<(o.2.length:Int):=aq;have:=fY m b (by simpa using u);simp[go_sem,p,eO,nb,f];exact aa a9 (by rw[this];rfl)
   ·have g:k=t.outs.length:=aq;subst g;have E:cT 600 t.outs=true:=iL b;rw[E,Bool.true_and];clear b h;simp[go_sem]
    refine av (fun k:Nat=>⟨[(1,.ptr 0 0 0 1),(4,.d (.int .i64 (k:Int)))],[(0,⟨26,4,[eT t]⟩)],4000⟩)
     (fun k=>k≤t.ins.length∧iY 6 600 (t.ins.drop k)=iY 6 600 t.ins) (fun k=>t.ins.length-k) 0 ⟨aq,rfl⟩ (by
      simp[aA,ai,fv,lk,AV.low,AV.l,eT]) ?_
    rintro k⟨I,b⟩;simp only[eT];simp only[go_sem,Nat.reduceEqDiff,Nat.reduceAdd,Nat.reduceLT,↓reduceIte];refine⟨fun h=>?_,fun h=>?_⟩
    ·obtain⟨i,c,m⟩:=bu (l:=t.ins) (k:=k) aq;have a:=(F i (cr c)).1;by_cases u:i.wit.length≤6
     ·have f:¬ 6<(i.wit.length:Int):=aq;simp[go_sem,c,x9 a,f]
      refine av (fun j:Nat=>⟨[(1,.ptr 0 0 0 1),(4,.d (.int .i64 (k:Int))),(5,.d (.int .i64 (j:Int)))],[(0,⟨26,4,[eT t]⟩)],6000⟩)
       (fun j=>j≤i.wit.length∧fK 600 (i.wit.drop j)=fK 600 i.wit) (fun j=>i.wit.length-j) 0 ⟨aq,rfl⟩ (by
        simp[aA,ai,fv,lk,AV.low,AV.l,eT]) ?_
      rintro j⟨L,e⟩;simp only[eT];simp[go_sem,c,x9 a];refine⟨fun H=>?_,fun H=>?_⟩
      ·obtain⟨x,n,s⟩:=bu (l:=i.wit) (k:=j) aq;have z:=ay (k:=j) aq;by_cases A:x.length≤600
       ·have y:¬ 600<(x.length:Int):=aq;simp[go_sem,n,bX,nb,y,z];intro _;refine ao (j+1) ⟨aq,iK s e (by simpa using A)⟩ aq ?_;simp[aA,ai,fv,lk,AV.low,AV.l]
       ·have y:600<(x.length:Int):=aq;have v:=fY s e (by simpa using A);have:=fY m b (by rw[show fK 600 i.wit=false from v];simp);simp[go_sem,n,bX,nb,y];refine⟨?_,fun h=>aq⟩;exact aa a9 (by rw[show iY 6 600 t.ins=false from this])
      ·have w:j=i.wit.length:=aq;subst w;have v:fK 600 i.wit=true:=iL e;have z:=ay (k:=k) aq;simp[go_sem,z];refine ao (k+1) ⟨aq,iK m b (by rw[v];simpa using u)⟩ aq ?_;simp[aA,ai,fv,lk,AV.low,AV.l]
     ·have f:6<(i.wit.length:Int):=aq;have:=fY m b (by simp;omega);simp[go_sem,c,x9 a,f];exact aa a9 (by rw[show iY 6 600 t.ins=false from this])
    ·have g:k=t.ins.length:=aq;subst g;have D:iY 6 600 t.ins=true:=iL b;simp[go_sem];exact aa a9 (by rw[D])
  ·have q:¬ 6<(t.ins.length:Int):=aq;have i2:6<(t.outs.length:Int):=aq;simp[go_sem,eT,q,i2];exact aa a9 (by simp[iu,B])
 ·have q:6<(t.ins.length:Int):=aq;simp[go_sem,eT,q];exact aa a9 (by simp[iu,C])
theorem G8 (t:Tn) (G:t.ok):fm prog 107 [.agg (eT t)] (.d (.bool (iu 20 30 1000 t))):=by
 obtain⟨_,_,F,_⟩:=G;refine bL func107 ntmps107 (rs:=[.tmp 2]) (by simp[AV.deep,AV.deep1,eT]) ?_;by_cases C:t.ins.length≤20
 ·by_cases B:t.outs.length≤20
  ·have q:¬ 20<(t.ins.length:Int):=aq;have i2:¬ 20<(t.outs.length:Int):=aq;have J:iu 20 30 1000 t=(cT 1000 t.outs && iY 30 1000 t.ins):=(by simp [iu,C,B]);rw[J];simp[go_sem,eT,q,i2]
   refine av (fun k:Nat=>⟨[(1,.ptr 0 0 0 1),(3,.d (.int .i64 (k:Int)))],[(0,⟨26,4,[eT t]⟩)],2000⟩)
    (fun k=>k≤t.outs.length∧cT 1000 (t.outs.drop k)=cT 1000 t.outs) (fun k=>t.outs.length-k) 0 ⟨aq,rfl⟩ (by
     simp[aA,ai,fv,lk,AV.low,AV.l,eT]) ?_
   rintro k⟨I,b⟩;simp only[eT];simp only[go_sem,Nat.reduceEqDiff,Nat.reduceAdd,Nat.reduceLT,↓reduceIte];refine⟨fun h=>?_,fun h=>?_⟩
   ·obtain⟨o,p,m⟩:=bu (l:=t.outs) (k:=k) aq;have K:=ay (k:=k) aq;by_cases u:o.2.length≤1000
    ·have f:¬ 1000<(o.2.length:Int):=aq;simp[go_sem,p,eO,nb,f,K];refine ao (k+1) ⟨aq,iK m b (by simpa using u)⟩ aq ?_;simp[aA,ai,fv,lk,AV.low,AV.l]
    ·have f:1000<(o.2.length:Int):=aq;have:=fY m b (by simpa using u);simp[go_sem,p,eO,nb,f];exact aa a9 (by rw[this];rfl)
   ·have g:k=t.outs.length:=aq;subst g;have E:cT 1000 t.outs=true:=iL b;rw[E,Bool.true_and];clear b h;simp[go_sem]
    refine av (fun k:Nat=>⟨[(1,.ptr 0 0 0 1),(4,.d (.int .i64 (k:Int)))],[(0,⟨26,4,[eT t]⟩)],4000⟩)
     (fun k=>k≤t.ins.length∧iY 30 1000 (t.ins.drop k)=iY 30 1000 t.ins) (fun k=>t.ins.length-k) 0 ⟨aq,rfl⟩ (by
      simp[aA,ai,fv,lk,AV.low,AV.l,eT]) ?_
    rintro k⟨I,b⟩;simp only[eT];simp only[go_sem,Nat.reduceEqDiff,Nat.reduceAdd,Nat.reduceLT,↓reduceIte];refine⟨fun h=>?_,fun h=>?_⟩
    ·obtain⟨i,c,m⟩:=bu (l:=t.ins) (k:=k) aq;have a:=(F i (cr c)).1;by_cases u:i.wit.length≤30
     ·have f:¬ 30<(i.wit.length:Int):=aq;simp[go_sem,c,x9 a,f]
      refine av (fun j:Nat=>⟨[(1,.ptr 0 0 0 1),(4,.d (.int .i64 (k:Int))),(5,.d (.int .i64 (j:Int)))],[(0,⟨26,4,[eT t]⟩)],6000⟩)
       (fun j=>j≤i.wit.length∧fK 1000 (i.wit.drop j)=fK 1000 i.wit) (fun j=>i.wit.length-j) 0 ⟨aq,rfl⟩ (by
        simp[aA,ai,fv,lk,AV.low,AV.l,eT]) ?_
      rintro j⟨L,e⟩;simp only[eT];simp[go_sem,c,x9 a];refine⟨fun H=>?_,fun H=>?_⟩
      ·obtain⟨x,n,s⟩:=bu (l:=i.wit) (k:=j) aq;have z:=ay (k:=j) aq;by_cases A:x.length≤1000
       ·have y:¬ 1000<(x.length:Int):=aq;simp[go_sem,n,bX,nb,y,z];intro _;refine ao (j+1) ⟨aq,iK s e (by simpa using A)⟩ aq ?_;simp[aA,ai,fv,lk,AV.low,AV.l]
       ·have y:1000<(x.length:Int):=aq;have v:=fY s e (by simpa using A);have:=fY m b (by rw[show fK 1000 i.wit=false from v];simp);simp[go_sem,n,bX,nb,y];refine⟨?_,fun h=>aq⟩;exact aa a9 (by rw[show iY 30 1000 t.ins=false from this])
      ·have w:j=i.wit.length:=aq;subst w;have v:fK 1000 i.wit=true:=iL e;have z:=ay (k:=k) aq;simp[go_sem,z];refine ao (k+1) ⟨aq,iK m b (by rw[v];simpa using u)⟩ aq ?_;simp[aA,ai,fv,lk,AV.low,AV.l]
     ·have f:30<(i.wit.length:Int):=aq;have:=fY m b (by simp;omega);simp[go_sem,c,x9 a,f];exact aa a9 (by rw[show iY 30 1000 t.ins=false from this])
    ·have g:k=t.ins.length:=aq;subst g;have D:iY 30 1000 t.ins=true:=iL b;simp[go_sem];exact aa a9 (by rw[D])
  ·have q:¬ 20<(t.ins.length:Int):=aq;have i2:20<(t.outs.length:Int):=aq;simp[go_sem,eT,q,i2];exact aa a9 (by simp[iu,B])
 ·have q:20<(t.ins.length:Int):=aq;simp[go_sem,eT,q];exact aa a9 (by simp[iu,C])
theorem I9(x:List Nat):fm prog 142 [.d (nb x)] (.d (.bool (decide (1000<x.length)))):=by
 refine bL func142 ntmps142 (rs:=[.tmp 2]) a9 ?_;simp[go_sem,nb];refine aa a9 ?_;have:((1000:Int)<(x.length:Int))↔1000<x.length:=aq;simp[this]
theorem Ld(o:Nat×List Nat):fm prog 90 [.agg ((eO o).map .d)] (.d (.bool (decide (1000<o.2.length)))):=by
 refine bL func90 ntmps90 (rs:=[.tmp 2]) (by simp[AV.deep,AV.deep1,eO]) ?_;simp[go_sem,eO,nb];refine aa a9 ?_;have:((1000:Int)<(o.2.length:Int))↔1000<o.2.length:=aq;simp[this]
theorem Le(xs:List (List Nat))(o:xs.length≤1000000000):ar prog 173 [.d (.ro 1 (xs.map bX)),.fn 142 []] (fun r=>∃n:Int,r=.d (.int .i64 n)∧decide (0≤n)=!fK 1000 xs):=by
 refine bL func173 ntmps173 (rs:=[.tmp 4]) a9 ?_;simp[go_sem]
 refine av (fun k:Nat=>⟨[(0,.d (.ro 1 (xs.map bX))),(1,.fn 142 []),(7,.d (.int .i64 (xs.length:Int))),(8,.d (.int .i64 (k:Int)))],[],1000⟩)
  (fun k=>k≤xs.length∧fK 1000 (xs.drop k)=fK 1000 xs) (fun k=>xs.length-k) 0 ⟨aq,rfl⟩ (by
   simp[aA,ai,fv,lk,AV.low,AV.l]) ?_
 rintro k⟨m,a⟩;simp only[go_sem,Nat.reduceEqDiff,Nat.reduceAdd,Nat.reduceLT,↓reduceIte];refine⟨fun h=>?_,fun h=>?_⟩
 ·obtain⟨x,c,f⟩:=bu (l:=xs) (k:=k) aq;have j:=ay (k:=k) aq;simp[go_sem,c,bX];refine ag (I9 x) a9 ?_;by_cases g:x.length≤1000
  ·have e:¬ 1000<x.length:=aq;simp[go_sem,e,j];refine ao (k+1) ⟨aq,iK f a (by simpa using g)⟩ aq ?_;simp[aA,ai,fv,lk,AV.low,AV.l]
  ·have e:1000<x.length:=aq;have:=fY f a (by simpa using g);simp[go_sem,e];exact aa a9 ⟨_,rfl,by rw[show fK 1000 xs=false from this];simp⟩
 ·have b:k=xs.length:=aq;subst b;have i:fK 1000 xs=true:=iL a;simp[go_sem];exact aa a9 ⟨_,rfl,by rw[i];rfl⟩
theorem BU(xs:List (List Nat))(b:xs.length≤1000000000):fm prog 143 [.d (.ro 1 (xs.map bX)),.fn 142 []] (.d (.bool (!fK 1000 xs))):=by
 refine bL func143 ntmps143 (rs:=[.tmp 4]) a9 ?_;simp[go_sem];refine NW (Le xs b) a9 ?_;rintro r⟨n,rfl,a⟩;rw[←a];simp[go_sem];exact aa a9 rfl
theorem Lh(xs:List (Nat×List Nat))(p:xs.length≤1000000000):ar prog 136 [.d (.ro 2 (xs.map eO)),.fn 90 []] (fun r=>∃n:Int,r=.d (.int .i64 n)∧decide (0≤n)=!cT 1000 xs):=by
 refine bL func136 ntmps136 (rs:=[.tmp 4]) a9 ?_;simp[go_sem]
 refine av (fun k:Nat=>⟨[(0,.d (.ro 2 (xs.map eO))),(1,.fn 90 []),(7,.d (.int .i64 (xs.length:Int))),(8,.d (.int .i64 (k:Int)))],[],1000⟩)
  (fun k=>k≤xs.length∧cT 1000 (xs.drop k)=cT 1000 xs) (fun k=>xs.length-k) 0 ⟨aq,rfl⟩ (by
   simp[aA,ai,fv,lk,AV.low,AV.l]) ?_
 rintro k⟨o,b⟩;simp only[go_sem,Nat.reduceEqDiff,Nat.reduceAdd,Nat.reduceLT,↓reduceIte];refine⟨fun h=>?_,fun h=>?_⟩
 ·obtain⟨x,e,g⟩:=bu (l:=xs) (k:=k) aq;have m:=ay (k:=k) aq;have a:(eO x).length=2:=rfl;simp[go_sem,e,a];refine ag (Ld x) (by simp[AV.deep,AV.deep1,eO]) ?_;by_cases i:x.2.length≤1000
  ·have f:¬ 1000<x.2.length:=aq;simp[go_sem,f,m];refine ao (k+1) ⟨aq,iK g b (by simpa using i)⟩ aq ?_;simp[aA,ai,fv,lk,AV.low,AV.l]
  ·have f:1000<x.2.length:=aq;have:=fY g b (by simpa using i);simp[go_sem,f];exact aa a9 ⟨_,rfl,by rw[show cT 1000 xs=false from this];simp⟩
 ·have c:k=xs.length:=aq;subst c;have j:cT 1000 xs=true:=iL b;simp[go_sem];exact aa a9 ⟨_,rfl,by rw[j];rfl⟩
theorem BV(xs:List (Nat×List Nat))(b:xs.length≤1000000000):fm prog 91 [.d (.ro 2 (xs.map eO)),.fn 90 []] (.d (.bool (!cT 1000 xs))):=by
 refine bL func91 ntmps91 (rs:=[.tmp 4]) a9 ?_;simp[go_sem];refine NW (Lh xs b) a9 ?_;rintro r⟨n,rfl,a⟩;rw[←a];simp[go_sem];exact aa a9 rfl
def cN(x:List Nat):List Nat:=az x.length++x
def uB(xs:List (List Nat)):List Nat:=(xs.map cN).flatten
def nq(xs:List (List Nat)):List Nat:=az xs.length++uB xs
def Ge(i:Ip):List Nat:=i.hash++(le i.idx 4++le i.seq 4)
def vU(l:List Ip):List Nat:=(l.map Ge).flatten
def gQ(o:Nat×List Nat):List Nat:=le o.1 8++cN o.2
def kU(l:List (Nat×List Nat)):List Nat:=(l.map gQ).flatten
def mD(t:Tn):List Nat:=le t.ver 4++(az t.ins.length++(vU t.ins++(az t.outs.length++(kU t.outs++le t.lock 4))))
def Wg(l:List Ip):List Nat:=(l.map fun i=>nq i.wit).flatten
def gn(t:Tn):List Nat:=mD t++Wg t.ins
def SmW(xs:List (List Nat)):Prop:=xs.length≤6∧∀x,x∈xs→x.length≤600
theorem lT(x:List Nat):(cN x).length≤5+x.length:=by
 have:=cC x.length;unfold cN;rw[b_];omega
theorem ya:∀(xs:List (List Nat)),(∀x,x∈xs→x.length≤600)→(uB xs).length≤605*xs.length
 |[],_=>by simp[uB]
 |x::r,h=>by
  have c:=ya r fun y a=>h y (cS _ a);have b:=h x (dz ..);have d:=lT x;have e:(uB (x::r)).length=(cN x).length+(uB r).length:=by simp[uB]
  rw[e,List.length_cons];omega
theorem Au{xs:List (List Nat)}(h:SmW xs):(nq xs).length≤3635:=by
 have c:=ya xs h.2;have b:=cC xs.length;have a:=h.1;unfold nq;rw[b_];omega
theorem Lj(b:List Nat)(x n:Nat)(j:b.length≤1000000)(o:x<18446744073709551616)(i:n≤8):cZ prog 145 0 [] [.d (nb b),.d (.int .u64 (x:Int)),.d (.int .i64 (n:Int))] (xH (b++le x n)):=by
 refine ap func145 (by kernel_rfl) rfl ntmps145 (rs:=[.tmp 6]) rfl (dN rfl) (by decide) ?_;have f:IntKind.i64.wrap ((b.length:Int)+(n:Int))=((b.length+n:Nat):Int):=by rw[IntWalk.i64_in _ aq];omega
 have g:List.replicate b.length [AV.d (.int .u8 0)]=rb (List.replicate b.length 0):=by simp[rb]
 simp only[go_sem,Nat.reduceEqDiff,Nat.reduceAdd,Nat.reduceLT,↓reduceIte,f,nb,List.length_map,Int.toNat_natCast,g];simp[go_sem,dx,aJ];rw[rm];refine⟨aq,aq,aq,aq,?_⟩
 refine av (fun k:Nat=>⟨[(7,.own 225 0 (b++le x k).length (b++le x k).length),(8,.d (.int .u64 ((fe (8*k) x:Nat):Int))),(20,.d (.int .i64 (n:Int))),(21,.d (.int .i64 (k:Int)))],[(225,⟨5,1,rb (b++le x k)⟩)],545⟩)
  (fun k=>k≤n) (fun k=>n-k) 0 aq (by
   simp[aA,ai,fv,lk,AV.low,AV.l,le,fe]
   exact aZ _ _) ?_
 intro k m;have l:(b++le x k).length=b.length+k:=by rw[b_,aO]
 have e:rb (b++le x k)++[[AV.d (.int .u8 ((t8 (fe (8*k) x):Nat):Int))]]=rb (b++le x (k+1)):=by rw[iQ,cA];rfl
 have c:=ay (k:=k) aq;simp only[go_sem,Nat.reduceEqDiff,Nat.reduceAdd,Nat.reduceLT,↓reduceIte];refine⟨fun h=>?_,fun h=>?_⟩
 ·simp[go_sem,gl,aJ,e,aO,Ee,xA,c];refine⟨aq,?_⟩;refine ao (k+1) aq aq ?_;simp[aA,ai,fv,lk,AV.low,AV.l];exact⟨aq,aZ _ _⟩
 ·have a:k=n:=aq;subst a;exact⟨225,by rw[b_],rfl⟩
theorem ig(b:List Nat)(x:Nat)(a:b.length≤1000000)(e:x<4294967296):cZ prog 59 0 [] [.d (nb b),.d (.int .u32 (x:Int))] (xH (b++le x 4)):=by
 refine ap func59 (by kernel_rfl) rfl ntmps59 (rs:=[.tmp 4]) rfl (dN rfl) (by decide) ?_;simp[go_sem];refine aS [] (Ad b x 4 a e aq) rfl aw aw aw (by simp[AV.R,AV.r]) ?_;rintro r f⟨rfl,c⟩;refine⟨[(225,0)],rfl,?_⟩;simp[go_sem,cj,bK,c,Blk.r,aQ,dE,AV.r,cn,ah,xH]
theorem Ll(b:List Nat)(x:Nat)(a:b.length≤1000000)(e:x<18446744073709551616):cZ prog 103 0 [] [.d (nb b),.d (.int .u64 (x:Int))] (xH (b++le x 8)):=by
 refine ap func103 (by kernel_rfl) rfl ntmps103 (rs:=[.tmp 4]) rfl (dN rfl) (by decide) ?_;simp[go_sem];refine aS [] (Lj b x 8 a e aq) rfl aw aw aw (by simp[AV.R,AV.r]) ?_;rintro r f⟨I,rfl,c⟩;refine⟨[(I,0)],by simp[de,gB],?_⟩;simp[go_sem,cj,bK,c,Blk.r,aQ,dE,AV.r,cn,ah,xH]
theorem jF(b:List Nat)(x:Nat)(a:b.length≤1000000)(c:x<4294967296):fm prog 59 [.d (nb b),.d (.int .u32 (x:Int))] (.d (nb (b++le x 4))):=nj (ig b x a c) a9
theorem yb(b:List Nat)(x:Nat)(a:b.length≤1000000)(c:x<18446744073709551616):fm prog 103 [.d (nb b),.d (.int .u64 (x:Int))] (.d (nb (b++le x 8))):=nj (Ll b x a c) a9
theorem yc(b:List Nat)(n:Nat)(c:b.length≤100000)(a:n<4294967296):fm prog 109 [.d (nb b),.d (.int .u64 (n:Int))] (.d (nb (b++az n))):=nj (o7 b n c a) a9
theorem vj(b:List Nat)(n:Nat)(c:b.length≤1000000)(a:n<4294967296):fm prog 175 [.d (nb b),.d (.int .u64 (n:Int))] (.d (nb (b++az n))):=nj (nS b n c a) a9
def fw{α:Type}(f:α→List Nat)(l:List α)(k:Nat):List Nat:=((l.drop k).map f).flatten
theorem eu{α:Type}{f:α→List Nat}{l:List α}{k:Nat}{x:α}{B R:List Nat}(a:l.drop k=x::l.drop (k+1))(h:B++fw f l k=R):(B++f x)++fw f l (k+1)=R:=by
 unfold fw at *;rw[a,List.map_cons,List.flatten_cons,←cA]at h;exact h
theorem eA{α:Type}{f:α→List Nat}{l:List α}{B R:List Nat}(h:B++fw f l l.length=R):B=R:=by
 unfold fw at h;rw[List.drop_length]at h;simpa using h
theorem G9(b:List Nat)(xs:List (List Nat))(v:b.length≤50000)(g:SmW xs):fm prog 94 [.d (nb b),.d (.ro 1 (xs.map bX))] (.d (nb (b++nq xs))):=by
 refine bL func94 ntmps94 (rs:=[.tmp 4]) a9 ?_;obtain⟨u,g⟩:=g;have m:=cC xs.length;have w:IntKind.u64.wrap (xs.length:Int)=(xs.length:Int):=by rw[iW];omega
 have e:(b++az xs.length)++fw cN xs 0=b++nq xs:=by rw[cA];rfl
 generalize b++nq xs=R at *;simp[go_sem,w];refine ag (yc b xs.length aq aq) a9 ?_;have p:(b++az xs.length).length≤50005:=by rw[b_];omega
 generalize b++az xs.length=B0 at *;simp[go_sem]
 refine av (fun t:Nat×List Nat=>⟨[(5,.d (nb t.2)),(13,.d (.ro 1 (xs.map bX))),(14,.d (.int .i64 (xs.length:Int))),(15,.d (.int .i64 (t.1:Int)))],[],1000⟩)
  (fun t=>t.1≤xs.length∧t.2.length≤50005+605*t.1∧t.2++fw cN xs t.1=R) (fun t=>xs.length-t.1) (0,B0) ⟨aw,by simp;omega,e⟩ (by
   simp[aA,ai,fv,lk,AV.low,AV.l,nb]) ?_
 rintro⟨k,B⟩⟨q,f,c⟩;simp only at q f c;simp only[go_sem,Nat.reduceEqDiff,Nat.reduceAdd,Nat.reduceLT,↓reduceIte];refine⟨fun h=>?_,fun h=>?_⟩
 ·obtain⟨x,a,n⟩:=bu (l:=xs) (k:=k) aq;have j:=g x (cr a);have s:=ay (k:=k) aq;have o:=lT x;simp[go_sem,a,bX];refine ag (gG B x aq aq) a9 ?_;simp[go_sem,s];refine ao (k+1,B++cN x) ⟨by simp only;omega,by simp only[b_];omega,eu n c⟩ (by simp only;omega) ?_;simp[aA,ai,fv,lk,AV.low,AV.l,nb,cN]
 ·have i:k=xs.length:=aq;subst i;have:=eA c;subst this;simp[go_sem];exact aa a9 rfl
theorem EN(b:List Nat)(xs:List (List Nat))(v:b.length≤50000)(g:SmW xs):fm prog 150 [.d (nb b),.d (.ro 1 (xs.map bX))] (.d (nb (b++nq xs))):=by
 refine bL func150 ntmps150 (rs:=[.tmp 4]) a9 ?_;obtain⟨u,g⟩:=g;have m:=cC xs.length;have w:IntKind.u64.wrap (xs.length:Int)=(xs.length:Int):=by rw[iW];omega
 have e:(b++az xs.length)++fw cN xs 0=b++nq xs:=by rw[cA];rfl
 generalize b++nq xs=R at *;simp[go_sem,w];refine ag (vj b xs.length aq aq) a9 ?_;have p:(b++az xs.length).length≤50005:=by rw[b_];omega
 generalize b++az xs.length=B0 at *;simp[go_sem]
 refine av (fun t:Nat×List Nat=>⟨[(1,.d (.ro 1 (xs.map bX))),(5,.d (nb t.2)),(6,.d (.int .i64 (t.1:Int)))],[],1000⟩)
  (fun t=>t.1≤xs.length∧t.2.length≤50005+605*t.1∧t.2++fw cN xs t.1=R) (fun t=>xs.length-t.1) (0,B0) ⟨aw,by simp;omega,e⟩ (by
   simp[aA,ai,fv,lk,AV.low,AV.l,nb]) ?_
 rintro⟨k,B⟩⟨q,f,c⟩;simp only at q f c;simp only[go_sem,Nat.reduceEqDiff,Nat.reduceAdd,Nat.reduceLT,↓reduceIte];refine⟨fun h=>?_,fun h=>?_⟩
 ·obtain⟨x,a,n⟩:=bu (l:=xs) (k:=k) aq;have j:=g x (cr a);have s:=ay (k:=k) aq;have o:=lT x;simp[go_sem,a,bX];refine ag (sO B x aq aq) a9 ?_;simp[go_sem,s];refine ao (k+1,B++cN x) ⟨by simp only;omega,by simp only[b_];omega,eu n c⟩ (by simp only;omega) ?_;simp[aA,ai,fv,lk,AV.low,AV.l,nb,cN]
 ·have i:k=xs.length:=aq;subst i;have:=eA c;subst this;simp[go_sem];exact aa a9 rfl
theorem BW{i:Ip}(h:i.hash.length=32):(Ge i).length=40:=by simp[Ge,h,aO]
theorem yd(o:Nat×List Nat):(gQ o).length≤13+o.2.length:=by
 have:=lT o.2;unfold gQ;rw[b_,aO];omega
def Sm(t:Tn):Prop:=t.ok∧t.ins.length≤6∧t.outs.length≤6∧(∀o,o∈t.outs→o.2.length≤600)∧∀i,i∈t.ins→SmW i.wit
theorem aby{t:Tn}(h:t.ok)(a:iu 6 6 600 t=true):Sm t:=by
 simp only[iu,Bool.and_eq_true,decide_eq_true_eq,cT,iY,fK,fa]at a;obtain⟨f,e,d,b⟩:=a;exact⟨h,f,e,d,fun i c=>⟨(b i c).1,(b i c).2⟩⟩
def uC(i:Ip):List AV:=cb i.hash++[.d (.int .u32 (i.idx:Int)),.d (.int .u32 (i.seq:Int)),.d (.ro 1 (i.wit.map bX))]
theorem EO(i:Ip):(eI i).map AV.d=uC i:=by simp[eI,uC,dc]
theorem qi{i:Ip}(h:i.hash.length=32):(uC i).length=35:=by simp[uC,aj,h]
theorem aen{i:Ip}(h:i.hash.length=32):(uC i)[32]?=some (.d (.int .u32 (i.idx:Int))):=by
 rw[uC,dn (by rw[aj];omega),aj,h];rfl
theorem aeo{i:Ip}(h:i.hash.length=32):(uC i)[33]?=some (.d (.int .u32 (i.seq:Int))):=by
 rw[uC,dn (by rw[aj];omega),aj,h];rfl
theorem aep{i:Ip}(h:i.hash.length=32):(uC i)[34]?=some (.d (.ro 1 (i.wit.map bX))):=by
 rw[uC,dn (by rw[aj];omega),aj,h];rfl
theorem Wh{i:Ip}(h:i.hash.length=32)(a:32<(uC i).length):(uC i)[32]=.d (.int .u32 (i.idx:Int)):=by
 have:=aen h;rw[cm a]at this;exact Option.some.inj this
theorem Wi{i:Ip}(h:i.hash.length=32)(a:33<(uC i).length):(uC i)[33]=.d (.int .u32 (i.seq:Int)):=by
 have:=aeo h;rw[cm a]at this;exact Option.some.inj this
theorem Wj{i:Ip}(h:i.hash.length=32)(a:34<(uC i).length):(uC i)[34]=.d (.ro 1 (i.wit.map bX)):=by
 have:=aep h;rw[cm a]at this;exact Option.some.inj this
theorem po{i:Ip}(h:i.hash.length=32):(uC i).take 35=uC i:=cx (by rw[qi h];omega)
theorem T8(n:Nat)(i:Ip):∀v,v∈uC i→v.l n:=by
 intro v a;simp only[uC,cD,d_,List.mem_nil_iff,or_false]at a;rcases a with a|rfl|rfl|rfl;exact aI _ _ _ a;trivial;trivial;trivial
theorem EP{i:Ip}(h:i.hash.length=32):(List.range 32).map (fun k=>((uC i).drop k).take 1)=rb i.hash:=by
 have b:=jz h;rw[dx]at b;rw[←b];apply List.map_congr_left;intro k a;have a:=List.mem_range.1 a;unfold uC;rw[List.drop_append_of_le_length (by rw[aj];omega),List.take_append_of_le_length (by rw[e_,aj];omega)]
theorem zin:gi prog 68=some (cb z32++[.d (.int .u32 0),.d (.int .u32 0),.nil]):=by kernel_rfl
attribute [go_sem] zin
theorem pp:List.drop 35 (cb z32++[AV.d (.int .u32 0),AV.d (.int .u32 0),AV.nil])=[]:=rfl
theorem T9(t:Tn)(ht:Sm t):fm prog 144 [.agg (eT t)] (.d (nb (mD t))):=by
 obtain⟨⟨Z,L,hi,R⟩,h1,h2,T,h4⟩:=ht;refine bL func144 ntmps144 (rs:=[.tmp 2]) (by simp[AV.deep,AV.deep1,eT]) ?_;have U:IntKind.u64.wrap (t.ins.length:Int)=(t.ins.length:Int):=by rw[iW];omega
 have w2:IntKind.u64.wrap (t.outs.length:Int)=(t.outs.length:Int):=by rw[iW];omega
 have S:=cC t.ins.length;have X:=cC t.outs.length;simp[go_sem,eT];refine bJ [] (jF [] t.ver aw Z) rfl (ak (.one (am (.nil 1))) (ak (.deep a9) aF)) ?_;simp[go_sem,aC,U];refine aS [] (o7 (le t.ver 4) t.ins.length (by simp[aO]) aq) rfl aw aw aw (by simp[AV.R,AV.r]) ?_;rintro r D⟨I,rfl,C⟩;refine⟨[(I,0)],by simp[de,gB],?_⟩;have ab:(le t.ver 4++az t.ins.length).length≤9:=by rw[b_,aO];omega
 have c:(le t.ver 4++az t.ins.length)++fw Ge t.ins 0=le t.ver 4++az t.ins.length++vU t.ins:=rfl;have e:mD t=(le t.ver 4++az t.ins.length++vU t.ins)++(az t.outs.length++(kU t.outs++le t.lock 4)):=by simp[mD]
 rw[e];generalize le t.ver 4++az t.ins.length++vU t.ins=R1 at *;generalize le t.ver 4++az t.ins.length=B0 at *;simp[go_sem,cj,bK,C,Blk.r,aQ,dE,AV.r,cn]
 refine av (fun u:Nat×List Nat=>⟨[(1,.ptr 0 0 0 1),(3,.own 352 0 u.2.length u.2.length),(18,.d (.ro 35 (t.ins.map eI))),(19,.d (.int .i64 (t.ins.length:Int))),(20,.d (.int .i64 (u.1:Int)))],[(352,⟨5,1,rb u.2⟩),(0,⟨26,4,[eT t]⟩)],2000⟩)
  (fun u=>u.1≤t.ins.length∧u.2.length≤9+40*u.1∧u.2++fw Ge t.ins u.1=R1) (fun u=>t.ins.length-u.1) (0,B0) ⟨aw,by simp;omega,c⟩ (by
   simp[aA,ai,fv,lk,AV.low,AV.l,eT]
   exact aZ _ _) ?_
 rintro⟨k,B⟩⟨z,E,f⟩;simp only at z E f;simp only[eT];simp only[go_sem,Nat.reduceEqDiff,Nat.reduceAdd,Nat.reduceLT,↓reduceIte,Nat.reduceMul];refine⟨fun h=>?_,fun h=>?_⟩
 ·obtain⟨i,p,F⟩:=bu (l:=t.ins) (k:=k) aq;obtain⟨a,s,v⟩:=hi i (cr p);have K:=ay (k:=k) aq;have ad:=BW a;have H:=lS a;have x:=qi a;have O:=EP a;simp[go_sem]at O;simp[go_sem,p,H,EO,x,po a,pp,O,aJ,Wh a,lJ];refine⟨aq,?_⟩;have w:(B++i.hash).length=B.length+32:=by rw[b_,a]
  refine j8 [352] (ig (B++i.hash) i.idx aq s) rfl (ak (.one (am (bq w rfl aw))) (ak (.deep a9) aF)) (fun ρ=>by simp[AV.R,AV.r]) ?_;rintro r D⟨I,rfl,C⟩;refine⟨[(I,0)],by simp[de,gB],?_⟩;have V:(B++i.hash++le i.idx 4).length=B.length+36:=by rw[b_,w,aO]
  have g:B++Ge i=B++i.hash++le i.idx 4++le i.seq 4:=by simp[Ge]
  generalize B++i.hash++le i.idx 4=B1 at *;simp[go_sem,cj,bK,C,Blk.r,aQ,dE,AV.r,cn,aC,x,Wi a];refine j8 [2480] (ig B1 i.seq aq v) rfl (ak (.one (am (bq rfl rfl aw))) (ak (.deep a9) aF)) (fun ρ=>by simp[AV.R,AV.r]) ?_;rintro r Q⟨J,rfl,q⟩;refine⟨[(J,0)],by simp[de,gB],?_⟩;have G:(B1++le i.seq 4).length=B1.length+4:=by rw[b_,aO]
  rw[←g]at q G⊢;generalize A:B++Ge i=B2 at *;simp[go_sem,cj,bK,q,Blk.r,aQ,dE,AV.r,cn,aC,K];refine DZ (k+1,B2) ⟨by simp only;omega,by simp only;omega,by rw[←A];exact eu F f⟩ (by simp only;omega) [(0,0),(2640,352)] 9000 (by decide) (by decide) (by decide) (by decide) ?_;simp[GI,DY,cn,AV.r,Blk.r,aQ,dE,aA,ai,fv,lk,AV.low,AV.l,AV.R];exact aZ _ _
 ·have m:k=t.ins.length:=aq;subst m;have:=eA f;subst this;clear f c h z;have c:(B++az t.outs.length)++fw gQ t.outs 0=B++az t.outs.length++kU t.outs:=rfl;have e:B++(az t.outs.length++(kU t.outs++le t.lock 4))=(B++az t.outs.length++kU t.outs)++le t.lock 4:=by simp
  rw[e];simp[go_sem,w2];refine bJ [352] (yc B t.outs.length aq aq) rfl (ak (.one (am (bq rfl rfl aw))) (ak (.deep a9) aF)) ?_;have N:(B++az t.outs.length).length≤300:=by rw[b_];omega
  generalize B++az t.outs.length++kU t.outs=R2 at *;generalize B++az t.outs.length=B1 at *;simp[go_sem,aC]
  refine av (fun u:Nat×List Nat=>⟨[(1,.ptr 0 0 0 1),(3,.d (nb u.2)),(46,.d (.ro 2 (t.outs.map eO))),(47,.d (.int .i64 (t.outs.length:Int))),(48,.d (.int .i64 (u.1:Int)))],[(0,⟨26,4,[eT t]⟩)],9000⟩)
   (fun u=>u.1≤t.outs.length∧u.2.length≤300+613*u.1∧u.2++fw gQ t.outs u.1=R2) (fun u=>t.outs.length-u.1) (0,B1) ⟨aw,by simp;omega,c⟩ (by
    simp[aA,ai,fv,lk,AV.low,AV.l,eT]) ?_
  rintro⟨k,b⟩⟨z,n,f⟩;simp only at z n f;simp only[eT];simp only[go_sem,Nat.reduceEqDiff,Nat.reduceAdd,Nat.reduceLT,↓reduceIte];refine⟨fun h=>?_,fun h=>?_⟩
  ·obtain⟨o,j,F⟩:=bu (l:=t.outs) (k:=k) aq;have y:=R o (cr j);have W:=T o (cr j);have K:=ay (k:=k) aq;have ac:=yd o;simp[go_sem,j,eO];refine ag (yb b o.1 aq y) a9 ?_;simp[go_sem];have Y:(b++le o.1 8).length=b.length+8:=(by rw[b_,aO])
   have g:b++gQ o=b++le o.1 8++(az o.2.length++o.2):=(by simp[gQ,cN]);refine ag (gG (b++le o.1 8) o.2 aq aq) a9 ?_;rw[←g];have M:(b++gQ o).length=b.length+(gQ o).length:=b_;simp[go_sem,K];refine ao (k+1,b++gQ o) ⟨by simp only;omega,by simp only;omega,eu F f⟩ (by simp only;omega) ?_;simp[aA,ai,fv,lk,AV.low,AV.l]
  ·have m:k=t.outs.length:=aq;subst m;have:=eA f;subst this;simp[go_sem];refine ag (jF b t.lock aq L) a9 ?_;simp[go_sem];exact aa a9 (by rw[e])
theorem Ub{i:Ip}(h:i.hash.length=32):((eI i).take 32).map (fun c=>[c])=i.hash.map fun(b:Nat)=>[DV.int .u8 (b:Int)]:=by
 unfold eI;rw[List.take_append_of_le_length (by rw[b7];omega),cx (by rw[b7];omega)];simp[cd]
theorem OR(t:Tn)(ht:Sm t):fm prog 149 [.agg (eT t)] (.d (nb (mD t))):=by
 obtain⟨⟨hv,N,hi,O⟩,h1,h2,R,h4⟩:=ht;refine bL func149 ntmps149 (rs:=[.tmp 2]) (by simp[AV.deep,AV.deep1,eT]) ?_;have S:IntKind.u64.wrap (t.ins.length:Int)=(t.ins.length:Int):=by rw[iW];omega
 have Y:IntKind.u64.wrap (t.outs.length:Int)=(t.outs.length:Int):=by rw[iW];omega
 have T:IntKind.u64.wrap (t.ver:Int)=(t.ver:Int):=by rw[iW];omega
 have wl:IntKind.u64.wrap (t.lock:Int)=(t.lock:Int):=by rw[iW];omega
 have Q:=cC t.ins.length;have W:=cC t.outs.length;simp[go_sem,eT,T];refine bJ [] (sN [] t.ver 4 4 rfl aw aq aq) rfl (ak (.one (am (.nil 1))) (ak (.deep a9) (ak (.deep a9) aF))) ?_;simp[go_sem,aC,S];refine aS [] (nS (le t.ver 4) t.ins.length (by simp[aO]) aq) rfl aw aw aw (by simp[AV.R,AV.r]) ?_;rintro r z⟨I,rfl,y⟩;refine⟨[(I,0)],by simp[de,gB],?_⟩;have Z:(le t.ver 4++az t.ins.length).length≤9:=by rw[b_,aO];omega
 have c:(le t.ver 4++az t.ins.length)++fw Ge t.ins 0=le t.ver 4++az t.ins.length++vU t.ins:=rfl;have e:mD t=(le t.ver 4++az t.ins.length++vU t.ins)++(az t.outs.length++(kU t.outs++le t.lock 4)):=by simp[mD]
 rw[e];generalize le t.ver 4++az t.ins.length++vU t.ins=R1 at *;generalize le t.ver 4++az t.ins.length=B0 at *;simp[go_sem,cj,bK,y,Blk.r,aQ,dE,AV.r,cn]
 refine av (fun u:Nat×List Nat=>⟨[(1,.ptr 0 0 0 1),(3,.own 384 0 u.2.length u.2.length),(4,.d (.int .i64 (u.1:Int)))],[(384,⟨5,1,rb u.2⟩),(0,⟨26,4,[eT t]⟩)],2000⟩)
  (fun u=>u.1≤t.ins.length∧u.2.length≤9+40*u.1∧u.2++fw Ge t.ins u.1=R1) (fun u=>t.ins.length-u.1) (0,B0) ⟨aw,by simp;omega,c⟩ (by
   simp[aA,ai,fv,lk,AV.low,AV.l,eT]
   exact aZ _ _) ?_
 rintro⟨k,B⟩⟨w,C,g⟩;simp only at w C g;simp only[eT];simp only[go_sem,Nat.reduceEqDiff,Nat.reduceAdd,Nat.reduceLT,↓reduceIte];refine⟨fun h=>?_,fun h=>?_⟩
 ·obtain⟨i,j,D⟩:=bu (l:=t.ins) (k:=k) aq;obtain⟨a,K,L⟩:=hi i (cr j);have G:=ay (k:=k) aq;have ac:=BW a;have F:=lS a;have wx:IntKind.u64.wrap (i.idx:Int)=(i.idx:Int):=by rw[iW];omega
  have ws:IntKind.u64.wrap (i.seq:Int)=(i.seq:Int):=by rw[iW];omega
  have A:=Ub a;simp[go_sem,j,F,A,aem a,dx,aJ,lJ,wx];refine⟨aq,?_⟩;have s:(B++i.hash).length=B.length+32:=by rw[b_,a]
  refine j8 [384] (ni (B++i.hash) i.idx 4 4 rfl aq aq aq) rfl (ak (.one (am (bq s rfl aw))) (ak (.deep a9) (ak (.deep a9) aF))) (fun ρ=>by simp[AV.R,AV.r]) ?_;rintro r z⟨rfl,y⟩;refine⟨[(33,0)],by simp[de,gB],?_⟩;have U:(B++i.hash++le i.idx 4).length=B.length+36:=by rw[b_,s,aO]
  have m:B++Ge i=B++i.hash++le i.idx 4++le i.seq 4:=by simp[Ge]
  generalize B++i.hash++le i.idx 4=B1 at *;simp[go_sem,cj,bK,y,Blk.r,aQ,dE,AV.r,cn,aC,j,abw a,ws];refine j8 [2768] (ni B1 i.seq 4 4 rfl aq aq aq) rfl (ak (.one (am (bq rfl rfl aw))) (ak (.deep a9) (ak (.deep a9) aF))) (fun ρ=>by simp[AV.R,AV.r]) ?_;rintro r M⟨rfl,q⟩;refine⟨[(33,0)],by simp[de,gB],?_⟩;have E:(B1++le i.seq 4).length=B1.length+4:=by rw[b_,aO]
  rw[←m]at q E⊢;generalize x:B++Ge i=B2 at *;simp[go_sem,cj,bK,q,Blk.r,aQ,dE,AV.r,cn,aC,G];refine DZ (k+1,B2) ⟨by simp only;omega,by simp only;omega,by rw[←x];exact eu D g⟩ (by simp only;omega) [(0,0),(3088,384)] 9000 (by decide) (by decide) (by decide) (by decide) ?_;simp[GI,DY,cn,AV.r,Blk.r,aQ,dE,aA,ai,fv,lk,AV.low,AV.l,AV.R];exact aZ _ _
 ·have n:k=t.ins.length:=aq;subst n;have:=eA g;subst this;clear g c h w;have c:(B++az t.outs.length)++fw gQ t.outs 0=B++az t.outs.length++kU t.outs:=rfl;have e:B++(az t.outs.length++(kU t.outs++le t.lock 4))=(B++az t.outs.length++kU t.outs)++le t.lock 4:=by simp
  rw[e];simp[go_sem,Y];refine bJ [384] (vj B t.outs.length aq aq) rfl (ak (.one (am (bq rfl rfl aw))) (ak (.deep a9) aF)) ?_;have J:(B++az t.outs.length).length≤300:=by rw[b_];omega
  generalize B++az t.outs.length++kU t.outs=R2 at *;generalize B++az t.outs.length=B1 at *;simp[go_sem,aC]
  refine av (fun u:Nat×List Nat=>⟨[(1,.ptr 0 0 0 1),(3,.d (nb u.2)),(5,.d (.int .i64 (u.1:Int)))],[(0,⟨26,4,[eT t]⟩)],9000⟩)
   (fun u=>u.1≤t.outs.length∧u.2.length≤300+613*u.1∧u.2++fw gQ t.outs u.1=R2) (fun u=>t.outs.length-u.1) (0,B1) ⟨aw,by simp;omega,c⟩ (by
    simp[aA,ai,fv,lk,AV.low,AV.l,eT]) ?_
  rintro⟨k,b⟩⟨w,p,g⟩;simp only at w p g;simp only[eT];simp only[go_sem,Nat.reduceEqDiff,Nat.reduceAdd,Nat.reduceLT,↓reduceIte];refine⟨fun h=>?_,fun h=>?_⟩
  ·obtain⟨o,f,D⟩:=bu (l:=t.outs) (k:=k) aq;have v:=O o (cr f);have V:=R o (cr f);have G:=ay (k:=k) aq;have ab:=yd o;simp[go_sem,f,eO];refine ag (sN b o.1 8 8 rfl aq v aq) a9 ?_;simp[go_sem,f,eO];have X:(b++le o.1 8).length=b.length+8:=(by rw[b_,aO])
   have m:b++gQ o=b++le o.1 8++(az o.2.length++o.2):=(by simp[gQ,cN]);refine ag (sO (b++le o.1 8) o.2 aq aq) a9 ?_;rw[←m];have H:(b++gQ o).length=b.length+(gQ o).length:=b_;simp[go_sem,G];refine ao (k+1,b++gQ o) ⟨by simp only;omega,by simp only;omega,eu D g⟩ (by simp only;omega) ?_;simp[aA,ai,fv,lk,AV.low,AV.l]
  ·have n:k=t.outs.length:=aq;subst n;have:=eA g;subst this;simp[go_sem,wl];refine ag (sN b t.lock 4 4 rfl aq aq aq) a9 ?_;simp[go_sem];exact aa a9 (by rw[e])
theorem Av{t:Tn}(p:Sm t):(mD t).length≤4000:=by
 obtain⟨⟨w,q,n,u⟩,d,c,b,x⟩:=p;have f:=cC t.ins.length;have k:=cC t.outs.length;have g:∀l:List Ip,(∀i,i∈l→i.hash.length=32)→(vU l).length=40*l.length:=by
  intro l
  induction l with
  |nil=>intro _;rfl
  |cons i r ih =>
   intro h;have d:=ih fun j a=>h j (cS _ a);have c:=BW (h i (dz ..));have e:(vU (i::r)).length=(Ge i).length+(vU r).length:=(by simp[vU]);rw[e,List.length_cons];omega
 have m:∀l:List (Nat×List Nat),(∀o,o∈l→o.2.length≤600)→(kU l).length≤613*l.length:=by
  intro l
  induction l with
  |nil=>intro _;simp[kU]
  |cons i r ih =>
   intro h;have d:=ih fun j a=>h j (cS _ a);have c:=yd i;have b:=h i (dz ..);have e:(kU (i::r)).length=(gQ i).length+(kU r).length:=(by simp[kU]);rw[e,List.length_cons];omega
 have s:=g t.ins fun i h=>(n i h).1;have v:=m t.outs b;unfold mD;simp only[b_,aO];omega
def whB(i:Ip):List Nat:=nq i.wit
theorem OS(t:Tn)(j:Sm t):fm prog 102 [.agg (eT t)] (.d (nb (gn t))):=by
 have w:=Av j;refine bL func102 ntmps102 (rs:=[.tmp 2]) (by simp[AV.deep,AV.deep1,eT]) ?_;simp[go_sem,eT];refine ag (T9 t j) (by simp[AV.deep,AV.deep1]) ?_;obtain⟨⟨G,D,y,E⟩,I,H,F,x⟩:=j;have e:mD t++fw whB t.ins 0=gn t:=rfl;generalize gn t=R at *;generalize mD t=B0 at *;simp[go_sem]
 refine av (fun u:Nat×List Nat=>⟨[(3,.d (nb u.2)),(9,.d (.ro 35 (t.ins.map eI))),(10,.d (.int .i64 (t.ins.length:Int))),(11,.d (.int .i64 (u.1:Int)))],[],9000⟩)
  (fun u=>u.1≤t.ins.length∧u.2.length≤4000+3635*u.1∧u.2++fw whB t.ins u.1=R) (fun u=>t.ins.length-u.1) (0,B0) ⟨aw,by simp;omega,e⟩ (by
   simp[aA,ai,fv,lk,AV.low,AV.l]) ?_
 rintro⟨k,B⟩⟨z,g,c⟩;simp only at z g c;simp only[go_sem,Nat.reduceEqDiff,Nat.reduceAdd,Nat.reduceLT,↓reduceIte];refine⟨fun h=>?_,fun h=>?_⟩
 ·obtain⟨i,b,v⟩:=bu (l:=t.ins) (k:=k) aq;obtain⟨a,p,s⟩:=y i (cr b);have C:=ay (k:=k) aq;have n:=lS a;have m:=qi a;have q:=x i (cr b);have A:=Au q;simp[go_sem,b,n,EO,m,po a,pp,Wj a];refine ag (G9 B i.wit aq q) a9 ?_;simp[go_sem,C];refine ao (k+1,B++nq i.wit) ⟨by simp only;omega,by simp only[b_];omega,eu (f:=whB) v c⟩ (by simp only;omega) ?_;simp[aA,ai,fv,lk,AV.low,AV.l]
 ·have o:k=t.ins.length:=aq;subst o;have:=eA c;subst this;simp[go_sem];exact aa a9 rfl
theorem Lm(t:Tn)(j:Sm t):fm prog 108 [.agg (eT t)] (.d (nb (gn t))):=by
 have s:=Av j;refine bL func108 ntmps108 (rs:=[.tmp 2]) (by simp[AV.deep,AV.deep1,eT]) ?_;simp[go_sem,eT];refine ag (OR t j) (by simp[AV.deep,AV.deep1]) ?_;obtain⟨⟨E,A,w,C⟩,G,F,D,v⟩:=j;have e:mD t++fw whB t.ins 0=gn t:=rfl;generalize gn t=R at *;generalize mD t=B0 at *;simp[go_sem]
 refine av (fun u:Nat×List Nat=>⟨[(1,.ptr 0 0 0 1),(3,.d (nb u.2)),(4,.d (.int .i64 (u.1:Int)))],[(0,⟨26,4,[eT t]⟩)],9000⟩)
  (fun u=>u.1≤t.ins.length∧u.2.length≤4000+3635*u.1∧u.2++fw whB t.ins u.1=R) (fun u=>t.ins.length-u.1) (0,B0) ⟨aw,by simp;omega,e⟩ (by
   simp[aA,ai,fv,lk,AV.low,AV.l,eT]) ?_
 rintro⟨k,B⟩⟨x,g,c⟩;simp only at x g c;simp only[eT];simp only[go_sem,Nat.reduceEqDiff,Nat.reduceAdd,Nat.reduceLT,↓reduceIte];refine⟨fun h=>?_,fun h=>?_⟩
 ·obtain⟨i,a,q⟩:=bu (l:=t.ins) (k:=k) aq;obtain⟨b,n,p⟩:=w i (cr a);have z:=ay (k:=k) aq;have o:=v i (cr a);have y:=Au o;simp[go_sem,a,x9 b];refine ag (EN B i.wit aq o) a9 ?_;simp[go_sem,z];refine ao (k+1,B++nq i.wit) ⟨by simp only;omega,by simp only[b_];omega,eu (f:=whB) q c⟩ (by simp only;omega) ?_;simp[aA,ai,fv,lk,AV.low,AV.l]
 ·have m:k=t.ins.length:=aq;subst m;have:=eA c;subst this;simp[go_sem];exact aa a9 rfl
theorem Ln{t:Tn}(h:Sm t):iu 20 30 1000 t=true:=by
 obtain⟨_,k,j,c,d⟩:=h;simp only[iu,Bool.and_eq_true,decide_eq_true_eq,cT,iY,fK,fa];refine⟨aq,aq,fun o a=>by have:=c o a;omega,fun i e=>?_⟩;obtain⟨g,b⟩:=d i e;exact⟨aq,fun x f=>by have:=b x f;omega⟩
theorem Lo{xs:List (List Nat)}(h:SmW xs):fK 1000 xs=true:=by
 simp only[fK,fa,decide_eq_true_eq];exact fun x a=>by have:=h.2 x a;omega
theorem Lp(t:Tn)(x:Sm t):fm prog 101 [.agg (eT t)] (.d (.bool true)):=by
 refine bL func101 ntmps101 (rs:=[.tmp 2]) (by simp[AV.deep,AV.deep1,eT]) ?_;obtain⟨⟨D,B,w,C⟩,F,E,q,v⟩:=x;have A:¬ 20<(t.ins.length:Int):=aq;have i2:¬ 20<(t.outs.length:Int):=aq;simp[go_sem,eT,A,i2]
 refine av (fun k:Nat=>⟨[(1,.ptr 0 0 0 1),(18,.d (.ro 2 (t.outs.map eO))),(19,.d (.int .i64 (t.outs.length:Int))),(20,.d (.int .i64 (k:Int)))],[(0,⟨26,4,[eT t]⟩)],9000⟩)
  (fun k=>k≤t.outs.length) (fun k=>t.outs.length-k) 0 aw (by
   simp[aA,ai,fv,lk,AV.low,AV.l,eT]) ?_
 intro k z;simp only[eT];simp only[go_sem,Nat.reduceEqDiff,Nat.reduceAdd,Nat.reduceLT,↓reduceIte];refine⟨fun h=>?_,fun h=>?_⟩
 ·obtain⟨o,c,u⟩:=bu (l:=t.outs) (k:=k) aq;have s:=q o (cr c);have j:=ay (k:=k) aq;simp[go_sem,c,eO];refine ag (I9 o.2) a9 ?_;have e:¬ 1000<o.2.length:=aq;simp[go_sem,e,j];refine ao (k+1) aq aq ?_;simp[aA,ai,fv,lk,AV.low,AV.l]
 ·simp[go_sem]
  refine av (fun k:Nat=>⟨[(1,.ptr 0 0 0 1),(29,.d (.ro 35 (t.ins.map eI))),(30,.d (.int .i64 (t.ins.length:Int))),(31,.d (.int .i64 (k:Int)))],[(0,⟨26,4,[eT t]⟩)],19000⟩)
   (fun k=>k≤t.ins.length) (fun k=>t.ins.length-k) 0 aw (by
    simp[aA,ai,fv,lk,AV.low,AV.l,eT]) ?_
  intro k z;simp only[eT];simp only[go_sem,Nat.reduceEqDiff,Nat.reduceAdd,Nat.reduceLT,↓reduceIte];refine⟨fun h=>?_,fun h=>?_⟩
  ·obtain⟨i,b,u⟩:=bu (l:=t.ins) (k:=k) aq;obtain⟨a,m,p⟩:=w i (cr b);have j:=ay (k:=k) aq;have g:=lS a;have f:=qi a;have n:=v i (cr b);have y:=n.1;have e:¬ 30<(i.wit.length:Int):=aq;simp[go_sem,b,g,EO,f,po a,pp,Wj a,e];refine ag (BU i.wit aq) a9 ?_;simp[go_sem,Lo n,j];refine ao (k+1) aq aq ?_;simp[aA,ai,fv,lk,AV.low,AV.l]
  ·simp[go_sem];exact aa a9 rfl
def iZ(t:Tn):Int:=if 12000<(gn t).length then 4 else 0
theorem Aw(t:Tn)(b:Sm t):fm prog 54 [.agg (eT t)] (.d (.int .i64 (iZ t))):=by
 refine bL func54 ntmps54 (rs:=[.tmp 2]) (by simp[AV.deep,AV.deep1,eT]) ?_;simp[go_sem,eT];refine ag (Lp t b) (by simp[AV.deep,AV.deep1]) ?_;simp[go_sem];refine ag (OS t b) (by simp[AV.deep,AV.deep1]) ?_;have hc:iZ t=if 12000<(gn t).length then 4 else 0:=rfl;rw[hc];by_cases h:12000<(gn t).length
 ·have a:12000<((gn t).length:Int):=aq;simp[go_sem,nb,a,h];exact aa a9 rfl
 ·have a:¬ 12000<((gn t).length:Int):=aq;simp[go_sem,nb,a,h];exact aa a9 rfl
theorem Ha(t:Tn)(b:Sm t):fm prog 61 [.agg (eT t)] (.d (.int .i64 (iZ t))):=by
 refine bL func61 ntmps61 (rs:=[.tmp 2]) (by simp[AV.deep,AV.deep1,eT]) ?_;simp[go_sem,eT];refine ag (G8 t b.1) (by simp[AV.deep,AV.deep1]) ?_;rw[Ln b];simp[go_sem];refine ag (Lm t b) (by simp[AV.deep,AV.deep1]) ?_;have hc:iZ t=if 12000<(gn t).length then 4 else 0:=rfl;rw[hc];by_cases h:12000<(gn t).length
 ·have a:12000<((gn t).length:Int):=aq;simp[go_sem,nb,a,h];exact aa a9 rfl
 ·have a:¬ 12000<((gn t).length:Int):=aq;simp[go_sem,nb,a,h];exact aa a9 rfl
def bI(t:Tn)(n:Int)(coins:List (Nat×List Nat)):Int :=
 if iZ t≠0∨coins.length≠t.ins.length∨n<0∨(coins.length:Int)≤n∨cT 1000 coins=false then 1 else 0
theorem nt(t:Tn)(n:Int)(coins:List (Nat×List Nat))(f:Sm t)(hc:coins.length≤1000):fm prog 45 [.agg (eS t n coins)] (.d (.int .i64 (bI t n coins))):=by
 refine bL func45 ntmps45 (rs:=[.tmp 2]) (by simp[AV.deep,AV.deep1,eS]) ?_;generalize c:bI t n coins=X;simp[go_sem,eS];refine ag (Aw t f) (by simp[AV.deep,AV.deep1]) ?_;by_cases b:iZ t=0
 ·by_cases c2:(coins.length:Int)=(t.ins.length:Int)
  ·by_cases c3:n<0
   ·have:X=1:=by rw[←c];simp[bI,c3]
    subst this;simp[go_sem,b,c2,c3];exact aa a9 rfl
   ·by_cases c4:(coins.length:Int)≤n
    ·have:X=1:=by rw[←c];simp[bI,c4]
     subst this;have a:(t.ins.length:Int)≤n:=aq;simp[go_sem,b,c2,c3,a];exact aa a9 rfl
    ·have a:¬(t.ins.length:Int)≤n:=aq;simp[go_sem,b,c2,c3,a];refine ag (BV coins aq) a9 ?_
     have e:X=if cT 1000 coins=false then 1 else 0:=by
      rw[←c];unfold bI;have:coins.length=t.ins.length:=aq;simp[b,this,c3,a]
     rw[e];cases cT 1000 coins
     ·simp[go_sem];exact aa a9 rfl
     ·simp[go_sem];exact aa a9 rfl
  ·have:X=1:=by rw[←c];unfold bI;rw[if_pos (.inr (.inl aq))]
   subst this;simp[go_sem,b,c2];exact aa a9 rfl
 ·have:X=1:=by rw[←c];simp[bI,b]
  subst this;simp[go_sem,b];exact aa a9 rfl
theorem He(t:Tn)(n:Int)(coins:List (Nat×List Nat))(s:Sm t)(hc:coins.length≤1000):fm prog 19 [.agg (eS t n coins)] (.d (.int .i64 (bI t n coins))):=by
 refine bL func19 ntmps19 (rs:=[.tmp 2]) (by simp[AV.deep,AV.deep1,eS]) ?_;generalize f:bI t n coins=X;simp[go_sem,eS];refine ag (Ha t s) (by simp[AV.deep,AV.deep1]) ?_;by_cases b:iZ t=0
 ·by_cases c2:(coins.length:Int)=(t.ins.length:Int)
  ·by_cases c3:n<0
   ·have:X=1:=by rw[←f];simp[bI,c3]
    subst this;simp[go_sem,b,c2,c3];exact aa a9 rfl
   ·by_cases c4:(coins.length:Int)≤n
    ·have:X=1:=by rw[←f];simp[bI,c4]
     subst this;have a:(t.ins.length:Int)≤n:=aq;simp[go_sem,b,c2,c3,a];exact aa a9 rfl
    ·have a:¬(t.ins.length:Int)≤n:=aq;have e:X=if cT 1000 coins=false then 1 else 0:=by
      rw[←f];unfold bI;have:coins.length=t.ins.length:=aq;simp[b,this,c3,a]
     rw[e];simp[go_sem,b,c2,c3,a]
     refine av (fun k:Nat=>⟨[(1,.ptr 0 0 0 1),(3,.d (.int .i64 (k:Int)))],[(0,⟨28,6,[eS t n coins]⟩)],2000⟩)
      (fun k=>k≤coins.length∧cT 1000 (coins.drop k)=cT 1000 coins) (fun k=>coins.length-k) 0 ⟨aq,rfl⟩ (by
       simp[aA,ai,fv,lk,AV.low,AV.l,eS]) ?_
     rintro k⟨v,g⟩;simp only[eS];simp only[go_sem,Nat.reduceEqDiff,Nat.reduceAdd,Nat.reduceLT,↓reduceIte];refine⟨fun h=>?_,fun h=>?_⟩
     ·obtain⟨o,c,m⟩:=bu (l:=coins) (k:=k) aq;have u:=ay (k:=k) aq;by_cases p:o.2.length≤1000
      ·have i:¬ 1000<(o.2.length:Int):=aq;simp[go_sem,c,eO,nb,i,u];refine ao (k+1) ⟨aq,iK m g (by simpa using p)⟩ aq ?_;simp[aA,ai,fv,lk,AV.low,AV.l]
      ·have i:1000<(o.2.length:Int):=aq;have:=fY m g (by simpa using p);simp[go_sem,c,eO,nb,i];exact aa a9 (by rw[show cT 1000 coins=false from this];rfl)
     ·have j:k=coins.length:=aq;subst j;have q:cT 1000 coins=true:=iL g;simp[go_sem];exact aa a9 (by rw[q];rfl)
  ·have:X=1:=by rw[←f];unfold bI;rw[if_pos (.inr (.inl aq))]
   subst this;simp[go_sem,b,c2];exact aa a9 rfl
 ·have:X=1:=by rw[←f];simp[bI,b]
  subst this;simp[go_sem,b];exact aa a9 rfl
def ye(t:Tn)(coins:List (Nat×List Nat)):Bool:=iu 6 6 600 t&&(decide (coins.length≤8)&&cT 1100 coins)
theorem Lq(t:Tn)(n:Int)(coins:List (Nat×List Nat))(q:t.ok):fm prog 28 [.agg (eS t n coins)] (.d (.bool (ye t coins))):=by
 refine bL func28 ntmps28 (rs:=[.tmp 2]) (by simp[AV.deep,AV.deep1,eS]) ?_;generalize c:ye t coins=X;unfold ye at c;simp[go_sem,eS];refine ag (G7 t q) (by simp[AV.deep,AV.deep1]) ?_;generalize iu 6 6 600 t=W at *
 cases W
 ·simp at c;subst c;simp[go_sem];exact aa a9 rfl
 ·by_cases c2:coins.length≤8
  ·have a:¬ 8<(coins.length:Int):=aq;have e:X=cT 1100 coins:=by rw[←c];simp[c2]
   rw[e];simp[go_sem,a]
   refine av (fun k:Nat=>⟨[(1,.ptr 0 0 0 1),(3,.d (.int .i64 (k:Int)))],[(0,⟨28,6,[eS t n coins]⟩)],2000⟩)
    (fun k=>k≤coins.length∧cT 1100 (coins.drop k)=cT 1100 coins) (fun k=>coins.length-k) 0 ⟨aq,rfl⟩ (by
     simp[aA,ai,fv,lk,AV.low,AV.l,eS]) ?_
   rintro k⟨u,f⟩;simp only[eS];simp only[go_sem,Nat.reduceEqDiff,Nat.reduceAdd,Nat.reduceLT,↓reduceIte];refine⟨fun h=>?_,fun h=>?_⟩
   ·obtain⟨o,b,j⟩:=bu (l:=coins) (k:=k) aq;have s:=ay (k:=k) aq;by_cases m:o.2.length≤1100
    ·have g:¬ 1100<(o.2.length:Int):=aq;simp[go_sem,b,eO,nb,g,s];refine ao (k+1) ⟨aq,iK j f (by simpa using m)⟩ aq ?_;simp[aA,ai,fv,lk,AV.low,AV.l]
    ·have g:1100<(o.2.length:Int):=aq;have:=fY j f (by simpa using m);simp[go_sem,b,eO,nb,g];exact aa a9 (by rw[show cT 1100 coins=false from this])
   ·have i:k=coins.length:=aq;subst i;have p:cT 1100 coins=true:=iL f;simp[go_sem];exact aa a9 (by rw[p])
  ·have a:8<(coins.length:Int):=aq;have:X=false:=by rw[←c];simp[c2]
   subst this;simp[go_sem,a];exact aa a9 rfl
theorem BX(t:Tn)(n:Int)(coins:List (Nat×List Nat))(out:Int)(h:out<0∨(t.outs.length:Int)≤out):fm prog 110 [.agg (eS t n coins),.d (.int .i64 out)] (.tup [.nil,.d (.bool false)]):=by
 refine bL func110 ntmps110 (rs:=[.tmp 4,.tmp 5]) (by simp[AV.deep,AV.deep1,eS]) ?_;by_cases a:out<0
 ·simp[go_sem,eS,a,ah];exact aa a9 rfl
 ·have b:(t.outs.length:Int)≤out:=aq;simp[go_sem,eS,a,b,ah];exact aa a9 rfl
theorem yf(t:Tn)(n:Int)(coins:List (Nat×List Nat))(k:Nat)(o:Nat×List Nat)(h:t.outs[k]?=some o):fm prog 110 [.agg (eS t n coins),.d (.int .i64 (k:Int))] (.tup [.d (nb o.2),.d (.bool true)]):=by
 refine bL func110 ntmps110 (rs:=[.tmp 4,.tmp 5]) (by simp[AV.deep,AV.deep1,eS]) ?_;have e:=(ci.1 h).1;have b:¬(k:Int)<0:=aq;have a:¬(t.outs.length:Int)≤(k:Int):=aq;have c:¬t.outs.length≤k:=aq;simp[go_sem,eS,b,a,h,eO,ah];exact aa a9 rfl
theorem jG(a b:List Nat)(e:bytes a)(c:bytes b):fm prog 111 [.d (nb a),.d (nb b)] (.d (.bool (decide (a=b)))):=by
 refine bL func111 ntmps111 (rs:=[.tmp 4]) a9 ?_;simp[go_sem,nb];refine IT a 5 e (by simp[go_sem]) (by simp[go_sem]) underlying5 ?_;simp[go_sem];refine IT b 5 c (by simp[go_sem]) (by simp[go_sem]) underlying5 ?_;simp[go_sem,Yc];exact aa a9 rfl
def zn(t:Tn)(n:Int)(coins:List (Nat×List Nat))(a:List Nat)(out:Int):Int×Int×Int :=
 if bI t n coins≠0 then(0,0,1)
 else match t.outs[out.toNat]? with
  |some o=>if 0≤out then(if qM o.2=a then(out,(((coins[n.toNat]?.map (·.1)).getD 0:Nat):Int),0)else(0,0,24))else(0,0,24)
  |none=>(0,0,24)
def Uc(x:Int×Int×Int):AV:=.tup [.agg [.d (.int .i64 x.1),.d (.int .u64 x.2.1)],.d (.int .i64 x.2.2)]
theorem abz{t:Tn}{n:Int}{coins:List (Nat×List Nat)}{a:List Nat}{out:Int}(h:bI t n coins=1):zn t n coins a out=(0,0,1):=by
 simp[zn,h]
theorem abA{t:Tn}{n:Int}{coins:List (Nat×List Nat)}{b:List Nat}{out:Int}(h:bI t n coins=0)(a:out<0∨(t.outs.length:Int)≤out):zn t n coins b out=(0,0,24):=by
 rcases a with a|a;have:¬ 0≤out:=aq;simp only[zn,h,this];cases t.outs[out.toNat]?<;>simp;have:t.outs[out.toNat]?=none:=List.getElem?_eq_none aq;simp[zn,h,this]
theorem nZ(t:Tn)(n:Int)(coins:List (Nat×List Nat)):bI t n coins=1∨(bI t n coins=0∧0≤n∧n<(coins.length:Int)):=by
 unfold bI;split;exact .inl rfl;rename_i h;exact .inr ⟨rfl,aq,aq⟩
theorem Hf(t:Tn)(n:Int)(coins:List (Nat×List Nat))(a:List Nat)(out:Int)(i:Sm t)(hc:coins.length≤1000)(p:bytes a) :
  fm prog 234 [.agg (eS t n coins),.d (nb a),.d (.int .i64 out)] (Uc (zn t n coins a out)):=by
 refine bL func234 ntmps234 (rs:=[.cell 6 55,.tmp 7]) (by simp[AV.deep,AV.deep1,eS]) ?_;simp[go_sem,eS];refine ag (nt t n coins i hc) (by simp[AV.deep,AV.deep1]) ?_;rcases nZ t n coins with b|⟨b,s,v⟩
 ·rw[b,abz b];simp[go_sem,ah];exact aa a9 rfl
 ·rw[b];simp[go_sem];by_cases h:out<0∨(t.outs.length:Int)≤out
  ·refine ag (BX t n coins out h) (by simp[AV.deep,AV.deep1]) ?_;rw[abA b h];simp[go_sem,ah];exact aa a9 rfl
  ·obtain⟨k,rfl⟩:∃k:Nat,out=(k:Int):=⟨out.toNat,aq⟩;obtain⟨m,rfl⟩:∃k:Nat,n=(k:Int):=⟨n.toNat,aq⟩;have w:k<t.outs.length:=aq;obtain⟨o,f⟩:∃o,t.outs[k]?=some o:=⟨_,cm w⟩;obtain⟨c,e⟩:∃o,coins[m]?=some o:=⟨_,cm (by omega:m<coins.length)⟩;have q:=i.2.2.2.1 o (cr f);have u:zn t m coins a k=if qM o.2=a then((k:Int),(c.1:Int),0)else(0,0,24):=by
    simp[zn,b,f,e]
   rw[u];refine ag (yf t m coins k o f) (by simp[AV.deep,AV.deep1]) ?_;simp[go_sem];refine ag (xJ o.2 aq) a9 ?_;have g:=o9 o.2;have l:bytes (qM o.2):=eE _;generalize qM o.2=R at *;simp[go_sem,g,cf];refine ju (jG R a l p) rfl (ak (.one (am (fh rfl trivial g))) (ak (.deep a9) aF)) trivial ?_;by_cases j:R=a
   ·simp[go_sem,j,e,eO,ah];exact aa a9 rfl
   ·simp[go_sem,j,ah];exact aa a9 rfl
theorem BZ{n:Nat}{a:List DV}(h:kH prog (n+1) 22 a):∃x:Nat,a=[.int .u32 (x:Int)]∧x<4294967296:=by
 rw[kH]at h;simp only[underlying22]at h;obtain⟨x,rfl,c⟩:=h;have b:0≤x∧x<4294967296:=by simp[IntKind.has,IntKind.min,IntKind.max,IntKind.signed,IntKind.bits]at c;omega
 exact⟨x.toNat,by rw[show((x.toNat:Nat):Int)=x by omega],aq⟩
theorem Yn{n:Nat}{a:List DV}(h:kH prog (n+1) 53 a):∃x:Nat,a=[.int .u64 (x:Int)]∧x<18446744073709551616:=by
 rw[kH]at h;simp only[underlying53]at h;obtain⟨x,rfl,c⟩:=h;have b:0≤x∧x<18446744073709551616:=by simp[IntKind.has,IntKind.min,IntKind.max,IntKind.signed,IntKind.bits]at c;omega
 exact⟨x.toNat,by rw[show((x.toNat:Nat):Int)=x by omega],aq⟩
theorem Yo{n:Nat}{e:List DV}(h:kH prog (n+3) 57 e):∃o:Nat×List Nat,e=eO o∧o.1<18446744073709551616∧bytes o.2:=by
 rw[kH]at h;simp only[underlying57,List.map_cons,List.map_nil]at h;obtain⟨a,b,rfl,l,d,i,m,rfl,f,c,rfl⟩:=h;obtain⟨x,rfl,j⟩:=Yn d;rw[show prog.cellsOf 31=1 by kernel_rfl]at f
 match i,f,c with
 |[y],_,c =>
  obtain⟨g,rfl,_,k⟩:=xG c;exact⟨(x,g),rfl,j,k⟩
theorem Ja{n:Nat}{c:List DV}(h:kH prog (n+4) 24 c):∃os:List (Nat×List Nat),c=[.ro 2 (os.map eO)]∧∀o,o∈os→o.1<18446744073709551616∧bytes o.2:=by
 rw[kH]at h;simp only[underlying24]at h;obtain⟨es,rfl,j,e⟩:=h;obtain⟨os,rfl,a⟩:=xn (enc:=eO) (R:=fun o=>o.1<18446744073709551616∧bytes o.2) (es:=es) (fun r b=>by
  obtain⟨g,i⟩:=e r b;obtain⟨o,rfl,d,f⟩:=Yo g
  exact⟨o,rfl,d,f⟩)
 exact⟨os,by rw[show prog.cellsOf 57=2 by kernel_rfl],a⟩
theorem abB{n:Nat}{m:List DV}(h:kH prog (n+4) 68 m):∃i:Ip,m=eI i∧i.ok∧bytes i.hash:=by
 rw[kH]at h;simp only[underlying68,List.map_cons,List.map_nil]at h;obtain⟨a,b,rfl,w,e,v,C,rfl,E,j,p,b3,rfl,hc,f,rfl⟩:=h;rw[kH]at e;simp only[underlying66,List.map_cons,List.map_nil]at e;obtain⟨c,d,rfl,u,k,D,A,rfl,B,l,rfl⟩:=e;obtain⟨g,rfl,t,s⟩:=BD k;obtain⟨x,rfl,q⟩:=BZ l;obtain⟨y,rfl,o⟩:=BZ j;rw[show prog.cellsOf 34=1 by kernel_rfl]at hc
 match p,hc,f with
 |[z],_,f =>
  obtain⟨r,rfl,_⟩:=K1 f;exact⟨⟨g,x,y,r⟩,by simp[eI],⟨t,q,o⟩,s⟩
theorem Yp{n:Nat}{c:List DV}(h:kH prog (n+5) 23 c):∃is:List Ip,c=[.ro 35 (is.map eI)]∧∀i,i∈is→i.ok∧bytes i.hash:=by
 rw[kH]at h;simp only[underlying23]at h;obtain⟨es,rfl,k,f⟩:=h;obtain⟨d,rfl,a⟩:=xn (enc:=eI) (R:=fun i=>i.ok∧bytes i.hash) (es:=es) (fun r b=>by
  obtain⟨g,j⟩:=f r b;obtain⟨o,rfl,e⟩:=abB g
  exact⟨o,rfl,e⟩)
 exact⟨d,by rw[show prog.cellsOf 68=35 by kernel_rfl],a⟩
theorem abC{n:Nat}{q:List DV}(h:kH prog (n+6) 26 q):∃t:Tn,q.map .d=eT t∧t.ok∧(∀o,o∈t.outs→bytes o.2)∧∀i,i∈t.ins→bytes i.hash:=by
 rw[kH]at h;simp only[underlying26,List.map_cons,List.map_nil]at h;obtain⟨a,b,rfl,z,k,y,B,rfl,C,g,x,b3,rfl,hc,m,w,b4,rfl,A,p,rfl⟩:=h;obtain⟨v,rfl,s⟩:=BZ k;obtain⟨is,rfl,e⟩:=Yp g;obtain⟨u,rfl,c⟩:=Ja m;obtain⟨l,rfl,r⟩:=BZ p;exact⟨⟨v,is,u,l⟩,rfl,⟨s,r,fun i j=>(e i j).1,fun o f=>(c o f).1⟩,fun o f=>(c o f).2,fun i j=>(e i j).2⟩
theorem Yq{n:Nat}{a:AV}(h:sF prog (n+7) 28 a):∃(t:Tn)(m:Int)(coins:List (Nat×List Nat)),a=.agg (eS t m coins)∧t.ok∧(∀o,o∈t.outs→bytes o.2)∧∀o,o∈coins→o.1<18446744073709551616∧bytes o.2:=by
 unfold sF at h;simp only[underlying28]at h;obtain⟨u,rfl,h⟩:=h;rw[kH]at h;simp only[underlying28,List.map_cons,List.map_nil]at h;obtain⟨a,b,rfl,q,e,p,r,rfl,s,c,l,b3,rfl,hc,f,rfl⟩:=h;obtain⟨t,k,j,g,_⟩:=abC e;rw[kH]at c;simp only[underlying3]at c;obtain⟨m,rfl,_⟩:=c;obtain⟨i,rfl,d⟩:=Ja f;refine⟨t,m,i,?_,j,g,d⟩;rw[List.map_append,k];rfl
theorem Yr{r n:Nat}(c:n<64)(b:r<2 ^ n):Go.bits .andNot .u64 ((r+2 ^ n:Nat):Int) ((2 ^ n:Nat):Int)=(r:Int):=by
 have h:(2:Nat) ^ n<2 ^ 64:=Nat.pow_lt_pow_right aq c;have g:(2:Nat) ^ n+2 ^ n≤2 ^ 64:=by
  have:(2:Nat) ^ (n+1)≤2 ^ 64:=Nat.pow_le_pow_right aq aq;rw[Nat.pow_succ]at this;omega
 have d:(BitVec.ofNat 64 (r+2 ^ n)) &&& ~~~(BitVec.ofNat 64 (2 ^ n))=BitVec.ofNat 64 r:=by
  apply BitVec.eq_of_getLsbD_eq;intro i f;have e:r+2 ^ n=2 ^ n ||| r:=by rw[Nat.add_comm];have:=Nat.two_pow_add_eq_or_of_lt b 1;simpa using this
  simp only[BitVec.getLsbD_and,BitVec.getLsbD_not,BitVec.getLsbD_ofNat,f,decide_true,Bool.true_and,e,Nat.testBit_or,Nat.testBit_two_pow];by_cases a:n=i;subst a;simp[Nat.testBit_lt_two_pow b];simp[a]
 show IntKind.u64.wrap (((BitVec.ofInt 64 ((r+2 ^ n:Nat):Int)) &&& ~~~(BitVec.ofInt 64 ((2 ^ n:Nat):Int))).toNat:Int)=_;rw[BitVec.ofInt_natCast,BitVec.ofInt_natCast,d,BitVec.toNat_ofNat,iW];omega
theorem OT{a c k:Nat}(b:a<2 ^ k):a ||| c*2 ^ k=a+c*2 ^ k:=by
 rw[Nat.or_comm,Nat.mul_comm,←Nat.two_pow_add_eq_or_of_lt b];omega
theorem OU{b:List Nat}{k c:Nat}(h:b[k]?=some c):kK (b.take (k+1))=kK (b.take k)+c*2 ^ (8*k):=by
 have d:=(ci.1 h).1;have a:(b.take k).length=k:=by rw[List.length_take];omega
 rw[List.take_add_one,h];show kK (b.take k++[c])=_;rw[nV,a,kK,kK,Nat.mul_zero,Nat.add_zero,Nat.mul_comm,Nat.pow_mul]
theorem Ud{b:List Nat}(a:bytes b)(k:Nat)(c:k≤b.length):kK (b.take k)<2 ^ (8*k):=by
 have:=uA (b:=b.take k) (fun x d=>a x (List.mem_of_mem_take d));rw[List.length_take,Nat.min_eq_left c,show(256:Nat)=2 ^ 8 by rfl,←Nat.pow_mul]at this;exact this
theorem oa(v:Bool):fm prog 224 [.d (.bool v)] (.d (nb (jX v))):=by
 refine bL func224 ntmps224 (rs:=[.tmp 2]) a9 ?_;cases v with
 |true =>
  simp[go_sem,ah];exact d5 (am (eB (ty:=5) (e:=1) (es:=[[.int .u8 1]]) (by simp[lk]) trivial rfl aw)) a9 rfl
 |false =>
  simp[go_sem,ah];exact d5 (am (.nil 1)) a9 rfl
theorem Ax(a:bm)(x:Nat):gu (a++[x])=(a.any (fun c=>decide (c≠0))||decide (x≠0∧x≠128)):=by
 induction a with
 |nil=>simp[gu]
 | cons c a ih =>
  cases a with
  |nil=>simp[gu]
  |cons d a =>
   rw[List.cons_append,List.cons_append,gu,←List.cons_append,ih];simp[Bool.or_assoc];simp
theorem EQ{b:bm}{i c:Nat}(h:b[i]?=some c)(f:c≠0)(g:¬(i=b.length-1∧c=128)):gu b=true:=by
 rcases eF b with rfl|⟨a,x,rfl⟩;simp at h;rw[Ax,Bool.or_eq_true];rcases Nat.lt_or_ge i a.length with d|d;rw[List.getElem?_append_left d]at h;exact .inl (List.any_eq_true.2 ⟨c,cr h,by simpa using f⟩);rw[dn d]at h;have:i-a.length=0:=by
  have:=(ci.1 h).1;simp at this;omega
 rw[this]at h;simp at h;subst h;refine .inr ?_;simp only[decide_eq_true_eq];exact⟨f,fun e=>g ⟨by simp;omega,e⟩⟩
theorem Ue{b:bm}(h:∀i c,b[i]?=some c→c=0∨(i=b.length-1∧c=128)):gu b=false:=by
 rcases eF b with rfl|⟨a,x,rfl⟩;rfl;rw[Ax,Bool.or_eq_false_iff];constructor;rw[List.any_eq_false];intro c hc;obtain⟨i,d⟩:=List.getElem?_of_mem hc;have f:=(ci.1 d).1;rcases h i c (by rw[List.getElem?_append_left f];exact d)with e|⟨e,_⟩;simp[e];simp at e;omega;rcases h a.length x aw with e|⟨_,e⟩<;>simp[e]
theorem pq(b:bm)(C:bytes b)(s:b.length≤1000000):fm prog 141 [.d (nb b)] (.d (.bool (gu b))):=by
 refine bL func141 ntmps141 (rs:=[.tmp 2]) a9 ?_;simp[go_sem,nb]
 refine av (fun k:Nat=>⟨[(0,.d (nb b)),(6,.d (nb b)),(7,.d (.int .i64 (b.length:Int))),(8,.d (.int .i64 (k:Int)))],[],1000⟩)
  (fun k=>k≤b.length∧∀i c,i<k→b[i]?=some c→c=0∨(i=b.length-1∧c=128)) (fun k=>b.length-k) 0 ⟨aq,aw⟩ (by simp[aA,ai,fv,lk,AV.low,AV.l,nb]) ?_
 rintro k⟨D,w⟩;simp only[go_sem,Nat.reduceEqDiff,Nat.reduceAdd,Nat.reduceLT,↓reduceIte];refine⟨fun A=>?_,fun A=>?_⟩
 ·obtain⟨c,hc,B⟩:=bu (l:=b) (k:=k) aq;have y:=ay (k:=k) aq;have f:∀s:k<b.length,b[k]=c:=fun s=>Option.some.inj ((cm s).symm.trans hc);have q:IntKind.i64.wrap ((b.length:Int)-1)=((b.length-1:Nat):Int):=by rw[IntWalk.i64_in _ aq];omega
  have o:∀{Q:Prop},(c=0∨(k=b.length-1∧c=128))→∀i x,i<k+1→b[i]?=some x→x=0∨(i=b.length-1∧x=128):=by
   intro Q z i x u v;by_cases e:i=k;subst e;obtain rfl:x=c:=Option.some.inj (v.symm.trans hc);exact z;exact w i x aq v
  have g:k<b.length:=aq;by_cases p:c=0
  ·subst p;simp[go_sem,nb,f,g,q,y];refine ao (k+1) ⟨aq,o (Q:=True) (.inl rfl)⟩ aq ?_;simp[aA,ai,fv,lk,AV.low,AV.l]
  ·by_cases a:k=b.length-1
   ·by_cases j:c=128
    ·subst j;have n:((k:Int)=((b.length-1:Nat):Int))=True:=eq_true aq;simp[go_sem,nb,f,g,q,y,n];refine ao (k+1) ⟨aq,o (Q:=True) (.inr ⟨a,rfl⟩)⟩ aq ?_;simp[aA,ai,fv,lk,AV.low,AV.l]
    ·have n:((k:Int)=((b.length-1:Nat):Int))=True:=eq_true aq;have t:¬(c:Int)=0:=aq;have m:¬(c:Int)=128:=aq;rw[EQ hc p (fun h=>j h.2)];simp[go_sem,nb,f,g,q,n,p,m,ah];exact aa a9 rfl
   ·have t:¬(c:Int)=0:=aq;have n:¬(k:Int)=((b.length-1:Nat):Int):=aq;rw[EQ hc p (fun h=>a h.1)];simp[go_sem,nb,f,g,q,n,p,ah];exact aa a9 rfl
 ·rw[Ue (fun i c u=>w i c (by have:=(ci.1 u).1;omega) u)];simp[go_sem];exact aa a9 rfl
theorem Uf{c k:Nat}(hc:c<256)(d:k<8):c*2 ^ (8*k)<18446744073709551616:=by
 have a:(2:Nat) ^ (8*k)≤2 ^ 56:=Nat.pow_le_pow_right aq aq;have e:c*2 ^ (8*k)≤255*2 ^ 56:=Nat.mul_le_mul aq a;have b:(255:Nat)*2 ^ 56<18446744073709551616:=by decide
 omega
theorem Hg(most:Nat)(b:bm)(j:bytes b)(hm:most≤8)(u:b.length≤1000000):ar prog 242 [.d (nb b),.d (.int .i64 (most:Int))]
  (fun r=>r=match gK most b with|some n=>.tup [.d (.int .i64 n),.d (.int .i64 0)]|none=>.tup [.d (.int .i64 0),.d (.int .i64 15)]):=by
 refine bL func242 ntmps242 (rs:=[.tmp 4,.tmp 5]) a9 ?_;have D:¬(8:Int)<(most:Int):=aq;by_cases B:b.length≤most
 ·have G:¬ (most:Int)<(b.length:Int):=aq;have U:¬ most<b.length:=aq;simp [go_sem,nb,D,G]
  refine av (fun k:Nat=>⟨[(0,.d (nb b)),(6,.d (.int .u64 (kK (b.take k):Int))),(16,.d (nb b)),(17,.d (.int .i64 (b.length:Int))),(18,.d (.int .i64 (k:Int)))],[],1000⟩)
   (fun k=>k≤b.length) (fun k=>b.length-k) 0 aq (by simp[aA,ai,fv,lk,AV.low,AV.l,nb,kK]) ?_
  intro k hk;simp only[go_sem,Nat.reduceEqDiff,Nat.reduceAdd,Nat.reduceLT,↓reduceIte];refine⟨fun hh=>?_,fun hh=>?_⟩
  ·obtain⟨c,hc,E⟩:=bu (l:=b) (k:=k) aq;have Y:=ay (k:=k) aq;have V:c<256:=j c (cr hc);have M:∀u:k<b.length,b[k]=c:=fun u=>Option.some.inj ((cm u).symm.trans hc);have X:k<b.length:=aq;have w8:IntKind.i64.wrap (8*(k:Int))=((8*k:Nat):Int):=by rw[IntWalk.i64_in _ aq];omega
   have wc:IntKind.u64.wrap (c:Int)=(c:Int):=IntWalk.u64_in _ aq;have g:=Uf V (k:=k) aq;have t:=Ud j k aq;have s:kK (b.take k)<18446744073709551616:=Nat.lt_of_lt_of_le t (Nat.pow_le_pow_right aq (by omega:8*k≤64));have I:Go.bits .or .u64 (kK (b.take k):Int) (IntKind.u64.wrap ((c:Int)*2 ^ min (8*(k:Int)).toNat 64))=(kK (b.take (k+1)):Int):=by
    have O:min (8*(k:Int)).toNat 64=8*k:=aq;have R:(c:Int)*2 ^ (8*k)=((c*2 ^ (8*k):Nat):Int):=by rw[Int.natCast_mul,Int.natCast_pow];rfl
    rw[O,R,IntWalk.u64_in _ aq,TY _ _ s g,OT t,OU hc]
   simp[go_sem,nb,M,X,Y,w8,wc,I];refine⟨aq,?_⟩;refine ao (k+1) aq aq ?_;simp[aA,ai,fv,lk,AV.low,AV.l]
  ·have W:k=b.length:=aq;subst W;rw[List.take_length];rcases eF b with rfl|⟨a,x,rfl⟩
   ·have E:gK most []=some 0:=by
     unfold gK;rw[if_pos ⟨aw,rfl⟩];rfl
    have w0:IntKind.i64.wrap 0=0:=IntWalk.i64_in _ aq;have en:dk 0=[]:=rfl;rw[E];simp[go_sem,nb,kK,w0];refine ag (mO 0 aq aq) a9 ?_;simp[go_sem,en,nb];refine ag (jG [] [] j j) a9 ?_;simp[go_sem,ah];exact aa a9 rfl
   ·have ad:(a++[x]).length=a.length+1:=(by simp);have o:(a++[x])[a.length]?=some x:=(by simp);have Q:x<256:=j x aw;have t:=uA (b:=a) (fun y hy=>j y (by simp[hy]));have A:kK (a++[x])=kK a+256 ^ a.length*x:=by rw[nV];simp[kK]
    have i:=jf a x;have Z:(256:Nat) ^ a.length≤256 ^ 7:=Nat.pow_le_pow_right aq aq;have p:(256:Nat) ^ a.length*128=2 ^ (8*a.length+7):=by
     rw[Nat.pow_add,Nat.pow_mul]
    have ac:(256:Nat) ^ 7=72057594037927936:=(by decide);generalize a++[x]=b at *;generalize a.length=m at *;have w1:IntKind.i64.wrap ((b.length:Int)-1)=(m:Int):=by rw[IntWalk.i64_in _ aq];omega
    have af:∀u:m<b.length,b[m]=x:=fun u=>Option.some.inj ((cm u).symm.trans o);have z:0<b.length:=aq;have e:=Ot x Q;have u7:∀n:Int,n=BO b→-9223372036854775808≤n→n<9223372036854775808→(match gK most b with|some n=>AV.tup [.d (.int .i64 n),.d (.int .i64 0)]|none=>.tup [.d (.int .i64 0),.d (.int .i64 15)])=if dk n=b then .tup [.d (.int .i64 n),.d (.int .i64 0)]else .tup [.d (.int .i64 0),.d (.int .i64 15)]:=by
     rintro n rfl h1 h2;unfold gK;by_cases h:dk (BO b)=b;rw[if_pos ⟨aq,h⟩,if_pos h];rw[if_neg (fun q=>h q.2),if_neg h]
    by_cases hx:x<128
    ·rw[if_neg aq]at e;rw[if_pos hx]at i;have C:256 ^ m*x≤256 ^ m*127:=Nat.mul_le_mul_left _ aq;have T:IntKind.i64.wrap (kK b:Int)=(kK b:Int):=IntWalk.i64_in _ aq;have N:(kK b:Int)=BO b:=(by rw[i,A]);rw[u7 _ N aq aq];simp[go_sem,nb,z,w1,o,e,T];refine ag (mO (kK b:Int) aq aq) a9 ?_;simp[go_sem];refine ag (jG (dk (kK b:Int)) b (eG _) j) a9 ?_;by_cases w:dk (kK b:Int)=b
     ·simp[go_sem,w,ah];exact aa a9 rfl
     ·simp[go_sem,w,ah];exact aa a9 rfl
    ·rw[if_pos aq]at e;rw[if_neg hx]at i;obtain⟨r,K⟩:∃r,r=kK a+256 ^ m*(x-128):=⟨_,rfl⟩;have C:256 ^ m*(x-128)≤256 ^ m*127:=Nat.mul_le_mul_left _ aq;have f:256 ^ m*x=256 ^ m*(x-128)+256 ^ m*128:=by rw[←Nat.mul_add];congr 1;omega
     have L:kK b=r+2 ^ (8*m+7):=by rw[A,f,K,p];omega
     have J:r<2 ^ (8*m+7):=by rw[←p,K];omega
     have H:BO b=-(r:Int):=by
      rw[i,f,K,Nat.mul_comm 128,←Nat.add_assoc,Nat.add_sub_cancel]
     have ab:r<9223372036854775808:=by
      have:256 ^ m*128≤72057594037927936*128:=fk _ aq;omega
     have ae:(2:Nat) ^ (8*m+7)≤9223372036854775808:=by
      rw[←p];have:256 ^ m*128≤72057594037927936*128:=fk _ aq;omega
     have T:IntKind.i64.wrap (8*(m:Int))=((8*m:Nat):Int):=by rw[IntWalk.i64_in _ aq];omega
     have g:IntKind.u64.wrap (128*2 ^ min (8*(m:Int)).toNat 64)=((2 ^ (8*m+7):Nat):Int):=by
      have O:min (8*(m:Int)).toNat 64=8*m:=aq;have R:(128:Int)*2 ^ (8*m)=((2 ^ (8*m+7):Nat):Int):=by
       rw[Nat.pow_add,Int.natCast_mul,Int.natCast_pow,Int.mul_comm];rfl
      rw[O,R,IntWalk.u64_in _ aq]
     have v:Go.bits .andNot .u64 (kK b:Int) ((2 ^ (8*m+7):Nat):Int)=(r:Int):=by
      rw[L];exact Yr aq J
     have Y:IntKind.i64.wrap (r:Int)=(r:Int):=IntWalk.i64_in _ aq;have w4:IntKind.i64.wrap (-(r:Int))=-(r:Int):=IntWalk.i64_in _ aq;have w5:IntKind.i64.wrap (0-(r:Int))=-(r:Int):=by rw[Int.zero_sub];exact w4
     rw[u7 _ H.symm aq aq];have F:(0:Int)≤8*(m:Int):=aq;generalize((2 ^ (8*m+7):Nat):Int)=S at g v;simp[go_sem,nb,z,w1,o,e,T,g,v,Y,w4,F];refine ag (mO (-(r:Int)) aq aq) a9 ?_;simp[go_sem];refine ag (jG (dk (-(r:Int))) b (eG _) j) a9 ?_;by_cases w:dk (-(r:Int))=b
     ·simp[go_sem,w,ah];exact aa a9 rfl
     ·simp[go_sem,w,ah];exact aa a9 rfl
 ·have G:(most:Int)<(b.length:Int):=aq;have U:most<b.length:=aq;have E:gK most b=none:=if_neg (fun h=>B (by have:=h.1;omega));rw[E];simp[go_sem,nb,D,G,ah];exact aa a9 rfl
theorem OV(m:Mc)(J H:List Jk)(most:Nat)(x:bm)(f:bytes x)(g:most≤8)(j:x.length≤1000000):dB prog 3 bA 258 ⟨m,J,H⟩ [.ptr 0 0 0 1,.d (nb x),.d (.int .i64 (most:Int))]
  (fun v b=>v=.d (.int .i64 (gP most x m).1)∧b=⟨(gP most x m).2,J,H⟩):=by
 refine ap func258 (by kernel_rfl) rfl ntmps258 (rs:=[.tmp 6]) rfl (dN rfl) (by decide) ?_;obtain⟨a,alt,e⟩:=m;rw[cq];simp only[bA,id];by_cases h:e=0
 ·subst h;simp[go_sem];refine ag (Hg most x f g j) a9 ?_;have c:gP most x ⟨a,alt,0⟩=match gK most x with|some n=>(n,⟨a,alt,0⟩)|none=>(0,⟨a,alt,15⟩):=rfl;rw[c]
  cases gK most x with
  |some n =>
   simp[go_sem];refine eU (Pp:=[]) (s:=⟨⟨a,alt,0⟩,J,H⟩) (rF ⟨a,alt,0⟩ J H 0) aq aw (by simp[AV.R,AV.r]) ?_;rintro v b ρ rfl i;rw[cq];simp[go_sem,jm,bA,ah];refine bf ?_ ?_ ?_<;>rfl
  |none =>
   simp[go_sem];refine eU (Pp:=[]) (s:=⟨⟨a,alt,0⟩,J,H⟩) (rF ⟨a,alt,0⟩ J H 15) aq aw (by simp[AV.R,AV.r]) ?_;rintro v b ρ rfl i;rw[cq];simp[go_sem,jm,bA,ah];refine bf ?_ ?_ ?_<;>rfl
 ·have c:gP most x ⟨a,alt,e⟩=(0,⟨a,alt,e⟩):=if_neg h;rw[c];simp[go_sem,h,ah];refine bf ?_ ?_ ?_<;>rfl
theorem Jb(m:Mc)(J H:List Jk)(most:Nat)(a:m.e≠0):dB prog 3 bA 258 ⟨m,J,H⟩ [.ptr 0 0 0 1,.nil,.d (.int .i64 (most:Int))]
  (fun v c=>v=.d (.int .i64 0)∧c=⟨m,J,H⟩):=by
 refine ap func258 (by kernel_rfl) rfl ntmps258 (rs:=[.tmp 6]) rfl (dN rfl) (by decide) ?_;obtain⟨b,alt,e⟩:=m;simp only at a;rw[cq];simp only[bA,id];simp[go_sem,a,ah];refine bf ?_ ?_ ?_<;>rfl
def er(main alt:List bm):List AV:=[.d (.ro 1 (main.map bX)),.d (.ro 1 (alt.map bX))]
theorem ER(main alt:List bm)(K:main.length≤1000000)(I:alt.length≤1000000):fm prog 97 [.agg (er main alt)] (.d (.int .i64 (gm main alt))):=by
 refine bL func97 ntmps97 (rs:=[.tmp 2]) (by simp[AV.deep,AV.deep1,er]) ?_;have E:IntKind.i64.wrap 1=1:=IntWalk.i64_in _ aq;have G:IntKind.i64.wrap 2=2:=IntWalk.i64_in _ aq;simp[go_sem,er]
 refine av (fun k:Nat=>⟨[(1,.ptr 0 0 0 1),(11,.agg [.d (.ro 1 (main.map bX)),.d (.ro 1 (alt.map bX))]),(12,.d (.int .i64 (k:Int)))],[(0,⟨155,2,[[.d (.ro 1 (main.map bX)),.d (.ro 1 (alt.map bX))]]⟩)],6000⟩)
  (fun k=>k≤2∧(1≤k→∀x,x∈main→x.length≤520)∧(2≤k→∀x,x∈alt→x.length≤520)) (fun k=>2-k) 0 ⟨aq,aq,aq⟩ (by simp[aA,ai,fv,lk,AV.low,AV.l]) ?_
 rintro k⟨J,m,u⟩;rcases(by omega:k=0∨k=1∨k=2)with rfl|rfl|rfl
 ·have B:IntKind.i64.wrap ((0:Int)+1)=((0+1:Nat):Int):=IntWalk.i64_in _ aq;simp only[go_sem,Nat.reduceEqDiff,Nat.reduceAdd,Nat.reduceLT,↓reduceIte];simp[go_sem]
  refine av (fun j:Nat=>⟨[(1,.ptr 0 0 0 1),(11,.agg [.d (.ro 1 (main.map bX)),.d (.ro 1 (alt.map bX))]),(12,.d (.int .i64 0)),(15,.d (.ro 1 (main.map bX))),(16,.d (.int .i64 (main.length:Int))),(17,.d (.int .i64 (j:Int)))],[(0,⟨155,2,[[.d (.ro 1 (main.map bX)),.d (.ro 1 (alt.map bX))]]⟩)],6000⟩)
   (fun j=>j≤main.length∧∀x,x∈main.take j→x.length≤520) (fun j=>main.length-j) 0 ⟨aq,aw⟩ (by simp[aA,ai,fv,lk,AV.low,AV.l]) ?_
  rintro j⟨D,a⟩;simp only[go_sem,Nat.reduceEqDiff,Nat.reduceAdd,Nat.reduceLT,↓reduceIte];refine⟨fun o=>?_,fun o=>?_⟩
  ·obtain⟨y,b,F⟩:=bu (l:=main) (k:=j) aq;have p:=ay (k:=j) aq;by_cases n:y.length≤520
   ·have g:¬ 520<y.length:=aq;have e:¬(520:Int)<(y.length:Int):=aq;simp[go_sem,b,bX,nb,e,p];refine ao (j+1) ⟨aq,fun x c=>?_⟩ aq (by simp[aA,ai,fv,lk,AV.low,AV.l]);rw[List.take_add_one,b]at c;simp at c;rcases c with c|rfl
    exact a x c;exact n
   ·have g:520<y.length:=aq;have e:(520:Int)<(y.length:Int):=aq;have hc:gm main alt=14:=by
     have s:main.all (fun x=>decide (x.length≤520))=false:=List.all_eq_false.2 ⟨y,cr b,by simpa using n⟩;simp[gm,s]
    rw[hc];simp[go_sem,b,bX,nb,e];exact aa a9 rfl
  ·have i:j=main.length:=aq;subst i;rw[List.take_length]at a;simp[go_sem];refine ao 1 (by exact⟨aq,fun _=>a,fun h=>aq⟩) (by decide) (by simp[aA,ai,fv,lk,AV.low,AV.l,E])
 ·have B:IntKind.i64.wrap ((1:Int)+1)=((1+1:Nat):Int):=IntWalk.i64_in _ aq;simp only[go_sem,Nat.reduceEqDiff,Nat.reduceAdd,Nat.reduceLT,↓reduceIte];simp[go_sem]
  refine av (fun j:Nat=>⟨[(1,.ptr 0 0 0 1),(11,.agg [.d (.ro 1 (main.map bX)),.d (.ro 1 (alt.map bX))]),(12,.d (.int .i64 1)),(15,.d (.ro 1 (alt.map bX))),(16,.d (.int .i64 (alt.length:Int))),(17,.d (.int .i64 (j:Int)))],[(0,⟨155,2,[[.d (.ro 1 (main.map bX)),.d (.ro 1 (alt.map bX))]]⟩)],6000⟩)
   (fun j=>j≤alt.length∧∀x,x∈alt.take j→x.length≤520) (fun j=>alt.length-j) 0 ⟨aq,aw⟩ (by simp[aA,ai,fv,lk,AV.low,AV.l]) ?_
  rintro j⟨D,a⟩;simp only[go_sem,Nat.reduceEqDiff,Nat.reduceAdd,Nat.reduceLT,↓reduceIte];refine⟨fun o=>?_,fun o=>?_⟩
  ·obtain⟨y,b,F⟩:=bu (l:=alt) (k:=j) aq;have p:=ay (k:=j) aq;by_cases n:y.length≤520
   ·have g:¬ 520<y.length:=aq;have e:¬(520:Int)<(y.length:Int):=aq;simp[go_sem,b,bX,nb,e,p];refine ao (j+1) ⟨aq,fun x c=>?_⟩ aq (by simp[aA,ai,fv,lk,AV.low,AV.l]);rw[List.take_add_one,b]at c;simp at c;rcases c with c|rfl
    exact a x c;exact n
   ·have g:520<y.length:=aq;have e:(520:Int)<(y.length:Int):=aq;have hc:gm main alt=14:=by
     have s:alt.all (fun x=>decide (x.length≤520))=false:=List.all_eq_false.2 ⟨y,cr b,by simpa using n⟩;simp[gm,s]
    rw[hc];simp[go_sem,b,bX,nb,e];exact aa a9 rfl
  ·have i:j=alt.length:=aq;subst i;rw[List.take_length]at a;simp[go_sem];refine ao 2 (by exact⟨aq,fun _=>m aq,fun _=>a⟩) (by decide) (by simp[aA,ai,fv,lk,AV.low,AV.l,G])
 ·have C:=m aq;have H:=u aq;have A:IntKind.i64.wrap ((main.length:Int)+(alt.length:Int))=(main.length:Int)+(alt.length:Int):=IntWalk.i64_in _ aq;have w:main.all (fun x=>decide (x.length≤520))=true:=fa.2 fun x c=>by simpa using C x c
  have z:alt.all (fun x=>decide (x.length≤520))=true:=fa.2 fun x c=>by simpa using H x c
  by_cases f:main.length+alt.length≤100
  ·have hc:gm main alt=0:=(by simp[gm,w,z,f]);have t:¬(100:Int)<(main.length:Int)+(alt.length:Int):=aq;have q:¬ 100<main.length+alt.length:=aq;rw[hc];simp[go_sem,A,t,ah];exact aa (v:=.d (.int .i64 _)) trivial rfl
  ·have hc:gm main alt=13:=(by simp[gm,w,z,f]);have t:(100:Int)<(main.length:Int)+(alt.length:Int):=aq;have q:100<main.length+alt.length:=aq;rw[hc];simp[go_sem,A,t,ah];exact aa (v:=.d (.int .i64 _)) trivial rfl
section
variable {P:Program}
theorem Hh{g:FuncId}{args:List AV}{hp a:Hp}{N:Nat}{K:AV→Hp→Prop}(h:gx P g args a N K)(d:∀i b,lk i a=some b→lk i hp=some b):gx P g args hp N K:=by
 refine⟨h.1,fun c U σ w m l k n p=>?_⟩;obtain⟨r,j⟩:=EJ d l;refine(h.2 c U σ w m r k n (fun i v x q o=>(p i v x q o).step j)).mono fun e u s=>?_;obtain⟨x,rfl,v,f,σ',t,k2,k3,k4⟩:=s;exact⟨x,rfl,v,f,σ',t,k2,j.trans k3,k4⟩
theorem db(c:List Nat)(Pp:Hp){S:Type}{n N:Nat}{b:S→(Nat→Nat)→Nat→Blk}(e:K7 n b)(f:Nat→Nat){hp:Hp}{g:FuncId}{s:S}{args args' a:List AV}{R:AV→S→Prop}{K:AV→Hp→Prop}(h:dB P n b g s a R)(o:rE n f)(l:∀j,j<n→f j<N)
  (q:∀p,p∈Pp++jD n b s f→lk p.1 (aC c hp)=some p.2) (m:args.length=args'.length) (r:∀(i:Nat)(v d:AV),args[i]?=some v→args'[i]?=some d→d=v∨Snap hp (fun id=>id∈c) v d)
  (w:∀p,p∈Pp→p.1<N∧∀j,j<n→f j≠p.1) (k:a=AV.R (cn (lR n f id) n) args') (u:∀v s' ρ,R v s'→(∀j,j<n→ρ j=f j)→K (v.r ρ) (Pp++jD n b s' f)):uX P g args hp N K :=
 .inl (uY c (Hh (vi e h o l w k u) fun i x t=>q _ (bR t)) m r)
theorem jH{hp:Hp}{I:Nat→Prop}{l:List AV}:∀(i:Nat)(v a:AV),l[i]?=some v→l[i]?=some a→a=v∨Snap hp I v a:=by
 intro i v a c b;rw[c]at b;exact .inl (Option.some.inj b).symm
theorem OW{g:FuncId}{k:Nat}{f:Hp}{args:List AV}{Q j:AV→Hp→Prop}(h:cZ P g k f args Q)
  (hq:∀r d,Q r d→∃i,(∀(w:World)(S:Nat→Prop)(σ:Nat→Option Nat)(U:Nat→Prop)(x:Value),AIs w S σ d U r x→AIs w S σ d U i x)∧j i d):cZ P g k f args j:=by
 obtain⟨t,s,p⟩:=h;refine⟨t,s,fun w S σ l a b c=>(p w S σ l a b c).mono fun e B y=>?_⟩;obtain⟨x,r,d,u,σ',n,q,v,o,z⟩:=y;obtain⟨i,A,m⟩:=hq r d q;exact⟨x,i,d,u,σ',n,m,v,o,A _ _ _ _ _ z⟩
theorem OX{w:World}{S:Nat→Prop}{σ:Nat→Option Nat}{hp:Hp}{U:Nat→Prop}{x:Value}(e:Nat)(h:AIs w S σ hp U .nil x):AIs w S σ hp U (.d (.ro e [])) x:=by
 cases h;exact .d (.ro e [] none 0 (fun _ _=>undef) (cL _) aw aw aw aw)
theorem Ug{S:Type}{n:Nat}{b:S→(Nat→Nat)→Nat→Blk}{g:FuncId}{s:S}{args:List AV}{R c:AV→S→Prop}(h:dB P n b g s args R)(hq:∀v a,R v a→c v a∨(v=.nil∧∃e,c (.d (.ro e [])) a)):dB P n b g s args c:=by
 refine OW h fun r j i=>?_;obtain⟨a,k,f⟩:=i;rcases hq r a k with h|⟨rfl,e,h⟩;exact⟨r,fun _ _ _ _ _ h=>h,a,h,f⟩;exact⟨.d (.ro e []),fun _ _ _ _ _ h=>OX e h,a,h,f⟩
end
theorem jI{hp:Hp}{I:Nat→Prop}{id:Nat}{ty:TypeId}{l:List bm}{J:List Jk}(b:lk id hp=some ⟨ty,1,dy l J⟩)(a:I id):SnapD hp I (.own id 0 l.length (l.length+J.length)) (.ro 1 (l.map bX)):=by
 refine kJ b a (ki l J) ?_ aw (fun r c=>by
  obtain⟨x,_,rfl⟩:=List.mem_map.1 c
  rfl)
 rw[List.drop_zero,pj (cL _),List.take_length];have e:l.map qh=(l.map bX).map fun r=>r.map AV.d:=by
  rw[List.map_map];rfl
 rw[e];exact lG _
theorem fZ(main alt:List bm):(AV.agg (er main alt)).deep:=by
 intro c hc;simp[er]at hc;rcases hc with rfl|rfl<;>trivial
def sZ(m:Mc)(J H:List Jk):AV:=if(dR m).2.2=0 then .tup [.agg [.own 1 0 m.main.length (m.main.length+J.length),.own 2 0 m.alt.length (m.alt.length+H.length)],.d (.int .i64 0)]
 else .tup [.agg [.nil,.nil],.d (.int .i64 (dR m).2.2)]
theorem B5(m:Mc)(J H:List Jk)(i:m.main.length≤1000000)(g:m.alt.length≤1000000):dB prog 3 bA 223 ⟨m,J,H⟩ [.ptr 0 0 0 1]
  (fun v j=>v=sZ m J H∧∃e',j=⟨⟨m.main,m.alt,e'⟩,J,H⟩):=by
 refine ap func223 (by kernel_rfl) rfl ntmps223 (rs:=[.cell 2 155,.tmp 3]) rfl (dN rfl) (by decide) ?_;obtain⟨a,alt,e⟩:=m;simp only at i g;rw[cq];simp only[bA,id];by_cases h:e=0
 ·subst h;simp[go_sem];refine cK [0,1,2,3,4,5,6,7,8] [(9,[]),(10,[])] 1 (k:=11) ?_;intro G b;simp[go_sem];refine b _ _ ?_;clear b G;simp[go_sem];refine ju (ER a alt i g) rfl (ak (.agg ⟨rfl,ax (am (jI rfl trivial)) (ax (am (jI rfl trivial)) ca)⟩) aF) trivial ?_
  have f:sZ ⟨a,alt,0⟩ J H=if gm a alt=0 then .tup [.agg [.own 1 0 a.length (a.length+J.length),.own 2 0 alt.length (alt.length+H.length)],.d (.int .i64 0)]else .tup [.agg [.nil,.nil],.d (.int .i64 (gm a alt))]:=by
   by_cases hc:gm a alt=0<;>simp[sZ,dR,hc]
  rw[f];clear f;generalize gm a alt=c;by_cases hc:c=0
  ·subst hc;simp[go_sem,ah];exact⟨⟨⟨a,alt,0⟩,J,H⟩,⟨0,rfl⟩,bf rfl rfl rfl⟩
  ·simp[go_sem,hc];refine cK [0,1,2,3,4] [(5,[6])] 1 (k:=7) ?_;intro G b;simp[go_sem];refine b _ _ ?_;clear b G;simp[go_sem,ah];exact⟨⟨⟨a,alt,c⟩,J,H⟩,⟨c,rfl⟩,bf rfl rfl rfl⟩
 ·have f:sZ ⟨a,alt,e⟩ J H=.tup [.agg [.nil,.nil],.d (.int .i64 e)]:=by simp[sZ,dR,h]
  rw[f];simp[go_sem];refine cK [0,1,2,3,4,5,6,7,8] [(9,[]),(10,[])] 1 (k:=11) ?_;intro G b;simp[go_sem];refine b _ _ ?_;clear b G;simp[go_sem,h];refine cK [0,1,2,3,4] [(5,[6])] 1 (k:=7) ?_;intro G b;simp[go_sem];refine b _ _ ?_;clear b G;simp[go_sem,ah];exact⟨⟨⟨a,alt,e⟩,J,H⟩,⟨e,rfl⟩,bf rfl rfl rfl⟩
theorem B6(main alt:List bm)(i:main.length≤1000000)(g:alt.length≤1000000)(h3:∀x,x∈main→x.length≤1000000)(h:∀x,x∈alt→x.length≤1000000):cZ prog 221 0 [] [.agg (er main alt)]
  (fun r a=>r=.ptr 289 0 0 1∧lk 289 a=some ⟨283,3,[[.own 129 0 main.length main.length,.own 225 0 alt.length alt.length,.d (.int .i64 0)]]⟩∧lk 129 a=some ⟨31,1,dy main []⟩∧lk 225 a=some ⟨31,1,dy alt []⟩):=by
 refine ap func221 (by kernel_rfl) rfl ntmps221 (rs:=[.tmp 2]) rfl (dN rfl) (by decide) ?_;simp[go_sem,er];refine cK [0,1,3,4] [(2,[]),(5,[6]),(7,[8])] 3 (k:=9) ?_;intro G b;simp[go_sem]
 repeat' apply And.intro
 all_goals
  refine aS [] (OM main i h3) rfl aw aw aw (by simp[AV.R,AV.r]) ?_;rintro r a⟨rfl,c⟩;refine⟨[(129,0)],by simp[de,gB],?_⟩;simp[go_sem,cj,bK,c,Blk.r,mA,AV.r,cn];refine aS [] (OM alt g h) rfl aw aw aw (by simp[AV.R,AV.r]) ?_;rintro r f⟨rfl,e⟩;refine⟨[(129,0)],by simp[de,gB],?_⟩;simp[go_sem,cj,bK,e,Blk.r,mA,AV.r,cn];refine b _ _ ?_;clear b G;simp[go_sem,ah]
theorem pu(ρ:Nat→Nat)(l:List bm)(J:List Jk):(dy l J).map (AV.R ρ)=dy l J:=mA ρ l J
theorem oc:rE 3 (fun j=>128+j):=by
 intro i j b a h;show i=j;have:128+i=128+j:=h;omega
def Az(m:Mc):AV:=.tup [.agg (er (dR m).1 (dR m).2.1),.d (.int .i64 (dR m).2.2)]
theorem oe{m:Mc}(h:(dR m).2.2=0):dR m=(m.main,m.alt,0):=by
 unfold dR at h⊢;by_cases b:m.e=0;simp only[b,if_true]at h⊢;by_cases a:gm m.main m.alt=0;simp[a];simp[a]at h;simp[b]at h
theorem qj{m:Mc}(h:(dR m).2.2≠0):dR m=([],[],(dR m).2.2):=by
 unfold dR at h⊢;by_cases b:m.e=0;simp only[b,if_true]at h⊢;by_cases a:gm m.main m.alt=0;simp[a]at h;simp[a];simp[b]
theorem qk{main alt:List bm}{J H:List Jk}{A B:Nat}{st:St}(e:lk A st.hp=some ⟨31,1,dy main J⟩)(f:lk B st.hp=some ⟨31,1,dy alt H⟩) :
  dG (fun r=>r=.tup [.agg (er main alt),.d (.int .i64 0)]) (.tup [.agg [.own A 0 main.length (main.length+J.length),.own B 0 alt.length (alt.length+H.length)],.d (.int .i64 0)]) st:=by
 refine⟨_,.tup (cs':=[.agg (er main alt),.d (.int .i64 0)]) rfl (fun i c g a b=>?_),?_,rfl⟩
 ·match i with
  |0 =>
   simp at a b;subst a;subst b;exact .inr ⟨_,_,rfl,rfl,rfl,ax (am (jI e trivial)) (ax (am (jI f trivial)) ca)⟩
  |1=>simp at a b;subst a;subst b;exact .inl (.inl ⟨rfl,trivial⟩)
  |i+2=>simp at a
 ·intro c hc;simp at hc;rcases hc with rfl|rfl;exact .inr ⟨_,rfl,fZ _ _⟩;exact .inl trivial
theorem lu{e:Int}{st:St}:dG (fun r=>r=.tup [.agg (er [] []),.d (.int .i64 e)]) (.tup [.agg [.nil,.nil],.d (.int .i64 e)]) st:=by
 refine⟨_,.tup (cs':=[.agg (er [] []),.d (.int .i64 e)]) rfl (fun i c f a b=>?_),?_,rfl⟩
 ·match i with
  |0 =>
   simp at a b;subst a;subst b;exact .inr ⟨_,_,rfl,rfl,rfl,ax (am (.nil 1)) (ax (am (.nil 1)) ca)⟩
  |1=>simp at a b;subst a;subst b;exact .inl (.inl ⟨rfl,trivial⟩)
  |i+2=>simp at a
 ·intro c hc;simp at hc;rcases hc with rfl|rfl;exact .inr ⟨_,rfl,fZ _ _⟩;exact .inl trivial
theorem Lr(main alt:List bm)(x:bm)(C:main.length≤1000)(B:alt.length≤1000)(h3:∀x,x∈main→x.length≤1000000)(u:∀x,x∈alt→x.length≤1000000)(t:x.length≤1000000) :
  fm prog 197 [.agg (er main alt),.d (nb x)] (Az ⟨main++[x],alt,0⟩):=by
 refine bL func197 ntmps197 (rs:=[.cell 4 155,.tmp 5]) (by intro v k;simp at k;rcases k with rfl|rfl;exact fZ _ _;trivial) ?_;simp[go_sem,er];refine aS [] (B6 main alt aq aq h3 u) rfl aw aw aw (by simp[AV.R,AV.r,er]) ?_;rintro r o⟨rfl,q,w,m⟩;refine⟨[(289,0),(129,1),(225,2)],by simp[de,gB],?_⟩;simp[go_sem,cj,bK,q,w,m,Blk.r,pu,AV.R,AV.r,cn,aQ]
 refine db [256] [(32,⟨155,2,[[.nil,.nil]]⟩)] (args':=[.ptr 128 0 0 1,.d (.ro 1 [[nb x]])]) bT (fun j=>128+j) (iq ⟨main,alt,0⟩ [] [] x (by simp;omega) t) oc (fun j e=>by show 128+j<288;omega) (by simp[cq,bA,aC,lk]) rfl
  (fun i v A a c=>by
   match i with
   |0=>simp at a c;subst a;subst c;exact .inl rfl
   |1 =>
    simp at a c;subst a;subst c;exact .inr (.one (am (jI (l:=[x]) (J:=[]) rfl aw)))
   |i+2=>simp at a)
  (fun p b=>by simp at b;subst b;exact⟨by show 32<288;omega,fun j e=>by show 128+j≠32;omega⟩) rfl ?_
 rintro v n ρ ⟨h,rfl⟩ f;simp only[cq,bA,fj];simp[go_sem]
 refine db [] [(32,⟨155,2,[[.nil,.nil]]⟩)] bT (fun j=>128+j) (B5 ⟨main++[x],alt,0⟩ h [] (by simp;omega) (by simp;omega)) oc (fun j e=>by show 128+j<352;omega) (by simp[cq,bA,aC,lk]) rfl jH
  (fun p b=>by simp at b;subst b;exact⟨by show 32<352;omega,fun j e=>by show 128+j≠32;omega⟩) rfl ?_
 rintro v n ρ ⟨rfl,D,rfl⟩ f;have y:ρ 1=129:=f 1 aq;have z:ρ 2=130:=f 2 aq;simp only[cq,bA];unfold sZ Az;by_cases hc:(dR ⟨main++[x],alt,0⟩).2.2=0
 ·have g:=oe hc;rw[if_pos hc];rw[g];simp[go_sem,AV.r,AV.R,y,z,ah];have s:main.length+1=(main++[x]).length:=by simp
  rw[s];exact qk (J:=h) (H:=[]) rfl rfl
 ·have g:=qj hc;rw[if_neg hc,g];simp[go_sem,AV.r,AV.R,ah];exact lu
theorem aeq(c:Nat):rE 3 (fun j=>c+j):=by
 intro i j b a h;have:c+i=c+j:=h;omega
theorem Wl{a a':AV}{cs cs':List AV}{e:Int}{st:St}(j:fP st.hp (fun _=>True) a a')(g:a'.deep1)(hc:sA st.hp (fun _=>True) cs cs')(h:∀c,c∈cs'→c.deep1) :
  dG (fun r=>r=.tup [a',.agg cs',.d (.int .i64 e)]) (.tup [a,.agg cs,.d (.int .i64 e)]) st:=by
 refine⟨_,.tup (cs':=[a',.agg cs',.d (.int .i64 e)]) rfl (fun i c k b f=>?_),?_,rfl⟩
 ·match i with
  |0=>simp at b f;subst b;subst f;exact .inl j
  |1 =>
   simp at b f;subst b;subst f;exact .inr ⟨_,_,rfl,rfl,hc⟩
  |2=>simp at b f;subst b;subst f;exact .inl (.inl ⟨rfl,trivial⟩)
  |i+3=>simp at b
 ·intro c hc;simp at hc;rcases hc with rfl|rfl|rfl;exact .inl g;exact .inr ⟨_,rfl,h⟩;exact .inl trivial
theorem OY{main alt:List bm}{J H:List Jk}{A B:Nat}{hp:Hp}{I:Nat→Prop}(a:lk A hp=some ⟨31,1,dy main J⟩)(b:lk B hp=some ⟨31,1,dy alt H⟩)(d:I A)(c:I B) :
  sA hp I [.own A 0 main.length (main.length+J.length),.own B 0 alt.length (alt.length+H.length)] (er main alt):=⟨rfl,ax (am (jI a d)) (ax (am (jI b c)) ca)⟩
theorem OZ{hp:Hp}{I:Nat→Prop}:sA hp I [.nil,.nil] (er [] []):=⟨rfl,ax (am (.nil 1)) (ax (am (.nil 1)) ca)⟩
def Hi(main alt:List bm):AV:=match main.getLast? with
 |none=>.tup [.d (.ro 1 []),.agg (er [] []),.d (.int .i64 12)]
 |some x=>.tup [.d (nb x),.agg (er main.dropLast alt),.d (.int .i64 0)]
theorem ES(main alt:List bm)(z:main.length≤1000)(y:alt.length≤1000)(h3:∀x,x∈main→x.length≤1000000)(s:∀x,x∈alt→x.length≤1000000) :
  fm prog 240 [.agg (er main alt)] (Hi main alt):=by
 refine bL func240 ntmps240 (rs:=[.tmp 2,.cell 3 155,.tmp 4]) (by intro v b;simp at b;subst b;exact fZ _ _) ?_;simp[go_sem,er];refine aS [] (B6 main alt aq aq h3 s) rfl aw aw aw (by simp[AV.R,AV.r,er]) ?_;rintro r o⟨rfl,q,t,m⟩;refine⟨[(289,0),(129,1),(225,2)],by simp[de,gB],?_⟩;simp[go_sem,cj,bK,q,t,m,Blk.r,pu,AV.R,AV.r,cn,aQ]
 refine db [] [(64,⟨155,2,[[.nil,.nil]]⟩)] bT (fun j=>160+j) (As ⟨main,alt,0⟩ [] [] (by simp;omega)) (aeq 160) (fun j n=>by show 160+j<256;omega) (by simp[cq,bA,aC,lk]) rfl jH
  (fun p a=>by simp at a;subst a;exact⟨by show 64<256;omega,fun j n=>by show 160+j≠64;omega⟩) rfl ?_
 rintro v u ρ ⟨rfl,f,rfl⟩ w;rcases main.eq_nil_or_concat with rfl|⟨l,x,i⟩
 ·have c:aT 1 ⟨[],alt,0⟩=⟨[],alt,12⟩:=rfl;have g:dY ⟨[],alt,0⟩=([],⟨[],alt,12⟩):=rfl;simp only[c,g,cq,bA];simp[go_sem,AV.r];refine cK [0,1,2,3,4,5] [(6,[7])] 1 (k:=8) ?_;intro G e;simp[go_sem];refine e _ _ ?_;clear e G;simp[go_sem,ah];exact Wl (a':=.d (.ro 1 [])) (am (.nil 1)) trivial OZ (fZ _ _)
 ·rw [List.concat_eq_append] at i;subst i;have c:aT 1 ⟨l ++ [x],alt,0⟩=⟨l ++ [x],alt,0⟩:=by simp [aT]
  have g:dY ⟨l++[x],alt,0⟩=(x,⟨l,alt,0⟩):=by simp[dY,c]
  rw[c,g];simp only[cq,bA];simp[go_sem,AV.r];refine dI [0,1,2,3,4,5,6,7,8,9,10] [11,12] [0,1,2,3,4,5,6,7,8,9,10] (a_ [11,12]) ⟨[(2,.d (nb x)),(3,.ptr 64 0 0 1),(4,.d (.int .i64 0))],[(64,⟨155,2,[[.own 161 0 l.length (l.length+f.length),.own 162 0 alt.length alt.length]]⟩),(161,⟨31,1,dy l f⟩),(162,⟨31,1,dy alt []⟩)],9000⟩ (k:=13) ?h3 ?hq
  case h3 =>
   intro G e;simp (config := { maxSteps := 3000000 }) [go_sem]
   repeat' apply And.intro
   all_goals
    refine e _ _ (b8 ⟨by simp[ai,fv,lk,AV.low,AV.l],?_,aw⟩);intro p a;simp only[d_,List.mem_nil_iff,or_false]at a;rcases a with rfl|rfl|rfl;refine⟨.inl (by simp[lk]),by show 64<9000;omega,?_⟩;intro r h v b;simp only[d_,List.mem_nil_iff,or_false]at h;subst h;simp only[d_,List.mem_nil_iff,or_false]at b;rcases b with rfl|rfl;show 161<9000;omega;show 162<9000;omega;exact⟨.inl (by simp[lk]),by show 161<9000;omega,mB _ _ _⟩;exact⟨.inl (by simp[lk]),by show 162<9000;omega,mB _ _ _⟩
  case hq =>
   simp[go_sem,ah];have a:Hi (l++[x]) alt=.tup [.d (nb x),.agg (er l alt),.d (.int .i64 0)]:=(by simp[Hi])
   rw[a];exact Wl (aM trivial) trivial (OY (J:=f) (H:=[]) rfl rfl trivial trivial) (fZ _ _)
theorem iT{p:AV}{q:Nat}{ty:TypeId}{z:bm}{hp:Hp}(h:lk q hp=some ⟨ty,1,[[.d (nb z)]]⟩):∀(i:Nat)(v c:AV),[p,.own q 0 1 1][i]?=some v→[p,.d (.ro 1 [[nb z]])][i]?=some c→c=v∨Snap hp (fun id=>id∈[q]) v c:=by
 intro i v c a b
 match i with
 |0=>simp at a b;subst a;subst b;exact .inl rfl
 |1 =>
  simp at a b;subst a;subst b;exact .inr (.one (am (jI (l:=[z]) (J:=[]) h aw)))
 |i+2=>simp at a
def kL(l:List Nat):List (List DV):=l.map fun(i:Nat)=>[.int .i64 (i:Int)]
theorem iw(m:Mc)(J H:List Jk)(k:Nat)(put:List Nat)(hp:∀i,i∈put→i<k)(hk:k≤6)(ad:put.length≤6)(hl:m.main.length≤1000)(I:∀x,x∈m.main→x.length≤1000000):dB prog 3 bA 245 ⟨m,J,H⟩ [.ptr 0 0 0 1,.d (.int .i64 (k:Int)),.d (.ro 1 (kL put))]
  (fun v C=>∃E,C=⟨c7 k put m,E,H⟩):=by
 refine ap func245 (by kernel_rfl) rfl ntmps245 (rs:=[]) rfl (dN rfl) (by decide) ?_;obtain⟨a,alt,e⟩:=m;simp only at hl I;rw[cq];simp only[bA,id];simp[go_sem];refine eU (Pp:=[]) (s:=⟨⟨a,alt,e⟩,J,H⟩) (mC ⟨a,alt,e⟩ J H k) aq aw (by simp[AV.R,AV.r]) ?_;rintro v C ρ ⟨rfl,rfl⟩ hρ;rw[cq];by_cases h:(aT k ⟨a,alt,e⟩).e=0
 ·obtain⟨Z,X,S⟩:=jE h;simp only at Z X;subst X;have o:c7 k put ⟨a,alt,0⟩=⟨a.take (a.length-k)++put.map (fun i=>(a.drop (a.length-k)).getD i []),alt,0⟩:=if_pos h;rw[o,S];have U:IntKind.i64.wrap ((a.length:Int)-(k:Int))=((a.length-k:Nat):Int):=by rw[IntWalk.i64_in _ aq];omega
  generalize hc:a.length-k=c at *;have A:c≤a.length:=aq;have n:(c:Int)≤(a.length:Int):=aq;simp[go_sem,bA,AV.r,U,n];refine aS [(0,1)] (TW a J c (a.length-c) aq aq I) rfl aw (by simp[lk]) (by simp[lk,Blk.r,aQ,pu]) (by simp[AV.R,AV.r,cn,iV,lk]) ?_;rintro r ab⟨rfl,W,V⟩;refine⟨[(130,0)],by simp[de,gB],?_⟩;simp[go_sem,cj,bK,W,V,Blk.r,pu,AV.r,cn,aQ,n];have w:List.take (a.length-c) (List.drop c a)=a.drop c:=cx aw;rw[w];have t:(a.drop c).length=a.length-c:=by simp
  have aa:(a.drop c).length=k:=by simp;omega
  have F:(a.take c).length=c:=by simp;omega
  have q:∀i,a[c+i]?=(a.drop c)[i]?:=fun i=>by rw[List.getElem?_drop]
  have G:∀x,x∈a.drop c→x.length≤1000000:=fun x Q=>I x (List.mem_of_mem_drop Q);have f:=I6 (l:=a) (J:=J) c A;have B:a.length+J.length=(a.take c).length+((a.drop c).map Jk.i++J).length:=by simp;omega
  simp only[q];rw[←t,f,B];generalize a.drop c=T at *;generalize(T.map Jk.i++J)=J2 at *;have Y:(a.take c).length≤1000:=aq;clear q f B V W w o;clear hc U A n t Z S;generalize a.take c=l0 at *;subst F;simp only[List.length_map,kL];refine av (fun u:Nat×List bm×List Jk=>⟨[(0,.ptr 0 0 0 1),(7,.own 580 0 T.length T.length),(37,.d (.ro 1 (kL put))),(38,.d (.int .i64 (put.length:Int))),(39,.d (.int .i64 (u.1:Int)))],
   [(580,⟨31,1,dy T []⟩),(0,⟨283,3,[[.own 1 0 u.2.1.length (u.2.1.length+u.2.2.length),.own 2 0 alt.length (alt.length+H.length),.d (.int .i64 0)]]⟩),(1,⟨31,1,dy u.2.1 u.2.2⟩),(2,⟨31,1,dy alt H⟩)],9000⟩)
   (fun u=>u.1≤put.length∧u.2.1=l0++(put.take u.1).map (fun i=>T[i]?.getD [])) (fun u=>put.length-u.1) (0,l0,J2) ⟨aw,aw⟩
   ⟨by simp[ai,fv,lk,AV.low,AV.l,kL],List.forall_mem_cons.2 ⟨⟨.inl rfl,by show 580<9000;omega,mB _ _ _⟩,OK (m:=⟨l0,alt,0⟩) rfl rfl rfl (dN rfl) trivial⟩,aw⟩ ?_
  rintro⟨j,l,K⟩⟨D,b⟩;simp only at D b;have ae:l.length≤1006:=by rw[b];simp;omega
  simp only[go_sem,Nat.reduceEqDiff,Nat.reduceAdd,Nat.reduceLT,↓reduceIte,Nat.reduceMul];refine⟨fun hh=>?_,fun hh=>?_⟩
  ·obtain⟨y,g,hd⟩:=bu (l:=put) (k:=j) aq;have ac:=hp y (cr g);obtain⟨z,M⟩:∃z,T[y]?=some z:=⟨_,cm aq⟩;have w3:=ay (k:=j) aq;have o:=x7 (J:=[]) M;have R:∀h:y<(dy T []).length,(dy T [])[y]=[.d (nb z)]:=fun h=>Option.some.inj ((cm h).symm.trans o);have L:y<T.length:=aq;have N:(y:Int)<(T.length:Int):=aq;simp[go_sem,kL,g,R,L,N,ki]
   refine db [9288] [(580,⟨31,1,dy T []⟩)] (args':=[.ptr 0 0 0 1,.d (.ro 1 [[nb z]])]) bT id (iq ⟨l,alt,0⟩ K H z (by simp;omega) (G z (cr M))) (a8 3) (fun j D=>by show j<9320;omega) (by simp[cq,bA,aC,lk]) rfl
    (iT rfl) (fun p hp=>by simp at hp;subst hp;exact⟨by show 580<9320;omega,fun j D=>by show j≠580;omega⟩) rfl ?_
   rintro v C ρ ⟨E,rfl⟩ hρ;simp only[cq,bA,fj,id];simp[go_sem,w3];refine ao (j+1,l++[z],E) ⟨aq,?_⟩ (by show put.length-(j+1)<put.length-j;omega) ⟨by simp[ai,fv,lk,AV.low,AV.l],List.forall_mem_cons.2 ⟨⟨.inl rfl,by show 580<9000;omega,mB _ _ _⟩,OK (m:=⟨l++[z],alt,0⟩) (by simp[lk]) rfl rfl (dN rfl) trivial⟩,aw⟩;show l++[z]=_;rw[b,←List.map_take,List.take_add_one,g];simp[M]
  ·have O:j=put.length:=aq;subst O;rw[List.take_length]at b;subst b;simp[go_sem];exact⟨_,⟨K,rfl⟩,bf (by simp[lk]) rfl rfl⟩
 ·have o:c7 k put ⟨a,alt,e⟩=aT k ⟨a,alt,e⟩:=if_neg h;rw[o];generalize aT k ⟨a,alt,e⟩=m' at *;simp[go_sem,bA,AV.r,h];exact⟨_,⟨J,rfl⟩,bf rfl rfl rfl⟩
inductive McT where
 |a (s:McS)
 |z (e:Int) (n k:Nat) (J H:List Jk)
def B7:McT→(Nat→Nat)→Nat→Blk
 | .a s,f,i=>bA s f i
 | .z e n k J H,f,0=>⟨283,3,[[.own (f 1) 0 n J.length,.own (f 2) 0 k H.length,.d (.int .i64 e)]]⟩
 | .z e n k J H,f,1=>⟨31,1,dy [] J⟩
 | .z e n k J H,f,_=>⟨31,1,dy [] H⟩
theorem Jc:K7 3 B7:=by
 refine⟨fun s f ρ g i b h=>?_,fun s f i b=>?_⟩
 ·match s with
  | .a s=>exact bT.1 s f ρ g i b h
  | .z e n k J H =>
   match i with
   |0=>simp[B7,Blk.r,aQ,AV.R,AV.r,h 1 aq,h 2 aq]
   |1=>simp only[B7,Blk.r,mA]
   |i+2=>simp only[B7,Blk.r,mA]
 ·match s with
  | .a s=>exact bT.2 s f i b
  | .z e n k J H =>
   match i with
   |0=>exact Nat.succ_ne_zero 2
   |1=>exact Nat.succ_ne_zero 0
   |i+2=>exact Nat.succ_ne_zero 0
theorem mcA(s:McS)(f:Nat→Nat):jD 3 B7 (.a s) f=jD 3 bA s f:=rfl
def O0(m:Mc)(s:McT):Prop:=(∃J H,s=.a ⟨m,J,H⟩)∨(m.e≠0∧∃n k J H,s=.z m.e n k J H)
theorem oN{m:Mc}{J H:List Jk}{hp:Hp}(h:vS 3 bA ⟨m,J,H⟩ id hp):∃s',O0 m s'∧vS 3 B7 s' id hp:=⟨.a ⟨m,J,H⟩,.inl ⟨J,H,rfl⟩,h⟩
theorem Ys(m:Mc)(J H:List Jk)(A:m.main.length≤1000)(y:m.alt.length≤1000)(w:∀x,x∈m.alt→x.length≤1000000):dB prog 3 bA 244 ⟨m,J,H⟩ [.ptr 0 0 0 1]
  (fun v g=>∃f H',g=⟨qT m,f,H'⟩):=by
 refine ap func244 (by kernel_rfl) rfl ntmps244 (rs:=[]) rfl (dN rfl) (by decide) ?_;obtain⟨a,alt,e⟩:=m;simp only at A y w;rw[cq];simp only[bA,id];by_cases c:alt.length=0
 ·have r:qT ⟨a,alt,e⟩=jm 12 ⟨a,alt,e⟩:=if_pos c;rw[r];simp[go_sem,c];rw[show H.length=alt.length+H.length by omega,show AV.own 2 0 0 (alt.length+H.length)=AV.own 2 0 alt.length (alt.length+H.length)by rw[c]];refine eU (Pp:=[]) (s:=⟨⟨a,alt,e⟩,J,H⟩) (rF ⟨a,alt,e⟩ J H 12) aq aw (by simp[AV.R,AV.r]) ?_;rintro v g ρ rfl B;generalize jm 12 ⟨a,alt,e⟩=m';simp only[cq,bA,id];simp[go_sem];exact⟨_,⟨J,H,rfl⟩,bf rfl rfl rfl⟩
 rcases alt.eq_nil_or_concat with rfl|⟨l,x,z⟩;simp at c
 ·rw[List.concat_eq_append]at z;subst z;have r:qT ⟨a,l++[x],e⟩=⟨a++[x],l,e⟩:=by simp[qT]
  rw[r];have t:IntKind.i64.wrap (((l++[x]).length:Int)-1)=(l.length:Int):=by rw[IntWalk.i64_in _ (by simp at y⊢;omega)];simp
  have u:=x7 (J:=H) (l:=l++[x]) (k:=l.length) (x:=x) aw;have D:∀h:l.length<(dy (l++[x]) H).length,(dy (l++[x]) H)[l.length]=[.d (nb x)]:=fun h=>Option.some.inj ((cm h).symm.trans u);generalize b:(l++[x]).length=n at *;have C:l.length<n:=by rw[←b];simp
  have o:¬n=0:=aq;have q:(l.length:Int)<(n:Int):=aq;have p:(l.length:Int)≤(n:Int):=aq;simp[go_sem,o,t,u,q,ki,b]
  refine db [548] [] (args':=[.ptr 0 0 0 1,.d (.ro 1 [[nb x]])]) bT id (iq ⟨a,l++[x],e⟩ J H x (by simp;omega) (w x aw)) (a8 3) (fun j E=>by show j<580;omega) (by simp[cq,bA,aC,lk,b]) rfl
   (iT rfl) aw rfl ?_
  rintro v g ρ ⟨f,rfl⟩ B;simp only[cq,bA,fj,id,b];simp[go_sem,t,p];refine⟨⟨⟨a++[x],l,e⟩,f,.i x::H⟩,⟨f,.i x::H,rfl⟩,bf ?_ ?_ ?_⟩
  simp[lk,←b];omega;rfl;simp[lk,dy,qh,Yk,avJ]
theorem jJ{p k:AV}{q n:Nat}{ty:TypeId}{put:List Nat}{hp:Hp}(e:put.length=n)(h:lk q hp=some ⟨ty,1,(kL put).map fun r=>r.map .d⟩):∀(i:Nat)(v c:AV),[p,k,.own q 0 n n][i]?=some v→[p,k,.d (.ro 1 (kL put))][i]?=some c→c=v∨Snap hp (fun id=>id∈[q]) v c:=by
 intro i v c a b
 match i with
 |0=>simp at a b;subst a;subst b;exact .inl rfl
 |1=>simp at a b;subst a;subst b;exact .inl rfl
 |2 =>
  simp at a b;subst a;subst b;refine .inr (.one (am (eB h aw (by simp[kL,e]) (fun r f=>?_))));obtain⟨x,_,rfl⟩:=List.mem_map.1 f;rfl
 |i+3=>simp at a
theorem s5{p k:AV}{hp:Hp}:∀(i:Nat)(v c:AV),[p,k,.nil][i]?=some v→[p,k,.d (.ro 1 (kL []))][i]?=some c→c=v∨Snap hp (fun id=>id∈[]) v c:=by
 intro i v c a b
 match i with
 |0=>simp at a b;subst a;subst b;exact .inl rfl
 |1=>simp at a b;subst a;subst b;exact .inl rfl
 |2 =>
  simp at a b;subst a;subst b;exact .inr (.one (am (.nil 1)))
 |i+3=>simp at a
theorem abD{m:Mc}{n k a b:Nat}{J H:List Jk}{hp:Hp}(f:m.e≠0)(g:lk 0 hp=some ⟨283,3,[[.own 1 0 n a,.own 2 0 k b,.d (.int .i64 m.e)]]⟩)(h:a=J.length)(c:b=H.length)(o:lk 1 hp=some ⟨31,1,dy [] J⟩)(j:lk 2 hp=some ⟨31,1,dy [] H⟩) :
  ∃s',O0 m s'∧vS 3 B7 s' id hp:=by
 subst h c;refine⟨.z m.e n k J H,.inr ⟨f,n,k,J,H,rfl⟩,fun i l=>?_⟩
 match i,l with
 |0,_=>exact g
 |1,_=>exact o
 |2,_=>exact j
theorem Jd(l:List bm)(J:List Jk):dy l J=dy [] (l.map Jk.i++J):=by
 have:=I6 (l:=l) (J:=J) 0 (Nat.zero_le _);simpa using this
theorem O4(l:List bm):l.map qh++[[.nil]]=dy [] (l.map Jk.i++[.n]):=by
 unfold dy;rw[List.map_append,List.map_map];rfl
theorem O5(l:List bm)(j:Jk)(H:List Jk):l.map qh++[.nil]::(dy l (j::H)).drop (l.length+1)=dy [] (l.map Jk.i++.n::H):=by
 unfold dy;rw[List.drop_append,List.length_map,List.drop_of_length_le aw,Nat.add_sub_cancel_left,List.map_append,List.map_map];rfl
theorem EU(n:Nat)(main alt:List bm)(e:Int):∃e',aT n ⟨main,alt,e⟩=⟨main,alt,e'⟩:=by
 unfold aT jm;split;split;exact⟨_,rfl⟩;exact⟨_,rfl⟩;exact⟨_,rfl⟩
theorem Uh(m:Mc)(J H:List Jk)(c:Nat)(ho:c<256)(k:m.main.length≤1000)(h2:m.alt.length≤1000)(o:∀x,x∈m.main→x.length≤1000000)(hy:∀x,x∈m.alt→x.length≤1000000):dB prog 3 B7 235 (.a ⟨m,J,H⟩) [.ptr 0 0 0 1,.d (.int .u8 (c:Int))]
  (fun v g=>v=.d (.bool (jC c m).isSome)∧O0 ((jC c m).getD m) g):=by
 refine ap func235 (by kernel_rfl) rfl ntmps235 (rs:=[.tmp 4]) rfl (dN rfl) (by decide) ?_;obtain⟨b,alt,e⟩:=m;simp only at k h2 o hy;rw[mcA,cq];simp only[bA,id];simp[go_sem];by_cases U:c=97
 ·subst U;rw[show jC 97 ⟨b,alt,e⟩=some ⟨b,alt,e⟩from rfl];simp[go_sem];exact oN (J:=J) (H:=H) (bf rfl rfl rfl)
 have ad:¬(c:Int)=97:=aq;simp[go_sem,ad];by_cases F:c=107
 ·subst F;simp[go_sem];refine eU (Pp:=[]) (s:=⟨⟨b,alt,e⟩,J,H⟩) (As ⟨b,alt,e⟩ J H (by simp;omega)) aq aw (by simp[AV.R]) ?_;rintro v g ρ ⟨rfl,f,rfl⟩ l;rw[show jC 107 ⟨b,alt,e⟩=some (nW ⟨b,alt,e⟩)from rfl];have hT:List.take alt.length (dy alt H)=alt.map qh:=pj (cL _) |>.trans (by rw[List.take_length]);have q:(dy alt H).length=alt.length+H.length:=ki _ _;by_cases h:(aT 1 ⟨b,alt,e⟩).e=0
  ·have hp:dY ⟨b,alt,e⟩=(b.getLastD [],⟨b.dropLast,alt,e⟩):=if_pos h;have hq:nW ⟨b,alt,e⟩=⟨b.dropLast,alt++[b.getLastD []],e⟩:=(by simp[nW,hp]);rw[hq,hp];generalize b.getLastD []=x at *;generalize b.dropLast=l2 at *;simp only[cq,bA,id];rcases H with _|⟨j,H⟩
   ·simp[go_sem,AV.r,h,fy,IE,hT,q,ah];refine⟨aq,?_⟩;exact⟨fun hh=>absurd hh aq,oN (m:=⟨l2,alt++[x],e⟩) (J:=f) (H:=[]) (bf (by simp[lk]) rfl (congrArg (fun r=>some (⟨31,1,r⟩:Blk)) (I5 x)))⟩
   ·simp[go_sem,AV.r,h,fy,IE,hT,q,ah];exact⟨aq,oN (m:=⟨l2,alt++[x],e⟩) (J:=f) (H:=H) (bf (by simp[lk];omega) rfl (congrArg (fun r=>some (⟨31,1,r⟩:Blk)) (I4 x)))⟩
  ·obtain⟨e',he⟩:=EU 1 b alt e;have hp:dY ⟨b,alt,e⟩=([],⟨b,alt,e'⟩):=by rw[←he];exact if_neg h
   have hq:nW ⟨b,alt,e⟩=⟨b,alt++[[]],e'⟩:=(by simp[nW,hp]);rw[hq,hp];rw[he]at h⊢;simp only[cq,bA,id];rcases H with _|⟨j,H⟩
   ·simp[go_sem,AV.r,h,fy,IE,hT,q,ah];exact⟨aq,fun hh=>absurd hh aq,abD (m:=⟨b,alt++[[]],e'⟩) (J:=b.map Jk.i++f) (H:=alt.map Jk.i++[.n]) h rfl aw aw (congrArg (fun r=>some (⟨31,1,r⟩:Blk)) (Jd b f)) (congrArg (fun r=>some (⟨31,1,r⟩:Blk)) (O4 alt))⟩
   ·simp[go_sem,AV.r,h,fy,IE,hT,q,ah];exact⟨aq,abD (m:=⟨b,alt++[[]],e'⟩) (J:=b.map Jk.i++f) (H:=alt.map Jk.i++.n::H) h rfl aw aw (congrArg (fun r=>some (⟨31,1,r⟩:Blk)) (Jd b f)) (congrArg (fun r=>some (⟨31,1,r⟩:Blk)) (O5 alt j H))⟩
 have S:¬(c:Int)=107:=aq;simp[go_sem,S];by_cases A:c=108
 ·subst A;simp[go_sem];refine eU (Pp:=[]) (s:=⟨⟨b,alt,e⟩,J,H⟩) (Ys ⟨b,alt,e⟩ J H k h2 hy) aq aw (by simp[AV.R]) ?_;rintro v g ρ ⟨f,H',rfl⟩ l;rw[show jC 108 ⟨b,alt,e⟩=some (qT ⟨b,alt,e⟩)from rfl];simp only[cq,bA,id];simp[go_sem,ah];exact oN (J:=f) (H:=H') (bf rfl rfl rfl)
 have N:¬(c:Int)=108:=aq;simp[go_sem,N];by_cases D:c=109
 ·subst D;simp[go_sem];refine db [] [] (args':=[.ptr 0 0 0 1,.d (.int .i64 2),.d (.ro 1 (kL []))]) bT id (iw ⟨b,alt,e⟩ J H 2 [] (by decide) (by decide) (by decide) k o) (a8 3) (fun j p=>by show j<356;omega) (by simp[cq,bA,aC,lk]) rfl s5 aw rfl ?_;rintro v g ρ ⟨f,rfl⟩ l;rw[show jC 109 ⟨b,alt,e⟩=some (c7 2 [] ⟨b,alt,e⟩)from rfl];simp only[cq,bA,id];simp[go_sem,ah];exact oN (J:=f) (H:=H) (bf rfl rfl rfl)
 have Y:¬(c:Int)=109:=aq;simp[go_sem,Y];by_cases K:c=110
 ·subst K;simp[go_sem];refine db [420] [] (args':=[.ptr 0 0 0 1,.d (.int .i64 2),.d (.ro 1 (kL [0,1,0,1]))]) bT id (iw ⟨b,alt,e⟩ J H 2 [0,1,0,1] (by decide) (by decide) (by decide) k o) (a8 3) (fun j p=>by show j<452;omega) (by simp[cq,bA,aC,lk]) rfl (jJ (put:=[0,1,0,1]) rfl rfl) aw rfl ?_;rintro v g ρ ⟨f,rfl⟩ l;rw[show jC 110 ⟨b,alt,e⟩=some (c7 2 [0,1,0,1] ⟨b,alt,e⟩)from rfl];simp only[cq,bA,id];simp[go_sem,ah];exact oN (J:=f) (H:=H) (bf rfl rfl rfl)
 have O:¬(c:Int)=110:=aq;simp[go_sem,O];by_cases L:c=111
 ·subst L;simp[go_sem];refine db [484] [] (args':=[.ptr 0 0 0 1,.d (.int .i64 3),.d (.ro 1 (kL [0,1,2,0,1,2]))]) bT id (iw ⟨b,alt,e⟩ J H 3 [0,1,2,0,1,2] (by decide) (by decide) (by decide) k o) (a8 3) (fun j p=>by show j<516;omega) (by simp[cq,bA,aC,lk]) rfl (jJ (put:=[0,1,2,0,1,2]) rfl rfl) aw rfl ?_;rintro v g ρ ⟨f,rfl⟩ l;rw[show jC 111 ⟨b,alt,e⟩=some (c7 3 [0,1,2,0,1,2] ⟨b,alt,e⟩)from rfl];simp only[cq,bA,id];simp[go_sem,ah];exact oN (J:=f) (H:=H) (bf rfl rfl rfl)
 have aa:¬(c:Int)=111:=aq;simp[go_sem,aa];by_cases B:c=112
 ·subst B;simp[go_sem];refine db [548] [] (args':=[.ptr 0 0 0 1,.d (.int .i64 4),.d (.ro 1 (kL [0,1,2,3,0,1]))]) bT id (iw ⟨b,alt,e⟩ J H 4 [0,1,2,3,0,1] (by decide) (by decide) (by decide) k o) (a8 3) (fun j p=>by show j<580;omega) (by simp[cq,bA,aC,lk]) rfl (jJ (put:=[0,1,2,3,0,1]) rfl rfl) aw rfl ?_;rintro v g ρ ⟨f,rfl⟩ l;rw[show jC 112 ⟨b,alt,e⟩=some (c7 4 [0,1,2,3,0,1] ⟨b,alt,e⟩)from rfl];simp only[cq,bA,id];simp[go_sem,ah];exact oN (J:=f) (H:=H) (bf rfl rfl rfl)
 have V:¬(c:Int)=112:=aq;simp[go_sem,V];by_cases G:c=113
 ·subst G;simp[go_sem];refine db [612] [] (args':=[.ptr 0 0 0 1,.d (.int .i64 6),.d (.ro 1 (kL [2,3,4,5,0,1]))]) bT id (iw ⟨b,alt,e⟩ J H 6 [2,3,4,5,0,1] (by decide) (by decide) (by decide) k o) (a8 3) (fun j p=>by show j<644;omega) (by simp[cq,bA,aC,lk]) rfl (jJ (put:=[2,3,4,5,0,1]) rfl rfl) aw rfl ?_;rintro v g ρ ⟨f,rfl⟩ l;rw[show jC 113 ⟨b,alt,e⟩=some (c7 6 [2,3,4,5,0,1] ⟨b,alt,e⟩)from rfl];simp only[cq,bA,id];simp[go_sem,ah];exact oN (J:=f) (H:=H) (bf rfl rfl rfl)
 have ab:¬(c:Int)=113:=aq;simp[go_sem,ab];by_cases I:c=114
 ·subst I;simp[go_sem];refine db [676] [] (args':=[.ptr 0 0 0 1,.d (.int .i64 4),.d (.ro 1 (kL [2,3,0,1]))]) bT id (iw ⟨b,alt,e⟩ J H 4 [2,3,0,1] (by decide) (by decide) (by decide) k o) (a8 3) (fun j p=>by show j<708;omega) (by simp[cq,bA,aC,lk]) rfl (jJ (put:=[2,3,0,1]) rfl rfl) aw rfl ?_;rintro v g ρ ⟨f,rfl⟩ l;rw[show jC 114 ⟨b,alt,e⟩=some (c7 4 [2,3,0,1] ⟨b,alt,e⟩)from rfl];simp only[cq,bA,id];simp[go_sem,ah];exact oN (J:=f) (H:=H) (bf rfl rfl rfl)
 have ac:¬(c:Int)=114:=aq;simp[go_sem,ac];by_cases C:c=117
 ·subst C;simp[go_sem];refine db [] [] (args':=[.ptr 0 0 0 1,.d (.int .i64 1),.d (.ro 1 (kL []))]) bT id (iw ⟨b,alt,e⟩ J H 1 [] (by decide) (by decide) (by decide) k o) (a8 3) (fun j p=>by show j<740;omega) (by simp[cq,bA,aC,lk]) rfl s5 aw rfl ?_;rintro v g ρ ⟨f,rfl⟩ l;rw[show jC 117 ⟨b,alt,e⟩=some (c7 1 [] ⟨b,alt,e⟩)from rfl];simp only[cq,bA,id];simp[go_sem,ah];exact oN (J:=f) (H:=H) (bf rfl rfl rfl)
 have M:¬(c:Int)=117:=aq;simp[go_sem,M];by_cases y:c=118
 ·subst y;simp[go_sem];refine db [804] [] (args':=[.ptr 0 0 0 1,.d (.int .i64 1),.d (.ro 1 (kL [0,0]))]) bT id (iw ⟨b,alt,e⟩ J H 1 [0,0] (by decide) (by decide) (by decide) k o) (a8 3) (fun j p=>by show j<836;omega) (by simp[cq,bA,aC,lk]) rfl (jJ (put:=[0,0]) rfl rfl) aw rfl ?_;rintro v g ρ ⟨f,rfl⟩ l;rw[show jC 118 ⟨b,alt,e⟩=some (c7 1 [0,0] ⟨b,alt,e⟩)from rfl];simp only[cq,bA,id];simp[go_sem,ah];exact oN (J:=f) (H:=H) (bf rfl rfl rfl)
 have W:¬(c:Int)=118:=aq;simp[go_sem,W];by_cases z:c=119
 ·subst z;simp[go_sem];refine db [868] [] (args':=[.ptr 0 0 0 1,.d (.int .i64 2),.d (.ro 1 (kL [1]))]) bT id (iw ⟨b,alt,e⟩ J H 2 [1] (by decide) (by decide) (by decide) k o) (a8 3) (fun j p=>by show j<900;omega) (by simp[cq,bA,aC,lk]) rfl (jJ (put:=[1]) rfl rfl) aw rfl ?_;rintro v g ρ ⟨f,rfl⟩ l;rw[show jC 119 ⟨b,alt,e⟩=some (c7 2 [1] ⟨b,alt,e⟩)from rfl];simp only[cq,bA,id];simp[go_sem,ah];exact oN (J:=f) (H:=H) (bf rfl rfl rfl)
 have Q:¬(c:Int)=119:=aq;simp[go_sem,Q];by_cases t:c=120
 ·subst t;simp[go_sem];refine db [932] [] (args':=[.ptr 0 0 0 1,.d (.int .i64 2),.d (.ro 1 (kL [0,1,0]))]) bT id (iw ⟨b,alt,e⟩ J H 2 [0,1,0] (by decide) (by decide) (by decide) k o) (a8 3) (fun j p=>by show j<964;omega) (by simp[cq,bA,aC,lk]) rfl (jJ (put:=[0,1,0]) rfl rfl) aw rfl ?_;rintro v g ρ ⟨f,rfl⟩ l;rw[show jC 120 ⟨b,alt,e⟩=some (c7 2 [0,1,0] ⟨b,alt,e⟩)from rfl];simp only[cq,bA,id];simp[go_sem,ah];exact oN (J:=f) (H:=H) (bf rfl rfl rfl)
 have R:¬(c:Int)=120:=aq;simp[go_sem,R];by_cases w:c=123
 ·subst w;simp[go_sem];refine db [996] [] (args':=[.ptr 0 0 0 1,.d (.int .i64 3),.d (.ro 1 (kL [1,2,0]))]) bT id (iw ⟨b,alt,e⟩ J H 3 [1,2,0] (by decide) (by decide) (by decide) k o) (a8 3) (fun j p=>by show j<1028;omega) (by simp[cq,bA,aC,lk]) rfl (jJ (put:=[1,2,0]) rfl rfl) aw rfl ?_;rintro v g ρ ⟨f,rfl⟩ l;rw[show jC 123 ⟨b,alt,e⟩=some (c7 3 [1,2,0] ⟨b,alt,e⟩)from rfl];simp only[cq,bA,id];simp[go_sem,ah];exact oN (J:=f) (H:=H) (bf rfl rfl rfl)
 have T:¬(c:Int)=123:=aq;simp[go_sem,T];by_cases u:c=124
 ·subst u;simp[go_sem];refine db [1060] [] (args':=[.ptr 0 0 0 1,.d (.int .i64 2),.d (.ro 1 (kL [1,0]))]) bT id (iw ⟨b,alt,e⟩ J H 2 [1,0] (by decide) (by decide) (by decide) k o) (a8 3) (fun j p=>by show j<1092;omega) (by simp[cq,bA,aC,lk]) rfl (jJ (put:=[1,0]) rfl rfl) aw rfl ?_;rintro v g ρ ⟨f,rfl⟩ l;rw[show jC 124 ⟨b,alt,e⟩=some (c7 2 [1,0] ⟨b,alt,e⟩)from rfl];simp only[cq,bA,id];simp[go_sem,ah];exact oN (J:=f) (H:=H) (bf rfl rfl rfl)
 have X:¬(c:Int)=124:=aq;simp[go_sem,X];by_cases E:c=125
 ·subst E;simp[go_sem];refine db [1124] [] (args':=[.ptr 0 0 0 1,.d (.int .i64 2),.d (.ro 1 (kL [1,0,1]))]) bT id (iw ⟨b,alt,e⟩ J H 2 [1,0,1] (by decide) (by decide) (by decide) k o) (a8 3) (fun j p=>by show j<1156;omega) (by simp[cq,bA,aC,lk]) rfl (jJ (put:=[1,0,1]) rfl rfl) aw rfl ?_;rintro v g ρ ⟨f,rfl⟩ l;rw[show jC 125 ⟨b,alt,e⟩=some (c7 2 [1,0,1] ⟨b,alt,e⟩)from rfl];simp only[cq,bA,id];simp[go_sem,ah];exact oN (J:=f) (H:=H) (bf rfl rfl rfl)
 have Z:¬(c:Int)=125:=aq;have hn:jC c ⟨b,alt,e⟩=none:=by simp[jC,U,F,A,D,K,L,B,G,I,C,y,z,t,w,u,E]
 rw[hn];simp[go_sem,Z];exact oN (J:=J) (H:=H) (bf rfl rfl rfl)
theorem B8(m:Mc)(J H:List Jk)(b:Bool):dB prog 3 bA 247 ⟨m,J,H⟩ [.ptr 0 0 0 1,.d (.bool b)] (fun v a=>a=⟨kT b m,J,H⟩):=by
 refine ap func247 (by kernel_rfl) rfl ntmps247 (rs:=[]) rfl (dN rfl) (by decide) ?_;rw[cq];simp only[bA,id];cases b with
 |true =>
  simp[go_sem];exact bf rfl rfl rfl
 |false =>
  simp[go_sem];refine eU (Pp:=[]) (s:=⟨m,J,H⟩) (rF m J H 16) aq aw (by simp[AV.R,AV.r]) ?_;rintro v a ρ rfl e;have c:kT false m=jm 16 m:=rfl;rw[c];generalize jm 16 m=m';simp only[cq,bA,id];simp[go_sem];exact bf rfl rfl rfl
theorem Je{m:Mc}(h:2≤m.main.length):m.main[m.main.length-1-1]?=some (EH m):=by
 unfold EH;rw[cR,show m.main.length-2=m.main.length-1-1 by omega];rw[cm aq];rfl
theorem wI{m:Mc}(h:1≤m.main.length):m.main[m.main.length-1]?=some (rD m):=I7 h
theorem O6(m:Mc)(J H:List Jk)(p:m.main.length≤1000)(q:∀x,x∈m.main→x.length≤1000000)(o:∀x,x∈m.main→bytes x):dB prog 3 bA 251 ⟨m,J,H⟩ [.ptr 0 0 0 1]
  (fun v b=>v=.d (.bool (iJ m).1)∧∃i,b=⟨(iJ m).2,i,H⟩):=by
 refine ap func251 (by kernel_rfl) rfl ntmps251 (rs:=[.tmp 2]) rfl (dN rfl) (by decide) ?_;obtain⟨a,alt,e⟩:=m;simp only at p q o;rw[cq];simp only[bA,id];simp[go_sem];refine eU (Pp:=[]) (s:=⟨⟨a,alt,e⟩,J,H⟩) (mC ⟨a,alt,e⟩ J H 2) aq aw (by simp[AV.R,AV.r]) ?_;rintro v b ρ ⟨rfl,rfl⟩ k;by_cases h:(aT 2 ⟨a,alt,e⟩).e=0
 ·obtain⟨u,r,t⟩:=jE h;simp only at u r;subst r;have g:iJ ⟨a,alt,0⟩=(decide (rD ⟨a,alt,0⟩=EH ⟨a,alt,0⟩),c7 2 [] ⟨a,alt,0⟩):=if_pos h;rw[t,g];have n:=wI (m:=⟨a,alt,0⟩) (by show 1≤a.length;omega);have l:=Je (m:=⟨a,alt,0⟩) (by show 2≤a.length;omega);have c:=cr n;have f:=cr l;simp only at n l c f;generalize rD ⟨a,alt,0⟩=x0 at *;generalize EH ⟨a,alt,0⟩=x1 at *;simp only[cq,bA,id];simp[go_sem,AV.r];refine eU (Pp:=[]) (s:=⟨⟨a,alt,0⟩,J,H⟩) (rG ⟨a,alt,0⟩ J H x0 n (by show 1≤a.length;omega) (by show a.length≤1000000;omega)) aq aw (by simp[AV.R,AV.r]) ?_;rintro v b ρ ⟨rfl,rfl⟩ k;simp only[cq,bA,id];simp[go_sem,AV.r,nb];refine eU (Pp:=[]) (s:=⟨⟨a,alt,0⟩,J,H⟩) (OL ⟨a,alt,0⟩ J H 1 x1 l (by show 1<a.length;omega) (by show a.length≤1000000;omega)) aq aw (by simp[AV.R,AV.r]) ?_;rintro v b ρ ⟨rfl,rfl⟩ k;simp only[cq,bA,id];simp[go_sem,AV.r,nb];refine ag (jG x0 x1 (o x0 c) (o x1 f)) a9 ?_;simp[go_sem];refine db [] [] (args':=[.ptr 0 0 0 1,.d (.int .i64 2),.d (.ro 1 (kL []))]) bT id (iw ⟨a,alt,0⟩ J H 2 [] (by decide) (by decide) (by decide) p q) (a8 3) (fun j w=>by show j<356;omega) (by simp[cq,bA,aC,lk]) rfl s5 aw rfl ?_;rintro v b ρ ⟨i,rfl⟩ k;generalize c7 2 [] ⟨a,alt,0⟩=m';simp only[cq,bA,id];simp[go_sem,ah];exact⟨_,⟨i,rfl⟩,bf rfl rfl rfl⟩
 ·have g:iJ ⟨a,alt,e⟩=(false,aT 2 ⟨a,alt,e⟩):=if_neg h;rw[g];generalize aT 2 ⟨a,alt,e⟩=m' at *;simp only[cq,bA,id];simp[go_sem,AV.r,h,ah];exact⟨_,⟨J,rfl⟩,bf rfl rfl rfl⟩
theorem Hj(b:List Nat)(f:b.length≤100000000000):cZ prog 52 0 [] [.d (nb b)] (fun r a=>(b=[]∧r=.nil)∨∃I,r=.own I 0 b.length b.length∧lk I a=some ⟨5,1,rb b⟩):=by
 refine ap func52 (by kernel_rfl) rfl ntmps52 (rs:=[.tmp 2]) rfl (dN rfl) (by decide) ?_;simp only[go_sem,nb,Nat.reduceEqDiff,Nat.reduceAdd,Nat.reduceLT,↓reduceIte];intro t c
 cases t with
 |true =>
  have e:b=[]:=List.eq_nil_of_length_eq_zero (by simpa using c rfl);subst e;simp only[go_sem,Nat.reduceAdd,Nat.reduceLT,↓reduceIte];exact .inl (by trivial)
 |false =>
  simp[go_sem,dx,aJ];omega
theorem EV{p:AV}{q B n:Nat}{ty:TypeId}{L:bm}{hp:Hp}(e:lk B hp=some ⟨ty,1,[[.own q 0 n n]]⟩)(hq:lk q hp=some ⟨5,1,rb L⟩)(f:L.length=n) :
  ∀(i:Nat)(v c:AV),[p,.own B 0 1 1][i]?=some v→[p,.d (.ro 1 [[nb L]])][i]?=some c→c=v∨Snap hp (fun id=>id∈[B,q]) v c:=by
 intro i v c a b
 match i with
 |0=>simp at a b;subst a;subst b;exact .inl rfl
 |1 =>
  simp at a b;subst a;subst b;exact .inr (.one (am (kJ e aw rfl (.cons (.cons (bq f hq aw) .nil) .nil) rfl aw)))
 |i+2=>simp at a
theorem Yt(m:Mc)(J H:List Jk)(y:m.main.length≤1000)(o:∀x,x∈m.main→x.length≤100000):dB prog 3 bA 250 ⟨m,J,H⟩ [.ptr 0 0 0 1]
  (fun v b=>∃i,b=⟨qU m,i,H⟩):=by
 refine ap func250 (by kernel_rfl) rfl ntmps250 (rs:=[]) rfl (dN rfl) (by decide) ?_;obtain⟨a,alt,e⟩:=m;simp only at y o;rw[cq];simp only[bA,id];simp[go_sem];refine eU (Pp:=[]) (s:=⟨⟨a,alt,e⟩,J,H⟩) (mC ⟨a,alt,e⟩ J H 2) aq aw (by simp[AV.R,AV.r]) ?_;rintro v b ρ ⟨rfl,rfl⟩ c;by_cases h:(aT 2 ⟨a,alt,e⟩).e=0
 ·obtain⟨M,B,D⟩:=jE h;simp only at M B;subst B;have w:qU ⟨a,alt,0⟩=fj [EH ⟨a,alt,0⟩++rD ⟨a,alt,0⟩] (c7 2 [] ⟨a,alt,0⟩):=if_pos h;rw[D,w];have u:=wI (m:=⟨a,alt,0⟩) (by show 1≤a.length;omega);have z:=Je (m:=⟨a,alt,0⟩) (by show 2≤a.length;omega);have k:=cr u;have n:=cr z;simp only at u z k n;generalize rD ⟨a,alt,0⟩=x0 at *;generalize EH ⟨a,alt,0⟩=x1 at *;simp only[cq,bA,id];simp[go_sem,AV.r];refine eU (Pp:=[]) (s:=⟨⟨a,alt,0⟩,J,H⟩) (OL ⟨a,alt,0⟩ J H 1 x1 z (by show 1<a.length;omega) (by show a.length≤1000000;omega)) aq aw (by simp[AV.R,AV.r]) ?_;rintro v b ρ ⟨rfl,rfl⟩ c;simp only[cq,bA,id];simp[go_sem,AV.r];have G:=o x0 k;have C:=o x1 n;refine aS [] (Hj x1 aq) rfl aw aw aw (by simp[AV.R,AV.r]) ?_;rintro r F E;rcases E with ⟨rfl,rfl⟩|⟨I,rfl,K⟩
  ·refine⟨[],by simp[de,gB],?_⟩;simp[go_sem,cj,bK,AV.r];refine eU (Pp:=[]) (s:=⟨⟨a,alt,0⟩,J,H⟩) (rG ⟨a,alt,0⟩ J H x0 u (by show 1≤a.length;omega) (by show a.length≤1000000;omega)) aq aw (by simp[AV.R,AV.r]) ?_;rintro v b ρ ⟨rfl,rfl⟩ c;simp only[cq,bA,id];simp[go_sem,AV.r,nb,dx,aJ];refine⟨aq,?_⟩;have f:c7 2 [] ⟨a,alt,0⟩=⟨a.take (a.length-2),alt,0⟩:=(by simp[c7,h])
   have A:(a.take (a.length-2)).length≤1000:=by simp;omega
   refine db [] [(260,⟨5,1,rb x0⟩)] (args':=[.ptr 0 0 0 1,.d (.int .i64 2),.d (.ro 1 (kL []))]) bT id (iw ⟨a,alt,0⟩ J H 2 [] (by decide) (by decide) (by decide) y (fun x h=>Nat.le_trans (o x h) (by decide))) (a8 3) (fun j g=>by show j<356;omega) (by simp[cq,bA,aC,lk]) rfl s5
    (fun p t=>by simp at t;subst t;exact⟨by show 260<356;omega,fun j g=>by show j≠260;omega⟩) rfl ?_
   rintro v b ρ ⟨i,rfl⟩ c;rw[f];generalize a.take (a.length-2)=l at *;simp only[cq,bA,id];simp[go_sem]
   refine db [452,260] [] (args':=[.ptr 0 0 0 1,.d (.ro 1 [[nb (x0)]])]) bT id (iq ⟨l,alt,0⟩ i H (x0) (by show l.length≤1000000;omega) (by first|omega|(simp;omega))) (a8 3) (fun j g=>by show j<484;omega) (by simp[cq,bA,aC,lk]) rfl
    (EV (L:=x0) rfl rfl aw) aw rfl ?_
   rintro v b ρ ⟨q,rfl⟩ c;simp only[cq,bA,fj,id];simp[go_sem];exact⟨⟨⟨l++[x0],alt,0⟩,q,H⟩,⟨q,rfl⟩,bf (by simp[lk]) rfl rfl⟩
  ·refine⟨[(I,0)],by simp[de,gB],?_⟩;simp[go_sem,cj,bK,K,Blk.r,aQ,dE,AV.r,cn];refine eU (Pp:=[(164,⟨5,1,rb x1⟩)]) (s:=⟨⟨a,alt,0⟩,J,H⟩) (rG ⟨a,alt,0⟩ J H x0 u (by show 1≤a.length;omega) (by show a.length≤1000000;omega)) aq aw (by simp[AV.R,AV.r]) ?_;rintro v b ρ ⟨rfl,rfl⟩ c;simp only[cq,bA,id];have N:List.take x1.length (rb x1)=rb x1:=cx (by rw[aJ];exact cL _);simp[go_sem,AV.r,nb,zP,apF,dx,aJ];refine⟨aq,?_⟩;have f:c7 2 [] ⟨a,alt,0⟩=⟨a.take (a.length-2),alt,0⟩:=(by simp[c7,h])
   have A:(a.take (a.length-2)).length≤1000:=by simp;omega
   refine db [] [(164,⟨5,1,rb x1++rb x0⟩)] (args':=[.ptr 0 0 0 1,.d (.int .i64 2),.d (.ro 1 (kL []))]) bT id (iw ⟨a,alt,0⟩ J H 2 [] (by decide) (by decide) (by decide) y (fun x h=>Nat.le_trans (o x h) (by decide))) (a8 3) (fun j g=>by show j<356;omega) (by simp[cq,bA,aC,lk]) rfl s5
    (fun p t=>by simp at t;subst t;exact⟨by show 164<356;omega,fun j g=>by show j≠164;omega⟩) rfl ?_
   rintro v b ρ ⟨i,rfl⟩ c;rw[f];generalize a.take (a.length-2)=l at *;simp only[cq,bA,id];simp[go_sem]
   refine db [452,164] [] (args':=[.ptr 0 0 0 1,.d (.ro 1 [[nb (x1++x0)]])]) bT id (iq ⟨l,alt,0⟩ i H (x1++x0) (by show l.length≤1000000;omega) (by first|omega|(simp;omega))) (a8 3) (fun j g=>by show j<484;omega) (by simp[cq,bA,aC,lk]) rfl
    (EV (L:=x1++x0) rfl (by simp[lk,rb]) aw) aw rfl ?_
   rintro v b ρ ⟨q,rfl⟩ c;simp only[cq,bA,fj,id];simp[go_sem];exact⟨⟨⟨l++[x1++x0],alt,0⟩,q,H⟩,⟨q,rfl⟩,bf (by simp[lk]) rfl rfl⟩
 ·have w:qU ⟨a,alt,e⟩=aT 2 ⟨a,alt,e⟩:=if_neg h;rw[w];generalize aT 2 ⟨a,alt,e⟩=m' at *;simp only[cq,bA,id];simp[go_sem,AV.r,h];exact⟨_,⟨J,rfl⟩,bf rfl rfl rfl⟩
theorem O7{p:AV}{q B:Nat}{ty e:TypeId}{L:bm}{hp:Hp}(f:lk B hp=some ⟨ty,1,[[.sub q 0 0 1 32 32 1]]⟩)(hq:lk q hp=some ⟨e,32,[cb L]⟩)(g:L.length=32) :
  ∀(i:Nat)(v c:AV),[p,.own B 0 1 1][i]?=some v→[p,.d (.ro 1 [[nb L]])][i]?=some c→c=v∨Snap hp (fun id=>id∈[B,q]) v c:=by
 intro i v c a b
 match i with
 |0=>simp at a b;subst a;subst b;exact .inl rfl
 |1 =>
  simp at a b;subst a;subst b;exact .inr (.one (am (kJ f aw rfl (.cons (.cons (fh hq aw g) .nil) .nil) rfl aw)))
 |i+2=>simp at a
theorem B9{m:Mc}(h:(aT 1 m).e=0):∃l x,m.main=l++[x]∧dY m=(x,⟨l,m.alt,m.e⟩)∧m.e=0:=by
 obtain⟨d,c,f⟩:=jE h;obtain⟨a,alt,e⟩:=m;simp only at d c;rcases a.eq_nil_or_concat with rfl|⟨l,x,b⟩;simp at d;rw[List.concat_eq_append]at b;subst b;exact⟨l,x,rfl,by simp[dY,h],c⟩
theorem O8(g:FuncId)(f:bm→bm)(C:∀x:bm,x.length≤1000000→ar prog g [.d (nb x)] (fun r=>r=.agg (cb (f x))))(B:∀x,(f x).length=32)
  (m:Mc) (J H:List Jk) (n:m.main.length≤1000) (u:∀x,x∈m.main→x.length≤1000000):dB prog 3 bA 252 ⟨m,J,H⟩ [.ptr 0 0 0 1,.fn g []]
  (fun v c=>∃k,c=⟨mz f m,k,H⟩):=by
 refine ap func252 (by kernel_rfl) rfl ntmps252 (rs:=[]) rfl (dN rfl) (by decide) ?_;obtain⟨a,alt,e⟩:=m;simp only at n u;rw[cq];simp only[bA,id];simp[go_sem];refine eU (Pp:=[]) (s:=⟨⟨a,alt,e⟩,J,H⟩) (mC ⟨a,alt,e⟩ J H 1) aq aw (by simp[AV.R,AV.r]) ?_;rintro v c ρ ⟨rfl,rfl⟩ t;by_cases h:(aT 1 ⟨a,alt,e⟩).e=0
 ·obtain⟨l,x,o,q,z⟩:=B9 h;obtain⟨_,_,A⟩:=jE h;simp only at o z q;subst z;have i:mz f ⟨a,alt,0⟩=⟨l++[f x],alt,0⟩:=by simp[mz,h,q,fj]
  rw[A,i];simp only[cq,bA,id];simp[go_sem,AV.r];refine eU (Pp:=[]) (s:=⟨⟨a,alt,0⟩,J,H⟩) (As ⟨a,alt,0⟩ J H (by show a.length≤1000000;omega)) aq aw (by simp[AV.R]) ?_;rintro v c ρ ⟨rfl,k,rfl⟩ t;rw[q,if_pos h];simp only[cq,bA,id];simp[go_sem,AV.r];refine ag (C x (u x (by rw[o];simp))) a9 ?_;have b:=B x;generalize f x=y at *
  have p:cb y++List.drop y.length (cb z32)=cb y:=by
   rw[c_ (by rw[aj,b];exact cL 32),List.append_nil]
  have D:l.length≤1000:=by rw[o]at n;simp at n;omega
  simp[go_sem];rw[p];refine⟨b,aq,?_⟩
  refine db [356,228] [] (args':=[.ptr 0 0 0 1,.d (.ro 1 [[nb y]])]) bT id (iq ⟨l,alt,0⟩ k H y (by show l.length≤1000000;omega) aq) (a8 3) (fun j E=>by show j<388;omega) (by simp[cq,bA,aC,lk]) rfl
   (O7 rfl rfl b) aw rfl ?_
  rintro v c ρ ⟨w,rfl⟩ t;simp only[cq,bA,fj,id];simp[go_sem];exact⟨⟨⟨l++[y],alt,0⟩,w,H⟩,⟨w,rfl⟩,bf (by simp[lk]) rfl rfl⟩
 ·have i:mz f ⟨a,alt,e⟩=aT 1 ⟨a,alt,e⟩:=if_neg h;rw[i];generalize aT 1 ⟨a,alt,e⟩=m' at *;simp only[cq,bA,id];simp[go_sem,AV.r,h];exact⟨_,⟨J,rfl⟩,bf rfl rfl rfl⟩
theorem O9 (f:Bool) (m:Mc) (J H:List Jk) (S:m.main.length≤1000) (V:∀ x,x ∈ m.main→x.length≤1000000) (hb:∀ x,x ∈ m.main→bytes x):dB prog 3 bA 246 ⟨m,J,H⟩ [.ptr 0 0 0 1,.d (.bool f)]
    (fun v q=>∃c,q=⟨kS f m,c,H⟩):=by
  refine ap func246 (by kernel_rfl) rfl ntmps246 (rs:=[]) rfl (dN rfl) (by decide) ?_;obtain⟨b,alt,e⟩:=m;simp only at S V hb;rw[cq];simp only[bA,id];simp[go_sem];refine eU (Pp:=[]) (s:=⟨⟨b,alt,e⟩,J,H⟩) (As ⟨b,alt,e⟩ J H (by show b.length≤1000000;omega)) aq aw (by simp[AV.R]) ?_;rintro v q ρ ⟨rfl,c,rfl⟩ A;by_cases h:(aT 1 ⟨b,alt,e⟩).e=0
  · obtain ⟨l,x,O,Y,h2⟩:=B9 h
    simp only at O h2 Y;subst h2;have E:x∈b:=by rw[O];simp
    have ae:l.length≤1000:=by rw[O]at S;simp at S;omega
    have g:kS f ⟨b,alt,0⟩=(let r:=gP 4 x ⟨l,alt,0⟩
      if r.2.e=0 then
        (if r.1<0∨(r.2.main.length:Int)≤r.1 then jm 12 r.2
        else
          let a:=r.2.main.length-1-r.1.toNat
          fj [r.2.main.getD a []] ⟨if f then r.2.main.eraseIdx a else r.2.main,r.2.alt,r.2.e⟩)
      else r.2):=by unfold kS;rw[Y]
    rw[Y,if_pos h];simp only[cq,bA,id];simp[go_sem,AV.r];refine eU (Pp:=[]) (s:=⟨⟨l,alt,0⟩,c,H⟩) (OV ⟨l,alt,0⟩ c H 4 x (hb x E) (by decide) (V x E)) aq aw (by simp[AV.R,AV.r,nb]) ?_;rintro v q ρ ⟨rfl,rfl⟩ A;have hr:gP 4 x ⟨l,alt,0⟩=match gK 4 x with|some n=>(n,⟨l,alt,0⟩)|none=>(0,⟨l,alt,15⟩):=rfl;rw[hr]at g⊢
    cases hn:gK 4 x with
    | none =>
      rw[hn]at g;have hv:kS f ⟨b,alt,0⟩=⟨l,alt,15⟩:=by rw[g];rfl
      rw[hv];simp only[cq,bA,id];simp[go_sem,AV.r];exact⟨⟨⟨l,alt,15⟩,c,H⟩,⟨c,rfl⟩,bf rfl rfl rfl⟩
    | some n =>
      rw[hn]at g;simp only[if_true]at g;simp only[cq,bA,id];by_cases o:n<0
      · rw [if_pos (.inl o)] at g
        rw[g];simp[go_sem,AV.r,o];refine eU (Pp:=[]) (s:=⟨⟨l,alt,0⟩,c,H⟩) (rF ⟨l,alt,0⟩ c H 12) aq aw (by simp[AV.R,AV.r]) ?_;rintro v q ρ rfl A;generalize jm 12 ⟨l,alt,0⟩=m';simp only[cq,bA,id];simp[go_sem];exact⟨_,⟨c,rfl⟩,bf rfl rfl rfl⟩
      · by_cases p:(l.length:Int)≤n
        · rw [if_pos (.inr p)] at g
          rw[g];simp[go_sem,AV.r,o,p];refine eU (Pp:=[]) (s:=⟨⟨l,alt,0⟩,c,H⟩) (rF ⟨l,alt,0⟩ c H 12) aq aw (by simp[AV.R,AV.r]) ?_;rintro v q ρ rfl A;generalize jm 12 ⟨l,alt,0⟩=m';simp only[cq,bA,id];simp[go_sem];exact⟨_,⟨c,rfl⟩,bf rfl rfl rfl⟩
        · obtain ⟨k,rfl⟩:∃ k:Nat,n=k:=⟨n.toNat,aq⟩
          have aa:k<l.length:=aq;have w1:IntKind.i64.wrap ((l.length:Int)-1)=((l.length-1:Nat):Int):=by rw[IntWalk.i64_in _ aq];omega
          have w2:IntKind.i64.wrap (((l.length-1:Nat):Int)-(k:Int))=((l.length-1-k:Nat):Int):=by rw[IntWalk.i64_in _ aq];omega
          obtain⟨y,Q⟩:∃y,l[l.length-1-k]?=some y:=⟨_,cm aq⟩;have W:l.getD (l.length-1-k) []=y:=by rw[cR,Q];rfl
          have K:y.length≤1000000:=V y (by rw[O];exact List.mem_append_left _ (cr Q));have hs:=x7 (J:=c) Q;have C:l.length-1-k<l.length:=aq;have B:((l.length-1-k:Nat):Int)<(l.length:Int):=aq;have ad:∀M:l.length-1-k<(dy l c).length,(dy l c)[l.length-1-k]=[.d (nb y)]:=fun M=>Option.some.inj ((cm M).symm.trans hs);have T:¬((l.length:Int)≤(k:Int)):=p;rw[if_neg aq]at g;simp only[Int.toNat_natCast,W,fj]at g;rw[g];generalize ac:l.length-1-k=a at *;simp[go_sem,AV.r,o,T,w1,w2,hs,B,ki]
          cases f with
          | false =>
            simp[go_sem]
            refine db [1316] [] (args':=[.ptr 0 0 0 1,.d (.ro 1 [[nb y]])]) bT id (iq ⟨l,alt,0⟩ c H y (by show(l).length≤1000000;omega) K) (a8 3) (fun j hj=>by show j<1348;omega) (by simp[cq,bA,aC,lk]) rfl
              (iT rfl) aw rfl ?_
            rintro v q ρ ⟨F,rfl⟩ A;simp only[cq,bA,fj,id];simp[go_sem];exact⟨⟨⟨l++[y],alt,0⟩,F,H⟩,⟨F,rfl⟩,bf (by simp[lk]) rfl rfl⟩
          | true =>
            simp[go_sem]
            obtain⟨N,z,U⟩:∃N z,l=N++[z]:=by
              rcases l.eq_nil_or_concat with rfl|⟨N,z,e⟩
              · simp at aa
              · exact⟨N,z,by rw[e,List.concat_eq_append]⟩
            have Z:(l.eraseIdx a).length=l.length-1:=List.length_eraseIdx_of_lt C;have R:IntKind.i64.wrap ((a:Int)+1)=((a+1:Nat):Int):=ay aq;have L:((a+1:Nat):Int)≤(l.length:Int):=aq;have D:(a:Int)≤(l.length:Int):=aq;have I:a+1≤l.length:=aq;have X:(dy l c).length=l.length+c.length:=ki _ _;have t:min (l.length-(a+1)) (l.length+c.length-(a+1))=l.length-(a+1):=aq;have w:a+(l.length-(a+1))=l.length-1:=aq;have u:List.take a (dy l c)++(List.take (l.length-(a+1)) (List.drop (a+1) (dy l c))++List.drop (l.length-1) (dy l c))=dy (l.eraseIdx a) (.i z::c):=by
              have e1:List.take a (dy l c)=(l.take a).map qh:=pj aq;have e2:List.take (l.length-(a+1)) (List.drop (a+1) (dy l c))=(l.drop (a+1)).map qh:=by
                unfold dy;rw[List.drop_append_of_le_length (by simp;omega),List.take_append_of_le_length aw,←List.map_drop,cx aw]
              have e3:List.drop (l.length-1) (dy l c)=qh z::c.map Yk:=by
                subst U;unfold dy;simp
              rw[e1,e2,e3,List.eraseIdx_eq_take_drop_succ];unfold dy;simp[List.map_append,qh,Yk,avJ]
            refine dI [1,2,3,4,5,6,7,8,9,10,11,12,13] [0,14,15,16,17] [1,2,3,4,5,6,7,8,9,10,11,12,13] (.alt (bt 0 (a_ [14,15,16,17])) (a_ [14,0,15,16,17])) ⟨[(0,.ptr 0 0 0 1),(6,.d (nb y))],[(0,⟨283,3,[[.own 1 0 (l.eraseIdx a).length ((l.eraseIdx a).length+(.i z::c:List Jk).length),.own 2 0 alt.length (alt.length+H.length),.d (.int .i64 0)]]⟩),(1,⟨31,1,dy (l.eraseIdx a) (.i z::c)⟩),(2,⟨31,1,dy alt H⟩)],9000⟩ (k:=18) ?h3 ?hq
            case h3 =>
              intro G hG;simp (config := { maxSteps := 3000000 }) [go_sem,fy,IE,X,R,L,D,I,C,t,w,u]
              repeat' apply And.intro
              all_goals first
                |omega
                |(intro M;omega)
                | (intro M
                   refine hG _ _ (b8 ⟨by simp[ai,fv,lk,AV.low,AV.l],OK (m:=⟨l.eraseIdx a,alt,0⟩) ?_ rfl rfl (dN rfl) trivial,aw⟩);simp[lk,Z]
                   omega)
            case hq =>
              have ab:(l.eraseIdx a).length≤1000:=aq;clear u w t;generalize l.eraseIdx a=l2 at *;simp[go_sem]
              refine db [9064] [] (args':=[.ptr 0 0 0 1,.d (.ro 1 [[nb y]])]) bT id (iq ⟨l2,alt,0⟩ (.i z::c) H y (by show l2.length≤1000000;omega) K) (a8 3) (fun j hj=>by show j<9096;omega) (by simp[cq,bA,aC,lk]) rfl
                (iT rfl) aw rfl ?_
              rintro v q ρ ⟨F,rfl⟩ A;simp only[cq,bA,fj,id];simp[go_sem];exact⟨⟨⟨l2++[y],alt,0⟩,F,H⟩,⟨F,rfl⟩,bf (by simp[lk]) rfl rfl⟩
  · have ha:dY ⟨b,alt,e⟩=([],aT 1 ⟨b,alt,e⟩):=if_neg h
    have g:kS f ⟨b,alt,e⟩=aT 1 ⟨b,alt,e⟩:=by
      unfold kS;rw[ha];have:gP 4 [] (aT 1 ⟨b,alt,e⟩)=(0,aT 1 ⟨b,alt,e⟩):=if_neg h;simp only[this];rw[if_neg h]
    rw[g,ha,if_neg h];generalize aT 1 ⟨b,alt,e⟩=m' at *;simp only[cq,bA,id];simp[go_sem,AV.r];refine eU (Pp:=[]) (s:=⟨m',c,H⟩) (Jb m' c H 4 h) aq aw (by simp[AV.R,AV.r]) ?_;rintro v q ρ ⟨rfl,rfl⟩ A;simp only[cq,bA,id];simp[go_sem,AV.r,h];exact⟨_,⟨c,rfl⟩,bf rfl rfl rfl⟩
def fl(b:List Nat):List Nat:=bc (bc b)
theorem Pe(b:List Nat):(fl b).length=32:=aR _
theorem Ui(b:List Nat)(g:b.length≤1000000):fm prog 253 [.d (nb b)] (.agg (cb (fl b))):=by
 refine bL func253 ntmps253 (rs:=[.cell 2 29]) a9 ?_;simp[go_sem];refine ag (nf b aq) a9 ?_;have e:=aR b;unfold fl;generalize bc b=s at *;have c:(cb z32).drop 32=[]:=rfl;simp[go_sem,aj,e,c];refine bJ [96] (nf s aq) rfl (ak (.one (am (fh rfl aw e))) aF) ?_;have a:=aR s;generalize bc s=s2 at *;have f:(cb s2).take 32=cb s2:=cx (by rw[aj];omega);simp[go_sem,aC,aj,a,c,f,ah];exact aa (d6 _) rfl
theorem qm(n:Nat)(m:Mc):(aT n m).main=m.main∧(aT n m).alt=m.alt:=by
 obtain⟨a,alt,e⟩:=m;obtain⟨b,h⟩:=EU n a alt e;rw[h];exact⟨rfl,rfl⟩
theorem Pg(m:Mc)(h:m.main.length≤1000):(iJ m).2.main.length≤1000:=by
 unfold iJ;split;rename_i a;simp only[c7,if_pos a];simp;omega;rw[(qm 2 m).1];exact h
theorem Uj(m:Mc)(J H:List Jk)(c:Nat)(ho:c<256)(r:m.main.length≤1000)(X:∀x,x∈m.main→x.length≤100000)(N:∀x,x∈m.main→bytes x):dB prog 3 bA 236 ⟨m,J,H⟩ [.ptr 0 0 0 1,.d (.int .u8 (c:Int))]
  (fun v g=>v=.d (.bool (yZ bc fl c m).isSome)∧∃f,g=⟨(yZ bc fl c m).getD m,f,H⟩):=by
 refine ap func236 (by kernel_rfl) rfl ntmps236 (rs:=[.tmp 4]) rfl (dN rfl) (by decide) ?_;obtain⟨a,alt,e⟩:=m;simp only at r X N;have i:∀x,x∈a→x.length≤1000000:=fun x h=>Nat.le_trans (X x h) (by decide);rw[cq];simp only[bA,id];simp[go_sem];by_cases w:c=121
 ·subst w;simp[go_sem];refine eU (Pp:=[]) (s:=⟨⟨a,alt,e⟩,J,H⟩) (O9 false ⟨a,alt,e⟩ J H r i N) aq aw (by simp[AV.R,AV.r]) ?_;rintro v g ρ ⟨f,rfl⟩ k;rw[show yZ bc fl 121 ⟨a,alt,e⟩=some (kS false ⟨a,alt,e⟩)from rfl];generalize kS false ⟨a,alt,e⟩=m';simp only[cq,bA,id];simp[go_sem,ah];exact⟨_,⟨f,rfl⟩,bf rfl rfl rfl⟩
 have Y:¬(c:Int)=121:=aq;simp[go_sem,Y];by_cases D:c=122
 ·subst D;simp[go_sem];refine eU (Pp:=[]) (s:=⟨⟨a,alt,e⟩,J,H⟩) (O9 true ⟨a,alt,e⟩ J H r i N) aq aw (by simp[AV.R,AV.r]) ?_;rintro v g ρ ⟨f,rfl⟩ k;rw[show yZ bc fl 122 ⟨a,alt,e⟩=some (kS true ⟨a,alt,e⟩)from rfl];generalize kS true ⟨a,alt,e⟩=m';simp only[cq,bA,id];simp[go_sem,ah];exact⟨_,⟨f,rfl⟩,bf rfl rfl rfl⟩
 have aa:¬(c:Int)=122:=aq;simp[go_sem,aa];by_cases u:c=105
 ·subst u;rw[show yZ bc fl 105 ⟨a,alt,e⟩=some (kT (gu (dY ⟨a,alt,e⟩).1) (dY ⟨a,alt,e⟩).2)from rfl];simp[go_sem];refine eU (Pp:=[]) (s:=⟨⟨a,alt,e⟩,J,H⟩) (As ⟨a,alt,e⟩ J H (by show a.length≤1000000;omega)) aq aw (by simp[AV.R]) ?_;rintro v g ρ ⟨rfl,f,rfl⟩ k;by_cases h:(aT 1 ⟨a,alt,e⟩).e=0
  ·obtain⟨l,x,hm,hp,E⟩:=B9 h;simp only at hm E hp;subst E;have n:x∈a:=by rw[hm];simp
   rw[hp,if_pos h];simp only[cq,bA,id];simp[go_sem,AV.r];refine ag (pq x (N x n) (i x n)) a9 ?_;simp[go_sem];refine eU (Pp:=[]) (s:=⟨⟨l,alt,0⟩,f,H⟩) (B8 ⟨l,alt,0⟩ f H (gu x)) aq aw (by simp[AV.R,AV.r]) ?_;rintro v g ρ rfl k;generalize kT (gu x) ⟨l,alt,0⟩=m';simp only[cq,bA,id];simp[go_sem,ah];exact⟨_,⟨f,rfl⟩,bf rfl rfl rfl⟩
  ·have hp:dY ⟨a,alt,e⟩=([],aT 1 ⟨a,alt,e⟩):=if_neg h;rw[hp,if_neg h];generalize aT 1 ⟨a,alt,e⟩=o at *;simp only[cq,bA,id];simp[go_sem,AV.r];refine ju (pq [] (by intro x X;cases X) aw) rfl (ak (.one (am (.nil 1))) aF) trivial ?_;simp[go_sem];refine eU (Pp:=[]) (s:=⟨o,f,H⟩) (B8 o f H (gu [])) aq aw (by simp[AV.R,AV.r]) ?_;rintro v g ρ rfl k;generalize kT (gu []) o=m';simp only[cq,bA,id];simp[go_sem,ah];exact⟨_,⟨f,rfl⟩,bf rfl rfl rfl⟩
 have S:¬(c:Int)=105:=aq;simp[go_sem,S];by_cases L:c=115
 ·subst L;have M:yZ bc fl 115 ⟨a,alt,e⟩=some (if(aT 1 ⟨a,alt,e⟩).e=0 then(if gu (rD ⟨a,alt,e⟩)then fj [rD ⟨a,alt,e⟩] ⟨a,alt,e⟩else⟨a,alt,e⟩)else aT 1 ⟨a,alt,e⟩):=rfl;simp[go_sem];refine eU (Pp:=[]) (s:=⟨⟨a,alt,e⟩,J,H⟩) (mC ⟨a,alt,e⟩ J H 1) aq aw (by simp[AV.R,AV.r]) ?_;rintro v g ρ ⟨rfl,rfl⟩ k;by_cases h:(aT 1 ⟨a,alt,e⟩).e=0
  ·rw[if_pos h]at M;rw[M];obtain⟨G,E,h3⟩:=jE h;simp only at G E;subst E;have B:=wI (m:=⟨a,alt,0⟩) G;simp only at B;generalize rD ⟨a,alt,0⟩=x at *;have n:=cr B;rw[h3];simp only[cq,bA,id];simp[go_sem,AV.r];refine eU (Pp:=[]) (s:=⟨⟨a,alt,0⟩,J,H⟩) (rG ⟨a,alt,0⟩ J H x B G (by show a.length≤1000000;omega)) aq aw (by simp[AV.R,AV.r]) ?_;rintro v g ρ ⟨rfl,rfl⟩ k;simp only[cq,bA,id];simp[go_sem,AV.r];refine ag (pq x (N x n) (i x n)) a9 ?_;by_cases ht:gu x=true
   ·simp[go_sem,ht];refine eU (Pp:=[]) (s:=⟨⟨a,alt,0⟩,J,H⟩) (rG ⟨a,alt,0⟩ J H x B G (by show a.length≤1000000;omega)) aq aw (by simp[AV.R,AV.r]) ?_;rintro v g ρ ⟨rfl,rfl⟩ k;simp only[cq,bA,id];simp[go_sem,AV.r]
    refine db [644] [] (args':=[.ptr 0 0 0 1,.d (.ro 1 [[nb (x)]])]) bT id (iq ⟨a,alt,0⟩ J H (x) (by show a.length≤1000000;omega) (i x n)) (a8 3) (fun j hj=>by show j<676;omega) (by simp[cq,bA,aC,lk]) rfl
     (iT rfl) aw rfl ?_
    rintro v g ρ ⟨q,rfl⟩ k;simp only[cq,bA,fj,id];simp[go_sem,ah];exact⟨⟨⟨a++[x],alt,0⟩,q,H⟩,⟨q,rfl⟩,bf (by simp[lk]) rfl rfl⟩
   ·simp[go_sem,ht,ah];exact⟨⟨⟨a,alt,0⟩,J,H⟩,⟨J,rfl⟩,bf rfl rfl rfl⟩
  ·rw[M,if_neg h];generalize aT 1 ⟨a,alt,e⟩=o at *;simp only[cq,bA,id];simp[go_sem,AV.r,h,ah];exact⟨_,⟨J,rfl⟩,bf rfl rfl rfl⟩
 have U:¬(c:Int)=115:=aq;simp[go_sem,U];by_cases z:c=116
 ·subst z;rw[show yZ bc fl 116 ⟨a,alt,e⟩=some (fj [dk (a.length:Int)] ⟨a,alt,e⟩)from rfl];simp[go_sem];refine ag (mO (a.length:Int) aq aq) a9 ?_;have hn:=iH (a.length:Int);generalize dk (a.length:Int)=y at *;simp[go_sem]
  refine db [612] [] (args':=[.ptr 0 0 0 1,.d (.ro 1 [[nb (y)]])]) bT id (iq ⟨a,alt,e⟩ J H (y) (by show a.length≤1000000;omega) aq) (a8 3) (fun j hj=>by show j<644;omega) (by simp[cq,bA,aC,lk]) rfl
   (iT rfl) aw rfl ?_
  rintro v g ρ ⟨q,rfl⟩ k;simp only[cq,bA,fj,id];simp[go_sem,ah];exact⟨⟨⟨a++[y],alt,e⟩,q,H⟩,⟨q,rfl⟩,bf (by simp[lk]) rfl rfl⟩
 have Z:¬(c:Int)=116:=aq;simp[go_sem,Z];by_cases C:c=126
 ·subst C;simp[go_sem];refine eU (Pp:=[]) (s:=⟨⟨a,alt,e⟩,J,H⟩) (Yt ⟨a,alt,e⟩ J H r X) aq aw (by simp[AV.R]) ?_;rintro v g ρ ⟨f,rfl⟩ k;rw[show yZ bc fl 126 ⟨a,alt,e⟩=some (qU ⟨a,alt,e⟩)from rfl];generalize qU ⟨a,alt,e⟩=m';simp only[cq,bA,id];simp[go_sem,ah];exact⟨_,⟨f,rfl⟩,bf rfl rfl rfl⟩
 have W:¬(c:Int)=126:=aq;simp[go_sem,W];by_cases A:c=130
 ·subst A;have M:yZ bc fl 130 ⟨a,alt,e⟩=some (if(aT 1 ⟨a,alt,e⟩).e=0 then fj [dk ((rD ⟨a,alt,e⟩).length:Int)] ⟨a,alt,e⟩else aT 1 ⟨a,alt,e⟩):=rfl;simp[go_sem];refine eU (Pp:=[]) (s:=⟨⟨a,alt,e⟩,J,H⟩) (mC ⟨a,alt,e⟩ J H 1) aq aw (by simp[AV.R,AV.r]) ?_;rintro v g ρ ⟨rfl,rfl⟩ k;by_cases h:(aT 1 ⟨a,alt,e⟩).e=0
  ·rw[if_pos h]at M;rw[M];obtain⟨G,E,h3⟩:=jE h;simp only at G E;subst E;have B:=wI (m:=⟨a,alt,0⟩) G;simp only at B;generalize rD ⟨a,alt,0⟩=x at *;have n:=cr B;rw[h3];simp only[cq,bA,id];simp[go_sem,AV.r];refine eU (Pp:=[]) (s:=⟨⟨a,alt,0⟩,J,H⟩) (rG ⟨a,alt,0⟩ J H x B G (by show a.length≤1000000;omega)) aq aw (by simp[AV.R,AV.r]) ?_;rintro v g ρ ⟨rfl,rfl⟩ k;simp only[cq,bA,id];have ac:=i x n;simp[go_sem,AV.r,nb];refine ag (mO (x.length:Int) aq aq) a9 ?_;have hn:=iH (x.length:Int);generalize dk (x.length:Int)=y at *;simp[go_sem]
   refine db [740] [] (args':=[.ptr 0 0 0 1,.d (.ro 1 [[nb (y)]])]) bT id (iq ⟨a,alt,0⟩ J H (y) (by show a.length≤1000000;omega) aq) (a8 3) (fun j hj=>by show j<772;omega) (by simp[cq,bA,aC,lk]) rfl
    (iT rfl) aw rfl ?_
   rintro v g ρ ⟨q,rfl⟩ k;simp only[cq,bA,fj,id];simp[go_sem,ah];exact⟨⟨⟨a++[y],alt,0⟩,q,H⟩,⟨q,rfl⟩,bf (by simp[lk]) rfl rfl⟩
  ·rw[M,if_neg h];generalize aT 1 ⟨a,alt,e⟩=o at *;simp only[cq,bA,id];simp[go_sem,AV.r,h,ah];exact⟨_,⟨J,rfl⟩,bf rfl rfl rfl⟩
 have O:¬(c:Int)=130:=aq;simp[go_sem,O];by_cases I:c=135
 ·subst I;rw[show yZ bc fl 135 ⟨a,alt,e⟩=some (fj [jX (iJ ⟨a,alt,e⟩).1] (iJ ⟨a,alt,e⟩).2)from rfl];simp[go_sem];refine eU (Pp:=[]) (s:=⟨⟨a,alt,e⟩,J,H⟩) (O6 ⟨a,alt,e⟩ J H r i N) aq aw (by simp[AV.R]) ?_;rintro v g ρ ⟨rfl,f,rfl⟩ k;have ab:(iJ ⟨a,alt,e⟩).2.main.length≤1000:=Pg ⟨a,alt,e⟩ r;generalize iJ ⟨a,alt,e⟩=p at *;obtain⟨b,o⟩:=p;simp only at ab;simp only[cq,bA,id];simp[go_sem,AV.r];refine ag (oa b) a9 ?_;have hn:(jX b).length≤1:=by cases b<;>decide
  generalize jX b=y at *;simp[go_sem]
  refine db [708] [] (args':=[.ptr 0 0 0 1,.d (.ro 1 [[nb (y)]])]) bT id (iq o f H (y) aq aq) (a8 3) (fun j hj=>by show j<740;omega) (by simp[cq,bA,aC,lk]) rfl
   (iT rfl) aw rfl ?_
  rintro v g ρ ⟨q,rfl⟩ k;simp only[cq,bA,fj,id];simp[go_sem,ah];exact⟨⟨⟨o.main++[y],o.alt,o.e⟩,q,H⟩,⟨q,rfl⟩,bf (by simp[lk]) rfl rfl⟩
 have R:¬(c:Int)=135:=aq;simp[go_sem,R];by_cases F:c=136
 ·subst F;rw[show yZ bc fl 136 ⟨a,alt,e⟩=some (kT (iJ ⟨a,alt,e⟩).1 (iJ ⟨a,alt,e⟩).2)from rfl];simp[go_sem];refine eU (Pp:=[]) (s:=⟨⟨a,alt,e⟩,J,H⟩) (O6 ⟨a,alt,e⟩ J H r i N) aq aw (by simp[AV.R]) ?_;rintro v g ρ ⟨rfl,f,rfl⟩ k;generalize iJ ⟨a,alt,e⟩=p at *;obtain⟨b,o⟩:=p;simp only[cq,bA,id];simp[go_sem,AV.r];refine eU (Pp:=[]) (s:=⟨o,f,H⟩) (B8 o f H b) aq aw (by simp[AV.R,AV.r]) ?_;rintro v g ρ rfl k;generalize kT b o=m';simp only[cq,bA,id];simp[go_sem,ah];exact⟨_,⟨f,rfl⟩,bf rfl rfl rfl⟩
 have Q:¬(c:Int)=136:=aq;simp[go_sem,Q];by_cases K:c=168
 ·subst K;simp[go_sem];refine eU (Pp:=[]) (s:=⟨⟨a,alt,e⟩,J,H⟩) (O8 _ bc (fun x h=>nf x aq) (fun x=>aR x) ⟨a,alt,e⟩ J H r i) aq aw (by simp[AV.R,AV.r]) ?_;rintro v g ρ ⟨f,rfl⟩ k;rw[show yZ bc fl 168 ⟨a,alt,e⟩=some (mz bc ⟨a,alt,e⟩)from rfl];generalize mz bc ⟨a,alt,e⟩=m';simp only[cq,bA,id];simp[go_sem,ah];exact⟨_,⟨f,rfl⟩,bf rfl rfl rfl⟩
 have V:¬(c:Int)=168:=aq;simp[go_sem,V];by_cases t:c=170
 ·subst t;simp[go_sem];refine eU (Pp:=[]) (s:=⟨⟨a,alt,e⟩,J,H⟩) (O8 _ fl (fun x h=>Ui x h) (fun x=>Pe x) ⟨a,alt,e⟩ J H r i) aq aw (by simp[AV.R,AV.r]) ?_;rintro v g ρ ⟨f,rfl⟩ k;rw[show yZ bc fl 170 ⟨a,alt,e⟩=some (mz fl ⟨a,alt,e⟩)from rfl];generalize mz fl ⟨a,alt,e⟩=m';simp only[cq,bA,id];simp[go_sem,ah];exact⟨_,⟨f,rfl⟩,bf rfl rfl rfl⟩
 have T:¬(c:Int)=170:=aq;have hn:yZ bc fl c ⟨a,alt,e⟩=none:=by simp[yZ,w,D,u,L,z,C,A,I,F,K,t]
 rw[hn];simp[go_sem,T];exact⟨⟨⟨a,alt,e⟩,J,H⟩,⟨J,rfl⟩,bf rfl rfl rfl⟩
end Go.Proofs.YtmfnimjnneflnaaGreat
