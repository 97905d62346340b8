/-
 Part 8 of what the claim rests on.
-/
import Derived.Test.YtmfnimjnneflnaaGreatD5
import Derived.Test.YtmfnimjnneflnaaGreatD6
set_option linter.unusedVariables false
set_option linter.unusedSimpArgs false
set_option maxRecDepth 100000
set_option maxHeartbeats 16000000
namespace Go.Sha
structure Ip where
 hash:List Nat
 idx:Nat
 seq:Nat
 wit:List (List Nat)
structure Tn where
 ver:Nat
 ins:List Ip
 outs:List (Nat×List Nat)
 lock:Nat
def Ip.ok(i:Ip):Prop:=i.hash.length=32∧i.idx<4294967296∧i.seq<4294967296
def Tn.ok(t:Tn):Prop:=t.ver<4294967296∧t.lock<4294967296∧(∀i,i∈t.ins→i.ok)∧(∀o,o∈t.outs→o.1<18446744073709551616)
def fl(n:Nat)(xs:List (List Nat)):Bool:=xs.all fun x=>decide (x.length≤n)
def cX(n:Nat)(os:List (Nat×List Nat)):Bool:=os.all fun o=>decide (o.2.length≤n)
def im(m n:Nat)(is:List Ip):Bool:=is.all fun i=>decide (i.wit.length≤m)&&fl n i.wit
def gx(a m n:Nat)(t:Tn):Bool:=decide (t.ins.length≤a)&&(decide (t.outs.length≤a)&&(cX n t.outs&&im m n t.ins))
end Go.Sha
namespace Go.Proofs.YtmfnimjnneflnaaGreat
open Go.Am Go.Sha
def eO(o:Nat×List Nat):List DV:=[.int .u64 (o.1:Int),nb o.2]
def eI(i:Ip):List DV:=cd i.hash++[.int .u32 (i.idx:Int),.int .u32 (i.seq:Int),.ro 1 (i.wit.map bP)]
def eT(t:Tn):List AV:=[.d (.int .u32 (t.ver:Int)),.d (.ro 35 (t.ins.map eI)),.d (.ro 2 (t.outs.map eO)),.d (.int .u32 (t.lock:Int))]
def eS(t:Tn)(n:Int)(coins:List (Nat×List Nat)):List AV:=[.d (.int .u32 (t.ver:Int)),.d (.ro 35 (t.ins.map eI)),.d (.ro 2 (t.outs.map eO)),.d (.int .u32 (t.lock:Int)),.d (.int .i64 n),.d (.ro 2 (coins.map eO))]
theorem wH{i:Ip}(h:i.hash.length=32):(eI i).drop 34=[.ro 1 (i.wit.map bP)]:=by
 unfold eI;rw[List.drop_append,c_ (by rw[bV];omega),bV,h];rfl
theorem ZF{i:Ip}(h:i.hash.length=32):(eI i).drop 33=[.int .u32 (i.seq:Int),.ro 1 (i.wit.map bP)]:=by
 unfold eI;rw[List.drop_append,c_ (by rw[bV];omega),bV,h];rfl
theorem acC{i:Ip}(h:i.hash.length=32):(eI i).drop 32=[.int .u32 (i.idx:Int),.int .u32 (i.seq:Int),.ro 1 (i.wit.map bP)]:=by
 unfold eI;rw[List.drop_append,c_ (by rw[bV];omega),bV,h];rfl
theorem s6{i:Ip}(h:i.hash.length=32):(eI i).length=35:=by simp[eI,bV,h]
theorem gK{α:Type}{l:List α}{k:Nat}{p:α→Bool}{x:α}{b:Bool}(a:l.drop k=x::l.drop (k+1))(h:(l.drop k).all p=b)(c:p x=true):(l.drop (k+1)).all p=b:=by
 rw[a,List.all_cons,c,Bool.true_and]at h;exact h
theorem fA{α:Type}{l:List α}{k:Nat}{p:α→Bool}{x:α}{b:Bool}(a:l.drop k=x::l.drop (k+1))(h:(l.drop k).all p=b)(c:p x=false):b=false:=by
 rw[a,List.all_cons,c,Bool.false_and]at h;exact h.symm
theorem gQ{α:Type}{l:List α}{p:α→Bool}{b:Bool}(h:(l.drop l.length).all p=b):b=true:=by
 rw[List.drop_length]at h;exact h.symm
theorem FB (t:Tn) (K:t.ok):ap Tryz.prog 67 [.agg (eT t)] (fun r=>r=.d (.bool (gx 6 6 600 t))):=by
 obtain⟨_,_,F,_⟩:=K;refine bz Tryz.func67 Tryz.ntmps67 (rs:=[.tmp 2]) (by simp[AV.deep,AV.deep1,eT]) ?_;by_cases A:t.ins.length≤6
 ·by_cases B:t.outs.length≤6
  ·have n:¬ 6<(t.ins.length:Int):=aq;have i2:¬ 6<(t.outs.length:Int):=aq;have G:gx 6 6 600 t=(cX 600 t.outs && im 6 600 t.ins):=(by simp [gx,A,B]);rw[G];simp[go_sem,eT,n,i2]
   refine au (fun k:Nat=>⟨[(1,.ptr 0 0 0 1),(3,.d (.int .i64 (k:Int)))],[(0,⟨26,4,[eT t]⟩)],2000⟩)
    (fun k=>k≤t.outs.length∧cX 600 (t.outs.drop k)=cX 600 t.outs) (fun k=>t.outs.length-k) 0 ⟨aq,rfl⟩ (by
     simp[av,ah,fv,lk,AV.low,AV.low1,eT]) ?_
   rintro k⟨D,c⟩;simp only[eT];simp only[go_sem,Nat.reduceEqDiff,Nat.reduceAdd,Nat.reduceLT,↓reduceIte,Nat.reduceMul];refine⟨fun h=>?_,fun h=>?_⟩
   ·obtain⟨o,q,m⟩:=bg (l:=t.outs) (k:=k) aq;have I:=az (k:=k) aq;by_cases u:o.2.length≤600
    ·have e:¬ 600<(o.2.length:Int):=aq;simp[go_sem,q,eO,nb,e,I];refine am (k+1) ⟨aq,gK m c (by simpa using u)⟩ aq ?_;simp[av,ah,fv,lk,AV.low,AV.low1,eT]
    ·have e:600<(o.2.length:Int):=aq;have:=fA m c (by simpa using u);simp[go_sem,q,eO,nb,e];exact ae a9 (by rw[this];rfl)
   ·have f:k=t.outs.length:=aq;subst f;have J:cX 600 t.outs=true:=gQ c;rw[J,Bool.true_and];clear c h;simp[go_sem]
    refine au (fun k:Nat=>⟨[(1,.ptr 0 0 0 1),(4,.d (.int .i64 (k:Int)))],[(0,⟨26,4,[eT t]⟩)],4000⟩)
     (fun k=>k≤t.ins.length∧im 6 600 (t.ins.drop k)=im 6 600 t.ins) (fun k=>t.ins.length-k) 0 ⟨aq,rfl⟩ (by
      simp[av,ah,fv,lk,AV.low,AV.low1,eT]) ?_
    rintro k⟨D,c⟩;simp only[eT];simp only[go_sem,Nat.reduceEqDiff,Nat.reduceAdd,Nat.reduceLT,↓reduceIte,Nat.reduceMul];refine⟨fun h=>?_,fun h=>?_⟩
    ·obtain⟨i,b,m⟩:=bg (l:=t.ins) (k:=k) aq;have a:=(F i (cr b)).1;by_cases u:i.wit.length≤6
     ·have e:¬ 6<(i.wit.length:Int):=aq;simp[go_sem,b,wH a,e]
      refine au (fun j:Nat=>⟨[(1,.ptr 0 0 0 1),(4,.d (.int .i64 (k:Int))),(5,.d (.int .i64 (j:Int)))],[(0,⟨26,4,[eT t]⟩)],6000⟩)
       (fun j=>j≤i.wit.length∧fl 600 (i.wit.drop j)=fl 600 i.wit) (fun j=>i.wit.length-j) 0 ⟨aq,rfl⟩ (by
        simp[av,ah,fv,lk,AV.low,AV.low1,eT]) ?_
      rintro j⟨L,g⟩;simp only[eT];simp[go_sem,b,wH a];refine⟨fun H=>?_,fun H=>?_⟩
      ·obtain⟨x,s,p⟩:=bg (l:=i.wit) (k:=j) aq;have y:=az (k:=j) aq;by_cases C:x.length≤600
       ·have v:¬ 600<(x.length:Int):=aq;simp[go_sem,b,wH a,s,bP,nb,v,y];intro _;refine am (j+1) ⟨aq,gK p g (by simpa using C)⟩ aq ?_;simp[av,ah,fv,lk,AV.low,AV.low1,eT]
       ·have v:600<(x.length:Int):=aq;have w:=fA p g (by simpa using C);have:=fA m c (by rw[show fl 600 i.wit=false from w];simp);simp[go_sem,b,wH a,s,bP,nb,v];refine⟨?_,fun h=>aq⟩;exact ae a9 (by rw[show im 6 600 t.ins=false from this])
      ·have z:j=i.wit.length:=aq;subst z;have w:fl 600 i.wit=true:=gQ g;have y:=az (k:=k) aq;simp[go_sem,y];refine am (k+1) ⟨aq,gK m c (by rw[w];simpa using u)⟩ aq ?_;simp[av,ah,fv,lk,AV.low,AV.low1,eT]
     ·have e:6<(i.wit.length:Int):=aq;have:=fA m c (by simp;omega);simp[go_sem,b,wH a,e];exact ae a9 (by rw[show im 6 600 t.ins=false from this])
    ·have f:k=t.ins.length:=aq;subst f;have E:im 6 600 t.ins=true:=gQ c;simp[go_sem];exact ae a9 (by rw[E])
  ·have n:¬ 6<(t.ins.length:Int):=aq;have i2:6<(t.outs.length:Int):=aq;simp[go_sem,eT,n,i2];exact ae a9 (by simp[gx,B])
 ·have n:6<(t.ins.length:Int):=aq;simp[go_sem,eT,n];exact ae a9 (by simp[gx,A])
theorem FC (t:Tn) (K:t.ok):ap Tryz.prog 107 [.agg (eT t)] (fun r=>r=.d (.bool (gx 20 30 1000 t))):=by
 obtain⟨_,_,F,_⟩:=K;refine bz Tryz.func107 Tryz.ntmps107 (rs:=[.tmp 2]) (by simp[AV.deep,AV.deep1,eT]) ?_;by_cases A:t.ins.length≤20
 ·by_cases B:t.outs.length≤20
  ·have n:¬ 20<(t.ins.length:Int):=aq;have i2:¬ 20<(t.outs.length:Int):=aq;have G:gx 20 30 1000 t=(cX 1000 t.outs && im 30 1000 t.ins):=(by simp [gx,A,B]);rw[G];simp[go_sem,eT,n,i2]
   refine au (fun k:Nat=>⟨[(1,.ptr 0 0 0 1),(3,.d (.int .i64 (k:Int)))],[(0,⟨26,4,[eT t]⟩)],2000⟩)
    (fun k=>k≤t.outs.length∧cX 1000 (t.outs.drop k)=cX 1000 t.outs) (fun k=>t.outs.length-k) 0 ⟨aq,rfl⟩ (by
     simp[av,ah,fv,lk,AV.low,AV.low1,eT]) ?_
   rintro k⟨D,c⟩;simp only[eT];simp only[go_sem,Nat.reduceEqDiff,Nat.reduceAdd,Nat.reduceLT,↓reduceIte,Nat.reduceMul];refine⟨fun h=>?_,fun h=>?_⟩
   ·obtain⟨o,q,m⟩:=bg (l:=t.outs) (k:=k) aq;have I:=az (k:=k) aq;by_cases u:o.2.length≤1000
    ·have e:¬ 1000<(o.2.length:Int):=aq;simp[go_sem,q,eO,nb,e,I];refine am (k+1) ⟨aq,gK m c (by simpa using u)⟩ aq ?_;simp[av,ah,fv,lk,AV.low,AV.low1,eT]
    ·have e:1000<(o.2.length:Int):=aq;have:=fA m c (by simpa using u);simp[go_sem,q,eO,nb,e];exact ae a9 (by rw[this];rfl)
   ·have f:k=t.outs.length:=aq;subst f;have J:cX 1000 t.outs=true:=gQ c;rw[J,Bool.true_and];clear c h;simp[go_sem]
    refine au (fun k:Nat=>⟨[(1,.ptr 0 0 0 1),(4,.d (.int .i64 (k:Int)))],[(0,⟨26,4,[eT t]⟩)],4000⟩)
     (fun k=>k≤t.ins.length∧im 30 1000 (t.ins.drop k)=im 30 1000 t.ins) (fun k=>t.ins.length-k) 0 ⟨aq,rfl⟩ (by
      simp[av,ah,fv,lk,AV.low,AV.low1,eT]) ?_
    rintro k⟨D,c⟩;simp only[eT];simp only[go_sem,Nat.reduceEqDiff,Nat.reduceAdd,Nat.reduceLT,↓reduceIte,Nat.reduceMul];refine⟨fun h=>?_,fun h=>?_⟩
    ·obtain⟨i,b,m⟩:=bg (l:=t.ins) (k:=k) aq;have a:=(F i (cr b)).1;by_cases u:i.wit.length≤30
     ·have e:¬ 30<(i.wit.length:Int):=aq;simp[go_sem,b,wH a,e]
      refine au (fun j:Nat=>⟨[(1,.ptr 0 0 0 1),(4,.d (.int .i64 (k:Int))),(5,.d (.int .i64 (j:Int)))],[(0,⟨26,4,[eT t]⟩)],6000⟩)
       (fun j=>j≤i.wit.length∧fl 1000 (i.wit.drop j)=fl 1000 i.wit) (fun j=>i.wit.length-j) 0 ⟨aq,rfl⟩ (by
        simp[av,ah,fv,lk,AV.low,AV.low1,eT]) ?_
      rintro j⟨L,g⟩;simp only[eT];simp[go_sem,b,wH a];refine⟨fun H=>?_,fun H=>?_⟩
      ·obtain⟨x,s,p⟩:=bg (l:=i.wit) (k:=j) aq;have y:=az (k:=j) aq;by_cases C:x.length≤1000
       ·have v:¬ 1000<(x.length:Int):=aq;simp[go_sem,b,wH a,s,bP,nb,v,y];intro _;refine am (j+1) ⟨aq,gK p g (by simpa using C)⟩ aq ?_;simp[av,ah,fv,lk,AV.low,AV.low1,eT]
       ·have v:1000<(x.length:Int):=aq;have w:=fA p g (by simpa using C);have:=fA m c (by rw[show fl 1000 i.wit=false from w];simp);simp[go_sem,b,wH a,s,bP,nb,v];refine⟨?_,fun h=>aq⟩;exact ae a9 (by rw[show im 30 1000 t.ins=false from this])
      ·have z:j=i.wit.length:=aq;subst z;have w:fl 1000 i.wit=true:=gQ g;have y:=az (k:=k) aq;simp[go_sem,y];refine am (k+1) ⟨aq,gK m c (by rw[w];simpa using u)⟩ aq ?_;simp[av,ah,fv,lk,AV.low,AV.low1,eT]
     ·have e:30<(i.wit.length:Int):=aq;have:=fA m c (by simp;omega);simp[go_sem,b,wH a,e];exact ae a9 (by rw[show im 30 1000 t.ins=false from this])
    ·have f:k=t.ins.length:=aq;subst f;have E:im 30 1000 t.ins=true:=gQ c;simp[go_sem];exact ae a9 (by rw[E])
  ·have n:¬ 20<(t.ins.length:Int):=aq;have i2:20<(t.outs.length:Int):=aq;simp[go_sem,eT,n,i2];exact ae a9 (by simp[gx,B])
 ·have n:20<(t.ins.length:Int):=aq;simp[go_sem,eT,n];exact ae a9 (by simp[gx,A])
theorem Hu(x:List Nat):ap Tryz.prog 142 [.d (nb x)] (fun r=>r=.d (.bool (decide (1000<x.length)))):=by
 refine bz Tryz.func142 Tryz.ntmps142 (rs:=[.tmp 2]) a9 ?_;simp[go_sem,nb];refine ae a9 ?_;have:((1000:Int)<(x.length:Int))↔1000<x.length:=aq;simp[this]
theorem I6(o:Nat×List Nat):ap Tryz.prog 90 [.agg ((eO o).map .d)] (fun r=>r=.d (.bool (decide (1000<o.2.length)))):=by
 refine bz Tryz.func90 Tryz.ntmps90 (rs:=[.tmp 2]) (by simp[AV.deep,AV.deep1,eO]) ?_;simp[go_sem,eO,nb];refine ae a9 ?_;have:((1000:Int)<(o.2.length:Int))↔1000<o.2.length:=aq;simp[this]
theorem I7(xs:List (List Nat))(o:xs.length≤1000000000):ap Tryz.prog 173 [.d (.ro 1 (xs.map bP)),.fn 142 []] (fun r=>∃n:Int,r=.d (.int .i64 n)∧decide (0≤n)=!fl 1000 xs):=by
 refine bz Tryz.func173 Tryz.ntmps173 (rs:=[.tmp 4]) a9 ?_;simp[go_sem]
 refine au (fun k:Nat=>⟨[(0,.d (.ro 1 (xs.map bP))),(1,.fn 142 []),(7,.d (.int .i64 (xs.length:Int))),(8,.d (.int .i64 (k:Int)))],[],1000⟩)
  (fun k=>k≤xs.length∧fl 1000 (xs.drop k)=fl 1000 xs) (fun k=>xs.length-k) 0 ⟨aq,rfl⟩ (by
   simp[av,ah,fv,lk,AV.low,AV.low1]) ?_
 rintro k⟨m,b⟩;simp only[go_sem,Nat.reduceEqDiff,Nat.reduceAdd,Nat.reduceLT,↓reduceIte,Nat.reduceMul];refine⟨fun h=>?_,fun h=>?_⟩
 ·obtain⟨x,a,g⟩:=bg (l:=xs) (k:=k) aq;have j:=az (k:=k) aq;simp[go_sem,a,bP];refine ag (Hu x) a9 ?_;by_cases f:x.length≤1000
  ·have c:¬ 1000<x.length:=aq;simp[go_sem,c,j];refine am (k+1) ⟨aq,gK g b (by simpa using f)⟩ aq ?_;simp[av,ah,fv,lk,AV.low,AV.low1]
  ·have c:1000<x.length:=aq;have:=fA g b (by simpa using f);simp[go_sem,c];exact ae a9 ⟨_,rfl,by rw[show fl 1000 xs=false from this];simp⟩
 ·have e:k=xs.length:=aq;subst e;have i:fl 1000 xs=true:=gQ b;simp[go_sem];exact ae a9 ⟨_,rfl,by rw[i];rfl⟩
theorem Ax(xs:List (List Nat))(b:xs.length≤1000000000):ap Tryz.prog 143 [.d (.ro 1 (xs.map bP)),.fn 142 []] (fun r=>r=.d (.bool (!fl 1000 xs))):=by
 refine bz Tryz.func143 Tryz.ntmps143 (rs:=[.tmp 4]) a9 ?_;simp[go_sem];refine Lm (I7 xs b) a9 ?_;rintro r⟨n,rfl,a⟩;rw[←a];simp[go_sem];exact ae a9 rfl
theorem I8(xs:List (Nat×List Nat))(p:xs.length≤1000000000):ap Tryz.prog 136 [.d (.ro 2 (xs.map eO)),.fn 90 []] (fun r=>∃n:Int,r=.d (.int .i64 n)∧decide (0≤n)=!cX 1000 xs):=by
 refine bz Tryz.func136 Tryz.ntmps136 (rs:=[.tmp 4]) a9 ?_;simp[go_sem]
 refine au (fun k:Nat=>⟨[(0,.d (.ro 2 (xs.map eO))),(1,.fn 90 []),(7,.d (.int .i64 (xs.length:Int))),(8,.d (.int .i64 (k:Int)))],[],1000⟩)
  (fun k=>k≤xs.length∧cX 1000 (xs.drop k)=cX 1000 xs) (fun k=>xs.length-k) 0 ⟨aq,rfl⟩ (by
   simp[av,ah,fv,lk,AV.low,AV.low1]) ?_
 rintro k⟨o,c⟩;simp only[go_sem,Nat.reduceEqDiff,Nat.reduceAdd,Nat.reduceLT,↓reduceIte,Nat.reduceMul];refine⟨fun h=>?_,fun h=>?_⟩
 ·obtain⟨x,b,i⟩:=bg (l:=xs) (k:=k) aq;have m:=az (k:=k) aq;have a:(eO x).length=2:=rfl;simp[go_sem,b,a];refine ag (I6 x) (by simp[AV.deep,AV.deep1,eO]) ?_;by_cases g:x.2.length≤1000
  ·have e:¬ 1000<x.2.length:=aq;simp[go_sem,e,m];refine am (k+1) ⟨aq,gK i c (by simpa using g)⟩ aq ?_;simp[av,ah,fv,lk,AV.low,AV.low1]
  ·have e:1000<x.2.length:=aq;have:=fA i c (by simpa using g);simp[go_sem,e];exact ae a9 ⟨_,rfl,by rw[show cX 1000 xs=false from this];simp⟩
 ·have f:k=xs.length:=aq;subst f;have j:cX 1000 xs=true:=gQ c;simp[go_sem];exact ae a9 ⟨_,rfl,by rw[j];rfl⟩
theorem Az(xs:List (Nat×List Nat))(b:xs.length≤1000000000):ap Tryz.prog 91 [.d (.ro 2 (xs.map eO)),.fn 90 []] (fun r=>r=.d (.bool (!cX 1000 xs))):=by
 refine bz Tryz.func91 Tryz.ntmps91 (rs:=[.tmp 4]) a9 ?_;simp[go_sem];refine Lm (I8 xs b) a9 ?_;rintro r⟨n,rfl,a⟩;rw[←a];simp[go_sem];exact ae a9 rfl
end Go.Proofs.YtmfnimjnneflnaaGreat
namespace Go.Sha
def cE(x:List Nat):List Nat:=ax x.length++x
def s7(xs:List (List Nat)):List Nat:=(xs.map cE).flatten
def nk(xs:List (List Nat)):List Nat:=ax xs.length++s7 xs
def Hv(i:Ip):List Nat:=i.hash++(le i.idx 4++le i.seq 4)
def wI(l:List Ip):List Nat:=(l.map Hv).flatten
def ga(o:Nat×List Nat):List Nat:=le o.1 8++cE o.2
def kh(l:List (Nat×List Nat)):List Nat:=(l.map ga).flatten
def mi(t:Tn):List Nat:=le t.ver 4++(ax t.ins.length++(wI t.ins++(ax t.outs.length++(kh t.outs++le t.lock 4))))
def ZG(l:List Ip):List Nat:=(l.map fun i=>nk i.wit).flatten
def io(t:Tn):List Nat:=mi t++ZG t.ins
def ZH(xs:List (List Nat)):Prop:=xs.length≤6∧∀x,x∈xs→x.length≤600
theorem kU(x:List Nat):(cE x).length≤5+x.length:=by
 have:=cj x.length;unfold cE;rw[b_];omega
theorem wJ:∀(xs:List (List Nat)),(∀x,x∈xs→x.length≤600)→(s7 xs).length≤605*xs.length
 |[],_=>by simp[s7]
 |x::r,h=>by
  have d:=wJ r fun y a=>h y (cS _ a);have c:=h x (dz ..);have b:=kU x;have e:(s7 (x::r)).length=(cE x).length+(s7 r).length:=by simp[s7]
  rw[e,List.length_cons];omega
theorem yP{xs:List (List Nat)}(h:ZH xs):(nk xs).length≤3635:=by
 have a:=wJ xs h.2;have c:=cj xs.length;have b:=h.1;unfold nk;rw[b_];omega
end Go.Sha
namespace Go.Proofs.YtmfnimjnneflnaaGreat
open Go.Am Go.Sha
theorem I9(b:List Nat)(x n:Nat)(i:b.length≤1000000)(j:x<18446744073709551616)(m:n≤8):c7 Tryz.prog 145 0 [] [.d (nb b),.d (.int .u64 (x:Int)),.d (.int .i64 (n:Int))] (vQ (b++le x n)):=by
 refine aB Tryz.func145 (by kernel_rfl) rfl Tryz.ntmps145 (rs:=[.tmp 6]) rfl (fD rfl) (by decide) ?_;have c:IntKind.i64.wrap ((b.length:Int)+(n:Int))=((b.length+n:Nat):Int):=by rw[IntWalk.i64_in _ aq];omega
 have g:List.replicate b.length [AV.d (.int .u8 0)]=rb (List.replicate b.length 0):=by simp[rb]
 simp only[go_sem,Nat.reduceEqDiff,Nat.reduceAdd,Nat.reduceLT,↓reduceIte,Nat.reduceMul,c,nb,List.length_map,Int.toNat_natCast,g];simp[go_sem,dC,aL];rw[qe];refine⟨aq,aq,aq,aq,?_⟩
 refine au (fun k:Nat=>⟨[(7,.own 225 0 (b++le x k).length (b++le x k).length),(8,.d (.int .u64 ((ej (8*k) x:Nat):Int))),(20,.d (.int .i64 (n:Int))),(21,.d (.int .i64 (k:Int)))],[(225,⟨5,1,rb (b++le x k)⟩)],545⟩)
  (fun k=>k≤n) (fun k=>n-k) 0 aq (by
   simp[av,ah,fv,lk,AV.low,AV.low1,le,ej]
   exact aT _ _) ?_
 intro k l;have o:(b++le x k).length=b.length+k:=by rw[b_,aO]
 have f:rb (b++le x k)++[[AV.d (.int .u8 ((t8 (ej (8*k) x):Nat):Int))]]=rb (b++le x (k+1)):=by rw[hJ,cA];rfl
 have e:=az (k:=k) aq;simp only[go_sem,Nat.reduceEqDiff,Nat.reduceAdd,Nat.reduceLT,↓reduceIte];refine⟨fun h=>?_,fun h=>?_⟩
 ·simp[go_sem,fE,aL,f,aO,IntKind.bits,CC,vI,e];refine⟨aq,?_⟩;refine am (k+1) aq aq ?_;simp[av,ah,fv,lk,AV.low,AV.low1,aO];exact⟨aq,aT _ _⟩
 ·have a:k=n:=aq;subst a;exact⟨225,by rw[b_],rfl⟩
theorem gl(b:List Nat)(x:Nat)(a:b.length≤1000000)(c:x<4294967296):c7 Tryz.prog 59 0 [] [.d (nb b),.d (.int .u32 (x:Int))] (vQ (b++le x 4)):=by
 refine aB Tryz.func59 (by kernel_rfl) rfl Tryz.ntmps59 (rs:=[.tmp 4]) rfl (fD rfl) (by decide) ?_;simp[go_sem];refine aZ [] (yA b x 4 a c aq) rfl aw aw aw (by simp[AV.renL,AV.ren]) ?_;rintro r f⟨rfl,e⟩;refine⟨[(225,0)],rfl,?_⟩;simp[go_sem,bZ,bF,e,Blk.ren,aS,dD,AV.renL,AV.ren,bX,ai,vQ]
theorem Ja(b:List Nat)(x:Nat)(a:b.length≤1000000)(c:x<18446744073709551616):c7 Tryz.prog 103 0 [] [.d (nb b),.d (.int .u64 (x:Int))] (vQ (b++le x 8)):=by
 refine aB Tryz.func103 (by kernel_rfl) rfl Tryz.ntmps103 (rs:=[.tmp 4]) rfl (fD rfl) (by decide) ?_;simp[go_sem];refine aZ [] (I9 b x 8 a c aq) rfl aw aw aw (by simp[AV.renL,AV.ren]) ?_;rintro r f⟨I,rfl,e⟩;refine⟨[(I,0)],by simp[dp,ii],?_⟩;simp[go_sem,bZ,bF,e,Blk.ren,aS,dD,AV.renL,AV.ren,bX,ai,vQ]
theorem iV(b:List Nat)(x:Nat)(a:b.length≤1000000)(c:x<4294967296):ap Tryz.prog 59 [.d (nb b),.d (.int .u32 (x:Int))] (fun r=>r=.d (nb (b++le x 4))):=mf (gl b x a c) a9
theorem wK(b:List Nat)(x:Nat)(a:b.length≤1000000)(c:x<18446744073709551616):ap Tryz.prog 103 [.d (nb b),.d (.int .u64 (x:Int))] (fun r=>r=.d (nb (b++le x 8))):=mf (Ja b x a c) a9
theorem wL(b:List Nat)(n:Nat)(a:b.length≤100000)(c:n<4294967296):ap Tryz.prog 109 [.d (nb b),.d (.int .u64 (n:Int))] (fun r=>r=.d (nb (b++ax n))):=mf (nQ b n a c) a9
theorem tZ(b:List Nat)(n:Nat)(a:b.length≤1000000)(c:n<4294967296):ap Tryz.prog 175 [.d (nb b),.d (.int .u64 (n:Int))] (fun r=>r=.d (nb (b++ax n))):=mf (mM b n a c) a9
def eG{α:Type}(f:α→List Nat)(l:List α)(k:Nat):List Nat:=((l.drop k).map f).flatten
theorem dV{α:Type}{f:α→List Nat}{l:List α}{k:Nat}{x:α}{B R:List Nat}(a:l.drop k=x::l.drop (k+1))(h:B++eG f l k=R):(B++f x)++eG f l (k+1)=R:=by
 unfold eG at *;rw[a,List.map_cons,List.flatten_cons,←cA]at h;exact h
theorem dW{α:Type}{f:α→List Nat}{l:List α}{B R:List Nat}(h:B++eG f l l.length=R):B=R:=by
 unfold eG at h;rw[List.drop_length]at h;simpa using h
theorem FD(b:List Nat)(xs:List (List Nat))(v:b.length≤50000)(c:ZH xs):ap Tryz.prog 94 [.d (nb b),.d (.ro 1 (xs.map bP))] (fun r=>r=.d (nb (b++nk xs))):=by
 refine bz Tryz.func94 Tryz.ntmps94 (rs:=[.tmp 4]) a9 ?_;obtain⟨u,c⟩:=c;have n:=cj xs.length;have w:IntKind.u64.wrap (xs.length:Int)=(xs.length:Int):=by rw[ij];omega
 have f:(b++ax xs.length)++eG cE xs 0=b++nk xs:=by rw[cA];rfl
 generalize b++nk xs=R at *;simp[go_sem,w];refine ag (wL b xs.length aq aq) a9 ?_;have o:(b++ax xs.length).length≤50005:=by rw[b_];omega
 generalize b++ax xs.length=B0 at *;simp[go_sem]
 refine au (fun t:Nat×List Nat=>⟨[(5,.d (nb t.2)),(13,.d (.ro 1 (xs.map bP))),(14,.d (.int .i64 (xs.length:Int))),(15,.d (.int .i64 (t.1:Int)))],[],1000⟩)
  (fun t=>t.1≤xs.length∧t.2.length≤50005+605*t.1∧t.2++eG cE xs t.1=R) (fun t=>xs.length-t.1) (0,B0) ⟨aw,by simp;omega,f⟩ (by
   simp[av,ah,fv,lk,AV.low,AV.low1,nb]) ?_
 rintro⟨k,B⟩⟨j,e,i⟩;simp only at j e i;simp only[go_sem,Nat.reduceEqDiff,Nat.reduceAdd,Nat.reduceLT,↓reduceIte,Nat.reduceMul];refine⟨fun h=>?_,fun h=>?_⟩
 ·obtain⟨x,a,q⟩:=bg (l:=xs) (k:=k) aq;have m:=c x (cr a);have s:=az (k:=k) aq;have p:=kU x;simp[go_sem,a,bP];refine ag (fY B x aq aq) a9 ?_;simp[go_sem,s];refine am (k+1,B++cE x) ⟨by simp only;omega,by simp only[b_];omega,dV q i⟩ (by simp only;omega) ?_;simp[av,ah,fv,lk,AV.low,AV.low1,nb,cE]
 ·have g:k=xs.length:=aq;subst g;have:=dW i;subst this;simp[go_sem];exact ae a9 rfl
theorem Dc(b:List Nat)(xs:List (List Nat))(v:b.length≤50000)(c:ZH xs):ap Tryz.prog 150 [.d (nb b),.d (.ro 1 (xs.map bP))] (fun r=>r=.d (nb (b++nk xs))):=by
 refine bz Tryz.func150 Tryz.ntmps150 (rs:=[.tmp 4]) a9 ?_;obtain⟨u,c⟩:=c;have n:=cj xs.length;have w:IntKind.u64.wrap (xs.length:Int)=(xs.length:Int):=by rw[ij];omega
 have f:(b++ax xs.length)++eG cE xs 0=b++nk xs:=by rw[cA];rfl
 generalize b++nk xs=R at *;simp[go_sem,w];refine ag (tZ b xs.length aq aq) a9 ?_;have o:(b++ax xs.length).length≤50005:=by rw[b_];omega
 generalize b++ax xs.length=B0 at *;simp[go_sem]
 refine au (fun t:Nat×List Nat=>⟨[(1,.d (.ro 1 (xs.map bP))),(5,.d (nb t.2)),(6,.d (.int .i64 (t.1:Int)))],[],1000⟩)
  (fun t=>t.1≤xs.length∧t.2.length≤50005+605*t.1∧t.2++eG cE xs t.1=R) (fun t=>xs.length-t.1) (0,B0) ⟨aw,by simp;omega,f⟩ (by
   simp[av,ah,fv,lk,AV.low,AV.low1,nb]) ?_
 rintro⟨k,B⟩⟨j,e,i⟩;simp only at j e i;simp only[go_sem,Nat.reduceEqDiff,Nat.reduceAdd,Nat.reduceLT,↓reduceIte,Nat.reduceMul];refine⟨fun h=>?_,fun h=>?_⟩
 ·obtain⟨x,a,q⟩:=bg (l:=xs) (k:=k) aq;have m:=c x (cr a);have s:=az (k:=k) aq;have p:=kU x;simp[go_sem,a,bP];refine ag (rF B x aq aq) a9 ?_;simp[go_sem,s];refine am (k+1,B++cE x) ⟨by simp only;omega,by simp only[b_];omega,dV q i⟩ (by simp only;omega) ?_;simp[av,ah,fv,lk,AV.low,AV.low1,nb,cE]
 ·have g:k=xs.length:=aq;subst g;have:=dW i;subst this;simp[go_sem];exact ae a9 rfl
end Go.Proofs.YtmfnimjnneflnaaGreat
namespace Go.Sha
theorem AA{i:Ip}(h:i.hash.length=32):(Hv i).length=40:=by simp[Hv,h,aO]
theorem wM(o:Nat×List Nat):(ga o).length≤13+o.2.length:=by
 have:=kU o.2;unfold ga;rw[b_,aO];omega
def Sm(t:Tn):Prop:=t.ok∧t.ins.length≤6∧t.outs.length≤6∧(∀o,o∈t.outs→o.2.length≤600)∧∀i,i∈t.ins→ZH i.wit
theorem ZI{t:Tn}(h:t.ok)(a:gx 6 6 600 t=true):Sm t:=by
 simp only[gx,Bool.and_eq_true,decide_eq_true_eq,cX,im,fl,d7]at a;obtain⟨d,f,e,b⟩:=a;exact⟨h,d,f,e,fun i c=>⟨(b i c).1,(b i c).2⟩⟩
end Go.Sha
namespace Go.Proofs.YtmfnimjnneflnaaGreat
open Go.Am Go.Sha
def s8(i:Ip):List AV:=cb i.hash++[.d (.int .u32 (i.idx:Int)),.d (.int .u32 (i.seq:Int)),.d (.ro 1 (i.wit.map bP))]
theorem Df(i:Ip):(eI i).map AV.d=s8 i:=by simp[eI,s8,cQ]
theorem oZ{i:Ip}(h:i.hash.length=32):(s8 i).length=35:=by simp[s8,aj,h]
theorem acD{i:Ip}(h:i.hash.length=32):(s8 i)[32]?=some (.d (.int .u32 (i.idx:Int))):=by
 rw[s8,dn (by rw[aj];omega),aj,h];rfl
theorem acE{i:Ip}(h:i.hash.length=32):(s8 i)[33]?=some (.d (.int .u32 (i.seq:Int))):=by
 rw[s8,dn (by rw[aj];omega),aj,h];rfl
theorem acF{i:Ip}(h:i.hash.length=32):(s8 i)[34]?=some (.d (.ro 1 (i.wit.map bP))):=by
 rw[s8,dn (by rw[aj];omega),aj,h];rfl
theorem TX{i:Ip}(h:i.hash.length=32)(a:32<(s8 i).length):(s8 i)[32]=.d (.int .u32 (i.idx:Int)):=by
 have:=acD h;rw[cm a]at this;exact Option.some.inj this
theorem TY{i:Ip}(h:i.hash.length=32)(a:33<(s8 i).length):(s8 i)[33]=.d (.int .u32 (i.seq:Int)):=by
 have:=acE h;rw[cm a]at this;exact Option.some.inj this
theorem TZ{i:Ip}(h:i.hash.length=32)(a:34<(s8 i).length):(s8 i)[34]=.d (.ro 1 (i.wit.map bP)):=by
 have:=acF h;rw[cm a]at this;exact Option.some.inj this
theorem oc{i:Ip}(h:i.hash.length=32):(s8 i).take 35=s8 i:=cx (by rw[oZ h];omega)
theorem QP(n:Nat)(i:Ip):∀v,v∈s8 i→v.low1 n:=by
 intro v a;simp only[s8,cD,d_,List.mem_nil_iff,or_false]at a;rcases a with a|rfl|rfl|rfl;exact aE _ _ _ a;trivial;trivial;trivial
theorem Dh{i:Ip}(h:i.hash.length=32):(List.range 32).map (fun k=>((s8 i).drop k).take 1)=rb i.hash:=by
 have a:=iP h;rw[dC]at a;rw[←a];apply List.map_congr_left;intro k b;have b:=List.mem_range.1 b;unfold s8;rw[List.drop_append_of_le_length (by rw[aj];omega),List.take_append_of_le_length (by rw[et,aj];omega)]
theorem zin:fK Tryz.prog 68=some (cb z32++[.d (.int .u32 0),.d (.int .u32 0),.nil]):=by kernel_rfl
attribute [go_sem] zin
theorem oe:List.drop 35 (cb z32++[AV.d (.int .u32 0),AV.d (.int .u32 0),AV.nil])=[]:=rfl
theorem QQ(t:Tn)(ht:Sm t):ap Tryz.prog 144 [.agg (eT t)] (fun r=>r=.d (nb (mi t))):=by
 obtain⟨⟨hv,A,Z,V⟩,h1,h2,X,h4⟩:=ht;refine bz Tryz.func144 Tryz.ntmps144 (rs:=[.tmp 2]) (by simp[AV.deep,AV.deep1,eT]) ?_;have R:IntKind.u64.wrap (t.ins.length:Int)=(t.ins.length:Int):=by rw[ij];omega
 have w2:IntKind.u64.wrap (t.outs.length:Int)=(t.outs.length:Int):=by rw[ij];omega
 have T:=cj t.ins.length;have W:=cj t.outs.length;simp[go_sem,eT];refine bn [] (iV [] t.ver aw hv) rfl (ak (.one (ao (.nil 1))) (ak (.deep a9) aC)) ?_;simp[go_sem,aN,R];refine aZ [] (nQ (le t.ver 4) t.ins.length (by simp[aO]) aq) rfl aw aw aw (by simp[AV.renL,AV.ren]) ?_;rintro r E⟨I,rfl,G⟩;refine⟨[(I,0)],by simp[dp,ii],?_⟩;have ab:(le t.ver 4++ax t.ins.length).length≤9:=by rw[b_,aO];omega
 have e:(le t.ver 4++ax t.ins.length)++eG Hv t.ins 0=le t.ver 4++ax t.ins.length++wI t.ins:=rfl;have c:mi t=(le t.ver 4++ax t.ins.length++wI t.ins)++(ax t.outs.length++(kh t.outs++le t.lock 4)):=by simp[mi]
 rw[c];generalize le t.ver 4++ax t.ins.length++wI t.ins=R1 at *;generalize le t.ver 4++ax t.ins.length=B0 at *;simp[go_sem,bZ,bF,G,Blk.ren,aS,dD,AV.renL,AV.ren,bX]
 refine au (fun u:Nat×List Nat=>⟨[(1,.ptr 0 0 0 1),(3,.own 352 0 u.2.length u.2.length),(18,.d (.ro 35 (t.ins.map eI))),(19,.d (.int .i64 (t.ins.length:Int))),(20,.d (.int .i64 (u.1:Int)))],[(352,⟨5,1,rb u.2⟩),(0,⟨26,4,[eT t]⟩)],2000⟩)
  (fun u=>u.1≤t.ins.length∧u.2.length≤9+40*u.1∧u.2++eG Hv t.ins u.1=R1) (fun u=>t.ins.length-u.1) (0,B0) ⟨aw,by simp;omega,e⟩ (by
   simp[av,ah,fv,lk,AV.low,AV.low1,eT]
   exact aT _ _) ?_
 rintro⟨k,B⟩⟨z,F,f⟩;simp only at z F f;simp only[eT];simp only[go_sem,Nat.reduceEqDiff,Nat.reduceAdd,Nat.reduceLT,↓reduceIte,Nat.reduceMul];refine⟨fun h=>?_,fun h=>?_⟩
 ·obtain⟨i,x,H⟩:=bg (l:=t.ins) (k:=k) aq;obtain⟨a,q,y⟩:=Z i (cr x);have L:=az (k:=k) aq;have S:=AA a;have D:=s6 a;have w:=oZ a;have M:=Dh a;simp[go_sem]at M;simp[go_sem,x,D,Df,w,oc a,oe,M,aL,TX a,kL];refine⟨aq,?_⟩;have s:(B++i.hash).length=B.length+32:=by rw[b_,a]
  refine jy [352] (gl (B++i.hash) i.idx aq q) rfl (ak (.one (ao (bm s rfl aw))) (ak (.deep a9) aC)) (fun ρ=>by simp[AV.renL,AV.ren]) ?_;rintro r E⟨I,rfl,G⟩;refine⟨[(I,0)],by simp[dp,ii],?_⟩;have U:(B++i.hash++le i.idx 4).length=B.length+36:=by rw[b_,s,aO]
  have g:B++Hv i=B++i.hash++le i.idx 4++le i.seq 4:=by simp[Hv]
  generalize B++i.hash++le i.idx 4=B1 at *;simp[go_sem,bZ,bF,G,Blk.ren,aS,dD,AV.renL,AV.ren,bX,aN,w,TY a];refine jy [2480] (gl B1 i.seq aq y) rfl (ak (.one (ao (bm rfl rfl aw))) (ak (.deep a9) aC)) (fun ρ=>by simp[AV.renL,AV.ren]) ?_;rintro r O⟨J,rfl,v⟩;refine⟨[(J,0)],by simp[dp,ii],?_⟩;have C:(B1++le i.seq 4).length=B1.length+4:=by rw[b_,aO]
  rw[←g]at v C⊢;generalize K:B++Hv i=B2 at *;simp[go_sem,bZ,bF,v,Blk.ren,aS,dD,AV.renL,AV.ren,bX,aN,L];refine B5 (k+1,B2) ⟨by simp only;omega,by simp only;omega,by rw[←K];exact dV H f⟩ (by simp only;omega) [(0,0),(2640,352)] 9000 (by decide) (by decide) (by decide) (by decide) ?_;simp[EW,BZ,bX,AV.ren,Blk.ren,aS,dD,av,ah,fv,lk,AV.low,AV.low1,AV.renL,eT];exact aT _ _
 ·have m:k=t.ins.length:=aq;subst m;have:=dW f;subst this;clear f e h z;have e:(B++ax t.outs.length)++eG ga t.outs 0=B++ax t.outs.length++kh t.outs:=rfl;have c:B++(ax t.outs.length++(kh t.outs++le t.lock 4))=(B++ax t.outs.length++kh t.outs)++le t.lock 4:=by simp
  rw[c];simp[go_sem,w2];refine bn [352] (wL B t.outs.length aq aq) rfl (ak (.one (ao (bm rfl rfl aw))) (ak (.deep a9) aC)) ?_;have N:(B++ax t.outs.length).length≤300:=by rw[b_];omega
  generalize B++ax t.outs.length++kh t.outs=R2 at *;generalize B++ax t.outs.length=B1 at *;simp[go_sem,aN]
  refine au (fun u:Nat×List Nat=>⟨[(1,.ptr 0 0 0 1),(3,.d (nb u.2)),(46,.d (.ro 2 (t.outs.map eO))),(47,.d (.int .i64 (t.outs.length:Int))),(48,.d (.int .i64 (u.1:Int)))],[(0,⟨26,4,[eT t]⟩)],9000⟩)
   (fun u=>u.1≤t.outs.length∧u.2.length≤300+613*u.1∧u.2++eG ga t.outs u.1=R2) (fun u=>t.outs.length-u.1) (0,B1) ⟨aw,by simp;omega,e⟩ (by
    simp[av,ah,fv,lk,AV.low,AV.low1,eT]) ?_
  rintro⟨k,b⟩⟨z,n,f⟩;simp only at z n f;simp only[eT];simp only[go_sem,Nat.reduceEqDiff,Nat.reduceAdd,Nat.reduceLT,↓reduceIte,Nat.reduceMul];refine⟨fun h=>?_,fun h=>?_⟩
  ·obtain⟨o,j,H⟩:=bg (l:=t.outs) (k:=k) aq;have p:=V o (cr j);have ac:=X o (cr j);have L:=az (k:=k) aq;have Y:=wM o;simp[go_sem,j,eO];refine ag (wK b o.1 aq p) a9 ?_;simp[go_sem];have aa:(b++le o.1 8).length=b.length+8:=(by rw[b_,aO])
   have g:b++ga o=b++le o.1 8++(ax o.2.length++o.2):=(by simp[ga,cE]);refine ag (fY (b++le o.1 8) o.2 aq aq) a9 ?_;rw[←g];have Q:(b++ga o).length=b.length+(ga o).length:=b_;simp[go_sem,L];refine am (k+1,b++ga o) ⟨by simp only;omega,by simp only;omega,dV H f⟩ (by simp only;omega) ?_;simp[av,ah,fv,lk,AV.low,AV.low1,eT]
  ·have m:k=t.outs.length:=aq;subst m;have:=dW f;subst this;simp[go_sem];refine ag (iV b t.lock aq A) a9 ?_;simp[go_sem];exact ae a9 (by rw[c])
theorem QR{i:Ip}(h:i.hash.length=32):((eI i).take 32).map (fun c=>[c])=i.hash.map fun(b:Nat)=>[DV.int .u8 (b:Int)]:=by
 unfold eI;rw[List.take_append_of_le_length (by rw[bV];omega),cx (by rw[bV];omega)];simp[cd]
theorem MM(t:Tn)(ht:Sm t):ap Tryz.prog 149 [.agg (eT t)] (fun r=>r=.d (nb (mi t))):=by
 obtain⟨⟨hv,S,Z,U⟩,h1,h2,X,h4⟩:=ht;refine bz Tryz.func149 Tryz.ntmps149 (rs:=[.tmp 2]) (by simp[AV.deep,AV.deep1,eT]) ?_;have N:IntKind.u64.wrap (t.ins.length:Int)=(t.ins.length:Int):=by rw[ij];omega
 have w2:IntKind.u64.wrap (t.outs.length:Int)=(t.outs.length:Int):=by rw[ij];omega
 have Q:IntKind.u64.wrap (t.ver:Int)=(t.ver:Int):=by rw[ij];omega
 have wl:IntKind.u64.wrap (t.lock:Int)=(t.lock:Int):=by rw[ij];omega
 have R:=cj t.ins.length;have V:=cj t.outs.length;simp[go_sem,eT,Q];refine bn [] (rD [] t.ver 4 4 rfl aw aq aq) rfl (ak (.one (ao (.nil 1))) (ak (.deep a9) (ak (.deep a9) aC))) ?_;simp[go_sem,aN,N];refine aZ [] (mM (le t.ver 4) t.ins.length (by simp[aO]) aq) rfl aw aw aw (by simp[AV.renL,AV.ren]) ?_;rintro r z⟨I,rfl,D⟩;refine⟨[(I,0)],by simp[dp,ii],?_⟩;have ab:(le t.ver 4++ax t.ins.length).length≤9:=by rw[b_,aO];omega
 have f:(le t.ver 4++ax t.ins.length)++eG Hv t.ins 0=le t.ver 4++ax t.ins.length++wI t.ins:=rfl;have c:mi t=(le t.ver 4++ax t.ins.length++wI t.ins)++(ax t.outs.length++(kh t.outs++le t.lock 4)):=by simp[mi]
 rw[c];generalize le t.ver 4++ax t.ins.length++wI t.ins=R1 at *;generalize le t.ver 4++ax t.ins.length=B0 at *;simp[go_sem,bZ,bF,D,Blk.ren,aS,dD,AV.renL,AV.ren,bX]
 refine au (fun u:Nat×List Nat=>⟨[(1,.ptr 0 0 0 1),(3,.own 384 0 u.2.length u.2.length),(4,.d (.int .i64 (u.1:Int)))],[(384,⟨5,1,rb u.2⟩),(0,⟨26,4,[eT t]⟩)],2000⟩)
  (fun u=>u.1≤t.ins.length∧u.2.length≤9+40*u.1∧u.2++eG Hv t.ins u.1=R1) (fun u=>t.ins.length-u.1) (0,B0) ⟨aw,by simp;omega,f⟩ (by
   simp[av,ah,fv,lk,AV.low,AV.low1,eT]
   exact aT _ _) ?_
 rintro⟨k,B⟩⟨w,C,g⟩;simp only at w C g;simp only[eT];simp only[go_sem,Nat.reduceEqDiff,Nat.reduceAdd,Nat.reduceLT,↓reduceIte,Nat.reduceMul];refine⟨fun h=>?_,fun h=>?_⟩
 ·obtain⟨i,n,E⟩:=bg (l:=t.ins) (k:=k) aq;obtain⟨a,K,L⟩:=Z i (cr n);have G:=az (k:=k) aq;have O:=AA a;have y:=s6 a;have wx:IntKind.u64.wrap (i.idx:Int)=(i.idx:Int):=by rw[ij];omega
  have W:IntKind.u64.wrap (i.seq:Int)=(i.seq:Int):=by rw[ij];omega
  have A:=QR a;simp[go_sem,n,y,A,acC a,ZF a,dC,aL,kL,wx,a];refine⟨aq,?_⟩;have s:(B++i.hash).length=B.length+32:=by rw[b_,a]
  refine jy [384] (lZ (B++i.hash) i.idx 4 4 rfl aq aq aq) rfl (ak (.one (ao (bm s rfl aw))) (ak (.deep a9) (ak (.deep a9) aC))) (fun ρ=>by simp[AV.renL,AV.ren]) ?_;rintro r z⟨rfl,D⟩;refine⟨[(33,0)],by simp[dp,ii],?_⟩;have T:(B++i.hash++le i.idx 4).length=B.length+36:=by rw[b_,s,aO]
  have j:B++Hv i=B++i.hash++le i.idx 4++le i.seq 4:=by simp[Hv]
  generalize B++i.hash++le i.idx 4=B1 at *;simp[go_sem,bZ,bF,D,Blk.ren,aS,dD,AV.renL,AV.ren,bX,aN,n,ZF a,W];refine jy [2768] (lZ B1 i.seq 4 4 rfl aq aq aq) rfl (ak (.one (ao (bm rfl rfl aw))) (ak (.deep a9) (ak (.deep a9) aC))) (fun ρ=>by simp[AV.renL,AV.ren]) ?_;rintro r J⟨rfl,v⟩;refine⟨[(33,0)],by simp[dp,ii],?_⟩;have x:(B1++le i.seq 4).length=B1.length+4:=by rw[b_,aO]
  rw[←j]at v x⊢;generalize F:B++Hv i=B2 at *;simp[go_sem,bZ,bF,v,Blk.ren,aS,dD,AV.renL,AV.ren,bX,aN,G];refine B5 (k+1,B2) ⟨by simp only;omega,by simp only;omega,by rw[←F];exact dV E g⟩ (by simp only;omega) [(0,0),(3088,384)] 9000 (by decide) (by decide) (by decide) (by decide) ?_;simp[EW,BZ,bX,AV.ren,Blk.ren,aS,dD,av,ah,fv,lk,AV.low,AV.low1,AV.renL,eT];exact aT _ _
 ·have m:k=t.ins.length:=aq;subst m;have:=dW g;subst this;clear g f h w;have f:(B++ax t.outs.length)++eG ga t.outs 0=B++ax t.outs.length++kh t.outs:=rfl;have c:B++(ax t.outs.length++(kh t.outs++le t.lock 4))=(B++ax t.outs.length++kh t.outs)++le t.lock 4:=by simp
  rw[c];simp[go_sem,w2];refine bn [384] (tZ B t.outs.length aq aq) rfl (ak (.one (ao (bm rfl rfl aw))) (ak (.deep a9) aC)) ?_;have H:(B++ax t.outs.length).length≤300:=by rw[b_];omega
  generalize B++ax t.outs.length++kh t.outs=R2 at *;generalize B++ax t.outs.length=B1 at *;simp[go_sem,aN]
  refine au (fun u:Nat×List Nat=>⟨[(1,.ptr 0 0 0 1),(3,.d (nb u.2)),(5,.d (.int .i64 (u.1:Int)))],[(0,⟨26,4,[eT t]⟩)],9000⟩)
   (fun u=>u.1≤t.outs.length∧u.2.length≤300+613*u.1∧u.2++eG ga t.outs u.1=R2) (fun u=>t.outs.length-u.1) (0,B1) ⟨aw,by simp;omega,f⟩ (by
    simp[av,ah,fv,lk,AV.low,AV.low1,eT]) ?_
  rintro⟨k,b⟩⟨w,p,g⟩;simp only at w p g;simp only[eT];simp only[go_sem,Nat.reduceEqDiff,Nat.reduceAdd,Nat.reduceLT,↓reduceIte,Nat.reduceMul];refine⟨fun h=>?_,fun h=>?_⟩
  ·obtain⟨o,e,E⟩:=bg (l:=t.outs) (k:=k) aq;have q:=U o (cr e);have ac:=X o (cr e);have G:=az (k:=k) aq;have Y:=wM o;simp[go_sem,e,eO];refine ag (rD b o.1 8 8 rfl aq q aq) a9 ?_;simp[go_sem,e,eO];have aa:(b++le o.1 8).length=b.length+8:=(by rw[b_,aO])
   have j:b++ga o=b++le o.1 8++(ax o.2.length++o.2):=(by simp[ga,cE]);refine ag (rF (b++le o.1 8) o.2 aq aq) a9 ?_;rw[←j];have M:(b++ga o).length=b.length+(ga o).length:=b_;simp[go_sem,G];refine am (k+1,b++ga o) ⟨by simp only;omega,by simp only;omega,dV E g⟩ (by simp only;omega) ?_;simp[av,ah,fv,lk,AV.low,AV.low1,eT]
  ·have m:k=t.outs.length:=aq;subst m;have:=dW g;subst this;simp[go_sem,wl];refine ag (rD b t.lock 4 4 rfl aq aq aq) a9 ?_;simp[go_sem];exact ae a9 (by rw[c])
theorem yQ{t:Tn}(q:Sm t):(mi t).length≤4000:=by
 obtain⟨⟨x,g,n,s⟩,c,d,b,w⟩:=q;have f:=cj t.ins.length;have k:=cj t.outs.length;have m:∀l:List Ip,(∀i,i∈l→i.hash.length=32)→(wI l).length=40*l.length:=by
  intro l
  induction l with
  |nil=>intro _;rfl
  |cons i r ih =>
   intro h;have c:=ih fun j a=>h j (cS _ a);have d:=AA (h i (dz ..));have e:(wI (i::r)).length=(Hv i).length+(wI r).length:=(by simp[wI]);rw[e,List.length_cons];omega
 have p:∀l:List (Nat×List Nat),(∀o,o∈l→o.2.length≤600)→(kh l).length≤613*l.length:=by
  intro l
  induction l with
  |nil=>intro _;simp[kh]
  |cons i r ih =>
   intro h;have c:=ih fun j a=>h j (cS _ a);have d:=wM i;have b:=h i (dz ..);have e:(kh (i::r)).length=(ga i).length+(kh r).length:=(by simp[kh]);rw[e,List.length_cons];omega
 have v:=m t.ins fun i h=>(n i h).1;have u:=p t.outs b;unfold mi;simp only[b_,aO];omega
def Yf(i:Ip):List Nat:=nk i.wit
theorem MN(t:Tn)(o:Sm t):ap Tryz.prog 102 [.agg (eT t)] (fun r=>r=.d (nb (io t))):=by
 have A:=yQ o;refine bz Tryz.func102 Tryz.ntmps102 (rs:=[.tmp 2]) (by simp[AV.deep,AV.deep1,eT]) ?_;simp[go_sem,eT];refine ag (QQ t o) (by simp[AV.deep,AV.deep1,eT]) ?_;obtain⟨⟨I,v,x,E⟩,G,H,F,y⟩:=o;have g:mi t++eG Yf t.ins 0=io t:=rfl;generalize io t=R at *;generalize mi t=B0 at *;simp[go_sem]
 refine au (fun u:Nat×List Nat=>⟨[(3,.d (nb u.2)),(9,.d (.ro 35 (t.ins.map eI))),(10,.d (.int .i64 (t.ins.length:Int))),(11,.d (.int .i64 (u.1:Int)))],[],9000⟩)
  (fun u=>u.1≤t.ins.length∧u.2.length≤4000+3635*u.1∧u.2++eG Yf t.ins u.1=R) (fun u=>t.ins.length-u.1) (0,B0) ⟨aw,by simp;omega,g⟩ (by
   simp[av,ah,fv,lk,AV.low,AV.low1]) ?_
 rintro⟨k,B⟩⟨w,e,n⟩;simp only at w e n;simp only[go_sem,Nat.reduceEqDiff,Nat.reduceAdd,Nat.reduceLT,↓reduceIte,Nat.reduceMul];refine⟨fun h=>?_,fun h=>?_⟩
 ·obtain⟨i,b,C⟩:=bg (l:=t.ins) (k:=k) aq;obtain⟨a,p,s⟩:=x i (cr b);have D:=az (k:=k) aq;have c:=s6 a;have m:=oZ a;have q:=y i (cr b);have z:=yP q;simp[go_sem,b,c,Df,m,oc a,oe,TZ a];refine ag (FD B i.wit aq q) a9 ?_;simp[go_sem,D];refine am (k+1,B++nk i.wit) ⟨by simp only;omega,by simp only[b_];omega,dV (f:=Yf) C n⟩ (by simp only;omega) ?_;simp[av,ah,fv,lk,AV.low,AV.low1]
 ·have j:k=t.ins.length:=aq;subst j;have:=dW n;subst this;simp[go_sem];exact ae a9 rfl
theorem Jb(t:Tn)(m:Sm t):ap Tryz.prog 108 [.agg (eT t)] (fun r=>r=.d (nb (io t))):=by
 have y:=yQ m;refine bz Tryz.func108 Tryz.ntmps108 (rs:=[.tmp 2]) (by simp[AV.deep,AV.deep1,eT]) ?_;simp[go_sem,eT];refine ag (MM t m) (by simp[AV.deep,AV.deep1,eT]) ?_;obtain⟨⟨G,q,v,C⟩,E,F,D,w⟩:=m;have e:mi t++eG Yf t.ins 0=io t:=rfl;generalize io t=R at *;generalize mi t=B0 at *;simp[go_sem]
 refine au (fun u:Nat×List Nat=>⟨[(1,.ptr 0 0 0 1),(3,.d (nb u.2)),(4,.d (.int .i64 (u.1:Int)))],[(0,⟨26,4,[eT t]⟩)],9000⟩)
  (fun u=>u.1≤t.ins.length∧u.2.length≤4000+3635*u.1∧u.2++eG Yf t.ins u.1=R) (fun u=>t.ins.length-u.1) (0,B0) ⟨aw,by simp;omega,e⟩ (by
   simp[av,ah,fv,lk,AV.low,AV.low1,eT]) ?_
 rintro⟨k,B⟩⟨s,c,j⟩;simp only at s c j;simp only[eT];simp only[go_sem,Nat.reduceEqDiff,Nat.reduceAdd,Nat.reduceLT,↓reduceIte,Nat.reduceMul];refine⟨fun h=>?_,fun h=>?_⟩
 ·obtain⟨i,a,z⟩:=bg (l:=t.ins) (k:=k) aq;obtain⟨b,n,p⟩:=v i (cr a);have A:=az (k:=k) aq;have o:=w i (cr a);have x:=yP o;simp[go_sem,a,wH b];refine ag (Dc B i.wit aq o) a9 ?_;simp[go_sem,A];refine am (k+1,B++nk i.wit) ⟨by simp only;omega,by simp only[b_];omega,dV (f:=Yf) z j⟩ (by simp only;omega) ?_;simp[av,ah,fv,lk,AV.low,AV.low1,eT]
 ·have g:k=t.ins.length:=aq;subst g;have:=dW j;subst this;simp[go_sem];exact ae a9 rfl
theorem Jc{t:Tn}(h:Sm t):gx 20 30 1000 t=true:=by
 obtain⟨_,j,k,a,b⟩:=h;simp only[gx,Bool.and_eq_true,decide_eq_true_eq,cX,im,fl,d7];refine⟨aq,aq,fun o e=>by have:=a o e;omega,fun i d=>?_⟩;obtain⟨g,f⟩:=b i d;exact⟨aq,fun x c=>by have:=f x c;omega⟩
theorem Jd{xs:List (List Nat)}(h:ZH xs):fl 1000 xs=true:=by
 simp only[fl,d7,decide_eq_true_eq];exact fun x a=>by have:=h.2 x a;omega
theorem Je(t:Tn)(B:Sm t):ap Tryz.prog 101 [.agg (eT t)] (fun r=>r=.d (.bool true)):=by
 refine bz Tryz.func101 Tryz.ntmps101 (rs:=[.tmp 2]) (by simp[AV.deep,AV.deep1,eT]) ?_;obtain⟨⟨F,q,x,C⟩,D,E,w,y⟩:=B;have u:¬ 20<(t.ins.length:Int):=aq;have i2:¬ 20<(t.outs.length:Int):=aq;simp[go_sem,eT,u,i2]
 refine au (fun k:Nat=>⟨[(1,.ptr 0 0 0 1),(18,.d (.ro 2 (t.outs.map eO))),(19,.d (.int .i64 (t.outs.length:Int))),(20,.d (.int .i64 (k:Int)))],[(0,⟨26,4,[eT t]⟩)],9000⟩)
  (fun k=>k≤t.outs.length) (fun k=>t.outs.length-k) 0 aw (by
   simp[av,ah,fv,lk,AV.low,AV.low1,eT]) ?_
 intro k s;simp only[eT];simp only[go_sem,Nat.reduceEqDiff,Nat.reduceAdd,Nat.reduceLT,↓reduceIte,Nat.reduceMul];refine⟨fun h=>?_,fun h=>?_⟩
 ·obtain⟨o,c,z⟩:=bg (l:=t.outs) (k:=k) aq;have A:=w o (cr c);have j:=az (k:=k) aq;simp[go_sem,c,eO];refine ag (Hu o.2) a9 ?_;have f:¬ 1000<o.2.length:=aq;simp[go_sem,f,j];refine am (k+1) aq aq ?_;simp[av,ah,fv,lk,AV.low,AV.low1,eT]
 ·simp[go_sem]
  refine au (fun k:Nat=>⟨[(1,.ptr 0 0 0 1),(29,.d (.ro 35 (t.ins.map eI))),(30,.d (.int .i64 (t.ins.length:Int))),(31,.d (.int .i64 (k:Int)))],[(0,⟨26,4,[eT t]⟩)],19000⟩)
   (fun k=>k≤t.ins.length) (fun k=>t.ins.length-k) 0 aw (by
    simp[av,ah,fv,lk,AV.low,AV.low1,eT]) ?_
  intro k s;simp only[eT];simp only[go_sem,Nat.reduceEqDiff,Nat.reduceAdd,Nat.reduceLT,↓reduceIte,Nat.reduceMul];refine⟨fun h=>?_,fun h=>?_⟩
  ·obtain⟨i,b,z⟩:=bg (l:=t.ins) (k:=k) aq;obtain⟨a,m,p⟩:=x i (cr b);have j:=az (k:=k) aq;have e:=s6 a;have g:=oZ a;have n:=y i (cr b);have v:=n.1;have f:¬ 30<(i.wit.length:Int):=aq;simp[go_sem,b,e,Df,g,oc a,oe,TZ a,f];refine ag (Ax i.wit aq) a9 ?_;simp[go_sem,Jd n,j];refine am (k+1) aq aq ?_;simp[av,ah,fv,lk,AV.low,AV.low1,eT]
  ·simp[go_sem];exact ae a9 rfl
def mR(t:Tn):Int:=if 12000<(io t).length then 4 else 0
theorem yR(t:Tn)(b:Sm t):ap Tryz.prog 54 [.agg (eT t)] (fun r=>r=.d (.int .i64 (mR t))):=by
 refine bz Tryz.func54 Tryz.ntmps54 (rs:=[.tmp 2]) (by simp[AV.deep,AV.deep1,eT]) ?_;simp[go_sem,eT];refine ag (Je t b) (by simp[AV.deep,AV.deep1,eT]) ?_;simp[go_sem];refine ag (MN t b) (by simp[AV.deep,AV.deep1,eT]) ?_;have hc:mR t=if 12000<(io t).length then 4 else 0:=rfl;rw[hc];by_cases h:12000<(io t).length
 ·have a:12000<((io t).length:Int):=aq;simp[go_sem,nb,a,h];exact ae a9 rfl
 ·have a:¬ 12000<((io t).length:Int):=aq;simp[go_sem,nb,a,h];exact ae a9 rfl
theorem FG(t:Tn)(b:Sm t):ap Tryz.prog 61 [.agg (eT t)] (fun r=>r=.d (.int .i64 (mR t))):=by
 refine bz Tryz.func61 Tryz.ntmps61 (rs:=[.tmp 2]) (by simp[AV.deep,AV.deep1,eT]) ?_;simp[go_sem,eT];refine ag (FC t b.1) (by simp[AV.deep,AV.deep1,eT]) ?_;rw[Jc b];simp[go_sem];refine ag (Jb t b) (by simp[AV.deep,AV.deep1,eT]) ?_;have hc:mR t=if 12000<(io t).length then 4 else 0:=rfl;rw[hc];by_cases h:12000<(io t).length
 ·have a:12000<((io t).length:Int):=aq;simp[go_sem,nb,a,h];exact ae a9 rfl
 ·have a:¬ 12000<((io t).length:Int):=aq;simp[go_sem,nb,a,h];exact ae a9 rfl
def cp(t:Tn)(n:Int)(coins:List (Nat×List Nat)):Int :=
 if mR t≠0∨coins.length≠t.ins.length∨n<0∨(coins.length:Int)≤n∨cX 1000 coins=false then 1 else 0
theorem mj(t:Tn)(n:Int)(coins:List (Nat×List Nat))(f:Sm t)(hc:coins.length≤1000):ap Tryz.prog 45 [.agg (eS t n coins)] (fun r=>r=.d (.int .i64 (cp t n coins))):=by
 refine bz Tryz.func45 Tryz.ntmps45 (rs:=[.tmp 2]) (by simp[AV.deep,AV.deep1,eS]) ?_;generalize c:cp t n coins=X;simp[go_sem,eS];refine ag (yR t f) (by simp[AV.deep,AV.deep1,eT]) ?_;by_cases b:mR t=0
 ·by_cases c2:(coins.length:Int)=(t.ins.length:Int)
  ·by_cases c3:n<0
   ·have:X=1:=by rw[←c];simp[cp,c3]
    subst this;simp[go_sem,b,c2,c3];exact ae a9 rfl
   ·by_cases c4:(coins.length:Int)≤n
    ·have:X=1:=by rw[←c];simp[cp,c4]
     subst this;have a:(t.ins.length:Int)≤n:=aq;simp[go_sem,b,c2,c3,c4,a];exact ae a9 rfl
    ·have a:¬(t.ins.length:Int)≤n:=aq;simp[go_sem,b,c2,c3,c4,a];refine ag (Az coins aq) a9 ?_
     have e:X=if cX 1000 coins=false then 1 else 0:=by
      rw[←c];unfold cp;have:coins.length=t.ins.length:=aq;simp[b,this,c3,a]
     rw[e];cases cX 1000 coins
     ·simp[go_sem];exact ae a9 rfl
     ·simp[go_sem];exact ae a9 rfl
  ·have:X=1:=by rw[←c];unfold cp;rw[if_pos (.inr (.inl aq))]
   subst this;simp[go_sem,b,c2];exact ae a9 rfl
 ·have:X=1:=by rw[←c];simp[cp,b]
  subst this;simp[go_sem,b];exact ae a9 rfl
theorem FH(t:Tn)(n:Int)(coins:List (Nat×List Nat))(u:Sm t)(hc:coins.length≤1000):ap Tryz.prog 19 [.agg (eS t n coins)] (fun r=>r=.d (.int .i64 (cp t n coins))):=by
 refine bz Tryz.func19 Tryz.ntmps19 (rs:=[.tmp 2]) (by simp[AV.deep,AV.deep1,eS]) ?_;generalize f:cp t n coins=X;simp[go_sem,eS];refine ag (FG t u) (by simp[AV.deep,AV.deep1,eT]) ?_;by_cases b:mR t=0
 ·by_cases c2:(coins.length:Int)=(t.ins.length:Int)
  ·by_cases c3:n<0
   ·have:X=1:=by rw[←f];simp[cp,c3]
    subst this;simp[go_sem,b,c2,c3];exact ae a9 rfl
   ·by_cases c4:(coins.length:Int)≤n
    ·have:X=1:=by rw[←f];simp[cp,c4]
     subst this;have a:(t.ins.length:Int)≤n:=aq;simp[go_sem,b,c2,c3,c4,a];exact ae a9 rfl
    ·have a:¬(t.ins.length:Int)≤n:=aq;have e:X=if cX 1000 coins=false then 1 else 0:=by
      rw[←f];unfold cp;have:coins.length=t.ins.length:=aq;simp[b,this,c3,a]
     rw[e];simp[go_sem,b,c2,c3,c4,a]
     refine au (fun k:Nat=>⟨[(1,.ptr 0 0 0 1),(3,.d (.int .i64 (k:Int)))],[(0,⟨28,6,[eS t n coins]⟩)],2000⟩)
      (fun k=>k≤coins.length∧cX 1000 (coins.drop k)=cX 1000 coins) (fun k=>coins.length-k) 0 ⟨aq,rfl⟩ (by
       simp[av,ah,fv,lk,AV.low,AV.low1,eS]) ?_
     rintro k⟨v,g⟩;simp only[eS];simp only[go_sem,Nat.reduceEqDiff,Nat.reduceAdd,Nat.reduceLT,↓reduceIte,Nat.reduceMul];refine⟨fun h=>?_,fun h=>?_⟩
     ·obtain⟨o,c,p⟩:=bg (l:=coins) (k:=k) aq;have q:=az (k:=k) aq;by_cases m:o.2.length≤1000
      ·have i:¬ 1000<(o.2.length:Int):=aq;simp[go_sem,c,eO,nb,i,q];refine am (k+1) ⟨aq,gK p g (by simpa using m)⟩ aq ?_;simp[av,ah,fv,lk,AV.low,AV.low1,eS]
      ·have i:1000<(o.2.length:Int):=aq;have:=fA p g (by simpa using m);simp[go_sem,c,eO,nb,i];exact ae a9 (by rw[show cX 1000 coins=false from this];rfl)
     ·have j:k=coins.length:=aq;subst j;have s:cX 1000 coins=true:=gQ g;simp[go_sem];exact ae a9 (by rw[s];rfl)
  ·have:X=1:=by rw[←f];unfold cp;rw[if_pos (.inr (.inl aq))]
   subst this;simp[go_sem,b,c2];exact ae a9 rfl
 ·have:X=1:=by rw[←f];simp[cp,b]
  subst this;simp[go_sem,b];exact ae a9 rfl
def wO(t:Tn)(coins:List (Nat×List Nat)):Bool:=gx 6 6 600 t&&(decide (coins.length≤8)&&cX 1100 coins)
theorem Jf(t:Tn)(n:Int)(coins:List (Nat×List Nat))(s:t.ok):ap Tryz.prog 28 [.agg (eS t n coins)] (fun r=>r=.d (.bool (wO t coins))):=by
 refine bz Tryz.func28 Tryz.ntmps28 (rs:=[.tmp 2]) (by simp[AV.deep,AV.deep1,eS]) ?_;generalize c:wO t coins=X;unfold wO at c;simp[go_sem,eS];refine ag (FB t s) (by simp[AV.deep,AV.deep1,eT]) ?_;generalize gx 6 6 600 t=W at *
 cases W
 ·simp at c;subst c;simp[go_sem];exact ae a9 rfl
 ·by_cases c2:coins.length≤8
  ·have a:¬ 8<(coins.length:Int):=aq;have e:X=cX 1100 coins:=by rw[←c];simp[c2]
   rw[e];simp[go_sem,a]
   refine au (fun k:Nat=>⟨[(1,.ptr 0 0 0 1),(3,.d (.int .i64 (k:Int)))],[(0,⟨28,6,[eS t n coins]⟩)],2000⟩)
    (fun k=>k≤coins.length∧cX 1100 (coins.drop k)=cX 1100 coins) (fun k=>coins.length-k) 0 ⟨aq,rfl⟩ (by
     simp[av,ah,fv,lk,AV.low,AV.low1,eS]) ?_
   rintro k⟨u,f⟩;simp only[eS];simp only[go_sem,Nat.reduceEqDiff,Nat.reduceAdd,Nat.reduceLT,↓reduceIte,Nat.reduceMul];refine⟨fun h=>?_,fun h=>?_⟩
   ·obtain⟨o,b,m⟩:=bg (l:=coins) (k:=k) aq;have p:=az (k:=k) aq;by_cases j:o.2.length≤1100
    ·have g:¬ 1100<(o.2.length:Int):=aq;simp[go_sem,b,eO,nb,g,p];refine am (k+1) ⟨aq,gK m f (by simpa using j)⟩ aq ?_;simp[av,ah,fv,lk,AV.low,AV.low1,eS]
    ·have g:1100<(o.2.length:Int):=aq;have:=fA m f (by simpa using j);simp[go_sem,b,eO,nb,g];exact ae a9 (by rw[show cX 1100 coins=false from this])
   ·have i:k=coins.length:=aq;subst i;have q:cX 1100 coins=true:=gQ f;simp[go_sem];exact ae a9 (by rw[q])
  ·have a:8<(coins.length:Int):=aq;have:X=false:=by rw[←c];simp[c2]
   subst this;simp[go_sem,a];exact ae a9 rfl
theorem AB(t:Tn)(n:Int)(coins:List (Nat×List Nat))(a:Int)(h:a<0∨(t.outs.length:Int)≤a):ap Tryz.prog 110 [.agg (eS t n coins),.d (.int .i64 a)] (fun r=>r=.tup [.nil,.d (.bool false)]):=by
 refine bz Tryz.func110 Tryz.ntmps110 (rs:=[.tmp 4,.tmp 5]) (by simp[AV.deep,AV.deep1,eS]) ?_;by_cases b:a<0
 ·simp[go_sem,eS,b,ai];exact ae a9 rfl
 ·have c:(t.outs.length:Int)≤a:=aq;simp[go_sem,eS,b,c,ai];exact ae a9 rfl
theorem wP(t:Tn)(n:Int)(coins:List (Nat×List Nat))(k:Nat)(o:Nat×List Nat)(h:t.outs[k]?=some o):ap Tryz.prog 110 [.agg (eS t n coins),.d (.int .i64 (k:Int))] (fun r=>r=.tup [.d (nb o.2),.d (.bool true)]):=by
 refine bz Tryz.func110 Tryz.ntmps110 (rs:=[.tmp 4,.tmp 5]) (by simp[AV.deep,AV.deep1,eS]) ?_;have e:=(ci.1 h).1;have a:¬(k:Int)<0:=aq;have c:¬(t.outs.length:Int)≤(k:Int):=aq;have b:¬t.outs.length≤k:=aq;simp[go_sem,eS,a,c,b,h,eO,ai];exact ae a9 rfl
theorem kV(a b:List Nat)(e:bytes a)(c:bytes b):ap Tryz.prog 111 [.d (nb a),.d (nb b)] (fun r=>r=.d (.bool (decide (a=b)))):=by
 refine bz Tryz.func111 Tryz.ntmps111 (rs:=[.tmp 4]) a9 ?_;simp[go_sem,nb];refine Hf a 5 e (by simp[go_sem]) (by simp[go_sem]) Tryz.underlying5 ?_;simp[go_sem,nb];refine Hf b 5 c (by simp[go_sem]) (by simp[go_sem]) Tryz.underlying5 ?_;simp[go_sem,VN];exact ae a9 rfl
def wQ(t:Tn)(n:Int)(coins:List (Nat×List Nat))(b:List Nat)(a:Int):Int×Int×Int :=
 if cp t n coins≠0 then(0,0,1)
 else match t.outs[a.toNat]? with
  |some o=>if 0≤a then(if pG o.2=b then(a,(((coins[n.toNat]?.map (·.1)).getD 0:Nat):Int),0)else(0,0,24))else(0,0,24)
  |none=>(0,0,24)
def ZJ(x:Int×Int×Int):AV:=.tup [.agg [.d (.int .i64 x.1),.d (.int .u64 x.2.1)],.d (.int .i64 x.2.2)]
theorem ZK{t:Tn}{n:Int}{coins:List (Nat×List Nat)}{a:List Nat}{b:Int}(h:cp t n coins=1):wQ t n coins a b=(0,0,1):=by
 simp[wQ,h]
theorem ZL{t:Tn}{n:Int}{coins:List (Nat×List Nat)}{b:List Nat}{a:Int}(h:cp t n coins=0)(c:a<0∨(t.outs.length:Int)≤a):wQ t n coins b a=(0,0,24):=by
 rcases c with c|c;have:¬ 0≤a:=aq;simp only[wQ,h,this];cases t.outs[a.toNat]?<;>simp;have:t.outs[a.toNat]?=none:=List.getElem?_eq_none aq;simp[wQ,h,this]
theorem mS(t:Tn)(n:Int)(coins:List (Nat×List Nat)):cp t n coins=1∨(cp t n coins=0∧0≤n∧n<(coins.length:Int)):=by
 unfold cp;split;exact .inl rfl;rename_i h;exact .inr ⟨rfl,aq,aq⟩
theorem FI(t:Tn)(n:Int)(coins:List (Nat×List Nat))(a:List Nat)(b:Int)(j:Sm t)(hc:coins.length≤1000)(v:bytes a) :
  ap Tryz.prog 234 [.agg (eS t n coins),.d (nb a),.d (.int .i64 b)] (fun r=>r=ZJ (wQ t n coins a b)):=by
 refine bz Tryz.func234 Tryz.ntmps234 (rs:=[.cell 6 55,.tmp 7]) (by simp[AV.deep,AV.deep1,eS]) ?_;simp[go_sem,eS];refine ag (mj t n coins j hc) (by simp[AV.deep,AV.deep1,eS]) ?_;rcases mS t n coins with e|⟨e,u,s⟩
 ·rw[e,ZK e];simp[go_sem,ai];exact ae a9 rfl
 ·rw[e];simp[go_sem];by_cases i:b<0∨(t.outs.length:Int)≤b
  ·refine ag (AB t n coins b i) (by simp[AV.deep,AV.deep1,eS]) ?_;rw[ZL e i];simp[go_sem,ai];exact ae a9 rfl
  ·obtain⟨k,rfl⟩:∃k:Nat,b=(k:Int):=⟨b.toNat,aq⟩;obtain⟨m,rfl⟩:∃k:Nat,n=(k:Int):=⟨n.toNat,aq⟩;have p:k<t.outs.length:=aq;obtain⟨o,g⟩:∃o,t.outs[k]?=some o:=⟨_,cm p⟩;obtain⟨c,f⟩:∃o,coins[m]?=some o:=⟨_,cm (by omega:m<coins.length)⟩;have x:=j.2.2.2.1 o (cr g);have q:wQ t m coins a k=if pG o.2=a then((k:Int),(c.1:Int),0)else(0,0,24):=by
    simp[wQ,e,g,f]
   rw[q];refine ag (wP t m coins k o g) (by simp[AV.deep,AV.deep1,eS]) ?_;simp[go_sem];refine ag (vV o.2 aq) a9 ?_;have h:=nR o.2;have w:bytes (pG o.2):=ik _;generalize pG o.2=R at *;simp[go_sem,h,al h,bK];refine jx (kV R a w v) rfl (ak (.one (ao (dE rfl trivial h))) (ak (.deep a9) aC)) trivial ?_;by_cases l:R=a
   ·simp[go_sem,l,f,eO,ai];exact ae a9 rfl
   ·simp[go_sem,l,ai];exact ae a9 rfl
theorem AC{n:Nat}{a:List DV}(h:jh Tryz.prog (n+1) 22 a):∃x:Nat,a=[.int .u32 (x:Int)]∧x<4294967296:=by
 rw[jh]at h;simp only[Tryz.underlying22]at h;obtain⟨x,rfl,c⟩:=h;have b:0≤x∧x<4294967296:=by simp[IntKind.has,IntKind.min,IntKind.max,IntKind.signed,IntKind.bits]at c;omega
 exact⟨x.toNat,by rw[show((x.toNat:Nat):Int)=x by omega],aq⟩
theorem V3{n:Nat}{a:List DV}(h:jh Tryz.prog (n+1) 53 a):∃x:Nat,a=[.int .u64 (x:Int)]∧x<18446744073709551616:=by
 rw[jh]at h;simp only[Tryz.underlying53]at h;obtain⟨x,rfl,c⟩:=h;have b:0≤x∧x<18446744073709551616:=by simp[IntKind.has,IntKind.min,IntKind.max,IntKind.signed,IntKind.bits]at c;omega
 exact⟨x.toNat,by rw[show((x.toNat:Nat):Int)=x by omega],aq⟩
theorem V5{n:Nat}{f:List DV}(h:jh Tryz.prog (n+3) 57 f):∃o:Nat×List Nat,f=eO o∧o.1<18446744073709551616∧bytes o.2:=by
 rw[jh]at h;simp only[Tryz.underlying57,List.map_cons,List.map_nil]at h;obtain⟨a,b,rfl,l,d,k,m,rfl,e,c,rfl⟩:=h;obtain⟨x,rfl,g⟩:=V3 d;rw[show Tryz.prog.cellsOf 31=1 by kernel_rfl]at e
 match k,e,c with
 |[y],_,c =>
  obtain⟨i,rfl,_,j⟩:=vP c;exact⟨(x,i),rfl,g,j⟩
theorem Hw{n:Nat}{c:List DV}(h:jh Tryz.prog (n+4) 24 c):∃os:List (Nat×List Nat),c=[.ro 2 (os.map eO)]∧∀o,o∈os→o.1<18446744073709551616∧bytes o.2:=by
 rw[jh]at h;simp only[Tryz.underlying24]at h;obtain⟨es,rfl,j,g⟩:=h;obtain⟨os,rfl,a⟩:=vC (enc:=eO) (R:=fun o=>o.1<18446744073709551616∧bytes o.2) (es:=es) (fun r b=>by
  obtain⟨d,i⟩:=g r b;obtain⟨o,rfl,e,f⟩:=V5 d
  exact⟨o,rfl,e,f⟩)
 exact⟨os,by rw[show Tryz.prog.cellsOf 57=2 by kernel_rfl],a⟩
theorem ZM{n:Nat}{m:List DV}(h:jh Tryz.prog (n+4) 68 m):∃i:Ip,m=eI i∧i.ok∧bytes i.hash:=by
 rw[jh]at h;simp only[Tryz.underlying68,List.map_cons,List.map_nil]at h;obtain⟨a,b,rfl,w,f,C,A,rfl,D,l,p,b3,rfl,hc,e,rfl⟩:=h;rw[jh]at f;simp only[Tryz.underlying66,List.map_cons,List.map_nil]at f;obtain⟨c,d,rfl,s,j,v,B,rfl,E,k,rfl⟩:=f;obtain⟨g,rfl,r,t⟩:=E7 j;obtain⟨x,rfl,o⟩:=AC k;obtain⟨y,rfl,u⟩:=AC l;rw[show Tryz.prog.cellsOf 34=1 by kernel_rfl]at hc
 match p,hc,e with
 |[z],_,e =>
  obtain⟨q,rfl,_⟩:=IW e;exact⟨⟨g,x,y,q⟩,by simp[eI],⟨r,o,u⟩,t⟩
theorem V6{n:Nat}{c:List DV}(h:jh Tryz.prog (n+5) 23 c):∃is:List Ip,c=[.ro 35 (is.map eI)]∧∀i,i∈is→i.ok∧bytes i.hash:=by
 rw[jh]at h;simp only[Tryz.underlying23]at h;obtain⟨es,rfl,k,g⟩:=h;obtain⟨d,rfl,a⟩:=vC (enc:=eI) (R:=fun i=>i.ok∧bytes i.hash) (es:=es) (fun r b=>by
  obtain⟨e,j⟩:=g r b;obtain⟨o,rfl,f⟩:=ZM e
  exact⟨o,rfl,f⟩)
 exact⟨d,by rw[show Tryz.prog.cellsOf 68=35 by kernel_rfl],a⟩
theorem ZN{n:Nat}{q:List DV}(h:jh Tryz.prog (n+6) 26 q):∃t:Tn,q.map .d=eT t∧t.ok∧(∀o,o∈t.outs→bytes o.2)∧∀i,i∈t.ins→bytes i.hash:=by
 rw[jh]at h;simp only[Tryz.underlying26,List.map_cons,List.map_nil]at h;obtain⟨a,b,rfl,w,m,A,y,rfl,B,p,x,b3,rfl,hc,g,z,b4,rfl,C,j,rfl⟩:=h;obtain⟨v,rfl,u⟩:=AC m;obtain⟨is,rfl,e⟩:=V6 p;obtain⟨s,rfl,c⟩:=Hw g;obtain⟨l,rfl,r⟩:=AC j;exact⟨⟨v,is,s,l⟩,rfl,⟨u,r,fun i k=>(e i k).1,fun o f=>(c o f).1⟩,fun o f=>(c o f).2,fun i k=>(e i k).2⟩
theorem V7{n:Nat}{a:AV}(h:rm Tryz.prog (n+7) 28 a):∃(t:Tn)(m:Int)(coins:List (Nat×List Nat)),a=.agg (eS t m coins)∧t.ok∧(∀o,o∈t.outs→bytes o.2)∧∀o,o∈coins→o.1<18446744073709551616∧bytes o.2:=by
 unfold rm at h;simp only[Tryz.underlying28]at h;obtain⟨r,rfl,h⟩:=h;rw[jh]at h;simp only[Tryz.underlying28,List.map_cons,List.map_nil]at h;obtain⟨a,b,rfl,l,f,s,q,rfl,u,c,p,b3,rfl,hc,e,rfl⟩:=h;obtain⟨t,j,k,g,_⟩:=ZN f;rw[jh]at c;simp only[Tryz.underlying3]at c;obtain⟨m,rfl,_⟩:=c;obtain⟨i,rfl,d⟩:=Hw e;refine⟨t,m,i,?_,k,g,d⟩;rw[List.map_append,j];rfl
theorem V9{r n:Nat}(f:n<64)(b:r<2 ^ n):Go.bits .andNot .u64 ((r+2 ^ n:Nat):Int) ((2 ^ n:Nat):Int)=(r:Int):=by
 have h:(2:Nat) ^ n<2 ^ 64:=Nat.pow_lt_pow_right aq f;have g:(2:Nat) ^ n+2 ^ n≤2 ^ 64:=by
  have:(2:Nat) ^ (n+1)≤2 ^ 64:=Nat.pow_le_pow_right aq aq;rw[Nat.pow_succ]at this;omega
 have c:(BitVec.ofNat 64 (r+2 ^ n)) &&& ~~~(BitVec.ofNat 64 (2 ^ n))=BitVec.ofNat 64 r:=by
  apply BitVec.eq_of_getLsbD_eq;intro i d;have e:r+2 ^ n=2 ^ n ||| r:=by rw[Nat.add_comm];have:=Nat.two_pow_add_eq_or_of_lt b 1;simpa using this
  simp only[BitVec.getLsbD_and,BitVec.getLsbD_not,BitVec.getLsbD_ofNat,d,decide_true,Bool.true_and,e,Nat.testBit_or,Nat.testBit_two_pow];by_cases a:n=i;subst a;simp[Nat.testBit_lt_two_pow b];simp[a]
 show IntKind.u64.wrap (((BitVec.ofInt 64 ((r+2 ^ n:Nat):Int)) &&& ~~~(BitVec.ofInt 64 ((2 ^ n:Nat):Int))).toNat:Int)=_;rw[BitVec.ofInt_natCast,BitVec.ofInt_natCast,c,BitVec.toNat_ofNat,ij];omega
theorem MO{a c k:Nat}(b:a<2 ^ k):a ||| c*2 ^ k=a+c*2 ^ k:=by
 rw[Nat.or_comm,Nat.mul_comm,←Nat.two_pow_add_eq_or_of_lt b];omega
theorem MP{b:List Nat}{k c:Nat}(h:b[k]?=some c):j6 (b.take (k+1))=j6 (b.take k)+c*2 ^ (8*k):=by
 have d:=(ci.1 h).1;have a:(b.take k).length=k:=by rw[List.length_take];omega
 rw[List.take_add_one,h];show j6 (b.take k++[c])=_;rw[mQ,a,j6,j6,Nat.mul_zero,Nat.add_zero,Nat.mul_comm,Nat.pow_mul]
theorem QS{b:List Nat}(a:bytes b)(k:Nat)(d:k≤b.length):j6 (b.take k)<2 ^ (8*k):=by
 have:=wy (b:=b.take k) (fun x c=>a x (List.mem_of_mem_take c));rw[List.length_take,Nat.min_eq_left d,show(256:Nat)=2 ^ 8 by rfl,←Nat.pow_mul]at this;exact this
theorem uJ(v:Bool):ap Tryz.prog 224 [.d (.bool v)] (fun r=>r=.d (nb (lh v))):=by
 refine bz Tryz.func224 Tryz.ntmps224 (rs:=[.tmp 2]) a9 ?_;cases v with
 |true =>
  simp[go_sem,ai];exact dR (ao (eu (ty:=5) (e:=1) (es:=[[.int .u8 1]]) (by simp[lk]) trivial rfl aw)) a9 rfl
 |false =>
  simp[go_sem,ai];exact dR (ao (.nil 1)) a9 rfl
theorem yS(a:bL)(x:Nat):pI (a++[x])=(a.any (fun c=>decide (c≠0))||decide (x≠0∧x≠128)):=by
 induction a with
 |nil=>simp[pI]
 | cons c a ih =>
  cases a with
  |nil=>simp[pI]
  |cons d a =>
   rw[List.cons_append,List.cons_append,pI,←List.cons_append,ih];simp[Bool.or_assoc];simp
theorem Di{b:bL}{i c:Nat}(h:b[i]?=some c)(f:c≠0)(g:¬(i=b.length-1∧c=128)):pI b=true:=by
 rcases fh b with rfl|⟨a,x,rfl⟩;simp at h;rw[yS,Bool.or_eq_true];rcases Nat.lt_or_ge i a.length with d|d;rw[List.getElem?_append_left d]at h;exact .inl (List.any_eq_true.2 ⟨c,cr h,by simpa using f⟩);rw[dn d]at h;have:i-a.length=0:=by
  have:=(ci.1 h).1;simp at this;omega
 rw[this]at h;simp at h;subst h;refine .inr ?_;simp only[decide_eq_true_eq];exact⟨f,fun e=>g ⟨by simp;omega,e⟩⟩
theorem QT{b:bL}(h:∀i c,b[i]?=some c→c=0∨(i=b.length-1∧c=128)):pI b=false:=by
 rcases fh b with rfl|⟨a,x,rfl⟩;rfl;rw[yS,Bool.or_eq_false_iff];constructor;rw[List.any_eq_false];intro c hc;obtain⟨i,d⟩:=List.getElem?_of_mem hc;have f:=(ci.1 d).1;rcases h i c (by rw[List.getElem?_append_left f];exact d)with e|⟨e,_⟩;simp[e];simp at e;omega;rcases h a.length x aw with e|⟨_,e⟩<;>simp[e]
theorem Dj(b:bL)(C:bytes b)(v:b.length≤1000000):ap Tryz.prog 141 [.d (nb b)] (fun r=>r=.d (.bool (pI b))):=by
 refine bz Tryz.func141 Tryz.ntmps141 (rs:=[.tmp 2]) a9 ?_;simp[go_sem,nb]
 refine au (fun k:Nat=>⟨[(0,.d (nb b)),(6,.d (nb b)),(7,.d (.int .i64 (b.length:Int))),(8,.d (.int .i64 (k:Int)))],[],1000⟩)
  (fun k=>k≤b.length∧∀i c,i<k→b[i]?=some c→c=0∨(i=b.length-1∧c=128)) (fun k=>b.length-k) 0 ⟨aq,aw⟩ (by simp[av,ah,fv,lk,AV.low,AV.low1,nb]) ?_
 rintro k⟨B,y⟩;simp only[go_sem,Nat.reduceEqDiff,Nat.reduceAdd,Nat.reduceLT,↓reduceIte,Nat.reduceMul];refine⟨fun z=>?_,fun z=>?_⟩
 ·obtain⟨c,hc,D⟩:=bg (l:=b) (k:=k) aq;have t:=az (k:=k) aq;have g:∀v:k<b.length,b[k]=c:=fun v=>Option.some.inj ((cm v).symm.trans hc);have s:IntKind.i64.wrap ((b.length:Int)-1)=((b.length-1:Nat):Int):=by rw[IntWalk.i64_in _ aq];omega
  have p:∀{Q:Prop},(c=0∨(k=b.length-1∧c=128))→∀i x,i<k+1→b[i]?=some x→x=0∨(i=b.length-1∧x=128):=by
   intro Q A i x u w;by_cases e:i=k;subst e;obtain rfl:x=c:=Option.some.inj (w.symm.trans hc);exact A;exact y i x aq w
  have j:k<b.length:=aq;by_cases q:c=0
  ·subst q;simp[go_sem,nb,hc,g,j,s,t];refine am (k+1) ⟨aq,p (Q:=True) (.inl rfl)⟩ aq ?_;simp[av,ah,fv,lk,AV.low,AV.low1,nb]
  ·by_cases f:k=b.length-1
   ·by_cases a:c=128
    ·subst a;have o:((k:Int)=((b.length-1:Nat):Int))=True:=eq_true aq;simp[go_sem,nb,hc,g,j,s,t,o];refine am (k+1) ⟨aq,p (Q:=True) (.inr ⟨f,rfl⟩)⟩ aq ?_;simp[av,ah,fv,lk,AV.low,AV.low1,nb]
    ·have o:((k:Int)=((b.length-1:Nat):Int))=True:=eq_true aq;have m:¬(c:Int)=0:=aq;have n:¬(c:Int)=128:=aq;rw[Di hc q (fun h=>a h.2)];simp[go_sem,nb,hc,g,j,s,t,o,q,m,a,n,ai];exact ae a9 rfl
   ·have m:¬(c:Int)=0:=aq;have o:¬(k:Int)=((b.length-1:Nat):Int):=aq;rw[Di hc q (fun h=>f h.1)];simp[go_sem,nb,hc,g,j,s,t,o,q,m,ai];exact ae a9 rfl
 ·rw[QT (fun i c u=>y i c (by have:=(ci.1 u).1;omega) u)];simp[go_sem,ai];exact ae a9 rfl
theorem QU{c k:Nat}(hc:c<256)(d:k<8):c*2 ^ (8*k)<18446744073709551616:=by
 have a:(2:Nat) ^ (8*k)≤2 ^ 56:=Nat.pow_le_pow_right aq aq;have e:c*2 ^ (8*k)≤255*2 ^ 56:=Nat.mul_le_mul aq a;have b:(255:Nat)*2 ^ 56<18446744073709551616:=by decide
 omega
theorem Wb(most:Nat)(b:bL)(j:bytes b)(hm:most≤8)(v:b.length≤1000000):ap Tryz.prog 242 [.d (nb b),.d (.int .i64 (most:Int))]
  (fun r=>r=match lM most b with|some n=>.tup [.d (.int .i64 n),.d (.int .i64 0)]|none=>.tup [.d (.int .i64 0),.d (.int .i64 15)]):=by
 refine bz Tryz.func242 Tryz.ntmps242 (rs:=[.tmp 4,.tmp 5]) a9 ?_;have E:¬(8:Int)<(most:Int):=aq;by_cases A:b.length≤most
 ·have Y:¬ (most:Int)<(b.length:Int):=aq;have o:¬ most<b.length:=aq;simp [go_sem,nb,E,Y,o]
  refine au (fun k:Nat=>⟨[(0,.d (nb b)),(6,.d (.int .u64 (j6 (b.take k):Int))),(16,.d (nb b)),(17,.d (.int .i64 (b.length:Int))),(18,.d (.int .i64 (k:Int)))],[],1000⟩)
   (fun k=>k≤b.length) (fun k=>b.length-k) 0 aq (by simp[av,ah,fv,lk,AV.low,AV.low1,nb,j6]) ?_
  intro k hk;simp only[go_sem,Nat.reduceEqDiff,Nat.reduceAdd,Nat.reduceLT,↓reduceIte,Nat.reduceMul];refine⟨fun hh=>?_,fun hh=>?_⟩
  ·obtain⟨c,hc,G⟩:=bg (l:=b) (k:=k) aq;have X:=az (k:=k) aq;have M:c<256:=j c (cr hc);have L:∀v:k<b.length,b[k]=c:=fun v=>Option.some.inj ((cm v).symm.trans hc);have W:k<b.length:=aq;have w8:IntKind.i64.wrap (8*(k:Int))=((8*k:Nat):Int):=by rw[IntWalk.i64_in _ aq];omega
   have wc:IntKind.u64.wrap (c:Int)=(c:Int):=IntWalk.u64_in _ aq;have g:=QU M (k:=k) aq;have t:=QS j k aq;have u:j6 (b.take k)<18446744073709551616:=Nat.lt_of_lt_of_le t (Nat.pow_le_pow_right aq (by omega:8*k≤64));have H:Go.bits .or .u64 (j6 (b.take k):Int) (IntKind.u64.wrap ((c:Int)*2 ^ min (8*(k:Int)).toNat 64))=(j6 (b.take (k+1)):Int):=by
    have O:min (8*(k:Int)).toNat 64=8*k:=aq;have U:(c:Int)*2 ^ (8*k)=((c*2 ^ (8*k):Nat):Int):=by rw[Int.natCast_mul,Int.natCast_pow];rfl
    rw[O,U,IntWalk.u64_in _ aq,QM _ _ u g,MO t,MP hc]
   simp[go_sem,nb,hc,L,W,X,w8,wc,H];refine⟨aq,?_⟩;refine am (k+1) aq aq ?_;simp[av,ah,fv,lk,AV.low,AV.low1,nb]
  ·have I:k=b.length:=aq;subst I;rw[List.take_length];rcases fh b with rfl|⟨a,x,rfl⟩
   ·have G:lM most []=some 0:=by
     unfold lM;rw[if_pos ⟨aw,rfl⟩];rfl
    have w0:IntKind.i64.wrap 0=0:=IntWalk.i64_in _ aq;have en:aU 0=[]:=rfl;rw[G];simp[go_sem,nb,j6,w0];refine ag (mN 0 aq aq) a9 ?_;simp[go_sem,en,nb];refine ag (kV [] [] j j) a9 ?_;simp[go_sem,ai];exact ae a9 rfl
   ·have af:(a++[x]).length=a.length+1:=(by simp);have s:(a++[x])[a.length]?=some x:=(by simp);have J:x<256:=j x aw;have t:=wy (b:=a) (fun y hy=>j y (by simp[hy]));have w:j6 (a++[x])=j6 a+256 ^ a.length*x:=by rw[mQ];simp[j6]
    have i:=jo a x;have aa:(256:Nat) ^ a.length≤256 ^ 7:=Nat.pow_le_pow_right aq aq;have p:(256:Nat) ^ a.length*128=2 ^ (8*a.length+7):=by
     rw[Nat.pow_add,Nat.pow_mul]
    have ac:(256:Nat) ^ 7=72057594037927936:=(by decide);generalize a++[x]=b at *;generalize a.length=m at *;have w1:IntKind.i64.wrap ((b.length:Int)-1)=(m:Int):=by rw[IntWalk.i64_in _ aq];omega
    have F:∀v:m<b.length,b[m]=x:=fun v=>Option.some.inj ((cm v).symm.trans s);have C:0<b.length:=aq;have e:=LQ x J;have tQ:∀n:Int,n=Ar b→-9223372036854775808≤n→n<9223372036854775808→(match lM most b with|some n=>AV.tup [.d (.int .i64 n),.d (.int .i64 0)]|none=>.tup [.d (.int .i64 0),.d (.int .i64 15)])=if aU n=b then .tup [.d (.int .i64 n),.d (.int .i64 0)]else .tup [.d (.int .i64 0),.d (.int .i64 15)]:=by
     rintro n rfl h1 h2;unfold lM;by_cases h:aU (Ar b)=b;rw[if_pos ⟨aq,h⟩,if_pos h];rw[if_neg (fun q=>h q.2),if_neg h]
    by_cases hx:x<128
    ·rw[if_neg aq]at e;rw[if_pos hx]at i;have D:256 ^ m*x≤256 ^ m*127:=Nat.mul_le_mul_left _ aq;have Z:IntKind.i64.wrap (j6 b:Int)=(j6 b:Int):=IntWalk.i64_in _ aq;have V:(j6 b:Int)=Ar b:=(by rw[i,w]);rw[tQ _ V aq aq];simp[go_sem,nb,C,w1,s,F,e,Z];refine ag (mN (j6 b:Int) aq aq) a9 ?_;simp[go_sem];refine ag (kV (aU (j6 b:Int)) b (fi _) j) a9 ?_;by_cases B:aU (j6 b:Int)=b
     ·simp[go_sem,B,ai];exact ae a9 rfl
     ·simp[go_sem,B,ai];exact ae a9 rfl
    ·rw[if_pos aq]at e;rw[if_neg hx]at i;obtain⟨r,R⟩:∃r,r=j6 a+256 ^ m*(x-128):=⟨_,rfl⟩;have D:256 ^ m*(x-128)≤256 ^ m*127:=Nat.mul_le_mul_left _ aq;have f:256 ^ m*x=256 ^ m*(x-128)+256 ^ m*128:=by rw[←Nat.mul_add];congr 1;omega
     have T:j6 b=r+2 ^ (8*m+7):=by rw[w,f,R,p];omega
     have Q:r<2 ^ (8*m+7):=by rw[←p,R];omega
     have N:Ar b=-(r:Int):=by
      rw[i,f,R,Nat.mul_comm 128,←Nat.add_assoc,Nat.add_sub_cancel]
     have ab:r<9223372036854775808:=by
      have:256 ^ m*128≤72057594037927936*128:=d9 _ aq;omega
     have ad:(2:Nat) ^ (8*m+7)≤9223372036854775808:=by
      rw[←p];have:256 ^ m*128≤72057594037927936*128:=d9 _ aq;omega
     have Z:IntKind.i64.wrap (8*(m:Int))=((8*m:Nat):Int):=by rw[IntWalk.i64_in _ aq];omega
     have g:IntKind.u64.wrap (128*2 ^ min (8*(m:Int)).toNat 64)=((2 ^ (8*m+7):Nat):Int):=by
      have O:min (8*(m:Int)).toNat 64=8*m:=aq;have U:(128:Int)*2 ^ (8*m)=((2 ^ (8*m+7):Nat):Int):=by
       rw[Nat.pow_add,Int.natCast_mul,Int.natCast_pow,Int.mul_comm];rfl
      rw[O,U,IntWalk.u64_in _ aq]
     have z:Go.bits .andNot .u64 (j6 b:Int) ((2 ^ (8*m+7):Nat):Int)=(r:Int):=by
      rw[T];exact V9 aq Q
     have X:IntKind.i64.wrap (r:Int)=(r:Int):=IntWalk.i64_in _ aq;have w4:IntKind.i64.wrap (-(r:Int))=-(r:Int):=IntWalk.i64_in _ aq;have w5:IntKind.i64.wrap (0-(r:Int))=-(r:Int):=by rw[Int.zero_sub];exact w4
     rw[tQ _ N.symm aq aq];have K:(0:Int)≤8*(m:Int):=aq;generalize((2 ^ (8*m+7):Nat):Int)=S at g z;simp[go_sem,nb,C,w1,s,F,e,Z,g,z,X,w4,w5,K];refine ag (mN (-(r:Int)) aq aq) a9 ?_;simp[go_sem];refine ag (kV (aU (-(r:Int))) b (fi _) j) a9 ?_;by_cases B:aU (-(r:Int))=b
     ·simp[go_sem,B,ai];exact ae a9 rfl
     ·simp[go_sem,B,ai];exact ae a9 rfl
 ·have Y:(most:Int)<(b.length:Int):=aq;have o:most<b.length:=aq;have G:lM most b=none:=if_neg (fun h=>A (by have:=h.1;omega));rw[G];simp[go_sem,nb,E,Y,o,ai];exact ae a9 rfl
def pE(main alt:List bL):List AV:=[.d (.ro 1 (main.map bP)),.d (.ro 1 (alt.map bP))]
theorem Dk(main alt:List bL)(J:main.length≤1000000)(K:alt.length≤1000000):ap Tryz.prog 97 [.agg (pE main alt)] (fun r=>r=.d (.int .i64 (fG main alt))):=by
 refine bz Tryz.func97 Tryz.ntmps97 (rs:=[.tmp 2]) (by simp[AV.deep,AV.deep1,pE]) ?_;have C:IntKind.i64.wrap 1=1:=IntWalk.i64_in _ aq;have G:IntKind.i64.wrap 2=2:=IntWalk.i64_in _ aq;simp[go_sem,pE]
 refine au (fun k:Nat=>⟨[(1,.ptr 0 0 0 1),(11,.agg [.d (.ro 1 (main.map bP)),.d (.ro 1 (alt.map bP))]),(12,.d (.int .i64 (k:Int)))],[(0,⟨155,2,[[.d (.ro 1 (main.map bP)),.d (.ro 1 (alt.map bP))]]⟩)],6000⟩)
  (fun k=>k≤2∧(1≤k→∀x,x∈main→x.length≤520)∧(2≤k→∀x,x∈alt→x.length≤520)) (fun k=>2-k) 0 ⟨aq,aq,aq⟩ (by simp[av,ah,fv,lk,AV.low,AV.low1]) ?_
 rintro k⟨I,n,p⟩;rcases(by omega:k=0∨k=1∨k=2)with rfl|rfl|rfl
 ·have t:IntKind.i64.wrap ((0:Int)+1)=((0+1:Nat):Int):=IntWalk.i64_in _ aq;simp only[go_sem,Nat.reduceEqDiff,Nat.reduceAdd,Nat.reduceLT,↓reduceIte,Nat.reduceMul];simp[go_sem]
  refine au (fun j:Nat=>⟨[(1,.ptr 0 0 0 1),(11,.agg [.d (.ro 1 (main.map bP)),.d (.ro 1 (alt.map bP))]),(12,.d (.int .i64 0)),(15,.d (.ro 1 (main.map bP))),(16,.d (.int .i64 (main.length:Int))),(17,.d (.int .i64 (j:Int)))],[(0,⟨155,2,[[.d (.ro 1 (main.map bP)),.d (.ro 1 (alt.map bP))]]⟩)],6000⟩)
   (fun j=>j≤main.length∧∀x,x∈main.take j→x.length≤520) (fun j=>main.length-j) 0 ⟨aq,aw⟩ (by simp[av,ah,fv,lk,AV.low,AV.low1]) ?_
  rintro j⟨H,a⟩;simp only[go_sem,Nat.reduceEqDiff,Nat.reduceAdd,Nat.reduceLT,↓reduceIte,Nat.reduceMul];refine⟨fun q=>?_,fun q=>?_⟩
  ·obtain⟨y,b,F⟩:=bg (l:=main) (k:=j) aq;have u:=az (k:=j) aq;by_cases o:y.length≤520
   ·have e:¬ 520<y.length:=aq;have f:¬(520:Int)<(y.length:Int):=aq;simp[go_sem,b,bP,nb,e,f,u];refine am (j+1) ⟨aq,fun x c=>?_⟩ aq (by simp[av,ah,fv,lk,AV.low,AV.low1]);rw[List.take_add_one,b]at c;simp at c;rcases c with c|rfl
    exact a x c;exact o
   ·have e:520<y.length:=aq;have f:(520:Int)<(y.length:Int):=aq;have hc:fG main alt=14:=by
     have s:main.all (fun x=>decide (x.length≤520))=false:=List.all_eq_false.2 ⟨y,cr b,by simpa using o⟩;simp[fG,s]
    rw[hc];simp[go_sem,b,bP,nb,e,f,ai];exact ae a9 rfl
  ·have m:j=main.length:=aq;subst m;rw[List.take_length]at a;simp[go_sem,t];refine am 1 (by exact⟨aq,fun _=>a,fun h=>aq⟩) (by decide) (by simp[av,ah,fv,lk,AV.low,AV.low1,C])
 ·have t:IntKind.i64.wrap ((1:Int)+1)=((1+1:Nat):Int):=IntWalk.i64_in _ aq;simp only[go_sem,Nat.reduceEqDiff,Nat.reduceAdd,Nat.reduceLT,↓reduceIte,Nat.reduceMul];simp[go_sem]
  refine au (fun j:Nat=>⟨[(1,.ptr 0 0 0 1),(11,.agg [.d (.ro 1 (main.map bP)),.d (.ro 1 (alt.map bP))]),(12,.d (.int .i64 1)),(15,.d (.ro 1 (alt.map bP))),(16,.d (.int .i64 (alt.length:Int))),(17,.d (.int .i64 (j:Int)))],[(0,⟨155,2,[[.d (.ro 1 (main.map bP)),.d (.ro 1 (alt.map bP))]]⟩)],6000⟩)
   (fun j=>j≤alt.length∧∀x,x∈alt.take j→x.length≤520) (fun j=>alt.length-j) 0 ⟨aq,aw⟩ (by simp[av,ah,fv,lk,AV.low,AV.low1]) ?_
  rintro j⟨H,a⟩;simp only[go_sem,Nat.reduceEqDiff,Nat.reduceAdd,Nat.reduceLT,↓reduceIte,Nat.reduceMul];refine⟨fun q=>?_,fun q=>?_⟩
  ·obtain⟨y,b,F⟩:=bg (l:=alt) (k:=j) aq;have u:=az (k:=j) aq;by_cases o:y.length≤520
   ·have e:¬ 520<y.length:=aq;have f:¬(520:Int)<(y.length:Int):=aq;simp[go_sem,b,bP,nb,e,f,u];refine am (j+1) ⟨aq,fun x c=>?_⟩ aq (by simp[av,ah,fv,lk,AV.low,AV.low1]);rw[List.take_add_one,b]at c;simp at c;rcases c with c|rfl
    exact a x c;exact o
   ·have e:520<y.length:=aq;have f:(520:Int)<(y.length:Int):=aq;have hc:fG main alt=14:=by
     have s:alt.all (fun x=>decide (x.length≤520))=false:=List.all_eq_false.2 ⟨y,cr b,by simpa using o⟩;simp[fG,s]
    rw[hc];simp[go_sem,b,bP,nb,e,f,ai];exact ae a9 rfl
  ·have m:j=alt.length:=aq;subst m;rw[List.take_length]at a;simp[go_sem,t];refine am 2 (by exact⟨aq,fun _=>n aq,fun _=>a⟩) (by decide) (by simp[av,ah,fv,lk,AV.low,AV.low1,G])
 ·have D:=n aq;have E:=p aq;have A:IntKind.i64.wrap ((main.length:Int)+(alt.length:Int))=(main.length:Int)+(alt.length:Int):=IntWalk.i64_in _ aq;have z:main.all (fun x=>decide (x.length≤520))=true:=d7.2 fun x c=>by simpa using D x c
  have B:alt.all (fun x=>decide (x.length≤520))=true:=d7.2 fun x c=>by simpa using E x c
  by_cases g:main.length+alt.length≤100
  ·have hc:fG main alt=0:=(by simp[fG,z,B,g]);have w:¬(100:Int)<(main.length:Int)+(alt.length:Int):=aq;have i:¬ 100<main.length+alt.length:=aq;rw[hc];simp[go_sem,A,w,i,ai];exact ae (v:=.d (.int .i64 _)) trivial rfl
  ·have hc:fG main alt=13:=(by simp[fG,z,B,g]);have w:(100:Int)<(main.length:Int)+(alt.length:Int):=aq;have i:100<main.length+alt.length:=aq;rw[hc];simp[go_sem,A,w,i,ai];exact ae (v:=.d (.int .i64 _)) trivial rfl
end Go.Proofs.YtmfnimjnneflnaaGreat
namespace Go.Am
section
variable {P:Program}
theorem FK{g:FuncId}{args:List AV}{hp a:Hp}{N:Nat}{K:AV→Hp→Prop}(h:fP P g args a N K)(d:∀i b,lk i a=some b→lk i hp=some b):fP P g args hp N K:=by
 refine⟨h.1,fun c U σ w q n r o s=>?_⟩;obtain⟨t,j⟩:=C7 d n;refine(h.2 c U σ w q t r o (fun i v x m l=>(s i v x m l).step j)).mono fun e u p=>?_;obtain⟨x,rfl,v,f,σ',k,k2,k3,k4⟩:=p;exact⟨x,rfl,v,f,σ',k,k2,j.trans k3,k4⟩
theorem Hy(c:List Nat)(Pp:Hp){S:Type}{n N:Nat}{b:S→(Nat→Nat)→Nat→Blk}(l:ME n b)(f:Nat→Nat){hp:Hp}{g:FuncId}{s:S}{args args' a:List AV}{R:AV→S→Prop}{K:AV→Hp→Prop}(h:fH P n b g s a R)(q:qp n f)(u:∀j,j<n→f j<N)
  (w:∀p,p∈Pp++kg n b s f→lk p.1 (aN c hp)=some p.2) (o:args.length=args'.length) (t:∀(i:Nat)(v d:AV),args[i]?=some v→args'[i]?=some d→d=v∨Snap hp (fun id=>id∈c) v d)
  (r:∀p,p∈Pp→p.1<N∧∀j,j<n→f j≠p.1) (e:a=AV.renL (bX (li n f id) n) args') (k:∀v s' ρ,R v s'→(∀j,j<n→ρ j=f j)→K (v.ren ρ) (Pp++kg n b s' f)):uh P g args hp N K :=
 .inl (tN c (FK (tY l h q u r e k) fun i x m=>w _ (bN m)) o t)
theorem Dl{hp:Hp}{I:Nat→Prop}{l:List AV}:∀(i:Nat)(v a:AV),l[i]?=some v→l[i]?=some a→a=v∨Snap hp I v a:=by
 intro i v a c b;rw[c]at b;exact .inl (Option.some.inj b).symm
theorem MQ{g:FuncId}{k:Nat}{f:Hp}{args:List AV}{Q j:AV→Hp→Prop}(h:c7 P g k f args Q)
  (hq:∀r d,Q r d→∃i,(∀(w:World)(S:Nat→Prop)(σ:Nat→Option Nat)(U:Nat→Prop)(x:Value),AIs w S σ d U r x→AIs w S σ d U i x)∧j i d):c7 P g k f args j:=by
 obtain⟨o,l,t⟩:=h;refine⟨o,l,fun w S σ z a b c=>(t w S σ z a b c).mono fun e B s=>?_⟩;obtain⟨x,r,d,v,σ',m,q,A,n,y⟩:=s;obtain⟨i,p,u⟩:=hq r d q;exact⟨x,i,d,v,σ',m,u,A,n,p _ _ _ _ _ y⟩
theorem MR{w:World}{S:Nat→Prop}{σ:Nat→Option Nat}{hp:Hp}{U:Nat→Prop}{x:Value}(e:Nat)(h:AIs w S σ hp U .nil x):AIs w S σ hp U (.d (.ro e [])) x:=by
 cases h;exact .d (.ro e [] none 0 (fun _ _=>undef) (cL _) aw aw aw aw)
theorem QV{S:Type}{n:Nat}{b:S→(Nat→Nat)→Nat→Blk}{g:FuncId}{s:S}{args:List AV}{R c:AV→S→Prop}(h:fH P n b g s args R)(hq:∀v a,R v a→c v a∨(v=.nil∧∃e,c (.d (.ro e [])) a)):fH P n b g s args c:=by
 refine MQ h fun r i j=>?_;obtain⟨a,k,f⟩:=j;rcases hq r a k with h|⟨rfl,e,h⟩;exact⟨r,fun _ _ _ _ _ h=>h,a,h,f⟩;exact⟨.d (.ro e []),fun _ _ _ _ _ h=>MR e h,a,h,f⟩
end
end Go.Am
namespace Go.Proofs.YtmfnimjnneflnaaGreat
open Go.Am Go.Sha
theorem jU{hp:Hp}{I:Nat→Prop}{id:Nat}{ty:TypeId}{l:List bL}{J:List Jk}(a:lk id hp=some ⟨ty,1,iH l J⟩)(b:I id):SnapD hp I (.own id 0 l.length (l.length+J.length)) (.ro 1 (l.map bP)):=by
 refine j5 a b (uH l J) ?_ aw (fun r c=>by
  obtain⟨x,_,rfl⟩:=List.mem_map.1 c
  rfl)
 rw[List.drop_zero,wE (cL _),List.take_length];have e:l.map Au=(l.map bP).map fun r=>r.map AV.d:=by
  rw[List.map_map];rfl
 rw[e];exact kH _
theorem iW(main alt:List bL):(AV.agg (pE main alt)).deep:=by
 intro c hc;simp[pE]at hc;rcases hc with rfl|rfl<;>trivial
def yT(m:Mc)(J H:List Jk):AV:=if(iD m).2.2=0 then .tup [.agg [.own 1 0 m.main.length (m.main.length+J.length),.own 2 0 m.alt.length (m.alt.length+H.length)],.d (.int .i64 0)]
 else .tup [.agg [.nil,.nil],.d (.int .i64 (iD m).2.2)]
theorem Wc(m:Mc)(J H:List Jk)(g:m.main.length≤1000000)(i:m.alt.length≤1000000):fH Tryz.prog 3 nD 223 ⟨m,J,H⟩ [.ptr 0 0 0 1]
  (fun v j=>v=yT m J H∧∃e',j=⟨⟨m.main,m.alt,e'⟩,J,H⟩):=by
 refine aB Tryz.func223 (by kernel_rfl) rfl Tryz.ntmps223 (rs:=[.cell 2 155,.tmp 3]) rfl (fD rfl) (by decide) ?_;obtain⟨a,alt,e⟩:=m;simp only at g i;rw[Eu];simp only[nD,id];by_cases h:e=0
 ·subst h;simp[go_sem];refine cG [0,1,2,3,4,5,6,7,8] [(9,[]),(10,[])] 1 (k:=11) ?_;intro G b;simp[go_sem];refine b _ _ ?_;clear b G;simp[go_sem];refine jx (Dk a alt g i) rfl (ak (.agg ⟨rfl,ay (ao (jU rfl trivial)) (ay (ao (jU rfl trivial)) bO)⟩) aC) trivial ?_
  have f:yT ⟨a,alt,0⟩ J H=if fG a alt=0 then .tup [.agg [.own 1 0 a.length (a.length+J.length),.own 2 0 alt.length (alt.length+H.length)],.d (.int .i64 0)]else .tup [.agg [.nil,.nil],.d (.int .i64 (fG a alt))]:=by
   by_cases hc:fG a alt=0<;>simp[yT,iD,hc]
  rw[f];clear f;generalize fG a alt=c;by_cases hc:c=0
  ·subst hc;simp[go_sem,ai];exact⟨⟨⟨a,alt,0⟩,J,H⟩,⟨0,rfl⟩,nY rfl rfl rfl⟩
  ·simp[go_sem,hc];refine cG [0,1,2,3,4] [(5,[6])] 1 (k:=7) ?_;intro G b;simp[go_sem,hc];refine b _ _ ?_;clear b G;simp[go_sem,hc,ai];exact⟨⟨⟨a,alt,c⟩,J,H⟩,⟨c,rfl⟩,nY rfl rfl rfl⟩
 ·have f:yT ⟨a,alt,e⟩ J H=.tup [.agg [.nil,.nil],.d (.int .i64 e)]:=by simp[yT,iD,h]
  rw[f];simp[go_sem,h];refine cG [0,1,2,3,4,5,6,7,8] [(9,[]),(10,[])] 1 (k:=11) ?_;intro G b;simp[go_sem];refine b _ _ ?_;clear b G;simp[go_sem,h];refine cG [0,1,2,3,4] [(5,[6])] 1 (k:=7) ?_;intro G b;simp[go_sem];refine b _ _ ?_;clear b G;simp[go_sem,ai];exact⟨⟨⟨a,alt,e⟩,J,H⟩,⟨e,rfl⟩,nY rfl rfl rfl⟩
theorem Hz(main alt:List bL)(c:main.length≤1000000)(h:alt.length≤1000000)(h3:∀x,x∈main→x.length≤1000000)(g:∀x,x∈alt→x.length≤1000000):c7 Tryz.prog 221 0 [] [.agg (pE main alt)]
  (fun r a=>r=.ptr 289 0 0 1∧lk 289 a=some ⟨283,3,[[.own 129 0 main.length main.length,.own 225 0 alt.length alt.length,.d (.int .i64 0)]]⟩∧lk 129 a=some ⟨31,1,iH main []⟩∧lk 225 a=some ⟨31,1,iH alt []⟩):=by
 refine aB Tryz.func221 (by kernel_rfl) rfl Tryz.ntmps221 (rs:=[.tmp 2]) rfl (fD rfl) (by decide) ?_;simp[go_sem,pE];refine cG [0,1,3,4] [(2,[]),(5,[6]),(7,[8])] 3 (k:=9) ?_;intro G b;simp[go_sem]
 repeat' apply And.intro
 all_goals
  refine aZ [] (MH main c h3) rfl aw aw aw (by simp[AV.renL,AV.ren]) ?_;rintro r a⟨rfl,i⟩;refine⟨[(129,0)],by simp[dp,ii],?_⟩;simp[go_sem,bZ,bF,i,Blk.ren,oY,AV.renL,AV.ren,bX];refine aZ [] (MH alt h g) rfl aw aw aw (by simp[AV.renL,AV.ren]) ?_;rintro r f⟨rfl,e⟩;refine⟨[(129,0)],by simp[dp,ii],?_⟩;simp[go_sem,bZ,bF,e,Blk.ren,oY,AV.renL,AV.ren,bX];refine b _ _ ?_;clear b G;simp[go_sem,ai]
theorem Dm(ρ:Nat→Nat)(l:List bL)(J:List Jk):(iH l J).map (AV.renL ρ)=iH l J:=oY ρ l J
theorem MS:qp 3 (fun j=>128+j):=by
 intro i j a b h;show i=j;have:128+i=128+j:=h;omega
def yU(m:Mc):AV:=.tup [.agg (pE (iD m).1 (iD m).2.1),.d (.int .i64 (iD m).2.2)]
theorem FM{m:Mc}(h:(iD m).2.2=0):iD m=(m.main,m.alt,0):=by
 unfold iD at h⊢;by_cases a:m.e=0;simp only[a,if_true]at h⊢;by_cases b:fG m.main m.alt=0;simp[b];simp[b]at h;simp[a]at h
theorem Jg{m:Mc}(h:(iD m).2.2≠0):iD m=([],[],(iD m).2.2):=by
 unfold iD at h⊢;by_cases a:m.e=0;simp only[a,if_true]at h⊢;by_cases b:fG m.main m.alt=0;simp[b]at h;simp[b];simp[a]
theorem Jh{main alt:List bL}{J H:List Jk}{A B:Nat}{st:St}(f:lk A st.hp=some ⟨31,1,iH main J⟩)(e:lk B st.hp=some ⟨31,1,iH alt H⟩) :
  dm (fun r=>r=.tup [.agg (pE main alt),.d (.int .i64 0)]) (.tup [.agg [.own A 0 main.length (main.length+J.length),.own B 0 alt.length (alt.length+H.length)],.d (.int .i64 0)]) st:=by
 refine⟨_,.tup (cs':=[.agg (pE main alt),.d (.int .i64 0)]) rfl (fun i c g a b=>?_),?_,rfl⟩
 ·match i with
  |0 =>
   simp at a b;subst a;subst b;exact .inr ⟨_,_,rfl,rfl,rfl,ay (ao (jU f trivial)) (ay (ao (jU e trivial)) bO)⟩
  |1=>simp at a b;subst a;subst b;exact .inl (.inl ⟨rfl,trivial⟩)
  |i+2=>simp at a
 ·intro c hc;simp at hc;rcases hc with rfl|rfl;exact .inr ⟨_,rfl,iW _ _⟩;exact .inl trivial
theorem Ji{e:Int}{st:St}:dm (fun r=>r=.tup [.agg (pE [] []),.d (.int .i64 e)]) (.tup [.agg [.nil,.nil],.d (.int .i64 e)]) st:=by
 refine⟨_,.tup (cs':=[.agg (pE [] []),.d (.int .i64 e)]) rfl (fun i c f a b=>?_),?_,rfl⟩
 ·match i with
  |0 =>
   simp at a b;subst a;subst b;exact .inr ⟨_,_,rfl,rfl,rfl,ay (ao (.nil 1)) (ay (ao (.nil 1)) bO)⟩
  |1=>simp at a b;subst a;subst b;exact .inl (.inl ⟨rfl,trivial⟩)
  |i+2=>simp at a
 ·intro c hc;simp at hc;rcases hc with rfl|rfl;exact .inr ⟨_,rfl,iW _ _⟩;exact .inl trivial
theorem Jj(main alt:List bL)(x:bL)(B:main.length≤1000)(C:alt.length≤1000)(h3:∀x,x∈main→x.length≤1000000)(u:∀x,x∈alt→x.length≤1000000)(o:x.length≤1000000) :
  ap Tryz.prog 197 [.agg (pE main alt),.d (nb x)] (fun r=>r=yU ⟨main++[x],alt,0⟩):=by
 refine bz Tryz.func197 Tryz.ntmps197 (rs:=[.cell 4 155,.tmp 5]) (by intro v m;simp at m;rcases m with rfl|rfl;exact iW _ _;trivial) ?_;simp[go_sem,pE];refine aZ [] (Hz main alt aq aq h3 u) rfl aw aw aw (by simp[AV.renL,AV.ren,pE]) ?_;rintro r q⟨rfl,s,y,w⟩;refine⟨[(289,0),(129,1),(225,2)],by simp[dp,ii],?_⟩;simp[go_sem,bZ,bF,s,y,w,Blk.ren,Dm,AV.renL,AV.ren,bX,aS]
 refine Hy [256] [(32,⟨155,2,[[.nil,.nil]]⟩)] (args':=[.ptr 128 0 0 1,.d (.ro 1 [[nb x]])]) Av (fun j=>128+j) (V0 ⟨main,alt,0⟩ [] [] x (by simp;omega) o) MS (fun j g=>by show 128+j<288;omega) (by simp[Eu,nD,aN,lk]) rfl
  (fun i v A a c=>by
   match i with
   |0=>simp at a c;subst a;subst c;exact .inl rfl
   |1 =>
    simp at a c;subst a;subst c;exact .inr (.one (ao (jU (l:=[x]) (J:=[]) rfl aw)))
   |i+2=>simp at a)
  (fun p b=>by simp at b;subst b;exact⟨by show 32<288;omega,fun j g=>by show 128+j≠32;omega⟩) rfl ?_
 rintro v z ρ ⟨k,rfl⟩ e;simp only[Eu,nD,sZ];simp[go_sem]
 refine Hy [] [(32,⟨155,2,[[.nil,.nil]]⟩)] Av (fun j=>128+j) (Wc ⟨main++[x],alt,0⟩ k [] (by simp;omega) (by simp;omega)) MS (fun j g=>by show 128+j<352;omega) (by simp[Eu,nD,aN,lk]) rfl Dl
  (fun p b=>by simp at b;subst b;exact⟨by show 32<352;omega,fun j g=>by show 128+j≠32;omega⟩) rfl ?_
 rintro v z ρ ⟨rfl,D,rfl⟩ e;have n:ρ 1=129:=e 1 aq;have h:ρ 2=130:=e 2 aq;simp only[Eu,nD];unfold yT yU;by_cases hc:(iD ⟨main++[x],alt,0⟩).2.2=0
 ·have f:=FM hc;rw[if_pos hc];rw[f];simp[go_sem,AV.ren,AV.renL,n,h,ai];have t:main.length+1=(main++[x]).length:=by simp
  rw[t];exact Jh (J:=k) (H:=[]) rfl rfl
 ·have f:=Jg hc;rw[if_neg hc,f];simp[go_sem,AV.ren,AV.renL,n,h,ai];exact Ji
theorem acG(c:Nat):qp 3 (fun j=>c+j):=by
 intro i j a b h;have:c+i=c+j:=h;omega
theorem T0{a a':AV}{cs cs':List AV}{e:Int}{st:St}(j:fx st.hp (fun _=>True) a a')(g:a'.deep1)(hc:qZ st.hp (fun _=>True) cs cs')(h:∀c,c∈cs'→c.deep1) :
  dm (fun r=>r=.tup [a',.agg cs',.d (.int .i64 e)]) (.tup [a,.agg cs,.d (.int .i64 e)]) st:=by
 refine⟨_,.tup (cs':=[a',.agg cs',.d (.int .i64 e)]) rfl (fun i c k b f=>?_),?_,rfl⟩
 ·match i with
  |0=>simp at b f;subst b;subst f;exact .inl j
  |1 =>
   simp at b f;subst b;subst f;exact .inr ⟨_,_,rfl,rfl,hc⟩
  |2=>simp at b f;subst b;subst f;exact .inl (.inl ⟨rfl,trivial⟩)
  |i+3=>simp at b
 ·intro c hc;simp at hc;rcases hc with rfl|rfl|rfl;exact .inl g;exact .inr ⟨_,rfl,h⟩;exact .inl trivial
theorem MU{main alt:List bL}{J H:List Jk}{A B:Nat}{hp:Hp}{I:Nat→Prop}(d:lk A hp=some ⟨31,1,iH main J⟩)(b:lk B hp=some ⟨31,1,iH alt H⟩)(a:I A)(c:I B) :
  qZ hp I [.own A 0 main.length (main.length+J.length),.own B 0 alt.length (alt.length+H.length)] (pE main alt):=⟨rfl,ay (ao (jU d a)) (ay (ao (jU b c)) bO)⟩
theorem MV{hp:Hp}{I:Nat→Prop}:qZ hp I [.nil,.nil] (pE [] []):=⟨rfl,ay (ao (.nil 1)) (ay (ao (.nil 1)) bO)⟩
def MW(main alt:List bL):AV:=match main.getLast? with
 |none=>.tup [.d (.ro 1 []),.agg (pE [] []),.d (.int .i64 12)]
 |some x=>.tup [.d (nb x),.agg (pE main.dropLast alt),.d (.int .i64 0)]
theorem MX(main alt:List bL)(w:main.length≤1000)(y:alt.length≤1000)(h3:∀x,x∈main→x.length≤1000000)(o:∀x,x∈alt→x.length≤1000000) :
  ap Tryz.prog 240 [.agg (pE main alt)] (fun r=>r=MW main alt):=by
 refine bz Tryz.func240 Tryz.ntmps240 (rs:=[.tmp 2,.cell 3 155,.tmp 4]) (by intro v b;simp at b;subst b;exact iW _ _) ?_;simp[go_sem,pE];refine aZ [] (Hz main alt aq aq h3 o) rfl aw aw aw (by simp[AV.renL,AV.ren,pE]) ?_;rintro r m⟨rfl,n,s,q⟩;refine⟨[(289,0),(129,1),(225,2)],by simp[dp,ii],?_⟩;simp[go_sem,bZ,bF,n,s,q,Blk.ren,Dm,AV.renL,AV.ren,bX,aS]
 refine Hy [] [(64,⟨155,2,[[.nil,.nil]]⟩)] Av (fun j=>160+j) (ZE ⟨main,alt,0⟩ [] [] (by simp;omega)) (acG 160) (fun j t=>by show 160+j<256;omega) (by simp[Eu,nD,aN,lk]) rfl Dl
  (fun p a=>by simp at a;subst a;exact⟨by show 64<256;omega,fun j t=>by show 160+j≠64;omega⟩) rfl ?_
 rintro v z ρ ⟨rfl,g,rfl⟩ u;rcases main.eq_nil_or_concat with rfl|⟨l,x,i⟩
 ·have c:ed 1 ⟨[],alt,0⟩=⟨[],alt,12⟩:=rfl;have f:nX ⟨[],alt,0⟩=([],⟨[],alt,12⟩):=rfl;simp only[c,f,Eu,nD];simp[go_sem,AV.ren];refine cG [0,1,2,3,4,5] [(6,[7])] 1 (k:=8) ?_;intro G e;simp[go_sem];refine e _ _ ?_;clear e G;simp[go_sem,ai];exact T0 (a':=.d (.ro 1 [])) (ao (.nil 1)) trivial MV (iW _ _)
 ·rw [List.concat_eq_append] at i;subst i;have c:ed 1 ⟨l ++ [x],alt,0⟩=⟨l ++ [x],alt,0⟩:=by simp [ed]
  have f:nX ⟨l++[x],alt,0⟩=(x,⟨l,alt,0⟩):=by simp[nX,c]
  rw[c,f];simp only[Eu,nD];simp[go_sem,AV.ren];refine cO [0,1,2,3,4,5,6,7,8,9,10] [11,12] [0,1,2,3,4,5,6,7,8,9,10] (a_ [11,12]) ⟨[(2,.d (nb x)),(3,.ptr 64 0 0 1),(4,.d (.int .i64 0))],[(64,⟨155,2,[[.own 161 0 l.length (l.length+g.length),.own 162 0 alt.length alt.length]]⟩),(161,⟨31,1,iH l g⟩),(162,⟨31,1,iH alt []⟩)],9000⟩ (k:=13) ?h3 ?hq
  case h3 =>
   intro G e;simp (config := { maxSteps := 3000000 }) [go_sem]
   repeat' apply And.intro
   all_goals
    refine e _ _ (aV ⟨by simp[ah,fv,lk,AV.low,AV.low1],?_,aw⟩);intro p a;simp only[d_,List.mem_nil_iff,or_false]at a;rcases a with rfl|rfl|rfl;refine⟨.inl (by simp[lk]),by show 64<9000;omega,?_⟩;intro r h v b;simp only[d_,List.mem_nil_iff,or_false]at h;subst h;simp only[d_,List.mem_nil_iff,or_false]at b;rcases b with rfl|rfl;show 161<9000;omega;show 162<9000;omega;exact⟨.inl (by simp[lk]),by show 161<9000;omega,uI _ _ _⟩;exact⟨.inl (by simp[lk]),by show 162<9000;omega,uI _ _ _⟩
  case hq =>
   simp[go_sem,ai];have a:MW (l++[x]) alt=.tup [.d (nb x),.agg (pE l alt),.d (.int .i64 0)]:=(by simp[MW])
   rw[a];exact T0 (aM trivial) trivial (MU (J:=g) (H:=[]) rfl rfl trivial trivial) (iW _ _)
end Go.Proofs.YtmfnimjnneflnaaGreat
namespace Go.Sha
open Go.Proofs.YtmfnimjnneflnaaGreat
inductive McT where
 |a (s:McS)
 |z (e:Int) (n k:Nat) (J H:List Jk)
end Go.Sha
namespace Go.Proofs.YtmfnimjnneflnaaGreat
open Go.Am Go.Sha
def QW(b:List Nat):List Nat:=b7 (b7 b)
end Go.Proofs.YtmfnimjnneflnaaGreat
