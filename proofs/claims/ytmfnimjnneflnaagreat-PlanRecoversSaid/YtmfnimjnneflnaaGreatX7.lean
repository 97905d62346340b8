/-
 Part 8 of what the claim rests on.
-/
import Derived.Test.YtmfnimjnneflnaaGreatX5
import Derived.Test.YtmfnimjnneflnaaGreatX6
set_option linter.unusedVariables false
set_option linter.unusedSimpArgs false
set_option maxRecDepth 100000
set_option maxHeartbeats 16000000
namespace Go.Sha
structure Ip where
 hash:List Nat
 idx:Nat
 seq:Nat
 wit:List (List Nat)
structure Tn where
 ver:Nat
 ins:List Ip
 outs:List (Nat×List Nat)
 lock:Nat
def Ip.ok(i:Ip):Prop:=i.hash.length=32∧i.idx<4294967296∧i.seq<4294967296
def Tn.ok(t:Tn):Prop:=t.ver<4294967296∧t.lock<4294967296∧(∀i,i∈t.ins→i.ok)∧(∀o,o∈t.outs→o.1<18446744073709551616)
def fC(n:Nat)(xs:List (List Nat)):Bool:=xs.all fun x=>decide (x.length≤n)
def cN(n:Nat)(os:List (Nat×List Nat)):Bool:=os.all fun o=>decide (o.2.length≤n)
def iM(m n:Nat)(is:List Ip):Bool:=is.all fun i=>decide (i.wit.length≤m)&&fC n i.wit
def ia(a m n:Nat)(t:Tn):Bool:=decide (t.ins.length≤a)&&(decide (t.outs.length≤a)&&(cN n t.outs&&iM m n t.ins))
end Go.Sha
namespace Go.Proofs.YtmfnimjnneflnaaGreat
open Go.Am Go.Sha
def eO(o:Nat×List Nat):List DV:=[.int .u64 (o.1:Int),nb o.2]
def eI(i:Ip):List DV:=cd i.hash++[.int .u32 (i.idx:Int),.int .u32 (i.seq:Int),.ro 1 (i.wit.map bL)]
def eT(t:Tn):List AV:=[.d (.int .u32 (t.ver:Int)),.d (.ro 35 (t.ins.map eI)),.d (.ro 2 (t.outs.map eO)),.d (.int .u32 (t.lock:Int))]
def eS(t:Tn)(n:Int)(coins:List (Nat×List Nat)):List AV:=[.d (.int .u32 (t.ver:Int)),.d (.ro 35 (t.ins.map eI)),.d (.ro 2 (t.outs.map eO)),.d (.int .u32 (t.lock:Int)),.d (.int .i64 n),.d (.ro 2 (coins.map eO))]
theorem xJ{i:Ip}(h:i.hash.length=32):(eI i).drop 34=[.ro 1 (i.wit.map bL)]:=by
 unfold eI;rw[List.drop_append,dg (by rw[cj];omega),cj,h];rfl
theorem aa0{i:Ip}(h:i.hash.length=32):(eI i).drop 33=[.int .u32 (i.seq:Int),.ro 1 (i.wit.map bL)]:=by
 unfold eI;rw[List.drop_append,dg (by rw[cj];omega),cj,h];rfl
theorem adS{i:Ip}(h:i.hash.length=32):(eI i).drop 32=[.int .u32 (i.idx:Int),.int .u32 (i.seq:Int),.ro 1 (i.wit.map bL)]:=by
 unfold eI;rw[List.drop_append,dg (by rw[cj];omega),cj,h];rfl
theorem uh{i:Ip}(h:i.hash.length=32):(eI i).length=35:=by simp[eI,cj,h]
theorem iu{α:Type}{l:List α}{k:Nat}{p:α→Bool}{x:α}{b:Bool}(a:l.drop k=x::l.drop (k+1))(h:(l.drop k).all p=b)(c:p x=true):(l.drop (k+1)).all p=b:=by
 rw[a,List.all_cons,c,Bool.true_and]at h;exact h
theorem fL{α:Type}{l:List α}{k:Nat}{p:α→Bool}{x:α}{b:Bool}(a:l.drop k=x::l.drop (k+1))(h:(l.drop k).all p=b)(c:p x=false):b=false:=by
 rw[a,List.all_cons,c,Bool.false_and]at h;exact h.symm
theorem iw{α:Type}{l:List α}{p:α→Bool}{b:Bool}(h:(l.drop l.length).all p=b):b=true:=by
 rw[List.drop_length]at h;exact h.symm
theorem GG (t:Tn) (I:t.ok):au Tryz.prog 67 [.agg (eT t)] (fun r=>r=.d (.bool (ia 6 6 600 t))):=by
 obtain⟨_,_,K,_⟩:=I;refine bF Tryz.func67 Tryz.ntmps67 (rs:=[.tmp 2]) (by simp[AV.deep,AV.deep1,eT]) ?_;by_cases A:t.ins.length≤6
 ·by_cases B:t.outs.length≤6
  ·have n:¬ 6<(t.ins.length:Int):=aq;have i2:¬ 6<(t.outs.length:Int):=aq;have E:ia 6 6 600 t=(cN 600 t.outs && iM 6 600 t.ins):=by simp [ia,A,B]
   rw[E];simp[go_sem,eT,n,i2]
   refine av (fun k:Nat=>⟨[(1,.ptr 0 0 0 1),(3,.d (.int .i64 (k:Int)))],[(0,⟨26,4,[eT t]⟩)],2000⟩)
    (fun k=>k≤t.outs.length∧cN 600 (t.outs.drop k)=cN 600 t.outs) (fun k=>t.outs.length-k) 0 ⟨aq,rfl⟩ (by
     simp[az,ai,fv,lk,AV.low,AV.low1,eT]) ?_
   rintro k⟨F,c⟩;simp only[eT];simp only[go_sem,Nat.reduceEqDiff,Nat.reduceAdd,Nat.reduceLT,↓reduceIte];refine⟨fun h=>?_,fun h=>?_⟩
   ·obtain⟨o,q,m⟩:=bg (l:=t.outs) (k:=k) aq;have G:=ay (k:=k) aq;by_cases u:o.2.length≤600
    ·have e:¬ 600<(o.2.length:Int):=aq;simp[go_sem,q,eO,nb,e,G];refine am (k+1) ⟨aq,iu m c (by simpa using u)⟩ aq ?_;simp[az,ai,fv,lk,AV.low,AV.low1]
    ·have e:600<(o.2.length:Int):=aq;have:=fL m c (by simpa using u);simp[go_sem,q,eO,nb,e];exact aa a9 (by rw[this];rfl)
   ·have f:k=t.outs.length:=aq;subst f;have H:cN 600 t.outs=true:=iw c;rw[H,Bool.true_and];clear c h;simp[go_sem]
    refine av (fun k:Nat=>⟨[(1,.ptr 0 0 0 1),(4,.d (.int .i64 (k:Int)))],[(0,⟨26,4,[eT t]⟩)],4000⟩)
     (fun k=>k≤t.ins.length∧iM 6 600 (t.ins.drop k)=iM 6 600 t.ins) (fun k=>t.ins.length-k) 0 ⟨aq,rfl⟩ (by
      simp[az,ai,fv,lk,AV.low,AV.low1,eT]) ?_
    rintro k⟨F,c⟩;simp only[eT];simp only[go_sem,Nat.reduceEqDiff,Nat.reduceAdd,Nat.reduceLT,↓reduceIte];refine⟨fun h=>?_,fun h=>?_⟩
    ·obtain⟨i,b,m⟩:=bg (l:=t.ins) (k:=k) aq;have a:=(K i (cr b)).1;by_cases u:i.wit.length≤6
     ·have e:¬ 6<(i.wit.length:Int):=aq;simp[go_sem,b,xJ a,e]
      refine av (fun j:Nat=>⟨[(1,.ptr 0 0 0 1),(4,.d (.int .i64 (k:Int))),(5,.d (.int .i64 (j:Int)))],[(0,⟨26,4,[eT t]⟩)],6000⟩)
       (fun j=>j≤i.wit.length∧fC 600 (i.wit.drop j)=fC 600 i.wit) (fun j=>i.wit.length-j) 0 ⟨aq,rfl⟩ (by
        simp[az,ai,fv,lk,AV.low,AV.low1,eT]) ?_
      rintro j⟨L,g⟩;simp only[eT];simp[go_sem,b,xJ a];refine⟨fun D=>?_,fun D=>?_⟩
      ·obtain⟨x,p,s⟩:=bg (l:=i.wit) (k:=j) aq;have z:=ay (k:=j) aq;by_cases C:x.length≤600
       ·have y:¬ 600<(x.length:Int):=aq;simp[go_sem,p,bL,nb,y,z];intro _;refine am (j+1) ⟨aq,iu s g (by simpa using C)⟩ aq ?_;simp[az,ai,fv,lk,AV.low,AV.low1]
       ·have y:600<(x.length:Int):=aq;have v:=fL s g (by simpa using C);have:=fL m c (by rw[show fC 600 i.wit=false from v];simp);simp[go_sem,p,bL,nb,y];refine⟨?_,fun h=>aq⟩;exact aa a9 (by rw[show iM 6 600 t.ins=false from this])
      ·have w:j=i.wit.length:=aq;subst w;have v:fC 600 i.wit=true:=iw g;have z:=ay (k:=k) aq;simp[go_sem,z];refine am (k+1) ⟨aq,iu m c (by rw[v];simpa using u)⟩ aq ?_;simp[az,ai,fv,lk,AV.low,AV.low1]
     ·have e:6<(i.wit.length:Int):=aq;have:=fL m c (by simp;omega);simp[go_sem,b,xJ a,e];exact aa a9 (by rw[show iM 6 600 t.ins=false from this])
    ·have f:k=t.ins.length:=aq;subst f;have J:iM 6 600 t.ins=true:=iw c;simp[go_sem];exact aa a9 (by rw[J])
  ·have n:¬ 6<(t.ins.length:Int):=aq;have i2:6<(t.outs.length:Int):=aq;simp[go_sem,eT,n,i2];exact aa a9 (by simp[ia,B])
 ·have n:6<(t.ins.length:Int):=aq;simp[go_sem,eT,n];exact aa a9 (by simp[ia,A])
theorem GH (t:Tn) (I:t.ok):au Tryz.prog 107 [.agg (eT t)] (fun r=>r=.d (.bool (ia 20 30 1000 t))):=by
 obtain⟨_,_,K,_⟩:=I;refine bF Tryz.func107 Tryz.ntmps107 (rs:=[.tmp 2]) (by simp[AV.deep,AV.deep1,eT]) ?_;by_cases A:t.ins.length≤20
 ·by_cases B:t.outs.length≤20
  ·have n:¬ 20<(t.ins.length:Int):=aq;have i2:¬ 20<(t.outs.length:Int):=aq;have E:ia 20 30 1000 t=(cN 1000 t.outs && iM 30 1000 t.ins):=by simp [ia,A,B]
   rw[E];simp[go_sem,eT,n,i2]
   refine av (fun k:Nat=>⟨[(1,.ptr 0 0 0 1),(3,.d (.int .i64 (k:Int)))],[(0,⟨26,4,[eT t]⟩)],2000⟩)
    (fun k=>k≤t.outs.length∧cN 1000 (t.outs.drop k)=cN 1000 t.outs) (fun k=>t.outs.length-k) 0 ⟨aq,rfl⟩ (by
     simp[az,ai,fv,lk,AV.low,AV.low1,eT]) ?_
   rintro k⟨F,c⟩;simp only[eT];simp only[go_sem,Nat.reduceEqDiff,Nat.reduceAdd,Nat.reduceLT,↓reduceIte];refine⟨fun h=>?_,fun h=>?_⟩
   ·obtain⟨o,q,m⟩:=bg (l:=t.outs) (k:=k) aq;have G:=ay (k:=k) aq;by_cases u:o.2.length≤1000
    ·have e:¬ 1000<(o.2.length:Int):=aq;simp[go_sem,q,eO,nb,e,G];refine am (k+1) ⟨aq,iu m c (by simpa using u)⟩ aq ?_;simp[az,ai,fv,lk,AV.low,AV.low1]
    ·have e:1000<(o.2.length:Int):=aq;have:=fL m c (by simpa using u);simp[go_sem,q,eO,nb,e];exact aa a9 (by rw[this];rfl)
   ·have f:k=t.outs.length:=aq;subst f;have H:cN 1000 t.outs=true:=iw c;rw[H,Bool.true_and];clear c h;simp[go_sem]
    refine av (fun k:Nat=>⟨[(1,.ptr 0 0 0 1),(4,.d (.int .i64 (k:Int)))],[(0,⟨26,4,[eT t]⟩)],4000⟩)
     (fun k=>k≤t.ins.length∧iM 30 1000 (t.ins.drop k)=iM 30 1000 t.ins) (fun k=>t.ins.length-k) 0 ⟨aq,rfl⟩ (by
      simp[az,ai,fv,lk,AV.low,AV.low1,eT]) ?_
    rintro k⟨F,c⟩;simp only[eT];simp only[go_sem,Nat.reduceEqDiff,Nat.reduceAdd,Nat.reduceLT,↓reduceIte];refine⟨fun h=>?_,fun h=>?_⟩
    ·obtain⟨i,b,m⟩:=bg (l:=t.ins) (k:=k) aq;have a:=(K i (cr b)).1;by_cases u:i.wit.length≤30
     ·have e:¬ 30<(i.wit.length:Int):=aq;simp[go_sem,b,xJ a,e]
      refine av (fun j:Nat=>⟨[(1,.ptr 0 0 0 1),(4,.d (.int .i64 (k:Int))),(5,.d (.int .i64 (j:Int)))],[(0,⟨26,4,[eT t]⟩)],6000⟩)
       (fun j=>j≤i.wit.length∧fC 1000 (i.wit.drop j)=fC 1000 i.wit) (fun j=>i.wit.length-j) 0 ⟨aq,rfl⟩ (by
        simp[az,ai,fv,lk,AV.low,AV.low1,eT]) ?_
      rintro j⟨L,g⟩;simp only[eT];simp[go_sem,b,xJ a];refine⟨fun D=>?_,fun D=>?_⟩
      ·obtain⟨x,p,s⟩:=bg (l:=i.wit) (k:=j) aq;have z:=ay (k:=j) aq;by_cases C:x.length≤1000
       ·have y:¬ 1000<(x.length:Int):=aq;simp[go_sem,p,bL,nb,y,z];intro _;refine am (j+1) ⟨aq,iu s g (by simpa using C)⟩ aq ?_;simp[az,ai,fv,lk,AV.low,AV.low1]
       ·have y:1000<(x.length:Int):=aq;have v:=fL s g (by simpa using C);have:=fL m c (by rw[show fC 1000 i.wit=false from v];simp);simp[go_sem,p,bL,nb,y];refine⟨?_,fun h=>aq⟩;exact aa a9 (by rw[show iM 30 1000 t.ins=false from this])
      ·have w:j=i.wit.length:=aq;subst w;have v:fC 1000 i.wit=true:=iw g;have z:=ay (k:=k) aq;simp[go_sem,z];refine am (k+1) ⟨aq,iu m c (by rw[v];simpa using u)⟩ aq ?_;simp[az,ai,fv,lk,AV.low,AV.low1]
     ·have e:30<(i.wit.length:Int):=aq;have:=fL m c (by simp;omega);simp[go_sem,b,xJ a,e];exact aa a9 (by rw[show iM 30 1000 t.ins=false from this])
    ·have f:k=t.ins.length:=aq;subst f;have J:iM 30 1000 t.ins=true:=iw c;simp[go_sem];exact aa a9 (by rw[J])
  ·have n:¬ 20<(t.ins.length:Int):=aq;have i2:20<(t.outs.length:Int):=aq;simp[go_sem,eT,n,i2];exact aa a9 (by simp[ia,B])
 ·have n:20<(t.ins.length:Int):=aq;simp[go_sem,eT,n];exact aa a9 (by simp[ia,A])
theorem IH(x:List Nat):au Tryz.prog 142 [.d (nb x)] (fun r=>r=.d (.bool (decide (1000<x.length)))):=by
 refine bF Tryz.func142 Tryz.ntmps142 (rs:=[.tmp 2]) a9 ?_;simp[go_sem,nb];refine aa a9 ?_;have:((1000:Int)<(x.length:Int))↔1000<x.length:=aq;simp[this]
theorem KH(o:Nat×List Nat):au Tryz.prog 90 [.agg ((eO o).map .d)] (fun r=>r=.d (.bool (decide (1000<o.2.length)))):=by
 refine bF Tryz.func90 Tryz.ntmps90 (rs:=[.tmp 2]) (by simp[AV.deep,AV.deep1,eO]) ?_;simp[go_sem,eO,nb];refine aa a9 ?_;have:((1000:Int)<(o.2.length:Int))↔1000<o.2.length:=aq;simp[this]
theorem KI(xs:List (List Nat))(m:xs.length≤1000000000):au Tryz.prog 173 [.d (.ro 1 (xs.map bL)),.fn 142 []] (fun r=>∃n:Int,r=.d (.int .i64 n)∧decide (0≤n)=!fC 1000 xs):=by
 refine bF Tryz.func173 Tryz.ntmps173 (rs:=[.tmp 4]) a9 ?_;simp[go_sem]
 refine av (fun k:Nat=>⟨[(0,.d (.ro 1 (xs.map bL))),(1,.fn 142 []),(7,.d (.int .i64 (xs.length:Int))),(8,.d (.int .i64 (k:Int)))],[],1000⟩)
  (fun k=>k≤xs.length∧fC 1000 (xs.drop k)=fC 1000 xs) (fun k=>xs.length-k) 0 ⟨aq,rfl⟩ (by
   simp[az,ai,fv,lk,AV.low,AV.low1]) ?_
 rintro k⟨o,e⟩;simp only[go_sem,Nat.reduceEqDiff,Nat.reduceAdd,Nat.reduceLT,↓reduceIte];refine⟨fun h=>?_,fun h=>?_⟩
 ·obtain⟨x,a,f⟩:=bg (l:=xs) (k:=k) aq;have i:=ay (k:=k) aq;simp[go_sem,a,bL];refine ag (IH x) a9 ?_;by_cases g:x.length≤1000
  ·have b:¬ 1000<x.length:=aq;simp[go_sem,b,i];refine am (k+1) ⟨aq,iu f e (by simpa using g)⟩ aq ?_;simp[az,ai,fv,lk,AV.low,AV.low1]
  ·have b:1000<x.length:=aq;have:=fL f e (by simpa using g);simp[go_sem,b];exact aa a9 ⟨_,rfl,by rw[show fC 1000 xs=false from this];simp⟩
 ·have c:k=xs.length:=aq;subst c;have j:fC 1000 xs=true:=iw e;simp[go_sem];exact aa a9 ⟨_,rfl,by rw[j];rfl⟩
theorem Bw(xs:List (List Nat))(a:xs.length≤1000000000):au Tryz.prog 143 [.d (.ro 1 (xs.map bL)),.fn 142 []] (fun r=>r=.d (.bool (!fC 1000 xs))):=by
 refine bF Tryz.func143 Tryz.ntmps143 (rs:=[.tmp 4]) a9 ?_;simp[go_sem];refine Nu (KI xs a) a9 ?_;rintro r⟨n,rfl,b⟩;rw[←b];simp[go_sem];exact aa a9 rfl
theorem KJ(xs:List (Nat×List Nat))(o:xs.length≤1000000000):au Tryz.prog 136 [.d (.ro 2 (xs.map eO)),.fn 90 []] (fun r=>∃n:Int,r=.d (.int .i64 n)∧decide (0≤n)=!cN 1000 xs):=by
 refine bF Tryz.func136 Tryz.ntmps136 (rs:=[.tmp 4]) a9 ?_;simp[go_sem]
 refine av (fun k:Nat=>⟨[(0,.d (.ro 2 (xs.map eO))),(1,.fn 90 []),(7,.d (.int .i64 (xs.length:Int))),(8,.d (.int .i64 (k:Int)))],[],1000⟩)
  (fun k=>k≤xs.length∧cN 1000 (xs.drop k)=cN 1000 xs) (fun k=>xs.length-k) 0 ⟨aq,rfl⟩ (by
   simp[az,ai,fv,lk,AV.low,AV.low1]) ?_
 rintro k⟨p,f⟩;simp only[go_sem,Nat.reduceEqDiff,Nat.reduceAdd,Nat.reduceLT,↓reduceIte];refine⟨fun h=>?_,fun h=>?_⟩
 ·obtain⟨x,b,g⟩:=bg (l:=xs) (k:=k) aq;have j:=ay (k:=k) aq;have a:(eO x).length=2:=rfl;simp[go_sem,b,a];refine ag (KH x) (by simp[AV.deep,AV.deep1,eO]) ?_;by_cases i:x.2.length≤1000
  ·have c:¬ 1000<x.2.length:=aq;simp[go_sem,c,j];refine am (k+1) ⟨aq,iu g f (by simpa using i)⟩ aq ?_;simp[az,ai,fv,lk,AV.low,AV.low1]
  ·have c:1000<x.2.length:=aq;have:=fL g f (by simpa using i);simp[go_sem,c];exact aa a9 ⟨_,rfl,by rw[show cN 1000 xs=false from this];simp⟩
 ·have e:k=xs.length:=aq;subst e;have m:cN 1000 xs=true:=iw f;simp[go_sem];exact aa a9 ⟨_,rfl,by rw[m];rfl⟩
theorem Bz(xs:List (Nat×List Nat))(a:xs.length≤1000000000):au Tryz.prog 91 [.d (.ro 2 (xs.map eO)),.fn 90 []] (fun r=>r=.d (.bool (!cN 1000 xs))):=by
 refine bF Tryz.func91 Tryz.ntmps91 (rs:=[.tmp 4]) a9 ?_;simp[go_sem];refine Nu (KJ xs a) a9 ?_;rintro r⟨n,rfl,b⟩;rw[←b];simp[go_sem];exact aa a9 rfl
end Go.Proofs.YtmfnimjnneflnaaGreat
namespace Go.Sha
def cJ(x:List Nat):List Nat:=aA x.length++x
def ui(xs:List (List Nat)):List Nat:=(xs.map cJ).flatten
def om(xs:List (List Nat)):List Nat:=aA xs.length++ui xs
def II(i:Ip):List Nat:=i.hash++(le i.idx 4++le i.seq 4)
def xM(l:List Ip):List Nat:=(l.map II).flatten
def gx(o:Nat×List Nat):List Nat:=le o.1 8++cJ o.2
def kK(l:List (Nat×List Nat)):List Nat:=(l.map gx).flatten
def nc(t:Tn):List Nat:=le t.ver 4++(aA t.ins.length++(xM t.ins++(aA t.outs.length++(kK t.outs++le t.lock 4))))
def aa1(l:List Ip):List Nat:=(l.map fun i=>om i.wit).flatten
def iN(t:Tn):List Nat:=nc t++aa1 t.ins
def SmW(xs:List (List Nat)):Prop:=xs.length≤6∧∀x,x∈xs→x.length≤600
theorem lJ(x:List Nat):(cJ x).length≤5+x.length:=by
 have:=cv x.length;unfold cJ;rw[b_];omega
theorem xN:∀(xs:List (List Nat)),(∀x,x∈xs→x.length≤600)→(ui xs).length≤605*xs.length
 |[],_=>by simp[ui]
 |x::r,h=>by
  have c:=xN r fun y a=>h y (cU _ a);have b:=h x (d7 ..);have d:=lJ x;have e:(ui (x::r)).length=(cJ x).length+(ui r).length:=by simp[ui]
  rw[e,List.length_cons];omega
theorem zV{xs:List (List Nat)}(h:SmW xs):(om xs).length≤3635:=by
 have c:=xN xs h.2;have a:=cv xs.length;have b:=h.1;unfold om;rw[b_];omega
end Go.Sha
namespace Go.Proofs.YtmfnimjnneflnaaGreat
open Go.Am Go.Sha
theorem KL(b:List Nat)(x n:Nat)(l:b.length≤1000000)(m:x<18446744073709551616)(o:n≤8):cX Tryz.prog 145 0 [] [.d (nb b),.d (.int .u64 (x:Int)),.d (.int .i64 (n:Int))] (xj (b++le x n)):=by
 refine ap Tryz.func145 (by kernel_rfl) rfl Tryz.ntmps145 (rs:=[.tmp 6]) rfl (dJ rfl) (by decide) ?_;have f:IntKind.i64.wrap ((b.length:Int)+(n:Int))=((b.length+n:Nat):Int):=by rw[IntWalk.i64_in _ aq];omega
 have c:List.replicate b.length [AV.d (.int .u8 0)]=rb (List.replicate b.length 0):=by simp[rb]
 simp only[go_sem,Nat.reduceEqDiff,Nat.reduceAdd,Nat.reduceLT,↓reduceIte,f,nb,List.length_map,Int.toNat_natCast,c];simp[go_sem,dk,aH];rw[qY];refine⟨aq,aq,aq,aq,?_⟩
 refine av (fun k:Nat=>⟨[(7,.own 225 0 (b++le x k).length (b++le x k).length),(8,.d (.int .u64 ((eQ (8*k) x:Nat):Int))),(20,.d (.int .i64 (n:Int))),(21,.d (.int .i64 (k:Int)))],[(225,⟨5,1,rb (b++le x k)⟩)],545⟩)
  (fun k=>k≤n) (fun k=>n-k) 0 aq (by
   simp[az,ai,fv,lk,AV.low,AV.low1,le,eQ]
   exact aU _ _) ?_
 intro k j;have i:(b++le x k).length=b.length+k:=by rw[b_,aM]
 have e:rb (b++le x k)++[[AV.d (.int .u8 ((t8 (eQ (8*k) x):Nat):Int))]]=rb (b++le x (k+1)):=by rw[iF,cD];rfl
 have g:=ay (k:=k) aq;simp only[go_sem,Nat.reduceEqDiff,Nat.reduceAdd,Nat.reduceLT,↓reduceIte];refine⟨fun h=>?_,fun h=>?_⟩
 ·simp[go_sem,fY,aH,e,aM,DT,xc,g];refine⟨aq,?_⟩;refine am (k+1) aq aq ?_;simp[az,ai,fv,lk,AV.low,AV.low1];exact⟨aq,aU _ _⟩
 ·have a:k=n:=aq;subst a;exact⟨225,by rw[b_],rfl⟩
theorem gP(b:List Nat)(x:Nat)(c:b.length≤1000000)(a:x<4294967296):cX Tryz.prog 59 0 [] [.d (nb b),.d (.int .u32 (x:Int))] (xj (b++le x 4)):=by
 refine ap Tryz.func59 (by kernel_rfl) rfl Tryz.ntmps59 (rs:=[.tmp 4]) rfl (dJ rfl) (by decide) ?_;simp[go_sem];refine aP [] (zD b x 4 c a aq) rfl aw aw aw (by simp[AV.renL,AV.ren]) ?_;rintro r e⟨rfl,f⟩;refine⟨[(225,0)],rfl,?_⟩;simp[go_sem,bZ,bB,f,Blk.ren,aO,dA,AV.ren,b8,ah,xj]
theorem KN(b:List Nat)(x:Nat)(c:b.length≤1000000)(a:x<18446744073709551616):cX Tryz.prog 103 0 [] [.d (nb b),.d (.int .u64 (x:Int))] (xj (b++le x 8)):=by
 refine ap Tryz.func103 (by kernel_rfl) rfl Tryz.ntmps103 (rs:=[.tmp 4]) rfl (dJ rfl) (by decide) ?_;simp[go_sem];refine aP [] (KL b x 8 c a aq) rfl aw aw aw (by simp[AV.renL,AV.ren]) ?_;rintro r e⟨I,rfl,f⟩;refine⟨[(I,0)],by simp[db,gm],?_⟩;simp[go_sem,bZ,bB,f,Blk.ren,aO,dA,AV.ren,b8,ah,xj]
theorem jw(b:List Nat)(x:Nat)(c:b.length≤1000000)(a:x<4294967296):au Tryz.prog 59 [.d (nb b),.d (.int .u32 (x:Int))] (fun r=>r=.d (nb (b++le x 4))):=mY (gP b x c a) a9
theorem xO(b:List Nat)(x:Nat)(c:b.length≤1000000)(a:x<18446744073709551616):au Tryz.prog 103 [.d (nb b),.d (.int .u64 (x:Int))] (fun r=>r=.d (nb (b++le x 8))):=mY (KN b x c a) a9
theorem xP(b:List Nat)(n:Nat)(a:b.length≤100000)(c:n<4294967296):au Tryz.prog 109 [.d (nb b),.d (.int .u64 (n:Int))] (fun r=>r=.d (nb (b++aA n))):=mY (oU b n a c) a9
theorem uT(b:List Nat)(n:Nat)(a:b.length≤1000000)(c:n<4294967296):au Tryz.prog 175 [.d (nb b),.d (.int .u64 (n:Int))] (fun r=>r=.d (nb (b++aA n))):=mY (nI b n a c) a9
def ff{α:Type}(f:α→List Nat)(l:List α)(k:Nat):List Nat:=((l.drop k).map f).flatten
theorem ee{α:Type}{f:α→List Nat}{l:List α}{k:Nat}{x:α}{B R:List Nat}(a:l.drop k=x::l.drop (k+1))(h:B++ff f l k=R):(B++f x)++ff f l (k+1)=R:=by
 unfold ff at *;rw[a,List.map_cons,List.flatten_cons,←cD]at h;exact h
theorem ef{α:Type}{f:α→List Nat}{l:List α}{B R:List Nat}(h:B++ff f l l.length=R):B=R:=by
 unfold ff at h;rw[List.drop_length]at h;simpa using h
theorem GI(b:List Nat)(xs:List (List Nat))(v:b.length≤50000)(g:SmW xs):au Tryz.prog 94 [.d (nb b),.d (.ro 1 (xs.map bL))] (fun r=>r=.d (nb (b++om xs))):=by
 refine bF Tryz.func94 Tryz.ntmps94 (rs:=[.tmp 4]) a9 ?_;obtain⟨u,g⟩:=g;have p:=cv xs.length;have w:IntKind.u64.wrap (xs.length:Int)=(xs.length:Int):=by rw[iK];omega
 have i:(b++aA xs.length)++ff cJ xs 0=b++om xs:=by rw[cD];rfl
 generalize b++om xs=R at *;simp[go_sem,w];refine ag (xP b xs.length aq aq) a9 ?_;have s:(b++aA xs.length).length≤50005:=by rw[b_];omega
 generalize b++aA xs.length=B0 at *;simp[go_sem]
 refine av (fun t:Nat×List Nat=>⟨[(5,.d (nb t.2)),(13,.d (.ro 1 (xs.map bL))),(14,.d (.int .i64 (xs.length:Int))),(15,.d (.int .i64 (t.1:Int)))],[],1000⟩)
  (fun t=>t.1≤xs.length∧t.2.length≤50005+605*t.1∧t.2++ff cJ xs t.1=R) (fun t=>xs.length-t.1) (0,B0) ⟨aw,by simp;omega,i⟩ (by
   simp[az,ai,fv,lk,AV.low,AV.low1,nb]) ?_
 rintro⟨k,B⟩⟨j,c,e⟩;simp only at j c e;simp only[go_sem,Nat.reduceEqDiff,Nat.reduceAdd,Nat.reduceLT,↓reduceIte];refine⟨fun h=>?_,fun h=>?_⟩
 ·obtain⟨x,a,n⟩:=bg (l:=xs) (k:=k) aq;have o:=g x (cr a);have m:=ay (k:=k) aq;have q:=lJ x;simp[go_sem,a,bL];refine ag (gp B x aq aq) a9 ?_;simp[go_sem,m];refine am (k+1,B++cJ x) ⟨by simp only;omega,by simp only[b_];omega,ee n e⟩ (by simp only;omega) ?_;simp[az,ai,fv,lk,AV.low,AV.low1,nb,cJ]
 ·have f:k=xs.length:=aq;subst f;have:=ef e;subst this;simp[go_sem];exact aa a9 rfl
theorem Et(b:List Nat)(xs:List (List Nat))(v:b.length≤50000)(g:SmW xs):au Tryz.prog 150 [.d (nb b),.d (.ro 1 (xs.map bL))] (fun r=>r=.d (nb (b++om xs))):=by
 refine bF Tryz.func150 Tryz.ntmps150 (rs:=[.tmp 4]) a9 ?_;obtain⟨u,g⟩:=g;have p:=cv xs.length;have w:IntKind.u64.wrap (xs.length:Int)=(xs.length:Int):=by rw[iK];omega
 have i:(b++aA xs.length)++ff cJ xs 0=b++om xs:=by rw[cD];rfl
 generalize b++om xs=R at *;simp[go_sem,w];refine ag (uT b xs.length aq aq) a9 ?_;have s:(b++aA xs.length).length≤50005:=by rw[b_];omega
 generalize b++aA xs.length=B0 at *;simp[go_sem]
 refine av (fun t:Nat×List Nat=>⟨[(1,.d (.ro 1 (xs.map bL))),(5,.d (nb t.2)),(6,.d (.int .i64 (t.1:Int)))],[],1000⟩)
  (fun t=>t.1≤xs.length∧t.2.length≤50005+605*t.1∧t.2++ff cJ xs t.1=R) (fun t=>xs.length-t.1) (0,B0) ⟨aw,by simp;omega,i⟩ (by
   simp[az,ai,fv,lk,AV.low,AV.low1,nb]) ?_
 rintro⟨k,B⟩⟨j,c,e⟩;simp only at j c e;simp only[go_sem,Nat.reduceEqDiff,Nat.reduceAdd,Nat.reduceLT,↓reduceIte];refine⟨fun h=>?_,fun h=>?_⟩
 ·obtain⟨x,a,n⟩:=bg (l:=xs) (k:=k) aq;have o:=g x (cr a);have m:=ay (k:=k) aq;have q:=lJ x;simp[go_sem,a,bL];refine ag (sH B x aq aq) a9 ?_;simp[go_sem,m];refine am (k+1,B++cJ x) ⟨by simp only;omega,by simp only[b_];omega,ee n e⟩ (by simp only;omega) ?_;simp[az,ai,fv,lk,AV.low,AV.low1,nb,cJ]
 ·have f:k=xs.length:=aq;subst f;have:=ef e;subst this;simp[go_sem];exact aa a9 rfl
end Go.Proofs.YtmfnimjnneflnaaGreat
namespace Go.Sha
theorem BB{i:Ip}(h:i.hash.length=32):(II i).length=40:=by simp[II,h,aM]
theorem xQ(o:Nat×List Nat):(gx o).length≤13+o.2.length:=by
 have:=lJ o.2;unfold gx;rw[b_,aM];omega
def Sm(t:Tn):Prop:=t.ok∧t.ins.length≤6∧t.outs.length≤6∧(∀o,o∈t.outs→o.2.length≤600)∧∀i,i∈t.ins→SmW i.wit
theorem aa3{t:Tn}(h:t.ok)(a:ia 6 6 600 t=true):Sm t:=by
 simp only[ia,Bool.and_eq_true,decide_eq_true_eq,cN,iM,fC,d9]at a;obtain⟨f,d,e,b⟩:=a;exact⟨h,f,d,e,fun i c=>⟨(b i c).1,(b i c).2⟩⟩
end Go.Sha
namespace Go.Proofs.YtmfnimjnneflnaaGreat
open Go.Am Go.Sha
def uj(i:Ip):List AV:=cb i.hash++[.d (.int .u32 (i.idx:Int)),.d (.int .u32 (i.seq:Int)),.d (.ro 1 (i.wit.map bL))]
theorem Eu(i:Ip):(eI i).map AV.d=uj i:=by simp[eI,uj,da]
theorem pX{i:Ip}(h:i.hash.length=32):(uj i).length=35:=by simp[uj,ak,h]
theorem adT{i:Ip}(h:i.hash.length=32):(uj i)[32]?=some (.d (.int .u32 (i.idx:Int))):=by
 rw[uj,dz (by rw[ak];omega),ak,h];rfl
theorem adU{i:Ip}(h:i.hash.length=32):(uj i)[33]?=some (.d (.int .u32 (i.seq:Int))):=by
 rw[uj,dz (by rw[ak];omega),ak,h];rfl
theorem adV{i:Ip}(h:i.hash.length=32):(uj i)[34]?=some (.d (.ro 1 (i.wit.map bL))):=by
 rw[uj,dz (by rw[ak];omega),ak,h];rfl
theorem VK{i:Ip}(h:i.hash.length=32)(a:32<(uj i).length):(uj i)[32]=.d (.int .u32 (i.idx:Int)):=by
 have:=adT h;rw[cm a]at this;exact Option.some.inj this
theorem VL{i:Ip}(h:i.hash.length=32)(a:33<(uj i).length):(uj i)[33]=.d (.int .u32 (i.seq:Int)):=by
 have:=adU h;rw[cm a]at this;exact Option.some.inj this
theorem VM{i:Ip}(h:i.hash.length=32)(a:34<(uj i).length):(uj i)[34]=.d (.ro 1 (i.wit.map bL)):=by
 have:=adV h;rw[cm a]at this;exact Option.some.inj this
theorem o6{i:Ip}(h:i.hash.length=32):(uj i).take 35=uj i:=cx (by rw[pX h];omega)
theorem Ti(n:Nat)(i:Ip):∀v,v∈uj i→v.low1 n:=by
 intro v a;simp only[uj,cL,et,List.mem_nil_iff,or_false]at a;rcases a with a|rfl|rfl|rfl;exact aJ _ _ _ a;trivial;trivial;trivial
theorem Ew{i:Ip}(h:i.hash.length=32):(List.range 32).map (fun k=>((uj i).drop k).take 1)=rb i.hash:=by
 have b:=jm h;rw[dk]at b;rw[←b];apply List.map_congr_left;intro k a;have a:=List.mem_range.1 a;unfold uj;rw[List.drop_append_of_le_length (by rw[ak];omega),List.take_append_of_le_length (by rw[e_,ak];omega)]
theorem zin:fQ Tryz.prog 68=some (cb z32++[.d (.int .u32 0),.d (.int .u32 0),.nil]):=by kernel_rfl
attribute [go_sem] zin
theorem o7:List.drop 35 (cb z32++[AV.d (.int .u32 0),AV.d (.int .u32 0),AV.nil])=[]:=rfl
theorem Tj(t:Tn)(ht:Sm t):au Tryz.prog 144 [.agg (eT t)] (fun r=>r=.d (nb (nc t))):=by
 obtain⟨⟨hv,H,hi,X⟩,h1,h2,W,h4⟩:=ht;refine bF Tryz.func144 Tryz.ntmps144 (rs:=[.tmp 2]) (by simp[AV.deep,AV.deep1,eT]) ?_;have U:IntKind.u64.wrap (t.ins.length:Int)=(t.ins.length:Int):=by rw[iK];omega
 have Y:IntKind.u64.wrap (t.outs.length:Int)=(t.outs.length:Int):=by rw[iK];omega
 have Z:=cv t.ins.length;have ac:=cv t.outs.length;simp[go_sem,eT];refine bA [] (jw [] t.ver aw hv) rfl (aj (.one (ao (.nil 1))) (aj (.deep a9) aD)) ?_;simp[go_sem,aE,U];refine aP [] (oU (le t.ver 4) t.ins.length (by simp[aM]) aq) rfl aw aw aw (by simp[AV.renL,AV.ren]) ?_;rintro r L⟨I,rfl,D⟩;refine⟨[(I,0)],by simp[db,gm],?_⟩;have ab:(le t.ver 4++aA t.ins.length).length≤9:=by rw[b_,aM];omega
 have e:(le t.ver 4++aA t.ins.length)++ff II t.ins 0=le t.ver 4++aA t.ins.length++xM t.ins:=rfl;have c:nc t=(le t.ver 4++aA t.ins.length++xM t.ins)++(aA t.outs.length++(kK t.outs++le t.lock 4)):=by simp[nc]
 rw[c];generalize le t.ver 4++aA t.ins.length++xM t.ins=R1 at *;generalize le t.ver 4++aA t.ins.length=B0 at *;simp[go_sem,bZ,bB,D,Blk.ren,aO,dA,AV.ren,b8]
 refine av (fun u:Nat×List Nat=>⟨[(1,.ptr 0 0 0 1),(3,.own 352 0 u.2.length u.2.length),(18,.d (.ro 35 (t.ins.map eI))),(19,.d (.int .i64 (t.ins.length:Int))),(20,.d (.int .i64 (u.1:Int)))],[(352,⟨5,1,rb u.2⟩),(0,⟨26,4,[eT t]⟩)],2000⟩)
  (fun u=>u.1≤t.ins.length∧u.2.length≤9+40*u.1∧u.2++ff II t.ins u.1=R1) (fun u=>t.ins.length-u.1) (0,B0) ⟨aw,by simp;omega,e⟩ (by
   simp[az,ai,fv,lk,AV.low,AV.low1,eT]
   exact aU _ _) ?_
 rintro⟨k,B⟩⟨z,A,f⟩;simp only at z A f;simp only[eT];simp only[go_sem,Nat.reduceEqDiff,Nat.reduceAdd,Nat.reduceLT,↓reduceIte,Nat.reduceMul];refine⟨fun h=>?_,fun h=>?_⟩
 ·obtain⟨i,p,F⟩:=bg (l:=t.ins) (k:=k) aq;obtain⟨a,w,s⟩:=hi i (cr p);have E:=ay (k:=k) aq;have T:=BB a;have K:=uh a;have v:=pX a;have Q:=Ew a;simp[go_sem]at Q;simp[go_sem,p,K,Eu,v,o6 a,o7,Q,aH,VK a,lu];refine⟨aq,?_⟩;have y:(B++i.hash).length=B.length+32:=by rw[b_,a]
  refine jU [352] (gP (B++i.hash) i.idx aq w) rfl (aj (.one (ao (bo y rfl aw))) (aj (.deep a9) aD)) (fun ρ=>by simp[AV.renL,AV.ren]) ?_;rintro r L⟨I,rfl,D⟩;refine⟨[(I,0)],by simp[db,gm],?_⟩;have ad:(B++i.hash++le i.idx 4).length=B.length+36:=by rw[b_,y,aM]
  have m:B++II i=B++i.hash++le i.idx 4++le i.seq 4:=by simp[II]
  generalize B++i.hash++le i.idx 4=B1 at *;simp[go_sem,bZ,bB,D,Blk.ren,aO,dA,AV.ren,b8,aE,v,VL a];refine jU [2480] (gP B1 i.seq aq s) rfl (aj (.one (ao (bo rfl rfl aw))) (aj (.deep a9) aD)) (fun ρ=>by simp[AV.renL,AV.ren]) ?_;rintro r M⟨J,rfl,n⟩;refine⟨[(J,0)],by simp[db,gm],?_⟩;have C:(B1++le i.seq 4).length=B1.length+4:=by rw[b_,aM]
  rw[←m]at n C⊢;generalize G:B++II i=B2 at *;simp[go_sem,bZ,bB,n,Blk.ren,aO,dA,AV.ren,b8,aE,E];refine Dy (k+1,B2) ⟨by simp only;omega,by simp only;omega,by rw[←G];exact ee F f⟩ (by simp only;omega) [(0,0),(2640,352)] 9000 (by decide) (by decide) (by decide) (by decide) ?_;simp[Gf,Dx,b8,AV.ren,Blk.ren,aO,dA,az,ai,fv,lk,AV.low,AV.low1,AV.renL];exact aU _ _
 ·have j:k=t.ins.length:=aq;subst j;have:=ef f;subst this;clear f e h z;have e:(B++aA t.outs.length)++ff gx t.outs 0=B++aA t.outs.length++kK t.outs:=rfl;have c:B++(aA t.outs.length++(kK t.outs++le t.lock 4))=(B++aA t.outs.length++kK t.outs)++le t.lock 4:=by simp
  rw[c];simp[go_sem,Y];refine bA [352] (xP B t.outs.length aq aq) rfl (aj (.one (ao (bo rfl rfl aw))) (aj (.deep a9) aD)) ?_;have O:(B++aA t.outs.length).length≤300:=by rw[b_];omega
  generalize B++aA t.outs.length++kK t.outs=R2 at *;generalize B++aA t.outs.length=B1 at *;simp[go_sem,aE]
  refine av (fun u:Nat×List Nat=>⟨[(1,.ptr 0 0 0 1),(3,.d (nb u.2)),(46,.d (.ro 2 (t.outs.map eO))),(47,.d (.int .i64 (t.outs.length:Int))),(48,.d (.int .i64 (u.1:Int)))],[(0,⟨26,4,[eT t]⟩)],9000⟩)
   (fun u=>u.1≤t.outs.length∧u.2.length≤300+613*u.1∧u.2++ff gx t.outs u.1=R2) (fun u=>t.outs.length-u.1) (0,B1) ⟨aw,by simp;omega,e⟩ (by
    simp[az,ai,fv,lk,AV.low,AV.low1,eT]) ?_
  rintro⟨k,b⟩⟨z,x,f⟩;simp only at z x f;simp only[eT];simp only[go_sem,Nat.reduceEqDiff,Nat.reduceAdd,Nat.reduceLT,↓reduceIte];refine⟨fun h=>?_,fun h=>?_⟩
  ·obtain⟨o,g,F⟩:=bg (l:=t.outs) (k:=k) aq;have q:=X o (cr g);have V:=W o (cr g);have E:=ay (k:=k) aq;have S:=xQ o;simp[go_sem,g,eO];refine ag (xO b o.1 aq q) a9 ?_;simp[go_sem];have R:(b++le o.1 8).length=b.length+8:=by rw[b_,aM]
   have m:b++gx o=b++le o.1 8++(aA o.2.length++o.2):=by simp[gx,cJ]
   refine ag (gp (b++le o.1 8) o.2 aq aq) a9 ?_;rw[←m];have N:(b++gx o).length=b.length+(gx o).length:=b_;simp[go_sem,E];refine am (k+1,b++gx o) ⟨by simp only;omega,by simp only;omega,ee F f⟩ (by simp only;omega) ?_;simp[az,ai,fv,lk,AV.low,AV.low1]
  ·have j:k=t.outs.length:=aq;subst j;have:=ef f;subst this;simp[go_sem];refine ag (jw b t.lock aq H) a9 ?_;simp[go_sem];exact aa a9 (by rw[c])
theorem Tm{i:Ip}(h:i.hash.length=32):((eI i).take 32).map (fun c=>[c])=i.hash.map fun(b:Nat)=>[DV.int .u8 (b:Int)]:=by
 unfold eI;rw[List.take_append_of_le_length (by rw[cj];omega),cx (by rw[cj];omega)];simp[cd]
theorem Ol(t:Tn)(Z:Sm t):au Tryz.prog 149 [.agg (eT t)] (fun r=>r=.d (nb (nc t))):=by
 obtain⟨⟨hv,W,hi,V⟩,h1,h2,U,h4⟩:=Z;refine bF Tryz.func149 Tryz.ntmps149 (rs:=[.tmp 2]) (by simp[AV.deep,AV.deep1,eT]) ?_;have S:IntKind.u64.wrap (t.ins.length:Int)=(t.ins.length:Int):=by rw[iK];omega
 have X:IntKind.u64.wrap (t.outs.length:Int)=(t.outs.length:Int):=by rw[iK];omega
 have Q:IntKind.u64.wrap (t.ver:Int)=(t.ver:Int):=by rw[iK];omega
 have wl:IntKind.u64.wrap (t.lock:Int)=(t.lock:Int):=by rw[iK];omega
 have Y:=cv t.ins.length;have ac:=cv t.outs.length;simp[go_sem,eT,Q];refine bA [] (sG [] t.ver 4 4 rfl aw aq aq) rfl (aj (.one (ao (.nil 1))) (aj (.deep a9) (aj (.deep a9) aD))) ?_;simp[go_sem,aE,S];refine aP [] (nI (le t.ver 4) t.ins.length (by simp[aM]) aq) rfl aw aw aw (by simp[AV.renL,AV.ren]) ?_;rintro r F⟨I,rfl,z⟩;refine⟨[(I,0)],by simp[db,gm],?_⟩;have ab:(le t.ver 4++aA t.ins.length).length≤9:=by rw[b_,aM];omega
 have f:(le t.ver 4++aA t.ins.length)++ff II t.ins 0=le t.ver 4++aA t.ins.length++xM t.ins:=rfl;have e:nc t=(le t.ver 4++aA t.ins.length++xM t.ins)++(aA t.outs.length++(kK t.outs++le t.lock 4)):=by simp[nc]
 rw[e];generalize le t.ver 4++aA t.ins.length++xM t.ins=R1 at *;generalize le t.ver 4++aA t.ins.length=B0 at *;simp[go_sem,bZ,bB,z,Blk.ren,aO,dA,AV.ren,b8]
 refine av (fun u:Nat×List Nat=>⟨[(1,.ptr 0 0 0 1),(3,.own 384 0 u.2.length u.2.length),(4,.d (.int .i64 (u.1:Int)))],[(384,⟨5,1,rb u.2⟩),(0,⟨26,4,[eT t]⟩)],2000⟩)
  (fun u=>u.1≤t.ins.length∧u.2.length≤9+40*u.1∧u.2++ff II t.ins u.1=R1) (fun u=>t.ins.length-u.1) (0,B0) ⟨aw,by simp;omega,f⟩ (by
   simp[az,ai,fv,lk,AV.low,AV.low1,eT]
   exact aU _ _) ?_
 rintro⟨k,B⟩⟨w,x,g⟩;simp only at w x g;simp only[eT];simp only[go_sem,Nat.reduceEqDiff,Nat.reduceAdd,Nat.reduceLT,↓reduceIte];refine⟨fun h=>?_,fun h=>?_⟩
 ·obtain⟨i,j,C⟩:=bg (l:=t.ins) (k:=k) aq;obtain⟨a,L,J⟩:=hi i (cr j);have A:=ay (k:=k) aq;have R:=BB a;have E:=uh a;have wx:IntKind.u64.wrap (i.idx:Int)=(i.idx:Int):=by rw[iK];omega
  have ws:IntKind.u64.wrap (i.seq:Int)=(i.seq:Int):=by rw[iK];omega
  have G:=Tm a;simp[go_sem,j,E,G,adS a,dk,aH,lu,wx];refine⟨aq,?_⟩;have v:(B++i.hash).length=B.length+32:=by rw[b_,a]
  refine jU [384] (mX (B++i.hash) i.idx 4 4 rfl aq aq aq) rfl (aj (.one (ao (bo v rfl aw))) (aj (.deep a9) (aj (.deep a9) aD))) (fun ρ=>by simp[AV.renL,AV.ren]) ?_;rintro r F⟨rfl,z⟩;refine⟨[(33,0)],by simp[db,gm],?_⟩;have ad:(B++i.hash++le i.idx 4).length=B.length+36:=by rw[b_,v,aM]
  have n:B++II i=B++i.hash++le i.idx 4++le i.seq 4:=by simp[II]
  generalize B++i.hash++le i.idx 4=B1 at *;simp[go_sem,bZ,bB,z,Blk.ren,aO,dA,AV.ren,b8,aE,j,aa0 a,ws];refine jU [2768] (mX B1 i.seq 4 4 rfl aq aq aq) rfl (aj (.one (ao (bo rfl rfl aw))) (aj (.deep a9) (aj (.deep a9) aD))) (fun ρ=>by simp[AV.renL,AV.ren]) ?_;rintro r H⟨rfl,p⟩;refine⟨[(33,0)],by simp[db,gm],?_⟩;have y:(B1++le i.seq 4).length=B1.length+4:=by rw[b_,aM]
  rw[←n]at p y⊢;generalize D:B++II i=B2 at *;simp[go_sem,bZ,bB,p,Blk.ren,aO,dA,AV.ren,b8,aE,A];refine Dy (k+1,B2) ⟨by simp only;omega,by simp only;omega,by rw[←D];exact ee C g⟩ (by simp only;omega) [(0,0),(3088,384)] 9000 (by decide) (by decide) (by decide) (by decide) ?_;simp[Gf,Dx,b8,AV.ren,Blk.ren,aO,dA,az,ai,fv,lk,AV.low,AV.low1,AV.renL];exact aU _ _
 ·have m:k=t.ins.length:=aq;subst m;have:=ef g;subst this;clear g f h w;have f:(B++aA t.outs.length)++ff gx t.outs 0=B++aA t.outs.length++kK t.outs:=rfl;have e:B++(aA t.outs.length++(kK t.outs++le t.lock 4))=(B++aA t.outs.length++kK t.outs)++le t.lock 4:=by simp
  rw[e];simp[go_sem,X];refine bA [384] (uT B t.outs.length aq aq) rfl (aj (.one (ao (bo rfl rfl aw))) (aj (.deep a9) aD)) ?_;have M:(B++aA t.outs.length).length≤300:=by rw[b_];omega
  generalize B++aA t.outs.length++kK t.outs=R2 at *;generalize B++aA t.outs.length=B1 at *;simp[go_sem,aE]
  refine av (fun u:Nat×List Nat=>⟨[(1,.ptr 0 0 0 1),(3,.d (nb u.2)),(5,.d (.int .i64 (u.1:Int)))],[(0,⟨26,4,[eT t]⟩)],9000⟩)
   (fun u=>u.1≤t.outs.length∧u.2.length≤300+613*u.1∧u.2++ff gx t.outs u.1=R2) (fun u=>t.outs.length-u.1) (0,B1) ⟨aw,by simp;omega,f⟩ (by
    simp[az,ai,fv,lk,AV.low,AV.low1,eT]) ?_
  rintro⟨k,b⟩⟨w,s,g⟩;simp only at w s g;simp only[eT];simp only[go_sem,Nat.reduceEqDiff,Nat.reduceAdd,Nat.reduceLT,↓reduceIte];refine⟨fun h=>?_,fun h=>?_⟩
  ·obtain⟨o,c,C⟩:=bg (l:=t.outs) (k:=k) aq;have q:=V o (cr c);have T:=U o (cr c);have A:=ay (k:=k) aq;have O:=xQ o;simp[go_sem,c,eO];refine ag (sG b o.1 8 8 rfl aq q aq) a9 ?_;simp[go_sem,c,eO];have N:(b++le o.1 8).length=b.length+8:=by rw[b_,aM]
   have n:b++gx o=b++le o.1 8++(aA o.2.length++o.2):=by simp[gx,cJ]
   refine ag (sH (b++le o.1 8) o.2 aq aq) a9 ?_;rw[←n];have K:(b++gx o).length=b.length+(gx o).length:=b_;simp[go_sem,A];refine am (k+1,b++gx o) ⟨by simp only;omega,by simp only;omega,ee C g⟩ (by simp only;omega) ?_;simp[az,ai,fv,lk,AV.low,AV.low1]
  ·have m:k=t.outs.length:=aq;subst m;have:=ef g;subst this;simp[go_sem,wl];refine ag (sG b t.lock 4 4 rfl aq aq aq) a9 ?_;simp[go_sem];exact aa a9 (by rw[e])
theorem zX{t:Tn}(n:Sm t):(nc t).length≤4000:=by
 obtain⟨⟨w,k,q,s⟩,c,d,b,u⟩:=n;have m:=cv t.ins.length;have p:=cv t.outs.length;have g:∀l:List Ip,(∀i,i∈l→i.hash.length=32)→(xM l).length=40*l.length:=by
  intro l
  induction l with
  |nil=>intro _;rfl
  |cons i r ih =>
   intro h;have c:=ih fun j a=>h j (cU _ a);have d:=BB (h i (d7 ..));have e:(xM (i::r)).length=(II i).length+(xM r).length:=by simp[xM]
   rw[e,List.length_cons];omega
 have f:∀l:List (Nat×List Nat),(∀o,o∈l→o.2.length≤600)→(kK l).length≤613*l.length:=by
  intro l
  induction l with
  |nil=>intro _;simp[kK]
  |cons i r ih =>
   intro h;have c:=ih fun j a=>h j (cU _ a);have d:=xQ i;have b:=h i (d7 ..);have e:(kK (i::r)).length=(gx i).length+(kK r).length:=by simp[kK]
   rw[e,List.length_cons];omega
 have x:=g t.ins fun i h=>(q i h).1;have v:=f t.outs b;unfold nc;simp only[b_,aM];omega
def ZK(i:Ip):List Nat:=om i.wit
theorem Om(t:Tn)(m:Sm t):au Tryz.prog 102 [.agg (eT t)] (fun r=>r=.d (nb (iN t))):=by
 have A:=zX m;refine bF Tryz.func102 Tryz.ntmps102 (rs:=[.tmp 2]) (by simp[AV.deep,AV.deep1,eT]) ?_;simp[go_sem,eT];refine ag (Tj t m) (by simp[AV.deep,AV.deep1]) ?_;obtain⟨⟨I,y,D,G⟩,E,H,F,z⟩:=m;have n:nc t++ff ZK t.ins 0=iN t:=rfl;generalize iN t=R at *;generalize nc t=B0 at *;simp[go_sem]
 refine av (fun u:Nat×List Nat=>⟨[(3,.d (nb u.2)),(9,.d (.ro 35 (t.ins.map eI))),(10,.d (.int .i64 (t.ins.length:Int))),(11,.d (.int .i64 (u.1:Int)))],[],9000⟩)
  (fun u=>u.1≤t.ins.length∧u.2.length≤4000+3635*u.1∧u.2++ff ZK t.ins u.1=R) (fun u=>t.ins.length-u.1) (0,B0) ⟨aw,by simp;omega,n⟩ (by
   simp[az,ai,fv,lk,AV.low,AV.low1]) ?_
 rintro⟨k,B⟩⟨v,c,g⟩;simp only at v c g;simp only[go_sem,Nat.reduceEqDiff,Nat.reduceAdd,Nat.reduceLT,↓reduceIte];refine⟨fun h=>?_,fun h=>?_⟩
 ·obtain⟨i,b,x⟩:=bg (l:=t.ins) (k:=k) aq;obtain⟨a,s,q⟩:=D i (cr b);have w:=ay (k:=k) aq;have o:=uh a;have e:=pX a;have p:=z i (cr b);have C:=zV p;simp[go_sem,b,o,Eu,e,o6 a,o7,VM a];refine ag (GI B i.wit aq p) a9 ?_;simp[go_sem,w];refine am (k+1,B++om i.wit) ⟨by simp only;omega,by simp only[b_];omega,ee (f:=ZK) x g⟩ (by simp only;omega) ?_;simp[az,ai,fv,lk,AV.low,AV.low1]
 ·have j:k=t.ins.length:=aq;subst j;have:=ef g;subst this;simp[go_sem];exact aa a9 rfl
theorem KO(t:Tn)(j:Sm t):au Tryz.prog 108 [.agg (eT t)] (fun r=>r=.d (nb (iN t))):=by
 have y:=zX j;refine bF Tryz.func108 Tryz.ntmps108 (rs:=[.tmp 2]) (by simp[AV.deep,AV.deep1,eT]) ?_;simp[go_sem,eT];refine ag (Ol t j) (by simp[AV.deep,AV.deep1]) ?_;obtain⟨⟨G,w,A,E⟩,C,F,D,x⟩:=j;have m:nc t++ff ZK t.ins 0=iN t:=rfl;generalize iN t=R at *;generalize nc t=B0 at *;simp[go_sem]
 refine av (fun u:Nat×List Nat=>⟨[(1,.ptr 0 0 0 1),(3,.d (nb u.2)),(4,.d (.int .i64 (u.1:Int)))],[(0,⟨26,4,[eT t]⟩)],9000⟩)
  (fun u=>u.1≤t.ins.length∧u.2.length≤4000+3635*u.1∧u.2++ff ZK t.ins u.1=R) (fun u=>t.ins.length-u.1) (0,B0) ⟨aw,by simp;omega,m⟩ (by
   simp[az,ai,fv,lk,AV.low,AV.low1,eT]) ?_
 rintro⟨k,B⟩⟨q,c,e⟩;simp only at q c e;simp only[eT];simp only[go_sem,Nat.reduceEqDiff,Nat.reduceAdd,Nat.reduceLT,↓reduceIte];refine⟨fun h=>?_,fun h=>?_⟩
 ·obtain⟨i,a,v⟩:=bg (l:=t.ins) (k:=k) aq;obtain⟨b,p,o⟩:=A i (cr a);have s:=ay (k:=k) aq;have n:=x i (cr a);have z:=zV n;simp[go_sem,a,xJ b];refine ag (Et B i.wit aq n) a9 ?_;simp[go_sem,s];refine am (k+1,B++om i.wit) ⟨by simp only;omega,by simp only[b_];omega,ee (f:=ZK) v e⟩ (by simp only;omega) ?_;simp[az,ai,fv,lk,AV.low,AV.low1]
 ·have g:k=t.ins.length:=aq;subst g;have:=ef e;subst this;simp[go_sem];exact aa a9 rfl
theorem KP{t:Tn}(h:Sm t):ia 20 30 1000 t=true:=by
 obtain⟨_,k,j,c,e⟩:=h;simp only[ia,Bool.and_eq_true,decide_eq_true_eq,cN,iM,fC,d9];refine⟨aq,aq,fun o f=>by have:=c o f;omega,fun i b=>?_⟩;obtain⟨g,a⟩:=e i b;exact⟨aq,fun x d=>by have:=a x d;omega⟩
theorem KQ{xs:List (List Nat)}(h:SmW xs):fC 1000 xs=true:=by
 simp only[fC,d9,decide_eq_true_eq];exact fun x a=>by have:=h.2 x a;omega
theorem KR(t:Tn)(A:Sm t):au Tryz.prog 101 [.agg (eT t)] (fun r=>r=.d (.bool true)):=by
 refine bF Tryz.func101 Tryz.ntmps101 (rs:=[.tmp 2]) (by simp[AV.deep,AV.deep1,eT]) ?_;obtain⟨⟨F,x,B,D⟩,C,E,u,y⟩:=A;have w:¬ 20<(t.ins.length:Int):=aq;have i2:¬ 20<(t.outs.length:Int):=aq;simp[go_sem,eT,w,i2]
 refine av (fun k:Nat=>⟨[(1,.ptr 0 0 0 1),(18,.d (.ro 2 (t.outs.map eO))),(19,.d (.int .i64 (t.outs.length:Int))),(20,.d (.int .i64 (k:Int)))],[(0,⟨26,4,[eT t]⟩)],9000⟩)
  (fun k=>k≤t.outs.length) (fun k=>t.outs.length-k) 0 aw (by
   simp[az,ai,fv,lk,AV.low,AV.low1,eT]) ?_
 intro k s;simp only[eT];simp only[go_sem,Nat.reduceEqDiff,Nat.reduceAdd,Nat.reduceLT,↓reduceIte];refine⟨fun h=>?_,fun h=>?_⟩
 ·obtain⟨o,c,v⟩:=bg (l:=t.outs) (k:=k) aq;have q:=u o (cr c);have f:=ay (k:=k) aq;simp[go_sem,c,eO];refine ag (IH o.2) a9 ?_;have e:¬ 1000<o.2.length:=aq;simp[go_sem,e,f];refine am (k+1) aq aq ?_;simp[az,ai,fv,lk,AV.low,AV.low1]
 ·simp[go_sem]
  refine av (fun k:Nat=>⟨[(1,.ptr 0 0 0 1),(29,.d (.ro 35 (t.ins.map eI))),(30,.d (.int .i64 (t.ins.length:Int))),(31,.d (.int .i64 (k:Int)))],[(0,⟨26,4,[eT t]⟩)],19000⟩)
   (fun k=>k≤t.ins.length) (fun k=>t.ins.length-k) 0 aw (by
    simp[az,ai,fv,lk,AV.low,AV.low1,eT]) ?_
  intro k s;simp only[eT];simp only[go_sem,Nat.reduceEqDiff,Nat.reduceAdd,Nat.reduceLT,↓reduceIte];refine⟨fun h=>?_,fun h=>?_⟩
  ·obtain⟨i,b,v⟩:=bg (l:=t.ins) (k:=k) aq;obtain⟨a,p,n⟩:=B i (cr b);have f:=ay (k:=k) aq;have j:=uh a;have g:=pX a;have m:=y i (cr b);have z:=m.1;have e:¬ 30<(i.wit.length:Int):=aq;simp[go_sem,b,j,Eu,g,o6 a,o7,VM a,e];refine ag (Bw i.wit aq) a9 ?_;simp[go_sem,KQ m,f];refine am (k+1) aq aq ?_;simp[az,ai,fv,lk,AV.low,AV.low1]
  ·simp[go_sem];exact aa a9 rfl
def nO(t:Tn):Int:=if 12000<(iN t).length then 4 else 0
theorem zY(t:Tn)(b:Sm t):au Tryz.prog 54 [.agg (eT t)] (fun r=>r=.d (.int .i64 (nO t))):=by
 refine bF Tryz.func54 Tryz.ntmps54 (rs:=[.tmp 2]) (by simp[AV.deep,AV.deep1,eT]) ?_;simp[go_sem,eT];refine ag (KR t b) (by simp[AV.deep,AV.deep1]) ?_;simp[go_sem];refine ag (Om t b) (by simp[AV.deep,AV.deep1]) ?_;have hc:nO t=if 12000<(iN t).length then 4 else 0:=rfl;rw[hc];by_cases h:12000<(iN t).length
 ·have a:12000<((iN t).length:Int):=aq;simp[go_sem,nb,a,h];exact aa a9 rfl
 ·have a:¬ 12000<((iN t).length:Int):=aq;simp[go_sem,nb,a,h];exact aa a9 rfl
theorem GK(t:Tn)(b:Sm t):au Tryz.prog 61 [.agg (eT t)] (fun r=>r=.d (.int .i64 (nO t))):=by
 refine bF Tryz.func61 Tryz.ntmps61 (rs:=[.tmp 2]) (by simp[AV.deep,AV.deep1,eT]) ?_;simp[go_sem,eT];refine ag (GH t b.1) (by simp[AV.deep,AV.deep1]) ?_;rw[KP b];simp[go_sem];refine ag (KO t b) (by simp[AV.deep,AV.deep1]) ?_;have hc:nO t=if 12000<(iN t).length then 4 else 0:=rfl;rw[hc];by_cases h:12000<(iN t).length
 ·have a:12000<((iN t).length:Int):=aq;simp[go_sem,nb,a,h];exact aa a9 rfl
 ·have a:¬ 12000<((iN t).length:Int):=aq;simp[go_sem,nb,a,h];exact aa a9 rfl
def bR(t:Tn)(n:Int)(coins:List (Nat×List Nat)):Int :=
 if nO t≠0∨coins.length≠t.ins.length∨n<0∨(coins.length:Int)≤n∨cN 1000 coins=false then 1 else 0
theorem nf(t:Tn)(n:Int)(coins:List (Nat×List Nat))(f:Sm t)(hc:coins.length≤1000):au Tryz.prog 45 [.agg (eS t n coins)] (fun r=>r=.d (.int .i64 (bR t n coins))):=by
 refine bF Tryz.func45 Tryz.ntmps45 (rs:=[.tmp 2]) (by simp[AV.deep,AV.deep1,eS]) ?_;generalize c:bR t n coins=X;simp[go_sem,eS];refine ag (zY t f) (by simp[AV.deep,AV.deep1]) ?_;by_cases b:nO t=0
 ·by_cases c2:(coins.length:Int)=(t.ins.length:Int)
  ·by_cases c3:n<0
   ·have:X=1:=by rw[←c];simp[bR,c3]
    subst this;simp[go_sem,b,c2,c3];exact aa a9 rfl
   ·by_cases c4:(coins.length:Int)≤n
    ·have:X=1:=by rw[←c];simp[bR,c4]
     subst this;have a:(t.ins.length:Int)≤n:=aq;simp[go_sem,b,c2,c3,a];exact aa a9 rfl
    ·have a:¬(t.ins.length:Int)≤n:=aq;simp[go_sem,b,c2,c3,a];refine ag (Bz coins aq) a9 ?_
     have e:X=if cN 1000 coins=false then 1 else 0:=by
      rw[←c];unfold bR;have:coins.length=t.ins.length:=aq;simp[b,this,c3,a]
     rw[e];cases cN 1000 coins
     ·simp[go_sem];exact aa a9 rfl
     ·simp[go_sem];exact aa a9 rfl
  ·have:X=1:=by rw[←c];unfold bR;rw[if_pos (.inr (.inl aq))]
   subst this;simp[go_sem,b,c2];exact aa a9 rfl
 ·have:X=1:=by rw[←c];simp[bR,b]
  subst this;simp[go_sem,b];exact aa a9 rfl
theorem GL(t:Tn)(n:Int)(coins:List (Nat×List Nat))(u:Sm t)(hc:coins.length≤1000):au Tryz.prog 19 [.agg (eS t n coins)] (fun r=>r=.d (.int .i64 (bR t n coins))):=by
 refine bF Tryz.func19 Tryz.ntmps19 (rs:=[.tmp 2]) (by simp[AV.deep,AV.deep1,eS]) ?_;generalize c:bR t n coins=X;simp[go_sem,eS];refine ag (GK t u) (by simp[AV.deep,AV.deep1]) ?_;by_cases b:nO t=0
 ·by_cases c2:(coins.length:Int)=(t.ins.length:Int)
  ·by_cases c3:n<0
   ·have:X=1:=by rw[←c];simp[bR,c3]
    subst this;simp[go_sem,b,c2,c3];exact aa a9 rfl
   ·by_cases c4:(coins.length:Int)≤n
    ·have:X=1:=by rw[←c];simp[bR,c4]
     subst this;have a:(t.ins.length:Int)≤n:=aq;simp[go_sem,b,c2,c3,a];exact aa a9 rfl
    ·have a:¬(t.ins.length:Int)≤n:=aq;have e:X=if cN 1000 coins=false then 1 else 0:=by
      rw[←c];unfold bR;have:coins.length=t.ins.length:=aq;simp[b,this,c3,a]
     rw[e];simp[go_sem,b,c2,c3,a]
     refine av (fun k:Nat=>⟨[(1,.ptr 0 0 0 1),(3,.d (.int .i64 (k:Int)))],[(0,⟨28,6,[eS t n coins]⟩)],2000⟩)
      (fun k=>k≤coins.length∧cN 1000 (coins.drop k)=cN 1000 coins) (fun k=>coins.length-k) 0 ⟨aq,rfl⟩ (by
       simp[az,ai,fv,lk,AV.low,AV.low1,eS]) ?_
     rintro k⟨v,i⟩;simp only[eS];simp only[go_sem,Nat.reduceEqDiff,Nat.reduceAdd,Nat.reduceLT,↓reduceIte];refine⟨fun h=>?_,fun h=>?_⟩
     ·obtain⟨o,f,m⟩:=bg (l:=coins) (k:=k) aq;have q:=ay (k:=k) aq;by_cases p:o.2.length≤1000
      ·have g:¬ 1000<(o.2.length:Int):=aq;simp[go_sem,f,eO,nb,g,q];refine am (k+1) ⟨aq,iu m i (by simpa using p)⟩ aq ?_;simp[az,ai,fv,lk,AV.low,AV.low1]
      ·have g:1000<(o.2.length:Int):=aq;have:=fL m i (by simpa using p);simp[go_sem,f,eO,nb,g];exact aa a9 (by rw[show cN 1000 coins=false from this];rfl)
     ·have j:k=coins.length:=aq;subst j;have s:cN 1000 coins=true:=iw i;simp[go_sem];exact aa a9 (by rw[s];rfl)
  ·have:X=1:=by rw[←c];unfold bR;rw[if_pos (.inr (.inl aq))]
   subst this;simp[go_sem,b,c2];exact aa a9 rfl
 ·have:X=1:=by rw[←c];simp[bR,b]
  subst this;simp[go_sem,b];exact aa a9 rfl
def xR(t:Tn)(coins:List (Nat×List Nat)):Bool:=ia 6 6 600 t&&(decide (coins.length≤8)&&cN 1100 coins)
theorem KT(t:Tn)(n:Int)(coins:List (Nat×List Nat))(s:t.ok):au Tryz.prog 28 [.agg (eS t n coins)] (fun r=>r=.d (.bool (xR t coins))):=by
 refine bF Tryz.func28 Tryz.ntmps28 (rs:=[.tmp 2]) (by simp[AV.deep,AV.deep1,eS]) ?_;generalize b:xR t coins=X;unfold xR at b;simp[go_sem,eS];refine ag (GG t s) (by simp[AV.deep,AV.deep1]) ?_;generalize ia 6 6 600 t=W at *
 cases W
 ·simp at b;subst b;simp[go_sem];exact aa a9 rfl
 ·by_cases c2:coins.length≤8
  ·have a:¬ 8<(coins.length:Int):=aq;have e:X=cN 1100 coins:=by rw[←b];simp[c2]
   rw[e];simp[go_sem,a]
   refine av (fun k:Nat=>⟨[(1,.ptr 0 0 0 1),(3,.d (.int .i64 (k:Int)))],[(0,⟨28,6,[eS t n coins]⟩)],2000⟩)
    (fun k=>k≤coins.length∧cN 1100 (coins.drop k)=cN 1100 coins) (fun k=>coins.length-k) 0 ⟨aq,rfl⟩ (by
     simp[az,ai,fv,lk,AV.low,AV.low1,eS]) ?_
   rintro k⟨u,g⟩;simp only[eS];simp only[go_sem,Nat.reduceEqDiff,Nat.reduceAdd,Nat.reduceLT,↓reduceIte];refine⟨fun h=>?_,fun h=>?_⟩
   ·obtain⟨o,c,j⟩:=bg (l:=coins) (k:=k) aq;have p:=ay (k:=k) aq;by_cases m:o.2.length≤1100
    ·have f:¬ 1100<(o.2.length:Int):=aq;simp[go_sem,c,eO,nb,f,p];refine am (k+1) ⟨aq,iu j g (by simpa using m)⟩ aq ?_;simp[az,ai,fv,lk,AV.low,AV.low1]
    ·have f:1100<(o.2.length:Int):=aq;have:=fL j g (by simpa using m);simp[go_sem,c,eO,nb,f];exact aa a9 (by rw[show cN 1100 coins=false from this])
   ·have i:k=coins.length:=aq;subst i;have q:cN 1100 coins=true:=iw g;simp[go_sem];exact aa a9 (by rw[q])
  ·have a:8<(coins.length:Int):=aq;have:X=false:=by rw[←b];simp[c2]
   subst this;simp[go_sem,a];exact aa a9 rfl
theorem BC(t:Tn)(n:Int)(coins:List (Nat×List Nat))(a:Int)(h:a<0∨(t.outs.length:Int)≤a):au Tryz.prog 110 [.agg (eS t n coins),.d (.int .i64 a)] (fun r=>r=.tup [.nil,.d (.bool false)]):=by
 refine bF Tryz.func110 Tryz.ntmps110 (rs:=[.tmp 4,.tmp 5]) (by simp[AV.deep,AV.deep1,eS]) ?_;by_cases b:a<0
 ·simp[go_sem,eS,b,ah];exact aa a9 rfl
 ·have c:(t.outs.length:Int)≤a:=aq;simp[go_sem,eS,b,c,ah];exact aa a9 rfl
theorem xT(t:Tn)(n:Int)(coins:List (Nat×List Nat))(k:Nat)(o:Nat×List Nat)(h:t.outs[k]?=some o):au Tryz.prog 110 [.agg (eS t n coins),.d (.int .i64 (k:Int))] (fun r=>r=.tup [.d (nb o.2),.d (.bool true)]):=by
 refine bF Tryz.func110 Tryz.ntmps110 (rs:=[.tmp 4,.tmp 5]) (by simp[AV.deep,AV.deep1,eS]) ?_;have e:=(ci.1 h).1;have b:¬(k:Int)<0:=aq;have a:¬(t.outs.length:Int)≤(k:Int):=aq;have c:¬t.outs.length≤k:=aq;simp[go_sem,eS,b,a,h,eO,ah];exact aa a9 rfl
theorem jx(a b:List Nat)(e:bytes a)(c:bytes b):au Tryz.prog 111 [.d (nb a),.d (nb b)] (fun r=>r=.d (.bool (decide (a=b)))):=by
 refine bF Tryz.func111 Tryz.ntmps111 (rs:=[.tmp 4]) a9 ?_;simp[go_sem,nb];refine pQ a 5 e (by simp[go_sem]) (by simp[go_sem]) Tryz.underlying5 ?_;simp[go_sem];refine pQ b 5 c (by simp[go_sem]) (by simp[go_sem]) Tryz.underlying5 ?_;simp[go_sem,Gp];exact aa a9 rfl
def vB(t:Tn)(n:Int)(coins:List (Nat×List Nat))(b:List Nat)(a:Int):Int×Int×Int :=
 if bR t n coins≠0 then(0,0,1)
 else match t.outs[a.toNat]? with
  |some o=>if 0≤a then(if jb o.2=b then(a,(((coins[n.toNat]?.map (·.1)).getD 0:Nat):Int),0)else(0,0,24))else(0,0,24)
  |none=>(0,0,24)
def To(x:Int×Int×Int):AV:=.tup [.agg [.d (.int .i64 x.1),.d (.int .u64 x.2.1)],.d (.int .i64 x.2.2)]
theorem aa4{t:Tn}{n:Int}{coins:List (Nat×List Nat)}{a:List Nat}{b:Int}(h:bR t n coins=1):vB t n coins a b=(0,0,1):=by
 simp[vB,h]
theorem aa5{t:Tn}{n:Int}{coins:List (Nat×List Nat)}{b:List Nat}{a:Int}(h:bR t n coins=0)(c:a<0∨(t.outs.length:Int)≤a):vB t n coins b a=(0,0,24):=by
 rcases c with c|c;have:¬ 0≤a:=aq;simp only[vB,h,this];cases t.outs[a.toNat]?<;>simp;have:t.outs[a.toNat]?=none:=List.getElem?_eq_none aq;simp[vB,h,this]
theorem nP(t:Tn)(n:Int)(coins:List (Nat×List Nat)):bR t n coins=1∨(bR t n coins=0∧0≤n∧n<(coins.length:Int)):=by
 unfold bR;split;exact .inl rfl;rename_i h;exact .inr ⟨rfl,aq,aq⟩
theorem GM(t:Tn)(n:Int)(coins:List (Nat×List Nat))(a:List Nat)(b:Int)(i:Sm t)(hc:coins.length≤1000)(p:bytes a) :
  au Tryz.prog 234 [.agg (eS t n coins),.d (nb a),.d (.int .i64 b)] (fun r=>r=To (vB t n coins a b)):=by
 refine bF Tryz.func234 Tryz.ntmps234 (rs:=[.cell 6 55,.tmp 7]) (by simp[AV.deep,AV.deep1,eS]) ?_;simp[go_sem,eS];refine ag (nf t n coins i hc) (by simp[AV.deep,AV.deep1]) ?_;rcases nP t n coins with e|⟨e,q,x⟩
 ·rw[e,aa4 e];simp[go_sem,ah];exact aa a9 rfl
 ·rw[e];simp[go_sem];by_cases j:b<0∨(t.outs.length:Int)≤b
  ·refine ag (BC t n coins b j) (by simp[AV.deep,AV.deep1]) ?_;rw[aa5 e j];simp[go_sem,ah];exact aa a9 rfl
  ·obtain⟨k,rfl⟩:∃k:Nat,b=(k:Int):=⟨b.toNat,aq⟩;obtain⟨m,rfl⟩:∃k:Nat,n=(k:Int):=⟨n.toNat,aq⟩;have u:k<t.outs.length:=aq;obtain⟨o,g⟩:∃o,t.outs[k]?=some o:=⟨_,cm u⟩;obtain⟨c,f⟩:∃o,coins[m]?=some o:=⟨_,cm (by omega:m<coins.length)⟩;have s:=i.2.2.2.1 o (cr g);have v:vB t m coins a k=if jb o.2=a then((k:Int),(c.1:Int),0)else(0,0,24):=by
    simp[vB,e,g,f]
   rw[v];refine ag (xT t m coins k o g) (by simp[AV.deep,AV.deep1]) ?_;simp[go_sem];refine ag (xm o.2 aq) a9 ?_;have l:=lC o.2;have w:bytes (jb o.2):=fA _;generalize jb o.2=R at *;simp[go_sem,l,cp];refine jh (jx R a w p) rfl (aj (.one (ao (eU rfl trivial l))) (aj (.deep a9) aD)) trivial ?_;by_cases h:R=a
   ·simp[go_sem,h,f,eO,ah];exact aa a9 rfl
   ·simp[go_sem,h,ah];exact aa a9 rfl
theorem BD{n:Nat}{a:List DV}(h:kq Tryz.prog (n+1) 22 a):∃x:Nat,a=[.int .u32 (x:Int)]∧x<4294967296:=by
 rw[kq]at h;simp only[Tryz.underlying22]at h;obtain⟨x,rfl,c⟩:=h;have b:0≤x∧x<4294967296:=by simp[IntKind.has,IntKind.min,IntKind.max,IntKind.signed,IntKind.bits]at c;omega
 exact⟨x.toNat,by rw[show((x.toNat:Nat):Int)=x by omega],aq⟩
theorem XU{n:Nat}{a:List DV}(h:kq Tryz.prog (n+1) 53 a):∃x:Nat,a=[.int .u64 (x:Int)]∧x<18446744073709551616:=by
 rw[kq]at h;simp only[Tryz.underlying53]at h;obtain⟨x,rfl,c⟩:=h;have b:0≤x∧x<18446744073709551616:=by simp[IntKind.has,IntKind.min,IntKind.max,IntKind.signed,IntKind.bits]at c;omega
 exact⟨x.toNat,by rw[show((x.toNat:Nat):Int)=x by omega],aq⟩
theorem XV{n:Nat}{f:List DV}(h:kq Tryz.prog (n+3) 57 f):∃o:Nat×List Nat,f=eO o∧o.1<18446744073709551616∧bytes o.2:=by
 rw[kq]at h;simp only[Tryz.underlying57,List.map_cons,List.map_nil]at h;obtain⟨a,b,rfl,l,d,g,m,rfl,e,c,rfl⟩:=h;obtain⟨x,rfl,i⟩:=XU d;rw[show Tryz.prog.cellsOf 31=1 by kernel_rfl]at e
 match g,e,c with
 |[y],_,c =>
  obtain⟨k,rfl,_,j⟩:=xi c;exact⟨(x,k),rfl,i,j⟩
theorem IJ{n:Nat}{c:List DV}(h:kq Tryz.prog (n+4) 24 c):∃os:List (Nat×List Nat),c=[.ro 2 (os.map eO)]∧∀o,o∈os→o.1<18446744073709551616∧bytes o.2:=by
 rw[kq]at h;simp only[Tryz.underlying24]at h;obtain⟨es,rfl,i,d⟩:=h;obtain⟨os,rfl,a⟩:=wV (enc:=eO) (R:=fun o=>o.1<18446744073709551616∧bytes o.2) (es:=es) (fun r b=>by
  obtain⟨f,j⟩:=d r b;obtain⟨o,rfl,e,g⟩:=XV f
  exact⟨o,rfl,e,g⟩)
 exact⟨os,by rw[show Tryz.prog.cellsOf 57=2 by kernel_rfl],a⟩
theorem aa6{n:Nat}{m:List DV}(h:kq Tryz.prog (n+4) 68 m):∃i:Ip,m=eI i∧i.ok∧bytes i.hash:=by
 rw[kq]at h;simp only[Tryz.underlying68,List.map_cons,List.map_nil]at h;obtain⟨a,b,rfl,C,e,w,D,rfl,E,l,r,b3,rfl,hc,f,rfl⟩:=h;rw[kq]at e;simp only[Tryz.underlying66,List.map_cons,List.map_nil]at e;obtain⟨c,d,rfl,t,j,B,v,rfl,A,k,rfl⟩:=e;obtain⟨g,rfl,o,s⟩:=A9 j;obtain⟨x,rfl,q⟩:=BD k;obtain⟨y,rfl,u⟩:=BD l;rw[show Tryz.prog.cellsOf 34=1 by kernel_rfl]at hc
 match r,hc,f with
 |[z],_,f =>
  obtain⟨p,rfl,_⟩:=Kw f;exact⟨⟨g,x,y,p⟩,by simp[eI],⟨o,q,u⟩,s⟩
theorem XW{n:Nat}{c:List DV}(h:kq Tryz.prog (n+5) 23 c):∃is:List Ip,c=[.ro 35 (is.map eI)]∧∀i,i∈is→i.ok∧bytes i.hash:=by
 rw[kq]at h;simp only[Tryz.underlying23]at h;obtain⟨es,rfl,j,d⟩:=h;obtain⟨e,rfl,a⟩:=wV (enc:=eI) (R:=fun i=>i.ok∧bytes i.hash) (es:=es) (fun r b=>by
  obtain⟨g,k⟩:=d r b;obtain⟨o,rfl,f⟩:=aa6 g
  exact⟨o,rfl,f⟩)
 exact⟨e,by rw[show Tryz.prog.cellsOf 68=35 by kernel_rfl],a⟩
theorem aa7{n:Nat}{q:List DV}(h:kq Tryz.prog (n+6) 26 q):∃t:Tn,q.map .d=eT t∧t.ok∧(∀o,o∈t.outs→bytes o.2)∧∀i,i∈t.ins→bytes i.hash:=by
 rw[kq]at h;simp only[Tryz.underlying26,List.map_cons,List.map_nil]at h;obtain⟨a,b,rfl,z,f,w,A,rfl,C,m,B,b3,rfl,hc,j,x,b4,rfl,y,k,rfl⟩:=h;obtain⟨v,rfl,u⟩:=BD f;obtain⟨is,rfl,e⟩:=XW m;obtain⟨s,rfl,c⟩:=IJ j;obtain⟨l,rfl,r⟩:=BD k;exact⟨⟨v,is,s,l⟩,rfl,⟨u,r,fun i p=>(e i p).1,fun o g=>(c o g).1⟩,fun o g=>(c o g).2,fun i p=>(e i p).2⟩
theorem XX{n:Nat}{a:AV}(h:sy Tryz.prog (n+7) 28 a):∃(t:Tn)(m:Int)(coins:List (Nat×List Nat)),a=.agg (eS t m coins)∧t.ok∧(∀o,o∈t.outs→bytes o.2)∧∀o,o∈coins→o.1<18446744073709551616∧bytes o.2:=by
 unfold sy at h;simp only[Tryz.underlying28]at h;obtain⟨p,rfl,h⟩:=h;rw[kq]at h;simp only[Tryz.underlying28,List.map_cons,List.map_nil]at h;obtain⟨a,b,rfl,q,d,l,r,rfl,u,c,s,b3,rfl,hc,f,rfl⟩:=h;obtain⟨t,g,k,i,_⟩:=aa7 d;rw[kq]at c;simp only[Tryz.underlying3]at c;obtain⟨m,rfl,_⟩:=c;obtain⟨j,rfl,e⟩:=IJ f;refine⟨t,m,j,?_,k,i,e⟩;rw[List.map_append,g];rfl
theorem XY{r n:Nat}(d:n<64)(b:r<2 ^ n):Go.bits .andNot .u64 ((r+2 ^ n:Nat):Int) ((2 ^ n:Nat):Int)=(r:Int):=by
 have g:(2:Nat) ^ n<2 ^ 64:=Nat.pow_lt_pow_right aq d;have h:(2:Nat) ^ n+2 ^ n≤2 ^ 64:=by
  have:(2:Nat) ^ (n+1)≤2 ^ 64:=Nat.pow_le_pow_right aq aq;rw[Nat.pow_succ]at this;omega
 have c:(BitVec.ofNat 64 (r+2 ^ n)) &&& ~~~(BitVec.ofNat 64 (2 ^ n))=BitVec.ofNat 64 r:=by
  apply BitVec.eq_of_getLsbD_eq;intro i f;have e:r+2 ^ n=2 ^ n ||| r:=by rw[Nat.add_comm];have:=Nat.two_pow_add_eq_or_of_lt b 1;simpa using this
  simp only[BitVec.getLsbD_and,BitVec.getLsbD_not,BitVec.getLsbD_ofNat,f,decide_true,Bool.true_and,e,Nat.testBit_or,Nat.testBit_two_pow];by_cases a:n=i;subst a;simp[Nat.testBit_lt_two_pow b];simp[a]
 show IntKind.u64.wrap (((BitVec.ofInt 64 ((r+2 ^ n:Nat):Int)) &&& ~~~(BitVec.ofInt 64 ((2 ^ n:Nat):Int))).toNat:Int)=_;rw[BitVec.ofInt_natCast,BitVec.ofInt_natCast,c,BitVec.toNat_ofNat,iK];omega
theorem On{a c k:Nat}(b:a<2 ^ k):a ||| c*2 ^ k=a+c*2 ^ k:=by
 rw[Nat.or_comm,Nat.mul_comm,←Nat.two_pow_add_eq_or_of_lt b];omega
theorem Oo{b:List Nat}{k c:Nat}(h:b[k]?=some c):kt (b.take (k+1))=kt (b.take k)+c*2 ^ (8*k):=by
 have d:=(ci.1 h).1;have a:(b.take k).length=k:=by rw[List.length_take];omega
 rw[List.take_add_one,h];show kt (b.take k++[c])=_;rw[nK,a,kt,kt,Nat.mul_zero,Nat.add_zero,Nat.mul_comm,Nat.pow_mul]
theorem Tq{b:List Nat}(c:bytes b)(k:Nat)(d:k≤b.length):kt (b.take k)<2 ^ (8*k):=by
 have:=ug (b:=b.take k) (fun x a=>c x (List.mem_of_mem_take a));rw[List.length_take,Nat.min_eq_left d,show(256:Nat)=2 ^ 8 by rfl,←Nat.pow_mul]at this;exact this
theorem nQ(v:Bool):au Tryz.prog 224 [.d (.bool v)] (fun r=>r=.d (nb (js v))):=by
 refine bF Tryz.func224 Tryz.ntmps224 (rs:=[.tmp 2]) a9 ?_;cases v with
 |true =>
  simp[go_sem,ah];exact dU (ao (ej (ty:=5) (e:=1) (es:=[[.int .u8 1]]) (by simp[lk]) trivial rfl aw)) a9 rfl
 |false =>
  simp[go_sem,ah];exact dU (ao (.nil 1)) a9 rfl
theorem zZ(a:bc)(x:Nat):lH (a++[x])=(a.any (fun c=>decide (c≠0))||decide (x≠0∧x≠128)):=by
 induction a with
 |nil=>simp[lH]
 | cons c a ih =>
  cases a with
  |nil=>simp[lH]
  |cons d a =>
   rw[List.cons_append,List.cons_append,lH,←List.cons_append,ih];simp[Bool.or_assoc];simp
theorem Ey{b:bc}{i c:Nat}(h:b[i]?=some c)(f:c≠0)(g:¬(i=b.length-1∧c=128)):lH b=true:=by
 rcases fe b with rfl|⟨a,x,rfl⟩;simp at h;rw[zZ,Bool.or_eq_true];rcases Nat.lt_or_ge i a.length with d|d;rw[List.getElem?_append_left d]at h;exact .inl (List.any_eq_true.2 ⟨c,cr h,by simpa using f⟩);rw[dz d]at h;have:i-a.length=0:=by
  have:=(ci.1 h).1;simp at this;omega
 rw[this]at h;simp at h;subst h;refine .inr ?_;simp only[decide_eq_true_eq];exact⟨f,fun e=>g ⟨by simp;omega,e⟩⟩
theorem Tt{b:bc}(h:∀i c,b[i]?=some c→c=0∨(i=b.length-1∧c=128)):lH b=false:=by
 rcases fe b with rfl|⟨a,x,rfl⟩;rfl;rw[zZ,Bool.or_eq_false_iff];constructor;rw[List.any_eq_false];intro c hc;obtain⟨i,d⟩:=List.getElem?_of_mem hc;have f:=(ci.1 d).1;rcases h i c (by rw[List.getElem?_append_left f];exact d)with e|⟨e,_⟩;simp[e];simp at e;omega;rcases h a.length x aw with e|⟨_,e⟩<;>simp[e]
theorem o8(b:bc)(D:bytes b)(s:b.length≤1000000):au Tryz.prog 141 [.d (nb b)] (fun r=>r=.d (.bool (lH b))):=by
 refine bF Tryz.func141 Tryz.ntmps141 (rs:=[.tmp 2]) a9 ?_;simp[go_sem,nb]
 refine av (fun k:Nat=>⟨[(0,.d (nb b)),(6,.d (nb b)),(7,.d (.int .i64 (b.length:Int))),(8,.d (.int .i64 (k:Int)))],[],1000⟩)
  (fun k=>k≤b.length∧∀i c,i<k→b[i]?=some c→c=0∨(i=b.length-1∧c=128)) (fun k=>b.length-k) 0 ⟨aq,aw⟩ (by simp[az,ai,fv,lk,AV.low,AV.low1,nb]) ?_
 rintro k⟨B,w⟩;simp only[go_sem,Nat.reduceEqDiff,Nat.reduceAdd,Nat.reduceLT,↓reduceIte];refine⟨fun A=>?_,fun A=>?_⟩
 ·obtain⟨c,hc,C⟩:=bg (l:=b) (k:=k) aq;have v:=ay (k:=k) aq;have f:∀s:k<b.length,b[k]=c:=fun s=>Option.some.inj ((cm s).symm.trans hc);have q:IntKind.i64.wrap ((b.length:Int)-1)=((b.length-1:Nat):Int):=by rw[IntWalk.i64_in _ aq];omega
  have p:∀{Q:Prop},(c=0∨(k=b.length-1∧c=128))→∀i x,i<k+1→b[i]?=some x→x=0∨(i=b.length-1∧x=128):=by
   intro Q z i x u y;by_cases e:i=k;subst e;obtain rfl:x=c:=Option.some.inj (y.symm.trans hc);exact z;exact w i x aq y
  have g:k<b.length:=aq;by_cases o:c=0
  ·subst o;simp[go_sem,nb,f,g,q,v];refine am (k+1) ⟨aq,p (Q:=True) (.inl rfl)⟩ aq ?_;simp[az,ai,fv,lk,AV.low,AV.low1]
  ·by_cases a:k=b.length-1
   ·by_cases j:c=128
    ·subst j;have n:((k:Int)=((b.length-1:Nat):Int))=True:=eq_true aq;simp[go_sem,nb,f,g,q,v,n];refine am (k+1) ⟨aq,p (Q:=True) (.inr ⟨a,rfl⟩)⟩ aq ?_;simp[az,ai,fv,lk,AV.low,AV.low1]
    ·have n:((k:Int)=((b.length-1:Nat):Int))=True:=eq_true aq;have t:¬(c:Int)=0:=aq;have m:¬(c:Int)=128:=aq;rw[Ey hc o (fun h=>j h.2)];simp[go_sem,nb,f,g,q,n,o,m,ah];exact aa a9 rfl
   ·have t:¬(c:Int)=0:=aq;have n:¬(k:Int)=((b.length-1:Nat):Int):=aq;rw[Ey hc o (fun h=>a h.1)];simp[go_sem,nb,f,g,q,n,o,ah];exact aa a9 rfl
 ·rw[Tt (fun i c u=>w i c (by have:=(ci.1 u).1;omega) u)];simp[go_sem];exact aa a9 rfl
theorem Tu{c k:Nat}(hc:c<256)(e:k<8):c*2 ^ (8*k)<18446744073709551616:=by
 have a:(2:Nat) ^ (8*k)≤2 ^ 56:=Nat.pow_le_pow_right aq aq;have b:c*2 ^ (8*k)≤255*2 ^ 56:=Nat.mul_le_mul aq a;have d:(255:Nat)*2 ^ 56<18446744073709551616:=by decide
 omega
theorem GN(most:Nat)(b:bc)(j:bytes b)(hm:most≤8)(u:b.length≤1000000):au Tryz.prog 242 [.d (nb b),.d (.int .i64 (most:Int))]
  (fun r=>r=match gv most b with|some n=>.tup [.d (.int .i64 n),.d (.int .i64 0)]|none=>.tup [.d (.int .i64 0),.d (.int .i64 15)]):=by
 refine bF Tryz.func242 Tryz.ntmps242 (rs:=[.tmp 4,.tmp 5]) a9 ?_;have A:¬(8:Int)<(most:Int):=aq;by_cases D:b.length≤most
 ·have K:¬ (most:Int)<(b.length:Int):=aq;have O:¬ most<b.length:=aq;simp [go_sem,nb,A,K]
  refine av (fun k:Nat=>⟨[(0,.d (nb b)),(6,.d (.int .u64 (kt (b.take k):Int))),(16,.d (nb b)),(17,.d (.int .i64 (b.length:Int))),(18,.d (.int .i64 (k:Int)))],[],1000⟩)
   (fun k=>k≤b.length) (fun k=>b.length-k) 0 aq (by simp[az,ai,fv,lk,AV.low,AV.low1,nb,kt]) ?_
  intro k hk;simp only[go_sem,Nat.reduceEqDiff,Nat.reduceAdd,Nat.reduceLT,↓reduceIte];refine⟨fun hh=>?_,fun hh=>?_⟩
  ·obtain⟨c,hc,E⟩:=bg (l:=b) (k:=k) aq;have M:=ay (k:=k) aq;have W:c<256:=j c (cr hc);have N:∀u:k<b.length,b[k]=c:=fun u=>Option.some.inj ((cm u).symm.trans hc);have T:k<b.length:=aq;have w8:IntKind.i64.wrap (8*(k:Int))=((8*k:Nat):Int):=by rw[IntWalk.i64_in _ aq];omega
   have wc:IntKind.u64.wrap (c:Int)=(c:Int):=IntWalk.u64_in _ aq;have i:=Tu W (k:=k) aq;have p:=Tq j k aq;have s:kt (b.take k)<18446744073709551616:=Nat.lt_of_lt_of_le p (Nat.pow_le_pow_right aq (by omega:8*k≤64));have V:Go.bits .or .u64 (kt (b.take k):Int) (IntKind.u64.wrap ((c:Int)*2 ^ min (8*(k:Int)).toNat 64))=(kt (b.take (k+1)):Int):=by
    have H:min (8*(k:Int)).toNat 64=8*k:=aq;have G:(c:Int)*2 ^ (8*k)=((c*2 ^ (8*k):Nat):Int):=by rw[Int.natCast_mul,Int.natCast_pow];rfl
    rw[H,G,IntWalk.u64_in _ aq,Tc _ _ s i,On p,Oo hc]
   simp[go_sem,nb,N,T,M,w8,wc,V];refine⟨aq,?_⟩;refine am (k+1) aq aq ?_;simp[az,ai,fv,lk,AV.low,AV.low1]
  ·have Q:k=b.length:=aq;subst Q;rw[List.take_length];rcases fe b with rfl|⟨a,x,rfl⟩
   ·have E:gv most []=some 0:=by
     unfold gv;rw[if_pos ⟨aw,rfl⟩];rfl
    have w0:IntKind.i64.wrap 0=0:=IntWalk.i64_in _ aq;have en:cQ 0=[]:=rfl;rw[E];simp[go_sem,nb,kt,w0];refine ag (lD 0 aq aq) a9 ?_;simp[go_sem,en,nb];refine ag (jx [] [] j j) a9 ?_;simp[go_sem,ah];exact aa a9 rfl
   ·have aj:(a++[x]).length=a.length+1:=(by simp);have o:(a++[x])[a.length]?=some x:=(by simp);have L:x<256:=j x aw;have p:=ug (b:=a) (fun y hy=>j y (by simp[hy]));have B:kt (a++[x])=kt a+256 ^ a.length*x:=by rw[nK];simp[kt]
    have g:=iW a x;have ab:(256:Nat) ^ a.length≤256 ^ 7:=Nat.pow_le_pow_right aq aq;have t:(256:Nat) ^ a.length*128=2 ^ (8*a.length+7):=by
     rw[Nat.pow_add,Nat.pow_mul]
    have ac:(256:Nat) ^ 7=72057594037927936:=(by decide);generalize a++[x]=b at *;generalize a.length=m at *;have Z:IntKind.i64.wrap ((b.length:Int)-1)=(m:Int):=by rw[IntWalk.i64_in _ aq];omega
    have af:∀u:m<b.length,b[m]=x:=fun u=>Option.some.inj ((cm u).symm.trans o);have C:0<b.length:=aq;have e:=NU x L;have uO:∀n:Int,n=Bo b→-9223372036854775808≤n→n<9223372036854775808→(match gv most b with|some n=>AV.tup [.d (.int .i64 n),.d (.int .i64 0)]|none=>.tup [.d (.int .i64 0),.d (.int .i64 15)])=if cQ n=b then .tup [.d (.int .i64 n),.d (.int .i64 0)]else .tup [.d (.int .i64 0),.d (.int .i64 15)]:=by
     rintro n rfl h1 h2;unfold gv;by_cases h:cQ (Bo b)=b;rw[if_pos ⟨aq,h⟩,if_pos h];rw[if_neg (fun q=>h q.2),if_neg h]
    by_cases hx:x<128
    ·rw[if_neg aq]at e;rw[if_pos hx]at g;have z:256 ^ m*x≤256 ^ m*127:=Nat.mul_le_mul_left _ aq;have R:IntKind.i64.wrap (kt b:Int)=(kt b:Int):=IntWalk.i64_in _ aq;have Y:(kt b:Int)=Bo b:=(by rw[g,B]);rw[uO _ Y aq aq];simp[go_sem,nb,C,Z,o,e,R];refine ag (lD (kt b:Int) aq aq) a9 ?_;simp[go_sem];refine ag (jx (cQ (kt b:Int)) b (ep _) j) a9 ?_;by_cases v:cQ (kt b:Int)=b
     ·simp[go_sem,v,ah];exact aa a9 rfl
     ·simp[go_sem,v,ah];exact aa a9 rfl
    ·rw[if_pos aq]at e;rw[if_neg hx]at g;obtain⟨r,F⟩:∃r,r=kt a+256 ^ m*(x-128):=⟨_,rfl⟩;have z:256 ^ m*(x-128)≤256 ^ m*127:=Nat.mul_le_mul_left _ aq;have f:256 ^ m*x=256 ^ m*(x-128)+256 ^ m*128:=by rw[←Nat.mul_add];congr 1;omega
     have X:kt b=r+2 ^ (8*m+7):=by rw[B,f,F,t];omega
     have I:r<2 ^ (8*m+7):=by rw[←t,F];omega
     have U:Bo b=-(r:Int):=by
      rw[g,f,F,Nat.mul_comm 128,←Nat.add_assoc,Nat.add_sub_cancel]
     have ad:r<9223372036854775808:=by
      have:256 ^ m*128≤72057594037927936*128:=d_ _ aq;omega
     have ae:(2:Nat) ^ (8*m+7)≤9223372036854775808:=by
      rw[←t];have:256 ^ m*128≤72057594037927936*128:=d_ _ aq;omega
     have R:IntKind.i64.wrap (8*(m:Int))=((8*m:Nat):Int):=by rw[IntWalk.i64_in _ aq];omega
     have i:IntKind.u64.wrap (128*2 ^ min (8*(m:Int)).toNat 64)=((2 ^ (8*m+7):Nat):Int):=by
      have H:min (8*(m:Int)).toNat 64=8*m:=aq;have G:(128:Int)*2 ^ (8*m)=((2 ^ (8*m+7):Nat):Int):=by
       rw[Nat.pow_add,Int.natCast_mul,Int.natCast_pow,Int.mul_comm];rfl
      rw[H,G,IntWalk.u64_in _ aq]
     have w:Go.bits .andNot .u64 (kt b:Int) ((2 ^ (8*m+7):Nat):Int)=(r:Int):=by
      rw[X];exact XY aq I
     have M:IntKind.i64.wrap (r:Int)=(r:Int):=IntWalk.i64_in _ aq;have w4:IntKind.i64.wrap (-(r:Int))=-(r:Int):=IntWalk.i64_in _ aq;have w5:IntKind.i64.wrap (0-(r:Int))=-(r:Int):=by rw[Int.zero_sub];exact w4
     rw[uO _ U.symm aq aq];have J:(0:Int)≤8*(m:Int):=aq;generalize((2 ^ (8*m+7):Nat):Int)=S at i w;simp[go_sem,nb,C,Z,o,e,R,i,w,M,w4,J];refine ag (lD (-(r:Int)) aq aq) a9 ?_;simp[go_sem];refine ag (jx (cQ (-(r:Int))) b (ep _) j) a9 ?_;by_cases v:cQ (-(r:Int))=b
     ·simp[go_sem,v,ah];exact aa a9 rfl
     ·simp[go_sem,v,ah];exact aa a9 rfl
 ·have K:(most:Int)<(b.length:Int):=aq;have O:most<b.length:=aq;have E:gv most b=none:=if_neg (fun h=>D (by have:=h.1;omega));rw[E];simp[go_sem,nb,A,K,ah];exact aa a9 rfl
theorem Oq(m:Mc)(J H:List Jk)(most:Nat)(x:bc)(i:bytes x)(j:most≤8)(g:x.length≤1000000):dr Tryz.prog 3 bu 258 ⟨m,J,H⟩ [.ptr 0 0 0 1,.d (nb x),.d (.int .i64 (most:Int))]
  (fun v c=>v=.d (.int .i64 (gw most x m).1)∧c=⟨(gw most x m).2,J,H⟩):=by
 refine ap Tryz.func258 (by kernel_rfl) rfl Tryz.ntmps258 (rs:=[.tmp 6]) rfl (dJ rfl) (by decide) ?_;obtain⟨a,alt,e⟩:=m;rw[cf];simp only[bu,id];by_cases h:e=0
 ·subst h;simp[go_sem];refine ag (GN most x i j g) a9 ?_;have b:gw most x ⟨a,alt,0⟩=match gv most x with|some n=>(n,⟨a,alt,0⟩)|none=>(0,⟨a,alt,15⟩):=rfl;rw[b]
  cases gv most x with
  |some n =>
   simp[go_sem];refine eJ (Pp:=[]) (s:=⟨⟨a,alt,0⟩,J,H⟩) (ry ⟨a,alt,0⟩ J H 0) aq aw (by simp[AV.renL,AV.ren]) ?_;rintro v c ρ rfl f;rw[cf];simp[go_sem,jc,bu,ah];refine a8 ?_ ?_ ?_<;>rfl
  |none =>
   simp[go_sem];refine eJ (Pp:=[]) (s:=⟨⟨a,alt,0⟩,J,H⟩) (ry ⟨a,alt,0⟩ J H 15) aq aw (by simp[AV.renL,AV.ren]) ?_;rintro v c ρ rfl f;rw[cf];simp[go_sem,jc,bu,ah];refine a8 ?_ ?_ ?_<;>rfl
 ·have b:gw most x ⟨a,alt,e⟩=(0,⟨a,alt,e⟩):=if_neg h;rw[b];simp[go_sem,h,ah];refine a8 ?_ ?_ ?_<;>rfl
theorem IK(m:Mc)(J H:List Jk)(most:Nat)(a:m.e≠0):dr Tryz.prog 3 bu 258 ⟨m,J,H⟩ [.ptr 0 0 0 1,.nil,.d (.int .i64 (most:Int))]
  (fun v c=>v=.d (.int .i64 0)∧c=⟨m,J,H⟩):=by
 refine ap Tryz.func258 (by kernel_rfl) rfl Tryz.ntmps258 (rs:=[.tmp 6]) rfl (dJ rfl) (by decide) ?_;obtain⟨b,alt,e⟩:=m;simp only at a;rw[cf];simp only[bu,id];simp[go_sem,a,ah];refine a8 ?_ ?_ ?_<;>rfl
def kP(main alt:List bc):List AV:=[.d (.ro 1 (main.map bL)),.d (.ro 1 (alt.map bL))]
theorem Ez(main alt:List bc)(J:main.length≤1000000)(K:alt.length≤1000000):au Tryz.prog 97 [.agg (kP main alt)] (fun r=>r=.d (.int .i64 (fZ main alt))):=by
 refine bF Tryz.func97 Tryz.ntmps97 (rs:=[.tmp 2]) (by simp[AV.deep,AV.deep1,kP]) ?_;have B:IntKind.i64.wrap 1=1:=IntWalk.i64_in _ aq;have F:IntKind.i64.wrap 2=2:=IntWalk.i64_in _ aq;simp[go_sem,kP]
 refine av (fun k:Nat=>⟨[(1,.ptr 0 0 0 1),(11,.agg [.d (.ro 1 (main.map bL)),.d (.ro 1 (alt.map bL))]),(12,.d (.int .i64 (k:Int)))],[(0,⟨155,2,[[.d (.ro 1 (main.map bL)),.d (.ro 1 (alt.map bL))]]⟩)],6000⟩)
  (fun k=>k≤2∧(1≤k→∀x,x∈main→x.length≤520)∧(2≤k→∀x,x∈alt→x.length≤520)) (fun k=>2-k) 0 ⟨aq,aq,aq⟩ (by simp[az,ai,fv,lk,AV.low,AV.low1]) ?_
 rintro k⟨I,n,u⟩;rcases(by omega:k=0∨k=1∨k=2)with rfl|rfl|rfl
 ·have E:IntKind.i64.wrap ((0:Int)+1)=((0+1:Nat):Int):=IntWalk.i64_in _ aq;simp only[go_sem,Nat.reduceEqDiff,Nat.reduceAdd,Nat.reduceLT,↓reduceIte];simp[go_sem]
  refine av (fun j:Nat=>⟨[(1,.ptr 0 0 0 1),(11,.agg [.d (.ro 1 (main.map bL)),.d (.ro 1 (alt.map bL))]),(12,.d (.int .i64 0)),(15,.d (.ro 1 (main.map bL))),(16,.d (.int .i64 (main.length:Int))),(17,.d (.int .i64 (j:Int)))],[(0,⟨155,2,[[.d (.ro 1 (main.map bL)),.d (.ro 1 (alt.map bL))]]⟩)],6000⟩)
   (fun j=>j≤main.length∧∀x,x∈main.take j→x.length≤520) (fun j=>main.length-j) 0 ⟨aq,aw⟩ (by simp[az,ai,fv,lk,AV.low,AV.low1]) ?_
  rintro j⟨D,a⟩;simp only[go_sem,Nat.reduceEqDiff,Nat.reduceAdd,Nat.reduceLT,↓reduceIte];refine⟨fun t=>?_,fun t=>?_⟩
  ·obtain⟨y,b,C⟩:=bg (l:=main) (k:=j) aq;have q:=ay (k:=j) aq;by_cases m:y.length≤520
   ·have g:¬ 520<y.length:=aq;have e:¬(520:Int)<(y.length:Int):=aq;simp[go_sem,b,bL,nb,e,q];refine am (j+1) ⟨aq,fun x c=>?_⟩ aq (by simp[az,ai,fv,lk,AV.low,AV.low1]);rw[List.take_add_one,b]at c;simp at c;rcases c with c|rfl
    exact a x c;exact m
   ·have g:520<y.length:=aq;have e:(520:Int)<(y.length:Int):=aq;have hc:fZ main alt=14:=by
     have o:main.all (fun x=>decide (x.length≤520))=false:=List.all_eq_false.2 ⟨y,cr b,by simpa using m⟩;simp[fZ,o]
    rw[hc];simp[go_sem,b,bL,nb,e];exact aa a9 rfl
  ·have i:j=main.length:=aq;subst i;rw[List.take_length]at a;simp[go_sem];refine am 1 (by exact⟨aq,fun _=>a,fun h=>aq⟩) (by decide) (by simp[az,ai,fv,lk,AV.low,AV.low1,B])
 ·have E:IntKind.i64.wrap ((1:Int)+1)=((1+1:Nat):Int):=IntWalk.i64_in _ aq;simp only[go_sem,Nat.reduceEqDiff,Nat.reduceAdd,Nat.reduceLT,↓reduceIte];simp[go_sem]
  refine av (fun j:Nat=>⟨[(1,.ptr 0 0 0 1),(11,.agg [.d (.ro 1 (main.map bL)),.d (.ro 1 (alt.map bL))]),(12,.d (.int .i64 1)),(15,.d (.ro 1 (alt.map bL))),(16,.d (.int .i64 (alt.length:Int))),(17,.d (.int .i64 (j:Int)))],[(0,⟨155,2,[[.d (.ro 1 (main.map bL)),.d (.ro 1 (alt.map bL))]]⟩)],6000⟩)
   (fun j=>j≤alt.length∧∀x,x∈alt.take j→x.length≤520) (fun j=>alt.length-j) 0 ⟨aq,aw⟩ (by simp[az,ai,fv,lk,AV.low,AV.low1]) ?_
  rintro j⟨D,a⟩;simp only[go_sem,Nat.reduceEqDiff,Nat.reduceAdd,Nat.reduceLT,↓reduceIte];refine⟨fun t=>?_,fun t=>?_⟩
  ·obtain⟨y,b,C⟩:=bg (l:=alt) (k:=j) aq;have q:=ay (k:=j) aq;by_cases m:y.length≤520
   ·have g:¬ 520<y.length:=aq;have e:¬(520:Int)<(y.length:Int):=aq;simp[go_sem,b,bL,nb,e,q];refine am (j+1) ⟨aq,fun x c=>?_⟩ aq (by simp[az,ai,fv,lk,AV.low,AV.low1]);rw[List.take_add_one,b]at c;simp at c;rcases c with c|rfl
    exact a x c;exact m
   ·have g:520<y.length:=aq;have e:(520:Int)<(y.length:Int):=aq;have hc:fZ main alt=14:=by
     have o:alt.all (fun x=>decide (x.length≤520))=false:=List.all_eq_false.2 ⟨y,cr b,by simpa using m⟩;simp[fZ,o]
    rw[hc];simp[go_sem,b,bL,nb,e];exact aa a9 rfl
  ·have i:j=alt.length:=aq;subst i;rw[List.take_length]at a;simp[go_sem];refine am 2 (by exact⟨aq,fun _=>n aq,fun _=>a⟩) (by decide) (by simp[az,ai,fv,lk,AV.low,AV.low1,F])
 ·have G:=n aq;have H:=u aq;have A:IntKind.i64.wrap ((main.length:Int)+(alt.length:Int))=(main.length:Int)+(alt.length:Int):=IntWalk.i64_in _ aq;have z:main.all (fun x=>decide (x.length≤520))=true:=d9.2 fun x c=>by simpa using G x c
  have w:alt.all (fun x=>decide (x.length≤520))=true:=d9.2 fun x c=>by simpa using H x c
  by_cases f:main.length+alt.length≤100
  ·have hc:fZ main alt=0:=by simp[fZ,z,w,f]
   have p:¬(100:Int)<(main.length:Int)+(alt.length:Int):=aq;have s:¬ 100<main.length+alt.length:=aq;rw[hc];simp[go_sem,A,p,ah];exact aa (v:=.d (.int .i64 _)) trivial rfl
  ·have hc:fZ main alt=13:=by simp[fZ,z,w,f]
   have p:(100:Int)<(main.length:Int)+(alt.length:Int):=aq;have s:100<main.length+alt.length:=aq;rw[hc];simp[go_sem,A,p,ah];exact aa (v:=.d (.int .i64 _)) trivial rfl
end Go.Proofs.YtmfnimjnneflnaaGreat
namespace Go.Am
section
variable {P:Program}
theorem GO{g:FuncId}{args:List AV}{hp a:Hp}{N:Nat}{K:AV→Hp→Prop}(h:gi P g args a N K)(d:∀i b,lk i a=some b→lk i hp=some b):gi P g args hp N K:=by
 refine⟨h.1,fun c U σ w l k n p s=>?_⟩;obtain⟨o,j⟩:=En d k;refine(h.2 c U σ w l o n p (fun i v x t q=>(s i v x t q).step j)).mono fun e u r=>?_;obtain⟨x,rfl,v,f,σ',m,k2,k3,k4⟩:=r;exact⟨x,rfl,v,f,σ',m,k2,j.trans k3,k4⟩
theorem c8(c:List Nat)(Pp:Hp){S:Type}{n N:Nat}{b:S→(Nat→Nat)→Nat→Blk}(k:KD n b)(f:Nat→Nat){hp:Hp}{g:FuncId}{s:S}{args args' a:List AV}{R:AV→S→Prop}{K:AV→Hp→Prop}(h:dr P n b g s a R)(e:ru n f)(o:∀j,j<n→f j<N)
  (l:∀p,p∈Pp++ju n b s f→lk p.1 (aE c hp)=some p.2) (r:args.length=args'.length) (m:∀(i:Nat)(v d:AV),args[i]?=some v→args'[i]?=some d→d=v∨Snap hp (fun id=>id∈c) v d)
  (q:∀p,p∈Pp→p.1<N∧∀j,j<n→f j≠p.1) (u:a=AV.renL (b8 (lI n f id) n) args') (t:∀v s' ρ,R v s'→(∀j,j<n→ρ j=f j)→K (v.ren ρ) (Pp++ju n b s' f)):uK P g args hp N K :=
 .inl (uL c (GO (uS k h e o q u t) fun i x w=>l _ (bK w)) r m)
theorem jy{hp:Hp}{I:Nat→Prop}{l:List AV}:∀(i:Nat)(v a:AV),l[i]?=some v→l[i]?=some a→a=v∨Snap hp I v a:=by
 intro i v a c b;rw[c]at b;exact .inl (Option.some.inj b).symm
theorem Ot{g:FuncId}{k:Nat}{f:Hp}{args:List AV}{Q j:AV→Hp→Prop}(h:cX P g k f args Q)
  (hq:∀r d,Q r d→∃i,(∀(w:World)(S:Nat→Prop)(σ:Nat→Option Nat)(U:Nat→Prop)(x:Value),AIs w S σ d U r x→AIs w S σ d U i x)∧j i d):cX P g k f args j:=by
 obtain⟨o,m,z⟩:=h;refine⟨o,m,fun w S σ l a b c=>(z w S σ l a b c).mono fun e B v=>?_⟩;obtain⟨x,r,d,t,σ',n,q,s,A,u⟩:=v;obtain⟨i,y,p⟩:=hq r d q;exact⟨x,i,d,t,σ',n,p,s,A,y _ _ _ _ _ u⟩
theorem Ou{w:World}{S:Nat→Prop}{σ:Nat→Option Nat}{hp:Hp}{U:Nat→Prop}{x:Value}(e:Nat)(h:AIs w S σ hp U .nil x):AIs w S σ hp U (.d (.ro e [])) x:=by
 cases h;exact .d (.ro e [] none 0 (fun _ _=>undef) (cR _) aw aw aw aw)
theorem Tv{S:Type}{n:Nat}{b:S→(Nat→Nat)→Nat→Blk}{g:FuncId}{s:S}{args:List AV}{R c:AV→S→Prop}(h:dr P n b g s args R)(hq:∀v a,R v a→c v a∨(v=.nil∧∃e,c (.d (.ro e [])) a)):dr P n b g s args c:=by
 refine Ot h fun r k i=>?_;obtain⟨a,j,f⟩:=i;rcases hq r a j with h|⟨rfl,e,h⟩;exact⟨r,fun _ _ _ _ _ h=>h,a,h,f⟩;exact⟨.d (.ro e []),fun _ _ _ _ _ h=>Ou e h,a,h,f⟩
end
end Go.Am
namespace Go.Proofs.YtmfnimjnneflnaaGreat
open Go.Am Go.Sha
theorem jz{hp:Hp}{I:Nat→Prop}{id:Nat}{ty:TypeId}{l:List bc}{J:List Jk}(c:lk id hp=some ⟨ty,1,dm l J⟩)(b:I id):SnapD hp I (.own id 0 l.length (l.length+J.length)) (.ro 1 (l.map bL)):=by
 refine kr c b (jZ l J) ?_ aw (fun r a=>by
  obtain⟨x,_,rfl⟩:=List.mem_map.1 a
  rfl)
 rw[List.drop_zero,o4 (cR _),List.take_length];have e:l.map pW=(l.map bL).map fun r=>r.map AV.d:=by
  rw[List.map_map];rfl
 rw[e];exact lp _
theorem fM(main alt:List bc):(AV.agg (kP main alt)).deep:=by
 intro c hc;simp[kP]at hc;rcases hc with rfl|rfl<;>trivial
def sS(m:Mc)(J H:List Jk):AV:=if(dY m).2.2=0 then .tup [.agg [.own 1 0 m.main.length (m.main.length+J.length),.own 2 0 m.alt.length (m.alt.length+H.length)],.d (.int .i64 0)]
 else .tup [.agg [.nil,.nil],.d (.int .i64 (dY m).2.2)]
theorem BE(m:Mc)(J H:List Jk)(i:m.main.length≤1000000)(g:m.alt.length≤1000000):dr Tryz.prog 3 bu 223 ⟨m,J,H⟩ [.ptr 0 0 0 1]
  (fun v j=>v=sS m J H∧∃e',j=⟨⟨m.main,m.alt,e'⟩,J,H⟩):=by
 refine ap Tryz.func223 (by kernel_rfl) rfl Tryz.ntmps223 (rs:=[.cell 2 155,.tmp 3]) rfl (dJ rfl) (by decide) ?_;obtain⟨a,alt,e⟩:=m;simp only at i g;rw[cf];simp only[bu,id];by_cases h:e=0
 ·subst h;simp[go_sem];refine cz [0,1,2,3,4,5,6,7,8] [(9,[]),(10,[])] 1 (k:=11) ?_;intro G b;simp[go_sem];refine b _ _ ?_;clear b G;simp[go_sem];refine jh (Ez a alt i g) rfl (aj (.agg ⟨rfl,ax (ao (jz rfl trivial)) (ax (ao (jz rfl trivial)) bV)⟩) aD) trivial ?_
  have f:sS ⟨a,alt,0⟩ J H=if fZ a alt=0 then .tup [.agg [.own 1 0 a.length (a.length+J.length),.own 2 0 alt.length (alt.length+H.length)],.d (.int .i64 0)]else .tup [.agg [.nil,.nil],.d (.int .i64 (fZ a alt))]:=by
   by_cases hc:fZ a alt=0<;>simp[sS,dY,hc]
  rw[f];clear f;generalize fZ a alt=c;by_cases hc:c=0
  ·subst hc;simp[go_sem,ah];exact⟨⟨⟨a,alt,0⟩,J,H⟩,⟨0,rfl⟩,a8 rfl rfl rfl⟩
  ·simp[go_sem,hc];refine cz [0,1,2,3,4] [(5,[6])] 1 (k:=7) ?_;intro G b;simp[go_sem];refine b _ _ ?_;clear b G;simp[go_sem,ah];exact⟨⟨⟨a,alt,c⟩,J,H⟩,⟨c,rfl⟩,a8 rfl rfl rfl⟩
 ·have f:sS ⟨a,alt,e⟩ J H=.tup [.agg [.nil,.nil],.d (.int .i64 e)]:=by simp[sS,dY,h]
  rw[f];simp[go_sem];refine cz [0,1,2,3,4,5,6,7,8] [(9,[]),(10,[])] 1 (k:=11) ?_;intro G b;simp[go_sem];refine b _ _ ?_;clear b G;simp[go_sem,h];refine cz [0,1,2,3,4] [(5,[6])] 1 (k:=7) ?_;intro G b;simp[go_sem];refine b _ _ ?_;clear b G;simp[go_sem,ah];exact⟨⟨⟨a,alt,e⟩,J,H⟩,⟨e,rfl⟩,a8 rfl rfl rfl⟩
theorem BF(main alt:List bc)(h:main.length≤1000000)(e:alt.length≤1000000)(h3:∀x,x∈main→x.length≤1000000)(g:∀x,x∈alt→x.length≤1000000):cX Tryz.prog 221 0 [] [.agg (kP main alt)]
  (fun r a=>r=.ptr 289 0 0 1∧lk 289 a=some ⟨283,3,[[.own 129 0 main.length main.length,.own 225 0 alt.length alt.length,.d (.int .i64 0)]]⟩∧lk 129 a=some ⟨31,1,dm main []⟩∧lk 225 a=some ⟨31,1,dm alt []⟩):=by
 refine ap Tryz.func221 (by kernel_rfl) rfl Tryz.ntmps221 (rs:=[.tmp 2]) rfl (dJ rfl) (by decide) ?_;simp[go_sem,kP];refine cz [0,1,3,4] [(2,[]),(5,[6]),(7,[8])] 3 (k:=9) ?_;intro G b;simp[go_sem]
 repeat' apply And.intro
 all_goals
  refine aP [] (Oe main h h3) rfl aw aw aw (by simp[AV.renL,AV.ren]) ?_;rintro r a⟨rfl,i⟩;refine⟨[(129,0)],by simp[db,gm],?_⟩;simp[go_sem,bZ,bB,i,Blk.ren,mj,AV.ren,b8];refine aP [] (Oe alt e g) rfl aw aw aw (by simp[AV.renL,AV.ren]) ?_;rintro r f⟨rfl,c⟩;refine⟨[(129,0)],by simp[db,gm],?_⟩;simp[go_sem,bZ,bB,c,Blk.ren,mj,AV.ren,b8];refine b _ _ ?_;clear b G;simp[go_sem,ah]
theorem o9(ρ:Nat→Nat)(l:List bc)(J:List Jk):(dm l J).map (AV.renL ρ)=dm l J:=mj ρ l J
theorem nR:ru 3 (fun j=>128+j):=by
 intro i j b a h;show i=j;have:128+i=128+j:=h;omega
def Aa(m:Mc):AV:=.tup [.agg (kP (dY m).1 (dY m).2.1),.d (.int .i64 (dY m).2.2)]
theorem nS{m:Mc}(h:(dY m).2.2=0):dY m=(m.main,m.alt,0):=by
 unfold dY at h⊢;by_cases a:m.e=0;simp only[a,if_true]at h⊢;by_cases b:fZ m.main m.alt=0;simp[b];simp[b]at h;simp[a]at h
theorem pY{m:Mc}(h:(dY m).2.2≠0):dY m=([],[],(dY m).2.2):=by
 unfold dY at h⊢;by_cases a:m.e=0;simp only[a,if_true]at h⊢;by_cases b:fZ m.main m.alt=0;simp[b]at h;simp[b];simp[a]
theorem qa{main alt:List bc}{J H:List Jk}{A B:Nat}{st:St}(f:lk A st.hp=some ⟨31,1,dm main J⟩)(e:lk B st.hp=some ⟨31,1,dm alt H⟩) :
  dC (fun r=>r=.tup [.agg (kP main alt),.d (.int .i64 0)]) (.tup [.agg [.own A 0 main.length (main.length+J.length),.own B 0 alt.length (alt.length+H.length)],.d (.int .i64 0)]) st:=by
 refine⟨_,.tup (cs':=[.agg (kP main alt),.d (.int .i64 0)]) rfl (fun i c g a b=>?_),?_,rfl⟩
 ·match i with
  |0 =>
   simp at a b;subst a;subst b;exact .inr ⟨_,_,rfl,rfl,rfl,ax (ao (jz f trivial)) (ax (ao (jz e trivial)) bV)⟩
  |1=>simp at a b;subst a;subst b;exact .inl (.inl ⟨rfl,trivial⟩)
  |i+2=>simp at a
 ·intro c hc;simp at hc;rcases hc with rfl|rfl;exact .inr ⟨_,rfl,fM _ _⟩;exact .inl trivial
theorem kZ{e:Int}{st:St}:dC (fun r=>r=.tup [.agg (kP [] []),.d (.int .i64 e)]) (.tup [.agg [.nil,.nil],.d (.int .i64 e)]) st:=by
 refine⟨_,.tup (cs':=[.agg (kP [] []),.d (.int .i64 e)]) rfl (fun i c f a b=>?_),?_,rfl⟩
 ·match i with
  |0 =>
   simp at a b;subst a;subst b;exact .inr ⟨_,_,rfl,rfl,rfl,ax (ao (.nil 1)) (ax (ao (.nil 1)) bV)⟩
  |1=>simp at a b;subst a;subst b;exact .inl (.inl ⟨rfl,trivial⟩)
  |i+2=>simp at a
 ·intro c hc;simp at hc;rcases hc with rfl|rfl;exact .inr ⟨_,rfl,fM _ _⟩;exact .inl trivial
theorem KU(main alt:List bc)(x:bc)(C:main.length≤1000)(D:alt.length≤1000)(h3:∀x,x∈main→x.length≤1000000)(q:∀x,x∈alt→x.length≤1000000)(u:x.length≤1000000) :
  au Tryz.prog 197 [.agg (kP main alt),.d (nb x)] (fun r=>r=Aa ⟨main++[x],alt,0⟩):=by
 refine bF Tryz.func197 Tryz.ntmps197 (rs:=[.cell 4 155,.tmp 5]) (by intro v k;simp at k;rcases k with rfl|rfl;exact fM _ _;trivial) ?_;simp[go_sem,kP];refine aP [] (BF main alt aq aq h3 q) rfl aw aw aw (by simp[AV.renL,AV.ren,kP]) ?_;rintro r y⟨rfl,w,o,t⟩;refine⟨[(289,0),(129,1),(225,2)],by simp[db,gm],?_⟩;simp[go_sem,bZ,bB,w,o,t,Blk.ren,o9,AV.renL,AV.ren,b8,aO]
 refine c8 [256] [(32,⟨155,2,[[.nil,.nil]]⟩)] (args':=[.ptr 128 0 0 1,.d (.ro 1 [[nb x]])]) bN (fun j=>128+j) (hJ ⟨main,alt,0⟩ [] [] x (by simp;omega) u) nR (fun j g=>by show 128+j<288;omega) (by simp[cf,bu,aE,lk]) rfl
  (fun i v A b c=>by
   match i with
   |0=>simp at b c;subst b;subst c;exact .inl rfl
   |1 =>
    simp at b c;subst b;subst c;exact .inr (.one (ao (jz (l:=[x]) (J:=[]) rfl aw)))
   |i+2=>simp at b)
  (fun p a=>by simp at a;subst a;exact⟨by show 32<288;omega,fun j g=>by show 128+j≠32;omega⟩) rfl ?_
 rintro v m ρ ⟨h,rfl⟩ e;simp only[cf,bu,eV];simp[go_sem]
 refine c8 [] [(32,⟨155,2,[[.nil,.nil]]⟩)] bN (fun j=>128+j) (BE ⟨main++[x],alt,0⟩ h [] (by simp;omega) (by simp;omega)) nR (fun j g=>by show 128+j<352;omega) (by simp[cf,bu,aE,lk]) rfl jy
  (fun p a=>by simp at a;subst a;exact⟨by show 32<352;omega,fun j g=>by show 128+j≠32;omega⟩) rfl ?_
 rintro v m ρ ⟨rfl,B,rfl⟩ e;have s:ρ 1=129:=e 1 aq;have z:ρ 2=130:=e 2 aq;simp only[cf,bu];unfold sS Aa;by_cases hc:(dY ⟨main++[x],alt,0⟩).2.2=0
 ·have f:=nS hc;rw[if_pos hc];rw[f];simp[go_sem,AV.ren,AV.renL,s,z,ah];have n:main.length+1=(main++[x]).length:=by simp
  rw[n];exact qa (J:=h) (H:=[]) rfl rfl
 ·have f:=pY hc;rw[if_neg hc,f];simp[go_sem,AV.ren,AV.renL,ah];exact kZ
theorem adW(c:Nat):ru 3 (fun j=>c+j):=by
 intro i j b a h;have:c+i=c+j:=h;omega
theorem VN{a a':AV}{cs cs':List AV}{e:Int}{st:St}(j:fH st.hp (fun _=>True) a a')(g:a'.deep1)(hc:so st.hp (fun _=>True) cs cs')(h:∀c,c∈cs'→c.deep1) :
  dC (fun r=>r=.tup [a',.agg cs',.d (.int .i64 e)]) (.tup [a,.agg cs,.d (.int .i64 e)]) st:=by
 refine⟨_,.tup (cs':=[a',.agg cs',.d (.int .i64 e)]) rfl (fun i c k b f=>?_),?_,rfl⟩
 ·match i with
  |0=>simp at b f;subst b;subst f;exact .inl j
  |1 =>
   simp at b f;subst b;subst f;exact .inr ⟨_,_,rfl,rfl,hc⟩
  |2=>simp at b f;subst b;subst f;exact .inl (.inl ⟨rfl,trivial⟩)
  |i+3=>simp at b
 ·intro c hc;simp at hc;rcases hc with rfl|rfl|rfl;exact .inl g;exact .inr ⟨_,rfl,h⟩;exact .inl trivial
theorem Ov{main alt:List bc}{J H:List Jk}{A B:Nat}{hp:Hp}{I:Nat→Prop}(d:lk A hp=some ⟨31,1,dm main J⟩)(a:lk B hp=some ⟨31,1,dm alt H⟩)(c:I A)(b:I B) :
  so hp I [.own A 0 main.length (main.length+J.length),.own B 0 alt.length (alt.length+H.length)] (kP main alt):=⟨rfl,ax (ao (jz d c)) (ax (ao (jz a b)) bV)⟩
theorem Ox{hp:Hp}{I:Nat→Prop}:so hp I [.nil,.nil] (kP [] []):=⟨rfl,ax (ao (.nil 1)) (ax (ao (.nil 1)) bV)⟩
def GP(main alt:List bc):AV:=match main.getLast? with
 |none=>.tup [.d (.ro 1 []),.agg (kP [] []),.d (.int .i64 12)]
 |some x=>.tup [.d (nb x),.agg (kP main.dropLast alt),.d (.int .i64 0)]
theorem EA(main alt:List bc)(y:main.length≤1000)(z:alt.length≤1000)(h3:∀x,x∈main→x.length≤1000000)(o:∀x,x∈alt→x.length≤1000000) :
  au Tryz.prog 240 [.agg (kP main alt)] (fun r=>r=GP main alt):=by
 refine bF Tryz.func240 Tryz.ntmps240 (rs:=[.tmp 2,.cell 3 155,.tmp 4]) (by intro v b;simp at b;subst b;exact fM _ _) ?_;simp[go_sem,kP];refine aP [] (BF main alt aq aq h3 o) rfl aw aw aw (by simp[AV.renL,AV.ren,kP]) ?_;rintro r t⟨rfl,s,n,q⟩;refine⟨[(289,0),(129,1),(225,2)],by simp[db,gm],?_⟩;simp[go_sem,bZ,bB,s,n,q,Blk.ren,o9,AV.renL,AV.ren,b8,aO]
 refine c8 [] [(64,⟨155,2,[[.nil,.nil]]⟩)] bN (fun j=>160+j) (zU ⟨main,alt,0⟩ [] [] (by simp;omega)) (adW 160) (fun j m=>by show 160+j<256;omega) (by simp[cf,bu,aE,lk]) rfl jy
  (fun p a=>by simp at a;subst a;exact⟨by show 64<256;omega,fun j m=>by show 160+j≠64;omega⟩) rfl ?_
 rintro v w ρ ⟨rfl,g,rfl⟩ u;rcases main.eq_nil_or_concat with rfl|⟨l,x,i⟩
 ·have c:aQ 1 ⟨[],alt,0⟩=⟨[],alt,12⟩:=rfl;have f:dR ⟨[],alt,0⟩=([],⟨[],alt,12⟩):=rfl;simp only[c,f,cf,bu];simp[go_sem,AV.ren];refine cz [0,1,2,3,4,5] [(6,[7])] 1 (k:=8) ?_;intro G e;simp[go_sem];refine e _ _ ?_;clear e G;simp[go_sem,ah];exact VN (a':=.d (.ro 1 [])) (ao (.nil 1)) trivial Ox (fM _ _)
 ·rw [List.concat_eq_append] at i;subst i;have c:aQ 1 ⟨l ++ [x],alt,0⟩=⟨l ++ [x],alt,0⟩:=by simp [aQ]
  have f:dR ⟨l++[x],alt,0⟩=(x,⟨l,alt,0⟩):=by simp[dR,c]
  rw[c,f];simp only[cf,bu];simp[go_sem,AV.ren];refine dE [0,1,2,3,4,5,6,7,8,9,10] [11,12] [0,1,2,3,4,5,6,7,8,9,10] (a_ [11,12]) ⟨[(2,.d (nb x)),(3,.ptr 64 0 0 1),(4,.d (.int .i64 0))],[(64,⟨155,2,[[.own 161 0 l.length (l.length+g.length),.own 162 0 alt.length alt.length]]⟩),(161,⟨31,1,dm l g⟩),(162,⟨31,1,dm alt []⟩)],9000⟩ (k:=13) ?h3 ?hq
  case h3 =>
   intro G e;simp (config := { maxSteps := 3000000 }) [go_sem]
   repeat' apply And.intro
   all_goals
    refine e _ _ (b7 ⟨by simp[ai,fv,lk,AV.low,AV.low1],?_,aw⟩);intro p a;simp only[et,List.mem_nil_iff,or_false]at a;rcases a with rfl|rfl|rfl;refine⟨.inl (by simp[lk]),by show 64<9000;omega,?_⟩;intro r h v b;simp only[et,List.mem_nil_iff,or_false]at h;subst h;simp only[et,List.mem_nil_iff,or_false]at b;rcases b with rfl|rfl;show 161<9000;omega;show 162<9000;omega;exact⟨.inl (by simp[lk]),by show 161<9000;omega,mn _ _ _⟩;exact⟨.inl (by simp[lk]),by show 162<9000;omega,mn _ _ _⟩
  case hq =>
   simp[go_sem,ah];have a:GP (l++[x]) alt=.tup [.d (nb x),.agg (kP l alt),.d (.int .i64 0)]:=by simp[GP]
   rw[a];exact VN (aL trivial) trivial (Ov (J:=g) (H:=[]) rfl rfl trivial trivial) (fM _ _)
theorem iH{p:AV}{q:Nat}{ty:TypeId}{z:bc}{hp:Hp}(h:lk q hp=some ⟨ty,1,[[.d (nb z)]]⟩):∀(i:Nat)(v b:AV),[p,.own q 0 1 1][i]?=some v→[p,.d (.ro 1 [[nb z]])][i]?=some b→b=v∨Snap hp (fun id=>id∈[q]) v b:=by
 intro i v b a c
 match i with
 |0=>simp at a c;subst a;subst c;exact .inl rfl
 |1 =>
  simp at a c;subst a;subst c;exact .inr (.one (ao (jz (l:=[z]) (J:=[]) h aw)))
 |i+2=>simp at a
def ku(l:List Nat):List (List DV):=l.map fun(i:Nat)=>[.int .i64 (i:Int)]
theorem ie(m:Mc)(J H:List Jk)(k:Nat)(put:List Nat)(hp:∀i,i∈put→i<k)(hk:k≤6)(aa:put.length≤6)(hl:m.main.length≤1000)(N:∀x,x∈m.main→x.length≤1000000):dr Tryz.prog 3 bu 245 ⟨m,J,H⟩ [.ptr 0 0 0 1,.d (.int .i64 (k:Int)),.d (.ro 1 (ku put))]
  (fun v D=>∃L,D=⟨c6 k put m,L,H⟩):=by
 refine ap Tryz.func245 (by kernel_rfl) rfl Tryz.ntmps245 (rs:=[]) rfl (dJ rfl) (by decide) ?_;obtain⟨a,alt,e⟩:=m;simp only at hl N;rw[cf];simp only[bu,id];simp[go_sem];refine eJ (Pp:=[]) (s:=⟨⟨a,alt,e⟩,J,H⟩) (mo ⟨a,alt,e⟩ J H k) aq aw (by simp[AV.renL,AV.ren]) ?_;rintro v D ρ ⟨rfl,rfl⟩ hρ;rw[cf];by_cases h:(aQ k ⟨a,alt,e⟩).e=0
 ·obtain⟨V,Z,W⟩:=jv h;simp only at V Z;subst Z;have o:c6 k put ⟨a,alt,0⟩=⟨a.take (a.length-k)++put.map (fun i=>(a.drop (a.length-k)).getD i []),alt,0⟩:=if_pos h;rw[o,W];have S:IntKind.i64.wrap ((a.length:Int)-(k:Int))=((a.length-k:Nat):Int):=by rw[IntWalk.i64_in _ aq];omega
  generalize hc:a.length-k=c at *;have w:c≤a.length:=aq;have g:(c:Int)≤(a.length:Int):=aq;simp[go_sem,bu,AV.ren,S,g];refine aP [(0,1)] (S9 a J c (a.length-c) aq aq N) rfl aw (by simp[lk]) (by simp[lk,Blk.ren,aO,o9]) (by simp[AV.renL,AV.ren,b8,iJ,lk]) ?_;rintro r ae⟨rfl,Y,X⟩;refine⟨[(130,0)],by simp[db,gm],?_⟩;simp[go_sem,bZ,bB,Y,X,Blk.ren,o9,AV.ren,b8,aO,g];have t:List.take (a.length-c) (List.drop c a)=a.drop c:=cx aw;rw[t];have B:(a.drop c).length=a.length-c:=by simp
  have ad:(a.drop c).length=k:=by simp;omega
  have Q:(a.take c).length=c:=by simp;omega
  have q:∀i,a[c+i]?=(a.drop c)[i]?:=fun i=>by rw[List.getElem?_drop]
  have E:∀x,x∈a.drop c→x.length≤1000000:=fun x C=>N x (List.mem_of_mem_drop C);have f:=IE (l:=a) (J:=J) c w;have A:a.length+J.length=(a.take c).length+((a.drop c).map Jk.i++J).length:=by simp;omega
  simp only[q];rw[←B,f,A];generalize a.drop c=T at *;generalize(T.map Jk.i++J)=J2 at *;have U:(a.take c).length≤1000:=aq;clear q f A X Y t o;clear hc S w g B V W;generalize a.take c=l0 at *;subst Q;simp only[List.length_map,ku];refine av (fun u:Nat×List bc×List Jk=>⟨[(0,.ptr 0 0 0 1),(7,.own 580 0 T.length T.length),(37,.d (.ro 1 (ku put))),(38,.d (.int .i64 (put.length:Int))),(39,.d (.int .i64 (u.1:Int)))],
   [(580,⟨31,1,dm T []⟩),(0,⟨283,3,[[.own 1 0 u.2.1.length (u.2.1.length+u.2.2.length),.own 2 0 alt.length (alt.length+H.length),.d (.int .i64 0)]]⟩),(1,⟨31,1,dm u.2.1 u.2.2⟩),(2,⟨31,1,dm alt H⟩)],9000⟩)
   (fun u=>u.1≤put.length∧u.2.1=l0++(put.take u.1).map (fun i=>T[i]?.getD [])) (fun u=>put.length-u.1) (0,l0,J2) ⟨aw,aw⟩
   ⟨by simp[ai,fv,lk,AV.low,AV.low1,ku],List.forall_mem_cons.2 ⟨⟨.inl rfl,by show 580<9000;omega,mn _ _ _⟩,Ob (m:=⟨l0,alt,0⟩) rfl rfl rfl (dJ rfl) trivial⟩,aw⟩ ?_
  rintro⟨j,l,K⟩⟨F,b⟩;simp only at F b;have ab:l.length≤1006:=by rw[b];simp;omega
  simp only[go_sem,Nat.reduceEqDiff,Nat.reduceAdd,Nat.reduceLT,↓reduceIte,Nat.reduceMul];refine⟨fun hh=>?_,fun hh=>?_⟩
  ·obtain⟨y,n,hd⟩:=bg (l:=put) (k:=j) aq;have ac:=hp y (cr n);obtain⟨z,G⟩:∃z,T[y]?=some z:=⟨_,cm aq⟩;have w3:=ay (k:=j) aq;have o:=xH (J:=[]) G;have R:∀h:y<(dm T []).length,(dm T [])[y]=[.d (nb z)]:=fun h=>Option.some.inj ((cm h).symm.trans o);have I:y<T.length:=aq;have O:(y:Int)<(T.length:Int):=aq;simp[go_sem,ku,n,R,I,O,jZ]
   refine c8 [9288] [(580,⟨31,1,dm T []⟩)] (args':=[.ptr 0 0 0 1,.d (.ro 1 [[nb z]])]) bN id (hJ ⟨l,alt,0⟩ K H z (by simp;omega) (E z (cr G))) (aV 3) (fun j F=>by show j<9320;omega) (by simp[cf,bu,aE,lk]) rfl
    (iH rfl) (fun p hp=>by simp at hp;subst hp;exact⟨by show 580<9320;omega,fun j F=>by show j≠580;omega⟩) rfl ?_
   rintro v D ρ ⟨L,rfl⟩ hρ;simp only[cf,bu,eV,id];simp[go_sem,w3];refine am (j+1,l++[z],L) ⟨aq,?_⟩ (by show put.length-(j+1)<put.length-j;omega) ⟨by simp[ai,fv,lk,AV.low,AV.low1],List.forall_mem_cons.2 ⟨⟨.inl rfl,by show 580<9000;omega,mn _ _ _⟩,Ob (m:=⟨l++[z],alt,0⟩) (by simp[lk]) rfl rfl (dJ rfl) trivial⟩,aw⟩;show l++[z]=_;rw[b,←List.map_take,List.take_add_one,n];simp[G]
  ·have M:j=put.length:=aq;subst M;rw[List.take_length]at b;subst b;simp[go_sem];exact⟨_,⟨K,rfl⟩,a8 (by simp[lk]) rfl rfl⟩
 ·have o:c6 k put ⟨a,alt,e⟩=aQ k ⟨a,alt,e⟩:=if_neg h;rw[o];generalize aQ k ⟨a,alt,e⟩=m' at *;simp[go_sem,bu,AV.ren,h];exact⟨_,⟨J,rfl⟩,a8 rfl rfl rfl⟩
end Go.Proofs.YtmfnimjnneflnaaGreat
namespace Go.Sha
open Go.Proofs.YtmfnimjnneflnaaGreat
inductive McT where
 |a (s:McS)
 |z (e:Int) (n k:Nat) (J H:List Jk)
end Go.Sha
namespace Go.Proofs.YtmfnimjnneflnaaGreat
open Go.Am Go.Sha
def BG:McT→(Nat→Nat)→Nat→Blk
 | .a s,f,i=>bu s f i
 | .z e n k J H,f,0=>⟨283,3,[[.own (f 1) 0 n J.length,.own (f 2) 0 k H.length,.d (.int .i64 e)]]⟩
 | .z e n k J H,f,1=>⟨31,1,dm [] J⟩
 | .z e n k J H,f,_=>⟨31,1,dm [] H⟩
theorem IL:KD 3 BG:=by
 refine⟨fun s f ρ g i b h=>?_,fun s f i b=>?_⟩
 ·match s with
  | .a s=>exact bN.1 s f ρ g i b h
  | .z e n k J H =>
   match i with
   |0=>simp[BG,Blk.ren,aO,AV.renL,AV.ren,h 1 aq,h 2 aq]
   |1=>simp only[BG,Blk.ren,mj]
   |i+2=>simp only[BG,Blk.ren,mj]
 ·match s with
  | .a s=>exact bN.2 s f i b
  | .z e n k J H =>
   match i with
   |0=>exact Nat.succ_ne_zero 2
   |1=>exact Nat.succ_ne_zero 0
   |i+2=>exact Nat.succ_ne_zero 0
theorem mcA(s:McS)(f:Nat→Nat):ju 3 BG (.a s) f=ju 3 bu s f:=rfl
def Oy(m:Mc)(s:McT):Prop:=(∃J H,s=.a ⟨m,J,H⟩)∨(m.e≠0∧∃n k J H,s=.z m.e n k J H)
theorem oD{m:Mc}{J H:List Jk}{hp:Hp}(h:vA 3 bu ⟨m,J,H⟩ id hp):∃s',Oy m s'∧vA 3 BG s' id hp:=⟨.a ⟨m,J,H⟩,.inl ⟨J,H,rfl⟩,h⟩
theorem XZ(m:Mc)(J H:List Jk)(C:m.main.length≤1000)(z:m.alt.length≤1000)(w:∀x,x∈m.alt→x.length≤1000000):dr Tryz.prog 3 bu 244 ⟨m,J,H⟩ [.ptr 0 0 0 1]
  (fun v g=>∃f H',g=⟨qL m,f,H'⟩):=by
 refine ap Tryz.func244 (by kernel_rfl) rfl Tryz.ntmps244 (rs:=[]) rfl (dJ rfl) (by decide) ?_;obtain⟨a,alt,e⟩:=m;simp only at C z w;rw[cf];simp only[bu,id];by_cases c:alt.length=0
 ·have r:qL ⟨a,alt,e⟩=jc 12 ⟨a,alt,e⟩:=if_pos c;rw[r];simp[go_sem,c];rw[show H.length=alt.length+H.length by omega,show AV.own 2 0 0 (alt.length+H.length)=AV.own 2 0 alt.length (alt.length+H.length)by rw[c]];refine eJ (Pp:=[]) (s:=⟨⟨a,alt,e⟩,J,H⟩) (ry ⟨a,alt,e⟩ J H 12) aq aw (by simp[AV.renL,AV.ren]) ?_;rintro v g ρ rfl A;generalize jc 12 ⟨a,alt,e⟩=m';simp only[cf,bu,id];simp[go_sem];exact⟨_,⟨J,H,rfl⟩,a8 rfl rfl rfl⟩
 rcases alt.eq_nil_or_concat with rfl|⟨l,x,y⟩;simp at c
 ·rw[List.concat_eq_append]at y;subst y;have r:qL ⟨a,l++[x],e⟩=⟨a++[x],l,e⟩:=by simp[qL]
  rw[r];have t:IntKind.i64.wrap (((l++[x]).length:Int)-1)=(l.length:Int):=by rw[IntWalk.i64_in _ (by simp at z⊢;omega)];simp
  have u:=xH (J:=H) (l:=l++[x]) (k:=l.length) (x:=x) aw;have D:∀h:l.length<(dm (l++[x]) H).length,(dm (l++[x]) H)[l.length]=[.d (nb x)]:=fun h=>Option.some.inj ((cm h).symm.trans u);generalize b:(l++[x]).length=n at *;have B:l.length<n:=by rw[←b];simp
  have q:¬n=0:=aq;have p:(l.length:Int)<(n:Int):=aq;have o:(l.length:Int)≤(n:Int):=aq;simp[go_sem,q,t,u,p,jZ,b]
  refine c8 [548] [] (args':=[.ptr 0 0 0 1,.d (.ro 1 [[nb x]])]) bN id (hJ ⟨a,l++[x],e⟩ J H x (by simp;omega) (w x aw)) (aV 3) (fun j E=>by show j<580;omega) (by simp[cf,bu,aE,lk,b]) rfl
   (iH rfl) aw rfl ?_
  rintro v g ρ ⟨f,rfl⟩ A;simp only[cf,bu,eV,id,b];simp[go_sem,t,o];refine⟨⟨⟨a++[x],l,e⟩,f,.i x::H⟩,⟨f,.i x::H,rfl⟩,a8 ?_ ?_ ?_⟩
  simp[lk,←b];omega;rfl;simp[lk,dm,pW,XR,avJ]
theorem jA{p k:AV}{q n:Nat}{ty:TypeId}{put:List Nat}{hp:Hp}(f:put.length=n)(h:lk q hp=some ⟨ty,1,(ku put).map fun r=>r.map .d⟩):∀(i:Nat)(v c:AV),[p,k,.own q 0 n n][i]?=some v→[p,k,.d (.ro 1 (ku put))][i]?=some c→c=v∨Snap hp (fun id=>id∈[q]) v c:=by
 intro i v c a b
 match i with
 |0=>simp at a b;subst a;subst b;exact .inl rfl
 |1=>simp at a b;subst a;subst b;exact .inl rfl
 |2 =>
  simp at a b;subst a;subst b;refine .inr (.one (ao (ej h aw (by simp[ku,f]) (fun r e=>?_))));obtain⟨x,_,rfl⟩:=List.mem_map.1 e;rfl
 |i+3=>simp at a
theorem sT{p k:AV}{hp:Hp}:∀(i:Nat)(v c:AV),[p,k,.nil][i]?=some v→[p,k,.d (.ro 1 (ku []))][i]?=some c→c=v∨Snap hp (fun id=>id∈[]) v c:=by
 intro i v c a b
 match i with
 |0=>simp at a b;subst a;subst b;exact .inl rfl
 |1=>simp at a b;subst a;subst b;exact .inl rfl
 |2 =>
  simp at a b;subst a;subst b;exact .inr (.one (ao (.nil 1)))
 |i+3=>simp at a
theorem aa8{m:Mc}{n k a b:Nat}{J H:List Jk}{hp:Hp}(c:m.e≠0)(l:lk 0 hp=some ⟨283,3,[[.own 1 0 n a,.own 2 0 k b,.d (.int .i64 m.e)]]⟩)(j:a=J.length)(h:b=H.length)(f:lk 1 hp=some ⟨31,1,dm [] J⟩)(g:lk 2 hp=some ⟨31,1,dm [] H⟩) :
  ∃s',Oy m s'∧vA 3 BG s' id hp:=by
 subst j h;refine⟨.z m.e n k J H,.inr ⟨c,n,k,J,H,rfl⟩,fun i o=>?_⟩
 match i,o with
 |0,_=>exact l
 |1,_=>exact f
 |2,_=>exact g
theorem IM(l:List bc)(J:List Jk):dm l J=dm [] (l.map Jk.i++J):=by
 have:=IE (l:=l) (J:=J) 0 (Nat.zero_le _);simpa using this
theorem Oz(l:List bc):l.map pW++[[.nil]]=dm [] (l.map Jk.i++[.n]):=by
 unfold dm;rw[List.map_append,List.map_map];rfl
theorem OA(l:List bc)(j:Jk)(H:List Jk):l.map pW++[.nil]::(dm l (j::H)).drop (l.length+1)=dm [] (l.map Jk.i++.n::H):=by
 unfold dm;rw[List.drop_append,List.length_map,List.drop_of_length_le aw,Nat.add_sub_cancel_left,List.map_append,List.map_map];rfl
theorem EB(n:Nat)(main alt:List bc)(e:Int):∃e',aQ n ⟨main,alt,e⟩=⟨main,alt,e'⟩:=by
 unfold aQ jc;split;split;exact⟨_,rfl⟩;exact⟨_,rfl⟩;exact⟨_,rfl⟩
theorem Tz(m:Mc)(J H:List Jk)(c:Nat)(ho:c<256)(k:m.main.length≤1000)(h2:m.alt.length≤1000)(o:∀x,x∈m.main→x.length≤1000000)(hy:∀x,x∈m.alt→x.length≤1000000):dr Tryz.prog 3 BG 235 (.a ⟨m,J,H⟩) [.ptr 0 0 0 1,.d (.int .u8 (c:Int))]
  (fun v g=>v=.d (.bool (jN c m).isSome)∧Oy ((jN c m).getD m) g):=by
 refine ap Tryz.func235 (by kernel_rfl) rfl Tryz.ntmps235 (rs:=[.tmp 4]) rfl (dJ rfl) (by decide) ?_;obtain⟨b,alt,e⟩:=m;simp only at k h2 o hy;rw[mcA,cf];simp only[bu,id];simp[go_sem];by_cases T:c=97
 ·subst T;rw[show jN 97 ⟨b,alt,e⟩=some ⟨b,alt,e⟩from rfl];simp[go_sem];exact oD (J:=J) (H:=H) (a8 rfl rfl rfl)
 have ae:¬(c:Int)=97:=aq;simp[go_sem,ae];by_cases w:c=107
 ·subst w;simp[go_sem];refine eJ (Pp:=[]) (s:=⟨⟨b,alt,e⟩,J,H⟩) (zU ⟨b,alt,e⟩ J H (by simp;omega)) aq aw (by simp[AV.renL]) ?_;rintro v g ρ ⟨rfl,f,rfl⟩ l;rw[show jN 107 ⟨b,alt,e⟩=some (nL ⟨b,alt,e⟩)from rfl];have hT:List.take alt.length (dm alt H)=alt.map pW:=o4 (cR _) |>.trans (by rw[List.take_length]);have q:(dm alt H).length=alt.length+H.length:=jZ _ _;by_cases h:(aQ 1 ⟨b,alt,e⟩).e=0
  ·have N:dR ⟨b,alt,e⟩=(b.getLastD [],⟨b.dropLast,alt,e⟩):=if_pos h;have hq:nL ⟨b,alt,e⟩=⟨b.dropLast,alt++[b.getLastD []],e⟩:=by simp[nL,N]
   rw[hq,N];generalize b.getLastD []=x at *;generalize b.dropLast=l2 at *;simp only[cf,bu,id];rcases H with _|⟨j,H⟩
   ·simp[go_sem,AV.ren,h,fi,Ia,hT,q,ah];refine⟨aq,?_⟩;exact⟨fun hh=>absurd hh aq,oD (m:=⟨l2,alt++[x],e⟩) (J:=f) (H:=[]) (a8 (by simp[lk]) rfl (congrArg (fun r=>some (⟨31,1,r⟩:Blk)) (ID x)))⟩
   ·simp[go_sem,AV.ren,h,fi,Ia,hT,q,ah];exact⟨aq,oD (m:=⟨l2,alt++[x],e⟩) (J:=f) (H:=H) (a8 (by simp[lk];omega) rfl (congrArg (fun r=>some (⟨31,1,r⟩:Blk)) (IC x)))⟩
  ·obtain⟨e',he⟩:=EB 1 b alt e;have N:dR ⟨b,alt,e⟩=([],⟨b,alt,e'⟩):=by rw[←he];exact if_neg h
   have hq:nL ⟨b,alt,e⟩=⟨b,alt++[[]],e'⟩:=by simp[nL,N]
   rw[hq,N];rw[he]at h⊢;simp only[cf,bu,id];rcases H with _|⟨j,H⟩
   ·simp[go_sem,AV.ren,h,fi,Ia,hT,q,ah];exact⟨aq,fun hh=>absurd hh aq,aa8 (m:=⟨b,alt++[[]],e'⟩) (J:=b.map Jk.i++f) (H:=alt.map Jk.i++[.n]) h rfl aw aw (congrArg (fun r=>some (⟨31,1,r⟩:Blk)) (IM b f)) (congrArg (fun r=>some (⟨31,1,r⟩:Blk)) (Oz alt))⟩
   ·simp[go_sem,AV.ren,h,fi,Ia,hT,q,ah];exact⟨aq,aa8 (m:=⟨b,alt++[[]],e'⟩) (J:=b.map Jk.i++f) (H:=alt.map Jk.i++.n::H) h rfl aw aw (congrArg (fun r=>some (⟨31,1,r⟩:Blk)) (IM b f)) (congrArg (fun r=>some (⟨31,1,r⟩:Blk)) (OA alt j H))⟩
 have aa:¬(c:Int)=107:=aq;simp[go_sem,aa];by_cases A:c=108
 ·subst A;simp[go_sem];refine eJ (Pp:=[]) (s:=⟨⟨b,alt,e⟩,J,H⟩) (XZ ⟨b,alt,e⟩ J H k h2 hy) aq aw (by simp[AV.renL]) ?_;rintro v g ρ ⟨f,H',rfl⟩ l;rw[show jN 108 ⟨b,alt,e⟩=some (qL ⟨b,alt,e⟩)from rfl];simp only[cf,bu,id];simp[go_sem,ah];exact oD (J:=f) (H:=H') (a8 rfl rfl rfl)
 have W:¬(c:Int)=108:=aq;simp[go_sem,W];by_cases t:c=109
 ·subst t;simp[go_sem];refine c8 [] [] (args':=[.ptr 0 0 0 1,.d (.int .i64 2),.d (.ro 1 (ku []))]) bN id (ie ⟨b,alt,e⟩ J H 2 [] (by decide) (by decide) (by decide) k o) (aV 3) (fun j p=>by show j<356;omega) (by simp[cf,bu,aE,lk]) rfl sT aw rfl ?_;rintro v g ρ ⟨f,rfl⟩ l;rw[show jN 109 ⟨b,alt,e⟩=some (c6 2 [] ⟨b,alt,e⟩)from rfl];simp only[cf,bu,id];simp[go_sem,ah];exact oD (J:=f) (H:=H) (a8 rfl rfl rfl)
 have S:¬(c:Int)=109:=aq;simp[go_sem,S];by_cases D:c=110
 ·subst D;simp[go_sem];refine c8 [420] [] (args':=[.ptr 0 0 0 1,.d (.int .i64 2),.d (.ro 1 (ku [0,1,0,1]))]) bN id (ie ⟨b,alt,e⟩ J H 2 [0,1,0,1] (by decide) (by decide) (by decide) k o) (aV 3) (fun j p=>by show j<452;omega) (by simp[cf,bu,aE,lk]) rfl (jA (put:=[0,1,0,1]) rfl rfl) aw rfl ?_;rintro v g ρ ⟨f,rfl⟩ l;rw[show jN 110 ⟨b,alt,e⟩=some (c6 2 [0,1,0,1] ⟨b,alt,e⟩)from rfl];simp only[cf,bu,id];simp[go_sem,ah];exact oD (J:=f) (H:=H) (a8 rfl rfl rfl)
 have O:¬(c:Int)=110:=aq;simp[go_sem,O];by_cases L:c=111
 ·subst L;simp[go_sem];refine c8 [484] [] (args':=[.ptr 0 0 0 1,.d (.int .i64 3),.d (.ro 1 (ku [0,1,2,0,1,2]))]) bN id (ie ⟨b,alt,e⟩ J H 3 [0,1,2,0,1,2] (by decide) (by decide) (by decide) k o) (aV 3) (fun j p=>by show j<516;omega) (by simp[cf,bu,aE,lk]) rfl (jA (put:=[0,1,2,0,1,2]) rfl rfl) aw rfl ?_;rintro v g ρ ⟨f,rfl⟩ l;rw[show jN 111 ⟨b,alt,e⟩=some (c6 3 [0,1,2,0,1,2] ⟨b,alt,e⟩)from rfl];simp only[cf,bu,id];simp[go_sem,ah];exact oD (J:=f) (H:=H) (a8 rfl rfl rfl)
 have R:¬(c:Int)=111:=aq;simp[go_sem,R];by_cases u:c=112
 ·subst u;simp[go_sem];refine c8 [548] [] (args':=[.ptr 0 0 0 1,.d (.int .i64 4),.d (.ro 1 (ku [0,1,2,3,0,1]))]) bN id (ie ⟨b,alt,e⟩ J H 4 [0,1,2,3,0,1] (by decide) (by decide) (by decide) k o) (aV 3) (fun j p=>by show j<580;omega) (by simp[cf,bu,aE,lk]) rfl (jA (put:=[0,1,2,3,0,1]) rfl rfl) aw rfl ?_;rintro v g ρ ⟨f,rfl⟩ l;rw[show jN 112 ⟨b,alt,e⟩=some (c6 4 [0,1,2,3,0,1] ⟨b,alt,e⟩)from rfl];simp only[cf,bu,id];simp[go_sem,ah];exact oD (J:=f) (H:=H) (a8 rfl rfl rfl)
 have M:¬(c:Int)=112:=aq;simp[go_sem,M];by_cases z:c=113
 ·subst z;simp[go_sem];refine c8 [612] [] (args':=[.ptr 0 0 0 1,.d (.int .i64 6),.d (.ro 1 (ku [2,3,4,5,0,1]))]) bN id (ie ⟨b,alt,e⟩ J H 6 [2,3,4,5,0,1] (by decide) (by decide) (by decide) k o) (aV 3) (fun j p=>by show j<644;omega) (by simp[cf,bu,aE,lk]) rfl (jA (put:=[2,3,4,5,0,1]) rfl rfl) aw rfl ?_;rintro v g ρ ⟨f,rfl⟩ l;rw[show jN 113 ⟨b,alt,e⟩=some (c6 6 [2,3,4,5,0,1] ⟨b,alt,e⟩)from rfl];simp only[cf,bu,id];simp[go_sem,ah];exact oD (J:=f) (H:=H) (a8 rfl rfl rfl)
 have ad:¬(c:Int)=113:=aq;simp[go_sem,ad];by_cases E:c=114
 ·subst E;simp[go_sem];refine c8 [676] [] (args':=[.ptr 0 0 0 1,.d (.int .i64 4),.d (.ro 1 (ku [2,3,0,1]))]) bN id (ie ⟨b,alt,e⟩ J H 4 [2,3,0,1] (by decide) (by decide) (by decide) k o) (aV 3) (fun j p=>by show j<708;omega) (by simp[cf,bu,aE,lk]) rfl (jA (put:=[2,3,0,1]) rfl rfl) aw rfl ?_;rintro v g ρ ⟨f,rfl⟩ l;rw[show jN 114 ⟨b,alt,e⟩=some (c6 4 [2,3,0,1] ⟨b,alt,e⟩)from rfl];simp only[cf,bu,id];simp[go_sem,ah];exact oD (J:=f) (H:=H) (a8 rfl rfl rfl)
 have Q:¬(c:Int)=114:=aq;simp[go_sem,Q];by_cases F:c=117
 ·subst F;simp[go_sem];refine c8 [] [] (args':=[.ptr 0 0 0 1,.d (.int .i64 1),.d (.ro 1 (ku []))]) bN id (ie ⟨b,alt,e⟩ J H 1 [] (by decide) (by decide) (by decide) k o) (aV 3) (fun j p=>by show j<740;omega) (by simp[cf,bu,aE,lk]) rfl sT aw rfl ?_;rintro v g ρ ⟨f,rfl⟩ l;rw[show jN 117 ⟨b,alt,e⟩=some (c6 1 [] ⟨b,alt,e⟩)from rfl];simp only[cf,bu,id];simp[go_sem,ah];exact oD (J:=f) (H:=H) (a8 rfl rfl rfl)
 have ab:¬(c:Int)=117:=aq;simp[go_sem,ab];by_cases y:c=118
 ·subst y;simp[go_sem];refine c8 [804] [] (args':=[.ptr 0 0 0 1,.d (.int .i64 1),.d (.ro 1 (ku [0,0]))]) bN id (ie ⟨b,alt,e⟩ J H 1 [0,0] (by decide) (by decide) (by decide) k o) (aV 3) (fun j p=>by show j<836;omega) (by simp[cf,bu,aE,lk]) rfl (jA (put:=[0,0]) rfl rfl) aw rfl ?_;rintro v g ρ ⟨f,rfl⟩ l;rw[show jN 118 ⟨b,alt,e⟩=some (c6 1 [0,0] ⟨b,alt,e⟩)from rfl];simp only[cf,bu,id];simp[go_sem,ah];exact oD (J:=f) (H:=H) (a8 rfl rfl rfl)
 have Z:¬(c:Int)=118:=aq;simp[go_sem,Z];by_cases G:c=119
 ·subst G;simp[go_sem];refine c8 [868] [] (args':=[.ptr 0 0 0 1,.d (.int .i64 2),.d (.ro 1 (ku [1]))]) bN id (ie ⟨b,alt,e⟩ J H 2 [1] (by decide) (by decide) (by decide) k o) (aV 3) (fun j p=>by show j<900;omega) (by simp[cf,bu,aE,lk]) rfl (jA (put:=[1]) rfl rfl) aw rfl ?_;rintro v g ρ ⟨f,rfl⟩ l;rw[show jN 119 ⟨b,alt,e⟩=some (c6 2 [1] ⟨b,alt,e⟩)from rfl];simp only[cf,bu,id];simp[go_sem,ah];exact oD (J:=f) (H:=H) (a8 rfl rfl rfl)
 have ac:¬(c:Int)=119:=aq;simp[go_sem,ac];by_cases B:c=120
 ·subst B;simp[go_sem];refine c8 [932] [] (args':=[.ptr 0 0 0 1,.d (.int .i64 2),.d (.ro 1 (ku [0,1,0]))]) bN id (ie ⟨b,alt,e⟩ J H 2 [0,1,0] (by decide) (by decide) (by decide) k o) (aV 3) (fun j p=>by show j<964;omega) (by simp[cf,bu,aE,lk]) rfl (jA (put:=[0,1,0]) rfl rfl) aw rfl ?_;rintro v g ρ ⟨f,rfl⟩ l;rw[show jN 120 ⟨b,alt,e⟩=some (c6 2 [0,1,0] ⟨b,alt,e⟩)from rfl];simp only[cf,bu,id];simp[go_sem,ah];exact oD (J:=f) (H:=H) (a8 rfl rfl rfl)
 have U:¬(c:Int)=120:=aq;simp[go_sem,U];by_cases I:c=123
 ·subst I;simp[go_sem];refine c8 [996] [] (args':=[.ptr 0 0 0 1,.d (.int .i64 3),.d (.ro 1 (ku [1,2,0]))]) bN id (ie ⟨b,alt,e⟩ J H 3 [1,2,0] (by decide) (by decide) (by decide) k o) (aV 3) (fun j p=>by show j<1028;omega) (by simp[cf,bu,aE,lk]) rfl (jA (put:=[1,2,0]) rfl rfl) aw rfl ?_;rintro v g ρ ⟨f,rfl⟩ l;rw[show jN 123 ⟨b,alt,e⟩=some (c6 3 [1,2,0] ⟨b,alt,e⟩)from rfl];simp only[cf,bu,id];simp[go_sem,ah];exact oD (J:=f) (H:=H) (a8 rfl rfl rfl)
 have V:¬(c:Int)=123:=aq;simp[go_sem,V];by_cases K:c=124
 ·subst K;simp[go_sem];refine c8 [1060] [] (args':=[.ptr 0 0 0 1,.d (.int .i64 2),.d (.ro 1 (ku [1,0]))]) bN id (ie ⟨b,alt,e⟩ J H 2 [1,0] (by decide) (by decide) (by decide) k o) (aV 3) (fun j p=>by show j<1092;omega) (by simp[cf,bu,aE,lk]) rfl (jA (put:=[1,0]) rfl rfl) aw rfl ?_;rintro v g ρ ⟨f,rfl⟩ l;rw[show jN 124 ⟨b,alt,e⟩=some (c6 2 [1,0] ⟨b,alt,e⟩)from rfl];simp only[cf,bu,id];simp[go_sem,ah];exact oD (J:=f) (H:=H) (a8 rfl rfl rfl)
 have Y:¬(c:Int)=124:=aq;simp[go_sem,Y];by_cases C:c=125
 ·subst C;simp[go_sem];refine c8 [1124] [] (args':=[.ptr 0 0 0 1,.d (.int .i64 2),.d (.ro 1 (ku [1,0,1]))]) bN id (ie ⟨b,alt,e⟩ J H 2 [1,0,1] (by decide) (by decide) (by decide) k o) (aV 3) (fun j p=>by show j<1156;omega) (by simp[cf,bu,aE,lk]) rfl (jA (put:=[1,0,1]) rfl rfl) aw rfl ?_;rintro v g ρ ⟨f,rfl⟩ l;rw[show jN 125 ⟨b,alt,e⟩=some (c6 2 [1,0,1] ⟨b,alt,e⟩)from rfl];simp only[cf,bu,id];simp[go_sem,ah];exact oD (J:=f) (H:=H) (a8 rfl rfl rfl)
 have X:¬(c:Int)=125:=aq;have hn:jN c ⟨b,alt,e⟩=none:=by simp[jN,T,w,A,t,D,L,u,z,E,F,y,G,B,I,K,C]
 rw[hn];simp[go_sem,X];exact oD (J:=J) (H:=H) (a8 rfl rfl rfl)
theorem BH(m:Mc)(J H:List Jk)(b:Bool):dr Tryz.prog 3 bu 247 ⟨m,J,H⟩ [.ptr 0 0 0 1,.d (.bool b)] (fun v a=>a=⟨kJ b m,J,H⟩):=by
 refine ap Tryz.func247 (by kernel_rfl) rfl Tryz.ntmps247 (rs:=[]) rfl (dJ rfl) (by decide) ?_;rw[cf];simp only[bu,id];cases b with
 |true =>
  simp[go_sem];exact a8 rfl rfl rfl
 |false =>
  simp[go_sem];refine eJ (Pp:=[]) (s:=⟨m,J,H⟩) (ry m J H 16) aq aw (by simp[AV.renL,AV.ren]) ?_;rintro v a ρ rfl e;have c:kJ false m=jc 16 m:=rfl;rw[c];generalize jc 16 m=m';simp only[cf,bu,id];simp[go_sem];exact a8 rfl rfl rfl
theorem IN{m:Mc}(h:2≤m.main.length):m.main[m.main.length-1-1]?=some (Ek m):=by
 unfold Ek;rw[cS,show m.main.length-2=m.main.length-1-1 by omega];rw[cm aq];rfl
theorem vX{m:Mc}(h:1≤m.main.length):m.main[m.main.length-1]?=some (rp m):=IF h
theorem OB(m:Mc)(J H:List Jk)(p:m.main.length≤1000)(q:∀x,x∈m.main→x.length≤1000000)(o:∀x,x∈m.main→bytes x):dr Tryz.prog 3 bu 251 ⟨m,J,H⟩ [.ptr 0 0 0 1]
  (fun v b=>v=.d (.bool (iq m).1)∧∃l,b=⟨(iq m).2,l,H⟩):=by
 refine ap Tryz.func251 (by kernel_rfl) rfl Tryz.ntmps251 (rs:=[.tmp 2]) rfl (dJ rfl) (by decide) ?_;obtain⟨a,alt,e⟩:=m;simp only at p q o;rw[cf];simp only[bu,id];simp[go_sem];refine eJ (Pp:=[]) (s:=⟨⟨a,alt,e⟩,J,H⟩) (mo ⟨a,alt,e⟩ J H 2) aq aw (by simp[AV.renL,AV.ren]) ?_;rintro v b ρ ⟨rfl,rfl⟩ g;by_cases h:(aQ 2 ⟨a,alt,e⟩).e=0
 ·obtain⟨u,r,t⟩:=jv h;simp only at u r;subst r;have n:iq ⟨a,alt,0⟩=(decide (rp ⟨a,alt,0⟩=Ek ⟨a,alt,0⟩),c6 2 [] ⟨a,alt,0⟩):=if_pos h;rw[t,n];have i:=vX (m:=⟨a,alt,0⟩) (by show 1≤a.length;omega);have k:=IN (m:=⟨a,alt,0⟩) (by show 2≤a.length;omega);have f:=cr i;have c:=cr k;simp only at i k f c;generalize rp ⟨a,alt,0⟩=x0 at *;generalize Ek ⟨a,alt,0⟩=x1 at *;simp only[cf,bu,id];simp[go_sem,AV.ren];refine eJ (Pp:=[]) (s:=⟨⟨a,alt,0⟩,J,H⟩) (rA ⟨a,alt,0⟩ J H x0 i (by show 1≤a.length;omega) (by show a.length≤1000000;omega)) aq aw (by simp[AV.renL,AV.ren]) ?_;rintro v b ρ ⟨rfl,rfl⟩ g;simp only[cf,bu,id];simp[go_sem,AV.ren,nb];refine eJ (Pp:=[]) (s:=⟨⟨a,alt,0⟩,J,H⟩) (Oc ⟨a,alt,0⟩ J H 1 x1 k (by show 1<a.length;omega) (by show a.length≤1000000;omega)) aq aw (by simp[AV.renL,AV.ren]) ?_;rintro v b ρ ⟨rfl,rfl⟩ g;simp only[cf,bu,id];simp[go_sem,AV.ren,nb];refine ag (jx x0 x1 (o x0 f) (o x1 c)) a9 ?_;simp[go_sem];refine c8 [] [] (args':=[.ptr 0 0 0 1,.d (.int .i64 2),.d (.ro 1 (ku []))]) bN id (ie ⟨a,alt,0⟩ J H 2 [] (by decide) (by decide) (by decide) p q) (aV 3) (fun j w=>by show j<356;omega) (by simp[cf,bu,aE,lk]) rfl sT aw rfl ?_;rintro v b ρ ⟨l,rfl⟩ g;generalize c6 2 [] ⟨a,alt,0⟩=m';simp only[cf,bu,id];simp[go_sem,ah];exact⟨_,⟨l,rfl⟩,a8 rfl rfl rfl⟩
 ·have n:iq ⟨a,alt,e⟩=(false,aQ 2 ⟨a,alt,e⟩):=if_neg h;rw[n];generalize aQ 2 ⟨a,alt,e⟩=m' at *;simp only[cf,bu,id];simp[go_sem,AV.ren,h,ah];exact⟨_,⟨J,rfl⟩,a8 rfl rfl rfl⟩
theorem GQ(b:List Nat)(f:b.length≤100000000000):cX Tryz.prog 52 0 [] [.d (nb b)] (fun r a=>(b=[]∧r=.nil)∨∃I,r=.own I 0 b.length b.length∧lk I a=some ⟨5,1,rb b⟩):=by
 refine ap Tryz.func52 (by kernel_rfl) rfl Tryz.ntmps52 (rs:=[.tmp 2]) rfl (dJ rfl) (by decide) ?_;simp only[go_sem,nb,Nat.reduceEqDiff,Nat.reduceAdd,Nat.reduceLT,↓reduceIte];intro t c
 cases t with
 |true =>
  have e:b=[]:=List.eq_nil_of_length_eq_zero (by simpa using c rfl);subst e;simp only[go_sem,Nat.reduceAdd,Nat.reduceLT,↓reduceIte];exact .inl (by trivial)
 |false =>
  simp[go_sem,dk,aH];omega
theorem EC{p:AV}{q B n:Nat}{ty:TypeId}{L:bc}{hp:Hp}(e:lk B hp=some ⟨ty,1,[[.own q 0 n n]]⟩)(hq:lk q hp=some ⟨5,1,rb L⟩)(f:L.length=n) :
  ∀(i:Nat)(v b:AV),[p,.own B 0 1 1][i]?=some v→[p,.d (.ro 1 [[nb L]])][i]?=some b→b=v∨Snap hp (fun id=>id∈[B,q]) v b:=by
 intro i v b a c
 match i with
 |0=>simp at a c;subst a;subst c;exact .inl rfl
 |1 =>
  simp at a c;subst a;subst c;exact .inr (.one (ao (kr e aw rfl (.cons (.cons (bo f hq aw) .nil) .nil) rfl aw)))
 |i+2=>simp at a
theorem X0(m:Mc)(J H:List Jk)(y:m.main.length≤1000)(q:∀x,x∈m.main→x.length≤100000):dr Tryz.prog 3 bu 250 ⟨m,J,H⟩ [.ptr 0 0 0 1]
  (fun v b=>∃o,b=⟨qM m,o,H⟩):=by
 refine ap Tryz.func250 (by kernel_rfl) rfl Tryz.ntmps250 (rs:=[]) rfl (dJ rfl) (by decide) ?_;obtain⟨a,alt,e⟩:=m;simp only at y q;rw[cf];simp only[bu,id];simp[go_sem];refine eJ (Pp:=[]) (s:=⟨⟨a,alt,e⟩,J,H⟩) (mo ⟨a,alt,e⟩ J H 2) aq aw (by simp[AV.renL,AV.ren]) ?_;rintro v b ρ ⟨rfl,rfl⟩ c;by_cases h:(aQ 2 ⟨a,alt,e⟩).e=0
 ·obtain⟨D,B,E⟩:=jv h;simp only at D B;subst B;have A:qM ⟨a,alt,0⟩=eV [Ek ⟨a,alt,0⟩++rp ⟨a,alt,0⟩] (c6 2 [] ⟨a,alt,0⟩):=if_pos h;rw[E,A];have u:=vX (m:=⟨a,alt,0⟩) (by show 1≤a.length;omega);have w:=IN (m:=⟨a,alt,0⟩) (by show 2≤a.length;omega);have t:=cr u;have i:=cr w;simp only at u w t i;generalize rp ⟨a,alt,0⟩=x0 at *;generalize Ek ⟨a,alt,0⟩=x1 at *;simp only[cf,bu,id];simp[go_sem,AV.ren];refine eJ (Pp:=[]) (s:=⟨⟨a,alt,0⟩,J,H⟩) (Oc ⟨a,alt,0⟩ J H 1 x1 w (by show 1<a.length;omega) (by show a.length≤1000000;omega)) aq aw (by simp[AV.renL,AV.ren]) ?_;rintro v b ρ ⟨rfl,rfl⟩ c;simp only[cf,bu,id];simp[go_sem,AV.ren];have F:=q x0 t;have K:=q x1 i;refine aP [] (GQ x1 aq) rfl aw aw aw (by simp[AV.renL,AV.ren]) ?_;rintro r M C;rcases C with ⟨rfl,rfl⟩|⟨I,rfl,G⟩
  ·refine⟨[],by simp[db,gm],?_⟩;simp[go_sem,bZ,bB,AV.ren];refine eJ (Pp:=[]) (s:=⟨⟨a,alt,0⟩,J,H⟩) (rA ⟨a,alt,0⟩ J H x0 u (by show 1≤a.length;omega) (by show a.length≤1000000;omega)) aq aw (by simp[AV.renL,AV.ren]) ?_;rintro v b ρ ⟨rfl,rfl⟩ c;simp only[cf,bu,id];simp[go_sem,AV.ren,nb,dk,aH];refine⟨aq,?_⟩;have f:c6 2 [] ⟨a,alt,0⟩=⟨a.take (a.length-2),alt,0⟩:=by simp[c6,h]
   have z:(a.take (a.length-2)).length≤1000:=by simp;omega
   refine c8 [] [(260,⟨5,1,rb x0⟩)] (args':=[.ptr 0 0 0 1,.d (.int .i64 2),.d (.ro 1 (ku []))]) bN id (ie ⟨a,alt,0⟩ J H 2 [] (by decide) (by decide) (by decide) y (fun x h=>Nat.le_trans (q x h) (by decide))) (aV 3) (fun j k=>by show j<356;omega) (by simp[cf,bu,aE,lk]) rfl sT
    (fun p g=>by simp at g;subst g;exact⟨by show 260<356;omega,fun j k=>by show j≠260;omega⟩) rfl ?_
   rintro v b ρ ⟨o,rfl⟩ c;rw[f];generalize a.take (a.length-2)=l at *;simp only[cf,bu,id];simp[go_sem]
   refine c8 [452,260] [] (args':=[.ptr 0 0 0 1,.d (.ro 1 [[nb (x0)]])]) bN id (hJ ⟨l,alt,0⟩ o H (x0) (by show l.length≤1000000;omega) (by first|omega|(simp;omega))) (aV 3) (fun j k=>by show j<484;omega) (by simp[cf,bu,aE,lk]) rfl
    (EC (L:=x0) rfl rfl aw) aw rfl ?_
   rintro v b ρ ⟨n,rfl⟩ c;simp only[cf,bu,eV,id];simp[go_sem];exact⟨⟨⟨l++[x0],alt,0⟩,n,H⟩,⟨n,rfl⟩,a8 (by simp[lk]) rfl rfl⟩
  ·refine⟨[(I,0)],by simp[db,gm],?_⟩;simp[go_sem,bZ,bB,G,Blk.ren,aO,dA,AV.ren,b8];refine eJ (Pp:=[(164,⟨5,1,rb x1⟩)]) (s:=⟨⟨a,alt,0⟩,J,H⟩) (rA ⟨a,alt,0⟩ J H x0 u (by show 1≤a.length;omega) (by show a.length≤1000000;omega)) aq aw (by simp[AV.renL,AV.ren]) ?_;rintro v b ρ ⟨rfl,rfl⟩ c;simp only[cf,bu,id];have N:List.take x1.length (rb x1)=rb x1:=cx (by rw[aH];exact cR _);simp[go_sem,AV.ren,nb,zk,apF,dk,aH];refine⟨aq,?_⟩;have f:c6 2 [] ⟨a,alt,0⟩=⟨a.take (a.length-2),alt,0⟩:=by simp[c6,h]
   have z:(a.take (a.length-2)).length≤1000:=by simp;omega
   refine c8 [] [(164,⟨5,1,rb x1++rb x0⟩)] (args':=[.ptr 0 0 0 1,.d (.int .i64 2),.d (.ro 1 (ku []))]) bN id (ie ⟨a,alt,0⟩ J H 2 [] (by decide) (by decide) (by decide) y (fun x h=>Nat.le_trans (q x h) (by decide))) (aV 3) (fun j k=>by show j<356;omega) (by simp[cf,bu,aE,lk]) rfl sT
    (fun p g=>by simp at g;subst g;exact⟨by show 164<356;omega,fun j k=>by show j≠164;omega⟩) rfl ?_
   rintro v b ρ ⟨o,rfl⟩ c;rw[f];generalize a.take (a.length-2)=l at *;simp only[cf,bu,id];simp[go_sem]
   refine c8 [452,164] [] (args':=[.ptr 0 0 0 1,.d (.ro 1 [[nb (x1++x0)]])]) bN id (hJ ⟨l,alt,0⟩ o H (x1++x0) (by show l.length≤1000000;omega) (by first|omega|(simp;omega))) (aV 3) (fun j k=>by show j<484;omega) (by simp[cf,bu,aE,lk]) rfl
    (EC (L:=x1++x0) rfl (by simp[lk,rb]) aw) aw rfl ?_
   rintro v b ρ ⟨n,rfl⟩ c;simp only[cf,bu,eV,id];simp[go_sem];exact⟨⟨⟨l++[x1++x0],alt,0⟩,n,H⟩,⟨n,rfl⟩,a8 (by simp[lk]) rfl rfl⟩
 ·have A:qM ⟨a,alt,e⟩=aQ 2 ⟨a,alt,e⟩:=if_neg h;rw[A];generalize aQ 2 ⟨a,alt,e⟩=m' at *;simp only[cf,bu,id];simp[go_sem,AV.ren,h];exact⟨_,⟨J,rfl⟩,a8 rfl rfl rfl⟩
theorem OC{p:AV}{q B:Nat}{ty e:TypeId}{L:bc}{hp:Hp}(f:lk B hp=some ⟨ty,1,[[.sub q 0 0 1 32 32 1]]⟩)(hq:lk q hp=some ⟨e,32,[cb L]⟩)(g:L.length=32) :
  ∀(i:Nat)(v b:AV),[p,.own B 0 1 1][i]?=some v→[p,.d (.ro 1 [[nb L]])][i]?=some b→b=v∨Snap hp (fun id=>id∈[B,q]) v b:=by
 intro i v b a c
 match i with
 |0=>simp at a c;subst a;subst c;exact .inl rfl
 |1 =>
  simp at a c;subst a;subst c;exact .inr (.one (ao (kr f aw rfl (.cons (.cons (eU hq aw g) .nil) .nil) rfl aw)))
 |i+2=>simp at a
theorem BI{m:Mc}(h:(aQ 1 m).e=0):∃l x,m.main=l++[x]∧dR m=(x,⟨l,m.alt,m.e⟩)∧m.e=0:=by
 obtain⟨d,b,f⟩:=jv h;obtain⟨a,alt,e⟩:=m;simp only at d b;rcases a.eq_nil_or_concat with rfl|⟨l,x,c⟩;simp at d;rw[List.concat_eq_append]at c;subst c;exact⟨l,x,rfl,by simp[dR,h],b⟩
theorem OD(g:FuncId)(f:bc→bc)(C:∀x:bc,x.length≤1000000→au Tryz.prog g [.d (nb x)] (fun r=>r=.agg (cb (f x))))(A:∀x,(f x).length=32)
  (m:Mc) (J H:List Jk) (o:m.main.length≤1000) (w:∀x,x∈m.main→x.length≤1000000):dr Tryz.prog 3 bu 252 ⟨m,J,H⟩ [.ptr 0 0 0 1,.fn g []]
  (fun v c=>∃n,c=⟨mi f m,n,H⟩):=by
 refine ap Tryz.func252 (by kernel_rfl) rfl Tryz.ntmps252 (rs:=[]) rfl (dJ rfl) (by decide) ?_;obtain⟨a,alt,e⟩:=m;simp only at o w;rw[cf];simp only[bu,id];simp[go_sem];refine eJ (Pp:=[]) (s:=⟨⟨a,alt,e⟩,J,H⟩) (mo ⟨a,alt,e⟩ J H 1) aq aw (by simp[AV.renL,AV.ren]) ?_;rintro v c ρ ⟨rfl,rfl⟩ t;by_cases h:(aQ 1 ⟨a,alt,e⟩).e=0
 ·obtain⟨l,x,q,i,z⟩:=BI h;obtain⟨_,_,B⟩:=jv h;simp only at q z i;subst z;have p:mi f ⟨a,alt,0⟩=⟨l++[f x],alt,0⟩:=by simp[mi,h,i,eV]
  rw[B,p];simp only[cf,bu,id];simp[go_sem,AV.ren];refine eJ (Pp:=[]) (s:=⟨⟨a,alt,0⟩,J,H⟩) (zU ⟨a,alt,0⟩ J H (by show a.length≤1000000;omega)) aq aw (by simp[AV.renL]) ?_;rintro v c ρ ⟨rfl,n,rfl⟩ t;rw[i,if_pos h];simp only[cf,bu,id];simp[go_sem,AV.ren];refine ag (C x (w x (by rw[q];simp))) a9 ?_;have b:=A x;generalize f x=y at *
  have k:cb y++List.drop y.length (cb z32)=cb y:=by
   rw[dg (by rw[ak,b];exact cR 32),List.append_nil]
  have D:l.length≤1000:=by rw[q]at o;simp at o;omega
  simp[go_sem];rw[k];refine⟨b,aq,?_⟩
  refine c8 [356,228] [] (args':=[.ptr 0 0 0 1,.d (.ro 1 [[nb y]])]) bN id (hJ ⟨l,alt,0⟩ n H y (by show l.length≤1000000;omega) aq) (aV 3) (fun j E=>by show j<388;omega) (by simp[cf,bu,aE,lk]) rfl
   (OC rfl rfl b) aw rfl ?_
  rintro v c ρ ⟨u,rfl⟩ t;simp only[cf,bu,eV,id];simp[go_sem];exact⟨⟨⟨l++[y],alt,0⟩,u,H⟩,⟨u,rfl⟩,a8 (by simp[lk]) rfl rfl⟩
 ·have p:mi f ⟨a,alt,e⟩=aQ 1 ⟨a,alt,e⟩:=if_neg h;rw[p];generalize aQ 1 ⟨a,alt,e⟩=m' at *;simp only[cf,bu,id];simp[go_sem,AV.ren,h];exact⟨_,⟨J,rfl⟩,a8 rfl rfl rfl⟩
theorem OE (f:Bool) (m:Mc) (J H:List Jk) (Q:m.main.length≤1000) (T:∀ x,x ∈ m.main→x.length≤1000000) (hb:∀ x,x ∈ m.main→bytes x):dr Tryz.prog 3 bu 246 ⟨m,J,H⟩ [.ptr 0 0 0 1,.d (.bool f)]
    (fun v q=>∃c,q=⟨kH f m,c,H⟩):=by
  refine ap Tryz.func246 (by kernel_rfl) rfl Tryz.ntmps246 (rs:=[]) rfl (dJ rfl) (by decide) ?_;obtain⟨b,alt,e⟩:=m;simp only at Q T hb;rw[cf];simp only[bu,id];simp[go_sem];refine eJ (Pp:=[]) (s:=⟨⟨b,alt,e⟩,J,H⟩) (zU ⟨b,alt,e⟩ J H (by show b.length≤1000000;omega)) aq aw (by simp[AV.renL]) ?_;rintro v q ρ ⟨rfl,c,rfl⟩ A;by_cases h:(aQ 1 ⟨b,alt,e⟩).e=0
  · obtain ⟨l,x,L,M,h2⟩:=BI h
    simp only at L h2 M;subst h2;have B:x∈b:=by rw[L];simp
    have ae:l.length≤1000:=by rw[L]at Q;simp at Q;omega
    have g:kH f ⟨b,alt,0⟩=(let r:=gw 4 x ⟨l,alt,0⟩
      if r.2.e=0 then
        (if r.1<0∨(r.2.main.length:Int)≤r.1 then jc 12 r.2
        else
          let a:=r.2.main.length-1-r.1.toNat
          eV [r.2.main.getD a []] ⟨if f then r.2.main.eraseIdx a else r.2.main,r.2.alt,r.2.e⟩)
      else r.2):=by unfold kH;rw[M]
    rw[M,if_pos h];simp only[cf,bu,id];simp[go_sem,AV.ren];refine eJ (Pp:=[]) (s:=⟨⟨l,alt,0⟩,c,H⟩) (Oq ⟨l,alt,0⟩ c H 4 x (hb x B) (by decide) (T x B)) aq aw (by simp[AV.renL,AV.ren,nb]) ?_;rintro v q ρ ⟨rfl,rfl⟩ A;have hr:gw 4 x ⟨l,alt,0⟩=match gv 4 x with|some n=>(n,⟨l,alt,0⟩)|none=>(0,⟨l,alt,15⟩):=rfl;rw[hr]at g⊢
    cases Z:gv 4 x with
    | none =>
      rw[Z]at g;have hv:kH f ⟨b,alt,0⟩=⟨l,alt,15⟩:=by rw[g];rfl
      rw[hv];simp only[cf,bu,id];simp[go_sem,AV.ren];exact⟨⟨⟨l,alt,15⟩,c,H⟩,⟨c,rfl⟩,a8 rfl rfl rfl⟩
    | some n =>
      rw[Z]at g;simp only[if_true]at g;simp only[cf,bu,id];by_cases o:n<0
      · rw [if_pos (.inl o)] at g
        rw[g];simp[go_sem,AV.ren,o];refine eJ (Pp:=[]) (s:=⟨⟨l,alt,0⟩,c,H⟩) (ry ⟨l,alt,0⟩ c H 12) aq aw (by simp[AV.renL,AV.ren]) ?_;rintro v q ρ rfl A;generalize jc 12 ⟨l,alt,0⟩=m';simp only[cf,bu,id];simp[go_sem];exact⟨_,⟨c,rfl⟩,a8 rfl rfl rfl⟩
      · by_cases p:(l.length:Int)≤n
        · rw [if_pos (.inr p)] at g
          rw[g];simp[go_sem,AV.ren,o,p];refine eJ (Pp:=[]) (s:=⟨⟨l,alt,0⟩,c,H⟩) (ry ⟨l,alt,0⟩ c H 12) aq aw (by simp[AV.renL,AV.ren]) ?_;rintro v q ρ rfl A;generalize jc 12 ⟨l,alt,0⟩=m';simp only[cf,bu,id];simp[go_sem];exact⟨_,⟨c,rfl⟩,a8 rfl rfl rfl⟩
        · obtain ⟨k,rfl⟩:∃ k:Nat,n=k:=⟨n.toNat,aq⟩
          have R:k<l.length:=aq;have w1:IntKind.i64.wrap ((l.length:Int)-1)=((l.length-1:Nat):Int):=by rw[IntWalk.i64_in _ aq];omega
          have w2:IntKind.i64.wrap (((l.length-1:Nat):Int)-(k:Int))=((l.length-1-k:Nat):Int):=by rw[IntWalk.i64_in _ aq];omega
          obtain⟨y,Y⟩:∃y,l[l.length-1-k]?=some y:=⟨_,cm aq⟩;have O:l.getD (l.length-1-k) []=y:=by rw[cS,Y];rfl
          have F:y.length≤1000000:=T y (by rw[L];exact List.mem_append_left _ (cr Y));have hs:=xH (J:=c) Y;have S:l.length-1-k<l.length:=aq;have E:((l.length-1-k:Nat):Int)<(l.length:Int):=aq;have af:∀K:l.length-1-k<(dm l c).length,(dm l c)[l.length-1-k]=[.d (nb y)]:=fun K=>Option.some.inj ((cm K).symm.trans hs);have X:¬((l.length:Int)≤(k:Int)):=p;rw[if_neg aq]at g;simp only[Int.toNat_natCast,O,eV]at g;rw[g];generalize ad:l.length-1-k=a at *;simp[go_sem,AV.ren,o,X,w1,w2,hs,E,jZ]
          cases f with
          | false =>
            simp[go_sem]
            refine c8 [1316] [] (args':=[.ptr 0 0 0 1,.d (.ro 1 [[nb y]])]) bN id (hJ ⟨l,alt,0⟩ c H y (by show(l).length≤1000000;omega) F) (aV 3) (fun j hj=>by show j<1348;omega) (by simp[cf,bu,aE,lk]) rfl
              (iH rfl) aw rfl ?_
            rintro v q ρ ⟨C,rfl⟩ A;simp only[cf,bu,eV,id];simp[go_sem];exact⟨⟨⟨l++[y],alt,0⟩,C,H⟩,⟨C,rfl⟩,a8 (by simp[lk]) rfl rfl⟩
          | true =>
            simp[go_sem]
            obtain⟨I,z,U⟩:∃I z,l=I++[z]:=by
              rcases l.eq_nil_or_concat with rfl|⟨I,z,e⟩
              · simp at R
              · exact⟨I,z,by rw[e,List.concat_eq_append]⟩
            have W:(l.eraseIdx a).length=l.length-1:=List.length_eraseIdx_of_lt S;have V:IntKind.i64.wrap ((a:Int)+1)=((a+1:Nat):Int):=ay aq;have ac:((a+1:Nat):Int)≤(l.length:Int):=aq;have D:(a:Int)≤(l.length:Int):=aq;have ab:a+1≤l.length:=aq;have N:(dm l c).length=l.length+c.length:=jZ _ _;have w:min (l.length-(a+1)) (l.length+c.length-(a+1))=l.length-(a+1):=aq;have t:a+(l.length-(a+1))=l.length-1:=aq;have u:List.take a (dm l c)++(List.take (l.length-(a+1)) (List.drop (a+1) (dm l c))++List.drop (l.length-1) (dm l c))=dm (l.eraseIdx a) (.i z::c):=by
              have e1:List.take a (dm l c)=(l.take a).map pW:=o4 aq;have e2:List.take (l.length-(a+1)) (List.drop (a+1) (dm l c))=(l.drop (a+1)).map pW:=by
                unfold dm;rw[List.drop_append_of_le_length (by simp;omega),List.take_append_of_le_length aw,←List.map_drop,cx aw]
              have e3:List.drop (l.length-1) (dm l c)=pW z::c.map XR:=by
                subst U;unfold dm;simp
              rw[e1,e2,e3,List.eraseIdx_eq_take_drop_succ];unfold dm;simp[List.map_append,pW,XR,avJ]
            refine dE [1,2,3,4,5,6,7,8,9,10,11,12,13] [0,14,15,16,17] [1,2,3,4,5,6,7,8,9,10,11,12,13] (.alt (bt 0 (a_ [14,15,16,17])) (a_ [14,0,15,16,17])) ⟨[(0,.ptr 0 0 0 1),(6,.d (nb y))],[(0,⟨283,3,[[.own 1 0 (l.eraseIdx a).length ((l.eraseIdx a).length+(.i z::c:List Jk).length),.own 2 0 alt.length (alt.length+H.length),.d (.int .i64 0)]]⟩),(1,⟨31,1,dm (l.eraseIdx a) (.i z::c)⟩),(2,⟨31,1,dm alt H⟩)],9000⟩ (k:=18) ?h3 ?hq
            case h3 =>
              intro G hG;simp (config := { maxSteps := 3000000 }) [go_sem,fi,Ia,N,V,D,w,t,u]
              repeat' apply And.intro
              all_goals first
                |omega
                |(intro K;omega)
                | (intro K
                   refine hG _ _ (b7 ⟨by simp[ai,fv,lk,AV.low,AV.low1],Ob (m:=⟨l.eraseIdx a,alt,0⟩) ?_ rfl rfl (dJ rfl) trivial,aw⟩);simp[lk,W]
                   omega)
            case hq =>
              have aa:(l.eraseIdx a).length≤1000:=aq;clear u t w;generalize l.eraseIdx a=l2 at *;simp[go_sem]
              refine c8 [9064] [] (args':=[.ptr 0 0 0 1,.d (.ro 1 [[nb y]])]) bN id (hJ ⟨l2,alt,0⟩ (.i z::c) H y (by show l2.length≤1000000;omega) F) (aV 3) (fun j hj=>by show j<9096;omega) (by simp[cf,bu,aE,lk]) rfl
                (iH rfl) aw rfl ?_
              rintro v q ρ ⟨C,rfl⟩ A;simp only[cf,bu,eV,id];simp[go_sem];exact⟨⟨⟨l2++[y],alt,0⟩,C,H⟩,⟨C,rfl⟩,a8 (by simp[lk]) rfl rfl⟩
  · have ha:dR ⟨b,alt,e⟩=([],aQ 1 ⟨b,alt,e⟩):=if_neg h
    have g:kH f ⟨b,alt,e⟩=aQ 1 ⟨b,alt,e⟩:=by
      unfold kH;rw[ha];have:gw 4 [] (aQ 1 ⟨b,alt,e⟩)=(0,aQ 1 ⟨b,alt,e⟩):=if_neg h;simp only[this];rw[if_neg h]
    rw[g,ha,if_neg h];generalize aQ 1 ⟨b,alt,e⟩=m' at *;simp only[cf,bu,id];simp[go_sem,AV.ren];refine eJ (Pp:=[]) (s:=⟨m',c,H⟩) (IK m' c H 4 h) aq aw (by simp[AV.renL,AV.ren]) ?_;rintro v q ρ ⟨rfl,rfl⟩ A;simp only[cf,bu,id];simp[go_sem,AV.ren,h];exact⟨_,⟨c,rfl⟩,a8 rfl rfl rfl⟩
def eW(b:List Nat):List Nat:=aW (aW b)
theorem OF(b:List Nat):(eW b).length=32:=bf _
theorem TA(b:List Nat)(g:b.length≤1000000):au Tryz.prog 253 [.d (nb b)] (fun r=>r=.agg (cb (eW b))):=by
 refine bF Tryz.func253 Tryz.ntmps253 (rs:=[.cell 2 29]) a9 ?_;simp[go_sem];refine ag (mV b aq) a9 ?_;have e:=bf b;unfold eW;generalize aW b=s at *;have c:(cb z32).drop 32=[]:=rfl;simp[go_sem,ak,e,c];refine bA [96] (mV s aq) rfl (aj (.one (ao (eU rfl aw e))) aD) ?_;have a:=bf s;generalize aW s=s2 at *;have f:(cb s2).take 32=cb s2:=cx (by rw[ak];omega);simp[go_sem,aE,ak,a,c,f,ah];exact aa (dV _) rfl
theorem qd(n:Nat)(m:Mc):(aQ n m).main=m.main∧(aQ n m).alt=m.alt:=by
 obtain⟨a,alt,e⟩:=m;obtain⟨b,h⟩:=EB n a alt e;rw[h];exact⟨rfl,rfl⟩
theorem OG(m:Mc)(h:m.main.length≤1000):(iq m).2.main.length≤1000:=by
 unfold iq;split;rename_i a;simp only[c6,if_pos a];simp;omega;rw[(qd 2 m).1];exact h
theorem TB(m:Mc)(J H:List Jk)(c:Nat)(ho:c<256)(r:m.main.length≤1000)(U:∀x,x∈m.main→x.length≤100000)(M:∀x,x∈m.main→bytes x):dr Tryz.prog 3 bu 236 ⟨m,J,H⟩ [.ptr 0 0 0 1,.d (.int .u8 (c:Int))]
  (fun v g=>v=.d (.bool (yF aW eW c m).isSome)∧∃f,g=⟨(yF aW eW c m).getD m,f,H⟩):=by
 refine ap Tryz.func236 (by kernel_rfl) rfl Tryz.ntmps236 (rs:=[.tmp 4]) rfl (dJ rfl) (by decide) ?_;obtain⟨a,alt,e⟩:=m;simp only at r U M;have i:∀x,x∈a→x.length≤1000000:=fun x h=>Nat.le_trans (U x h) (by decide);rw[cf];simp only[bu,id];simp[go_sem];by_cases D:c=121
 ·subst D;simp[go_sem];refine eJ (Pp:=[]) (s:=⟨⟨a,alt,e⟩,J,H⟩) (OE false ⟨a,alt,e⟩ J H r i M) aq aw (by simp[AV.renL,AV.ren]) ?_;rintro v g ρ ⟨f,rfl⟩ k;rw[show yF aW eW 121 ⟨a,alt,e⟩=some (kH false ⟨a,alt,e⟩)from rfl];generalize kH false ⟨a,alt,e⟩=m';simp only[cf,bu,id];simp[go_sem,ah];exact⟨_,⟨f,rfl⟩,a8 rfl rfl rfl⟩
 have R:¬(c:Int)=121:=aq;simp[go_sem,R];by_cases I:c=122
 ·subst I;simp[go_sem];refine eJ (Pp:=[]) (s:=⟨⟨a,alt,e⟩,J,H⟩) (OE true ⟨a,alt,e⟩ J H r i M) aq aw (by simp[AV.renL,AV.ren]) ?_;rintro v g ρ ⟨f,rfl⟩ k;rw[show yF aW eW 122 ⟨a,alt,e⟩=some (kH true ⟨a,alt,e⟩)from rfl];generalize kH true ⟨a,alt,e⟩=m';simp only[cf,bu,id];simp[go_sem,ah];exact⟨_,⟨f,rfl⟩,a8 rfl rfl rfl⟩
 have aa:¬(c:Int)=122:=aq;simp[go_sem,aa];by_cases G:c=105
 ·subst G;rw[show yF aW eW 105 ⟨a,alt,e⟩=some (kJ (lH (dR ⟨a,alt,e⟩).1) (dR ⟨a,alt,e⟩).2)from rfl];simp[go_sem];refine eJ (Pp:=[]) (s:=⟨⟨a,alt,e⟩,J,H⟩) (zU ⟨a,alt,e⟩ J H (by show a.length≤1000000;omega)) aq aw (by simp[AV.renL]) ?_;rintro v g ρ ⟨rfl,f,rfl⟩ k;by_cases h:(aQ 1 ⟨a,alt,e⟩).e=0
  ·obtain⟨l,x,hm,hp,L⟩:=BI h;simp only at hm L hp;subst L;have n:x∈a:=by rw[hm];simp
   rw[hp,if_pos h];simp only[cf,bu,id];simp[go_sem,AV.ren];refine ag (o8 x (M x n) (i x n)) a9 ?_;simp[go_sem];refine eJ (Pp:=[]) (s:=⟨⟨l,alt,0⟩,f,H⟩) (BH ⟨l,alt,0⟩ f H (lH x)) aq aw (by simp[AV.renL,AV.ren]) ?_;rintro v g ρ rfl k;generalize kJ (lH x) ⟨l,alt,0⟩=m';simp only[cf,bu,id];simp[go_sem,ah];exact⟨_,⟨f,rfl⟩,a8 rfl rfl rfl⟩
  ·have hp:dR ⟨a,alt,e⟩=([],aQ 1 ⟨a,alt,e⟩):=if_neg h;rw[hp,if_neg h];generalize aQ 1 ⟨a,alt,e⟩=o at *;simp only[cf,bu,id];simp[go_sem,AV.ren];refine jh (o8 [] (by intro x U;cases U) aw) rfl (aj (.one (ao (.nil 1))) aD) trivial ?_;simp[go_sem];refine eJ (Pp:=[]) (s:=⟨o,f,H⟩) (BH o f H (lH [])) aq aw (by simp[AV.renL,AV.ren]) ?_;rintro v g ρ rfl k;generalize kJ (lH []) o=m';simp only[cf,bu,id];simp[go_sem,ah];exact⟨_,⟨f,rfl⟩,a8 rfl rfl rfl⟩
 have S:¬(c:Int)=105:=aq;simp[go_sem,S];by_cases w:c=115
 ·subst w;have N:yF aW eW 115 ⟨a,alt,e⟩=some (if(aQ 1 ⟨a,alt,e⟩).e=0 then(if lH (rp ⟨a,alt,e⟩)then eV [rp ⟨a,alt,e⟩] ⟨a,alt,e⟩else⟨a,alt,e⟩)else aQ 1 ⟨a,alt,e⟩):=rfl;simp[go_sem];refine eJ (Pp:=[]) (s:=⟨⟨a,alt,e⟩,J,H⟩) (mo ⟨a,alt,e⟩ J H 1) aq aw (by simp[AV.renL,AV.ren]) ?_;rintro v g ρ ⟨rfl,rfl⟩ k;by_cases h:(aQ 1 ⟨a,alt,e⟩).e=0
  ·rw[if_pos h]at N;rw[N];obtain⟨C,L,h3⟩:=jv h;simp only at C L;subst L;have u:=vX (m:=⟨a,alt,0⟩) C;simp only at u;generalize rp ⟨a,alt,0⟩=x at *;have n:=cr u;rw[h3];simp only[cf,bu,id];simp[go_sem,AV.ren];refine eJ (Pp:=[]) (s:=⟨⟨a,alt,0⟩,J,H⟩) (rA ⟨a,alt,0⟩ J H x u C (by show a.length≤1000000;omega)) aq aw (by simp[AV.renL,AV.ren]) ?_;rintro v g ρ ⟨rfl,rfl⟩ k;simp only[cf,bu,id];simp[go_sem,AV.ren];refine ag (o8 x (M x n) (i x n)) a9 ?_;by_cases ht:lH x=true
   ·simp[go_sem,ht];refine eJ (Pp:=[]) (s:=⟨⟨a,alt,0⟩,J,H⟩) (rA ⟨a,alt,0⟩ J H x u C (by show a.length≤1000000;omega)) aq aw (by simp[AV.renL,AV.ren]) ?_;rintro v g ρ ⟨rfl,rfl⟩ k;simp only[cf,bu,id];simp[go_sem,AV.ren]
    refine c8 [644] [] (args':=[.ptr 0 0 0 1,.d (.ro 1 [[nb (x)]])]) bN id (hJ ⟨a,alt,0⟩ J H (x) (by show a.length≤1000000;omega) (i x n)) (aV 3) (fun j hj=>by show j<676;omega) (by simp[cf,bu,aE,lk]) rfl
     (iH rfl) aw rfl ?_
    rintro v g ρ ⟨q,rfl⟩ k;simp only[cf,bu,eV,id];simp[go_sem,ah];exact⟨⟨⟨a++[x],alt,0⟩,q,H⟩,⟨q,rfl⟩,a8 (by simp[lk]) rfl rfl⟩
   ·simp[go_sem,ht,ah];exact⟨⟨⟨a,alt,0⟩,J,H⟩,⟨J,rfl⟩,a8 rfl rfl rfl⟩
  ·rw[N,if_neg h];generalize aQ 1 ⟨a,alt,e⟩=o at *;simp only[cf,bu,id];simp[go_sem,AV.ren,h,ah];exact⟨_,⟨J,rfl⟩,a8 rfl rfl rfl⟩
 have X:¬(c:Int)=115:=aq;simp[go_sem,X];by_cases K:c=116
 ·subst K;rw[show yF aW eW 116 ⟨a,alt,e⟩=some (eV [cQ (a.length:Int)] ⟨a,alt,e⟩)from rfl];simp[go_sem];refine ag (lD (a.length:Int) aq aq) a9 ?_;have hn:=gq (a.length:Int);generalize cQ (a.length:Int)=y at *;simp[go_sem]
  refine c8 [612] [] (args':=[.ptr 0 0 0 1,.d (.ro 1 [[nb (y)]])]) bN id (hJ ⟨a,alt,e⟩ J H (y) (by show a.length≤1000000;omega) aq) (aV 3) (fun j hj=>by show j<644;omega) (by simp[cf,bu,aE,lk]) rfl
   (iH rfl) aw rfl ?_
  rintro v g ρ ⟨q,rfl⟩ k;simp only[cf,bu,eV,id];simp[go_sem,ah];exact⟨⟨⟨a++[y],alt,e⟩,q,H⟩,⟨q,rfl⟩,a8 (by simp[lk]) rfl rfl⟩
 have V:¬(c:Int)=116:=aq;simp[go_sem,V];by_cases t:c=126
 ·subst t;simp[go_sem];refine eJ (Pp:=[]) (s:=⟨⟨a,alt,e⟩,J,H⟩) (X0 ⟨a,alt,e⟩ J H r U) aq aw (by simp[AV.renL]) ?_;rintro v g ρ ⟨f,rfl⟩ k;rw[show yF aW eW 126 ⟨a,alt,e⟩=some (qM ⟨a,alt,e⟩)from rfl];generalize qM ⟨a,alt,e⟩=m';simp only[cf,bu,id];simp[go_sem,ah];exact⟨_,⟨f,rfl⟩,a8 rfl rfl rfl⟩
 have W:¬(c:Int)=126:=aq;simp[go_sem,W];by_cases F:c=130
 ·subst F;have N:yF aW eW 130 ⟨a,alt,e⟩=some (if(aQ 1 ⟨a,alt,e⟩).e=0 then eV [cQ ((rp ⟨a,alt,e⟩).length:Int)] ⟨a,alt,e⟩else aQ 1 ⟨a,alt,e⟩):=rfl;simp[go_sem];refine eJ (Pp:=[]) (s:=⟨⟨a,alt,e⟩,J,H⟩) (mo ⟨a,alt,e⟩ J H 1) aq aw (by simp[AV.renL,AV.ren]) ?_;rintro v g ρ ⟨rfl,rfl⟩ k;by_cases h:(aQ 1 ⟨a,alt,e⟩).e=0
  ·rw[if_pos h]at N;rw[N];obtain⟨C,L,h3⟩:=jv h;simp only at C L;subst L;have u:=vX (m:=⟨a,alt,0⟩) C;simp only at u;generalize rp ⟨a,alt,0⟩=x at *;have n:=cr u;rw[h3];simp only[cf,bu,id];simp[go_sem,AV.ren];refine eJ (Pp:=[]) (s:=⟨⟨a,alt,0⟩,J,H⟩) (rA ⟨a,alt,0⟩ J H x u C (by show a.length≤1000000;omega)) aq aw (by simp[AV.renL,AV.ren]) ?_;rintro v g ρ ⟨rfl,rfl⟩ k;simp only[cf,bu,id];have ac:=i x n;simp[go_sem,AV.ren,nb];refine ag (lD (x.length:Int) aq aq) a9 ?_;have hn:=gq (x.length:Int);generalize cQ (x.length:Int)=y at *;simp[go_sem]
   refine c8 [740] [] (args':=[.ptr 0 0 0 1,.d (.ro 1 [[nb (y)]])]) bN id (hJ ⟨a,alt,0⟩ J H (y) (by show a.length≤1000000;omega) aq) (aV 3) (fun j hj=>by show j<772;omega) (by simp[cf,bu,aE,lk]) rfl
    (iH rfl) aw rfl ?_
   rintro v g ρ ⟨q,rfl⟩ k;simp only[cf,bu,eV,id];simp[go_sem,ah];exact⟨⟨⟨a++[y],alt,0⟩,q,H⟩,⟨q,rfl⟩,a8 (by simp[lk]) rfl rfl⟩
  ·rw[N,if_neg h];generalize aQ 1 ⟨a,alt,e⟩=o at *;simp only[cf,bu,id];simp[go_sem,AV.ren,h,ah];exact⟨_,⟨J,rfl⟩,a8 rfl rfl rfl⟩
 have Z:¬(c:Int)=130:=aq;simp[go_sem,Z];by_cases z:c=135
 ·subst z;rw[show yF aW eW 135 ⟨a,alt,e⟩=some (eV [js (iq ⟨a,alt,e⟩).1] (iq ⟨a,alt,e⟩).2)from rfl];simp[go_sem];refine eJ (Pp:=[]) (s:=⟨⟨a,alt,e⟩,J,H⟩) (OB ⟨a,alt,e⟩ J H r i M) aq aw (by simp[AV.renL]) ?_;rintro v g ρ ⟨rfl,f,rfl⟩ k;have ab:(iq ⟨a,alt,e⟩).2.main.length≤1000:=OG ⟨a,alt,e⟩ r;generalize iq ⟨a,alt,e⟩=p at *;obtain⟨b,o⟩:=p;simp only at ab;simp only[cf,bu,id];simp[go_sem,AV.ren];refine ag (nQ b) a9 ?_;have hn:(js b).length≤1:=by cases b<;>decide
  generalize js b=y at *;simp[go_sem]
  refine c8 [708] [] (args':=[.ptr 0 0 0 1,.d (.ro 1 [[nb (y)]])]) bN id (hJ o f H (y) aq aq) (aV 3) (fun j hj=>by show j<740;omega) (by simp[cf,bu,aE,lk]) rfl
   (iH rfl) aw rfl ?_
  rintro v g ρ ⟨q,rfl⟩ k;simp only[cf,bu,eV,id];simp[go_sem,ah];exact⟨⟨⟨o.main++[y],o.alt,o.e⟩,q,H⟩,⟨q,rfl⟩,a8 (by simp[lk]) rfl rfl⟩
 have T:¬(c:Int)=135:=aq;simp[go_sem,T];by_cases A:c=136
 ·subst A;rw[show yF aW eW 136 ⟨a,alt,e⟩=some (kJ (iq ⟨a,alt,e⟩).1 (iq ⟨a,alt,e⟩).2)from rfl];simp[go_sem];refine eJ (Pp:=[]) (s:=⟨⟨a,alt,e⟩,J,H⟩) (OB ⟨a,alt,e⟩ J H r i M) aq aw (by simp[AV.renL]) ?_;rintro v g ρ ⟨rfl,f,rfl⟩ k;generalize iq ⟨a,alt,e⟩=p at *;obtain⟨b,o⟩:=p;simp only[cf,bu,id];simp[go_sem,AV.ren];refine eJ (Pp:=[]) (s:=⟨o,f,H⟩) (BH o f H b) aq aw (by simp[AV.renL,AV.ren]) ?_;rintro v g ρ rfl k;generalize kJ b o=m';simp only[cf,bu,id];simp[go_sem,ah];exact⟨_,⟨f,rfl⟩,a8 rfl rfl rfl⟩
 have Y:¬(c:Int)=136:=aq;simp[go_sem,Y];by_cases E:c=168
 ·subst E;simp[go_sem];refine eJ (Pp:=[]) (s:=⟨⟨a,alt,e⟩,J,H⟩) (OD _ aW (fun x h=>mV x aq) (fun x=>bf x) ⟨a,alt,e⟩ J H r i) aq aw (by simp[AV.renL,AV.ren]) ?_;rintro v g ρ ⟨f,rfl⟩ k;rw[show yF aW eW 168 ⟨a,alt,e⟩=some (mi aW ⟨a,alt,e⟩)from rfl];generalize mi aW ⟨a,alt,e⟩=m';simp only[cf,bu,id];simp[go_sem,ah];exact⟨_,⟨f,rfl⟩,a8 rfl rfl rfl⟩
 have Q:¬(c:Int)=168:=aq;simp[go_sem,Q];by_cases B:c=170
 ·subst B;simp[go_sem];refine eJ (Pp:=[]) (s:=⟨⟨a,alt,e⟩,J,H⟩) (OD _ eW (fun x h=>TA x h) (fun x=>OF x) ⟨a,alt,e⟩ J H r i) aq aw (by simp[AV.renL,AV.ren]) ?_;rintro v g ρ ⟨f,rfl⟩ k;rw[show yF aW eW 170 ⟨a,alt,e⟩=some (mi eW ⟨a,alt,e⟩)from rfl];generalize mi eW ⟨a,alt,e⟩=m';simp only[cf,bu,id];simp[go_sem,ah];exact⟨_,⟨f,rfl⟩,a8 rfl rfl rfl⟩
 have O:¬(c:Int)=170:=aq;have hn:yF aW eW c ⟨a,alt,e⟩=none:=by simp[yF,D,I,G,w,K,t,F,z,A,E,B]
 rw[hn];simp[go_sem,O];exact⟨⟨⟨a,alt,e⟩,J,H⟩,⟨J,rfl⟩,a8 rfl rfl rfl⟩
end Go.Proofs.YtmfnimjnneflnaaGreat
