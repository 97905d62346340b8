/-
 Part 8 of what the claim rests on.
-/
import Derived.Test.YtmfnimjnneflnaaGreatY5
import Derived.Test.YtmfnimjnneflnaaGreatY6
set_option linter.unusedVariables false
set_option linter.unusedSimpArgs false
set_option maxRecDepth 100000
set_option maxHeartbeats 16000000
namespace Go.Sha
structure Ip where
 hash:List Nat
 idx:Nat
 seq:Nat
 wit:List (List Nat)
structure Tn where
 ver:Nat
 ins:List Ip
 outs:List (Nat×List Nat)
 lock:Nat
def Ip.ok(i:Ip):Prop:=i.hash.length=32∧i.idx<4294967296∧i.seq<4294967296
def Tn.ok(t:Tn):Prop:=t.ver<4294967296∧t.lock<4294967296∧(∀i,i∈t.ins→i.ok)∧(∀o,o∈t.outs→o.1<18446744073709551616)
def db(n:Nat)(xs:List (List Nat)):Bool:=xs.all fun x=>decide (x.length≤n)
def bq(n:Nat)(os:List (Nat×List Nat)):Bool:=os.all fun o=>decide (o.2.length≤n)
def d5(m n:Nat)(is:List Ip):Bool:=is.all fun i=>decide (i.wit.length≤m)&&db n i.wit
def dK(a m n:Nat)(t:Tn):Bool:=decide (t.ins.length≤a)&&(decide (t.outs.length≤a)&&(bq n t.outs&&d5 m n t.ins))
end Go.Sha
namespace Go.Proofs.YtmfnimjnneflnaaGreat
open Go.Am Go.Sha
def eO(o:Nat×List Nat):List DV:=[.int .u64 (o.1:Int),nb o.2]
def eI(i:Ip):List DV:=cd i.hash++[.int .u32 (i.idx:Int),.int .u32 (i.seq:Int),.ro 1 (i.wit.map bp)]
def eT(t:Tn):List AV:=[.d (.int .u32 (t.ver:Int)),.d (.ro 35 (t.ins.map eI)),.d (.ro 2 (t.outs.map eO)),.d (.int .u32 (t.lock:Int))]
def eS(t:Tn)(n:Int)(coins:List (Nat×List Nat)):List AV:=[.d (.int .u32 (t.ver:Int)),.d (.ro 35 (t.ins.map eI)),.d (.ro 2 (t.outs.map eO)),.d (.int .u32 (t.lock:Int)),.d (.int .i64 n),.d (.ro 2 (coins.map eO))]
theorem ny{i:Ip}(h:i.hash.length=32):(eI i).drop 34=[.ro 1 (i.wit.map bp)]:=by
 unfold eI;rw[List.drop_append,c_ (by rw[da];omega),da,h];rfl
theorem J9{i:Ip}(h:i.hash.length=32):(eI i).drop 33=[.int .u32 (i.seq:Int),.ro 1 (i.wit.map bp)]:=by
 unfold eI;rw[List.drop_append,c_ (by rw[da];omega),da,h];rfl
theorem Nv{i:Ip}(h:i.hash.length=32):(eI i).drop 32=[.int .u32 (i.idx:Int),.int .u32 (i.seq:Int),.ro 1 (i.wit.map bp)]:=by
 unfold eI;rw[List.drop_append,c_ (by rw[da];omega),da,h];rfl
theorem lJ{i:Ip}(h:i.hash.length=32):(eI i).length=35:=by simp[eI,da,h]
theorem dQ{α:Type}{l:List α}{k:Nat}{p:α→Bool}{x:α}{b:Bool}(hd:l.drop k=x::l.drop (k+1))(h:(l.drop k).all p=b)(hx:p x=true):(l.drop (k+1)).all p=b:=by
 rw[hd,List.all_cons,hx,Bool.true_and]at h;exact h
theorem df{α:Type}{l:List α}{k:Nat}{p:α→Bool}{x:α}{b:Bool}(hd:l.drop k=x::l.drop (k+1))(h:(l.drop k).all p=b)(hx:p x=false):b=false:=by
 rw[hd,List.all_cons,hx,Bool.false_and]at h;exact h.symm
theorem dR{α:Type}{l:List α}{p:α→Bool}{b:Bool}(h:(l.drop l.length).all p=b):b=true:=by
 rw[List.drop_length]at h;exact h.symm
theorem ue (t:Tn) (ht:t.ok):au Tryz.prog 67 [.agg (eT t)] (fun r=>r=.d (.bool (dK 6 6 600 t))):=by
 obtain⟨_,_,hi,_⟩:=ht;refine bu Tryz.func67 Tryz.ntmps67 (rs:=[.tmp 2]) (by simp[AV.deep,AV.deep1,eT]) ?_;by_cases h1:t.ins.length≤6
 ·by_cases h2:t.outs.length≤6
  ·have i1:¬ 6<(t.ins.length:Int):=aq;have i2:¬ 6<(t.outs.length:Int):=aq;have hw:dK 6 6 600 t=(bq 600 t.outs && d5 6 600 t.ins):=by simp [dK,h1,h2]
   rw[hw];simp[go_sem,eT,i1,i2]
   refine am (fun k:Nat=>⟨[(1,.ptr 0 0 0 1),(3,.d (.int .i64 (k:Int)))],[(0,⟨26,4,[eT t]⟩)],2000⟩)
    (fun k=>k≤t.outs.length∧bq 600 (t.outs.drop k)=bq 600 t.outs) (fun k=>t.outs.length-k) 0 ⟨aq,rfl⟩ (by
     simp[ak,ah,fv,lk,AV.low,AV.low1,eT]) ?_
   rintro k⟨hk,ho⟩;simp only[eT];simp only[go_sem,Nat.reduceEqDiff,Nat.reduceAdd,Nat.reduceLT,↓reduceIte,Nat.reduceMul];refine⟨fun h=>?_,fun h=>?_⟩
   ·obtain⟨o,ho1,hd⟩:=aL (l:=t.outs) (k:=k) aq;have w3:=al (k:=k) aq;by_cases hx:o.2.length≤600
    ·have j1:¬ 600<(o.2.length:Int):=aq;simp[go_sem,ho1,eO,nb,j1,w3];refine aj (k+1) ⟨aq,dQ hd ho (by simpa using hx)⟩ aq ?_;simp[ak,ah,fv,lk,AV.low,AV.low1,eT]
    ·have j1:600<(o.2.length:Int):=aq;have:=df hd ho (by simpa using hx);simp[go_sem,ho1,eO,nb,j1];exact ag a9 (by rw[this];rfl)
   ·have hkl:k=t.outs.length:=aq;subst hkl;have hO:bq 600 t.outs=true:=dR ho;rw[hO,Bool.true_and];clear ho h;simp[go_sem]
    refine am (fun k:Nat=>⟨[(1,.ptr 0 0 0 1),(4,.d (.int .i64 (k:Int)))],[(0,⟨26,4,[eT t]⟩)],4000⟩)
     (fun k=>k≤t.ins.length∧d5 6 600 (t.ins.drop k)=d5 6 600 t.ins) (fun k=>t.ins.length-k) 0 ⟨aq,rfl⟩ (by
      simp[ak,ah,fv,lk,AV.low,AV.low1,eT]) ?_
    rintro k⟨hk,ho⟩;simp only[eT];simp only[go_sem,Nat.reduceEqDiff,Nat.reduceAdd,Nat.reduceLT,↓reduceIte,Nat.reduceMul];refine⟨fun h=>?_,fun h=>?_⟩
    ·obtain⟨i,hi1,hd⟩:=aL (l:=t.ins) (k:=k) aq;have hi32:=(hi i (cr hi1)).1;by_cases hx:i.wit.length≤6
     ·have j1:¬ 6<(i.wit.length:Int):=aq;simp[go_sem,hi1,ny hi32,j1]
      refine am (fun j:Nat=>⟨[(1,.ptr 0 0 0 1),(4,.d (.int .i64 (k:Int))),(5,.d (.int .i64 (j:Int)))],[(0,⟨26,4,[eT t]⟩)],6000⟩)
       (fun j=>j≤i.wit.length∧db 600 (i.wit.drop j)=db 600 i.wit) (fun j=>i.wit.length-j) 0 ⟨aq,rfl⟩ (by
        simp[ak,ah,fv,lk,AV.low,AV.low1,eT]) ?_
      rintro j⟨hj,ho2⟩;simp only[eT];simp[go_sem,hi1,ny hi32];refine⟨fun h'=>?_,fun h'=>?_⟩
      ·obtain⟨x,hx1,hd2⟩:=aL (l:=i.wit) (k:=j) aq;have w4:=al (k:=j) aq;by_cases hy:x.length≤600
       ·have j2:¬ 600<(x.length:Int):=aq;simp[go_sem,hi1,ny hi32,hx1,bp,nb,j2,w4];intro _;refine aj (j+1) ⟨aq,dQ hd2 ho2 (by simpa using hy)⟩ aq ?_;simp[ak,ah,fv,lk,AV.low,AV.low1,eT]
       ·have j2:600<(x.length:Int):=aq;have h3:=df hd2 ho2 (by simpa using hy);have:=df hd ho (by rw[show db 600 i.wit=false from h3];simp);simp[go_sem,hi1,ny hi32,hx1,bp,nb,j2];refine⟨?_,fun h=>aq⟩;exact ag a9 (by rw[show d5 6 600 t.ins=false from this])
      ·have hjl:j=i.wit.length:=aq;subst hjl;have h3:db 600 i.wit=true:=dR ho2;have w4:=al (k:=k) aq;simp[go_sem,w4];refine aj (k+1) ⟨aq,dQ hd ho (by rw[h3];simpa using hx)⟩ aq ?_;simp[ak,ah,fv,lk,AV.low,AV.low1,eT]
     ·have j1:6<(i.wit.length:Int):=aq;have:=df hd ho (by simp;omega);simp[go_sem,hi1,ny hi32,j1];exact ag a9 (by rw[show d5 6 600 t.ins=false from this])
    ·have hkl:k=t.ins.length:=aq;subst hkl;have hI:d5 6 600 t.ins=true:=dR ho;simp[go_sem];exact ag a9 (by rw[hI])
  ·have i1:¬ 6<(t.ins.length:Int):=aq;have i2:6<(t.outs.length:Int):=aq;simp[go_sem,eT,i1,i2];exact ag a9 (by simp[dK,h2])
 ·have i1:6<(t.ins.length:Int):=aq;simp[go_sem,eT,i1];exact ag a9 (by simp[dK,h1])
theorem uf (t:Tn) (ht:t.ok):au Tryz.prog 107 [.agg (eT t)] (fun r=>r=.d (.bool (dK 20 30 1000 t))):=by
 obtain⟨_,_,hi,_⟩:=ht;refine bu Tryz.func107 Tryz.ntmps107 (rs:=[.tmp 2]) (by simp[AV.deep,AV.deep1,eT]) ?_;by_cases h1:t.ins.length≤20
 ·by_cases h2:t.outs.length≤20
  ·have i1:¬ 20<(t.ins.length:Int):=aq;have i2:¬ 20<(t.outs.length:Int):=aq;have hw:dK 20 30 1000 t=(bq 1000 t.outs && d5 30 1000 t.ins):=by simp [dK,h1,h2]
   rw[hw];simp[go_sem,eT,i1,i2]
   refine am (fun k:Nat=>⟨[(1,.ptr 0 0 0 1),(3,.d (.int .i64 (k:Int)))],[(0,⟨26,4,[eT t]⟩)],2000⟩)
    (fun k=>k≤t.outs.length∧bq 1000 (t.outs.drop k)=bq 1000 t.outs) (fun k=>t.outs.length-k) 0 ⟨aq,rfl⟩ (by
     simp[ak,ah,fv,lk,AV.low,AV.low1,eT]) ?_
   rintro k⟨hk,ho⟩;simp only[eT];simp only[go_sem,Nat.reduceEqDiff,Nat.reduceAdd,Nat.reduceLT,↓reduceIte,Nat.reduceMul];refine⟨fun h=>?_,fun h=>?_⟩
   ·obtain⟨o,ho1,hd⟩:=aL (l:=t.outs) (k:=k) aq;have w3:=al (k:=k) aq;by_cases hx:o.2.length≤1000
    ·have j1:¬ 1000<(o.2.length:Int):=aq;simp[go_sem,ho1,eO,nb,j1,w3];refine aj (k+1) ⟨aq,dQ hd ho (by simpa using hx)⟩ aq ?_;simp[ak,ah,fv,lk,AV.low,AV.low1,eT]
    ·have j1:1000<(o.2.length:Int):=aq;have:=df hd ho (by simpa using hx);simp[go_sem,ho1,eO,nb,j1];exact ag a9 (by rw[this];rfl)
   ·have hkl:k=t.outs.length:=aq;subst hkl;have hO:bq 1000 t.outs=true:=dR ho;rw[hO,Bool.true_and];clear ho h;simp[go_sem]
    refine am (fun k:Nat=>⟨[(1,.ptr 0 0 0 1),(4,.d (.int .i64 (k:Int)))],[(0,⟨26,4,[eT t]⟩)],4000⟩)
     (fun k=>k≤t.ins.length∧d5 30 1000 (t.ins.drop k)=d5 30 1000 t.ins) (fun k=>t.ins.length-k) 0 ⟨aq,rfl⟩ (by
      simp[ak,ah,fv,lk,AV.low,AV.low1,eT]) ?_
    rintro k⟨hk,ho⟩;simp only[eT];simp only[go_sem,Nat.reduceEqDiff,Nat.reduceAdd,Nat.reduceLT,↓reduceIte,Nat.reduceMul];refine⟨fun h=>?_,fun h=>?_⟩
    ·obtain⟨i,hi1,hd⟩:=aL (l:=t.ins) (k:=k) aq;have hi32:=(hi i (cr hi1)).1;by_cases hx:i.wit.length≤30
     ·have j1:¬ 30<(i.wit.length:Int):=aq;simp[go_sem,hi1,ny hi32,j1]
      refine am (fun j:Nat=>⟨[(1,.ptr 0 0 0 1),(4,.d (.int .i64 (k:Int))),(5,.d (.int .i64 (j:Int)))],[(0,⟨26,4,[eT t]⟩)],6000⟩)
       (fun j=>j≤i.wit.length∧db 1000 (i.wit.drop j)=db 1000 i.wit) (fun j=>i.wit.length-j) 0 ⟨aq,rfl⟩ (by
        simp[ak,ah,fv,lk,AV.low,AV.low1,eT]) ?_
      rintro j⟨hj,ho2⟩;simp only[eT];simp[go_sem,hi1,ny hi32];refine⟨fun h'=>?_,fun h'=>?_⟩
      ·obtain⟨x,hx1,hd2⟩:=aL (l:=i.wit) (k:=j) aq;have w4:=al (k:=j) aq;by_cases hy:x.length≤1000
       ·have j2:¬ 1000<(x.length:Int):=aq;simp[go_sem,hi1,ny hi32,hx1,bp,nb,j2,w4];intro _;refine aj (j+1) ⟨aq,dQ hd2 ho2 (by simpa using hy)⟩ aq ?_;simp[ak,ah,fv,lk,AV.low,AV.low1,eT]
       ·have j2:1000<(x.length:Int):=aq;have h3:=df hd2 ho2 (by simpa using hy);have:=df hd ho (by rw[show db 1000 i.wit=false from h3];simp);simp[go_sem,hi1,ny hi32,hx1,bp,nb,j2];refine⟨?_,fun h=>aq⟩;exact ag a9 (by rw[show d5 30 1000 t.ins=false from this])
      ·have hjl:j=i.wit.length:=aq;subst hjl;have h3:db 1000 i.wit=true:=dR ho2;have w4:=al (k:=k) aq;simp[go_sem,w4];refine aj (k+1) ⟨aq,dQ hd ho (by rw[h3];simpa using hx)⟩ aq ?_;simp[ak,ah,fv,lk,AV.low,AV.low1,eT]
     ·have j1:30<(i.wit.length:Int):=aq;have:=df hd ho (by simp;omega);simp[go_sem,hi1,ny hi32,j1];exact ag a9 (by rw[show d5 30 1000 t.ins=false from this])
    ·have hkl:k=t.ins.length:=aq;subst hkl;have hI:d5 30 1000 t.ins=true:=dR ho;simp[go_sem];exact ag a9 (by rw[hI])
  ·have i1:¬ 20<(t.ins.length:Int):=aq;have i2:20<(t.outs.length:Int):=aq;simp[go_sem,eT,i1,i2];exact ag a9 (by simp[dK,h2])
 ·have i1:20<(t.ins.length:Int):=aq;simp[go_sem,eT,i1];exact ag a9 (by simp[dK,h1])
theorem vO(x:List Nat):au Tryz.prog 142 [.d (nb x)] (fun r=>r=.d (.bool (decide (1000<x.length)))):=by
 refine bu Tryz.func142 Tryz.ntmps142 (rs:=[.tmp 2]) a9 ?_;simp[go_sem,nb];refine ag a9 ?_;have:((1000:Int)<(x.length:Int))↔1000<x.length:=aq;simp[this]
theorem xU(o:Nat×List Nat):au Tryz.prog 90 [.agg ((eO o).map .d)] (fun r=>r=.d (.bool (decide (1000<o.2.length)))):=by
 refine bu Tryz.func90 Tryz.ntmps90 (rs:=[.tmp 2]) (by simp[AV.deep,AV.deep1,eO]) ?_;simp[go_sem,eO,nb];refine ag a9 ?_;have:((1000:Int)<(o.2.length:Int))↔1000<o.2.length:=aq;simp[this]
theorem xW(xs:List (List Nat))(hl:xs.length≤1000000000):au Tryz.prog 173 [.d (.ro 1 (xs.map bp)),.fn 142 []] (fun r=>∃n:Int,r=.d (.int .i64 n)∧decide (0≤n)=!db 1000 xs):=by
 refine bu Tryz.func173 Tryz.ntmps173 (rs:=[.tmp 4]) a9 ?_;simp[go_sem]
 refine am (fun k:Nat=>⟨[(0,.d (.ro 1 (xs.map bp))),(1,.fn 142 []),(7,.d (.int .i64 (xs.length:Int))),(8,.d (.int .i64 (k:Int)))],[],1000⟩)
  (fun k=>k≤xs.length∧db 1000 (xs.drop k)=db 1000 xs) (fun k=>xs.length-k) 0 ⟨aq,rfl⟩ (by
   simp[ak,ah,fv,lk,AV.low,AV.low1]) ?_
 rintro k⟨hk,ho⟩;simp only[go_sem,Nat.reduceEqDiff,Nat.reduceAdd,Nat.reduceLT,↓reduceIte,Nat.reduceMul];refine⟨fun h=>?_,fun h=>?_⟩
 ·obtain⟨x,hx1,hd⟩:=aL (l:=xs) (k:=k) aq;have w3:=al (k:=k) aq;simp[go_sem,hx1,bp];refine ae (vO x) a9 ?_;by_cases hx:x.length≤1000
  ·have j1:¬ 1000<x.length:=aq;simp[go_sem,j1,w3];refine aj (k+1) ⟨aq,dQ hd ho (by simpa using hx)⟩ aq ?_;simp[ak,ah,fv,lk,AV.low,AV.low1]
  ·have j1:1000<x.length:=aq;have:=df hd ho (by simpa using hx);simp[go_sem,j1];exact ag a9 ⟨_,rfl,by rw[show db 1000 xs=false from this];simp⟩
 ·have hkl:k=xs.length:=aq;subst hkl;have hI:db 1000 xs=true:=dR ho;simp[go_sem];exact ag a9 ⟨_,rfl,by rw[hI];rfl⟩
theorem qh(xs:List (List Nat))(hl:xs.length≤1000000000):au Tryz.prog 143 [.d (.ro 1 (xs.map bp)),.fn 142 []] (fun r=>r=.d (.bool (!db 1000 xs))):=by
 refine bu Tryz.func143 Tryz.ntmps143 (rs:=[.tmp 4]) a9 ?_;simp[go_sem];refine Fb (xW xs hl) a9 ?_;rintro r⟨n,rfl,hn⟩;rw[←hn];simp[go_sem];exact ag a9 rfl
theorem xX(xs:List (Nat×List Nat))(hl:xs.length≤1000000000):au Tryz.prog 136 [.d (.ro 2 (xs.map eO)),.fn 90 []] (fun r=>∃n:Int,r=.d (.int .i64 n)∧decide (0≤n)=!bq 1000 xs):=by
 refine bu Tryz.func136 Tryz.ntmps136 (rs:=[.tmp 4]) a9 ?_;simp[go_sem]
 refine am (fun k:Nat=>⟨[(0,.d (.ro 2 (xs.map eO))),(1,.fn 90 []),(7,.d (.int .i64 (xs.length:Int))),(8,.d (.int .i64 (k:Int)))],[],1000⟩)
  (fun k=>k≤xs.length∧bq 1000 (xs.drop k)=bq 1000 xs) (fun k=>xs.length-k) 0 ⟨aq,rfl⟩ (by
   simp[ak,ah,fv,lk,AV.low,AV.low1]) ?_
 rintro k⟨hk,ho⟩;simp only[go_sem,Nat.reduceEqDiff,Nat.reduceAdd,Nat.reduceLT,↓reduceIte,Nat.reduceMul];refine⟨fun h=>?_,fun h=>?_⟩
 ·obtain⟨x,hx1,hd⟩:=aL (l:=xs) (k:=k) aq;have w3:=al (k:=k) aq;have hrow:(eO x).length=2:=rfl;simp[go_sem,hx1,hrow];refine ae (xU x) (by simp[AV.deep,AV.deep1,eO]) ?_;by_cases hx:x.2.length≤1000
  ·have j1:¬ 1000<x.2.length:=aq;simp[go_sem,j1,w3];refine aj (k+1) ⟨aq,dQ hd ho (by simpa using hx)⟩ aq ?_;simp[ak,ah,fv,lk,AV.low,AV.low1]
  ·have j1:1000<x.2.length:=aq;have:=df hd ho (by simpa using hx);simp[go_sem,j1];exact ag a9 ⟨_,rfl,by rw[show bq 1000 xs=false from this];simp⟩
 ·have hkl:k=xs.length:=aq;subst hkl;have hI:bq 1000 xs=true:=dR ho;simp[go_sem];exact ag a9 ⟨_,rfl,by rw[hI];rfl⟩
theorem qi(xs:List (Nat×List Nat))(hl:xs.length≤1000000000):au Tryz.prog 91 [.d (.ro 2 (xs.map eO)),.fn 90 []] (fun r=>r=.d (.bool (!bq 1000 xs))):=by
 refine bu Tryz.func91 Tryz.ntmps91 (rs:=[.tmp 4]) a9 ?_;simp[go_sem];refine Fb (xX xs hl) a9 ?_;rintro r⟨n,rfl,hn⟩;rw[←hn];simp[go_sem];exact ag a9 rfl
end Go.Proofs.YtmfnimjnneflnaaGreat
namespace Go.Sha
def a8(x:List Nat):List Nat:=ao x.length++x
def jm(xs:List (List Nat)):List Nat:=(xs.map a8).flatten
def eg(xs:List (List Nat)):List Nat:=ao xs.length++jm xs
def ug(i:Ip):List Nat:=i.hash++(le i.idx 4++le i.seq 4)
def mo(l:List Ip):List Nat:=(l.map ug).flatten
def dS(o:Nat×List Nat):List Nat:=le o.1 8++a8 o.2
def fO(l:List (Nat×List Nat)):List Nat:=(l.map dS).flatten
def fP(t:Tn):List Nat:=le t.ver 4++(ao t.ins.length++(mo t.ins++(ao t.outs.length++(fO t.outs++le t.lock 4))))
def sk(l:List Ip):List Nat:=(l.map fun i=>eg i.wit).flatten
def dh(t:Tn):List Nat:=fP t++sk t.ins
def Fo(xs:List (List Nat)):Prop:=xs.length≤6∧∀x,x∈xs→x.length≤600
theorem gp(x:List Nat):(a8 x).length≤5+x.length:=by
 have:=bz x.length;unfold a8;rw[b_];omega
theorem nA:∀(xs:List (List Nat)),(∀x,x∈xs→x.length≤600)→(jm xs).length≤605*xs.length
 |[],_=>by simp[jm]
 |x::r,h=>by
  have ih:=nA r fun y hy=>h y (cS _ hy);have hx:=h x (dz ..);have h1:=gp x;have e:(jm (x::r)).length=(a8 x).length+(jm r).length:=by simp[jm]
  rw[e,List.length_cons];omega
theorem pu{xs:List (List Nat)}(h:Fo xs):(eg xs).length≤3635:=by
 have h1:=nA xs h.2;have h2:=bz xs.length;have h3:=h.1;unfold eg;rw[b_];omega
end Go.Sha
namespace Go.Proofs.YtmfnimjnneflnaaGreat
open Go.Am Go.Sha
theorem xY(b:List Nat)(x n:Nat)(hb:b.length≤1000000)(hx:x<18446744073709551616)(hn:n≤8):cp Tryz.prog 145 0 [] [.d (nb b),.d (.int .u64 (x:Int)),.d (.int .i64 (n:Int))] (nq (b++le x n)):=by
 refine bw Tryz.func145 (by kernel_rfl) rfl Tryz.ntmps145 (rs:=[.tmp 6]) rfl (qb rfl) (by decide) ?_;have w1:IntKind.i64.wrap ((b.length:Int)+(n:Int))=((b.length+n:Nat):Int):=by rw[IntWalk.i64_in _ aq];omega
 have hr:List.replicate b.length [AV.d (.int .u8 0)]=rb (List.replicate b.length 0):=by simp[rb]
 simp only[go_sem,Nat.reduceEqDiff,Nat.reduceAdd,Nat.reduceLT,↓reduceIte,Nat.reduceMul,w1,nb,List.length_map,Int.toNat_natCast,hr];simp[go_sem,dk,aN];rw[j8];refine⟨aq,aq,aq,aq,?_⟩
 refine am (fun k:Nat=>⟨[(7,.own 225 0 (b++le x k).length (b++le x k).length),(8,.d (.int .u64 ((c8 (8*k) x:Nat):Int))),(20,.d (.int .i64 (n:Int))),(21,.d (.int .i64 (k:Int)))],[(225,⟨5,1,rb (b++le x k)⟩)],545⟩)
  (fun k=>k≤n) (fun k=>n-k) 0 aq (by
   simp[ak,ah,fv,lk,AV.low,AV.low1,le,c8]
   exact aK _ _) ?_
 intro k hk;have hl:(b++le x k).length=b.length+k:=by rw[b_,aE]
 have hs:rb (b++le x k)++[[AV.d (.int .u8 ((t8 (c8 (8*k) x):Nat):Int))]]=rb (b++le x (k+1)):=by rw[fh,cA];rfl
 have w5:=al (k:=k) aq;simp only[go_sem,Nat.reduceEqDiff,Nat.reduceAdd,Nat.reduceLT,↓reduceIte];refine⟨fun h=>?_,fun h=>?_⟩
 ·simp[go_sem,eP,aN,hs,aE,IntKind.bits,tY,np,w5];refine⟨aq,?_⟩;refine aj (k+1) aq aq ?_;simp[ak,ah,fv,lk,AV.low,AV.low1,aE];exact⟨aq,aK _ _⟩
 ·have hkn:k=n:=aq;subst hkn;exact⟨225,by rw[b_],rfl⟩
theorem eV(b:List Nat)(x:Nat)(hb:b.length≤1000000)(hx:x<4294967296):cp Tryz.prog 59 0 [] [.d (nb b),.d (.int .u32 (x:Int))] (nq (b++le x 4)):=by
 refine bw Tryz.func59 (by kernel_rfl) rfl Tryz.ntmps59 (rs:=[.tmp 4]) rfl (qb rfl) (by decide) ?_;simp[go_sem];refine aR [] (po b x 4 hb hx aq) rfl aw aw aw (by simp[AV.renL,AV.ren]) ?_;rintro r hp'⟨rfl,h0⟩;refine⟨[(225,0)],rfl,?_⟩;simp[go_sem,bG,bE,h0,Blk.ren,aT,bV,AV.renL,AV.ren,bF,ar,nq]
theorem xZ(b:List Nat)(x:Nat)(hb:b.length≤1000000)(hx:x<18446744073709551616):cp Tryz.prog 103 0 [] [.d (nb b),.d (.int .u64 (x:Int))] (nq (b++le x 8)):=by
 refine bw Tryz.func103 (by kernel_rfl) rfl Tryz.ntmps103 (rs:=[.tmp 4]) rfl (qb rfl) (by decide) ?_;simp[go_sem];refine aR [] (xY b x 8 hb hx aq) rfl aw aw aw (by simp[AV.renL,AV.ren]) ?_;rintro r hp'⟨I,rfl,h0⟩;refine⟨[(I,0)],by simp[fB,gw],?_⟩;simp[go_sem,bG,bE,h0,Blk.ren,aT,bV,AV.renL,AV.ren,bF,ar,nq]
theorem kS(b:List Nat)(x:Nat)(hb:b.length≤1000000)(hx:x<4294967296):au Tryz.prog 59 [.d (nb b),.d (.int .u32 (x:Int))] (fun r=>r=.d (nb (b++le x 4))):=iu (eV b x hb hx) a9
theorem nB(b:List Nat)(x:Nat)(hb:b.length≤1000000)(hx:x<18446744073709551616):au Tryz.prog 103 [.d (nb b),.d (.int .u64 (x:Int))] (fun r=>r=.d (nb (b++le x 8))):=iu (xZ b x hb hx) a9
theorem nC(b:List Nat)(n:Nat)(hb:b.length≤100000)(hn:n<4294967296):au Tryz.prog 109 [.d (nb b),.d (.int .u64 (n:Int))] (fun r=>r=.d (nb (b++ao n))):=iu (jj b n hb hn) a9
theorem mi(b:List Nat)(n:Nat)(hb:b.length≤1000000)(hn:n<4294967296):au Tryz.prog 175 [.d (nb b),.d (.int .u64 (n:Int))] (fun r=>r=.d (nb (b++ao n))):=iu (iL b n hb hn) a9
def cM{α:Type}(f:α→List Nat)(l:List α)(k:Nat):List Nat:=((l.drop k).map f).flatten
theorem b8{α:Type}{f:α→List Nat}{l:List α}{k:Nat}{x:α}{B R:List Nat}(hd:l.drop k=x::l.drop (k+1))(h:B++cM f l k=R):(B++f x)++cM f l (k+1)=R:=by
 unfold cM at *;rw[hd,List.map_cons,List.flatten_cons,←cA]at h;exact h
theorem ce{α:Type}{f:α→List Nat}{l:List α}{B R:List Nat}(h:B++cM f l l.length=R):B=R:=by
 unfold cM at h;rw[List.drop_length]at h
 simpa using h
theorem uh(b:List Nat)(xs:List (List Nat))(hb:b.length≤50000)(hx:Fo xs):au Tryz.prog 94 [.d (nb b),.d (.ro 1 (xs.map bp))] (fun r=>r=.d (nb (b++eg xs))):=by
 refine bu Tryz.func94 Tryz.ntmps94 (rs:=[.tmp 4]) a9 ?_;obtain⟨hl,hx⟩:=hx;have hp5:=bz xs.length;have w:IntKind.u64.wrap (xs.length:Int)=(xs.length:Int):=by rw[fE];omega
 have hR0:(b++ao xs.length)++cM a8 xs 0=b++eg xs:=by rw[cA];rfl
 generalize b++eg xs=R at *;simp[go_sem,w];refine ae (nC b xs.length aq aq) a9 ?_;have hB0:(b++ao xs.length).length≤50005:=by rw[b_];omega
 generalize b++ao xs.length=B0 at *;simp[go_sem]
 refine am (fun t:Nat×List Nat=>⟨[(5,.d (nb t.2)),(13,.d (.ro 1 (xs.map bp))),(14,.d (.int .i64 (xs.length:Int))),(15,.d (.int .i64 (t.1:Int)))],[],1000⟩)
  (fun t=>t.1≤xs.length∧t.2.length≤50005+605*t.1∧t.2++cM a8 xs t.1=R) (fun t=>xs.length-t.1) (0,B0) ⟨aw,by simp;omega,hR0⟩ (by
   simp[ak,ah,fv,lk,AV.low,AV.low1,nb]) ?_
 rintro⟨k,B⟩⟨hk,hBl,hR⟩;simp only at hk hBl hR;simp only[go_sem,Nat.reduceEqDiff,Nat.reduceAdd,Nat.reduceLT,↓reduceIte,Nat.reduceMul];refine⟨fun h=>?_,fun h=>?_⟩
 ·obtain⟨x,hx1,hd⟩:=aL (l:=xs) (k:=k) aq;have hxl:=hx x (cr hx1);have w3:=al (k:=k) aq;have hbl:=gp x;simp[go_sem,hx1,bp];refine ae (fG B x aq aq) a9 ?_;simp[go_sem,w3];refine aj (k+1,B++a8 x) ⟨by simp only;omega,by simp only[b_];omega,b8 hd hR⟩ (by simp only;omega) ?_;simp[ak,ah,fv,lk,AV.low,AV.low1,nb,a8]
 ·have hkl:k=xs.length:=aq;subst hkl;have:=ce hR;subst this;simp[go_sem];exact ag a9 rfl
theorem sn(b:List Nat)(xs:List (List Nat))(hb:b.length≤50000)(hx:Fo xs):au Tryz.prog 150 [.d (nb b),.d (.ro 1 (xs.map bp))] (fun r=>r=.d (nb (b++eg xs))):=by
 refine bu Tryz.func150 Tryz.ntmps150 (rs:=[.tmp 4]) a9 ?_;obtain⟨hl,hx⟩:=hx;have hp5:=bz xs.length;have w:IntKind.u64.wrap (xs.length:Int)=(xs.length:Int):=by rw[fE];omega
 have hR0:(b++ao xs.length)++cM a8 xs 0=b++eg xs:=by rw[cA];rfl
 generalize b++eg xs=R at *;simp[go_sem,w];refine ae (mi b xs.length aq aq) a9 ?_;have hB0:(b++ao xs.length).length≤50005:=by rw[b_];omega
 generalize b++ao xs.length=B0 at *;simp[go_sem]
 refine am (fun t:Nat×List Nat=>⟨[(1,.d (.ro 1 (xs.map bp))),(5,.d (nb t.2)),(6,.d (.int .i64 (t.1:Int)))],[],1000⟩)
  (fun t=>t.1≤xs.length∧t.2.length≤50005+605*t.1∧t.2++cM a8 xs t.1=R) (fun t=>xs.length-t.1) (0,B0) ⟨aw,by simp;omega,hR0⟩ (by
   simp[ak,ah,fv,lk,AV.low,AV.low1,nb]) ?_
 rintro⟨k,B⟩⟨hk,hBl,hR⟩;simp only at hk hBl hR;simp only[go_sem,Nat.reduceEqDiff,Nat.reduceAdd,Nat.reduceLT,↓reduceIte,Nat.reduceMul];refine⟨fun h=>?_,fun h=>?_⟩
 ·obtain⟨x,hx1,hd⟩:=aL (l:=xs) (k:=k) aq;have hxl:=hx x (cr hx1);have w3:=al (k:=k) aq;have hbl:=gp x;simp[go_sem,hx1,bp];refine ae (kP B x aq aq) a9 ?_;simp[go_sem,w3];refine aj (k+1,B++a8 x) ⟨by simp only;omega,by simp only[b_];omega,b8 hd hR⟩ (by simp only;omega) ?_;simp[ak,ah,fv,lk,AV.low,AV.low1,nb,a8]
 ·have hkl:k=xs.length:=aq;subst hkl;have:=ce hR;subst this;simp[go_sem];exact ag a9 rfl
end Go.Proofs.YtmfnimjnneflnaaGreat
namespace Go.Sha
theorem qj{i:Ip}(h:i.hash.length=32):(ug i).length=40:=by simp[ug,h,aE]
theorem nD(o:Nat×List Nat):(dS o).length≤13+o.2.length:=by
 have:=gp o.2;unfold dS;rw[b_,aE];omega
def Sm(t:Tn):Prop:=t.ok∧t.ins.length≤6∧t.outs.length≤6∧(∀o,o∈t.outs→o.2.length≤600)∧∀i,i∈t.ins→Fo i.wit
theorem Ko{t:Tn}(h:t.ok)(hw:dK 6 6 600 t=true):Sm t:=by
 simp only[dK,Bool.and_eq_true,decide_eq_true_eq,bq,d5,db,d7]at hw;obtain⟨h1,h2,h3,h4⟩:=hw;exact⟨h,h1,h2,h3,fun i hi=>⟨(h4 i hi).1,(h4 i hi).2⟩⟩
end Go.Sha
namespace Go.Proofs.YtmfnimjnneflnaaGreat
open Go.Am Go.Sha
def lK(i:Ip):List AV:=cb i.hash++[.d (.int .u32 (i.idx:Int)),.d (.int .u32 (i.seq:Int)),.d (.ro 1 (i.wit.map bp))]
theorem so(i:Ip):(eI i).map AV.d=lK i:=by simp[eI,lK,tZ]
theorem jK{i:Ip}(h:i.hash.length=32):(lK i).length=35:=by simp[lK,ap,h]
theorem Nw{i:Ip}(h:i.hash.length=32):(lK i)[32]?=some (.d (.int .u32 (i.idx:Int))):=by
 rw[lK,dn (by rw[ap];omega),ap,h];rfl
theorem Nx{i:Ip}(h:i.hash.length=32):(lK i)[33]?=some (.d (.int .u32 (i.seq:Int))):=by
 rw[lK,dn (by rw[ap];omega),ap,h];rfl
theorem Ny{i:Ip}(h:i.hash.length=32):(lK i)[34]?=some (.d (.ro 1 (i.wit.map bp))):=by
 rw[lK,dn (by rw[ap];omega),ap,h];rfl
theorem Fp{i:Ip}(h:i.hash.length=32)(hl:32<(lK i).length):(lK i)[32]=.d (.int .u32 (i.idx:Int)):=by
 have:=Nw h;rw[cm hl]at this;exact Option.some.inj this
theorem Fq{i:Ip}(h:i.hash.length=32)(hl:33<(lK i).length):(lK i)[33]=.d (.int .u32 (i.seq:Int)):=by
 have:=Nx h;rw[cm hl]at this;exact Option.some.inj this
theorem Ft{i:Ip}(h:i.hash.length=32)(hl:34<(lK i).length):(lK i)[34]=.d (.ro 1 (i.wit.map bp)):=by
 have:=Ny h;rw[cm hl]at this;exact Option.some.inj this
theorem jo{i:Ip}(h:i.hash.length=32):(lK i).take 35=lK i:=cx (by rw[jK h];omega)
theorem D2(n:Nat)(i:Ip):∀v,v∈lK i→v.low1 n:=by
 intro v hv;simp only[lK,cD,d_,List.mem_nil_iff,or_false]at hv;rcases hv with hv|rfl|rfl|rfl
 ·exact aC _ _ _ hv
 ·trivial
 ·trivial
 ·trivial
theorem sr{i:Ip}(h:i.hash.length=32):(List.range 32).map (fun k=>((lK i).drop k).take 1)=rb i.hash:=by
 have h1:=io h;rw[dk]at h1;rw[←h1];apply List.map_congr_left;intro k hk;have hk:=List.mem_range.1 hk;unfold lK;rw[List.drop_append_of_le_length (by rw[ap];omega),List.take_append_of_le_length (by rw[et,ap];omega)]
theorem OX:ek Tryz.prog 68=some (cb z32++[.d (.int .u32 0),.d (.int .u32 0),.nil]):=by kernel_rfl
attribute [go_sem] OX
theorem jq:List.drop 35 (cb z32++[AV.d (.int .u32 0),AV.d (.int .u32 0),AV.nil])=[]:=rfl
theorem D3(t:Tn)(ht:Sm t):au Tryz.prog 144 [.agg (eT t)] (fun r=>r=.d (nb (fP t))):=by
 obtain⟨⟨hv,hlk,hi,ho⟩,h1,h2,h3,h4⟩:=ht;refine bu Tryz.func144 Tryz.ntmps144 (rs:=[.tmp 2]) (by simp[AV.deep,AV.deep1,eT]) ?_;have w1:IntKind.u64.wrap (t.ins.length:Int)=(t.ins.length:Int):=by rw[fE];omega
 have w2:IntKind.u64.wrap (t.outs.length:Int)=(t.outs.length:Int):=by rw[fE];omega
 have hp1:=bz t.ins.length;have hp2:=bz t.outs.length;simp[go_sem,eT];refine cE [] (kS [] t.ver aw hv) rfl (ai (.one (az (.nil 1))) (ai (.deep a9) aG)) ?_;simp[go_sem,aO,w1];refine aR [] (jj (le t.ver 4) t.ins.length (by simp[aE]) aq) rfl aw aw aw (by simp[AV.renL,AV.ren]) ?_;rintro r hp'⟨I,rfl,h0⟩;refine⟨[(I,0)],by simp[fB,gw],?_⟩;have hB0:(le t.ver 4++ao t.ins.length).length≤9:=by rw[b_,aE];omega
 have hR0:(le t.ver 4++ao t.ins.length)++cM ug t.ins 0=le t.ver 4++ao t.ins.length++mo t.ins:=rfl;have hR9:fP t=(le t.ver 4++ao t.ins.length++mo t.ins)++(ao t.outs.length++(fO t.outs++le t.lock 4)):=by simp[fP]
 rw[hR9];generalize le t.ver 4++ao t.ins.length++mo t.ins=R1 at *;generalize le t.ver 4++ao t.ins.length=B0 at *;simp[go_sem,bG,bE,h0,Blk.ren,aT,bV,AV.renL,AV.ren,bF]
 refine am (fun u:Nat×List Nat=>⟨[(1,.ptr 0 0 0 1),(3,.own 352 0 u.2.length u.2.length),(18,.d (.ro 35 (t.ins.map eI))),(19,.d (.int .i64 (t.ins.length:Int))),(20,.d (.int .i64 (u.1:Int)))],[(352,⟨5,1,rb u.2⟩),(0,⟨26,4,[eT t]⟩)],2000⟩)
  (fun u=>u.1≤t.ins.length∧u.2.length≤9+40*u.1∧u.2++cM ug t.ins u.1=R1) (fun u=>t.ins.length-u.1) (0,B0) ⟨aw,by simp;omega,hR0⟩ (by
   simp[ak,ah,fv,lk,AV.low,AV.low1,eT]
   exact aK _ _) ?_
 rintro⟨k,B⟩⟨hk,hBl,hR⟩;simp only at hk hBl hR;simp only[eT];simp only[go_sem,Nat.reduceEqDiff,Nat.reduceAdd,Nat.reduceLT,↓reduceIte,Nat.reduceMul];refine⟨fun h=>?_,fun h=>?_⟩
 ·obtain⟨i,hi1,hd⟩:=aL (l:=t.ins) (k:=k) aq;obtain⟨hi32,hidx,hseq⟩:=hi i (cr hi1);have w3:=al (k:=k) aq;have hil:=qj hi32;have hel:=lJ hi32;have hcl:=jK hi32;have hx:=sr hi32;simp[go_sem]at hx;simp[go_sem,hi1,hel,so,hcl,jo hi32,jq,hx,aN,Fp hi32,lG];refine⟨aq,?_⟩;have hBh:(B++i.hash).length=B.length+32:=by rw[b_,hi32]
  refine gK [352] (eV (B++i.hash) i.idx aq hidx) rfl (ai (.one (az (bo hBh rfl aw))) (ai (.deep a9) aG)) (fun ρ=>by simp[AV.renL,AV.ren]) ?_;rintro r hp'⟨I,rfl,h0⟩;refine⟨[(I,0)],by simp[fB,gw],?_⟩;have hB1:(B++i.hash++le i.idx 4).length=B.length+36:=by rw[b_,hBh,aE]
  have hB3:B++ug i=B++i.hash++le i.idx 4++le i.seq 4:=by simp[ug]
  generalize B++i.hash++le i.idx 4=B1 at *;simp[go_sem,bG,bE,h0,Blk.ren,aT,bV,AV.renL,AV.ren,bF,aO,hcl,Fq hi32];refine gK [2480] (eV B1 i.seq aq hseq) rfl (ai (.one (az (bo rfl rfl aw))) (ai (.deep a9) aG)) (fun ρ=>by simp[AV.renL,AV.ren]) ?_;rintro r hp''⟨J,rfl,h0'⟩;refine⟨[(J,0)],by simp[fB,gw],?_⟩;have hB2:(B1++le i.seq 4).length=B1.length+4:=by rw[b_,aE]
  rw[←hB3]at h0' hB2⊢;generalize hB4:B++ug i=B2 at *;simp[go_sem,bG,bE,h0',Blk.ren,aT,bV,AV.renL,AV.ren,bF,aO,w3];refine rM (k+1,B2) ⟨by simp only;omega,by simp only;omega,by rw[←hB4];exact b8 hd hR⟩ (by simp only;omega) [(0,0),(2640,352)] 9000 (by decide) (by decide) (by decide) (by decide) ?_;simp[tM,rL,bF,AV.ren,Blk.ren,aT,bV,ak,ah,fv,lk,AV.low,AV.low1,AV.renL,eT];exact aK _ _
 ·have hkl:k=t.ins.length:=aq;subst hkl;have:=ce hR;subst this;clear hR hR0 h hk;have hR0:(B++ao t.outs.length)++cM dS t.outs 0=B++ao t.outs.length++fO t.outs:=rfl;have hR9:B++(ao t.outs.length++(fO t.outs++le t.lock 4))=(B++ao t.outs.length++fO t.outs)++le t.lock 4:=by simp
  rw[hR9];simp[go_sem,w2];refine cE [352] (nC B t.outs.length aq aq) rfl (ai (.one (az (bo rfl rfl aw))) (ai (.deep a9) aG)) ?_;have hB0':(B++ao t.outs.length).length≤300:=by rw[b_];omega
  generalize B++ao t.outs.length++fO t.outs=R2 at *;generalize B++ao t.outs.length=B1 at *;simp[go_sem,aO]
  refine am (fun u:Nat×List Nat=>⟨[(1,.ptr 0 0 0 1),(3,.d (nb u.2)),(46,.d (.ro 2 (t.outs.map eO))),(47,.d (.int .i64 (t.outs.length:Int))),(48,.d (.int .i64 (u.1:Int)))],[(0,⟨26,4,[eT t]⟩)],9000⟩)
   (fun u=>u.1≤t.outs.length∧u.2.length≤300+613*u.1∧u.2++cM dS t.outs u.1=R2) (fun u=>t.outs.length-u.1) (0,B1) ⟨aw,by simp;omega,hR0⟩ (by
    simp[ak,ah,fv,lk,AV.low,AV.low1,eT]) ?_
  rintro⟨k,B'⟩⟨hk,hBl',hR⟩;simp only at hk hBl' hR;simp only[eT];simp only[go_sem,Nat.reduceEqDiff,Nat.reduceAdd,Nat.reduceLT,↓reduceIte,Nat.reduceMul];refine⟨fun h=>?_,fun h=>?_⟩
  ·obtain⟨o,ho1,hd⟩:=aL (l:=t.outs) (k:=k) aq;have ho64:=ho o (cr ho1);have hol:=h3 o (cr ho1);have w3:=al (k:=k) aq;have hoB:=nD o;simp[go_sem,ho1,eO];refine ae (nB B' o.1 aq ho64) a9 ?_;simp[go_sem];have hl8:(B'++le o.1 8).length=B'.length+8:=by rw[b_,aE]
   have hB3:B'++dS o=B'++le o.1 8++(ao o.2.length++o.2):=by simp[dS,a8]
   refine ae (fG (B'++le o.1 8) o.2 aq aq) a9 ?_;rw[←hB3];have hB4l:(B'++dS o).length=B'.length+(dS o).length:=b_;simp[go_sem,w3];refine aj (k+1,B'++dS o) ⟨by simp only;omega,by simp only;omega,b8 hd hR⟩ (by simp only;omega) ?_;simp[ak,ah,fv,lk,AV.low,AV.low1,eT]
  ·have hkl:k=t.outs.length:=aq;subst hkl;have:=ce hR;subst this;simp[go_sem];refine ae (kS B' t.lock aq hlk) a9 ?_;simp[go_sem];exact ag a9 (by rw[hR9])
theorem D4{i:Ip}(h:i.hash.length=32):((eI i).take 32).map (fun c=>[c])=i.hash.map fun(b:Nat)=>[DV.int .u8 (b:Int)]:=by
 unfold eI;rw[List.take_append_of_le_length (by rw[da];omega),cx (by rw[da];omega)];simp[cd]
theorem Az(t:Tn)(ht:Sm t):au Tryz.prog 149 [.agg (eT t)] (fun r=>r=.d (nb (fP t))):=by
 obtain⟨⟨hv,hlk,hi,ho⟩,h1,h2,h3,h4⟩:=ht;refine bu Tryz.func149 Tryz.ntmps149 (rs:=[.tmp 2]) (by simp[AV.deep,AV.deep1,eT]) ?_;have w1:IntKind.u64.wrap (t.ins.length:Int)=(t.ins.length:Int):=by rw[fE];omega
 have w2:IntKind.u64.wrap (t.outs.length:Int)=(t.outs.length:Int):=by rw[fE];omega
 have wv:IntKind.u64.wrap (t.ver:Int)=(t.ver:Int):=by rw[fE];omega
 have wl:IntKind.u64.wrap (t.lock:Int)=(t.lock:Int):=by rw[fE];omega
 have hp1:=bz t.ins.length;have hp2:=bz t.outs.length;simp[go_sem,eT,wv];refine cE [] (kO [] t.ver 4 4 rfl aw aq aq) rfl (ai (.one (az (.nil 1))) (ai (.deep a9) (ai (.deep a9) aG))) ?_;simp[go_sem,aO,w1];refine aR [] (iL (le t.ver 4) t.ins.length (by simp[aE]) aq) rfl aw aw aw (by simp[AV.renL,AV.ren]) ?_;rintro r hp'⟨I,rfl,h0⟩;refine⟨[(I,0)],by simp[fB,gw],?_⟩;have hB0:(le t.ver 4++ao t.ins.length).length≤9:=by rw[b_,aE];omega
 have hR0:(le t.ver 4++ao t.ins.length)++cM ug t.ins 0=le t.ver 4++ao t.ins.length++mo t.ins:=rfl;have hR9:fP t=(le t.ver 4++ao t.ins.length++mo t.ins)++(ao t.outs.length++(fO t.outs++le t.lock 4)):=by simp[fP]
 rw[hR9];generalize le t.ver 4++ao t.ins.length++mo t.ins=R1 at *;generalize le t.ver 4++ao t.ins.length=B0 at *;simp[go_sem,bG,bE,h0,Blk.ren,aT,bV,AV.renL,AV.ren,bF]
 refine am (fun u:Nat×List Nat=>⟨[(1,.ptr 0 0 0 1),(3,.own 384 0 u.2.length u.2.length),(4,.d (.int .i64 (u.1:Int)))],[(384,⟨5,1,rb u.2⟩),(0,⟨26,4,[eT t]⟩)],2000⟩)
  (fun u=>u.1≤t.ins.length∧u.2.length≤9+40*u.1∧u.2++cM ug t.ins u.1=R1) (fun u=>t.ins.length-u.1) (0,B0) ⟨aw,by simp;omega,hR0⟩ (by
   simp[ak,ah,fv,lk,AV.low,AV.low1,eT]
   exact aK _ _) ?_
 rintro⟨k,B⟩⟨hk,hBl,hR⟩;simp only at hk hBl hR;simp only[eT];simp only[go_sem,Nat.reduceEqDiff,Nat.reduceAdd,Nat.reduceLT,↓reduceIte,Nat.reduceMul];refine⟨fun h=>?_,fun h=>?_⟩
 ·obtain⟨i,hi1,hd⟩:=aL (l:=t.ins) (k:=k) aq;obtain⟨hi32,hidx,hseq⟩:=hi i (cr hi1);have w3:=al (k:=k) aq;have hil:=qj hi32;have hel:=lJ hi32;have wx:IntKind.u64.wrap (i.idx:Int)=(i.idx:Int):=by rw[fE];omega
  have ws:IntKind.u64.wrap (i.seq:Int)=(i.seq:Int):=by rw[fE];omega
  have her:=D4 hi32;simp[go_sem,hi1,hel,her,Nv hi32,J9 hi32,dk,aN,lG,wx,hi32];refine⟨aq,?_⟩;have hBh:(B++i.hash).length=B.length+32:=by rw[b_,hi32]
  refine gK [384] (iq (B++i.hash) i.idx 4 4 rfl aq aq aq) rfl (ai (.one (az (bo hBh rfl aw))) (ai (.deep a9) (ai (.deep a9) aG))) (fun ρ=>by simp[AV.renL,AV.ren]) ?_;rintro r hp'⟨rfl,h0⟩;refine⟨[(33,0)],by simp[fB,gw],?_⟩;have hB1:(B++i.hash++le i.idx 4).length=B.length+36:=by rw[b_,hBh,aE]
  have hB3:B++ug i=B++i.hash++le i.idx 4++le i.seq 4:=by simp[ug]
  generalize B++i.hash++le i.idx 4=B1 at *;simp[go_sem,bG,bE,h0,Blk.ren,aT,bV,AV.renL,AV.ren,bF,aO,hi1,J9 hi32,ws];refine gK [2768] (iq B1 i.seq 4 4 rfl aq aq aq) rfl (ai (.one (az (bo rfl rfl aw))) (ai (.deep a9) (ai (.deep a9) aG))) (fun ρ=>by simp[AV.renL,AV.ren]) ?_;rintro r hp''⟨rfl,h0'⟩;refine⟨[(33,0)],by simp[fB,gw],?_⟩;have hB2:(B1++le i.seq 4).length=B1.length+4:=by rw[b_,aE]
  rw[←hB3]at h0' hB2⊢;generalize hB4:B++ug i=B2 at *;simp[go_sem,bG,bE,h0',Blk.ren,aT,bV,AV.renL,AV.ren,bF,aO,w3];refine rM (k+1,B2) ⟨by simp only;omega,by simp only;omega,by rw[←hB4];exact b8 hd hR⟩ (by simp only;omega) [(0,0),(3088,384)] 9000 (by decide) (by decide) (by decide) (by decide) ?_;simp[tM,rL,bF,AV.ren,Blk.ren,aT,bV,ak,ah,fv,lk,AV.low,AV.low1,AV.renL,eT];exact aK _ _
 ·have hkl:k=t.ins.length:=aq;subst hkl;have:=ce hR;subst this;clear hR hR0 h hk;have hR0:(B++ao t.outs.length)++cM dS t.outs 0=B++ao t.outs.length++fO t.outs:=rfl;have hR9:B++(ao t.outs.length++(fO t.outs++le t.lock 4))=(B++ao t.outs.length++fO t.outs)++le t.lock 4:=by simp
  rw[hR9];simp[go_sem,w2];refine cE [384] (mi B t.outs.length aq aq) rfl (ai (.one (az (bo rfl rfl aw))) (ai (.deep a9) aG)) ?_;have hB0':(B++ao t.outs.length).length≤300:=by rw[b_];omega
  generalize B++ao t.outs.length++fO t.outs=R2 at *;generalize B++ao t.outs.length=B1 at *;simp[go_sem,aO]
  refine am (fun u:Nat×List Nat=>⟨[(1,.ptr 0 0 0 1),(3,.d (nb u.2)),(5,.d (.int .i64 (u.1:Int)))],[(0,⟨26,4,[eT t]⟩)],9000⟩)
   (fun u=>u.1≤t.outs.length∧u.2.length≤300+613*u.1∧u.2++cM dS t.outs u.1=R2) (fun u=>t.outs.length-u.1) (0,B1) ⟨aw,by simp;omega,hR0⟩ (by
    simp[ak,ah,fv,lk,AV.low,AV.low1,eT]) ?_
  rintro⟨k,B'⟩⟨hk,hBl',hR⟩;simp only at hk hBl' hR;simp only[eT];simp only[go_sem,Nat.reduceEqDiff,Nat.reduceAdd,Nat.reduceLT,↓reduceIte,Nat.reduceMul];refine⟨fun h=>?_,fun h=>?_⟩
  ·obtain⟨o,ho1,hd⟩:=aL (l:=t.outs) (k:=k) aq;have ho64:=ho o (cr ho1);have hol:=h3 o (cr ho1);have w3:=al (k:=k) aq;have hoB:=nD o;simp[go_sem,ho1,eO];refine ae (kO B' o.1 8 8 rfl aq ho64 aq) a9 ?_;simp[go_sem,ho1,eO];have hl8:(B'++le o.1 8).length=B'.length+8:=by rw[b_,aE]
   have hB3:B'++dS o=B'++le o.1 8++(ao o.2.length++o.2):=by simp[dS,a8]
   refine ae (kP (B'++le o.1 8) o.2 aq aq) a9 ?_;rw[←hB3];have hB4l:(B'++dS o).length=B'.length+(dS o).length:=b_;simp[go_sem,w3];refine aj (k+1,B'++dS o) ⟨by simp only;omega,by simp only;omega,b8 hd hR⟩ (by simp only;omega) ?_;simp[ak,ah,fv,lk,AV.low,AV.low1,eT]
  ·have hkl:k=t.outs.length:=aq;subst hkl;have:=ce hR;subst this;simp[go_sem,wl];refine ae (kO B' t.lock 4 4 rfl aq aq aq) a9 ?_;simp[go_sem];exact ag a9 (by rw[hR9])
theorem px{t:Tn}(ht:Sm t):(fP t).length≤4000:=by
 obtain⟨⟨hv,hlk,hi,ho⟩,h1,h2,h3,h4⟩:=ht;have hp1:=bz t.ins.length;have hp2:=bz t.outs.length
 have e1:∀l:List Ip,(∀i,i∈l→i.hash.length=32)→(mo l).length=40*l.length:=by
  intro l
  induction l with
  |nil=>intro _;rfl
  |cons i r ih =>
   intro h;have h1:=ih fun j hj=>h j (cS _ hj);have h2:=qj (h i (dz ..));have e:(mo (i::r)).length=(ug i).length+(mo r).length:=by simp[mo]
   rw[e,List.length_cons];omega
 have e2:∀l:List (Nat×List Nat),(∀o,o∈l→o.2.length≤600)→(fO l).length≤613*l.length:=by
  intro l
  induction l with
  |nil=>intro _;simp[fO]
  |cons i r ih =>
   intro h;have h1:=ih fun j hj=>h j (cS _ hj);have h2:=nD i;have h3:=h i (dz ..);have e:(fO (i::r)).length=(dS i).length+(fO r).length:=by simp[fO]
   rw[e,List.length_cons];omega
 have f1:=e1 t.ins fun i h=>(hi i h).1;have f2:=e2 t.outs h3;unfold fP;simp only[b_,aE];omega
def IR(i:Ip):List Nat:=eg i.wit
theorem AA(t:Tn)(ht:Sm t):au Tryz.prog 102 [.agg (eT t)] (fun r=>r=.d (nb (dh t))):=by
 have hbl:=px ht;refine bu Tryz.func102 Tryz.ntmps102 (rs:=[.tmp 2]) (by simp[AV.deep,AV.deep1,eT]) ?_;simp[go_sem,eT];refine ae (D3 t ht) (by simp[AV.deep,AV.deep1,eT]) ?_;obtain⟨⟨hv,hlk,hi,ho⟩,h1,h2,h3,h4⟩:=ht;have hR0:fP t++cM IR t.ins 0=dh t:=rfl;generalize dh t=R at *;generalize fP t=B0 at *;simp[go_sem]
 refine am (fun u:Nat×List Nat=>⟨[(3,.d (nb u.2)),(9,.d (.ro 35 (t.ins.map eI))),(10,.d (.int .i64 (t.ins.length:Int))),(11,.d (.int .i64 (u.1:Int)))],[],9000⟩)
  (fun u=>u.1≤t.ins.length∧u.2.length≤4000+3635*u.1∧u.2++cM IR t.ins u.1=R) (fun u=>t.ins.length-u.1) (0,B0) ⟨aw,by simp;omega,hR0⟩ (by
   simp[ak,ah,fv,lk,AV.low,AV.low1]) ?_
 rintro⟨k,B⟩⟨hk,hBl,hR⟩;simp only at hk hBl hR;simp only[go_sem,Nat.reduceEqDiff,Nat.reduceAdd,Nat.reduceLT,↓reduceIte,Nat.reduceMul];refine⟨fun h=>?_,fun h=>?_⟩
 ·obtain⟨i,hi1,hd⟩:=aL (l:=t.ins) (k:=k) aq;obtain⟨hi32,hidx,hseq⟩:=hi i (cr hi1);have w3:=al (k:=k) aq;have hel:=lJ hi32;have hcl:=jK hi32;have hw:=h4 i (cr hi1);have hll:=pu hw;simp[go_sem,hi1,hel,so,hcl,jo hi32,jq,Ft hi32];refine ae (uh B i.wit aq hw) a9 ?_;simp[go_sem,w3];refine aj (k+1,B++eg i.wit) ⟨by simp only;omega,by simp only[b_];omega,b8 (f:=IR) hd hR⟩ (by simp only;omega) ?_;simp[ak,ah,fv,lk,AV.low,AV.low1]
 ·have hkl:k=t.ins.length:=aq;subst hkl;have:=ce hR;subst this;simp[go_sem];exact ag a9 rfl
theorem x4(t:Tn)(ht:Sm t):au Tryz.prog 108 [.agg (eT t)] (fun r=>r=.d (nb (dh t))):=by
 have hbl:=px ht;refine bu Tryz.func108 Tryz.ntmps108 (rs:=[.tmp 2]) (by simp[AV.deep,AV.deep1,eT]) ?_;simp[go_sem,eT];refine ae (Az t ht) (by simp[AV.deep,AV.deep1,eT]) ?_;obtain⟨⟨hv,hlk,hi,ho⟩,h1,h2,h3,h4⟩:=ht;have hR0:fP t++cM IR t.ins 0=dh t:=rfl;generalize dh t=R at *;generalize fP t=B0 at *;simp[go_sem]
 refine am (fun u:Nat×List Nat=>⟨[(1,.ptr 0 0 0 1),(3,.d (nb u.2)),(4,.d (.int .i64 (u.1:Int)))],[(0,⟨26,4,[eT t]⟩)],9000⟩)
  (fun u=>u.1≤t.ins.length∧u.2.length≤4000+3635*u.1∧u.2++cM IR t.ins u.1=R) (fun u=>t.ins.length-u.1) (0,B0) ⟨aw,by simp;omega,hR0⟩ (by
   simp[ak,ah,fv,lk,AV.low,AV.low1,eT]) ?_
 rintro⟨k,B⟩⟨hk,hBl,hR⟩;simp only at hk hBl hR;simp only[eT];simp only[go_sem,Nat.reduceEqDiff,Nat.reduceAdd,Nat.reduceLT,↓reduceIte,Nat.reduceMul];refine⟨fun h=>?_,fun h=>?_⟩
 ·obtain⟨i,hi1,hd⟩:=aL (l:=t.ins) (k:=k) aq;obtain⟨hi32,hidx,hseq⟩:=hi i (cr hi1);have w3:=al (k:=k) aq;have hw:=h4 i (cr hi1);have hll:=pu hw;simp[go_sem,hi1,ny hi32];refine ae (sn B i.wit aq hw) a9 ?_;simp[go_sem,w3];refine aj (k+1,B++eg i.wit) ⟨by simp only;omega,by simp only[b_];omega,b8 (f:=IR) hd hR⟩ (by simp only;omega) ?_;simp[ak,ah,fv,lk,AV.low,AV.low1,eT]
 ·have hkl:k=t.ins.length:=aq;subst hkl;have:=ce hR;subst this;simp[go_sem];exact ag a9 rfl
theorem x5{t:Tn}(h:Sm t):dK 20 30 1000 t=true:=by
 obtain⟨_,h1,h2,h3,h4⟩:=h;simp only[dK,Bool.and_eq_true,decide_eq_true_eq,bq,d5,db,d7];refine⟨aq,aq,fun o ho=>by have:=h3 o ho;omega,fun i hi=>?_⟩;obtain⟨q1,q2⟩:=h4 i hi;exact⟨aq,fun x hx=>by have:=q2 x hx;omega⟩
theorem x6{xs:List (List Nat)}(h:Fo xs):db 1000 xs=true:=by
 simp only[db,d7,decide_eq_true_eq];exact fun x hx=>by have:=h.2 x hx;omega
theorem x7(t:Tn)(ht:Sm t):au Tryz.prog 101 [.agg (eT t)] (fun r=>r=.d (.bool true)):=by
 refine bu Tryz.func101 Tryz.ntmps101 (rs:=[.tmp 2]) (by simp[AV.deep,AV.deep1,eT]) ?_;obtain⟨⟨hv,hlk,hi,ho⟩,h1,h2,h3,h4⟩:=ht;have i1:¬ 20<(t.ins.length:Int):=aq;have i2:¬ 20<(t.outs.length:Int):=aq;simp[go_sem,eT,i1,i2]
 refine am (fun k:Nat=>⟨[(1,.ptr 0 0 0 1),(18,.d (.ro 2 (t.outs.map eO))),(19,.d (.int .i64 (t.outs.length:Int))),(20,.d (.int .i64 (k:Int)))],[(0,⟨26,4,[eT t]⟩)],9000⟩)
  (fun k=>k≤t.outs.length) (fun k=>t.outs.length-k) 0 aw (by
   simp[ak,ah,fv,lk,AV.low,AV.low1,eT]) ?_
 intro k hk;simp only[eT];simp only[go_sem,Nat.reduceEqDiff,Nat.reduceAdd,Nat.reduceLT,↓reduceIte,Nat.reduceMul];refine⟨fun h=>?_,fun h=>?_⟩
 ·obtain⟨o,ho1,hd⟩:=aL (l:=t.outs) (k:=k) aq;have hol:=h3 o (cr ho1);have w3:=al (k:=k) aq;simp[go_sem,ho1,eO];refine ae (vO o.2) a9 ?_;have j1:¬ 1000<o.2.length:=aq;simp[go_sem,j1,w3];refine aj (k+1) aq aq ?_;simp[ak,ah,fv,lk,AV.low,AV.low1,eT]
 ·simp[go_sem]
  refine am (fun k:Nat=>⟨[(1,.ptr 0 0 0 1),(29,.d (.ro 35 (t.ins.map eI))),(30,.d (.int .i64 (t.ins.length:Int))),(31,.d (.int .i64 (k:Int)))],[(0,⟨26,4,[eT t]⟩)],19000⟩)
   (fun k=>k≤t.ins.length) (fun k=>t.ins.length-k) 0 aw (by
    simp[ak,ah,fv,lk,AV.low,AV.low1,eT]) ?_
  intro k hk;simp only[eT];simp only[go_sem,Nat.reduceEqDiff,Nat.reduceAdd,Nat.reduceLT,↓reduceIte,Nat.reduceMul];refine⟨fun h=>?_,fun h=>?_⟩
  ·obtain⟨i,hi1,hd⟩:=aL (l:=t.ins) (k:=k) aq;obtain⟨hi32,hidx,hseq⟩:=hi i (cr hi1);have w3:=al (k:=k) aq;have hel:=lJ hi32;have hcl:=jK hi32;have hw:=h4 i (cr hi1);have hw6:=hw.1;have j1:¬ 30<(i.wit.length:Int):=aq;simp[go_sem,hi1,hel,so,hcl,jo hi32,jq,Ft hi32,j1];refine ae (qh i.wit aq) a9 ?_;simp[go_sem,x6 hw,w3];refine aj (k+1) aq aq ?_;simp[ak,ah,fv,lk,AV.low,AV.low1,eT]
  ·simp[go_sem];exact ag a9 rfl
def iM(t:Tn):Int:=if 12000<(dh t).length then 4 else 0
theorem x8(t:Tn)(ht:Sm t):au Tryz.prog 54 [.agg (eT t)] (fun r=>r=.d (.int .i64 (iM t))):=by
 refine bu Tryz.func54 Tryz.ntmps54 (rs:=[.tmp 2]) (by simp[AV.deep,AV.deep1,eT]) ?_;simp[go_sem,eT];refine ae (x7 t ht) (by simp[AV.deep,AV.deep1,eT]) ?_;simp[go_sem];refine ae (AA t ht) (by simp[AV.deep,AV.deep1,eT]) ?_;have hc:iM t=if 12000<(dh t).length then 4 else 0:=rfl;rw[hc];by_cases h:12000<(dh t).length
 ·have i1:12000<((dh t).length:Int):=aq;simp[go_sem,nb,i1,h];exact ag a9 rfl
 ·have i1:¬ 12000<((dh t).length:Int):=aq;simp[go_sem,nb,i1,h];exact ag a9 rfl
theorem ui(t:Tn)(ht:Sm t):au Tryz.prog 61 [.agg (eT t)] (fun r=>r=.d (.int .i64 (iM t))):=by
 refine bu Tryz.func61 Tryz.ntmps61 (rs:=[.tmp 2]) (by simp[AV.deep,AV.deep1,eT]) ?_;simp[go_sem,eT];refine ae (uf t ht.1) (by simp[AV.deep,AV.deep1,eT]) ?_;rw[x5 ht];simp[go_sem];refine ae (x4 t ht) (by simp[AV.deep,AV.deep1,eT]) ?_;have hc:iM t=if 12000<(dh t).length then 4 else 0:=rfl;rw[hc];by_cases h:12000<(dh t).length
 ·have i1:12000<((dh t).length:Int):=aq;simp[go_sem,nb,i1,h];exact ag a9 rfl
 ·have i1:¬ 12000<((dh t).length:Int):=aq;simp[go_sem,nb,i1,h];exact ag a9 rfl
def aU(t:Tn)(n:Int)(coins:List (Nat×List Nat)):Int :=
 if iM t≠0∨coins.length≠t.ins.length∨n<0∨(coins.length:Int)≤n∨bq 1000 coins=false then 1 else 0
theorem jL(t:Tn)(n:Int)(coins:List (Nat×List Nat))(ht:Sm t)(hc:coins.length≤1000):au Tryz.prog 45 [.agg (eS t n coins)] (fun r=>r=.d (.int .i64 (aU t n coins))):=by
 refine bu Tryz.func45 Tryz.ntmps45 (rs:=[.tmp 2]) (by simp[AV.deep,AV.deep1,eS]) ?_;generalize hX:aU t n coins=X;simp[go_sem,eS];refine ae (x8 t ht) (by simp[AV.deep,AV.deep1,eT]) ?_;by_cases c1:iM t=0
 ·by_cases c2:(coins.length:Int)=(t.ins.length:Int)
  ·by_cases c3:n<0
   ·have:X=1:=by rw[←hX];simp[aU,c3]
    subst this;simp[go_sem,c1,c2,c3];exact ag a9 rfl
   ·by_cases c4:(coins.length:Int)≤n
    ·have:X=1:=by rw[←hX];simp[aU,c4]
     subst this;have c4':(t.ins.length:Int)≤n:=aq;simp[go_sem,c1,c2,c3,c4,c4'];exact ag a9 rfl
    ·have c4':¬(t.ins.length:Int)≤n:=aq;simp[go_sem,c1,c2,c3,c4,c4'];refine ae (qi coins aq) a9 ?_
     have e:X=if bq 1000 coins=false then 1 else 0:=by
      rw[←hX];unfold aU;have:coins.length=t.ins.length:=aq;simp[c1,this,c3,c4']
     rw[e]
     cases bq 1000 coins
     ·simp[go_sem];exact ag a9 rfl
     ·simp[go_sem];exact ag a9 rfl
  ·have:X=1:=by rw[←hX];unfold aU;rw[if_pos (.inr (.inl aq))]
   subst this;simp[go_sem,c1,c2];exact ag a9 rfl
 ·have:X=1:=by rw[←hX];simp[aU,c1]
  subst this;simp[go_sem,c1];exact ag a9 rfl
theorem uj(t:Tn)(n:Int)(coins:List (Nat×List Nat))(ht:Sm t)(hc:coins.length≤1000):au Tryz.prog 19 [.agg (eS t n coins)] (fun r=>r=.d (.int .i64 (aU t n coins))):=by
 refine bu Tryz.func19 Tryz.ntmps19 (rs:=[.tmp 2]) (by simp[AV.deep,AV.deep1,eS]) ?_;generalize hX:aU t n coins=X;simp[go_sem,eS];refine ae (ui t ht) (by simp[AV.deep,AV.deep1,eT]) ?_;by_cases c1:iM t=0
 ·by_cases c2:(coins.length:Int)=(t.ins.length:Int)
  ·by_cases c3:n<0
   ·have:X=1:=by rw[←hX];simp[aU,c3]
    subst this;simp[go_sem,c1,c2,c3];exact ag a9 rfl
   ·by_cases c4:(coins.length:Int)≤n
    ·have:X=1:=by rw[←hX];simp[aU,c4]
     subst this;have c4':(t.ins.length:Int)≤n:=aq;simp[go_sem,c1,c2,c3,c4,c4'];exact ag a9 rfl
    ·have c4':¬(t.ins.length:Int)≤n:=aq
     have e:X=if bq 1000 coins=false then 1 else 0:=by
      rw[←hX];unfold aU;have:coins.length=t.ins.length:=aq;simp[c1,this,c3,c4']
     rw[e];simp[go_sem,c1,c2,c3,c4,c4']
     refine am (fun k:Nat=>⟨[(1,.ptr 0 0 0 1),(3,.d (.int .i64 (k:Int)))],[(0,⟨28,6,[eS t n coins]⟩)],2000⟩)
      (fun k=>k≤coins.length∧bq 1000 (coins.drop k)=bq 1000 coins) (fun k=>coins.length-k) 0 ⟨aq,rfl⟩ (by
       simp[ak,ah,fv,lk,AV.low,AV.low1,eS]) ?_
     rintro k⟨hk,ho⟩;simp only[eS];simp only[go_sem,Nat.reduceEqDiff,Nat.reduceAdd,Nat.reduceLT,↓reduceIte,Nat.reduceMul];refine⟨fun h=>?_,fun h=>?_⟩
     ·obtain⟨o,ho1,hd⟩:=aL (l:=coins) (k:=k) aq;have w3:=al (k:=k) aq;by_cases hx:o.2.length≤1000
      ·have j1:¬ 1000<(o.2.length:Int):=aq;simp[go_sem,ho1,eO,nb,j1,w3];refine aj (k+1) ⟨aq,dQ hd ho (by simpa using hx)⟩ aq ?_;simp[ak,ah,fv,lk,AV.low,AV.low1,eS]
      ·have j1:1000<(o.2.length:Int):=aq;have:=df hd ho (by simpa using hx);simp[go_sem,ho1,eO,nb,j1];exact ag a9 (by rw[show bq 1000 coins=false from this];rfl)
     ·have hkl:k=coins.length:=aq;subst hkl;have hO:bq 1000 coins=true:=dR ho;simp[go_sem];exact ag a9 (by rw[hO];rfl)
  ·have:X=1:=by rw[←hX];unfold aU;rw[if_pos (.inr (.inl aq))]
   subst this;simp[go_sem,c1,c2];exact ag a9 rfl
 ·have:X=1:=by rw[←hX];simp[aU,c1]
  subst this;simp[go_sem,c1];exact ag a9 rfl
def nE(t:Tn)(coins:List (Nat×List Nat)):Bool:=dK 6 6 600 t&&(decide (coins.length≤8)&&bq 1100 coins)
theorem x9(t:Tn)(n:Int)(coins:List (Nat×List Nat))(ht:t.ok):au Tryz.prog 28 [.agg (eS t n coins)] (fun r=>r=.d (.bool (nE t coins))):=by
 refine bu Tryz.func28 Tryz.ntmps28 (rs:=[.tmp 2]) (by simp[AV.deep,AV.deep1,eS]) ?_;generalize hX:nE t coins=X;unfold nE at hX;simp[go_sem,eS];refine ae (ue t ht) (by simp[AV.deep,AV.deep1,eT]) ?_;generalize dK 6 6 600 t=W at *
 cases W
 ·simp at hX;subst hX;simp[go_sem];exact ag a9 rfl
 ·by_cases c2:coins.length≤8
  ·have c2':¬ 8<(coins.length:Int):=aq;have e:X=bq 1100 coins:=by rw[←hX];simp[c2]
   rw[e];simp[go_sem,c2']
   refine am (fun k:Nat=>⟨[(1,.ptr 0 0 0 1),(3,.d (.int .i64 (k:Int)))],[(0,⟨28,6,[eS t n coins]⟩)],2000⟩)
    (fun k=>k≤coins.length∧bq 1100 (coins.drop k)=bq 1100 coins) (fun k=>coins.length-k) 0 ⟨aq,rfl⟩ (by
     simp[ak,ah,fv,lk,AV.low,AV.low1,eS]) ?_
   rintro k⟨hk,ho⟩;simp only[eS];simp only[go_sem,Nat.reduceEqDiff,Nat.reduceAdd,Nat.reduceLT,↓reduceIte,Nat.reduceMul];refine⟨fun h=>?_,fun h=>?_⟩
   ·obtain⟨o,ho1,hd⟩:=aL (l:=coins) (k:=k) aq;have w3:=al (k:=k) aq;by_cases hx:o.2.length≤1100
    ·have j1:¬ 1100<(o.2.length:Int):=aq;simp[go_sem,ho1,eO,nb,j1,w3];refine aj (k+1) ⟨aq,dQ hd ho (by simpa using hx)⟩ aq ?_;simp[ak,ah,fv,lk,AV.low,AV.low1,eS]
    ·have j1:1100<(o.2.length:Int):=aq;have:=df hd ho (by simpa using hx);simp[go_sem,ho1,eO,nb,j1];exact ag a9 (by rw[show bq 1100 coins=false from this])
   ·have hkl:k=coins.length:=aq;subst hkl;have hO:bq 1100 coins=true:=dR ho;simp[go_sem];exact ag a9 (by rw[hO])
  ·have c2':8<(coins.length:Int):=aq;have:X=false:=by rw[←hX];simp[c2]
   subst this;simp[go_sem,c2'];exact ag a9 rfl
theorem AB(a b:List Nat)(ha:bytes a)(hb:bytes b):au Tryz.prog 111 [.d (nb a),.d (nb b)] (fun r=>r=.d (.bool (decide (a=b)))):=by
 refine bu Tryz.func111 Tryz.ntmps111 (rs:=[.tmp 4]) a9 ?_;simp[go_sem,nb];refine vK a 5 ha (by simp[go_sem]) (by simp[go_sem]) Tryz.underlying5 ?_;simp[go_sem,nb];refine vK b 5 hb (by simp[go_sem]) (by simp[go_sem]) Tryz.underlying5 ?_;simp[go_sem,Hl];exact ag a9 rfl
def Nz(x:Int×Int×Int):AV:=.tup [.agg [.d (.int .i64 x.1),.d (.int .u64 x.2.1)],.d (.int .i64 x.2.2)]
theorem qk(t:Tn)(n:Int)(coins:List (Nat×List Nat)):aU t n coins=1∨(aU t n coins=0∧0≤n∧n<(coins.length:Int)):=by
 unfold aU
 split
 ·exact .inl rfl
 ·rename_i h;exact .inr ⟨rfl,aq,aq⟩
theorem ql{n:Nat}{ds:List DV}(h:fD Tryz.prog (n+1) 22 ds):∃x:Nat,ds=[.int .u32 (x:Int)]∧x<4294967296:=by
 rw[fD]at h;simp only[Tryz.underlying22]at h;obtain⟨x,rfl,hx⟩:=h;have hx':0≤x∧x<4294967296:=by simp[IntKind.has,IntKind.min,IntKind.max,IntKind.signed,IntKind.bits]at hx;omega
 exact⟨x.toNat,by rw[show((x.toNat:Nat):Int)=x by omega],aq⟩
theorem Hu{n:Nat}{ds:List DV}(h:fD Tryz.prog (n+1) 53 ds):∃x:Nat,ds=[.int .u64 (x:Int)]∧x<18446744073709551616:=by
 rw[fD]at h;simp only[Tryz.underlying53]at h;obtain⟨x,rfl,hx⟩:=h;have hx':0≤x∧x<18446744073709551616:=by simp[IntKind.has,IntKind.min,IntKind.max,IntKind.signed,IntKind.bits]at hx;omega
 exact⟨x.toNat,by rw[show((x.toNat:Nat):Int)=x by omega],aq⟩
theorem Hv{n:Nat}{ds:List DV}(h:fD Tryz.prog (n+3) 57 ds):∃o:Nat×List Nat,ds=eO o∧o.1<18446744073709551616∧bytes o.2:=by
 rw[fD]at h;simp only[Tryz.underlying57,List.map_cons,List.map_nil]at h;obtain⟨a,b,rfl,ha,ha2,a',b',rfl,hb,hb2,rfl⟩:=h;obtain⟨x,rfl,hx⟩:=Hu ha2;rw[show Tryz.prog.cellsOf 31=1 by kernel_rfl]at hb
 match a',hb,hb2 with
 |[y],_,hb2 =>
  obtain⟨bs,rfl,_,h5⟩:=r6 hb2;exact⟨(x,bs),rfl,hx,h5⟩
theorem vP{n:Nat}{ds:List DV}(h:fD Tryz.prog (n+4) 24 ds):∃os:List (Nat×List Nat),ds=[.ro 2 (os.map eO)]∧∀o,o∈os→o.1<18446744073709551616∧bytes o.2:=by
 rw[fD]at h;simp only[Tryz.underlying24]at h;obtain⟨es,rfl,hl,hr⟩:=h
 obtain⟨os,rfl,hos⟩:=nf (enc:=eO) (R:=fun o=>o.1<18446744073709551616∧bytes o.2) (es:=es) (fun r hr'=>by
  obtain⟨h1,h2⟩:=hr r hr';obtain⟨o,rfl,h3,h4⟩:=Hv h1
  exact⟨o,rfl,h3,h4⟩)
 exact⟨os,by rw[show Tryz.prog.cellsOf 57=2 by kernel_rfl],hos⟩
end Go.Proofs.YtmfnimjnneflnaaGreat
namespace Go.Am
section
variable {P:Program}
end
end Go.Am
namespace Go.Proofs.YtmfnimjnneflnaaGreat
open Go.Am Go.Sha
end Go.Proofs.YtmfnimjnneflnaaGreat
namespace Go.Sha
open Go.Proofs.YtmfnimjnneflnaaGreat
inductive McT where
 |a (s:McS)
 |z (e:Int) (n k:Nat) (J H:List Jk)
end Go.Sha
namespace Go.Proofs.YtmfnimjnneflnaaGreat
open Go.Am Go.Sha
def NA(b:List Nat):List Nat:=bO (bO b)
end Go.Proofs.YtmfnimjnneflnaaGreat
