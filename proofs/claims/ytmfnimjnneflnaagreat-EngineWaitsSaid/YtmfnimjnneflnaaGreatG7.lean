/-
 Part 8 of what the claim rests on.
-/
import Derived.Test.YtmfnimjnneflnaaGreatG5
import Derived.Test.YtmfnimjnneflnaaGreatG6
set_option linter.unusedVariables false
set_option linter.unusedSimpArgs false
set_option maxRecDepth 100000
set_option maxHeartbeats 16000000
namespace Go.Sha
structure Ip where
 hash:List Nat
 idx:Nat
 seq:Nat
 wit:List (List Nat)
structure Tn where
 ver:Nat
 ins:List Ip
 outs:List (Nat × List Nat)
 lock:Nat
def Ip.ok (i:Ip):Prop:=i.hash.length=32∧i.idx<4294967296∧i.seq<4294967296
def Tn.ok (t:Tn):Prop:=t.ver<4294967296∧t.lock<4294967296∧(∀ i,i ∈ t.ins→i.ok)∧(∀ o,o ∈ t.outs→o.1<18446744073709551616)
def eC (n:Nat) (xs:List (List Nat)):Bool:=xs.all fun x=>decide (x.length≤n)
def cp (n:Nat) (os:List (Nat × List Nat)):Bool:=os.all fun o=>decide (o.2.length≤n)
def gp (m n:Nat) (is:List Ip):Bool:=is.all fun i=>decide (i.wit.length≤m) && eC n i.wit
def fO (a m n:Nat) (t:Tn):Bool:=decide (t.ins.length≤a) && (decide (t.outs.length≤a) && (cp n t.outs && gp m n t.ins))
end Go.Sha
namespace Go.Proofs.YtmfnimjnneflnaaGreat
open Go.Am Go.Sha
def eO (o:Nat × List Nat):List DV:=[.int .u64 (o.1:Int),nb o.2]
def eI (i:Ip):List DV:=cd i.hash ++ [.int .u32 (i.idx:Int),.int .u32 (i.seq:Int),.ro 1 (i.wit.map bD)]
def eT (t:Tn):List AV:=[.d (.int .u32 (t.ver:Int)),.d (.ro 35 (t.ins.map eI)),.d (.ro 2 (t.outs.map eO)),.d (.int .u32 (t.lock:Int))]
def eS (t:Tn) (n:Int) (coins:List (Nat × List Nat)):List AV:=[.d (.int .u32 (t.ver:Int)),.d (.ro 35 (t.ins.map eI)),.d (.ro 2 (t.outs.map eO)),.d (.int .u32 (t.lock:Int)),.d (.int .i64 n),.d (.ro 2 (coins.map eO))]
theorem tn {i:Ip} (h:i.hash.length=32):(eI i).drop 34=[.ro 1 (i.wit.map bD)]:=by
 unfold eI;rw [List.drop_append,c_ (by rw [gZ];omega),gZ,h];rfl
theorem Vz {i:Ip} (h:i.hash.length=32):(eI i).drop 33=[.int .u32 (i.seq:Int),.ro 1 (i.wit.map bD)]:=by
 unfold eI;rw [List.drop_append,c_ (by rw [gZ];omega),gZ,h];rfl
theorem Ym {i:Ip} (h:i.hash.length=32):(eI i).drop 32=[.int .u32 (i.idx:Int),.int .u32 (i.seq:Int),.ro 1 (i.wit.map bD)]:=by
 unfold eI;rw [List.drop_append,c_ (by rw [gZ];omega),gZ,h];rfl
theorem qQ {i:Ip} (h:i.hash.length=32):(eI i).length=35:=by simp [eI,gZ,h]
theorem fx {α:Type} {l:List α} {k:Nat} {p:α→Bool} {x:α} {b:Bool} (hd:l.drop k=x :: l.drop (k+1)) (h:(l.drop k).all p=b) (hx:p x=true):(l.drop (k+1)).all p=b:=by
 rw [hd,List.all_cons,hx,Bool.true_and] at h;exact h
theorem ef {α:Type} {l:List α} {k:Nat} {p:α→Bool} {x:α} {b:Bool} (hd:l.drop k=x :: l.drop (k+1)) (h:(l.drop k).all p=b) (hx:p x=false):b=false:=by
 rw [hd,List.all_cons,hx,Bool.false_and] at h;exact h.symm
theorem fy {α:Type} {l:List α} {p:α→Bool} {b:Bool} (h:(l.drop l.length).all p=b):b=true:=by
 rw [List.drop_length] at h;exact h.symm
theorem BJ (t:Tn) (ht:t.ok):ax Tryz.prog 67 [.agg (eT t)] (fun r=>r=.d (.bool (fO 6 6 600 t))):=by
 obtain ⟨_,_,hi,_⟩:=ht;refine bO Tryz.func67 Tryz.ntmps67 (rs:=[.tmp 2]) (by simp [AV.deep,AV.deep1,eT]) ?_;by_cases h1:t.ins.length≤6
 ·by_cases h2:t.outs.length≤6
  ·have i1:¬ 6<(t.ins.length:Int):=aq;have i2:¬ 6<(t.outs.length:Int):=aq;have hw:fO 6 6 600 t=(cp 600 t.outs && gp 6 600 t.ins):=by simp [fO,h1,h2]
   rw [hw];simp [go_sem,eT,i1,i2]
   refine ar (fun k:Nat=>⟨[(1,.ptr 0 0 0 1),(3,.d (.int .i64 (k:Int)))],[(0,⟨26,4,[eT t]⟩)],2000⟩)
    (fun k=>k≤t.outs.length∧cp 600 (t.outs.drop k)=cp 600 t.outs) (fun k=>t.outs.length - k) 0 ⟨aq,rfl⟩ (by
     simp [aA,ai,fv,lk,AV.low,AV.low1,eT]) ?_
   rintro k ⟨hk,ho⟩;simp only [eT];simp only [go_sem,Nat.reduceEqDiff,Nat.reduceAdd,Nat.reduceLT,↓reduceIte,Nat.reduceMul];refine ⟨fun h=>?_,fun h=>?_⟩
   ·obtain ⟨o,ho1,hd⟩:=bm (l:=t.outs) (k:=k) aq;have w3:=az (k:=k) aq;by_cases hx:o.2.length≤600
    ·have j1:¬ 600<(o.2.length:Int):=aq;simp [go_sem,ho1,eO,nb,j1,w3];refine ao (k+1) ⟨aq,fx hd ho (by simpa using hx)⟩ aq ?_;simp [aA,ai,fv,lk,AV.low,AV.low1,eT]
    ·have j1:600<(o.2.length:Int):=aq;have:=ef hd ho (by simpa using hx);simp [go_sem,ho1,eO,nb,j1];exact aa a9 (by rw [this];rfl)
   ·have hkl:k=t.outs.length:=aq;subst hkl;have hO:cp 600 t.outs=true:=fy ho;rw [hO,Bool.true_and];clear ho h;simp [go_sem]
    refine ar (fun k:Nat=>⟨[(1,.ptr 0 0 0 1),(4,.d (.int .i64 (k:Int)))],[(0,⟨26,4,[eT t]⟩)],4000⟩)
     (fun k=>k≤t.ins.length∧gp 6 600 (t.ins.drop k)=gp 6 600 t.ins) (fun k=>t.ins.length - k) 0 ⟨aq,rfl⟩ (by
      simp [aA,ai,fv,lk,AV.low,AV.low1,eT]) ?_
    rintro k ⟨hk,ho⟩;simp only [eT];simp only [go_sem,Nat.reduceEqDiff,Nat.reduceAdd,Nat.reduceLT,↓reduceIte,Nat.reduceMul];refine ⟨fun h=>?_,fun h=>?_⟩
    ·obtain ⟨i,hi1,hd⟩:=bm (l:=t.ins) (k:=k) aq;have hi32:=(hi i (cr hi1)).1;by_cases hx:i.wit.length≤6
     ·have j1:¬ 6<(i.wit.length:Int):=aq;simp [go_sem,hi1,tn hi32,j1]
      refine ar (fun j:Nat=>⟨[(1,.ptr 0 0 0 1),(4,.d (.int .i64 (k:Int))),(5,.d (.int .i64 (j:Int)))],[(0,⟨26,4,[eT t]⟩)],6000⟩)
       (fun j=>j≤i.wit.length∧eC 600 (i.wit.drop j)=eC 600 i.wit) (fun j=>i.wit.length - j) 0 ⟨aq,rfl⟩ (by
        simp [aA,ai,fv,lk,AV.low,AV.low1,eT]) ?_
      rintro j ⟨hj,ho2⟩;simp only [eT];simp [go_sem,hi1,tn hi32];refine ⟨fun h'=>?_,fun h'=>?_⟩
      ·obtain ⟨x,hx1,hd2⟩:=bm (l:=i.wit) (k:=j) aq;have w4:=az (k:=j) aq;by_cases hy:x.length≤600
       ·have j2:¬ 600<(x.length:Int):=aq;simp [go_sem,hi1,tn hi32,hx1,bD,nb,j2,w4];intro _;refine ao (j+1) ⟨aq,fx hd2 ho2 (by simpa using hy)⟩ aq ?_;simp [aA,ai,fv,lk,AV.low,AV.low1,eT]
       ·have j2:600<(x.length:Int):=aq;have h3:=ef hd2 ho2 (by simpa using hy);have:=ef hd ho (by rw [show eC 600 i.wit=false from h3];simp);simp [go_sem,hi1,tn hi32,hx1,bD,nb,j2];refine ⟨?_,fun h=>aq⟩;exact aa a9 (by rw [show gp 6 600 t.ins=false from this])
      ·have hjl:j=i.wit.length:=aq;subst hjl;have h3:eC 600 i.wit=true:=fy ho2;have w4:=az (k:=k) aq;simp [go_sem,w4];refine ao (k+1) ⟨aq,fx hd ho (by rw [h3];simpa using hx)⟩ aq ?_;simp [aA,ai,fv,lk,AV.low,AV.low1,eT]
     ·have j1:6<(i.wit.length:Int):=aq;have:=ef hd ho (by simp;omega);simp [go_sem,hi1,tn hi32,j1];exact aa a9 (by rw [show gp 6 600 t.ins=false from this])
    ·have hkl:k=t.ins.length:=aq;subst hkl;have hI:gp 6 600 t.ins=true:=fy ho;simp [go_sem];exact aa a9 (by rw [hI])
  ·have i1:¬ 6<(t.ins.length:Int):=aq;have i2:6<(t.outs.length:Int):=aq;simp [go_sem,eT,i1,i2];exact aa a9 (by simp [fO,h2])
 ·have i1:6<(t.ins.length:Int):=aq;simp [go_sem,eT,i1];exact aa a9 (by simp [fO,h1])
theorem BK (t:Tn) (ht:t.ok):ax Tryz.prog 107 [.agg (eT t)] (fun r=>r=.d (.bool (fO 20 30 1000 t))):=by
 obtain ⟨_,_,hi,_⟩:=ht;refine bO Tryz.func107 Tryz.ntmps107 (rs:=[.tmp 2]) (by simp [AV.deep,AV.deep1,eT]) ?_;by_cases h1:t.ins.length≤20
 ·by_cases h2:t.outs.length≤20
  ·have i1:¬ 20<(t.ins.length:Int):=aq;have i2:¬ 20<(t.outs.length:Int):=aq;have hw:fO 20 30 1000 t=(cp 1000 t.outs && gp 30 1000 t.ins):=by simp [fO,h1,h2]
   rw [hw];simp [go_sem,eT,i1,i2]
   refine ar (fun k:Nat=>⟨[(1,.ptr 0 0 0 1),(3,.d (.int .i64 (k:Int)))],[(0,⟨26,4,[eT t]⟩)],2000⟩)
    (fun k=>k≤t.outs.length∧cp 1000 (t.outs.drop k)=cp 1000 t.outs) (fun k=>t.outs.length - k) 0 ⟨aq,rfl⟩ (by
     simp [aA,ai,fv,lk,AV.low,AV.low1,eT]) ?_
   rintro k ⟨hk,ho⟩;simp only [eT];simp only [go_sem,Nat.reduceEqDiff,Nat.reduceAdd,Nat.reduceLT,↓reduceIte,Nat.reduceMul];refine ⟨fun h=>?_,fun h=>?_⟩
   ·obtain ⟨o,ho1,hd⟩:=bm (l:=t.outs) (k:=k) aq;have w3:=az (k:=k) aq;by_cases hx:o.2.length≤1000
    ·have j1:¬ 1000<(o.2.length:Int):=aq;simp [go_sem,ho1,eO,nb,j1,w3];refine ao (k+1) ⟨aq,fx hd ho (by simpa using hx)⟩ aq ?_;simp [aA,ai,fv,lk,AV.low,AV.low1,eT]
    ·have j1:1000<(o.2.length:Int):=aq;have:=ef hd ho (by simpa using hx);simp [go_sem,ho1,eO,nb,j1];exact aa a9 (by rw [this];rfl)
   ·have hkl:k=t.outs.length:=aq;subst hkl;have hO:cp 1000 t.outs=true:=fy ho;rw [hO,Bool.true_and];clear ho h;simp [go_sem]
    refine ar (fun k:Nat=>⟨[(1,.ptr 0 0 0 1),(4,.d (.int .i64 (k:Int)))],[(0,⟨26,4,[eT t]⟩)],4000⟩)
     (fun k=>k≤t.ins.length∧gp 30 1000 (t.ins.drop k)=gp 30 1000 t.ins) (fun k=>t.ins.length - k) 0 ⟨aq,rfl⟩ (by
      simp [aA,ai,fv,lk,AV.low,AV.low1,eT]) ?_
    rintro k ⟨hk,ho⟩;simp only [eT];simp only [go_sem,Nat.reduceEqDiff,Nat.reduceAdd,Nat.reduceLT,↓reduceIte,Nat.reduceMul];refine ⟨fun h=>?_,fun h=>?_⟩
    ·obtain ⟨i,hi1,hd⟩:=bm (l:=t.ins) (k:=k) aq;have hi32:=(hi i (cr hi1)).1;by_cases hx:i.wit.length≤30
     ·have j1:¬ 30<(i.wit.length:Int):=aq;simp [go_sem,hi1,tn hi32,j1]
      refine ar (fun j:Nat=>⟨[(1,.ptr 0 0 0 1),(4,.d (.int .i64 (k:Int))),(5,.d (.int .i64 (j:Int)))],[(0,⟨26,4,[eT t]⟩)],6000⟩)
       (fun j=>j≤i.wit.length∧eC 1000 (i.wit.drop j)=eC 1000 i.wit) (fun j=>i.wit.length - j) 0 ⟨aq,rfl⟩ (by
        simp [aA,ai,fv,lk,AV.low,AV.low1,eT]) ?_
      rintro j ⟨hj,ho2⟩;simp only [eT];simp [go_sem,hi1,tn hi32];refine ⟨fun h'=>?_,fun h'=>?_⟩
      ·obtain ⟨x,hx1,hd2⟩:=bm (l:=i.wit) (k:=j) aq;have w4:=az (k:=j) aq;by_cases hy:x.length≤1000
       ·have j2:¬ 1000<(x.length:Int):=aq;simp [go_sem,hi1,tn hi32,hx1,bD,nb,j2,w4];intro _;refine ao (j+1) ⟨aq,fx hd2 ho2 (by simpa using hy)⟩ aq ?_;simp [aA,ai,fv,lk,AV.low,AV.low1,eT]
       ·have j2:1000<(x.length:Int):=aq;have h3:=ef hd2 ho2 (by simpa using hy);have:=ef hd ho (by rw [show eC 1000 i.wit=false from h3];simp);simp [go_sem,hi1,tn hi32,hx1,bD,nb,j2];refine ⟨?_,fun h=>aq⟩;exact aa a9 (by rw [show gp 30 1000 t.ins=false from this])
      ·have hjl:j=i.wit.length:=aq;subst hjl;have h3:eC 1000 i.wit=true:=fy ho2;have w4:=az (k:=k) aq;simp [go_sem,w4];refine ao (k+1) ⟨aq,fx hd ho (by rw [h3];simpa using hx)⟩ aq ?_;simp [aA,ai,fv,lk,AV.low,AV.low1,eT]
     ·have j1:30<(i.wit.length:Int):=aq;have:=ef hd ho (by simp;omega);simp [go_sem,hi1,tn hi32,j1];exact aa a9 (by rw [show gp 30 1000 t.ins=false from this])
    ·have hkl:k=t.ins.length:=aq;subst hkl;have hI:gp 30 1000 t.ins=true:=fy ho;simp [go_sem];exact aa a9 (by rw [hI])
  ·have i1:¬ 20<(t.ins.length:Int):=aq;have i2:20<(t.outs.length:Int):=aq;simp [go_sem,eT,i1,i2];exact aa a9 (by simp [fO,h2])
 ·have i1:20<(t.ins.length:Int):=aq;simp [go_sem,eT,i1];exact aa a9 (by simp [fO,h1])
theorem DW (x:List Nat):ax Tryz.prog 142 [.d (nb x)] (fun r=>r=.d (.bool (decide (1000<x.length)))):=by
 refine bO Tryz.func142 Tryz.ntmps142 (rs:=[.tmp 2]) a9 ?_;simp [go_sem,nb];refine aa a9 ?_;have:((1000:Int)<(x.length:Int)) ↔ 1000<x.length:=aq;simp [this]
theorem F3 (o:Nat × List Nat):ax Tryz.prog 90 [.agg ((eO o).map .d)] (fun r=>r=.d (.bool (decide (1000<o.2.length)))):=by
 refine bO Tryz.func90 Tryz.ntmps90 (rs:=[.tmp 2]) (by simp [AV.deep,AV.deep1,eO]) ?_;simp [go_sem,eO,nb];refine aa a9 ?_;have:((1000:Int)<(o.2.length:Int)) ↔ 1000<o.2.length:=aq;simp [this]
theorem F4 (xs:List (List Nat)) (hl:xs.length≤1000000000):ax Tryz.prog 173 [.d (.ro 1 (xs.map bD)),.fn 142 []] (fun r=>∃ n:Int,r=.d (.int .i64 n)∧decide (0≤n)=!eC 1000 xs):=by
 refine bO Tryz.func173 Tryz.ntmps173 (rs:=[.tmp 4]) a9 ?_;simp [go_sem]
 refine ar (fun k:Nat=>⟨[(0,.d (.ro 1 (xs.map bD))),(1,.fn 142 []),(7,.d (.int .i64 (xs.length:Int))),(8,.d (.int .i64 (k:Int)))],[],1000⟩)
  (fun k=>k≤xs.length∧eC 1000 (xs.drop k)=eC 1000 xs) (fun k=>xs.length - k) 0 ⟨aq,rfl⟩ (by
   simp [aA,ai,fv,lk,AV.low,AV.low1]) ?_
 rintro k ⟨hk,ho⟩;simp only [go_sem,Nat.reduceEqDiff,Nat.reduceAdd,Nat.reduceLT,↓reduceIte,Nat.reduceMul];refine ⟨fun h=>?_,fun h=>?_⟩
 ·obtain ⟨x,hx1,hd⟩:=bm (l:=xs) (k:=k) aq;have w3:=az (k:=k) aq;simp [go_sem,hx1,bD];refine ag (DW x) a9 ?_;by_cases hx:x.length≤1000
  ·have j1:¬ 1000<x.length:=aq;simp [go_sem,j1,w3];refine ao (k+1) ⟨aq,fx hd ho (by simpa using hx)⟩ aq ?_;simp [aA,ai,fv,lk,AV.low,AV.low1]
  ·have j1:1000<x.length:=aq;have:=ef hd ho (by simpa using hx);simp [go_sem,j1];exact aa a9 ⟨_,rfl,by rw [show eC 1000 xs=false from this];simp⟩
 ·have hkl:k=xs.length:=aq;subst hkl;have hI:eC 1000 xs=true:=fy ho;simp [go_sem];exact aa a9 ⟨_,rfl,by rw [hI];rfl⟩
theorem xp (xs:List (List Nat)) (hl:xs.length≤1000000000):ax Tryz.prog 143 [.d (.ro 1 (xs.map bD)),.fn 142 []] (fun r=>r=.d (.bool (!eC 1000 xs))):=by
 refine bO Tryz.func143 Tryz.ntmps143 (rs:=[.tmp 4]) a9 ?_;simp [go_sem];refine Pg (F4 xs hl) a9 ?_;rintro r ⟨n,rfl,hn⟩;rw [← hn];simp [go_sem];exact aa a9 rfl
theorem F5 (xs:List (Nat × List Nat)) (hl:xs.length≤1000000000):ax Tryz.prog 136 [.d (.ro 2 (xs.map eO)),.fn 90 []] (fun r=>∃ n:Int,r=.d (.int .i64 n)∧decide (0≤n)=!cp 1000 xs):=by
 refine bO Tryz.func136 Tryz.ntmps136 (rs:=[.tmp 4]) a9 ?_;simp [go_sem]
 refine ar (fun k:Nat=>⟨[(0,.d (.ro 2 (xs.map eO))),(1,.fn 90 []),(7,.d (.int .i64 (xs.length:Int))),(8,.d (.int .i64 (k:Int)))],[],1000⟩)
  (fun k=>k≤xs.length∧cp 1000 (xs.drop k)=cp 1000 xs) (fun k=>xs.length - k) 0 ⟨aq,rfl⟩ (by
   simp [aA,ai,fv,lk,AV.low,AV.low1]) ?_
 rintro k ⟨hk,ho⟩;simp only [go_sem,Nat.reduceEqDiff,Nat.reduceAdd,Nat.reduceLT,↓reduceIte,Nat.reduceMul];refine ⟨fun h=>?_,fun h=>?_⟩
 ·obtain ⟨x,hx1,hd⟩:=bm (l:=xs) (k:=k) aq;have w3:=az (k:=k) aq;have hrow:(eO x).length=2:=rfl;simp [go_sem,hx1,hrow];refine ag (F3 x) (by simp [AV.deep,AV.deep1,eO]) ?_;by_cases hx:x.2.length≤1000
  ·have j1:¬ 1000<x.2.length:=aq;simp [go_sem,j1,w3];refine ao (k+1) ⟨aq,fx hd ho (by simpa using hx)⟩ aq ?_;simp [aA,ai,fv,lk,AV.low,AV.low1]
  ·have j1:1000<x.2.length:=aq;have:=ef hd ho (by simpa using hx);simp [go_sem,j1];exact aa a9 ⟨_,rfl,by rw [show cp 1000 xs=false from this];simp⟩
 ·have hkl:k=xs.length:=aq;subst hkl;have hI:cp 1000 xs=true:=fy ho;simp [go_sem];exact aa a9 ⟨_,rfl,by rw [hI];rfl⟩
theorem xq (xs:List (Nat × List Nat)) (hl:xs.length≤1000000000):ax Tryz.prog 91 [.d (.ro 2 (xs.map eO)),.fn 90 []] (fun r=>r=.d (.bool (!cp 1000 xs))):=by
 refine bO Tryz.func91 Tryz.ntmps91 (rs:=[.tmp 4]) a9 ?_;simp [go_sem];refine Pg (F5 xs hl) a9 ?_;rintro r ⟨n,rfl,hn⟩;rw [← hn];simp [go_sem];exact aa a9 rfl
end Go.Proofs.YtmfnimjnneflnaaGreat
namespace Go.Sha
def bY (x:List Nat):List Nat:=au x.length ++ x
def qR (xs:List (List Nat)):List Nat:=(xs.map bY).flatten
def kW (xs:List (List Nat)):List Nat:=au xs.length ++ qR xs
def DX (i:Ip):List Nat:=i.hash ++ (le i.idx 4 ++ le i.seq 4)
def tp (l:List Ip):List Nat:=(l.map DX).flatten
def fA (o:Nat × List Nat):List Nat:=le o.1 8 ++ bY o.2
def jw (l:List (Nat × List Nat)):List Nat:=(l.map fA).flatten
def kX (t:Tn):List Nat:=le t.ver 4 ++ (au t.ins.length ++ (tp t.ins ++ (au t.outs.length ++ (jw t.outs ++ le t.lock 4))))
def VA (l:List Ip):List Nat:=(l.map fun i=>kW i.wit).flatten
def gq (t:Tn):List Nat:=kX t ++ VA t.ins
def VB (xs:List (List Nat)):Prop:=xs.length≤6∧∀ x,x ∈ xs→x.length≤600
theorem jZ (x:List Nat):(bY x).length≤5+x.length:=by
 have:=bU x.length;unfold bY;rw [b_];omega
theorem tq:∀ (xs:List (List Nat)),(∀ x,x ∈ xs→x.length≤600)→(qR xs).length≤605*xs.length
 | [],_=>by simp [qR]
 | x :: r,h=>by
  have ih:=tq r fun y hy=>h y (cS _ hy);have hx:=h x (dz ..);have h1:=jZ x;have e:(qR (x :: r)).length=(bY x).length+(qR r).length:=by simp [qR]
  rw [e,List.length_cons];omega
theorem vM {xs:List (List Nat)} (h:VB xs):(kW xs).length≤3635:=by
 have h1:=tq xs h.2;have h2:=bU xs.length;have h3:=h.1;unfold kW;rw [b_];omega
end Go.Sha
namespace Go.Proofs.YtmfnimjnneflnaaGreat
open Go.Am Go.Sha
theorem F6 (b:List Nat) (x n:Nat) (hb:b.length≤1000000) (hx:x<18446744073709551616) (hn:n≤8):cj Tryz.prog 145 0 [] [.d (nb b),.d (.int .u64 (x:Int)),.d (.int .i64 (n:Int))] (s7 (b ++ le x n)):=by
 refine al Tryz.func145 (by kernel_rfl) rfl Tryz.ntmps145 (rs:=[.tmp 6]) rfl (dT rfl) (by decide) ?_;have w1:IntKind.i64.wrap ((b.length:Int)+(n:Int))=((b.length+n:Nat):Int):=by rw [IntWalk.i64_in _ aq];omega
 have hr:List.replicate b.length [AV.d (.int .u8 0)]=rb (List.replicate b.length 0):=by simp [rb]
 simp only [go_sem,Nat.reduceEqDiff,Nat.reduceAdd,Nat.reduceLT,↓reduceIte,Nat.reduceMul,w1,nb,List.length_map,Int.toNat_natCast,hr];simp [go_sem,cE,aG];rw [oC];refine ⟨aq,aq,aq,aq,?_⟩
 refine ar (fun k:Nat=>⟨[(7,.own 225 0 (b ++ le x k).length (b ++ le x k).length),(8,.d (.int .u64 ((dY (8*k) x:Nat):Int))),(20,.d (.int .i64 (n:Int))),(21,.d (.int .i64 (k:Int)))],[(225,⟨5,1,rb (b ++ le x k)⟩)],545⟩)
  (fun k=>k≤n) (fun k=>n - k) 0 aq (by
   simp [aA,ai,fv,lk,AV.low,AV.low1,le,dY]
   exact bg _ _) ?_
 intro k hk;have hl:(b ++ le x k).length=b.length+k:=by rw [b_,aJ]
 have hs:rb (b ++ le x k) ++ [[AV.d (.int .u8 ((t8 (dY (8*k) x):Nat):Int))]]=rb (b ++ le x (k+1)):=by rw [gj,cA];rfl
 have w5:=az (k:=k) aq;simp only [go_sem,Nat.reduceEqDiff,Nat.reduceAdd,Nat.reduceLT,↓reduceIte];refine ⟨fun h=>?_,fun h=>?_⟩
 ·simp [go_sem,eR,aG,hs,aJ,IntKind.bits,zq,s6,w5];refine ⟨aq,?_⟩;refine ao (k+1) aq aq ?_;simp [aA,ai,fv,lk,AV.low,AV.low1,aJ];exact ⟨aq,bg _ _⟩
 ·have hkn:k=n:=aq;subst hkn;exact ⟨225,by rw [b_],rfl⟩
theorem fH (b:List Nat) (x:Nat) (hb:b.length≤1000000) (hx:x<4294967296):cj Tryz.prog 59 0 [] [.d (nb b),.d (.int .u32 (x:Int))] (s7 (b ++ le x 4)):=by
 refine al Tryz.func59 (by kernel_rfl) rfl Tryz.ntmps59 (rs:=[.tmp 4]) rfl (dT rfl) (by decide) ?_;simp [go_sem];refine aN [] (vB b x 4 hb hx aq) rfl aw aw aw (by simp [AV.renL,AV.ren]) ?_;rintro r hp' ⟨rfl,h0⟩;refine ⟨[(225,0)],rfl,?_⟩;simp [go_sem,bP,bC,h0,Blk.ren,aL,cF,AV.renL,AV.ren,bR,ah,s7]
theorem F7 (b:List Nat) (x:Nat) (hb:b.length≤1000000) (hx:x<18446744073709551616):cj Tryz.prog 103 0 [] [.d (nb b),.d (.int .u64 (x:Int))] (s7 (b ++ le x 8)):=by
 refine al Tryz.func103 (by kernel_rfl) rfl Tryz.ntmps103 (rs:=[.tmp 4]) rfl (dT rfl) (by decide) ?_;simp [go_sem];refine aN [] (F6 b x 8 hb hx aq) rfl aw aw aw (by simp [AV.renL,AV.ren]) ?_;rintro r hp' ⟨I,rfl,h0⟩;refine ⟨[(I,0)],by simp [cv,ff],?_⟩;simp [go_sem,bP,bC,h0,Blk.ren,aL,cF,AV.renL,AV.ren,bR,ah,s7]
theorem ii (b:List Nat) (x:Nat) (hb:b.length≤1000000) (hx:x<4294967296):ax Tryz.prog 59 [.d (nb b),.d (.int .u32 (x:Int))] (fun r=>r=.d (nb (b ++ le x 4))):=kV (fH b x hb hx) a9
theorem tu (b:List Nat) (x:Nat) (hb:b.length≤1000000) (hx:x<18446744073709551616):ax Tryz.prog 103 [.d (nb b),.d (.int .u64 (x:Int))] (fun r=>r=.d (nb (b ++ le x 8))):=kV (F7 b x hb hx) a9
theorem tw (b:List Nat) (n:Nat) (hb:b.length≤100000) (hn:n<4294967296):ax Tryz.prog 109 [.d (nb b),.d (.int .u64 (n:Int))] (fun r=>r=.d (nb (b ++ au n))):=kV (mI b n hb hn) a9
theorem rK (b:List Nat) (n:Nat) (hb:b.length≤1000000) (hn:n<4294967296):ax Tryz.prog 175 [.d (nb b),.d (.int .u64 (n:Int))] (fun r=>r=.d (nb (b ++ au n))):=kV (lC b n hb hn) a9
def d0 {α:Type} (f:α→List Nat) (l:List α) (k:Nat):List Nat:=((l.drop k).map f).flatten
theorem dB {α:Type} {f:α→List Nat} {l:List α} {k:Nat} {x:α} {B R:List Nat} (hd:l.drop k=x :: l.drop (k+1)) (h:B ++ d0 f l k=R):(B ++ f x) ++ d0 f l (k+1)=R:=by
 unfold d0 at *;rw [hd,List.map_cons,List.flatten_cons,← cA] at h;exact h
theorem dC {α:Type} {f:α→List Nat} {l:List α} {B R:List Nat} (h:B ++ d0 f l l.length=R):B=R:=by
 unfold d0 at h;rw [List.drop_length] at h
 simpa using h
theorem tA (b:List Nat) (xs:List (List Nat)) (hb:b.length≤50000) (hx:VB xs):ax Tryz.prog 94 [.d (nb b),.d (.ro 1 (xs.map bD))] (fun r=>r=.d (nb (b ++ kW xs))):=by
 refine bO Tryz.func94 Tryz.ntmps94 (rs:=[.tmp 4]) a9 ?_;obtain ⟨hl,hx⟩:=hx;have hp5:=bU xs.length;have w:IntKind.u64.wrap (xs.length:Int)=(xs.length:Int):=by rw [gn];omega
 have hR0:(b ++ au xs.length) ++ d0 bY xs 0=b ++ kW xs:=by rw [cA];rfl
 generalize b ++ kW xs=R at *;simp [go_sem,w];refine ag (tw b xs.length aq aq) a9 ?_;have hB0:(b ++ au xs.length).length≤50005:=by rw [b_];omega
 generalize b ++ au xs.length=B0 at *;simp [go_sem]
 refine ar (fun t:Nat × List Nat=>⟨[(5,.d (nb t.2)),(13,.d (.ro 1 (xs.map bD))),(14,.d (.int .i64 (xs.length:Int))),(15,.d (.int .i64 (t.1:Int)))],[],1000⟩)
  (fun t=>t.1≤xs.length∧t.2.length≤50005+605*t.1∧t.2 ++ d0 bY xs t.1=R) (fun t=>xs.length - t.1) (0,B0) ⟨aw,by simp;omega,hR0⟩ (by
   simp [aA,ai,fv,lk,AV.low,AV.low1,nb]) ?_
 rintro ⟨k,B⟩ ⟨hk,hBl,hR⟩;simp only at hk hBl hR;simp only [go_sem,Nat.reduceEqDiff,Nat.reduceAdd,Nat.reduceLT,↓reduceIte,Nat.reduceMul];refine ⟨fun h=>?_,fun h=>?_⟩
 ·obtain ⟨x,hx1,hd⟩:=bm (l:=xs) (k:=k) aq;have hxl:=hx x (cr hx1);have w3:=az (k:=k) aq;have hbl:=jZ x;simp [go_sem,hx1,bD];refine ag (fi B x aq aq) a9 ?_;simp [go_sem,w3];refine ao (k+1,B ++ bY x) ⟨by simp only;omega,by simp only [b_];omega,dB hd hR⟩ (by simp only;omega) ?_;simp [aA,ai,fv,lk,AV.low,AV.low1,nb,bY]
 ·have hkl:k=xs.length:=aq;subst hkl;have:=dC hR;subst this;simp [go_sem];exact aa a9 rfl
theorem zF (b:List Nat) (xs:List (List Nat)) (hb:b.length≤50000) (hx:VB xs):ax Tryz.prog 150 [.d (nb b),.d (.ro 1 (xs.map bD))] (fun r=>r=.d (nb (b ++ kW xs))):=by
 refine bO Tryz.func150 Tryz.ntmps150 (rs:=[.tmp 4]) a9 ?_;obtain ⟨hl,hx⟩:=hx;have hp5:=bU xs.length;have w:IntKind.u64.wrap (xs.length:Int)=(xs.length:Int):=by rw [gn];omega
 have hR0:(b ++ au xs.length) ++ d0 bY xs 0=b ++ kW xs:=by rw [cA];rfl
 generalize b ++ kW xs=R at *;simp [go_sem,w];refine ag (rK b xs.length aq aq) a9 ?_;have hB0:(b ++ au xs.length).length≤50005:=by rw [b_];omega
 generalize b ++ au xs.length=B0 at *;simp [go_sem]
 refine ar (fun t:Nat × List Nat=>⟨[(1,.d (.ro 1 (xs.map bD))),(5,.d (nb t.2)),(6,.d (.int .i64 (t.1:Int)))],[],1000⟩)
  (fun t=>t.1≤xs.length∧t.2.length≤50005+605*t.1∧t.2 ++ d0 bY xs t.1=R) (fun t=>xs.length - t.1) (0,B0) ⟨aw,by simp;omega,hR0⟩ (by
   simp [aA,ai,fv,lk,AV.low,AV.low1,nb]) ?_
 rintro ⟨k,B⟩ ⟨hk,hBl,hR⟩;simp only at hk hBl hR;simp only [go_sem,Nat.reduceEqDiff,Nat.reduceAdd,Nat.reduceLT,↓reduceIte,Nat.reduceMul];refine ⟨fun h=>?_,fun h=>?_⟩
 ·obtain ⟨x,hx1,hd⟩:=bm (l:=xs) (k:=k) aq;have hxl:=hx x (cr hx1);have w3:=az (k:=k) aq;have hbl:=jZ x;simp [go_sem,hx1,bD];refine ag (pI B x aq aq) a9 ?_;simp [go_sem,w3];refine ao (k+1,B ++ bY x) ⟨by simp only;omega,by simp only [b_];omega,dB hd hR⟩ (by simp only;omega) ?_;simp [aA,ai,fv,lk,AV.low,AV.low1,nb,bY]
 ·have hkl:k=xs.length:=aq;subst hkl;have:=dC hR;subst this;simp [go_sem];exact aa a9 rfl
end Go.Proofs.YtmfnimjnneflnaaGreat
namespace Go.Sha
theorem xu {i:Ip} (h:i.hash.length=32):(DX i).length=40:=by simp [DX,h,aJ]
theorem tB (o:Nat × List Nat):(fA o).length≤13+o.2.length:=by
 have:=jZ o.2;unfold fA;rw [b_,aJ];omega
def Sm (t:Tn):Prop:=t.ok∧t.ins.length≤6∧t.outs.length≤6∧(∀ o,o ∈ t.outs→o.2.length≤600)∧∀ i,i ∈ t.ins→VB i.wit
theorem VC {t:Tn} (h:t.ok) (hw:fO 6 6 600 t=true):Sm t:=by
 simp only [fO,Bool.and_eq_true,decide_eq_true_eq,cp,gp,eC,d7] at hw;obtain ⟨h1,h2,h3,h4⟩:=hw;exact ⟨h,h1,h2,h3,fun i hi=>⟨(h4 i hi).1,(h4 i hi).2⟩⟩
end Go.Sha
namespace Go.Proofs.YtmfnimjnneflnaaGreat
open Go.Am Go.Sha
def qS (i:Ip):List AV:=cb i.hash ++ [.d (.int .u32 (i.idx:Int)),.d (.int .u32 (i.seq:Int)),.d (.ro 1 (i.wit.map bD))]
theorem zG (i:Ip):(eI i).map AV.d=qS i:=by simp [eI,qS,lB]
theorem nI {i:Ip} (h:i.hash.length=32):(qS i).length=35:=by simp [qS,am,h]
theorem Yn {i:Ip} (h:i.hash.length=32):(qS i)[32]?=some (.d (.int .u32 (i.idx:Int))):=by
 rw [qS,dn (by rw [am];omega),am,h];rfl
theorem Yo {i:Ip} (h:i.hash.length=32):(qS i)[33]?=some (.d (.int .u32 (i.seq:Int))):=by
 rw [qS,dn (by rw [am];omega),am,h];rfl
theorem Yp {i:Ip} (h:i.hash.length=32):(qS i)[34]?=some (.d (.ro 1 (i.wit.map bD))):=by
 rw [qS,dn (by rw [am];omega),am,h];rfl
theorem Pq {i:Ip} (h:i.hash.length=32) (hl:32<(qS i).length):(qS i)[32]=.d (.int .u32 (i.idx:Int)):=by
 have:=Yn h;rw [cm hl] at this;exact Option.some.inj this
theorem Px {i:Ip} (h:i.hash.length=32) (hl:33<(qS i).length):(qS i)[33]=.d (.int .u32 (i.seq:Int)):=by
 have:=Yo h;rw [cm hl] at this;exact Option.some.inj this
theorem Py {i:Ip} (h:i.hash.length=32) (hl:34<(qS i).length):(qS i)[34]=.d (.ro 1 (i.wit.map bD)):=by
 have:=Yp h;rw [cm hl] at this;exact Option.some.inj this
theorem mP {i:Ip} (h:i.hash.length=32):(qS i).take 35=qS i:=cx (by rw [nI h];omega)
theorem Nv (n:Nat) (i:Ip):∀ v,v ∈ qS i→v.low1 n:=by
 intro v hv;simp only [qS,cD,d_,List.mem_nil_iff,or_false] at hv;rcases hv with hv | rfl | rfl | rfl
 ·exact aO _ _ _ hv
 ·trivial
 ·trivial
 ·trivial
theorem zH {i:Ip} (h:i.hash.length=32):(List.range 32).map (fun k=>((qS i).drop k).take 1)=rb i.hash:=by
 have h1:=gW h;rw [cE] at h1;rw [← h1];apply List.map_congr_left;intro k hk;have hk:=List.mem_range.1 hk;unfold qS;rw [List.drop_append_of_le_length (by rw [am];omega),List.take_append_of_le_length (by rw [et,am];omega)]
theorem Zz:eV Tryz.prog 68=some (cb z32 ++ [.d (.int .u32 0),.d (.int .u32 0),.nil]):=by kernel_rfl
attribute [go_sem] Zz
theorem mQ:List.drop 35 (cb z32 ++ [AV.d (.int .u32 0),AV.d (.int .u32 0),AV.nil])=[]:=rfl
theorem Nw (t:Tn) (ht:Sm t):ax Tryz.prog 144 [.agg (eT t)] (fun r=>r=.d (nb (kX t))):=by
 obtain ⟨⟨hv,hlk,hi,ho⟩,h1,h2,h3,h4⟩:=ht;refine bO Tryz.func144 Tryz.ntmps144 (rs:=[.tmp 2]) (by simp [AV.deep,AV.deep1,eT]) ?_;have w1:IntKind.u64.wrap (t.ins.length:Int)=(t.ins.length:Int):=by rw [gn];omega
 have w2:IntKind.u64.wrap (t.outs.length:Int)=(t.outs.length:Int):=by rw [gn];omega
 have hp1:=bU t.ins.length;have hp2:=bU t.outs.length;simp [go_sem,eT];refine bN [] (ii [] t.ver aw hv) rfl (aj (.one (ak (.nil 1))) (aj (.deep a9) aD)) ?_;simp [go_sem,aE,w1];refine aN [] (mI (le t.ver 4) t.ins.length (by simp [aJ]) aq) rfl aw aw aw (by simp [AV.renL,AV.ren]) ?_;rintro r hp' ⟨I,rfl,h0⟩;refine ⟨[(I,0)],by simp [cv,ff],?_⟩;have hB0:(le t.ver 4 ++ au t.ins.length).length≤9:=by rw [b_,aJ];omega
 have hR0:(le t.ver 4 ++ au t.ins.length) ++ d0 DX t.ins 0=le t.ver 4 ++ au t.ins.length ++ tp t.ins:=rfl;have hR9:kX t=(le t.ver 4 ++ au t.ins.length ++ tp t.ins) ++ (au t.outs.length ++ (jw t.outs ++ le t.lock 4)):=by simp [kX]
 rw [hR9];generalize le t.ver 4 ++ au t.ins.length ++ tp t.ins=R1 at *;generalize le t.ver 4 ++ au t.ins.length=B0 at *;simp [go_sem,bP,bC,h0,Blk.ren,aL,cF,AV.renL,AV.ren,bR]
 refine ar (fun u:Nat × List Nat=>⟨[(1,.ptr 0 0 0 1),(3,.own 352 0 u.2.length u.2.length),(18,.d (.ro 35 (t.ins.map eI))),(19,.d (.int .i64 (t.ins.length:Int))),(20,.d (.int .i64 (u.1:Int)))],[(352,⟨5,1,rb u.2⟩),(0,⟨26,4,[eT t]⟩)],2000⟩)
  (fun u=>u.1≤t.ins.length∧u.2.length≤9+40*u.1∧u.2 ++ d0 DX t.ins u.1=R1) (fun u=>t.ins.length - u.1) (0,B0) ⟨aw,by simp;omega,hR0⟩ (by
   simp [aA,ai,fv,lk,AV.low,AV.low1,eT]
   exact bg _ _) ?_
 rintro ⟨k,B⟩ ⟨hk,hBl,hR⟩;simp only at hk hBl hR;simp only [eT];simp only [go_sem,Nat.reduceEqDiff,Nat.reduceAdd,Nat.reduceLT,↓reduceIte,Nat.reduceMul];refine ⟨fun h=>?_,fun h=>?_⟩
 ·obtain ⟨i,hi1,hd⟩:=bm (l:=t.ins) (k:=k) aq;obtain ⟨hi32,hidx,hseq⟩:=hi i (cr hi1);have w3:=az (k:=k) aq;have hil:=xu hi32;have hel:=qQ hi32;have hcl:=nI hi32;have hx:=zH hi32;simp [go_sem] at hx;simp [go_sem,hi1,hel,zG,hcl,mP hi32,mQ,hx,aG,Pq hi32,iK];refine ⟨aq,?_⟩;have hBh:(B ++ i.hash).length=B.length+32:=by rw [b_,hi32]
  refine gQ [352] (fH (B ++ i.hash) i.idx aq hidx) rfl (aj (.one (ak (aM hBh rfl aw))) (aj (.deep a9) aD)) (fun ρ=>by simp [AV.renL,AV.ren]) ?_;rintro r hp' ⟨I,rfl,h0⟩;refine ⟨[(I,0)],by simp [cv,ff],?_⟩;have hB1:(B ++ i.hash ++ le i.idx 4).length=B.length+36:=by rw [b_,hBh,aJ]
  have hB3:B ++ DX i=B ++ i.hash ++ le i.idx 4 ++ le i.seq 4:=by simp [DX]
  generalize B ++ i.hash ++ le i.idx 4=B1 at *;simp [go_sem,bP,bC,h0,Blk.ren,aL,cF,AV.renL,AV.ren,bR,aE,hcl,Px hi32];refine gQ [2480] (fH B1 i.seq aq hseq) rfl (aj (.one (ak (aM rfl rfl aw))) (aj (.deep a9) aD)) (fun ρ=>by simp [AV.renL,AV.ren]) ?_;rintro r hp'' ⟨J,rfl,h0'⟩;refine ⟨[(J,0)],by simp [cv,ff],?_⟩;have hB2:(B1 ++ le i.seq 4).length=B1.length+4:=by rw [b_,aJ]
  rw [← hB3] at h0' hB2 ⊢;generalize hB4:B ++ DX i=B2 at *;simp [go_sem,bP,bC,h0',Blk.ren,aL,cF,AV.renL,AV.ren,bR,aE,w3];refine y5 (k+1,B2) ⟨by simp only;omega,by simp only;omega,by rw [← hB4];exact dB hd hR⟩ (by simp only;omega) [(0,0),(2640,352)] 9000 (by decide) (by decide) (by decide) (by decide) ?_;simp [Bi,yZ,bR,AV.ren,Blk.ren,aL,cF,aA,ai,fv,lk,AV.low,AV.low1,AV.renL,eT];exact bg _ _
 ·have hkl:k=t.ins.length:=aq;subst hkl;have:=dC hR;subst this;clear hR hR0 h hk;have hR0:(B ++ au t.outs.length) ++ d0 fA t.outs 0=B ++ au t.outs.length ++ jw t.outs:=rfl;have hR9:B ++ (au t.outs.length ++ (jw t.outs ++ le t.lock 4))=(B ++ au t.outs.length ++ jw t.outs) ++ le t.lock 4:=by simp
  rw [hR9];simp [go_sem,w2];refine bN [352] (tw B t.outs.length aq aq) rfl (aj (.one (ak (aM rfl rfl aw))) (aj (.deep a9) aD)) ?_;have hB0':(B ++ au t.outs.length).length≤300:=by rw [b_];omega
  generalize B ++ au t.outs.length ++ jw t.outs=R2 at *;generalize B ++ au t.outs.length=B1 at *;simp [go_sem,aE]
  refine ar (fun u:Nat × List Nat=>⟨[(1,.ptr 0 0 0 1),(3,.d (nb u.2)),(46,.d (.ro 2 (t.outs.map eO))),(47,.d (.int .i64 (t.outs.length:Int))),(48,.d (.int .i64 (u.1:Int)))],[(0,⟨26,4,[eT t]⟩)],9000⟩)
   (fun u=>u.1≤t.outs.length∧u.2.length≤300+613*u.1∧u.2 ++ d0 fA t.outs u.1=R2) (fun u=>t.outs.length - u.1) (0,B1) ⟨aw,by simp;omega,hR0⟩ (by
    simp [aA,ai,fv,lk,AV.low,AV.low1,eT]) ?_
  rintro ⟨k,B'⟩ ⟨hk,hBl',hR⟩;simp only at hk hBl' hR;simp only [eT];simp only [go_sem,Nat.reduceEqDiff,Nat.reduceAdd,Nat.reduceLT,↓reduceIte,Nat.reduceMul];refine ⟨fun h=>?_,fun h=>?_⟩
  ·obtain ⟨o,ho1,hd⟩:=bm (l:=t.outs) (k:=k) aq;have ho64:=ho o (cr ho1);have hol:=h3 o (cr ho1);have w3:=az (k:=k) aq;have hoB:=tB o;simp [go_sem,ho1,eO];refine ag (tu B' o.1 aq ho64) a9 ?_;simp [go_sem];have hl8:(B' ++ le o.1 8).length=B'.length+8:=by rw [b_,aJ]
   have hB3:B' ++ fA o=B' ++ le o.1 8 ++ (au o.2.length ++ o.2):=by simp [fA,bY]
   refine ag (fi (B' ++ le o.1 8) o.2 aq aq) a9 ?_;rw [← hB3];have hB4l:(B' ++ fA o).length=B'.length+(fA o).length:=b_;simp [go_sem,w3];refine ao (k+1,B' ++ fA o) ⟨by simp only;omega,by simp only;omega,dB hd hR⟩ (by simp only;omega) ?_;simp [aA,ai,fv,lk,AV.low,AV.low1,eT]
  ·have hkl:k=t.outs.length:=aq;subst hkl;have:=dC hR;subst this;simp [go_sem];refine ag (ii B' t.lock aq hlk) a9 ?_;simp [go_sem];exact aa a9 (by rw [hR9])
theorem Nx {i:Ip} (h:i.hash.length=32):((eI i).take 32).map (fun c=>[c])=i.hash.map fun (b:Nat)=>[DV.int .u8 (b:Int)]:=by
 unfold eI;rw [List.take_append_of_le_length (by rw [gZ];omega),cx (by rw [gZ];omega)];simp [cd]
theorem IV (t:Tn) (ht:Sm t):ax Tryz.prog 149 [.agg (eT t)] (fun r=>r=.d (nb (kX t))):=by
 obtain ⟨⟨hv,hlk,hi,ho⟩,h1,h2,h3,h4⟩:=ht;refine bO Tryz.func149 Tryz.ntmps149 (rs:=[.tmp 2]) (by simp [AV.deep,AV.deep1,eT]) ?_;have w1:IntKind.u64.wrap (t.ins.length:Int)=(t.ins.length:Int):=by rw [gn];omega
 have w2:IntKind.u64.wrap (t.outs.length:Int)=(t.outs.length:Int):=by rw [gn];omega
 have wv:IntKind.u64.wrap (t.ver:Int)=(t.ver:Int):=by rw [gn];omega
 have wl:IntKind.u64.wrap (t.lock:Int)=(t.lock:Int):=by rw [gn];omega
 have hp1:=bU t.ins.length;have hp2:=bU t.outs.length;simp [go_sem,eT,wv];refine bN [] (pH [] t.ver 4 4 rfl aw aq aq) rfl (aj (.one (ak (.nil 1))) (aj (.deep a9) (aj (.deep a9) aD))) ?_;simp [go_sem,aE,w1];refine aN [] (lC (le t.ver 4) t.ins.length (by simp [aJ]) aq) rfl aw aw aw (by simp [AV.renL,AV.ren]) ?_;rintro r hp' ⟨I,rfl,h0⟩;refine ⟨[(I,0)],by simp [cv,ff],?_⟩;have hB0:(le t.ver 4 ++ au t.ins.length).length≤9:=by rw [b_,aJ];omega
 have hR0:(le t.ver 4 ++ au t.ins.length) ++ d0 DX t.ins 0=le t.ver 4 ++ au t.ins.length ++ tp t.ins:=rfl;have hR9:kX t=(le t.ver 4 ++ au t.ins.length ++ tp t.ins) ++ (au t.outs.length ++ (jw t.outs ++ le t.lock 4)):=by simp [kX]
 rw [hR9];generalize le t.ver 4 ++ au t.ins.length ++ tp t.ins=R1 at *;generalize le t.ver 4 ++ au t.ins.length=B0 at *;simp [go_sem,bP,bC,h0,Blk.ren,aL,cF,AV.renL,AV.ren,bR]
 refine ar (fun u:Nat × List Nat=>⟨[(1,.ptr 0 0 0 1),(3,.own 384 0 u.2.length u.2.length),(4,.d (.int .i64 (u.1:Int)))],[(384,⟨5,1,rb u.2⟩),(0,⟨26,4,[eT t]⟩)],2000⟩)
  (fun u=>u.1≤t.ins.length∧u.2.length≤9+40*u.1∧u.2 ++ d0 DX t.ins u.1=R1) (fun u=>t.ins.length - u.1) (0,B0) ⟨aw,by simp;omega,hR0⟩ (by
   simp [aA,ai,fv,lk,AV.low,AV.low1,eT]
   exact bg _ _) ?_
 rintro ⟨k,B⟩ ⟨hk,hBl,hR⟩;simp only at hk hBl hR;simp only [eT];simp only [go_sem,Nat.reduceEqDiff,Nat.reduceAdd,Nat.reduceLT,↓reduceIte,Nat.reduceMul];refine ⟨fun h=>?_,fun h=>?_⟩
 ·obtain ⟨i,hi1,hd⟩:=bm (l:=t.ins) (k:=k) aq;obtain ⟨hi32,hidx,hseq⟩:=hi i (cr hi1);have w3:=az (k:=k) aq;have hil:=xu hi32;have hel:=qQ hi32;have wx:IntKind.u64.wrap (i.idx:Int)=(i.idx:Int):=by rw [gn];omega
  have ws:IntKind.u64.wrap (i.seq:Int)=(i.seq:Int):=by rw [gn];omega
  have her:=Nx hi32;simp [go_sem,hi1,hel,her,Ym hi32,Vz hi32,cE,aG,iK,wx,hi32];refine ⟨aq,?_⟩;have hBh:(B ++ i.hash).length=B.length+32:=by rw [b_,hi32]
  refine gQ [384] (kU (B ++ i.hash) i.idx 4 4 rfl aq aq aq) rfl (aj (.one (ak (aM hBh rfl aw))) (aj (.deep a9) (aj (.deep a9) aD))) (fun ρ=>by simp [AV.renL,AV.ren]) ?_;rintro r hp' ⟨rfl,h0⟩;refine ⟨[(33,0)],by simp [cv,ff],?_⟩;have hB1:(B ++ i.hash ++ le i.idx 4).length=B.length+36:=by rw [b_,hBh,aJ]
  have hB3:B ++ DX i=B ++ i.hash ++ le i.idx 4 ++ le i.seq 4:=by simp [DX]
  generalize B ++ i.hash ++ le i.idx 4=B1 at *;simp [go_sem,bP,bC,h0,Blk.ren,aL,cF,AV.renL,AV.ren,bR,aE,hi1,Vz hi32,ws];refine gQ [2768] (kU B1 i.seq 4 4 rfl aq aq aq) rfl (aj (.one (ak (aM rfl rfl aw))) (aj (.deep a9) (aj (.deep a9) aD))) (fun ρ=>by simp [AV.renL,AV.ren]) ?_;rintro r hp'' ⟨rfl,h0'⟩;refine ⟨[(33,0)],by simp [cv,ff],?_⟩;have hB2:(B1 ++ le i.seq 4).length=B1.length+4:=by rw [b_,aJ]
  rw [← hB3] at h0' hB2 ⊢;generalize hB4:B ++ DX i=B2 at *;simp [go_sem,bP,bC,h0',Blk.ren,aL,cF,AV.renL,AV.ren,bR,aE,w3];refine y5 (k+1,B2) ⟨by simp only;omega,by simp only;omega,by rw [← hB4];exact dB hd hR⟩ (by simp only;omega) [(0,0),(3088,384)] 9000 (by decide) (by decide) (by decide) (by decide) ?_;simp [Bi,yZ,bR,AV.ren,Blk.ren,aL,cF,aA,ai,fv,lk,AV.low,AV.low1,AV.renL,eT];exact bg _ _
 ·have hkl:k=t.ins.length:=aq;subst hkl;have:=dC hR;subst this;clear hR hR0 h hk;have hR0:(B ++ au t.outs.length) ++ d0 fA t.outs 0=B ++ au t.outs.length ++ jw t.outs:=rfl;have hR9:B ++ (au t.outs.length ++ (jw t.outs ++ le t.lock 4))=(B ++ au t.outs.length ++ jw t.outs) ++ le t.lock 4:=by simp
  rw [hR9];simp [go_sem,w2];refine bN [384] (rK B t.outs.length aq aq) rfl (aj (.one (ak (aM rfl rfl aw))) (aj (.deep a9) aD)) ?_;have hB0':(B ++ au t.outs.length).length≤300:=by rw [b_];omega
  generalize B ++ au t.outs.length ++ jw t.outs=R2 at *;generalize B ++ au t.outs.length=B1 at *;simp [go_sem,aE]
  refine ar (fun u:Nat × List Nat=>⟨[(1,.ptr 0 0 0 1),(3,.d (nb u.2)),(5,.d (.int .i64 (u.1:Int)))],[(0,⟨26,4,[eT t]⟩)],9000⟩)
   (fun u=>u.1≤t.outs.length∧u.2.length≤300+613*u.1∧u.2 ++ d0 fA t.outs u.1=R2) (fun u=>t.outs.length - u.1) (0,B1) ⟨aw,by simp;omega,hR0⟩ (by
    simp [aA,ai,fv,lk,AV.low,AV.low1,eT]) ?_
  rintro ⟨k,B'⟩ ⟨hk,hBl',hR⟩;simp only at hk hBl' hR;simp only [eT];simp only [go_sem,Nat.reduceEqDiff,Nat.reduceAdd,Nat.reduceLT,↓reduceIte,Nat.reduceMul];refine ⟨fun h=>?_,fun h=>?_⟩
  ·obtain ⟨o,ho1,hd⟩:=bm (l:=t.outs) (k:=k) aq;have ho64:=ho o (cr ho1);have hol:=h3 o (cr ho1);have w3:=az (k:=k) aq;have hoB:=tB o;simp [go_sem,ho1,eO];refine ag (pH B' o.1 8 8 rfl aq ho64 aq) a9 ?_;simp [go_sem,ho1,eO];have hl8:(B' ++ le o.1 8).length=B'.length+8:=by rw [b_,aJ]
   have hB3:B' ++ fA o=B' ++ le o.1 8 ++ (au o.2.length ++ o.2):=by simp [fA,bY]
   refine ag (pI (B' ++ le o.1 8) o.2 aq aq) a9 ?_;rw [← hB3];have hB4l:(B' ++ fA o).length=B'.length+(fA o).length:=b_;simp [go_sem,w3];refine ao (k+1,B' ++ fA o) ⟨by simp only;omega,by simp only;omega,dB hd hR⟩ (by simp only;omega) ?_;simp [aA,ai,fv,lk,AV.low,AV.low1,eT]
  ·have hkl:k=t.outs.length:=aq;subst hkl;have:=dC hR;subst this;simp [go_sem,wl];refine ag (pH B' t.lock 4 4 rfl aq aq aq) a9 ?_;simp [go_sem];exact aa a9 (by rw [hR9])
theorem vO {t:Tn} (ht:Sm t):(kX t).length≤4000:=by
 obtain ⟨⟨hv,hlk,hi,ho⟩,h1,h2,h3,h4⟩:=ht;have hp1:=bU t.ins.length;have hp2:=bU t.outs.length
 have e1:∀ l:List Ip,(∀ i,i ∈ l→i.hash.length=32)→(tp l).length=40*l.length:=by
  intro l
  induction l with
  | nil=>intro _;rfl
  | cons i r ih =>
   intro h;have h1:=ih fun j hj=>h j (cS _ hj);have h2:=xu (h i (dz ..));have e:(tp (i :: r)).length=(DX i).length+(tp r).length:=by simp [tp]
   rw [e,List.length_cons];omega
 have e2:∀ l:List (Nat × List Nat),(∀ o,o ∈ l→o.2.length≤600)→(jw l).length≤613*l.length:=by
  intro l
  induction l with
  | nil=>intro _;simp [jw]
  | cons i r ih =>
   intro h;have h1:=ih fun j hj=>h j (cS _ hj);have h2:=tB i;have h3:=h i (dz ..);have e:(jw (i :: r)).length=(fA i).length+(jw r).length:=by simp [jw]
   rw [e,List.length_cons];omega
 have f1:=e1 t.ins fun i h=>(hi i h).1;have f2:=e2 t.outs h3;unfold kX;simp only [b_,aJ];omega
def Ub (i:Ip):List Nat:=kW i.wit
theorem IW (t:Tn) (ht:Sm t):ax Tryz.prog 102 [.agg (eT t)] (fun r=>r=.d (nb (gq t))):=by
 have hbl:=vO ht;refine bO Tryz.func102 Tryz.ntmps102 (rs:=[.tmp 2]) (by simp [AV.deep,AV.deep1,eT]) ?_;simp [go_sem,eT];refine ag (Nw t ht) (by simp [AV.deep,AV.deep1,eT]) ?_;obtain ⟨⟨hv,hlk,hi,ho⟩,h1,h2,h3,h4⟩:=ht;have hR0:kX t ++ d0 Ub t.ins 0=gq t:=rfl;generalize gq t=R at *;generalize kX t=B0 at *;simp [go_sem]
 refine ar (fun u:Nat × List Nat=>⟨[(3,.d (nb u.2)),(9,.d (.ro 35 (t.ins.map eI))),(10,.d (.int .i64 (t.ins.length:Int))),(11,.d (.int .i64 (u.1:Int)))],[],9000⟩)
  (fun u=>u.1≤t.ins.length∧u.2.length≤4000+3635*u.1∧u.2 ++ d0 Ub t.ins u.1=R) (fun u=>t.ins.length - u.1) (0,B0) ⟨aw,by simp;omega,hR0⟩ (by
   simp [aA,ai,fv,lk,AV.low,AV.low1]) ?_
 rintro ⟨k,B⟩ ⟨hk,hBl,hR⟩;simp only at hk hBl hR;simp only [go_sem,Nat.reduceEqDiff,Nat.reduceAdd,Nat.reduceLT,↓reduceIte,Nat.reduceMul];refine ⟨fun h=>?_,fun h=>?_⟩
 ·obtain ⟨i,hi1,hd⟩:=bm (l:=t.ins) (k:=k) aq;obtain ⟨hi32,hidx,hseq⟩:=hi i (cr hi1);have w3:=az (k:=k) aq;have hel:=qQ hi32;have hcl:=nI hi32;have hw:=h4 i (cr hi1);have hll:=vM hw;simp [go_sem,hi1,hel,zG,hcl,mP hi32,mQ,Py hi32];refine ag (tA B i.wit aq hw) a9 ?_;simp [go_sem,w3];refine ao (k+1,B ++ kW i.wit) ⟨by simp only;omega,by simp only [b_];omega,dB (f:=Ub) hd hR⟩ (by simp only;omega) ?_;simp [aA,ai,fv,lk,AV.low,AV.low1]
 ·have hkl:k=t.ins.length:=aq;subst hkl;have:=dC hR;subst this;simp [go_sem];exact aa a9 rfl
theorem F8 (t:Tn) (ht:Sm t):ax Tryz.prog 108 [.agg (eT t)] (fun r=>r=.d (nb (gq t))):=by
 have hbl:=vO ht;refine bO Tryz.func108 Tryz.ntmps108 (rs:=[.tmp 2]) (by simp [AV.deep,AV.deep1,eT]) ?_;simp [go_sem,eT];refine ag (IV t ht) (by simp [AV.deep,AV.deep1,eT]) ?_;obtain ⟨⟨hv,hlk,hi,ho⟩,h1,h2,h3,h4⟩:=ht;have hR0:kX t ++ d0 Ub t.ins 0=gq t:=rfl;generalize gq t=R at *;generalize kX t=B0 at *;simp [go_sem]
 refine ar (fun u:Nat × List Nat=>⟨[(1,.ptr 0 0 0 1),(3,.d (nb u.2)),(4,.d (.int .i64 (u.1:Int)))],[(0,⟨26,4,[eT t]⟩)],9000⟩)
  (fun u=>u.1≤t.ins.length∧u.2.length≤4000+3635*u.1∧u.2 ++ d0 Ub t.ins u.1=R) (fun u=>t.ins.length - u.1) (0,B0) ⟨aw,by simp;omega,hR0⟩ (by
   simp [aA,ai,fv,lk,AV.low,AV.low1,eT]) ?_
 rintro ⟨k,B⟩ ⟨hk,hBl,hR⟩;simp only at hk hBl hR;simp only [eT];simp only [go_sem,Nat.reduceEqDiff,Nat.reduceAdd,Nat.reduceLT,↓reduceIte,Nat.reduceMul];refine ⟨fun h=>?_,fun h=>?_⟩
 ·obtain ⟨i,hi1,hd⟩:=bm (l:=t.ins) (k:=k) aq;obtain ⟨hi32,hidx,hseq⟩:=hi i (cr hi1);have w3:=az (k:=k) aq;have hw:=h4 i (cr hi1);have hll:=vM hw;simp [go_sem,hi1,tn hi32];refine ag (zF B i.wit aq hw) a9 ?_;simp [go_sem,w3];refine ao (k+1,B ++ kW i.wit) ⟨by simp only;omega,by simp only [b_];omega,dB (f:=Ub) hd hR⟩ (by simp only;omega) ?_;simp [aA,ai,fv,lk,AV.low,AV.low1,eT]
 ·have hkl:k=t.ins.length:=aq;subst hkl;have:=dC hR;subst this;simp [go_sem];exact aa a9 rfl
theorem F9 {t:Tn} (h:Sm t):fO 20 30 1000 t=true:=by
 obtain ⟨_,h1,h2,h3,h4⟩:=h;simp only [fO,Bool.and_eq_true,decide_eq_true_eq,cp,gp,eC,d7];refine ⟨aq,aq,fun o ho=>by have:=h3 o ho;omega,fun i hi=>?_⟩;obtain ⟨q1,q2⟩:=h4 i hi;exact ⟨aq,fun x hx=>by have:=q2 x hx;omega⟩
theorem Ge {xs:List (List Nat)} (h:VB xs):eC 1000 xs=true:=by
 simp only [eC,d7,decide_eq_true_eq];exact fun x hx=>by have:=h.2 x hx;omega
theorem Gf (t:Tn) (ht:Sm t):ax Tryz.prog 101 [.agg (eT t)] (fun r=>r=.d (.bool true)):=by
 refine bO Tryz.func101 Tryz.ntmps101 (rs:=[.tmp 2]) (by simp [AV.deep,AV.deep1,eT]) ?_;obtain ⟨⟨hv,hlk,hi,ho⟩,h1,h2,h3,h4⟩:=ht;have i1:¬ 20<(t.ins.length:Int):=aq;have i2:¬ 20<(t.outs.length:Int):=aq;simp [go_sem,eT,i1,i2]
 refine ar (fun k:Nat=>⟨[(1,.ptr 0 0 0 1),(18,.d (.ro 2 (t.outs.map eO))),(19,.d (.int .i64 (t.outs.length:Int))),(20,.d (.int .i64 (k:Int)))],[(0,⟨26,4,[eT t]⟩)],9000⟩)
  (fun k=>k≤t.outs.length) (fun k=>t.outs.length - k) 0 aw (by
   simp [aA,ai,fv,lk,AV.low,AV.low1,eT]) ?_
 intro k hk;simp only [eT];simp only [go_sem,Nat.reduceEqDiff,Nat.reduceAdd,Nat.reduceLT,↓reduceIte,Nat.reduceMul];refine ⟨fun h=>?_,fun h=>?_⟩
 ·obtain ⟨o,ho1,hd⟩:=bm (l:=t.outs) (k:=k) aq;have hol:=h3 o (cr ho1);have w3:=az (k:=k) aq;simp [go_sem,ho1,eO];refine ag (DW o.2) a9 ?_;have j1:¬ 1000<o.2.length:=aq;simp [go_sem,j1,w3];refine ao (k+1) aq aq ?_;simp [aA,ai,fv,lk,AV.low,AV.low1,eT]
 ·simp [go_sem]
  refine ar (fun k:Nat=>⟨[(1,.ptr 0 0 0 1),(29,.d (.ro 35 (t.ins.map eI))),(30,.d (.int .i64 (t.ins.length:Int))),(31,.d (.int .i64 (k:Int)))],[(0,⟨26,4,[eT t]⟩)],19000⟩)
   (fun k=>k≤t.ins.length) (fun k=>t.ins.length - k) 0 aw (by
    simp [aA,ai,fv,lk,AV.low,AV.low1,eT]) ?_
  intro k hk;simp only [eT];simp only [go_sem,Nat.reduceEqDiff,Nat.reduceAdd,Nat.reduceLT,↓reduceIte,Nat.reduceMul];refine ⟨fun h=>?_,fun h=>?_⟩
  ·obtain ⟨i,hi1,hd⟩:=bm (l:=t.ins) (k:=k) aq;obtain ⟨hi32,hidx,hseq⟩:=hi i (cr hi1);have w3:=az (k:=k) aq;have hel:=qQ hi32;have hcl:=nI hi32;have hw:=h4 i (cr hi1);have hw6:=hw.1;have j1:¬ 30<(i.wit.length:Int):=aq;simp [go_sem,hi1,hel,zG,hcl,mP hi32,mQ,Py hi32,j1];refine ag (xp i.wit aq) a9 ?_;simp [go_sem,Ge hw,w3];refine ao (k+1) aq aq ?_;simp [aA,ai,fv,lk,AV.low,AV.low1,eT]
  ·simp [go_sem];exact aa a9 rfl
def kK (t:Tn):Int:=if 12000<(gq t).length then 4 else 0
theorem vP (t:Tn) (ht:Sm t):ax Tryz.prog 54 [.agg (eT t)] (fun r=>r=.d (.int .i64 (kK t))):=by
 refine bO Tryz.func54 Tryz.ntmps54 (rs:=[.tmp 2]) (by simp [AV.deep,AV.deep1,eT]) ?_;simp [go_sem,eT];refine ag (Gf t ht) (by simp [AV.deep,AV.deep1,eT]) ?_;simp [go_sem];refine ag (IW t ht) (by simp [AV.deep,AV.deep1,eT]) ?_;have hc:kK t=if 12000<(gq t).length then 4 else 0:=rfl;rw [hc];by_cases h:12000<(gq t).length
 ·have i1:12000<((gq t).length:Int):=aq;simp [go_sem,nb,i1,h];exact aa a9 rfl
 ·have i1:¬ 12000<((gq t).length:Int):=aq;simp [go_sem,nb,i1,h];exact aa a9 rfl
theorem BL (t:Tn) (ht:Sm t):ax Tryz.prog 61 [.agg (eT t)] (fun r=>r=.d (.int .i64 (kK t))):=by
 refine bO Tryz.func61 Tryz.ntmps61 (rs:=[.tmp 2]) (by simp [AV.deep,AV.deep1,eT]) ?_;simp [go_sem,eT];refine ag (BK t ht.1) (by simp [AV.deep,AV.deep1,eT]) ?_;rw [F9 ht];simp [go_sem];refine ag (F8 t ht) (by simp [AV.deep,AV.deep1,eT]) ?_;have hc:kK t=if 12000<(gq t).length then 4 else 0:=rfl;rw [hc];by_cases h:12000<(gq t).length
 ·have i1:12000<((gq t).length:Int):=aq;simp [go_sem,nb,i1,h];exact aa a9 rfl
 ·have i1:¬ 12000<((gq t).length:Int):=aq;simp [go_sem,nb,i1,h];exact aa a9 rfl
def bM (t:Tn) (n:Int) (coins:List (Nat × List Nat)):Int :=
 if kK t ≠ 0 ∨ coins.length ≠ t.ins.length ∨ n<0 ∨ (coins.length:Int)≤n ∨ cp 1000 coins=false then 1 else 0
theorem kY (t:Tn) (n:Int) (coins:List (Nat × List Nat)) (ht:Sm t) (hc:coins.length≤1000):ax Tryz.prog 45 [.agg (eS t n coins)] (fun r=>r=.d (.int .i64 (bM t n coins))):=by
 refine bO Tryz.func45 Tryz.ntmps45 (rs:=[.tmp 2]) (by simp [AV.deep,AV.deep1,eS]) ?_;generalize hX:bM t n coins=X;simp [go_sem,eS];refine ag (vP t ht) (by simp [AV.deep,AV.deep1,eT]) ?_;by_cases c1:kK t=0
 ·by_cases c2:(coins.length:Int)=(t.ins.length:Int)
  ·by_cases c3:n<0
   ·have:X=1:=by rw [← hX];simp [bM,c3]
    subst this;simp [go_sem,c1,c2,c3];exact aa a9 rfl
   ·by_cases c4:(coins.length:Int)≤n
    ·have:X=1:=by rw [← hX];simp [bM,c4]
     subst this;have c4':(t.ins.length:Int)≤n:=aq;simp [go_sem,c1,c2,c3,c4,c4'];exact aa a9 rfl
    ·have c4':¬ (t.ins.length:Int)≤n:=aq;simp [go_sem,c1,c2,c3,c4,c4'];refine ag (xq coins aq) a9 ?_
     have e:X=if cp 1000 coins=false then 1 else 0:=by
      rw [← hX];unfold bM;have:coins.length=t.ins.length:=aq;simp [c1,this,c3,c4']
     rw [e]
     cases cp 1000 coins
     ·simp [go_sem];exact aa a9 rfl
     ·simp [go_sem];exact aa a9 rfl
  ·have:X=1:=by rw [← hX];unfold bM;rw [if_pos (.inr (.inl aq))]
   subst this;simp [go_sem,c1,c2];exact aa a9 rfl
 ·have:X=1:=by rw [← hX];simp [bM,c1]
  subst this;simp [go_sem,c1];exact aa a9 rfl
theorem BM (t:Tn) (n:Int) (coins:List (Nat × List Nat)) (ht:Sm t) (hc:coins.length≤1000):ax Tryz.prog 19 [.agg (eS t n coins)] (fun r=>r=.d (.int .i64 (bM t n coins))):=by
 refine bO Tryz.func19 Tryz.ntmps19 (rs:=[.tmp 2]) (by simp [AV.deep,AV.deep1,eS]) ?_;generalize hX:bM t n coins=X;simp [go_sem,eS];refine ag (BL t ht) (by simp [AV.deep,AV.deep1,eT]) ?_;by_cases c1:kK t=0
 ·by_cases c2:(coins.length:Int)=(t.ins.length:Int)
  ·by_cases c3:n<0
   ·have:X=1:=by rw [← hX];simp [bM,c3]
    subst this;simp [go_sem,c1,c2,c3];exact aa a9 rfl
   ·by_cases c4:(coins.length:Int)≤n
    ·have:X=1:=by rw [← hX];simp [bM,c4]
     subst this;have c4':(t.ins.length:Int)≤n:=aq;simp [go_sem,c1,c2,c3,c4,c4'];exact aa a9 rfl
    ·have c4':¬ (t.ins.length:Int)≤n:=aq
     have e:X=if cp 1000 coins=false then 1 else 0:=by
      rw [← hX];unfold bM;have:coins.length=t.ins.length:=aq;simp [c1,this,c3,c4']
     rw [e];simp [go_sem,c1,c2,c3,c4,c4']
     refine ar (fun k:Nat=>⟨[(1,.ptr 0 0 0 1),(3,.d (.int .i64 (k:Int)))],[(0,⟨28,6,[eS t n coins]⟩)],2000⟩)
      (fun k=>k≤coins.length∧cp 1000 (coins.drop k)=cp 1000 coins) (fun k=>coins.length - k) 0 ⟨aq,rfl⟩ (by
       simp [aA,ai,fv,lk,AV.low,AV.low1,eS]) ?_
     rintro k ⟨hk,ho⟩;simp only [eS];simp only [go_sem,Nat.reduceEqDiff,Nat.reduceAdd,Nat.reduceLT,↓reduceIte,Nat.reduceMul];refine ⟨fun h=>?_,fun h=>?_⟩
     ·obtain ⟨o,ho1,hd⟩:=bm (l:=coins) (k:=k) aq;have w3:=az (k:=k) aq;by_cases hx:o.2.length≤1000
      ·have j1:¬ 1000<(o.2.length:Int):=aq;simp [go_sem,ho1,eO,nb,j1,w3];refine ao (k+1) ⟨aq,fx hd ho (by simpa using hx)⟩ aq ?_;simp [aA,ai,fv,lk,AV.low,AV.low1,eS]
      ·have j1:1000<(o.2.length:Int):=aq;have:=ef hd ho (by simpa using hx);simp [go_sem,ho1,eO,nb,j1];exact aa a9 (by rw [show cp 1000 coins=false from this];rfl)
     ·have hkl:k=coins.length:=aq;subst hkl;have hO:cp 1000 coins=true:=fy ho;simp [go_sem];exact aa a9 (by rw [hO];rfl)
  ·have:X=1:=by rw [← hX];unfold bM;rw [if_pos (.inr (.inl aq))]
   subst this;simp [go_sem,c1,c2];exact aa a9 rfl
 ·have:X=1:=by rw [← hX];simp [bM,c1]
  subst this;simp [go_sem,c1];exact aa a9 rfl
def qT (t:Tn) (coins:List (Nat × List Nat)):Bool:=fO 6 6 600 t && (decide (coins.length≤8) && cp 1100 coins)
theorem Gg (t:Tn) (n:Int) (coins:List (Nat × List Nat)) (ht:t.ok):ax Tryz.prog 28 [.agg (eS t n coins)] (fun r=>r=.d (.bool (qT t coins))):=by
 refine bO Tryz.func28 Tryz.ntmps28 (rs:=[.tmp 2]) (by simp [AV.deep,AV.deep1,eS]) ?_;generalize hX:qT t coins=X;unfold qT at hX;simp [go_sem,eS];refine ag (BJ t ht) (by simp [AV.deep,AV.deep1,eT]) ?_;generalize fO 6 6 600 t=W at *
 cases W
 ·simp at hX;subst hX;simp [go_sem];exact aa a9 rfl
 ·by_cases c2:coins.length≤8
  ·have c2':¬ 8<(coins.length:Int):=aq;have e:X=cp 1100 coins:=by rw [← hX];simp [c2]
   rw [e];simp [go_sem,c2']
   refine ar (fun k:Nat=>⟨[(1,.ptr 0 0 0 1),(3,.d (.int .i64 (k:Int)))],[(0,⟨28,6,[eS t n coins]⟩)],2000⟩)
    (fun k=>k≤coins.length∧cp 1100 (coins.drop k)=cp 1100 coins) (fun k=>coins.length - k) 0 ⟨aq,rfl⟩ (by
     simp [aA,ai,fv,lk,AV.low,AV.low1,eS]) ?_
   rintro k ⟨hk,ho⟩;simp only [eS];simp only [go_sem,Nat.reduceEqDiff,Nat.reduceAdd,Nat.reduceLT,↓reduceIte,Nat.reduceMul];refine ⟨fun h=>?_,fun h=>?_⟩
   ·obtain ⟨o,ho1,hd⟩:=bm (l:=coins) (k:=k) aq;have w3:=az (k:=k) aq;by_cases hx:o.2.length≤1100
    ·have j1:¬ 1100<(o.2.length:Int):=aq;simp [go_sem,ho1,eO,nb,j1,w3];refine ao (k+1) ⟨aq,fx hd ho (by simpa using hx)⟩ aq ?_;simp [aA,ai,fv,lk,AV.low,AV.low1,eS]
    ·have j1:1100<(o.2.length:Int):=aq;have:=ef hd ho (by simpa using hx);simp [go_sem,ho1,eO,nb,j1];exact aa a9 (by rw [show cp 1100 coins=false from this])
   ·have hkl:k=coins.length:=aq;subst hkl;have hO:cp 1100 coins=true:=fy ho;simp [go_sem];exact aa a9 (by rw [hO])
  ·have c2':8<(coins.length:Int):=aq;have:X=false:=by rw [← hX];simp [c2]
   subst this;simp [go_sem,c2'];exact aa a9 rfl
theorem xw (t:Tn) (n:Int) (coins:List (Nat × List Nat)) (out:Int) (h:out<0 ∨ (t.outs.length:Int)≤out):ax Tryz.prog 110 [.agg (eS t n coins),.d (.int .i64 out)] (fun r=>r=.tup [.nil,.d (.bool false)]):=by
 refine bO Tryz.func110 Tryz.ntmps110 (rs:=[.tmp 4,.tmp 5]) (by simp [AV.deep,AV.deep1,eS]) ?_;by_cases h1:out<0
 ·simp [go_sem,eS,h1,ah];exact aa a9 rfl
 ·have h2:(t.outs.length:Int)≤out:=aq;simp [go_sem,eS,h1,h2,ah];exact aa a9 rfl
theorem tC (t:Tn) (n:Int) (coins:List (Nat × List Nat)) (k:Nat) (o:Nat × List Nat) (h:t.outs[k]?=some o):ax Tryz.prog 110 [.agg (eS t n coins),.d (.int .i64 (k:Int))] (fun r=>r=.tup [.d (nb o.2),.d (.bool true)]):=by
 refine bO Tryz.func110 Tryz.ntmps110 (rs:=[.tmp 4,.tmp 5]) (by simp [AV.deep,AV.deep1,eS]) ?_;have hk:=(ci.1 h).1;have h1:¬ (k:Int)<0:=aq;have h2:¬ (t.outs.length:Int)≤(k:Int):=aq;have h3:¬ t.outs.length≤k:=aq;simp [go_sem,eS,h1,h2,h3,h,eO,ah];exact aa a9 rfl
theorem ij (a b:List Nat) (ha:bytes a) (hb:bytes b):ax Tryz.prog 111 [.d (nb a),.d (nb b)] (fun r=>r=.d (.bool (decide (a=b)))):=by
 refine bO Tryz.func111 Tryz.ntmps111 (rs:=[.tmp 4]) a9 ?_;simp [go_sem,nb];refine DC a 5 ha (by simp [go_sem]) (by simp [go_sem]) Tryz.underlying5 ?_;simp [go_sem,nb];refine DC b 5 hb (by simp [go_sem]) (by simp [go_sem]) Tryz.underlying5 ?_;simp [go_sem,Rm];exact aa a9 rfl
def uG (t:Tn) (n:Int) (coins:List (Nat × List Nat)) (rec:List Nat) (out:Int):Int × Int × Int :=
 if bM t n coins ≠ 0 then (0,0,1)
 else match t.outs[out.toNat]? with
  | some o=>if 0≤out then (if zw o.2=rec then (out,(((coins[n.toNat]?.map (·.1)).getD 0:Nat):Int),0) else (0,0,24)) else (0,0,24)
  | none=>(0,0,24)
def Ny (x:Int × Int × Int):AV:=.tup [.agg [.d (.int .i64 x.1),.d (.int .u64 x.2.1)],.d (.int .i64 x.2.2)]
theorem VD {t:Tn} {n:Int} {coins:List (Nat × List Nat)} {rec:List Nat} {out:Int} (h:bM t n coins=1):uG t n coins rec out=(0,0,1):=by
 simp [uG,h]
theorem VE {t:Tn} {n:Int} {coins:List (Nat × List Nat)} {rec:List Nat} {out:Int} (h:bM t n coins=0) (h2:out<0 ∨ (t.outs.length:Int)≤out):uG t n coins rec out=(0,0,24):=by
 rcases h2 with h2 | h2
 ·have:¬ 0≤out:=aq;simp only [uG,h,this]
  cases t.outs[out.toNat]? <;> simp
 ·have:t.outs[out.toNat]?=none:=List.getElem?_eq_none aq;simp [uG,h,this]
theorem lJ (t:Tn) (n:Int) (coins:List (Nat × List Nat)):bM t n coins=1 ∨ (bM t n coins=0∧0≤n∧n<(coins.length:Int)):=by
 unfold bM
 split
 ·exact .inl rfl
 ·rename_i h;exact .inr ⟨rfl,aq,aq⟩
theorem BN (t:Tn) (n:Int) (coins:List (Nat × List Nat)) (rec:List Nat) (out:Int) (ht:Sm t) (hc:coins.length≤1000) (hr:bytes rec) :
  ax Tryz.prog 234 [.agg (eS t n coins),.d (nb rec),.d (.int .i64 out)] (fun r=>r=Ny (uG t n coins rec out)):=by
 refine bO Tryz.func234 Tryz.ntmps234 (rs:=[.cell 6 55,.tmp 7]) (by simp [AV.deep,AV.deep1,eS]) ?_;simp [go_sem,eS];refine ag (kY t n coins ht hc) (by simp [AV.deep,AV.deep1,eS]) ?_;rcases lJ t n coins with h1 | ⟨h1,hn1,hn2⟩
 ·rw [h1,VD h1];simp [go_sem,ah];exact aa a9 rfl
 ·rw [h1];simp [go_sem];by_cases h2:out<0 ∨ (t.outs.length:Int)≤out
  ·refine ag (xw t n coins out h2) (by simp [AV.deep,AV.deep1,eS]) ?_;rw [VE h1 h2];simp [go_sem,ah];exact aa a9 rfl
  ·obtain ⟨k,rfl⟩:∃ k:Nat,out=(k:Int):=⟨out.toNat,aq⟩;obtain ⟨m,rfl⟩:∃ k:Nat,n=(k:Int):=⟨n.toNat,aq⟩;have hk:k<t.outs.length:=aq;obtain ⟨o,ho⟩:∃ o,t.outs[k]?=some o:=⟨_,cm hk⟩;obtain ⟨c,hcm⟩:∃ o,coins[m]?=some o:=⟨_,cm (by omega:m<coins.length)⟩;have hol:=ht.2.2.2.1 o (cr ho)
   have hV:uG t m coins rec k=if zw o.2=rec then ((k:Int),(c.1:Int),0) else (0,0,24):=by
    simp [uG,h1,ho,hcm]
   rw [hV];refine ag (tC t m coins k o ho) (by simp [AV.deep,AV.deep1,eS]) ?_;simp [go_sem];refine ag (BD o.2 aq) a9 ?_;have hL:=zx o.2;have hB:bytes (zw o.2):=iM _;generalize zw o.2=R at *;simp [go_sem,hL,av hL,cy];refine iV (ij R rec hB hr) rfl (aj (.one (ak (ed rfl trivial hL))) (aj (.deep a9) aD)) trivial ?_;by_cases h5:R=rec
   ·simp [go_sem,h5,hcm,eO,ah];exact aa a9 rfl
   ·simp [go_sem,h5,ah];exact aa a9 rfl
theorem xA {n:Nat} {ds:List DV} (h:iC Tryz.prog (n+1) 22 ds):∃ x:Nat,ds=[.int .u32 (x:Int)]∧x<4294967296:=by
 rw [iC] at h;simp only [Tryz.underlying22] at h;obtain ⟨x,rfl,hx⟩:=h;have hx':0≤x∧x<4294967296:=by simp [IntKind.has,IntKind.min,IntKind.max,IntKind.signed,IntKind.bits] at hx;omega
 exact ⟨x.toNat,by rw [show ((x.toNat:Nat):Int)=x by omega],aq⟩
theorem Rz {n:Nat} {ds:List DV} (h:iC Tryz.prog (n+1) 53 ds):∃ x:Nat,ds=[.int .u64 (x:Int)]∧x<18446744073709551616:=by
 rw [iC] at h;simp only [Tryz.underlying53] at h;obtain ⟨x,rfl,hx⟩:=h;have hx':0≤x∧x<18446744073709551616:=by simp [IntKind.has,IntKind.min,IntKind.max,IntKind.signed,IntKind.bits] at hx;omega
 exact ⟨x.toNat,by rw [show ((x.toNat:Nat):Int)=x by omega],aq⟩
theorem RA {n:Nat} {ds:List DV} (h:iC Tryz.prog (n+3) 57 ds):∃ o:Nat × List Nat,ds=eO o∧o.1<18446744073709551616∧bytes o.2:=by
 rw [iC] at h;simp only [Tryz.underlying57,List.map_cons,List.map_nil] at h;obtain ⟨a,b,rfl,ha,ha2,a',b',rfl,hb,hb2,rfl⟩:=h;obtain ⟨x,rfl,hx⟩:=Rz ha2;rw [show Tryz.prog.cellsOf 31=1 by kernel_rfl] at hb
 match a',hb,hb2 with
 | [y],_,hb2 =>
  obtain ⟨bs,rfl,_,h5⟩:=pF hb2;exact ⟨(x,bs),rfl,hx,h5⟩
theorem DY {n:Nat} {ds:List DV} (h:iC Tryz.prog (n+4) 24 ds):∃ os:List (Nat × List Nat),ds=[.ro 2 (os.map eO)]∧∀ o,o ∈ os→o.1<18446744073709551616∧bytes o.2:=by
 rw [iC] at h;simp only [Tryz.underlying24] at h;obtain ⟨es,rfl,hl,hr⟩:=h
 obtain ⟨os,rfl,hos⟩:=qF (enc:=eO) (R:=fun o=>o.1<18446744073709551616∧bytes o.2) (es:=es) (fun r hr'=>by
  obtain ⟨h1,h2⟩:=hr r hr';obtain ⟨o,rfl,h3,h4⟩:=RA h1
  exact ⟨o,rfl,h3,h4⟩)
 exact ⟨os,by rw [show Tryz.prog.cellsOf 57=2 by kernel_rfl],hos⟩
theorem VF {n:Nat} {ds:List DV} (h:iC Tryz.prog (n+4) 68 ds):∃ i:Ip,ds=eI i∧i.ok∧bytes i.hash:=by
 rw [iC] at h;simp only [Tryz.underlying68,List.map_cons,List.map_nil] at h;obtain ⟨a,b,rfl,ha,ha2,a',b',rfl,hb,hb2,a3,b3,rfl,hc,hc2,rfl⟩:=h;rw [iC] at ha2;simp only [Tryz.underlying66,List.map_cons,List.map_nil] at ha2;obtain ⟨c,d,rfl,hc1,hc3,c',d',rfl,hd,hd2,rfl⟩:=ha2;obtain ⟨hash,rfl,h1,h2⟩:=Bz hc3;obtain ⟨x,rfl,hx⟩:=xA hd2;obtain ⟨y,rfl,hy⟩:=xA hb2;rw [show Tryz.prog.cellsOf 34=1 by kernel_rfl] at hc
 match a3,hc,hc2 with
 | [z],_,hc2 =>
  obtain ⟨xs,rfl,_⟩:=vG hc2;exact ⟨⟨hash,x,y,xs⟩,by simp [eI],⟨h1,hx,hy⟩,h2⟩
theorem RB {n:Nat} {ds:List DV} (h:iC Tryz.prog (n+5) 23 ds):∃ is:List Ip,ds=[.ro 35 (is.map eI)]∧∀ i,i ∈ is→i.ok∧bytes i.hash:=by
 rw [iC] at h;simp only [Tryz.underlying23] at h;obtain ⟨es,rfl,hl,hr⟩:=h
 obtain ⟨os,rfl,hos⟩:=qF (enc:=eI) (R:=fun i=>i.ok∧bytes i.hash) (es:=es) (fun r hr'=>by
  obtain ⟨h1,h2⟩:=hr r hr';obtain ⟨o,rfl,h3⟩:=VF h1
  exact ⟨o,rfl,h3⟩)
 exact ⟨os,by rw [show Tryz.prog.cellsOf 68=35 by kernel_rfl],hos⟩
theorem VG {n:Nat} {ds:List DV} (h:iC Tryz.prog (n+6) 26 ds):∃ t:Tn,ds.map .d=eT t∧t.ok∧(∀ o,o ∈ t.outs→bytes o.2)∧∀ i,i ∈ t.ins→bytes i.hash:=by
 rw [iC] at h;simp only [Tryz.underlying26,List.map_cons,List.map_nil] at h;obtain ⟨a,b,rfl,ha,ha2,a',b',rfl,hb,hb2,a3,b3,rfl,hc,hc2,a4,b4,rfl,hd,hd2,rfl⟩:=h;obtain ⟨v,rfl,hv⟩:=xA ha2;obtain ⟨is,rfl,his⟩:=RB hb2;obtain ⟨os,rfl,hos⟩:=DY hc2;obtain ⟨l,rfl,hl⟩:=xA hd2;exact ⟨⟨v,is,os,l⟩,rfl,⟨hv,hl,fun i hi=>(his i hi).1,fun o ho=>(hos o ho).1⟩,fun o ho=>(hos o ho).2,fun i hi=>(his i hi).2⟩
theorem RD {r n:Nat} (hn:n<64) (hr:r<2 ^ n):Go.bits .andNot .u64 ((r+2 ^ n:Nat):Int) ((2 ^ n:Nat):Int)=(r:Int):=by
 have h2:(2:Nat) ^ n<2 ^ 64:=Nat.pow_lt_pow_right aq hn
 have h3:(2:Nat) ^ n+2 ^ n≤2 ^ 64:=by
  have:(2:Nat) ^ (n+1)≤2 ^ 64:=Nat.pow_le_pow_right aq aq;rw [Nat.pow_succ] at this;omega
 have hb:(BitVec.ofNat 64 (r+2 ^ n)) &&& ~~~(BitVec.ofNat 64 (2 ^ n))=BitVec.ofNat 64 r:=by
  apply BitVec.eq_of_getLsbD_eq;intro i hi;have e:r+2 ^ n=2 ^ n ||| r:=by rw [Nat.add_comm];have:=Nat.two_pow_add_eq_or_of_lt hr 1;simpa using this
  simp only [BitVec.getLsbD_and,BitVec.getLsbD_not,BitVec.getLsbD_ofNat,hi,decide_true,Bool.true_and,e,Nat.testBit_or,Nat.testBit_two_pow];by_cases hni:n=i
  ·subst hni;simp [Nat.testBit_lt_two_pow hr]
  ·simp [hni]
 show IntKind.u64.wrap (((BitVec.ofInt 64 ((r+2 ^ n:Nat):Int)) &&& ~~~(BitVec.ofInt 64 ((2 ^ n:Nat):Int))).toNat:Int)=_;rw [BitVec.ofInt_natCast,BitVec.ofInt_natCast,hb,BitVec.toNat_ofNat,gn];omega
theorem IX {a c k:Nat} (ha:a<2 ^ k):a ||| c*2 ^ k=a+c*2 ^ k:=by
 rw [Nat.or_comm,Nat.mul_comm,← Nat.two_pow_add_eq_or_of_lt ha];omega
theorem IY {b:List Nat} {k c:Nat} (h:b[k]?=some c):jk (b.take (k+1))=jk (b.take k)+c*2 ^ (8*k):=by
 have hk:=(ci.1 h).1;have hl:(b.take k).length=k:=by rw [List.length_take];omega
 rw [List.take_add_one,h];show jk (b.take k ++ [c])=_;rw [lF,hl,jk,jk,Nat.mul_zero,Nat.add_zero,Nat.mul_comm,Nat.pow_mul]
theorem Nz {b:List Nat} (hb:bytes b) (k:Nat) (hk:k≤b.length):jk (b.take k)<2 ^ (8*k):=by
 have:=qP (b:=b.take k) (fun x hx=>hb x (List.mem_of_mem_take hx));rw [List.length_take,Nat.min_eq_left hk,show (256:Nat)=2 ^ 8 by rfl,← Nat.pow_mul] at this;exact this
theorem lK (v:Bool):ax Tryz.prog 224 [.d (.bool v)] (fun r=>r=.d (nb (iN v))):=by
 refine bO Tryz.func224 Tryz.ntmps224 (rs:=[.tmp 2]) a9 ?_
 cases v with
 | true =>
  simp [go_sem,ah];exact dS (ak (sR (ty:=5) (e:=1) (es:=[[.int .u8 1]]) (by simp [lk]) trivial rfl aw)) a9 rfl
 | false =>
  simp [go_sem,ah];exact dS (ak (.nil 1)) a9 rfl
theorem vQ (a:be) (x:Nat):jX (a ++ [x])=(a.any (fun c=>decide (c ≠ 0)) || decide (x ≠ 0∧x ≠ 128)):=by
 induction a with
 | nil=>simp [jX]
 | cons c a ih =>
  cases a with
  | nil=>simp [jX]
  | cons d a =>
   rw [List.cons_append,List.cons_append,jX,← List.cons_append,ih];simp [Bool.or_assoc];simp
theorem zJ {b:be} {i c:Nat} (h:b[i]?=some c) (h0:c ≠ 0) (h1:¬ (i=b.length - 1∧c=128)):jX b=true:=by
 rcases dZ b with rfl | ⟨a,x,rfl⟩
 ·simp at h
 ·rw [vQ,Bool.or_eq_true];rcases Nat.lt_or_ge i a.length with hi | hi
  ·rw [List.getElem?_append_left hi] at h;exact .inl (List.any_eq_true.2 ⟨c,cr h,by simpa using h0⟩)
  ·rw [dn hi] at h
   have:i - a.length=0:=by
    have:=(ci.1 h).1;simp at this;omega
   rw [this] at h;simp at h;subst h;refine .inr ?_;simp only [decide_eq_true_eq];exact ⟨h0,fun e=>h1 ⟨by simp;omega,e⟩⟩
theorem NA {b:be} (h:∀ i c,b[i]?=some c→c=0 ∨ (i=b.length - 1∧c=128)):jX b=false:=by
 rcases dZ b with rfl | ⟨a,x,rfl⟩
 ·rfl
 ·rw [vQ,Bool.or_eq_false_iff];constructor
  ·rw [List.any_eq_false];intro c hc;obtain ⟨i,hi⟩:=List.getElem?_of_mem hc;have hl:=(ci.1 hi).1;rcases h i c (by rw [List.getElem?_append_left hl];exact hi) with e | ⟨e,_⟩
   ·simp [e]
   ·simp at e;omega
  ·rcases h a.length x aw with e | ⟨_,e⟩ <;> simp [e]
theorem mR (b:be) (hb:bytes b) (hl:b.length≤1000000):ax Tryz.prog 141 [.d (nb b)] (fun r=>r=.d (.bool (jX b))):=by
 refine bO Tryz.func141 Tryz.ntmps141 (rs:=[.tmp 2]) a9 ?_;simp [go_sem,nb]
 refine ar (fun k:Nat=>⟨[(0,.d (nb b)),(6,.d (nb b)),(7,.d (.int .i64 (b.length:Int))),(8,.d (.int .i64 (k:Int)))],[],1000⟩)
  (fun k=>k≤b.length∧∀ i c,i<k→b[i]?=some c→c=0 ∨ (i=b.length - 1∧c=128)) (fun k=>b.length - k) 0 ⟨aq,aw⟩ (by simp [aA,ai,fv,lk,AV.low,AV.low1,nb]) ?_
 rintro k ⟨hk,hz⟩;simp only [go_sem,Nat.reduceEqDiff,Nat.reduceAdd,Nat.reduceLT,↓reduceIte,Nat.reduceMul];refine ⟨fun hh=>?_,fun hh=>?_⟩
 ·obtain ⟨c,hc,hd⟩:=bm (l:=b) (k:=k) aq;have w3:=az (k:=k) aq;have hij:∀ hl:k<b.length,b[k]=c:=fun hl=>Option.some.inj ((cm hl).symm.trans hc);have w1:IntKind.i64.wrap ((b.length:Int) - 1)=((b.length - 1:Nat):Int):=by rw [IntWalk.i64_in _ aq];omega
  have hnx:∀ {Q:Prop},(c=0 ∨ (k=b.length - 1∧c=128))→∀ i x,i<k+1→b[i]?=some x→x=0 ∨ (i=b.length - 1∧x=128):=by
   intro Q h0 i x hi hx;by_cases e:i=k
   ·subst e;obtain rfl:x=c:=Option.some.inj (hx.symm.trans hc);exact h0
   ·exact hz i x aq hx
  have hkl:k<b.length:=aq;by_cases c0:c=0
  ·subst c0;simp [go_sem,nb,hc,hij,hkl,w1,w3];refine ao (k+1) ⟨aq,hnx (Q:=True) (.inl rfl)⟩ aq ?_;simp [aA,ai,fv,lk,AV.low,AV.low1,nb]
  ·by_cases hlast:k=b.length - 1
   ·by_cases c128:c=128
    ·subst c128;have hq:((k:Int)=((b.length - 1:Nat):Int))=True:=eq_true aq;simp [go_sem,nb,hc,hij,hkl,w1,w3,hq];refine ao (k+1) ⟨aq,hnx (Q:=True) (.inr ⟨hlast,rfl⟩)⟩ aq ?_;simp [aA,ai,fv,lk,AV.low,AV.low1,nb]
    ·have hq:((k:Int)=((b.length - 1:Nat):Int))=True:=eq_true aq;have c0':¬ (c:Int)=0:=aq;have c128':¬ (c:Int)=128:=aq;rw [zJ hc c0 (fun h=>c128 h.2)];simp [go_sem,nb,hc,hij,hkl,w1,w3,hq,c0,c0',c128,c128',ah];exact aa a9 rfl
   ·have c0':¬ (c:Int)=0:=aq;have hq:¬ (k:Int)=((b.length - 1:Nat):Int):=aq;rw [zJ hc c0 (fun h=>hlast h.1)];simp [go_sem,nb,hc,hij,hkl,w1,w3,hq,c0,c0',ah];exact aa a9 rfl
 ·rw [NA (fun i c hi=>hz i c (by have:=(ci.1 hi).1;omega) hi)];simp [go_sem,ah];exact aa a9 rfl
theorem NB {c k:Nat} (hc:c<256) (hk:k<8):c*2 ^ (8*k)<18446744073709551616:=by
 have h1:(2:Nat) ^ (8*k)≤2 ^ 56:=Nat.pow_le_pow_right aq aq;have h2:c*2 ^ (8*k)≤255*2 ^ 56:=Nat.mul_le_mul aq h1;have h3:(255:Nat)*2 ^ 56<18446744073709551616:=by decide
 omega
theorem BO (most:Nat) (b:be) (hb:bytes b) (hm:most≤8) (hl:b.length≤1000000):ax Tryz.prog 242 [.d (nb b),.d (.int .i64 (most:Int))]
  (fun r=>r=match fq most b with | some n=>.tup [.d (.int .i64 n),.d (.int .i64 0)] | none=>.tup [.d (.int .i64 0),.d (.int .i64 15)]):=by
 refine bO Tryz.func242 Tryz.ntmps242 (rs:=[.tmp 4,.tmp 5]) a9 ?_;have hm8:¬ (8:Int)<(most:Int):=aq;by_cases hlen:b.length≤most
 ·have hn:¬ (most:Int)<(b.length:Int):=aq;have hn2:¬ most<b.length:=aq;simp [go_sem,nb,hm8,hn,hn2]
  refine ar (fun k:Nat=>⟨[(0,.d (nb b)),(6,.d (.int .u64 (jk (b.take k):Int))),(16,.d (nb b)),(17,.d (.int .i64 (b.length:Int))),(18,.d (.int .i64 (k:Int)))],[],1000⟩)
   (fun k=>k≤b.length) (fun k=>b.length - k) 0 aq (by simp [aA,ai,fv,lk,AV.low,AV.low1,nb,jk]) ?_
  intro k hk;simp only [go_sem,Nat.reduceEqDiff,Nat.reduceAdd,Nat.reduceLT,↓reduceIte,Nat.reduceMul];refine ⟨fun hh=>?_,fun hh=>?_⟩
  ·obtain ⟨c,hc,hd⟩:=bm (l:=b) (k:=k) aq;have w3:=az (k:=k) aq;have hc8:c<256:=hb c (cr hc);have hij:∀ hl:k<b.length,b[k]=c:=fun hl=>Option.some.inj ((cm hl).symm.trans hc);have hkl:k<b.length:=aq;have w8:IntKind.i64.wrap (8*(k:Int))=((8*k:Nat):Int):=by rw [IntWalk.i64_in _ aq];omega
   have wc:IntKind.u64.wrap (c:Int)=(c:Int):=IntWalk.u64_in _ aq;have hsh:=NB hc8 (k:=k) aq;have hlv:=Nz hb k aq;have hlv64:jk (b.take k)<18446744073709551616:=Nat.lt_of_lt_of_le hlv (Nat.pow_le_pow_right aq (by omega:8*k≤64))
   have hOr:Go.bits .or .u64 (jk (b.take k):Int) (IntKind.u64.wrap ((c:Int)*2 ^ min (8*(k:Int)).toNat 64))=(jk (b.take (k+1)):Int):=by
    have e1:min (8*(k:Int)).toNat 64=8*k:=aq;have e2:(c:Int)*2 ^ (8*k)=((c*2 ^ (8*k):Nat):Int):=by rw [Int.natCast_mul,Int.natCast_pow];rfl
    rw [e1,e2,IntWalk.u64_in _ aq,Nr _ _ hlv64 hsh,IX hlv,IY hc]
   simp [go_sem,nb,hc,hij,hkl,w3,w8,wc,hOr];refine ⟨aq,?_⟩;refine ao (k+1) aq aq ?_;simp [aA,ai,fv,lk,AV.low,AV.low1,nb]
  ·have hk2:k=b.length:=aq;subst hk2;rw [List.take_length];rcases dZ b with rfl | ⟨a,x,rfl⟩
   ·have hd:fq most []=some 0:=by
     unfold fq;rw [if_pos ⟨aw,rfl⟩];rfl
    have w0:IntKind.i64.wrap 0=0:=IntWalk.i64_in _ aq;have en:c8 0=[]:=rfl;rw [hd];simp [go_sem,nb,jk,w0];refine ag (kJ 0 aq aq) a9 ?_;simp [go_sem,en,nb];refine ag (ij [] [] hb hb) a9 ?_;simp [go_sem,ah];exact aa a9 rfl
   ·have hbl:(a ++ [x]).length=a.length+1:=by simp
    have hbx:(a ++ [x])[a.length]?=some x:=by simp
    have hx8:x<256:=hb x aw;have hlv:=qP (b:=a) (fun y hy=>hb y (by simp [hy]));have hva:jk (a ++ [x])=jk a+256 ^ a.length*x:=by rw [lF];simp [jk]
    have hdv:=gw a x;have hp56:(256:Nat) ^ a.length≤256 ^ 7:=Nat.pow_le_pow_right aq aq
    have hp2:(256:Nat) ^ a.length*128=2 ^ (8*a.length+7):=by
     rw [Nat.pow_add,Nat.pow_mul]
    have h256:(256:Nat) ^ 7=72057594037927936:=by decide
    generalize a ++ [x]=b at *;generalize a.length=m at *;have w1:IntKind.i64.wrap ((b.length:Int) - 1)=(m:Int):=by rw [IntWalk.i64_in _ aq];omega
    have hbg:∀ hl:m<b.length,b[m]=x:=fun hl=>Option.some.inj ((cm hl).symm.trans hbx);have hb0:0<b.length:=aq;have ha128:=IJ x hx8
    have rF:∀ n:Int,n=xj b→-9223372036854775808≤n→n<9223372036854775808→(match fq most b with | some n=>AV.tup [.d (.int .i64 n),.d (.int .i64 0)] | none=>.tup [.d (.int .i64 0),.d (.int .i64 15)])=if c8 n=b then .tup [.d (.int .i64 n),.d (.int .i64 0)] else .tup [.d (.int .i64 0),.d (.int .i64 15)]:=by
     rintro n rfl h1 h2;unfold fq;by_cases h:c8 (xj b)=b
     ·rw [if_pos ⟨aq,h⟩,if_pos h]
     ·rw [if_neg (fun q=>h q.2),if_neg h]
    by_cases hx:x<128
    ·rw [if_neg aq] at ha128;rw [if_pos hx] at hdv;have hmul:256 ^ m*x≤256 ^ m*127:=Nat.mul_le_mul_left _ aq;have w2:IntKind.i64.wrap (jk b:Int)=(jk b:Int):=IntWalk.i64_in _ aq;have hn0:(jk b:Int)=xj b:=by rw [hdv,hva]
     rw [rF _ hn0 aq aq];simp [go_sem,nb,hb0,w1,hbx,hbg,ha128,w2];refine ag (kJ (jk b:Int) aq aq) a9 ?_;simp [go_sem];refine ag (ij (c8 (jk b:Int)) b (dF _) hb) a9 ?_;by_cases hq:c8 (jk b:Int)=b
     ·simp [go_sem,hq,ah];exact aa a9 rfl
     ·simp [go_sem,hq,ah];exact aa a9 rfl
    ·rw [if_pos aq] at ha128;rw [if_neg hx] at hdv;obtain ⟨r,hr⟩:∃ r,r=jk a+256 ^ m*(x - 128):=⟨_,rfl⟩;have hmul:256 ^ m*(x - 128)≤256 ^ m*127:=Nat.mul_le_mul_left _ aq;have hsplit:256 ^ m*x=256 ^ m*(x - 128)+256 ^ m*128:=by rw [← Nat.mul_add];congr 1;omega
     have hlb:jk b=r+2 ^ (8*m+7):=by rw [hva,hsplit,hr,hp2];omega
     have hr7:r<2 ^ (8*m+7):=by rw [← hp2,hr];omega
     have hdr:xj b=-(r:Int):=by
      rw [hdv,hsplit,hr,Nat.mul_comm 128,← Nat.add_assoc,Nat.add_sub_cancel]
     have hr63:r<9223372036854775808:=by
      have:256 ^ m*128≤72057594037927936*128:=d9 _ aq;omega
     have hsm:(2:Nat) ^ (8*m+7)≤9223372036854775808:=by
      rw [← hp2];have:256 ^ m*128≤72057594037927936*128:=d9 _ aq;omega
     have w2:IntKind.i64.wrap (8*(m:Int))=((8*m:Nat):Int):=by rw [IntWalk.i64_in _ aq];omega
     have hsh:IntKind.u64.wrap (128*2 ^ min (8*(m:Int)).toNat 64)=((2 ^ (8*m+7):Nat):Int):=by
      have e1:min (8*(m:Int)).toNat 64=8*m:=aq
      have e2:(128:Int)*2 ^ (8*m)=((2 ^ (8*m+7):Nat):Int):=by
       rw [Nat.pow_add,Int.natCast_mul,Int.natCast_pow,Int.mul_comm];rfl
      rw [e1,e2,IntWalk.u64_in _ aq]
     have hAn:Go.bits .andNot .u64 (jk b:Int) ((2 ^ (8*m+7):Nat):Int)=(r:Int):=by
      rw [hlb];exact RD aq hr7
     have w3:IntKind.i64.wrap (r:Int)=(r:Int):=IntWalk.i64_in _ aq;have w4:IntKind.i64.wrap (-(r:Int))=-(r:Int):=IntWalk.i64_in _ aq;have w5:IntKind.i64.wrap (0 - (r:Int))=-(r:Int):=by rw [Int.zero_sub];exact w4
     rw [rF _ hdr.symm aq aq];have h8m:(0:Int)≤8*(m:Int):=aq;generalize ((2 ^ (8*m+7):Nat):Int)=S at hsh hAn;simp [go_sem,nb,hb0,w1,hbx,hbg,ha128,w2,hsh,hAn,w3,w4,w5,h8m];refine ag (kJ (-(r:Int)) aq aq) a9 ?_;simp [go_sem];refine ag (ij (c8 (-(r:Int))) b (dF _) hb) a9 ?_;by_cases hq:c8 (-(r:Int))=b
     ·simp [go_sem,hq,ah];exact aa a9 rfl
     ·simp [go_sem,hq,ah];exact aa a9 rfl
 ·have hn:(most:Int)<(b.length:Int):=aq;have hn2:most<b.length:=aq;have hd:fq most b=none:=if_neg (fun h=>hlen (by have:=h.1;omega));rw [hd];simp [go_sem,nb,hm8,hn,hn2,ah];exact aa a9 rfl
theorem IZ (m:Mc) (J H:List Jk) (most:Nat) (x:be) (hb:bytes x) (hm:most≤8) (hx:x.length≤1000000):cO Tryz.prog 3 bo 258 ⟨m,J,H⟩ [.ptr 0 0 0 1,.d (nb x),.d (.int .i64 (most:Int))]
  (fun v s'=>v=.d (.int .i64 (fu most x m).1)∧s'=⟨(fu most x m).2,J,H⟩):=by
 refine al Tryz.func258 (by kernel_rfl) rfl Tryz.ntmps258 (rs:=[.tmp 6]) rfl (dT rfl) (by decide) ?_;obtain ⟨main,alt,e⟩:=m;rw [bQ];simp only [bo,id];by_cases h:e=0
 ·subst h;simp [go_sem];refine ag (BO most x hb hm hx) a9 ?_;have hr:fu most x ⟨main,alt,0⟩=match fq most x with | some n=>(n,⟨main,alt,0⟩) | none=>(0,⟨main,alt,15⟩):=rfl;rw [hr]
  cases fq most x with
  | some n =>
   simp [go_sem];refine dN (Pp:=[]) (s:=⟨⟨main,alt,0⟩,J,H⟩) (oJ ⟨main,alt,0⟩ J H 0) aq aw (by simp [AV.renL,AV.ren]) ?_;rintro v s' ρ rfl hρ;rw [bQ];simp [go_sem,gC,bo,ah];refine aW ?_ ?_ ?_ <;> rfl
  | none =>
   simp [go_sem];refine dN (Pp:=[]) (s:=⟨⟨main,alt,0⟩,J,H⟩) (oJ ⟨main,alt,0⟩ J H 15) aq aw (by simp [AV.renL,AV.ren]) ?_;rintro v s' ρ rfl hρ;rw [bQ];simp [go_sem,gC,bo,ah];refine aW ?_ ?_ ?_ <;> rfl
 ·have hr:fu most x ⟨main,alt,e⟩=(0,⟨main,alt,e⟩):=if_neg h;rw [hr];simp [go_sem,h,ah];refine aW ?_ ?_ ?_ <;> rfl
theorem DZ (m:Mc) (J H:List Jk) (most:Nat) (he:m.e ≠ 0):cO Tryz.prog 3 bo 258 ⟨m,J,H⟩ [.ptr 0 0 0 1,.nil,.d (.int .i64 (most:Int))]
  (fun v s'=>v=.d (.int .i64 0)∧s'=⟨m,J,H⟩):=by
 refine al Tryz.func258 (by kernel_rfl) rfl Tryz.ntmps258 (rs:=[.tmp 6]) rfl (dT rfl) (by decide) ?_;obtain ⟨main,alt,e⟩:=m;simp only at he;rw [bQ];simp only [bo,id];simp [go_sem,he,ah];refine aW ?_ ?_ ?_ <;> rfl
def jD (main alt:List be):List AV:=[.d (.ro 1 (main.map bD)),.d (.ro 1 (alt.map bD))]
theorem zK (main alt:List be) (h1:main.length≤1000000) (h2:alt.length≤1000000):ax Tryz.prog 97 [.agg (jD main alt)] (fun r=>r=.d (.int .i64 (fw main alt))):=by
 refine bO Tryz.func97 Tryz.ntmps97 (rs:=[.tmp 2]) (by simp [AV.deep,AV.deep1,jD]) ?_;have w1:IntKind.i64.wrap 1=1:=IntWalk.i64_in _ aq;have w2:IntKind.i64.wrap 2=2:=IntWalk.i64_in _ aq;simp [go_sem,jD]
 refine ar (fun k:Nat=>⟨[(1,.ptr 0 0 0 1),(11,.agg [.d (.ro 1 (main.map bD)),.d (.ro 1 (alt.map bD))]),(12,.d (.int .i64 (k:Int)))],[(0,⟨155,2,[[.d (.ro 1 (main.map bD)),.d (.ro 1 (alt.map bD))]]⟩)],6000⟩)
  (fun k=>k≤2∧(1≤k→∀ x,x ∈ main→x.length≤520)∧(2≤k→∀ x,x ∈ alt→x.length≤520)) (fun k=>2 - k) 0 ⟨aq,aq,aq⟩ (by simp [aA,ai,fv,lk,AV.low,AV.low1]) ?_
 rintro k ⟨hk,hk1,hk2⟩;rcases (by omega:k=0 ∨ k=1 ∨ k=2) with rfl | rfl | rfl
 ·have wk:IntKind.i64.wrap ((0:Int)+1)=((0+1:Nat):Int):=IntWalk.i64_in _ aq;simp only [go_sem,Nat.reduceEqDiff,Nat.reduceAdd,Nat.reduceLT,↓reduceIte,Nat.reduceMul];simp [go_sem]
  refine ar (fun j:Nat=>⟨[(1,.ptr 0 0 0 1),(11,.agg [.d (.ro 1 (main.map bD)),.d (.ro 1 (alt.map bD))]),(12,.d (.int .i64 0)),(15,.d (.ro 1 (main.map bD))),(16,.d (.int .i64 (main.length:Int))),(17,.d (.int .i64 (j:Int)))],[(0,⟨155,2,[[.d (.ro 1 (main.map bD)),.d (.ro 1 (alt.map bD))]]⟩)],6000⟩)
   (fun j=>j≤main.length∧∀ x,x ∈ main.take j→x.length≤520) (fun j=>main.length - j) 0 ⟨aq,aw⟩ (by simp [aA,ai,fv,lk,AV.low,AV.low1]) ?_
  rintro j ⟨hj,hall⟩;simp only [go_sem,Nat.reduceEqDiff,Nat.reduceAdd,Nat.reduceLT,↓reduceIte,Nat.reduceMul];refine ⟨fun hh=>?_,fun hh=>?_⟩
  ·obtain ⟨y,hy1,hd⟩:=bm (l:=main) (k:=j) aq;have w3:=az (k:=j) aq;by_cases h5:y.length≤520
   ·have h5':¬ 520<y.length:=aq;have h5i:¬ (520:Int)<(y.length:Int):=aq;simp [go_sem,hy1,bD,nb,h5',h5i,w3];refine ao (j+1) ⟨aq,fun x hx=>?_⟩ aq (by simp [aA,ai,fv,lk,AV.low,AV.low1]);rw [List.take_add_one,hy1] at hx;simp at hx;rcases hx with hx | rfl
    ·exact hall x hx
    ·exact h5
   ·have h5':520<y.length:=aq;have h5i:(520:Int)<(y.length:Int):=aq
    have hc:fw main alt=14:=by
     have hf:main.all (fun x=>decide (x.length≤520))=false:=List.all_eq_false.2 ⟨y,cr hy1,by simpa using h5⟩;simp [fw,hf]
    rw [hc];simp [go_sem,hy1,bD,nb,h5',h5i,ah];exact aa a9 rfl
  ·have hj2:j=main.length:=aq;subst hj2;rw [List.take_length] at hall;simp [go_sem,wk];refine ao 1 (by exact ⟨aq,fun _=>hall,fun h=>aq⟩) (by decide) (by simp [aA,ai,fv,lk,AV.low,AV.low1,w1])
 ·have wk:IntKind.i64.wrap ((1:Int)+1)=((1+1:Nat):Int):=IntWalk.i64_in _ aq;simp only [go_sem,Nat.reduceEqDiff,Nat.reduceAdd,Nat.reduceLT,↓reduceIte,Nat.reduceMul];simp [go_sem]
  refine ar (fun j:Nat=>⟨[(1,.ptr 0 0 0 1),(11,.agg [.d (.ro 1 (main.map bD)),.d (.ro 1 (alt.map bD))]),(12,.d (.int .i64 1)),(15,.d (.ro 1 (alt.map bD))),(16,.d (.int .i64 (alt.length:Int))),(17,.d (.int .i64 (j:Int)))],[(0,⟨155,2,[[.d (.ro 1 (main.map bD)),.d (.ro 1 (alt.map bD))]]⟩)],6000⟩)
   (fun j=>j≤alt.length∧∀ x,x ∈ alt.take j→x.length≤520) (fun j=>alt.length - j) 0 ⟨aq,aw⟩ (by simp [aA,ai,fv,lk,AV.low,AV.low1]) ?_
  rintro j ⟨hj,hall⟩;simp only [go_sem,Nat.reduceEqDiff,Nat.reduceAdd,Nat.reduceLT,↓reduceIte,Nat.reduceMul];refine ⟨fun hh=>?_,fun hh=>?_⟩
  ·obtain ⟨y,hy1,hd⟩:=bm (l:=alt) (k:=j) aq;have w3:=az (k:=j) aq;by_cases h5:y.length≤520
   ·have h5':¬ 520<y.length:=aq;have h5i:¬ (520:Int)<(y.length:Int):=aq;simp [go_sem,hy1,bD,nb,h5',h5i,w3];refine ao (j+1) ⟨aq,fun x hx=>?_⟩ aq (by simp [aA,ai,fv,lk,AV.low,AV.low1]);rw [List.take_add_one,hy1] at hx;simp at hx;rcases hx with hx | rfl
    ·exact hall x hx
    ·exact h5
   ·have h5':520<y.length:=aq;have h5i:(520:Int)<(y.length:Int):=aq
    have hc:fw main alt=14:=by
     have hf:alt.all (fun x=>decide (x.length≤520))=false:=List.all_eq_false.2 ⟨y,cr hy1,by simpa using h5⟩;simp [fw,hf]
    rw [hc];simp [go_sem,hy1,bD,nb,h5',h5i,ah];exact aa a9 rfl
  ·have hj2:j=alt.length:=aq;subst hj2;rw [List.take_length] at hall;simp [go_sem,wk];refine ao 2 (by exact ⟨aq,fun _=>hk1 aq,fun _=>hall⟩) (by decide) (by simp [aA,ai,fv,lk,AV.low,AV.low1,w2])
 ·have ha:=hk1 aq;have hb:=hk2 aq;have wl:IntKind.i64.wrap ((main.length:Int)+(alt.length:Int))=(main.length:Int)+(alt.length:Int):=IntWalk.i64_in _ aq;have e1:main.all (fun x=>decide (x.length≤520))=true:=d7.2 fun x hx=>by simpa using ha x hx
  have e2:alt.all (fun x=>decide (x.length≤520))=true:=d7.2 fun x hx=>by simpa using hb x hx
  by_cases h100:main.length+alt.length≤100
  ·have hc:fw main alt=0:=by simp [fw,e1,e2,h100]
   have h':¬ (100:Int)<(main.length:Int)+(alt.length:Int):=aq;have h'':¬ 100<main.length+alt.length:=aq;rw [hc];simp [go_sem,wl,h',h'',ah];exact aa (v:=.d (.int .i64 _)) trivial rfl
  ·have hc:fw main alt=13:=by simp [fw,e1,e2,h100]
   have h':(100:Int)<(main.length:Int)+(alt.length:Int):=aq;have h'':100<main.length+alt.length:=aq;rw [hc];simp [go_sem,wl,h',h'',ah];exact aa (v:=.d (.int .i64 _)) trivial rfl
end Go.Proofs.YtmfnimjnneflnaaGreat
namespace Go.Am
section
variable {P:Program}
theorem BP {g:FuncId} {args:List AV} {hp hp2:Hp} {N:Nat} {K:AV→Hp→Prop} (h:fa P g args hp2 N K) (hlk:∀ i b,lk i hp2=some b→lk i hp=some b):fa P g args hp N K:=by
 refine ⟨h.1,fun c U σ w vs hr hN hl hv=>?_⟩;obtain ⟨r1,r2⟩:=zB hlk hr;refine (h.2 c U σ w vs r1 hN hl (fun i v x hi hx=>(hv i v x hi hx).step r2)).mono fun e w' he=>?_;obtain ⟨x,rfl,v,hp',σ',k1,k2,k3,k4⟩:=he;exact ⟨x,rfl,v,hp',σ',k1,k2,r2.trans k3,k4⟩
theorem cq (ids:List Nat) (Pp:Hp) {S:Type} {n N:Nat} {b:S→(Nat→Nat)→Nat→Blk} (ho:FX n b) (f:Nat→Nat) {hp:Hp} {g:FuncId} {s:S} {args args' args0:List AV} {R:AV→S→Prop} {K:AV→Hp→Prop} (h:cO P n b g s args0 R) (hf:oI n f) (hN:∀ j,j<n→f j<N)
  (hd:∀ p,p ∈ Pp ++ ie n b s f→lk p.1 (aE ids hp)=some p.2) (hl:args.length=args'.length) (hs:∀ (i:Nat) (v v':AV),args[i]?=some v→args'[i]?=some v'→v'=v ∨ Snap hp (fun id=>id ∈ ids) v v')
  (hP:∀ p,p ∈ Pp→p.1<N∧∀ j,j<n→f j ≠ p.1) (ha:args0=AV.renL (bR (jY n f id) n) args') (hK:∀ v s' ρ,R v s'→(∀ j,j<n→ρ j=f j)→K (v.ren ρ) (Pp ++ ie n b s' f)):rY P g args hp N K :=
 .inl (rC ids (BP (rJ ho h hf hN hP ha hK) fun i x hi=>hd _ (bL hi)) hl hs)
theorem ik {hp:Hp} {I:Nat→Prop} {l:List AV}:∀ (i:Nat) (v v':AV),l[i]?=some v→l[i]?=some v'→v'=v ∨ Snap hp I v v':=by
 intro i v v' h1 h2;rw [h1] at h2;exact .inl (Option.some.inj h2).symm
theorem I0 {g:FuncId} {k:Nat} {hp0:Hp} {args:List AV} {Q Q':AV→Hp→Prop} (h:cj P g k hp0 args Q)
  (hq:∀ r hp',Q r hp'→∃ r',(∀ (w:World) (S:Nat→Prop) (σ:Nat→Option Nat) (U:Nat→Prop) (x:Value),AIs w S σ hp' U r x→AIs w S σ hp' U r' x)∧Q' r' hp'):cj P g k hp0 args Q':=by
 obtain ⟨h1,hk,h2⟩:=h;refine ⟨h1,hk,fun w S σ vs a b c=>(h2 w S σ vs a b c).mono fun e w' he=>?_⟩;obtain ⟨x,r,hp',U',σ',e1,q,r1,r2,r3⟩:=he;obtain ⟨r',g1,g2⟩:=hq r hp' q;exact ⟨x,r',hp',U',σ',e1,g2,r1,r2,g1 _ _ _ _ _ r3⟩
theorem I1 {w:World} {S:Nat→Prop} {σ:Nat→Option Nat} {hp:Hp} {U:Nat→Prop} {x:Value} (e:Nat) (h:AIs w S σ hp U .nil x):AIs w S σ hp U (.d (.ro e [])) x:=by
 cases h
 exact .d (.ro e [] none 0 (fun _ _=>undef) (cL _) aw aw aw aw)
theorem NC {S:Type} {n:Nat} {b:S→(Nat→Nat)→Nat→Blk} {g:FuncId} {s:S} {args:List AV} {R R':AV→S→Prop} (h:cO P n b g s args R) (hq:∀ v s',R v s'→R' v s' ∨ (v=.nil∧∃ e,R' (.d (.ro e [])) s')):cO P n b g s args R':=by
 refine I0 h fun r hp' hr=>?_;obtain ⟨s',h1,h2⟩:=hr;rcases hq r s' h1 with h | ⟨rfl,e,h⟩
 ·exact ⟨r,fun _ _ _ _ _ h=>h,s',h,h2⟩
 ·exact ⟨.d (.ro e []),fun _ _ _ _ _ h=>I1 e h,s',h,h2⟩
end
end Go.Am
namespace Go.Proofs.YtmfnimjnneflnaaGreat
open Go.Am Go.Sha
theorem il {hp:Hp} {I:Nat→Prop} {id:Nat} {ty:TypeId} {l:List be} {J:List Jk} (hb:lk id hp=some ⟨ty,1,cM l J⟩) (hI:I id):SnapD hp I (.own id 0 l.length (l.length+J.length)) (.ro 1 (l.map bD)):=by
 refine iH hb hI (iW l J) ?_ aw (fun r hr=>by
  obtain ⟨x,_,rfl⟩:=List.mem_map.1 hr
  rfl)
 rw [List.drop_zero,mN (cL _),List.take_length]
 have e:l.map nH=(l.map bD).map fun r=>r.map AV.d:=by
  rw [List.map_map];rfl
 rw [e];exact mD _
theorem eJ (main alt:List be):(AV.agg (jD main alt)).deep:=by
 intro c hc;simp [jD] at hc;rcases hc with rfl | rfl <;> trivial
def pN (m:Mc) (J H:List Jk):AV:=if (dm m).2.2=0 then .tup [.agg [.own 1 0 m.main.length (m.main.length+J.length),.own 2 0 m.alt.length (m.alt.length+H.length)],.d (.int .i64 0)]
 else .tup [.agg [.nil,.nil],.d (.int .i64 (dm m).2.2)]
theorem xB (m:Mc) (J H:List Jk) (h1:m.main.length≤1000000) (h2:m.alt.length≤1000000):cO Tryz.prog 3 bo 223 ⟨m,J,H⟩ [.ptr 0 0 0 1]
  (fun v s'=>v=pN m J H∧∃ e',s'=⟨⟨m.main,m.alt,e'⟩,J,H⟩):=by
 refine al Tryz.func223 (by kernel_rfl) rfl Tryz.ntmps223 (rs:=[.cell 2 155,.tmp 3]) rfl (dT rfl) (by decide) ?_;obtain ⟨main,alt,e⟩:=m;simp only at h1 h2;rw [bQ];simp only [bo,id];by_cases h:e=0
 ·subst h;simp [go_sem];refine cf [0,1,2,3,4,5,6,7,8] [(9,[]),(10,[])] 1 (k:=11) ?_;intro G hG;simp [go_sem];refine hG _ _ ?_;clear hG G;simp [go_sem];refine iV (zK main alt h1 h2) rfl (aj (.agg ⟨rfl,ap (ak (il rfl trivial)) (ap (ak (il rfl trivial)) bB)⟩) aD) trivial ?_
  have hd:pN ⟨main,alt,0⟩ J H=if fw main alt=0 then .tup [.agg [.own 1 0 main.length (main.length+J.length),.own 2 0 alt.length (alt.length+H.length)],.d (.int .i64 0)] else .tup [.agg [.nil,.nil],.d (.int .i64 (fw main alt))]:=by
   by_cases hc:fw main alt=0 <;> simp [pN,dm,hc]
  rw [hd];clear hd;generalize fw main alt=c;by_cases hc:c=0
  ·subst hc;simp [go_sem,ah];exact ⟨⟨⟨main,alt,0⟩,J,H⟩,⟨0,rfl⟩,aW rfl rfl rfl⟩
  ·simp [go_sem,hc];refine cf [0,1,2,3,4] [(5,[6])] 1 (k:=7) ?_;intro G hG;simp [go_sem,hc];refine hG _ _ ?_;clear hG G;simp [go_sem,hc,ah];exact ⟨⟨⟨main,alt,c⟩,J,H⟩,⟨c,rfl⟩,aW rfl rfl rfl⟩
 ·have hd:pN ⟨main,alt,e⟩ J H=.tup [.agg [.nil,.nil],.d (.int .i64 e)]:=by simp [pN,dm,h]
  rw [hd];simp [go_sem,h];refine cf [0,1,2,3,4,5,6,7,8] [(9,[]),(10,[])] 1 (k:=11) ?_;intro G hG;simp [go_sem];refine hG _ _ ?_;clear hG G;simp [go_sem,h];refine cf [0,1,2,3,4] [(5,[6])] 1 (k:=7) ?_;intro G hG;simp [go_sem];refine hG _ _ ?_;clear hG G;simp [go_sem,ah];exact ⟨⟨⟨main,alt,e⟩,J,H⟩,⟨e,rfl⟩,aW rfl rfl rfl⟩
theorem xC (main alt:List be) (h1:main.length≤1000000) (h2:alt.length≤1000000) (h3:∀ x,x ∈ main→x.length≤1000000) (h4:∀ x,x ∈ alt→x.length≤1000000):cj Tryz.prog 221 0 [] [.agg (jD main alt)]
  (fun r hp'=>r=.ptr 289 0 0 1∧lk 289 hp'=some ⟨283,3,[[.own 129 0 main.length main.length,.own 225 0 alt.length alt.length,.d (.int .i64 0)]]⟩∧lk 129 hp'=some ⟨31,1,cM main []⟩∧lk 225 hp'=some ⟨31,1,cM alt []⟩):=by
 refine al Tryz.func221 (by kernel_rfl) rfl Tryz.ntmps221 (rs:=[.tmp 2]) rfl (dT rfl) (by decide) ?_;simp [go_sem,jD];refine cf [0,1,3,4] [(2,[]),(5,[6]),(7,[8])] 3 (k:=9) ?_;intro G hG;simp [go_sem]
 repeat' apply And.intro
 all_goals
  refine aN [] (IQ main h1 h3) rfl aw aw aw (by simp [AV.renL,AV.ren]) ?_;rintro r hp' ⟨rfl,hA⟩;refine ⟨[(129,0)],by simp [cv,ff],?_⟩;simp [go_sem,bP,bC,hA,Blk.ren,kt,AV.renL,AV.ren,bR];refine aN [] (IQ alt h2 h4) rfl aw aw aw (by simp [AV.renL,AV.ren]) ?_;rintro r hp2 ⟨rfl,hB⟩;refine ⟨[(129,0)],by simp [cv,ff],?_⟩;simp [go_sem,bP,bC,hB,Blk.ren,kt,AV.renL,AV.ren,bR];refine hG _ _ ?_;clear hG G;simp [go_sem,ah]
theorem mS (ρ:Nat→Nat) (l:List be) (J:List Jk):(cM l J).map (AV.renL ρ)=cM l J:=kt ρ l J
theorem lL:oI 3 (fun j=>128+j):=by
 intro i j hi hj h;show i=j;have:128+i=128+j:=h;omega
def vS (m:Mc):AV:=.tup [.agg (jD (dm m).1 (dm m).2.1),.d (.int .i64 (dm m).2.2)]
theorem lM {m:Mc} (h:(dm m).2.2=0):dm m=(m.main,m.alt,0):=by
 unfold dm at h ⊢;by_cases h1:m.e=0
 ·simp only [h1,if_true] at h ⊢;by_cases h2:fw m.main m.alt=0
  ·simp [h2]
  ·simp [h2] at h
 ·simp [h1] at h
theorem nJ {m:Mc} (h:(dm m).2.2 ≠ 0):dm m=([],[],(dm m).2.2):=by
 unfold dm at h ⊢;by_cases h1:m.e=0
 ·simp only [h1,if_true] at h ⊢;by_cases h2:fw m.main m.alt=0
  ·simp [h2] at h
  ·simp [h2]
 ·simp [h1]
theorem nK {main alt:List be} {J H:List Jk} {A B:Nat} {st:St} (hA:lk A st.hp=some ⟨31,1,cM main J⟩) (hB:lk B st.hp=some ⟨31,1,cM alt H⟩) :
  dx (fun r=>r=.tup [.agg (jD main alt),.d (.int .i64 0)]) (.tup [.agg [.own A 0 main.length (main.length+J.length),.own B 0 alt.length (alt.length+H.length)],.d (.int .i64 0)]) st:=by
 refine ⟨_,.tup (cs':=[.agg (jD main alt),.d (.int .i64 0)]) rfl (fun i c c' h1 h2=>?_),?_,rfl⟩
 ·match i with
  | 0 =>
   simp at h1 h2;subst h1;subst h2;exact .inr ⟨_,_,rfl,rfl,rfl,ap (ak (il hA trivial)) (ap (ak (il hB trivial)) bB)⟩
  | 1=>simp at h1 h2;subst h1;subst h2;exact .inl (.inl ⟨rfl,trivial⟩)
  | i+2=>simp at h1
 ·intro c hc;simp at hc;rcases hc with rfl | rfl
  ·exact .inr ⟨_,rfl,eJ _ _⟩
  ·exact .inl trivial
theorem jL {e:Int} {st:St}:dx (fun r=>r=.tup [.agg (jD [] []),.d (.int .i64 e)]) (.tup [.agg [.nil,.nil],.d (.int .i64 e)]) st:=by
 refine ⟨_,.tup (cs':=[.agg (jD [] []),.d (.int .i64 e)]) rfl (fun i c c' h1 h2=>?_),?_,rfl⟩
 ·match i with
  | 0 =>
   simp at h1 h2;subst h1;subst h2;exact .inr ⟨_,_,rfl,rfl,rfl,ap (ak (.nil 1)) (ap (ak (.nil 1)) bB)⟩
  | 1=>simp at h1 h2;subst h1;subst h2;exact .inl (.inl ⟨rfl,trivial⟩)
  | i+2=>simp at h1
 ·intro c hc;simp at hc;rcases hc with rfl | rfl
  ·exact .inr ⟨_,rfl,eJ _ _⟩
  ·exact .inl trivial
theorem Gh (main alt:List be) (x:be) (h1:main.length≤1000) (h2:alt.length≤1000) (h3:∀ x,x ∈ main→x.length≤1000000) (h4:∀ x,x ∈ alt→x.length≤1000000) (hx:x.length≤1000000) :
  ax Tryz.prog 197 [.agg (jD main alt),.d (nb x)] (fun r=>r=vS ⟨main ++ [x],alt,0⟩):=by
 refine bO Tryz.func197 Tryz.ntmps197 (rs:=[.cell 4 155,.tmp 5]) (by intro v hv;simp at hv;rcases hv with rfl | rfl;exact eJ _ _;trivial) ?_;simp [go_sem,jD];refine aN [] (xC main alt aq aq h3 h4) rfl aw aw aw (by simp [AV.renL,AV.ren,jD]) ?_;rintro r hp' ⟨rfl,hI,hA,hB⟩;refine ⟨[(289,0),(129,1),(225,2)],by simp [cv,ff],?_⟩;simp [go_sem,bP,bC,hI,hA,hB,Blk.ren,mS,AV.renL,AV.ren,bR,aL]
 refine cq [256] [(32,⟨155,2,[[.nil,.nil]]⟩)] (args':=[.ptr 128 0 0 1,.d (.ro 1 [[nb x]])]) bH (fun j=>128+j) (fN ⟨main,alt,0⟩ [] [] x (by simp;omega) hx) lL (fun j hj=>by show 128+j<288;omega) (by simp [bQ,bo,aE,lk]) rfl
  (fun i v v' q1 q2=>by
   match i with
   | 0=>simp at q1 q2;subst q1;subst q2;exact .inl rfl
   | 1 =>
    simp at q1 q2;subst q1;subst q2;exact .inr (.one (ak (il (l:=[x]) (J:=[]) rfl aw)))
   | i+2=>simp at q1)
  (fun p hp=>by simp at hp;subst hp;exact ⟨by show 32<288;omega,fun j hj=>by show 128+j ≠ 32;omega⟩) rfl ?_
 rintro v s' ρ ⟨J',rfl⟩ hρ;simp only [bQ,bo,dV];simp [go_sem]
 refine cq [] [(32,⟨155,2,[[.nil,.nil]]⟩)] bH (fun j=>128+j) (xB ⟨main ++ [x],alt,0⟩ J' [] (by simp;omega) (by simp;omega)) lL (fun j hj=>by show 128+j<352;omega) (by simp [bQ,bo,aE,lk]) rfl ik
  (fun p hp=>by simp at hp;subst hp;exact ⟨by show 32<352;omega,fun j hj=>by show 128+j ≠ 32;omega⟩) rfl ?_
 rintro v s' ρ ⟨rfl,e',rfl⟩ hρ;have r1:ρ 1=129:=hρ 1 aq;have r2:ρ 2=130:=hρ 2 aq;simp only [bQ,bo];unfold pN vS;by_cases hc:(dm ⟨main ++ [x],alt,0⟩).2.2=0
 ·have hd:=lM hc;rw [if_pos hc];rw [hd];simp [go_sem,AV.ren,AV.renL,r1,r2,ah];have e1:main.length+1=(main ++ [x]).length:=by simp
  rw [e1];exact nK (J:=J') (H:=[]) rfl rfl
 ·have hd:=nJ hc;rw [if_neg hc,hd];simp [go_sem,AV.ren,AV.renL,r1,r2,ah];exact jL
theorem Yq (c:Nat):oI 3 (fun j=>c+j):=by
 intro i j hi hj h;have:c+i=c+j:=h;omega
theorem Pz {a a':AV} {cs cs':List AV} {e:Int} {st:St} (ha:jr st.hp (fun _=>True) a a') (hda:a'.deep1) (hc:sS st.hp (fun _=>True) cs cs') (hdc:∀ c,c ∈ cs'→c.deep1) :
  dx (fun r=>r=.tup [a',.agg cs',.d (.int .i64 e)]) (.tup [a,.agg cs,.d (.int .i64 e)]) st:=by
 refine ⟨_,.tup (cs':=[a',.agg cs',.d (.int .i64 e)]) rfl (fun i c c' h1 h2=>?_),?_,rfl⟩
 ·match i with
  | 0=>simp at h1 h2;subst h1;subst h2;exact .inl ha
  | 1 =>
   simp at h1 h2;subst h1;subst h2;exact .inr ⟨_,_,rfl,rfl,hc⟩
  | 2=>simp at h1 h2;subst h1;subst h2;exact .inl (.inl ⟨rfl,trivial⟩)
  | i+3=>simp at h1
 ·intro c hc;simp at hc;rcases hc with rfl | rfl | rfl
  ·exact .inl hda
  ·exact .inr ⟨_,rfl,hdc⟩
  ·exact .inl trivial
theorem I2 {main alt:List be} {J H:List Jk} {A B:Nat} {hp:Hp} {I:Nat→Prop} (hA:lk A hp=some ⟨31,1,cM main J⟩) (hB:lk B hp=some ⟨31,1,cM alt H⟩) (h1:I A) (h2:I B) :
  sS hp I [.own A 0 main.length (main.length+J.length),.own B 0 alt.length (alt.length+H.length)] (jD main alt):=⟨rfl,ap (ak (il hA h1)) (ap (ak (il hB h2)) bB)⟩
theorem I3 {hp:Hp} {I:Nat→Prop}:sS hp I [.nil,.nil] (jD [] []):=⟨rfl,ap (ak (.nil 1)) (ap (ak (.nil 1)) bB)⟩
def BQ (main alt:List be):AV:=match main.getLast? with
 | none=>.tup [.d (.ro 1 []),.agg (jD [] []),.d (.int .i64 12)]
 | some x=>.tup [.d (nb x),.agg (jD main.dropLast alt),.d (.int .i64 0)]
theorem zL (main alt:List be) (h1:main.length≤1000) (h2:alt.length≤1000) (h3:∀ x,x ∈ main→x.length≤1000000) (h4:∀ x,x ∈ alt→x.length≤1000000) :
  ax Tryz.prog 240 [.agg (jD main alt)] (fun r=>r=BQ main alt):=by
 refine bO Tryz.func240 Tryz.ntmps240 (rs:=[.tmp 2,.cell 3 155,.tmp 4]) (by intro v hv;simp at hv;subst hv;exact eJ _ _) ?_;simp [go_sem,jD];refine aN [] (xC main alt aq aq h3 h4) rfl aw aw aw (by simp [AV.renL,AV.ren,jD]) ?_;rintro r hp' ⟨rfl,hI,hA,hB⟩;refine ⟨[(289,0),(129,1),(225,2)],by simp [cv,ff],?_⟩;simp [go_sem,bP,bC,hI,hA,hB,Blk.ren,mS,AV.renL,AV.ren,bR,aL]
 refine cq [] [(64,⟨155,2,[[.nil,.nil]]⟩)] bH (fun j=>160+j) (vK ⟨main,alt,0⟩ [] [] (by simp;omega)) (Yq 160) (fun j hj=>by show 160+j<256;omega) (by simp [bQ,bo,aE,lk]) rfl ik
  (fun p hp=>by simp at hp;subst hp;exact ⟨by show 64<256;omega,fun j hj=>by show 160+j ≠ 64;omega⟩) rfl ?_
 rintro v s' ρ ⟨rfl,J',rfl⟩ hρ;rcases main.eq_nil_or_concat with rfl | ⟨l,x,hm⟩
 ·have e1:aP 1 ⟨[],alt,0⟩=⟨[],alt,12⟩:=rfl;have e2:dh ⟨[],alt,0⟩=([],⟨[],alt,12⟩):=rfl;simp only [e1,e2,bQ,bo];simp [go_sem,AV.ren];refine cf [0,1,2,3,4,5] [(6,[7])] 1 (k:=8) ?_;intro G hG;simp [go_sem];refine hG _ _ ?_;clear hG G;simp [go_sem,ah];exact Pz (a':=.d (.ro 1 [])) (ak (.nil 1)) trivial I3 (eJ _ _)
 ·rw [List.concat_eq_append] at hm;subst hm;have e1:aP 1 ⟨l ++ [x],alt,0⟩=⟨l ++ [x],alt,0⟩:=by simp [aP]
  have e2:dh ⟨l ++ [x],alt,0⟩=(x,⟨l,alt,0⟩):=by simp [dh,e1]
  rw [e1,e2];simp only [bQ,bo];simp [go_sem,AV.ren];refine ek [0,1,2,3,4,5,6,7,8,9,10] [11,12] [0,1,2,3,4,5,6,7,8,9,10] (a_ [11,12]) ⟨[(2,.d (nb x)),(3,.ptr 64 0 0 1),(4,.d (.int .i64 0))],[(64,⟨155,2,[[.own 161 0 l.length (l.length+J'.length),.own 162 0 alt.length alt.length]]⟩),(161,⟨31,1,cM l J'⟩),(162,⟨31,1,cM alt []⟩)],9000⟩ (k:=13) ?h3 ?hq
  case h3 =>
   intro G hG;simp (config := { maxSteps := 3000000 }) [go_sem]
   repeat' apply And.intro
   all_goals
    refine hG _ _ (cz ⟨by simp [ai,fv,lk,AV.low,AV.low1],?_,aw⟩);intro p hp;simp only [d_,List.mem_nil_iff,or_false] at hp;rcases hp with rfl | rfl | rfl
    ·refine ⟨.inl (by simp [lk]),by show 64<9000;omega,?_⟩;intro r hr v hv;simp only [d_,List.mem_nil_iff,or_false] at hr;subst hr;simp only [d_,List.mem_nil_iff,or_false] at hv;rcases hv with rfl | rfl
     ·show 161<9000;omega
     ·show 162<9000;omega
    ·exact ⟨.inl (by simp [lk]),by show 161<9000;omega,ku _ _ _⟩
    ·exact ⟨.inl (by simp [lk]),by show 162<9000;omega,ku _ _ _⟩
  case hq =>
   simp [go_sem,ah];have hp:BQ (l ++ [x]) alt=.tup [.d (nb x),.agg (jD l alt),.d (.int .i64 0)]:=by simp [BQ]
   rw [hp];exact Pz (bc trivial) trivial (I2 (J:=J') (H:=[]) rfl rfl trivial trivial) (eJ _ _)
theorem gl {p:AV} {q:Nat} {ty:TypeId} {z:be} {hp:Hp} (h:lk q hp=some ⟨ty,1,[[.d (nb z)]]⟩):∀ (i:Nat) (v v':AV),[p,.own q 0 1 1][i]?=some v→[p,.d (.ro 1 [[nb z]])][i]?=some v'→v'=v ∨ Snap hp (fun id=>id ∈ [q]) v v':=by
 intro i v v' q1 q2
 match i with
 | 0=>simp at q1 q2;subst q1;subst q2;exact .inl rfl
 | 1 =>
  simp at q1 q2;subst q1;subst q2;exact .inr (.one (ak (il (l:=[z]) (J:=[]) h aw)))
 | i+2=>simp at q1
def jl (l:List Nat):List (List DV):=l.map fun (i:Nat)=>[.int .i64 (i:Int)]
theorem fP (m:Mc) (J H:List Jk) (k:Nat) (put:List Nat) (hp:∀ i,i ∈ put→i<k) (hk:k≤6) (hpl:put.length≤6) (hl:m.main.length≤1000) (hx:∀ x,x ∈ m.main→x.length≤1000000):cO Tryz.prog 3 bo 245 ⟨m,J,H⟩ [.ptr 0 0 0 1,.d (.int .i64 (k:Int)),.d (.ro 1 (jl put))]
  (fun v s'=>∃ J',s'=⟨cn k put m,J',H⟩):=by
 refine al Tryz.func245 (by kernel_rfl) rfl Tryz.ntmps245 (rs:=[]) rfl (dT rfl) (by decide) ?_;obtain ⟨main,alt,e⟩:=m;simp only at hl hx;rw [bQ];simp only [bo,id];simp [go_sem];refine dN (Pp:=[]) (s:=⟨⟨main,alt,e⟩,J,H⟩) (kz ⟨main,alt,e⟩ J H k) aq aw (by simp [AV.renL,AV.ren]) ?_;rintro v s' ρ ⟨rfl,rfl⟩ hρ;rw [bQ];by_cases h:(aP k ⟨main,alt,e⟩).e=0
 ·obtain ⟨h1,h2,h3⟩:=ig h;simp only at h1 h2;subst h2;have hs:cn k put ⟨main,alt,0⟩=⟨main.take (main.length - k) ++ put.map (fun i=>(main.drop (main.length - k)).getD i []),alt,0⟩:=if_pos h;rw [hs,h3];have w1:IntKind.i64.wrap ((main.length:Int) - (k:Int))=((main.length - k:Nat):Int):=by rw [IntWalk.i64_in _ aq];omega
  generalize hc:main.length - k=c at *;have hcl:c≤main.length:=aq;have hci:(c:Int)≤(main.length:Int):=aq;simp [go_sem,bo,AV.ren,w1,hcl,hci];refine aN [(0,1)] (Np main J c (main.length - c) aq aq hx) rfl aw (by simp [lk]) (by simp [lk,Blk.ren,aL,mS]) (by simp [AV.renL,AV.ren,bR,gu,lk]) ?_;rintro r hp' ⟨rfl,hT,hM⟩;refine ⟨[(130,0)],by simp [cv,ff],?_⟩;simp [go_sem,bP,bC,hT,hM,Blk.ren,mS,AV.renL,AV.ren,bR,aL,hcl,hci];have hTl:List.take (main.length - c) (List.drop c main)=main.drop c:=cx aw;rw [hTl];have hTn:(main.drop c).length=main.length - c:=by simp
  have hTk:(main.drop c).length=k:=by simp;omega
  have hmc:(main.take c).length=c:=by simp;omega
  have hgd:∀ i,main[c+i]?=(main.drop c)[i]?:=fun i=>by rw [List.getElem?_drop]
  have hTx:∀ x,x ∈ main.drop c→x.length≤1000000:=fun x hx'=>hx x (List.mem_of_mem_drop hx');have hcut:=DR (l:=main) (J:=J) c hcl;have hJl:main.length+J.length=(main.take c).length+((main.drop c).map Jk.i ++ J).length:=by simp;omega
  simp only [hgd];rw [← hTn,hcut,hJl];generalize main.drop c=T at *;generalize (T.map Jk.i ++ J)=J2 at *;have hcl2:(main.take c).length≤1000:=aq;clear hgd hcut hJl hM hT hTl hs;clear hc w1 hcl hci hTn h1 h3;generalize main.take c=l0 at *;subst hmc;simp only [List.length_map,jl]
  refine ar (fun u:Nat × List be × List Jk=>⟨[(0,.ptr 0 0 0 1),(7,.own 580 0 T.length T.length),(37,.d (.ro 1 (jl put))),(38,.d (.int .i64 (put.length:Int))),(39,.d (.int .i64 (u.1:Int)))],
   [(580,⟨31,1,cM T []⟩),(0,⟨283,3,[[.own 1 0 u.2.1.length (u.2.1.length+u.2.2.length),.own 2 0 alt.length (alt.length+H.length),.d (.int .i64 0)]]⟩),(1,⟨31,1,cM u.2.1 u.2.2⟩),(2,⟨31,1,cM alt H⟩)],9000⟩)
   (fun u=>u.1≤put.length∧u.2.1=l0 ++ (put.take u.1).map (fun i=>T[i]?.getD [])) (fun u=>put.length - u.1) (0,l0,J2) ⟨aw,aw⟩
   ⟨by simp [ai,fv,lk,AV.low,AV.low1,jl],List.forall_mem_cons.2 ⟨⟨.inl rfl,by show 580<9000;omega,ku _ _ _⟩,IOa (m:=⟨l0,alt,0⟩) rfl rfl rfl (dT rfl) trivial⟩,aw⟩ ?_
  rintro ⟨j,l,K⟩ ⟨hj,hlq⟩;simp only at hj hlq;have hll:l.length≤1006:=by rw [hlq];simp;omega
  simp only [go_sem,Nat.reduceEqDiff,Nat.reduceAdd,Nat.reduceLT,↓reduceIte,Nat.reduceMul];refine ⟨fun hh=>?_,fun hh=>?_⟩
  ·obtain ⟨y,hy1,hd⟩:=bm (l:=put) (k:=j) aq;have hyk:=hp y (cr hy1);obtain ⟨z,hz⟩:∃ z,T[y]?=some z:=⟨_,cm aq⟩;have w3:=az (k:=j) aq;have hs:=tj (J:=[]) hz;have hsg:∀ h:y<(cM T []).length,(cM T [])[y]=[.d (nb z)]:=fun h=>Option.some.inj ((cm h).symm.trans hs);have hyT:y<T.length:=aq;have hyi:(y:Int)<(T.length:Int):=aq;simp [go_sem,jl,hy1,hs,hsg,hyT,hyi,iW]
   refine cq [9288] [(580,⟨31,1,cM T []⟩)] (args':=[.ptr 0 0 0 1,.d (.ro 1 [[nb z]])]) bH id (fN ⟨l,alt,0⟩ K H z (by simp;omega) (hTx z (cr hz))) (aU 3) (fun j hj=>by show j<9320;omega) (by simp [bQ,bo,aE,lk]) rfl
    (gl rfl) (fun p hp=>by simp at hp;subst hp;exact ⟨by show 580<9320;omega,fun j hj=>by show j ≠ 580;omega⟩) rfl ?_
   rintro v s' ρ ⟨J',rfl⟩ hρ;simp only [bQ,bo,dV,id];simp [go_sem,w3];refine ao (j+1,l ++ [z],J') ⟨aq,?_⟩ (by show put.length - (j+1)<put.length - j;omega) ⟨by simp [ai,fv,lk,AV.low,AV.low1],List.forall_mem_cons.2 ⟨⟨.inl rfl,by show 580<9000;omega,ku _ _ _⟩,IOa (m:=⟨l ++ [z],alt,0⟩) (by simp [lk]) rfl rfl (dT rfl) trivial⟩,aw⟩;show l ++ [z]=_;rw [hlq,← List.map_take,List.take_add_one,hy1];simp [hz]
  ·have hj2:j=put.length:=aq;subst hj2;rw [List.take_length] at hlq;subst hlq;simp [go_sem,ah];exact ⟨_,⟨K,rfl⟩,aW (by simp [lk]) rfl rfl⟩
 ·have hs:cn k put ⟨main,alt,e⟩=aP k ⟨main,alt,e⟩:=if_neg h;rw [hs];generalize aP k ⟨main,alt,e⟩=m' at *;simp [go_sem,bo,AV.ren,h,ah];exact ⟨_,⟨J,rfl⟩,aW rfl rfl rfl⟩
end Go.Proofs.YtmfnimjnneflnaaGreat
namespace Go.Sha
open Go.Proofs.YtmfnimjnneflnaaGreat
inductive McT where
 | a (s:McS)
 | z (e:Int) (n k:Nat) (J H:List Jk)
end Go.Sha
namespace Go.Proofs.YtmfnimjnneflnaaGreat
open Go.Am Go.Sha
def xE:McT→(Nat→Nat)→Nat→Blk
 | .a s,f,i=>bo s f i
 | .z e n k J H,f,0=>⟨283,3,[[.own (f 1) 0 n J.length,.own (f 2) 0 k H.length,.d (.int .i64 e)]]⟩
 | .z e n k J H,f,1=>⟨31,1,cM [] J⟩
 | .z e n k J H,f,_=>⟨31,1,cM [] H⟩
theorem D1:FX 3 xE:=by
 refine ⟨fun s f ρ g i hi h=>?_,fun s f i hi=>?_⟩
 ·match s with
  | .a s=>exact bH.1 s f ρ g i hi h
  | .z e n k J H =>
   match i with
   | 0=>simp [xE,Blk.ren,aL,AV.renL,AV.ren,h 1 aq,h 2 aq]
   | 1=>simp only [xE,Blk.ren,kt]
   | i+2=>simp only [xE,Blk.ren,kt]
 ·match s with
  | .a s=>exact bH.2 s f i hi
  | .z e n k J H =>
   match i with
   | 0=>exact Nat.succ_ne_zero 2
   | 1=>exact Nat.succ_ne_zero 0
   | i+2=>exact Nat.succ_ne_zero 0
theorem Xk (s:McS) (f:Nat→Nat):ie 3 xE (.a s) f=ie 3 bo s f:=rfl
def I4 (m:Mc) (s:McT):Prop:=(∃ J H,s=.a ⟨m,J,H⟩) ∨ (m.e ≠ 0∧∃ n k J H,s=.z m.e n k J H)
theorem mj {m:Mc} {J H:List Jk} {hp:Hp} (h:rU 3 bo ⟨m,J,H⟩ id hp):∃ s',I4 m s'∧rU 3 xE s' id hp:=⟨.a ⟨m,J,H⟩,.inl ⟨J,H,rfl⟩,h⟩
theorem RE (m:Mc) (J H:List Jk) (hl:m.main.length≤1000) (h2:m.alt.length≤1000) (hx:∀ x,x ∈ m.alt→x.length≤1000000):cO Tryz.prog 3 bo 244 ⟨m,J,H⟩ [.ptr 0 0 0 1]
  (fun v s'=>∃ J' H',s'=⟨oa m,J',H'⟩):=by
 refine al Tryz.func244 (by kernel_rfl) rfl Tryz.ntmps244 (rs:=[]) rfl (dT rfl) (by decide) ?_;obtain ⟨main,alt,e⟩:=m;simp only at hl h2 hx;rw [bQ];simp only [bo,id];by_cases h0:alt.length=0
 ·have hb:oa ⟨main,alt,e⟩=gC 12 ⟨main,alt,e⟩:=if_pos h0;rw [hb];simp [go_sem,h0];rw [show H.length=alt.length+H.length by omega,show AV.own 2 0 0 (alt.length+H.length)=AV.own 2 0 alt.length (alt.length+H.length) by rw [h0]];refine dN (Pp:=[]) (s:=⟨⟨main,alt,e⟩,J,H⟩) (oJ ⟨main,alt,e⟩ J H 12) aq aw (by simp [AV.renL,AV.ren]) ?_;rintro v s' ρ rfl hρ;generalize gC 12 ⟨main,alt,e⟩=m';simp only [bQ,bo,id];simp [go_sem,ah];exact ⟨_,⟨J,H,rfl⟩,aW rfl rfl rfl⟩
 rcases alt.eq_nil_or_concat with rfl | ⟨l,x,hm⟩
 ·simp at h0
 ·rw [List.concat_eq_append] at hm;subst hm;have hb:oa ⟨main,l ++ [x],e⟩=⟨main ++ [x],l,e⟩:=by simp [oa]
  rw [hb];have w1:IntKind.i64.wrap (((l ++ [x]).length:Int) - 1)=(l.length:Int):=by rw [IntWalk.i64_in _ (by simp at h2 ⊢;omega)];simp
  have hs:=tj (J:=H) (l:=l ++ [x]) (k:=l.length) (x:=x) aw;have hsg:∀ h:l.length<(cM (l ++ [x]) H).length,(cM (l ++ [x]) H)[l.length]=[.d (nb x)]:=fun h=>Option.some.inj ((cm h).symm.trans hs);generalize hn:(l ++ [x]).length=n at *;have hn1:l.length<n:=by rw [← hn];simp
  have hn0:¬ n=0:=aq;have hn2:(l.length:Int)<(n:Int):=aq;have hn3:(l.length:Int)≤(n:Int):=aq;simp [go_sem,hn0,w1,hs,hsg,hn1,hn2,iW,hn]
  refine cq [548] [] (args':=[.ptr 0 0 0 1,.d (.ro 1 [[nb x]])]) bH id (fN ⟨main,l ++ [x],e⟩ J H x (by simp;omega) (hx x aw)) (aU 3) (fun j hj=>by show j<580;omega) (by simp [bQ,bo,aE,lk,hn]) rfl
   (gl rfl) aw rfl ?_
  rintro v s' ρ ⟨J',rfl⟩ hρ;simp only [bQ,bo,dV,id,hn];simp [go_sem,w1,hn1,hn2,hn3,ah];refine ⟨⟨⟨main ++ [x],l,e⟩,J',.i x :: H⟩,⟨J',.i x :: H,rfl⟩,aW ?_ ?_ ?_⟩
  ·simp [lk,← hn];omega
  ·rfl
  ·simp [lk,cM,nH,Ru,Xj]
theorem im {p k:AV} {q n:Nat} {ty:TypeId} {put:List Nat} {hp:Hp} (hn:put.length=n) (h:lk q hp=some ⟨ty,1,(jl put).map fun r=>r.map .d⟩):∀ (i:Nat) (v v':AV),[p,k,.own q 0 n n][i]?=some v→[p,k,.d (.ro 1 (jl put))][i]?=some v'→v'=v ∨ Snap hp (fun id=>id ∈ [q]) v v':=by
 intro i v v' q1 q2
 match i with
 | 0=>simp at q1 q2;subst q1;subst q2;exact .inl rfl
 | 1=>simp at q1 q2;subst q1;subst q2;exact .inl rfl
 | 2 =>
  simp at q1 q2;subst q1;subst q2;refine .inr (.one (ak (sR h aw (by simp [jl,hn]) (fun r hr=>?_))));obtain ⟨x,_,rfl⟩:=List.mem_map.1 hr;rfl
 | i+3=>simp at q1
theorem pO {p k:AV} {hp:Hp}:∀ (i:Nat) (v v':AV),[p,k,.nil][i]?=some v→[p,k,.d (.ro 1 (jl []))][i]?=some v'→v'=v ∨ Snap hp (fun id=>id ∈ []) v v':=by
 intro i v v' q1 q2
 match i with
 | 0=>simp at q1 q2;subst q1;subst q2;exact .inl rfl
 | 1=>simp at q1 q2;subst q1;subst q2;exact .inl rfl
 | 2 =>
  simp at q1 q2;subst q1;subst q2;exact .inr (.one (ak (.nil 1)))
 | i+3=>simp at q1
theorem VH {m:Mc} {n k a b:Nat} {J H:List Jk} {hp:Hp} (he:m.e ≠ 0) (h0:lk 0 hp=some ⟨283,3,[[.own 1 0 n a,.own 2 0 k b,.d (.int .i64 m.e)]]⟩) (ha:a=J.length) (hb:b=H.length) (h1:lk 1 hp=some ⟨31,1,cM [] J⟩) (h2:lk 2 hp=some ⟨31,1,cM [] H⟩) :
  ∃ s',I4 m s'∧rU 3 xE s' id hp:=by
 subst ha hb;refine ⟨.z m.e n k J H,.inr ⟨he,n,k,J,H,rfl⟩,fun i hi=>?_⟩
 match i,hi with
 | 0,_=>exact h0
 | 1,_=>exact h1
 | 2,_=>exact h2
theorem D2 (l:List be) (J:List Jk):cM l J=cM [] (l.map Jk.i ++ J):=by
 have:=DR (l:=l) (J:=J) 0 (Nat.zero_le _)
 simpa using this
theorem I5 (l:List be):l.map nH ++ [[.nil]]=cM [] (l.map Jk.i ++ [.n]):=by
 unfold cM;rw [List.map_append,List.map_map];rfl
theorem I6 (l:List be) (j:Jk) (H:List Jk):l.map nH ++ [.nil] :: (cM l (j :: H)).drop (l.length+1)=cM [] (l.map Jk.i ++ .n :: H):=by
 unfold cM;rw [List.drop_append,List.length_map,List.drop_of_length_le aw,Nat.add_sub_cancel_left,List.map_append,List.map_map];rfl
theorem zM (n:Nat) (main alt:List be) (e:Int):∃ e',aP n ⟨main,alt,e⟩=⟨main,alt,e'⟩:=by
 unfold aP gC
 split
 ·split
  ·exact ⟨_,rfl⟩
  ·exact ⟨_,rfl⟩
 ·exact ⟨_,rfl⟩
theorem ND (m:Mc) (J H:List Jk) (op:Nat) (ho:op<256) (hl:m.main.length≤1000) (h2:m.alt.length≤1000) (hx:∀ x,x ∈ m.main→x.length≤1000000) (hy:∀ x,x ∈ m.alt→x.length≤1000000):cO Tryz.prog 3 xE 235 (.a ⟨m,J,H⟩) [.ptr 0 0 0 1,.d (.int .u8 (op:Int))]
  (fun v s'=>v=.d (.bool (iO op m).isSome)∧I4 ((iO op m).getD m) s'):=by
 refine al Tryz.func235 (by kernel_rfl) rfl Tryz.ntmps235 (rs:=[.tmp 4]) rfl (dT rfl) (by decide) ?_;obtain ⟨main,alt,e⟩:=m;simp only at hl h2 hx hy;rw [Xk,bQ];simp only [bo,id];simp [go_sem];by_cases h97:op=97
 ·subst h97;rw [show iO 97 ⟨main,alt,e⟩=some ⟨main,alt,e⟩ from rfl];simp [go_sem,ah];exact mj (J:=J) (H:=H) (aW rfl rfl rfl)
 have i97:¬ (op:Int)=97:=aq;simp [go_sem,h97,i97];by_cases h107:op=107
 ·subst h107;simp [go_sem];refine dN (Pp:=[]) (s:=⟨⟨main,alt,e⟩,J,H⟩) (vK ⟨main,alt,e⟩ J H (by simp;omega)) aq aw (by simp [AV.renL,AV.ren]) ?_;rintro v s' ρ ⟨rfl,J',rfl⟩ hρ;rw [show iO 107 ⟨main,alt,e⟩=some (lG ⟨main,alt,e⟩) from rfl];have hT:List.take alt.length (cM alt H)=alt.map nH:=mN (cL _) |>.trans (by rw [List.take_length]);have hln:(cM alt H).length=alt.length+H.length:=iW _ _;by_cases h:(aP 1 ⟨main,alt,e⟩).e=0
  ·have hp:dh ⟨main,alt,e⟩=(main.getLastD [],⟨main.dropLast,alt,e⟩):=if_pos h;have hq:lG ⟨main,alt,e⟩=⟨main.dropLast,alt ++ [main.getLastD []],e⟩:=by simp [lG,hp]
   rw [hq,hp];generalize main.getLastD []=x at *;generalize main.dropLast=l2 at *;simp only [bQ,bo,id];rcases H with _ | ⟨j,H⟩
   ·simp [go_sem,AV.ren,h,d6,Dn,hT,hln,ah];refine ⟨aq,?_⟩;exact ⟨fun hh=>absurd hh aq,mj (m:=⟨l2,alt ++ [x],e⟩) (J:=J') (H:=[]) (aW (by simp [lk]) rfl (congrArg (fun r=>some (⟨31,1,r⟩:Blk)) (DO x)))⟩
   ·simp [go_sem,AV.ren,h,d6,Dn,hT,hln,ah];exact ⟨aq,mj (m:=⟨l2,alt ++ [x],e⟩) (J:=J') (H:=H) (aW (by simp [lk];omega) rfl (congrArg (fun r=>some (⟨31,1,r⟩:Blk)) (DN x)))⟩
  ·obtain ⟨e',he⟩:=zM 1 main alt e;have hp:dh ⟨main,alt,e⟩=([],⟨main,alt,e'⟩):=by rw [← he];exact if_neg h
   have hq:lG ⟨main,alt,e⟩=⟨main,alt ++ [[]],e'⟩:=by simp [lG,hp]
   rw [hq,hp];rw [he] at h ⊢;simp only [bQ,bo,id];rcases H with _ | ⟨j,H⟩
   ·simp [go_sem,AV.ren,h,d6,Dn,hT,hln,ah];exact ⟨aq,fun hh=>absurd hh aq,VH (m:=⟨main,alt ++ [[]],e'⟩) (J:=main.map Jk.i ++ J') (H:=alt.map Jk.i ++ [.n]) h rfl aw aw (congrArg (fun r=>some (⟨31,1,r⟩:Blk)) (D2 main J')) (congrArg (fun r=>some (⟨31,1,r⟩:Blk)) (I5 alt))⟩
   ·simp [go_sem,AV.ren,h,d6,Dn,hT,hln,ah];exact ⟨aq,VH (m:=⟨main,alt ++ [[]],e'⟩) (J:=main.map Jk.i ++ J') (H:=alt.map Jk.i ++ .n :: H) h rfl aw aw (congrArg (fun r=>some (⟨31,1,r⟩:Blk)) (D2 main J')) (congrArg (fun r=>some (⟨31,1,r⟩:Blk)) (I6 alt j H))⟩
 have i107:¬ (op:Int)=107:=aq;simp [go_sem,h107,i107];by_cases h108:op=108
 ·subst h108;simp [go_sem];refine dN (Pp:=[]) (s:=⟨⟨main,alt,e⟩,J,H⟩) (RE ⟨main,alt,e⟩ J H hl h2 hy) aq aw (by simp [AV.renL,AV.ren]) ?_;rintro v s' ρ ⟨J',H',rfl⟩ hρ;rw [show iO 108 ⟨main,alt,e⟩=some (oa ⟨main,alt,e⟩) from rfl];simp only [bQ,bo,id];simp [go_sem,ah];exact mj (J:=J') (H:=H') (aW rfl rfl rfl)
 have i108:¬ (op:Int)=108:=aq;simp [go_sem,h108,i108];by_cases h109:op=109
 ·subst h109;simp [go_sem];refine cq [] [] (args':=[.ptr 0 0 0 1,.d (.int .i64 2),.d (.ro 1 (jl []))]) bH id (fP ⟨main,alt,e⟩ J H 2 [] (by decide) (by decide) (by decide) hl hx) (aU 3) (fun j hj=>by show j<356;omega) (by simp [bQ,bo,aE,lk]) rfl pO aw rfl ?_;rintro v s' ρ ⟨J',rfl⟩ hρ;rw [show iO 109 ⟨main,alt,e⟩=some (cn 2 [] ⟨main,alt,e⟩) from rfl];simp only [bQ,bo,id];simp [go_sem,ah];exact mj (J:=J') (H:=H) (aW rfl rfl rfl)
 have i109:¬ (op:Int)=109:=aq;simp [go_sem,h109,i109];by_cases h110:op=110
 ·subst h110;simp [go_sem];refine cq [420] [] (args':=[.ptr 0 0 0 1,.d (.int .i64 2),.d (.ro 1 (jl [0,1,0,1]))]) bH id (fP ⟨main,alt,e⟩ J H 2 [0,1,0,1] (by decide) (by decide) (by decide) hl hx) (aU 3) (fun j hj=>by show j<452;omega) (by simp [bQ,bo,aE,lk]) rfl (im (put:=[0,1,0,1]) rfl rfl) aw rfl ?_;rintro v s' ρ ⟨J',rfl⟩ hρ;rw [show iO 110 ⟨main,alt,e⟩=some (cn 2 [0,1,0,1] ⟨main,alt,e⟩) from rfl];simp only [bQ,bo,id];simp [go_sem,ah];exact mj (J:=J') (H:=H) (aW rfl rfl rfl)
 have i110:¬ (op:Int)=110:=aq;simp [go_sem,h110,i110];by_cases h111:op=111
 ·subst h111;simp [go_sem];refine cq [484] [] (args':=[.ptr 0 0 0 1,.d (.int .i64 3),.d (.ro 1 (jl [0,1,2,0,1,2]))]) bH id (fP ⟨main,alt,e⟩ J H 3 [0,1,2,0,1,2] (by decide) (by decide) (by decide) hl hx) (aU 3) (fun j hj=>by show j<516;omega) (by simp [bQ,bo,aE,lk]) rfl (im (put:=[0,1,2,0,1,2]) rfl rfl) aw rfl ?_;rintro v s' ρ ⟨J',rfl⟩ hρ;rw [show iO 111 ⟨main,alt,e⟩=some (cn 3 [0,1,2,0,1,2] ⟨main,alt,e⟩) from rfl];simp only [bQ,bo,id];simp [go_sem,ah];exact mj (J:=J') (H:=H) (aW rfl rfl rfl)
 have i111:¬ (op:Int)=111:=aq;simp [go_sem,h111,i111];by_cases h112:op=112
 ·subst h112;simp [go_sem];refine cq [548] [] (args':=[.ptr 0 0 0 1,.d (.int .i64 4),.d (.ro 1 (jl [0,1,2,3,0,1]))]) bH id (fP ⟨main,alt,e⟩ J H 4 [0,1,2,3,0,1] (by decide) (by decide) (by decide) hl hx) (aU 3) (fun j hj=>by show j<580;omega) (by simp [bQ,bo,aE,lk]) rfl (im (put:=[0,1,2,3,0,1]) rfl rfl) aw rfl ?_;rintro v s' ρ ⟨J',rfl⟩ hρ;rw [show iO 112 ⟨main,alt,e⟩=some (cn 4 [0,1,2,3,0,1] ⟨main,alt,e⟩) from rfl];simp only [bQ,bo,id];simp [go_sem,ah];exact mj (J:=J') (H:=H) (aW rfl rfl rfl)
 have i112:¬ (op:Int)=112:=aq;simp [go_sem,h112,i112];by_cases h113:op=113
 ·subst h113;simp [go_sem];refine cq [612] [] (args':=[.ptr 0 0 0 1,.d (.int .i64 6),.d (.ro 1 (jl [2,3,4,5,0,1]))]) bH id (fP ⟨main,alt,e⟩ J H 6 [2,3,4,5,0,1] (by decide) (by decide) (by decide) hl hx) (aU 3) (fun j hj=>by show j<644;omega) (by simp [bQ,bo,aE,lk]) rfl (im (put:=[2,3,4,5,0,1]) rfl rfl) aw rfl ?_;rintro v s' ρ ⟨J',rfl⟩ hρ;rw [show iO 113 ⟨main,alt,e⟩=some (cn 6 [2,3,4,5,0,1] ⟨main,alt,e⟩) from rfl];simp only [bQ,bo,id];simp [go_sem,ah];exact mj (J:=J') (H:=H) (aW rfl rfl rfl)
 have i113:¬ (op:Int)=113:=aq;simp [go_sem,h113,i113];by_cases h114:op=114
 ·subst h114;simp [go_sem];refine cq [676] [] (args':=[.ptr 0 0 0 1,.d (.int .i64 4),.d (.ro 1 (jl [2,3,0,1]))]) bH id (fP ⟨main,alt,e⟩ J H 4 [2,3,0,1] (by decide) (by decide) (by decide) hl hx) (aU 3) (fun j hj=>by show j<708;omega) (by simp [bQ,bo,aE,lk]) rfl (im (put:=[2,3,0,1]) rfl rfl) aw rfl ?_;rintro v s' ρ ⟨J',rfl⟩ hρ;rw [show iO 114 ⟨main,alt,e⟩=some (cn 4 [2,3,0,1] ⟨main,alt,e⟩) from rfl];simp only [bQ,bo,id];simp [go_sem,ah];exact mj (J:=J') (H:=H) (aW rfl rfl rfl)
 have i114:¬ (op:Int)=114:=aq;simp [go_sem,h114,i114];by_cases h117:op=117
 ·subst h117;simp [go_sem];refine cq [] [] (args':=[.ptr 0 0 0 1,.d (.int .i64 1),.d (.ro 1 (jl []))]) bH id (fP ⟨main,alt,e⟩ J H 1 [] (by decide) (by decide) (by decide) hl hx) (aU 3) (fun j hj=>by show j<740;omega) (by simp [bQ,bo,aE,lk]) rfl pO aw rfl ?_;rintro v s' ρ ⟨J',rfl⟩ hρ;rw [show iO 117 ⟨main,alt,e⟩=some (cn 1 [] ⟨main,alt,e⟩) from rfl];simp only [bQ,bo,id];simp [go_sem,ah];exact mj (J:=J') (H:=H) (aW rfl rfl rfl)
 have i117:¬ (op:Int)=117:=aq;simp [go_sem,h117,i117];by_cases h118:op=118
 ·subst h118;simp [go_sem];refine cq [804] [] (args':=[.ptr 0 0 0 1,.d (.int .i64 1),.d (.ro 1 (jl [0,0]))]) bH id (fP ⟨main,alt,e⟩ J H 1 [0,0] (by decide) (by decide) (by decide) hl hx) (aU 3) (fun j hj=>by show j<836;omega) (by simp [bQ,bo,aE,lk]) rfl (im (put:=[0,0]) rfl rfl) aw rfl ?_;rintro v s' ρ ⟨J',rfl⟩ hρ;rw [show iO 118 ⟨main,alt,e⟩=some (cn 1 [0,0] ⟨main,alt,e⟩) from rfl];simp only [bQ,bo,id];simp [go_sem,ah];exact mj (J:=J') (H:=H) (aW rfl rfl rfl)
 have i118:¬ (op:Int)=118:=aq;simp [go_sem,h118,i118];by_cases h119:op=119
 ·subst h119;simp [go_sem];refine cq [868] [] (args':=[.ptr 0 0 0 1,.d (.int .i64 2),.d (.ro 1 (jl [1]))]) bH id (fP ⟨main,alt,e⟩ J H 2 [1] (by decide) (by decide) (by decide) hl hx) (aU 3) (fun j hj=>by show j<900;omega) (by simp [bQ,bo,aE,lk]) rfl (im (put:=[1]) rfl rfl) aw rfl ?_;rintro v s' ρ ⟨J',rfl⟩ hρ;rw [show iO 119 ⟨main,alt,e⟩=some (cn 2 [1] ⟨main,alt,e⟩) from rfl];simp only [bQ,bo,id];simp [go_sem,ah];exact mj (J:=J') (H:=H) (aW rfl rfl rfl)
 have i119:¬ (op:Int)=119:=aq;simp [go_sem,h119,i119];by_cases h120:op=120
 ·subst h120;simp [go_sem];refine cq [932] [] (args':=[.ptr 0 0 0 1,.d (.int .i64 2),.d (.ro 1 (jl [0,1,0]))]) bH id (fP ⟨main,alt,e⟩ J H 2 [0,1,0] (by decide) (by decide) (by decide) hl hx) (aU 3) (fun j hj=>by show j<964;omega) (by simp [bQ,bo,aE,lk]) rfl (im (put:=[0,1,0]) rfl rfl) aw rfl ?_;rintro v s' ρ ⟨J',rfl⟩ hρ;rw [show iO 120 ⟨main,alt,e⟩=some (cn 2 [0,1,0] ⟨main,alt,e⟩) from rfl];simp only [bQ,bo,id];simp [go_sem,ah];exact mj (J:=J') (H:=H) (aW rfl rfl rfl)
 have i120:¬ (op:Int)=120:=aq;simp [go_sem,h120,i120];by_cases h123:op=123
 ·subst h123;simp [go_sem];refine cq [996] [] (args':=[.ptr 0 0 0 1,.d (.int .i64 3),.d (.ro 1 (jl [1,2,0]))]) bH id (fP ⟨main,alt,e⟩ J H 3 [1,2,0] (by decide) (by decide) (by decide) hl hx) (aU 3) (fun j hj=>by show j<1028;omega) (by simp [bQ,bo,aE,lk]) rfl (im (put:=[1,2,0]) rfl rfl) aw rfl ?_;rintro v s' ρ ⟨J',rfl⟩ hρ;rw [show iO 123 ⟨main,alt,e⟩=some (cn 3 [1,2,0] ⟨main,alt,e⟩) from rfl];simp only [bQ,bo,id];simp [go_sem,ah];exact mj (J:=J') (H:=H) (aW rfl rfl rfl)
 have i123:¬ (op:Int)=123:=aq;simp [go_sem,h123,i123];by_cases h124:op=124
 ·subst h124;simp [go_sem];refine cq [1060] [] (args':=[.ptr 0 0 0 1,.d (.int .i64 2),.d (.ro 1 (jl [1,0]))]) bH id (fP ⟨main,alt,e⟩ J H 2 [1,0] (by decide) (by decide) (by decide) hl hx) (aU 3) (fun j hj=>by show j<1092;omega) (by simp [bQ,bo,aE,lk]) rfl (im (put:=[1,0]) rfl rfl) aw rfl ?_;rintro v s' ρ ⟨J',rfl⟩ hρ;rw [show iO 124 ⟨main,alt,e⟩=some (cn 2 [1,0] ⟨main,alt,e⟩) from rfl];simp only [bQ,bo,id];simp [go_sem,ah];exact mj (J:=J') (H:=H) (aW rfl rfl rfl)
 have i124:¬ (op:Int)=124:=aq;simp [go_sem,h124,i124];by_cases h125:op=125
 ·subst h125;simp [go_sem];refine cq [1124] [] (args':=[.ptr 0 0 0 1,.d (.int .i64 2),.d (.ro 1 (jl [1,0,1]))]) bH id (fP ⟨main,alt,e⟩ J H 2 [1,0,1] (by decide) (by decide) (by decide) hl hx) (aU 3) (fun j hj=>by show j<1156;omega) (by simp [bQ,bo,aE,lk]) rfl (im (put:=[1,0,1]) rfl rfl) aw rfl ?_;rintro v s' ρ ⟨J',rfl⟩ hρ;rw [show iO 125 ⟨main,alt,e⟩=some (cn 2 [1,0,1] ⟨main,alt,e⟩) from rfl];simp only [bQ,bo,id];simp [go_sem,ah];exact mj (J:=J') (H:=H) (aW rfl rfl rfl)
 have i125:¬ (op:Int)=125:=aq;have hn:iO op ⟨main,alt,e⟩=none:=by simp [iO,h97,h107,h108,h109,h110,h111,h112,h113,h114,h117,h118,h119,h120,h123,h124,h125]
 rw [hn];simp [go_sem,h125,i125,ah];exact mj (J:=J) (H:=H) (aW rfl rfl rfl)
theorem xF (m:Mc) (J H:List Jk) (b:Bool):cO Tryz.prog 3 bo 247 ⟨m,J,H⟩ [.ptr 0 0 0 1,.d (.bool b)] (fun v s'=>s'=⟨jv b m,J,H⟩):=by
 refine al Tryz.func247 (by kernel_rfl) rfl Tryz.ntmps247 (rs:=[]) rfl (dT rfl) (by decide) ?_;rw [bQ];simp only [bo,id]
 cases b with
 | true =>
  simp [go_sem,ah];exact aW rfl rfl rfl
 | false =>
  simp [go_sem];refine dN (Pp:=[]) (s:=⟨m,J,H⟩) (oJ m J H 16) aq aw (by simp [AV.renL,AV.ren]) ?_;rintro v s' ρ rfl hρ;have hm:jv false m=gC 16 m:=rfl;rw [hm];generalize gC 16 m=m';simp only [bQ,bo,id];simp [go_sem,ah];exact aW rfl rfl rfl
theorem D3 {m:Mc} (h:2≤m.main.length):m.main[m.main.length - 1 - 1]?=some (zy m):=by
 unfold zy;rw [cR,show m.main.length - 2=m.main.length - 1 - 1 by omega];rw [cm aq];rfl
theorem so {m:Mc} (h:1≤m.main.length):m.main[m.main.length - 1]?=some (oH m):=DT h
theorem I7 (m:Mc) (J H:List Jk) (hl:m.main.length≤1000) (hx:∀ x,x ∈ m.main→x.length≤1000000) (hb:∀ x,x ∈ m.main→bytes x):cO Tryz.prog 3 bo 251 ⟨m,J,H⟩ [.ptr 0 0 0 1]
  (fun v s'=>v=.d (.bool (fY m).1)∧∃ J',s'=⟨(fY m).2,J',H⟩):=by
 refine al Tryz.func251 (by kernel_rfl) rfl Tryz.ntmps251 (rs:=[.tmp 2]) rfl (dT rfl) (by decide) ?_;obtain ⟨main,alt,e⟩:=m;simp only at hl hx hb;rw [bQ];simp only [bo,id];simp [go_sem];refine dN (Pp:=[]) (s:=⟨⟨main,alt,e⟩,J,H⟩) (kz ⟨main,alt,e⟩ J H 2) aq aw (by simp [AV.renL,AV.ren]) ?_;rintro v s' ρ ⟨rfl,rfl⟩ hρ;by_cases h:(aP 2 ⟨main,alt,e⟩).e=0
 ·obtain ⟨h1,h2,h3⟩:=ig h;simp only at h1 h2;subst h2;have ha:fY ⟨main,alt,0⟩=(decide (oH ⟨main,alt,0⟩=zy ⟨main,alt,0⟩),cn 2 [] ⟨main,alt,0⟩):=if_pos h;rw [h3,ha];have t0:=so (m:=⟨main,alt,0⟩) (by show 1≤main.length;omega);have t1:=D3 (m:=⟨main,alt,0⟩) (by show 2≤main.length;omega);have hm0:=cr t0;have hm1:=cr t1;simp only at t0 t1 hm0 hm1;generalize oH ⟨main,alt,0⟩=x0 at *;generalize zy ⟨main,alt,0⟩=x1 at *;simp only [bQ,bo,id];simp [go_sem,AV.ren];refine dN (Pp:=[]) (s:=⟨⟨main,alt,0⟩,J,H⟩) (oK ⟨main,alt,0⟩ J H x0 t0 (by show 1≤main.length;omega) (by show main.length≤1000000;omega)) aq aw (by simp [AV.renL,AV.ren]) ?_;rintro v s' ρ ⟨rfl,rfl⟩ hρ;simp only [bQ,bo,id];simp [go_sem,AV.ren,nb];refine dN (Pp:=[]) (s:=⟨⟨main,alt,0⟩,J,H⟩) (IP ⟨main,alt,0⟩ J H 1 x1 t1 (by show 1<main.length;omega) (by show main.length≤1000000;omega)) aq aw (by simp [AV.renL,AV.ren]) ?_;rintro v s' ρ ⟨rfl,rfl⟩ hρ;simp only [bQ,bo,id];simp [go_sem,AV.ren,nb];refine ag (ij x0 x1 (hb x0 hm0) (hb x1 hm1)) a9 ?_;simp [go_sem];refine cq [] [] (args':=[.ptr 0 0 0 1,.d (.int .i64 2),.d (.ro 1 (jl []))]) bH id (fP ⟨main,alt,0⟩ J H 2 [] (by decide) (by decide) (by decide) hl hx) (aU 3) (fun j hj=>by show j<356;omega) (by simp [bQ,bo,aE,lk]) rfl pO aw rfl ?_;rintro v s' ρ ⟨J',rfl⟩ hρ;generalize cn 2 [] ⟨main,alt,0⟩=m';simp only [bQ,bo,id];simp [go_sem,ah];exact ⟨_,⟨J',rfl⟩,aW rfl rfl rfl⟩
 ·have ha:fY ⟨main,alt,e⟩=(false,aP 2 ⟨main,alt,e⟩):=if_neg h;rw [ha];generalize aP 2 ⟨main,alt,e⟩=m' at *;simp only [bQ,bo,id];simp [go_sem,AV.ren,h,ah];exact ⟨_,⟨J,rfl⟩,aW rfl rfl rfl⟩
theorem BR (b:List Nat) (hl:b.length≤100000000000):cj Tryz.prog 52 0 [] [.d (nb b)] (fun r hp'=>(b=[]∧r=.nil) ∨ ∃ I,r=.own I 0 b.length b.length∧lk I hp'=some ⟨5,1,rb b⟩):=by
 refine al Tryz.func52 (by kernel_rfl) rfl Tryz.ntmps52 (rs:=[.tmp 2]) rfl (dT rfl) (by decide) ?_;simp only [go_sem,nb,Nat.reduceEqDiff,Nat.reduceAdd,Nat.reduceLT,↓reduceIte];intro t hb
 cases t with
 | true =>
  have h0:b=[]:=List.eq_nil_of_length_eq_zero (by simpa using hb rfl);subst h0;simp only [go_sem,Nat.reduceEqDiff,Nat.reduceAdd,Nat.reduceLT,↓reduceIte];exact .inl (by trivial)
 | false =>
  simp [go_sem,cE,aG];omega
theorem zN {p:AV} {q B n:Nat} {ty:TypeId} {L:be} {hp:Hp} (hB:lk B hp=some ⟨ty,1,[[.own q 0 n n]]⟩) (hq:lk q hp=some ⟨5,1,rb L⟩) (hn:L.length=n) :
  ∀ (i:Nat) (v v':AV),[p,.own B 0 1 1][i]?=some v→[p,.d (.ro 1 [[nb L]])][i]?=some v'→v'=v ∨ Snap hp (fun id=>id ∈ [B,q]) v v':=by
 intro i v v' q1 q2
 match i with
 | 0=>simp at q1 q2;subst q1;subst q2;exact .inl rfl
 | 1 =>
  simp at q1 q2;subst q1;subst q2;exact .inr (.one (ak (iH hB aw rfl (.cons (.cons (aM hn hq aw) .nil) .nil) rfl aw)))
 | i+2=>simp at q1
theorem RF (m:Mc) (J H:List Jk) (hl:m.main.length≤1000) (hx:∀ x,x ∈ m.main→x.length≤100000):cO Tryz.prog 3 bo 250 ⟨m,J,H⟩ [.ptr 0 0 0 1]
  (fun v s'=>∃ J',s'=⟨oc m,J',H⟩):=by
 refine al Tryz.func250 (by kernel_rfl) rfl Tryz.ntmps250 (rs:=[]) rfl (dT rfl) (by decide) ?_;obtain ⟨main,alt,e⟩:=m;simp only at hl hx;rw [bQ];simp only [bo,id];simp [go_sem];refine dN (Pp:=[]) (s:=⟨⟨main,alt,e⟩,J,H⟩) (kz ⟨main,alt,e⟩ J H 2) aq aw (by simp [AV.renL,AV.ren]) ?_;rintro v s' ρ ⟨rfl,rfl⟩ hρ;by_cases h:(aP 2 ⟨main,alt,e⟩).e=0
 ·obtain ⟨h1,h2,h3⟩:=ig h;simp only at h1 h2;subst h2;have ha:oc ⟨main,alt,0⟩=dV [zy ⟨main,alt,0⟩ ++ oH ⟨main,alt,0⟩] (cn 2 [] ⟨main,alt,0⟩):=if_pos h;rw [h3,ha];have t0:=so (m:=⟨main,alt,0⟩) (by show 1≤main.length;omega);have t1:=D3 (m:=⟨main,alt,0⟩) (by show 2≤main.length;omega);have hm0:=cr t0;have hm1:=cr t1;simp only at t0 t1 hm0 hm1;generalize oH ⟨main,alt,0⟩=x0 at *;generalize zy ⟨main,alt,0⟩=x1 at *;simp only [bQ,bo,id];simp [go_sem,AV.ren];refine dN (Pp:=[]) (s:=⟨⟨main,alt,0⟩,J,H⟩) (IP ⟨main,alt,0⟩ J H 1 x1 t1 (by show 1<main.length;omega) (by show main.length≤1000000;omega)) aq aw (by simp [AV.renL,AV.ren]) ?_;rintro v s' ρ ⟨rfl,rfl⟩ hρ;simp only [bQ,bo,id];simp [go_sem,AV.ren];have hl0:=hx x0 hm0;have hl1:=hx x1 hm1;refine aN [] (BR x1 aq) rfl aw aw aw (by simp [AV.renL,AV.ren]) ?_;rintro r hp' hr;rcases hr with ⟨rfl,rfl⟩ | ⟨I,rfl,hI⟩
  ·refine ⟨[],by simp [cv,ff],?_⟩;simp [go_sem,bP,bC,AV.ren];refine dN (Pp:=[]) (s:=⟨⟨main,alt,0⟩,J,H⟩) (oK ⟨main,alt,0⟩ J H x0 t0 (by show 1≤main.length;omega) (by show main.length≤1000000;omega)) aq aw (by simp [AV.renL,AV.ren]) ?_;rintro v s' ρ ⟨rfl,rfl⟩ hρ;simp only [bQ,bo,id];simp [go_sem,AV.ren,nb,cE,aG];refine ⟨aq,?_⟩;have hsv:cn 2 [] ⟨main,alt,0⟩=⟨main.take (main.length - 2),alt,0⟩:=by simp [cn,h]
   have hsl:(main.take (main.length - 2)).length≤1000:=by simp;omega
   refine cq [] [(260,⟨5,1,rb x0⟩)] (args':=[.ptr 0 0 0 1,.d (.int .i64 2),.d (.ro 1 (jl []))]) bH id (fP ⟨main,alt,0⟩ J H 2 [] (by decide) (by decide) (by decide) hl (fun x h=>Nat.le_trans (hx x h) (by decide))) (aU 3) (fun j hj=>by show j<356;omega) (by simp [bQ,bo,aE,lk]) rfl pO
    (fun p hp=>by simp at hp;subst hp;exact ⟨by show 260<356;omega,fun j hj=>by show j ≠ 260;omega⟩) rfl ?_
   rintro v s' ρ ⟨J',rfl⟩ hρ;rw [hsv];generalize main.take (main.length - 2)=l at *;simp only [bQ,bo,id];simp [go_sem]
   refine cq [452,260] [] (args':=[.ptr 0 0 0 1,.d (.ro 1 [[nb (x0)]])]) bH id (fN ⟨l,alt,0⟩ J' H (x0) (by show l.length≤1000000;omega) (by first | omega | (simp;omega))) (aU 3) (fun j hj=>by show j<484;omega) (by simp [bQ,bo,aE,lk]) rfl
    (zN (L:=x0) rfl rfl aw) aw rfl ?_
   rintro v s' ρ ⟨J2,rfl⟩ hρ;simp only [bQ,bo,dV,id];simp [go_sem,ah];exact ⟨⟨⟨l ++ [x0],alt,0⟩,J2,H⟩,⟨J2,rfl⟩,aW (by simp [lk]) rfl rfl⟩
  ·refine ⟨[(I,0)],by simp [cv,ff],?_⟩;simp [go_sem,bP,bC,hI,Blk.ren,aL,cF,AV.renL,AV.ren,bR];refine dN (Pp:=[(164,⟨5,1,rb x1⟩)]) (s:=⟨⟨main,alt,0⟩,J,H⟩) (oK ⟨main,alt,0⟩ J H x0 t0 (by show 1≤main.length;omega) (by show main.length≤1000000;omega)) aq aw (by simp [AV.renL,AV.ren]) ?_;rintro v s' ρ ⟨rfl,rfl⟩ hρ;simp only [bQ,bo,id];have hT:List.take x1.length (rb x1)=rb x1:=cx (by rw [aG];exact cL _);simp [go_sem,AV.ren,nb,uW,Xf,cE,aG,hT];refine ⟨aq,?_⟩;have hsv:cn 2 [] ⟨main,alt,0⟩=⟨main.take (main.length - 2),alt,0⟩:=by simp [cn,h]
   have hsl:(main.take (main.length - 2)).length≤1000:=by simp;omega
   refine cq [] [(164,⟨5,1,rb x1 ++ rb x0⟩)] (args':=[.ptr 0 0 0 1,.d (.int .i64 2),.d (.ro 1 (jl []))]) bH id (fP ⟨main,alt,0⟩ J H 2 [] (by decide) (by decide) (by decide) hl (fun x h=>Nat.le_trans (hx x h) (by decide))) (aU 3) (fun j hj=>by show j<356;omega) (by simp [bQ,bo,aE,lk]) rfl pO
    (fun p hp=>by simp at hp;subst hp;exact ⟨by show 164<356;omega,fun j hj=>by show j ≠ 164;omega⟩) rfl ?_
   rintro v s' ρ ⟨J',rfl⟩ hρ;rw [hsv];generalize main.take (main.length - 2)=l at *;simp only [bQ,bo,id];simp [go_sem]
   refine cq [452,164] [] (args':=[.ptr 0 0 0 1,.d (.ro 1 [[nb (x1 ++ x0)]])]) bH id (fN ⟨l,alt,0⟩ J' H (x1 ++ x0) (by show l.length≤1000000;omega) (by first | omega | (simp;omega))) (aU 3) (fun j hj=>by show j<484;omega) (by simp [bQ,bo,aE,lk]) rfl
    (zN (L:=x1 ++ x0) rfl (by simp [lk,rb]) aw) aw rfl ?_
   rintro v s' ρ ⟨J2,rfl⟩ hρ;simp only [bQ,bo,dV,id];simp [go_sem,ah];exact ⟨⟨⟨l ++ [x1 ++ x0],alt,0⟩,J2,H⟩,⟨J2,rfl⟩,aW (by simp [lk]) rfl rfl⟩
 ·have ha:oc ⟨main,alt,e⟩=aP 2 ⟨main,alt,e⟩:=if_neg h;rw [ha];generalize aP 2 ⟨main,alt,e⟩=m' at *;simp only [bQ,bo,id];simp [go_sem,AV.ren,h,ah];exact ⟨_,⟨J,rfl⟩,aW rfl rfl rfl⟩
theorem I8 {p:AV} {q B:Nat} {ty ty2:TypeId} {L:be} {hp:Hp} (hB:lk B hp=some ⟨ty,1,[[.sub q 0 0 1 32 32 1]]⟩) (hq:lk q hp=some ⟨ty2,32,[cb L]⟩) (hn:L.length=32) :
  ∀ (i:Nat) (v v':AV),[p,.own B 0 1 1][i]?=some v→[p,.d (.ro 1 [[nb L]])][i]?=some v'→v'=v ∨ Snap hp (fun id=>id ∈ [B,q]) v v':=by
 intro i v v' q1 q2
 match i with
 | 0=>simp at q1 q2;subst q1;subst q2;exact .inl rfl
 | 1 =>
  simp at q1 q2;subst q1;subst q2;exact .inr (.one (ak (iH hB aw rfl (.cons (.cons (ed hq aw hn) .nil) .nil) rfl aw)))
 | i+2=>simp at q1
theorem xG {m:Mc} (h:(aP 1 m).e=0):∃ l x,m.main=l ++ [x]∧dh m=(x,⟨l,m.alt,m.e⟩)∧m.e=0:=by
 obtain ⟨h1,h2,h3⟩:=ig h;obtain ⟨main,alt,e⟩:=m;simp only at h1 h2;rcases main.eq_nil_or_concat with rfl | ⟨l,x,hm⟩
 ·simp at h1
 ·rw [List.concat_eq_append] at hm;subst hm;exact ⟨l,x,rfl,by simp [dh,h],h2⟩
theorem I9 (g:FuncId) (f:be→be) (hg:∀ x:be,x.length≤1000000→ax Tryz.prog g [.d (nb x)] (fun r=>r=.agg (cb (f x)))) (hf:∀ x,(f x).length=32)
  (m:Mc) (J H:List Jk) (hl:m.main.length≤1000) (hx:∀ x,x ∈ m.main→x.length≤1000000):cO Tryz.prog 3 bo 252 ⟨m,J,H⟩ [.ptr 0 0 0 1,.fn g []]
  (fun v s'=>∃ J',s'=⟨kr f m,J',H⟩):=by
 refine al Tryz.func252 (by kernel_rfl) rfl Tryz.ntmps252 (rs:=[]) rfl (dT rfl) (by decide) ?_;obtain ⟨main,alt,e⟩:=m;simp only at hl hx;rw [bQ];simp only [bo,id];simp [go_sem];refine dN (Pp:=[]) (s:=⟨⟨main,alt,e⟩,J,H⟩) (kz ⟨main,alt,e⟩ J H 1) aq aw (by simp [AV.renL,AV.ren]) ?_;rintro v s' ρ ⟨rfl,rfl⟩ hρ;by_cases h:(aP 1 ⟨main,alt,e⟩).e=0
 ·obtain ⟨l,x,hm,hp,h2⟩:=xG h;obtain ⟨_,_,h3⟩:=ig h;simp only at hm h2 hp;subst h2;have ha:kr f ⟨main,alt,0⟩=⟨l ++ [f x],alt,0⟩:=by simp [kr,h,hp,dV]
  rw [h3,ha];simp only [bQ,bo,id];simp [go_sem,AV.ren];refine dN (Pp:=[]) (s:=⟨⟨main,alt,0⟩,J,H⟩) (vK ⟨main,alt,0⟩ J H (by show main.length≤1000000;omega)) aq aw (by simp [AV.renL,AV.ren]) ?_;rintro v s' ρ ⟨rfl,J',rfl⟩ hρ;rw [hp,if_pos h];simp only [bQ,bo,id];simp [go_sem,AV.ren];refine ag (hg x (hx x (by rw [hm];simp))) a9 ?_;have hfx:=hf x;generalize f x=y at *
  have hdz:cb y ++ List.drop y.length (cb z32)=cb y:=by
   rw [c_ (by rw [am,hfx];exact cL 32),List.append_nil]
  have hll:l.length≤1000:=by rw [hm] at hl;simp at hl;omega
  simp [go_sem];rw [hdz];refine ⟨hfx,aq,?_⟩
  refine cq [356,228] [] (args':=[.ptr 0 0 0 1,.d (.ro 1 [[nb y]])]) bH id (fN ⟨l,alt,0⟩ J' H y (by show l.length≤1000000;omega) aq) (aU 3) (fun j hj=>by show j<388;omega) (by simp [bQ,bo,aE,lk]) rfl
   (I8 rfl rfl hfx) aw rfl ?_
  rintro v s' ρ ⟨J2,rfl⟩ hρ;simp only [bQ,bo,dV,id];simp [go_sem,ah];exact ⟨⟨⟨l ++ [y],alt,0⟩,J2,H⟩,⟨J2,rfl⟩,aW (by simp [lk]) rfl rfl⟩
 ·have ha:kr f ⟨main,alt,e⟩=aP 1 ⟨main,alt,e⟩:=if_neg h;rw [ha];generalize aP 1 ⟨main,alt,e⟩=m' at *;simp only [bQ,bo,id];simp [go_sem,AV.ren,h,ah];exact ⟨_,⟨J,rfl⟩,aW rfl rfl rfl⟩
theorem Ja (rolls:Bool) (m:Mc) (J H:List Jk) (hl:m.main.length≤1000) (hx:∀ x,x ∈ m.main→x.length≤1000000) (hb:∀ x,x ∈ m.main→bytes x):cO Tryz.prog 3 bo 246 ⟨m,J,H⟩ [.ptr 0 0 0 1,.d (.bool rolls)]
    (fun v s'=>∃ J',s'=⟨ju rolls m,J',H⟩):=by
  refine al Tryz.func246 (by kernel_rfl) rfl Tryz.ntmps246 (rs:=[]) rfl (dT rfl) (by decide) ?_;obtain ⟨main,alt,e⟩:=m;simp only at hl hx hb;rw [bQ];simp only [bo,id];simp [go_sem];refine dN (Pp:=[]) (s:=⟨⟨main,alt,e⟩,J,H⟩) (vK ⟨main,alt,e⟩ J H (by show main.length≤1000000;omega)) aq aw (by simp [AV.renL,AV.ren]) ?_;rintro v s' ρ ⟨rfl,J',rfl⟩ hρ;by_cases h:(aP 1 ⟨main,alt,e⟩).e=0
  · obtain ⟨l,x,hm,hp,h2⟩:=xG h
    simp only at hm h2 hp;subst h2;have hxm:x ∈ main:=by rw [hm];simp
    have hll:l.length≤1000:=by rw [hm] at hl;simp at hl;omega
    have hd:ju rolls ⟨main,alt,0⟩=(let r:=fu 4 x ⟨l,alt,0⟩
      if r.2.e=0 then
        (if r.1<0 ∨ (r.2.main.length:Int)≤r.1 then gC 12 r.2
        else
          let a:=r.2.main.length - 1 - r.1.toNat
          dV [r.2.main.getD a []] ⟨if rolls then r.2.main.eraseIdx a else r.2.main,r.2.alt,r.2.e⟩)
      else r.2):=by unfold ju;rw [hp]
    rw [hp,if_pos h];simp only [bQ,bo,id];simp [go_sem,AV.ren];refine dN (Pp:=[]) (s:=⟨⟨l,alt,0⟩,J',H⟩) (IZ ⟨l,alt,0⟩ J' H 4 x (hb x hxm) (by decide) (hx x hxm)) aq aw (by simp [AV.renL,AV.ren,nb]) ?_;rintro v s' ρ ⟨rfl,rfl⟩ hρ;have hr:fu 4 x ⟨l,alt,0⟩=match fq 4 x with | some n=>(n,⟨l,alt,0⟩) | none=>(0,⟨l,alt,15⟩):=rfl;rw [hr] at hd ⊢
    cases hn:fq 4 x with
    | none =>
      rw [hn] at hd;have hv:ju rolls ⟨main,alt,0⟩=⟨l,alt,15⟩:=by rw [hd];rfl
      rw [hv];simp only [bQ,bo,id];simp [go_sem,AV.ren,ah];exact ⟨⟨⟨l,alt,15⟩,J',H⟩,⟨J',rfl⟩,aW rfl rfl rfl⟩
    | some n =>
      rw [hn] at hd;simp only [if_true] at hd;simp only [bQ,bo,id];by_cases hneg:n<0
      · rw [if_pos (.inl hneg)] at hd
        rw [hd];simp [go_sem,AV.ren,hneg];refine dN (Pp:=[]) (s:=⟨⟨l,alt,0⟩,J',H⟩) (oJ ⟨l,alt,0⟩ J' H 12) aq aw (by simp [AV.renL,AV.ren]) ?_;rintro v s' ρ rfl hρ;generalize gC 12 ⟨l,alt,0⟩=m';simp only [bQ,bo,id];simp [go_sem,ah];exact ⟨_,⟨J',rfl⟩,aW rfl rfl rfl⟩
      · by_cases hbig:(l.length:Int)≤n
        · rw [if_pos (.inr hbig)] at hd
          rw [hd];simp [go_sem,AV.ren,hneg,hbig];refine dN (Pp:=[]) (s:=⟨⟨l,alt,0⟩,J',H⟩) (oJ ⟨l,alt,0⟩ J' H 12) aq aw (by simp [AV.renL,AV.ren]) ?_;rintro v s' ρ rfl hρ;generalize gC 12 ⟨l,alt,0⟩=m';simp only [bQ,bo,id];simp [go_sem,ah];exact ⟨_,⟨J',rfl⟩,aW rfl rfl rfl⟩
        · obtain ⟨k,rfl⟩:∃ k:Nat,n=k:=⟨n.toNat,aq⟩
          have hkl:k<l.length:=aq;have w1:IntKind.i64.wrap ((l.length:Int) - 1)=((l.length - 1:Nat):Int):=by rw [IntWalk.i64_in _ aq];omega
          have w2:IntKind.i64.wrap (((l.length - 1:Nat):Int) - (k:Int))=((l.length - 1 - k:Nat):Int):=by rw [IntWalk.i64_in _ aq];omega
          obtain ⟨y,hy⟩:∃ y,l[l.length - 1 - k]?=some y:=⟨_,cm aq⟩;have hyd:l.getD (l.length - 1 - k) []=y:=by rw [cR,hy];rfl
          have hyx:y.length≤1000000:=hx y (by rw [hm];exact List.mem_append_left _ (cr hy));have hs:=tj (J:=J') hy;have hal:l.length - 1 - k<l.length:=aq;have hal2:((l.length - 1 - k:Nat):Int)<(l.length:Int):=aq;have hsg:∀ hh:l.length - 1 - k<(cM l J').length,(cM l J')[l.length - 1 - k]=[.d (nb y)]:=fun hh=>Option.some.inj ((cm hh).symm.trans hs);have hge:¬ ((l.length:Int)≤(k:Int)):=hbig;rw [if_neg aq] at hd;simp only [Int.toNat_natCast,hyd,dV] at hd;rw [hd];generalize hac:l.length - 1 - k=a at *;simp [go_sem,AV.ren,hneg,hge,w1,w2,hs,hal,hal2,hsg,iW]
          cases rolls with
          | false =>
            simp [go_sem]
            refine cq [1316] [] (args':=[.ptr 0 0 0 1,.d (.ro 1 [[nb y]])]) bH id (fN ⟨l,alt,0⟩ J' H y (by show (l).length≤1000000;omega) hyx) (aU 3) (fun j hj=>by show j<1348;omega) (by simp [bQ,bo,aE,lk]) rfl
              (gl rfl) aw rfl ?_
            rintro v s' ρ ⟨J2,rfl⟩ hρ;simp only [bQ,bo,dV,id];simp [go_sem,ah];exact ⟨⟨⟨l ++ [y],alt,0⟩,J2,H⟩,⟨J2,rfl⟩,aW (by simp [lk]) rfl rfl⟩
          | true =>
            simp [go_sem]
            obtain ⟨lz,z,hlz⟩:∃ lz z,l=lz ++ [z]:=by
              rcases l.eq_nil_or_concat with rfl | ⟨lz,z,e⟩
              · simp at hkl
              · exact ⟨lz,z,by rw [e,List.concat_eq_append]⟩
            have hel:(l.eraseIdx a).length=l.length - 1:=List.length_eraseIdx_of_lt hal;have wa1:IntKind.i64.wrap ((a:Int)+1)=((a+1:Nat):Int):=az aq;have hal3:((a+1:Nat):Int)≤(l.length:Int):=aq;have hal4:(a:Int)≤(l.length:Int):=aq;have hal5:a+1≤l.length:=aq;have hln:(cM l J').length=l.length+J'.length:=iW _ _;have hmin:min (l.length - (a+1)) (l.length+J'.length - (a+1))=l.length - (a+1):=aq;have hsum:a+(l.length - (a+1))=l.length - 1:=aq
            have hrow:List.take a (cM l J') ++ (List.take (l.length - (a+1)) (List.drop (a+1) (cM l J')) ++ List.drop (l.length - 1) (cM l J'))=cM (l.eraseIdx a) (.i z :: J'):=by
              have e1:List.take a (cM l J')=(l.take a).map nH:=mN aq
              have e2:List.take (l.length - (a+1)) (List.drop (a+1) (cM l J'))=(l.drop (a+1)).map nH:=by
                unfold cM;rw [List.drop_append_of_le_length (by simp;omega),List.take_append_of_le_length aw,← List.map_drop,cx aw]
              have e3:List.drop (l.length - 1) (cM l J')=nH z :: J'.map Ru:=by
                subst hlz;unfold cM;simp
              rw [e1,e2,e3,List.eraseIdx_eq_take_drop_succ];unfold cM;simp [List.map_append,nH,Ru,Xj]
            refine ek [1,2,3,4,5,6,7,8,9,10,11,12,13] [0,14,15,16,17] [1,2,3,4,5,6,7,8,9,10,11,12,13] (.alt (bt 0 (a_ [14,15,16,17])) (a_ [14,0,15,16,17])) ⟨[(0,.ptr 0 0 0 1),(6,.d (nb y))],[(0,⟨283,3,[[.own 1 0 (l.eraseIdx a).length ((l.eraseIdx a).length+(.i z :: J':List Jk).length),.own 2 0 alt.length (alt.length+H.length),.d (.int .i64 0)]]⟩),(1,⟨31,1,cM (l.eraseIdx a) (.i z :: J')⟩),(2,⟨31,1,cM alt H⟩)],9000⟩ (k:=18) ?h3 ?hq
            case h3 =>
              intro G hG;simp (config := { maxSteps := 3000000 }) [go_sem,d6,Dn,hln,wa1,hal3,hal4,hal5,hal,hmin,hsum,hrow]
              repeat' apply And.intro
              all_goals first
                | omega
                | (intro hh;omega)
                | (intro hh
                   refine hG _ _ (cz ⟨by simp [ai,fv,lk,AV.low,AV.low1],IOa (m:=⟨l.eraseIdx a,alt,0⟩) ?_ rfl rfl (dT rfl) trivial,aw⟩);simp [lk,hel]
                   omega)
            case hq =>
              have hel2:(l.eraseIdx a).length≤1000:=aq;clear hrow hsum hmin;generalize l.eraseIdx a=l2 at *;simp [go_sem]
              refine cq [9064] [] (args':=[.ptr 0 0 0 1,.d (.ro 1 [[nb y]])]) bH id (fN ⟨l2,alt,0⟩ (.i z :: J') H y (by show l2.length≤1000000;omega) hyx) (aU 3) (fun j hj=>by show j<9096;omega) (by simp [bQ,bo,aE,lk]) rfl
                (gl rfl) aw rfl ?_
              rintro v s' ρ ⟨J2,rfl⟩ hρ;simp only [bQ,bo,dV,id];simp [go_sem,ah];exact ⟨⟨⟨l2 ++ [y],alt,0⟩,J2,H⟩,⟨J2,rfl⟩,aW (by simp [lk]) rfl rfl⟩
  · have ha:dh ⟨main,alt,e⟩=([],aP 1 ⟨main,alt,e⟩):=if_neg h
    have hd:ju rolls ⟨main,alt,e⟩=aP 1 ⟨main,alt,e⟩:=by
      unfold ju;rw [ha];have:fu 4 [] (aP 1 ⟨main,alt,e⟩)=(0,aP 1 ⟨main,alt,e⟩):=if_neg h;simp only [this];rw [if_neg h]
    rw [hd,ha,if_neg h];generalize aP 1 ⟨main,alt,e⟩=m' at *;simp only [bQ,bo,id];simp [go_sem,AV.ren];refine dN (Pp:=[]) (s:=⟨m',J',H⟩) (DZ m' J' H 4 h) aq aw (by simp [AV.renL,AV.ren]) ?_;rintro v s' ρ ⟨rfl,rfl⟩ hρ;simp only [bQ,bo,id];simp [go_sem,AV.ren,h,ah];exact ⟨_,⟨J',rfl⟩,aW rfl rfl rfl⟩
def dW (b:List Nat):List Nat:=bq (bq b)
theorem Jb (b:List Nat):(dW b).length=32:=a8 _
theorem NE (b:List Nat) (hb:b.length≤1000000):ax Tryz.prog 253 [.d (nb b)] (fun r=>r=.agg (cb (dW b))):=by
 refine bO Tryz.func253 Tryz.ntmps253 (rs:=[.cell 2 29]) a9 ?_;simp [go_sem];refine ag (kT b aq) a9 ?_;have hl:=a8 b;unfold dW;generalize bq b=s at *;have hz:(cb z32).drop 32=[]:=rfl;simp [go_sem,am,hl,hz];refine bN [96] (kT s aq) rfl (aj (.one (ak (ed rfl aw hl))) aD) ?_;have hl2:=a8 s;generalize bq s=s2 at *;have ht:(cb s2).take 32=cb s2:=cx (by rw [am];omega);simp [go_sem,aE,am,hl2,hz,ht,ah];exact aa (dE _) rfl
theorem nL (n:Nat) (m:Mc):(aP n m).main=m.main∧(aP n m).alt=m.alt:=by
 obtain ⟨main,alt,e⟩:=m;obtain ⟨e',h⟩:=zM n main alt e;rw [h];exact ⟨rfl,rfl⟩
theorem Jc (m:Mc) (h:m.main.length≤1000):(fY m).2.main.length≤1000:=by
 unfold fY
 split
 ·rename_i h2;simp only [cn,if_pos h2];simp;omega
 ·rw [(nL 2 m).1];exact h
theorem NF (m:Mc) (J H:List Jk) (op:Nat) (ho:op<256) (hl:m.main.length≤1000) (hx:∀ x,x ∈ m.main→x.length≤100000) (hb:∀ x,x ∈ m.main→bytes x):cO Tryz.prog 3 bo 236 ⟨m,J,H⟩ [.ptr 0 0 0 1,.d (.int .u8 (op:Int))]
  (fun v s'=>v=.d (.bool (uy bq dW op m).isSome)∧∃ J',s'=⟨(uy bq dW op m).getD m,J',H⟩):=by
 refine al Tryz.func236 (by kernel_rfl) rfl Tryz.ntmps236 (rs:=[.tmp 4]) rfl (dT rfl) (by decide) ?_;obtain ⟨main,alt,e⟩:=m;simp only at hl hx hb;have hxx:∀ x,x ∈ main→x.length≤1000000:=fun x h=>Nat.le_trans (hx x h) (by decide);rw [bQ];simp only [bo,id];simp [go_sem];by_cases h121:op=121
 ·subst h121;simp [go_sem];refine dN (Pp:=[]) (s:=⟨⟨main,alt,e⟩,J,H⟩) (Ja false ⟨main,alt,e⟩ J H hl hxx hb) aq aw (by simp [AV.renL,AV.ren]) ?_;rintro v s' ρ ⟨J',rfl⟩ hρ;rw [show uy bq dW 121 ⟨main,alt,e⟩=some (ju false ⟨main,alt,e⟩) from rfl];generalize ju false ⟨main,alt,e⟩=m';simp only [bQ,bo,id];simp [go_sem,ah];exact ⟨_,⟨J',rfl⟩,aW rfl rfl rfl⟩
 have i121:¬ (op:Int)=121:=aq;simp [go_sem,h121,i121];by_cases h122:op=122
 ·subst h122;simp [go_sem];refine dN (Pp:=[]) (s:=⟨⟨main,alt,e⟩,J,H⟩) (Ja true ⟨main,alt,e⟩ J H hl hxx hb) aq aw (by simp [AV.renL,AV.ren]) ?_;rintro v s' ρ ⟨J',rfl⟩ hρ;rw [show uy bq dW 122 ⟨main,alt,e⟩=some (ju true ⟨main,alt,e⟩) from rfl];generalize ju true ⟨main,alt,e⟩=m';simp only [bQ,bo,id];simp [go_sem,ah];exact ⟨_,⟨J',rfl⟩,aW rfl rfl rfl⟩
 have i122:¬ (op:Int)=122:=aq;simp [go_sem,h122,i122];by_cases h105:op=105
 ·subst h105;rw [show uy bq dW 105 ⟨main,alt,e⟩=some (jv (jX (dh ⟨main,alt,e⟩).1) (dh ⟨main,alt,e⟩).2) from rfl];simp [go_sem];refine dN (Pp:=[]) (s:=⟨⟨main,alt,e⟩,J,H⟩) (vK ⟨main,alt,e⟩ J H (by show main.length≤1000000;omega)) aq aw (by simp [AV.renL,AV.ren]) ?_;rintro v s' ρ ⟨rfl,J',rfl⟩ hρ;by_cases h:(aP 1 ⟨main,alt,e⟩).e=0
  ·obtain ⟨l,x,hm,hp,h2⟩:=xG h;simp only at hm h2 hp;subst h2;have hxm:x ∈ main:=by rw [hm];simp
   rw [hp,if_pos h];simp only [bQ,bo,id];simp [go_sem,AV.ren];refine ag (mR x (hb x hxm) (hxx x hxm)) a9 ?_;simp [go_sem];refine dN (Pp:=[]) (s:=⟨⟨l,alt,0⟩,J',H⟩) (xF ⟨l,alt,0⟩ J' H (jX x)) aq aw (by simp [AV.renL,AV.ren]) ?_;rintro v s' ρ rfl hρ;generalize jv (jX x) ⟨l,alt,0⟩=m';simp only [bQ,bo,id];simp [go_sem,ah];exact ⟨_,⟨J',rfl⟩,aW rfl rfl rfl⟩
  ·have hp:dh ⟨main,alt,e⟩=([],aP 1 ⟨main,alt,e⟩):=if_neg h;rw [hp,if_neg h];generalize aP 1 ⟨main,alt,e⟩=m1 at *;simp only [bQ,bo,id];simp [go_sem,AV.ren];refine iV (mR [] (by intro x hx;cases hx) aw) rfl (aj (.one (ak (.nil 1))) aD) trivial ?_;simp [go_sem];refine dN (Pp:=[]) (s:=⟨m1,J',H⟩) (xF m1 J' H (jX [])) aq aw (by simp [AV.renL,AV.ren]) ?_;rintro v s' ρ rfl hρ;generalize jv (jX []) m1=m';simp only [bQ,bo,id];simp [go_sem,ah];exact ⟨_,⟨J',rfl⟩,aW rfl rfl rfl⟩
 have i105:¬ (op:Int)=105:=aq;simp [go_sem,h105,i105];by_cases h115:op=115
 ·subst h115;have hv:uy bq dW 115 ⟨main,alt,e⟩=some (if (aP 1 ⟨main,alt,e⟩).e=0 then (if jX (oH ⟨main,alt,e⟩) then dV [oH ⟨main,alt,e⟩] ⟨main,alt,e⟩ else ⟨main,alt,e⟩) else aP 1 ⟨main,alt,e⟩):=rfl;simp [go_sem];refine dN (Pp:=[]) (s:=⟨⟨main,alt,e⟩,J,H⟩) (kz ⟨main,alt,e⟩ J H 1) aq aw (by simp [AV.renL,AV.ren]) ?_;rintro v s' ρ ⟨rfl,rfl⟩ hρ;by_cases h:(aP 1 ⟨main,alt,e⟩).e=0
  ·rw [if_pos h] at hv;rw [hv];obtain ⟨h1,h2,h3⟩:=ig h;simp only at h1 h2;subst h2;have t0:=so (m:=⟨main,alt,0⟩) h1;simp only at t0;generalize oH ⟨main,alt,0⟩=x at *;have hxm:=cr t0;rw [h3];simp only [bQ,bo,id];simp [go_sem,AV.ren];refine dN (Pp:=[]) (s:=⟨⟨main,alt,0⟩,J,H⟩) (oK ⟨main,alt,0⟩ J H x t0 h1 (by show main.length≤1000000;omega)) aq aw (by simp [AV.renL,AV.ren]) ?_;rintro v s' ρ ⟨rfl,rfl⟩ hρ;simp only [bQ,bo,id];simp [go_sem,AV.ren];refine ag (mR x (hb x hxm) (hxx x hxm)) a9 ?_;by_cases ht:jX x=true
   ·simp [go_sem,ht];refine dN (Pp:=[]) (s:=⟨⟨main,alt,0⟩,J,H⟩) (oK ⟨main,alt,0⟩ J H x t0 h1 (by show main.length≤1000000;omega)) aq aw (by simp [AV.renL,AV.ren]) ?_;rintro v s' ρ ⟨rfl,rfl⟩ hρ;simp only [bQ,bo,id];simp [go_sem,AV.ren]
    refine cq [644] [] (args':=[.ptr 0 0 0 1,.d (.ro 1 [[nb (x)]])]) bH id (fN ⟨main,alt,0⟩ J H (x) (by show main.length≤1000000;omega) (hxx x hxm)) (aU 3) (fun j hj=>by show j<676;omega) (by simp [bQ,bo,aE,lk]) rfl
     (gl rfl) aw rfl ?_
    rintro v s' ρ ⟨J2,rfl⟩ hρ;simp only [bQ,bo,dV,id];simp [go_sem,ah];exact ⟨⟨⟨main ++ [x],alt,0⟩,J2,H⟩,⟨J2,rfl⟩,aW (by simp [lk]) rfl rfl⟩
   ·simp [go_sem,ht,ah];exact ⟨⟨⟨main,alt,0⟩,J,H⟩,⟨J,rfl⟩,aW rfl rfl rfl⟩
  ·rw [hv,if_neg h];generalize aP 1 ⟨main,alt,e⟩=m1 at *;simp only [bQ,bo,id];simp [go_sem,AV.ren,h,ah];exact ⟨_,⟨J,rfl⟩,aW rfl rfl rfl⟩
 have i115:¬ (op:Int)=115:=aq;simp [go_sem,h115,i115];by_cases h116:op=116
 ·subst h116;rw [show uy bq dW 116 ⟨main,alt,e⟩=some (dV [c8 (main.length:Int)] ⟨main,alt,e⟩) from rfl];simp [go_sem];refine ag (kJ (main.length:Int) aq aq) a9 ?_;have hn:=fX (main.length:Int);generalize c8 (main.length:Int)=y at *;simp [go_sem]
  refine cq [612] [] (args':=[.ptr 0 0 0 1,.d (.ro 1 [[nb (y)]])]) bH id (fN ⟨main,alt,e⟩ J H (y) (by show main.length≤1000000;omega) aq) (aU 3) (fun j hj=>by show j<644;omega) (by simp [bQ,bo,aE,lk]) rfl
   (gl rfl) aw rfl ?_
  rintro v s' ρ ⟨J2,rfl⟩ hρ;simp only [bQ,bo,dV,id];simp [go_sem,ah];exact ⟨⟨⟨main ++ [y],alt,e⟩,J2,H⟩,⟨J2,rfl⟩,aW (by simp [lk]) rfl rfl⟩
 have i116:¬ (op:Int)=116:=aq;simp [go_sem,h116,i116];by_cases h126:op=126
 ·subst h126;simp [go_sem];refine dN (Pp:=[]) (s:=⟨⟨main,alt,e⟩,J,H⟩) (RF ⟨main,alt,e⟩ J H hl hx) aq aw (by simp [AV.renL,AV.ren]) ?_;rintro v s' ρ ⟨J',rfl⟩ hρ;rw [show uy bq dW 126 ⟨main,alt,e⟩=some (oc ⟨main,alt,e⟩) from rfl];generalize oc ⟨main,alt,e⟩=m';simp only [bQ,bo,id];simp [go_sem,ah];exact ⟨_,⟨J',rfl⟩,aW rfl rfl rfl⟩
 have i126:¬ (op:Int)=126:=aq;simp [go_sem,h126,i126];by_cases h130:op=130
 ·subst h130;have hv:uy bq dW 130 ⟨main,alt,e⟩=some (if (aP 1 ⟨main,alt,e⟩).e=0 then dV [c8 ((oH ⟨main,alt,e⟩).length:Int)] ⟨main,alt,e⟩ else aP 1 ⟨main,alt,e⟩):=rfl;simp [go_sem];refine dN (Pp:=[]) (s:=⟨⟨main,alt,e⟩,J,H⟩) (kz ⟨main,alt,e⟩ J H 1) aq aw (by simp [AV.renL,AV.ren]) ?_;rintro v s' ρ ⟨rfl,rfl⟩ hρ;by_cases h:(aP 1 ⟨main,alt,e⟩).e=0
  ·rw [if_pos h] at hv;rw [hv];obtain ⟨h1,h2,h3⟩:=ig h;simp only at h1 h2;subst h2;have t0:=so (m:=⟨main,alt,0⟩) h1;simp only at t0;generalize oH ⟨main,alt,0⟩=x at *;have hxm:=cr t0;rw [h3];simp only [bQ,bo,id];simp [go_sem,AV.ren];refine dN (Pp:=[]) (s:=⟨⟨main,alt,0⟩,J,H⟩) (oK ⟨main,alt,0⟩ J H x t0 h1 (by show main.length≤1000000;omega)) aq aw (by simp [AV.renL,AV.ren]) ?_;rintro v s' ρ ⟨rfl,rfl⟩ hρ;simp only [bQ,bo,id];have hxl:=hxx x hxm;simp [go_sem,AV.ren,nb];refine ag (kJ (x.length:Int) aq aq) a9 ?_;have hn:=fX (x.length:Int);generalize c8 (x.length:Int)=y at *;simp [go_sem]
   refine cq [740] [] (args':=[.ptr 0 0 0 1,.d (.ro 1 [[nb (y)]])]) bH id (fN ⟨main,alt,0⟩ J H (y) (by show main.length≤1000000;omega) aq) (aU 3) (fun j hj=>by show j<772;omega) (by simp [bQ,bo,aE,lk]) rfl
    (gl rfl) aw rfl ?_
   rintro v s' ρ ⟨J2,rfl⟩ hρ;simp only [bQ,bo,dV,id];simp [go_sem,ah];exact ⟨⟨⟨main ++ [y],alt,0⟩,J2,H⟩,⟨J2,rfl⟩,aW (by simp [lk]) rfl rfl⟩
  ·rw [hv,if_neg h];generalize aP 1 ⟨main,alt,e⟩=m1 at *;simp only [bQ,bo,id];simp [go_sem,AV.ren,h,ah];exact ⟨_,⟨J,rfl⟩,aW rfl rfl rfl⟩
 have i130:¬ (op:Int)=130:=aq;simp [go_sem,h130,i130];by_cases h135:op=135
 ·subst h135;rw [show uy bq dW 135 ⟨main,alt,e⟩=some (dV [iN (fY ⟨main,alt,e⟩).1] (fY ⟨main,alt,e⟩).2) from rfl];simp [go_sem];refine dN (Pp:=[]) (s:=⟨⟨main,alt,e⟩,J,H⟩) (I7 ⟨main,alt,e⟩ J H hl hxx hb) aq aw (by simp [AV.renL,AV.ren]) ?_;rintro v s' ρ ⟨rfl,J',rfl⟩ hρ;have hml:(fY ⟨main,alt,e⟩).2.main.length≤1000:=Jc ⟨main,alt,e⟩ hl;generalize fY ⟨main,alt,e⟩=p at *;obtain ⟨b,m1⟩:=p;simp only at hml;simp only [bQ,bo,id];simp [go_sem,AV.ren];refine ag (lK b) a9 ?_;have hn:(iN b).length≤1:=by cases b <;> decide
  generalize iN b=y at *;simp [go_sem]
  refine cq [708] [] (args':=[.ptr 0 0 0 1,.d (.ro 1 [[nb (y)]])]) bH id (fN m1 J' H (y) aq aq) (aU 3) (fun j hj=>by show j<740;omega) (by simp [bQ,bo,aE,lk]) rfl
   (gl rfl) aw rfl ?_
  rintro v s' ρ ⟨J2,rfl⟩ hρ;simp only [bQ,bo,dV,id];simp [go_sem,ah];exact ⟨⟨⟨m1.main ++ [y],m1.alt,m1.e⟩,J2,H⟩,⟨J2,rfl⟩,aW (by simp [lk]) rfl rfl⟩
 have i135:¬ (op:Int)=135:=aq;simp [go_sem,h135,i135];by_cases h136:op=136
 ·subst h136;rw [show uy bq dW 136 ⟨main,alt,e⟩=some (jv (fY ⟨main,alt,e⟩).1 (fY ⟨main,alt,e⟩).2) from rfl];simp [go_sem];refine dN (Pp:=[]) (s:=⟨⟨main,alt,e⟩,J,H⟩) (I7 ⟨main,alt,e⟩ J H hl hxx hb) aq aw (by simp [AV.renL,AV.ren]) ?_;rintro v s' ρ ⟨rfl,J',rfl⟩ hρ;generalize fY ⟨main,alt,e⟩=p at *;obtain ⟨b,m1⟩:=p;simp only [bQ,bo,id];simp [go_sem,AV.ren];refine dN (Pp:=[]) (s:=⟨m1,J',H⟩) (xF m1 J' H b) aq aw (by simp [AV.renL,AV.ren]) ?_;rintro v s' ρ rfl hρ;generalize jv b m1=m';simp only [bQ,bo,id];simp [go_sem,ah];exact ⟨_,⟨J',rfl⟩,aW rfl rfl rfl⟩
 have i136:¬ (op:Int)=136:=aq;simp [go_sem,h136,i136];by_cases h168:op=168
 ·subst h168;simp [go_sem];refine dN (Pp:=[]) (s:=⟨⟨main,alt,e⟩,J,H⟩) (I9 _ bq (fun x h=>kT x aq) (fun x=>a8 x) ⟨main,alt,e⟩ J H hl hxx) aq aw (by simp [AV.renL,AV.ren]) ?_;rintro v s' ρ ⟨J',rfl⟩ hρ;rw [show uy bq dW 168 ⟨main,alt,e⟩=some (kr bq ⟨main,alt,e⟩) from rfl];generalize kr bq ⟨main,alt,e⟩=m';simp only [bQ,bo,id];simp [go_sem,ah];exact ⟨_,⟨J',rfl⟩,aW rfl rfl rfl⟩
 have i168:¬ (op:Int)=168:=aq;simp [go_sem,h168,i168];by_cases h170:op=170
 ·subst h170;simp [go_sem];refine dN (Pp:=[]) (s:=⟨⟨main,alt,e⟩,J,H⟩) (I9 _ dW (fun x h=>NE x h) (fun x=>Jb x) ⟨main,alt,e⟩ J H hl hxx) aq aw (by simp [AV.renL,AV.ren]) ?_;rintro v s' ρ ⟨J',rfl⟩ hρ;rw [show uy bq dW 170 ⟨main,alt,e⟩=some (kr dW ⟨main,alt,e⟩) from rfl];generalize kr dW ⟨main,alt,e⟩=m';simp only [bQ,bo,id];simp [go_sem,ah];exact ⟨_,⟨J',rfl⟩,aW rfl rfl rfl⟩
 have i170:¬ (op:Int)=170:=aq;have hn:uy bq dW op ⟨main,alt,e⟩=none:=by simp [uy,h121,h122,h105,h115,h116,h126,h130,h135,h136,h168,h170]
 rw [hn];simp [go_sem,h170,i170,ah];exact ⟨⟨⟨main,alt,e⟩,J,H⟩,⟨J,rfl⟩,aW rfl rfl rfl⟩
end Go.Proofs.YtmfnimjnneflnaaGreat
