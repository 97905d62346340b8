/-
 Part 18 of what the claim rests on.
-/
import Derived.Test.YtldccnbokbieiaaGreatO11
set_option linter.unusedVariables false
set_option linter.unusedSimpArgs false
set_option maxRecDepth 100000
set_option maxHeartbeats 16000000
namespace Go.Sha
structure Ip where
 hash:List Nat
 idx:Nat
 seq:Nat
 wit:List (List Nat)
structure Tn where
 ver:Nat
 ins:List Ip
 outs:List (Nat × List Nat)
 lock:Nat
def Ip.ok (i:Ip):Prop:=i.hash.length=32∧i.idx<4294967296∧i.seq<4294967296
def Tn.ok (t:Tn):Prop:=t.ver<4294967296∧t.lock<4294967296∧(∀ i,i ∈ t.ins→i.ok)∧(∀ o,o ∈ t.outs→o.1<18446744073709551616)
def N2 (n:Nat) (xs:List (List Nat)):Bool:=xs.all fun x=>decide (x.length≤n)
def F1 (n:Nat) (os:List (Nat × List Nat)):Bool:=os.all fun o=>decide (o.2.length≤n)
def RO (m n:Nat) (is:List Ip):Bool:=is.all fun i=>decide (i.wit.length≤m) && N2 n i.wit
def Q1 (a m n:Nat) (t:Tn):Bool:=decide (t.ins.length≤a) && (decide (t.outs.length≤a) && (F1 n t.outs && RO m n t.ins))
end Go.Sha
namespace Go.Proofs.YtldccnbokbieiaaGreat
open Go.Am Go.Sha
def eO (o:Nat × List Nat):List DV:=[.int .u64 (o.1:Int),nb o.2]
def eI (i:Ip):List DV:=cd i.hash ++ [.int .u32 (i.idx:Int),.int .u32 (i.seq:Int),.ro 1 (i.wit.map RL)]
def eT (t:Tn):List AV:=[.d (.int .u32 (t.ver:Int)),.d (.ro 35 (t.ins.map eI)),.d (.ro 2 (t.outs.map eO)),.d (.int .u32 (t.lock:Int))]
def eS (t:Tn) (n:Int) (coins:List (Nat × List Nat)):List AV:=[.d (.int .u32 (t.ver:Int)),.d (.ro 35 (t.ins.map eI)),.d (.ro 2 (t.outs.map eO)),.d (.int .u32 (t.lock:Int)),.d (.int .i64 n),.d (.ro 2 (coins.map eO))]
theorem abf {i:Ip} (h:i.hash.length=32):(eI i).drop 34=[.ro 1 (i.wit.map RL)]:=by
 unfold eI;rw [List.drop_append,az (by rw [H3];omega),H3,h];rfl
theorem ap6 {i:Ip} (h:i.hash.length=32):(eI i).drop 33=[.int .u32 (i.seq:Int),.ro 1 (i.wit.map RL)]:=by
 unfold eI;rw [List.drop_append,az (by rw [H3];omega),H3,h];rfl
theorem awb {i:Ip} (h:i.hash.length=32):(eI i).drop 32=[.int .u32 (i.idx:Int),.int .u32 (i.seq:Int),.ro 1 (i.wit.map RL)]:=by
 unfold eI;rw [List.drop_append,az (by rw [H3];omega),H3,h];rfl
theorem XD {i:Ip} (h:i.hash.length=32):(eI i).length=35:=by simp [eI,H3,h]
theorem Rx {α:Type} {l:List α} {k:Nat} {p:α→Bool} {x:α} {b:Bool} (hd:l.drop k=x :: l.drop (k+1)) (h:(l.drop k).all p=b) (hx:p x=true):(l.drop (k+1)).all p=b:=by
 rw [hd,List.all_cons,hx,Bool.true_and] at h;exact h
theorem N9 {α:Type} {l:List α} {k:Nat} {p:α→Bool} {x:α} {b:Bool} (hd:l.drop k=x :: l.drop (k+1)) (h:(l.drop k).all p=b) (hx:p x=false):b=false:=by
 rw [hd,List.all_cons,hx,Bool.false_and] at h;exact h.symm
theorem Ry {α:Type} {l:List α} {p:α→Bool} {b:Bool} (h:(l.drop l.length).all p=b):b=true:=by
 rw [List.drop_length] at h;exact h.symm
theorem ahd (t:Tn) (ht:t.ok):m6 Tryz.prog 69 [.agg (eT t)] (fun r=>r=.d (.bool (Q1 6 6 600 t))):=by
 obtain ⟨_,_,hi,_⟩:=ht;refine t6 Tryz.func69 Tryz.ntmps69 (rs:=[.tmp 2]) (by simp [AV.deep,AV.deep1,eT]) ?_;by_cases h1:t.ins.length≤6
 ·by_cases h2:t.outs.length≤6
  ·have i1:¬ 6<(t.ins.length:Int):=aa;have i2:¬ 6<(t.outs.length:Int):=aa;have hw:Q1 6 6 600 t=(F1 600 t.outs && RO 6 600 t.ins):=by simp [Q1,h1,h2]
   rw [hw];simp [go_sem,eT,i1,i2]
   refine j9 (fun k:Nat=>⟨[(1,.ptr 0 0 0 1),(3,.d (.int .i64 (k:Int)))],[(0,⟨57,4,[eT t]⟩)],2000⟩)
    (fun k=>k≤t.outs.length∧F1 600 (t.outs.drop k)=F1 600 t.outs) (fun k=>t.outs.length - k) 0 ⟨aa,rfl⟩ (by
     simp [m7,c6,fv,lk,AV.low,AV.low1,eT]) ?_
   rintro k ⟨hk,ho⟩;simp only [eT];simp only [go_sem,Nat.reduceEqDiff,Nat.reduceAdd,Nat.reduceLT,↓reduceIte,Nat.reduceMul];refine ⟨fun h=>?_,fun h=>?_⟩
   ·obtain ⟨o,ho1,hd⟩:=t5 (l:=t.outs) (k:=k) aa;have w3:=j6 (k:=k) aa;by_cases hx:o.2.length≤600
    ·have j1:¬ 600<(o.2.length:Int):=aa;simp [go_sem,ho1,eO,nb,j1,w3];refine c8 (k+1) ⟨aa,Rx hd ho (by simpa using hx)⟩ aa ?_;simp [m7,c6,fv,lk,AV.low,AV.low1,eT]
    ·have j1:600<(o.2.length:Int):=aa;have:=N9 hd ho (by simpa using hx);simp [go_sem,ho1,eO,nb,j1];exact b7 ae (by rw [this];rfl)
   ·have hkl:k=t.outs.length:=aa;subst hkl;have hO:F1 600 t.outs=true:=Ry ho;rw [hO,Bool.true_and];clear ho h;simp [go_sem]
    refine j9 (fun k:Nat=>⟨[(1,.ptr 0 0 0 1),(4,.d (.int .i64 (k:Int)))],[(0,⟨57,4,[eT t]⟩)],4000⟩)
     (fun k=>k≤t.ins.length∧RO 6 600 (t.ins.drop k)=RO 6 600 t.ins) (fun k=>t.ins.length - k) 0 ⟨aa,rfl⟩ (by
      simp [m7,c6,fv,lk,AV.low,AV.low1,eT]) ?_
    rintro k ⟨hk,ho⟩;simp only [eT];simp only [go_sem,Nat.reduceEqDiff,Nat.reduceAdd,Nat.reduceLT,↓reduceIte,Nat.reduceMul];refine ⟨fun h=>?_,fun h=>?_⟩
    ·obtain ⟨i,hi1,hd⟩:=t5 (l:=t.ins) (k:=k) aa;have hi32:=(hi i (ao hi1)).1;by_cases hx:i.wit.length≤6
     ·have j1:¬ 6<(i.wit.length:Int):=aa;simp [go_sem,hi1,abf hi32,j1]
      refine j9 (fun j:Nat=>⟨[(1,.ptr 0 0 0 1),(4,.d (.int .i64 (k:Int))),(5,.d (.int .i64 (j:Int)))],[(0,⟨57,4,[eT t]⟩)],6000⟩)
       (fun j=>j≤i.wit.length∧N2 600 (i.wit.drop j)=N2 600 i.wit) (fun j=>i.wit.length - j) 0 ⟨aa,rfl⟩ (by
        simp [m7,c6,fv,lk,AV.low,AV.low1,eT]) ?_
      rintro j ⟨hj,ho2⟩;simp only [eT];simp [go_sem,hi1,abf hi32];refine ⟨fun h'=>?_,fun h'=>?_⟩
      ·obtain ⟨x,hx1,hd2⟩:=t5 (l:=i.wit) (k:=j) aa;have w4:=j6 (k:=j) aa;by_cases hy:x.length≤600
       ·have j2:¬ 600<(x.length:Int):=aa;simp [go_sem,hi1,abf hi32,hx1,RL,nb,j2,w4];intro _;refine c8 (j+1) ⟨aa,Rx hd2 ho2 (by simpa using hy)⟩ aa ?_;simp [m7,c6,fv,lk,AV.low,AV.low1,eT]
       ·have j2:600<(x.length:Int):=aa;have h3:=N9 hd2 ho2 (by simpa using hy);have:=N9 hd ho (by rw [show N2 600 i.wit=false from h3];simp);simp [go_sem,hi1,abf hi32,hx1,RL,nb,j2];refine ⟨?_,fun h=>aa⟩;exact b7 ae (by rw [show RO 6 600 t.ins=false from this])
      ·have hjl:j=i.wit.length:=aa;subst hjl;have h3:N2 600 i.wit=true:=Ry ho2;have w4:=j6 (k:=k) aa;simp [go_sem,w4];refine c8 (k+1) ⟨aa,Rx hd ho (by rw [h3];simpa using hx)⟩ aa ?_;simp [m7,c6,fv,lk,AV.low,AV.low1,eT]
     ·have j1:6<(i.wit.length:Int):=aa;have:=N9 hd ho (by simp;omega);simp [go_sem,hi1,abf hi32,j1];exact b7 ae (by rw [show RO 6 600 t.ins=false from this])
    ·have hkl:k=t.ins.length:=aa;subst hkl;have hI:RO 6 600 t.ins=true:=Ry ho;simp [go_sem];exact b7 ae (by rw [hI])
  ·have i1:¬ 6<(t.ins.length:Int):=aa;have i2:6<(t.outs.length:Int):=aa;simp [go_sem,eT,i1,i2];exact b7 ae (by simp [Q1,h2])
 ·have i1:6<(t.ins.length:Int):=aa;simp [go_sem,eT,i1];exact b7 ae (by simp [Q1,h1])
theorem ahe (t:Tn) (ht:t.ok):m6 Tryz.prog 144 [.agg (eT t)] (fun r=>r=.d (.bool (Q1 20 30 1000 t))):=by
 obtain ⟨_,_,hi,_⟩:=ht;refine t6 Tryz.func144 Tryz.ntmps144 (rs:=[.tmp 2]) (by simp [AV.deep,AV.deep1,eT]) ?_;by_cases h1:t.ins.length≤20
 ·by_cases h2:t.outs.length≤20
  ·have i1:¬ 20<(t.ins.length:Int):=aa;have i2:¬ 20<(t.outs.length:Int):=aa;have hw:Q1 20 30 1000 t=(F1 1000 t.outs && RO 30 1000 t.ins):=by simp [Q1,h1,h2]
   rw [hw];simp [go_sem,eT,i1,i2]
   refine j9 (fun k:Nat=>⟨[(1,.ptr 0 0 0 1),(3,.d (.int .i64 (k:Int)))],[(0,⟨57,4,[eT t]⟩)],2000⟩)
    (fun k=>k≤t.outs.length∧F1 1000 (t.outs.drop k)=F1 1000 t.outs) (fun k=>t.outs.length - k) 0 ⟨aa,rfl⟩ (by
     simp [m7,c6,fv,lk,AV.low,AV.low1,eT]) ?_
   rintro k ⟨hk,ho⟩;simp only [eT];simp only [go_sem,Nat.reduceEqDiff,Nat.reduceAdd,Nat.reduceLT,↓reduceIte,Nat.reduceMul];refine ⟨fun h=>?_,fun h=>?_⟩
   ·obtain ⟨o,ho1,hd⟩:=t5 (l:=t.outs) (k:=k) aa;have w3:=j6 (k:=k) aa;by_cases hx:o.2.length≤1000
    ·have j1:¬ 1000<(o.2.length:Int):=aa;simp [go_sem,ho1,eO,nb,j1,w3];refine c8 (k+1) ⟨aa,Rx hd ho (by simpa using hx)⟩ aa ?_;simp [m7,c6,fv,lk,AV.low,AV.low1,eT]
    ·have j1:1000<(o.2.length:Int):=aa;have:=N9 hd ho (by simpa using hx);simp [go_sem,ho1,eO,nb,j1];exact b7 ae (by rw [this];rfl)
   ·have hkl:k=t.outs.length:=aa;subst hkl;have hO:F1 1000 t.outs=true:=Ry ho;rw [hO,Bool.true_and];clear ho h;simp [go_sem]
    refine j9 (fun k:Nat=>⟨[(1,.ptr 0 0 0 1),(4,.d (.int .i64 (k:Int)))],[(0,⟨57,4,[eT t]⟩)],4000⟩)
     (fun k=>k≤t.ins.length∧RO 30 1000 (t.ins.drop k)=RO 30 1000 t.ins) (fun k=>t.ins.length - k) 0 ⟨aa,rfl⟩ (by
      simp [m7,c6,fv,lk,AV.low,AV.low1,eT]) ?_
    rintro k ⟨hk,ho⟩;simp only [eT];simp only [go_sem,Nat.reduceEqDiff,Nat.reduceAdd,Nat.reduceLT,↓reduceIte,Nat.reduceMul];refine ⟨fun h=>?_,fun h=>?_⟩
    ·obtain ⟨i,hi1,hd⟩:=t5 (l:=t.ins) (k:=k) aa;have hi32:=(hi i (ao hi1)).1;by_cases hx:i.wit.length≤30
     ·have j1:¬ 30<(i.wit.length:Int):=aa;simp [go_sem,hi1,abf hi32,j1]
      refine j9 (fun j:Nat=>⟨[(1,.ptr 0 0 0 1),(4,.d (.int .i64 (k:Int))),(5,.d (.int .i64 (j:Int)))],[(0,⟨57,4,[eT t]⟩)],6000⟩)
       (fun j=>j≤i.wit.length∧N2 1000 (i.wit.drop j)=N2 1000 i.wit) (fun j=>i.wit.length - j) 0 ⟨aa,rfl⟩ (by
        simp [m7,c6,fv,lk,AV.low,AV.low1,eT]) ?_
      rintro j ⟨hj,ho2⟩;simp only [eT];simp [go_sem,hi1,abf hi32];refine ⟨fun h'=>?_,fun h'=>?_⟩
      ·obtain ⟨x,hx1,hd2⟩:=t5 (l:=i.wit) (k:=j) aa;have w4:=j6 (k:=j) aa;by_cases hy:x.length≤1000
       ·have j2:¬ 1000<(x.length:Int):=aa;simp [go_sem,hi1,abf hi32,hx1,RL,nb,j2,w4];intro _;refine c8 (j+1) ⟨aa,Rx hd2 ho2 (by simpa using hy)⟩ aa ?_;simp [m7,c6,fv,lk,AV.low,AV.low1,eT]
       ·have j2:1000<(x.length:Int):=aa;have h3:=N9 hd2 ho2 (by simpa using hy);have:=N9 hd ho (by rw [show N2 1000 i.wit=false from h3];simp);simp [go_sem,hi1,abf hi32,hx1,RL,nb,j2];refine ⟨?_,fun h=>aa⟩;exact b7 ae (by rw [show RO 30 1000 t.ins=false from this])
      ·have hjl:j=i.wit.length:=aa;subst hjl;have h3:N2 1000 i.wit=true:=Ry ho2;have w4:=j6 (k:=k) aa;simp [go_sem,w4];refine c8 (k+1) ⟨aa,Rx hd ho (by rw [h3];simpa using hx)⟩ aa ?_;simp [m7,c6,fv,lk,AV.low,AV.low1,eT]
     ·have j1:30<(i.wit.length:Int):=aa;have:=N9 hd ho (by simp;omega);simp [go_sem,hi1,abf hi32,j1];exact b7 ae (by rw [show RO 30 1000 t.ins=false from this])
    ·have hkl:k=t.ins.length:=aa;subst hkl;have hI:RO 30 1000 t.ins=true:=Ry ho;simp [go_sem];exact b7 ae (by rw [hI])
  ·have i1:¬ 20<(t.ins.length:Int):=aa;have i2:20<(t.outs.length:Int):=aa;simp [go_sem,eT,i1,i2];exact b7 ae (by simp [Q1,h2])
 ·have i1:20<(t.ins.length:Int):=aa;simp [go_sem,eT,i1];exact b7 ae (by simp [Q1,h1])
theorem aiI (x:List Nat):m6 Tryz.prog 190 [.d (nb x)] (fun r=>r=.d (.bool (decide (1000<x.length)))):=by
 refine t6 Tryz.func190 Tryz.ntmps190 (rs:=[.tmp 2]) ae ?_;simp [go_sem,nb];refine b7 ae ?_;have:((1000:Int)<(x.length:Int)) ↔ 1000<x.length:=aa;simp [this]
theorem ajP (o:Nat × List Nat):m6 Tryz.prog 105 [.agg ((eO o).map .d)] (fun r=>r=.d (.bool (decide (1000<o.2.length)))):=by
 refine t6 Tryz.func105 Tryz.ntmps105 (rs:=[.tmp 2]) (by simp [AV.deep,AV.deep1,eO]) ?_;simp [go_sem,eO,nb];refine b7 ae ?_;have:((1000:Int)<(o.2.length:Int)) ↔ 1000<o.2.length:=aa;simp [this]
theorem ajQ (xs:List (List Nat)) (hl:xs.length≤1000000000):m6 Tryz.prog 231 [.d (.ro 1 (xs.map RL)),.fn 190 []] (fun r=>∃ n:Int,r=.d (.int .i64 n)∧decide (0≤n)=!N2 1000 xs):=by
 refine t6 Tryz.func231 Tryz.ntmps231 (rs:=[.tmp 4]) ae ?_;simp [go_sem]
 refine j9 (fun k:Nat=>⟨[(0,.d (.ro 1 (xs.map RL))),(1,.fn 190 []),(7,.d (.int .i64 (xs.length:Int))),(8,.d (.int .i64 (k:Int)))],[],1000⟩)
  (fun k=>k≤xs.length∧N2 1000 (xs.drop k)=N2 1000 xs) (fun k=>xs.length - k) 0 ⟨aa,rfl⟩ (by
   simp [m7,c6,fv,lk,AV.low,AV.low1]) ?_
 rintro k ⟨hk,ho⟩;simp only [go_sem,Nat.reduceEqDiff,Nat.reduceAdd,Nat.reduceLT,↓reduceIte,Nat.reduceMul];refine ⟨fun h=>?_,fun h=>?_⟩
 ·obtain ⟨x,hx1,hd⟩:=t5 (l:=xs) (k:=k) aa;have w3:=j6 (k:=k) aa;simp [go_sem,hx1,RL];refine a9 (aiI x) ae ?_;by_cases hx:x.length≤1000
  ·have j1:¬ 1000<x.length:=aa;simp [go_sem,j1,w3];refine c8 (k+1) ⟨aa,Rx hd ho (by simpa using hx)⟩ aa ?_;simp [m7,c6,fv,lk,AV.low,AV.low1]
  ·have j1:1000<x.length:=aa;have:=N9 hd ho (by simpa using hx);simp [go_sem,j1];exact b7 ae ⟨_,rfl,by rw [show N2 1000 xs=false from this];simp⟩
 ·have hkl:k=xs.length:=aa;subst hkl;have hI:N2 1000 xs=true:=Ry ho;simp [go_sem];exact b7 ae ⟨_,rfl,by rw [hI];rfl⟩
theorem ad0 (xs:List (List Nat)) (hl:xs.length≤1000000000):m6 Tryz.prog 191 [.d (.ro 1 (xs.map RL)),.fn 190 []] (fun r=>r=.d (.bool (!N2 1000 xs))):=by
 refine t6 Tryz.func191 Tryz.ntmps191 (rs:=[.tmp 4]) ae ?_;simp [go_sem];refine ale (ajQ xs hl) ae ?_;rintro r ⟨n,rfl,hn⟩;rw [← hn];simp [go_sem];exact b7 ae rfl
theorem ajR (xs:List (Nat × List Nat)) (hl:xs.length≤1000000000):m6 Tryz.prog 143 [.d (.ro 2 (xs.map eO)),.fn 105 []] (fun r=>∃ n:Int,r=.d (.int .i64 n)∧decide (0≤n)=!F1 1000 xs):=by
 refine t6 Tryz.func143 Tryz.ntmps143 (rs:=[.tmp 4]) ae ?_;simp [go_sem]
 refine j9 (fun k:Nat=>⟨[(0,.d (.ro 2 (xs.map eO))),(1,.fn 105 []),(7,.d (.int .i64 (xs.length:Int))),(8,.d (.int .i64 (k:Int)))],[],1000⟩)
  (fun k=>k≤xs.length∧F1 1000 (xs.drop k)=F1 1000 xs) (fun k=>xs.length - k) 0 ⟨aa,rfl⟩ (by
   simp [m7,c6,fv,lk,AV.low,AV.low1]) ?_
 rintro k ⟨hk,ho⟩;simp only [go_sem,Nat.reduceEqDiff,Nat.reduceAdd,Nat.reduceLT,↓reduceIte,Nat.reduceMul];refine ⟨fun h=>?_,fun h=>?_⟩
 ·obtain ⟨x,hx1,hd⟩:=t5 (l:=xs) (k:=k) aa;have w3:=j6 (k:=k) aa;have hrow:(eO x).length=2:=rfl;simp [go_sem,hx1,hrow];refine a9 (ajP x) (by simp [AV.deep,AV.deep1,eO]) ?_;by_cases hx:x.2.length≤1000
  ·have j1:¬ 1000<x.2.length:=aa;simp [go_sem,j1,w3];refine c8 (k+1) ⟨aa,Rx hd ho (by simpa using hx)⟩ aa ?_;simp [m7,c6,fv,lk,AV.low,AV.low1]
  ·have j1:1000<x.2.length:=aa;have:=N9 hd ho (by simpa using hx);simp [go_sem,j1];exact b7 ae ⟨_,rfl,by rw [show F1 1000 xs=false from this];simp⟩
 ·have hkl:k=xs.length:=aa;subst hkl;have hI:F1 1000 xs=true:=Ry ho;simp [go_sem];exact b7 ae ⟨_,rfl,by rw [hI];rfl⟩
theorem ad1 (xs:List (Nat × List Nat)) (hl:xs.length≤1000000000):m6 Tryz.prog 107 [.d (.ro 2 (xs.map eO)),.fn 105 []] (fun r=>r=.d (.bool (!F1 1000 xs))):=by
 refine t6 Tryz.func107 Tryz.ntmps107 (rs:=[.tmp 4]) ae ?_;simp [go_sem];refine ale (ajR xs hl) ae ?_;rintro r ⟨n,rfl,hn⟩;rw [← hn];simp [go_sem];exact b7 ae rfl
end Go.Proofs.YtldccnbokbieiaaGreat
namespace Go.Sha
def F2 (x:List Nat):List Nat:=m8 x.length ++ x
def Za (xs:List (List Nat)):List Nat:=(xs.map F2).flatten
def VB (xs:List (List Nat)):List Nat:=m8 xs.length ++ Za xs
def inB (i:Ip):List Nat:=i.hash ++ (le i.idx 4 ++ le i.seq 4)
def abg (l:List Ip):List Nat:=(l.map inB).flatten
def J4 (o:Nat × List Nat):List Nat:=le o.1 8 ++ F2 o.2
def Tu (l:List (Nat × List Nat)):List Nat:=(l.map J4).flatten
def UY (t:Tn):List Nat:=le t.ver 4 ++ (m8 t.ins.length ++ (abg t.ins ++ (m8 t.outs.length ++ (Tu t.outs ++ le t.lock 4))))
def awc (l:List Ip):List Nat:=(l.map fun i=>VB i.wit).flatten
def RP (t:Tn):List Nat:=UY t ++ awc t.ins
def SmW (xs:List (List Nat)):Prop:=xs.length≤6∧∀ x,x ∈ xs→x.length≤600
theorem Vw (x:List Nat):(F2 x).length≤5+x.length:=by
 have:=y9 x.length;unfold F2;rw [aj];omega
theorem abh:∀ (xs:List (List Nat)),(∀ x,x ∈ xs→x.length≤600)→(Za xs).length≤605*xs.length
 | [],_=>by simp [Za]
 | x :: r,h=>by
  have ih:=abh r fun y hy=>h y (ax _ hy);have hx:=h x (aC ..);have h1:=Vw x;have e:(Za (x :: r)).length=(F2 x).length+(Za r).length:=by simp [Za]
  rw [e,List.length_cons];omega
theorem acB {xs:List (List Nat)} (h:SmW xs):(VB xs).length≤3635:=by
 have h1:=abh xs h.2;have h2:=y9 xs.length;have h3:=h.1;unfold VB;rw [aj];omega
end Go.Sha
namespace Go.Proofs.YtldccnbokbieiaaGreat
open Go.Am Go.Sha
theorem ajS (b:List Nat) (x n:Nat) (hb:b.length≤1000000) (hx:x<18446744073709551616) (hn:n≤8):I1 Tryz.prog 159 0 [] [.d (nb b),.d (.int .u64 (x:Int)),.d (.int .i64 (n:Int))] (aaz (b ++ le x n)):=by
 refine C6 Tryz.func159 (by kernel_rfl) rfl Tryz.ntmps159 (rs:=[.tmp 6]) rfl (Ut rfl) (by decide) ?_;have w1:IntKind.i64.wrap ((b.length:Int)+(n:Int))=((b.length+n:Nat):Int):=by rw [IntWalk.i64_in _ aa];omega
 have hr:List.replicate b.length [AV.d (.int .u8 0)]=rb (List.replicate b.length 0):=by simp [rb]
 simp only [go_sem,Nat.reduceEqDiff,Nat.reduceAdd,Nat.reduceLT,↓reduceIte,Nat.reduceMul,w1,nb,List.length_map,Int.toNat_natCast,hr];simp [go_sem,E6,o6];rw [Xl];refine ⟨aa,aa,aa,aa,?_⟩
 refine j9 (fun k:Nat=>⟨[(7,.own 225 0 (b ++ le x k).length (b ++ le x k).length),(8,.d (.int .u64 ((I7 (8*k) x:Nat):Int))),(20,.d (.int .i64 (n:Int))),(21,.d (.int .i64 (k:Int)))],[(225,⟨5,1,rb (b ++ le x k)⟩)],545⟩)
  (fun k=>k≤n) (fun k=>n - k) 0 aa (by
   simp [m7,c6,fv,lk,AV.low,AV.low1,le,I7]
   exact s7 _ _) ?_
 intro k hk;have hl:(b ++ le x k).length=b.length+k:=by rw [aj,r9]
 have hs:rb (b ++ le x k) ++ [[AV.d (.int .u8 ((t8 (I7 (8*k) x):Nat):Int))]]=rb (b ++ le x (k+1)):=by rw [N1,ar];rfl
 have w5:=j6 (k:=k) aa;simp only [go_sem,Nat.reduceEqDiff,Nat.reduceAdd,Nat.reduceLT,↓reduceIte];refine ⟨fun h=>?_,fun h=>?_⟩
 ·simp [go_sem,F7,o6,hs,r9,IntKind.bits,aeK,aar,w5];refine ⟨aa,?_⟩;refine c8 (k+1) aa aa ?_;simp [m7,c6,fv,lk,AV.low,AV.low1,r9];exact ⟨aa,s7 _ _⟩
 ·have hkn:k=n:=aa;subst hkn;exact ⟨225,by rw [aj],rfl⟩
theorem SI (b:List Nat) (x:Nat) (hb:b.length≤1000000) (hx:x<4294967296):I1 Tryz.prog 109 0 [] [.d (nb b),.d (.int .u32 (x:Int))] (aaz (b ++ le x 4)):=by
 refine C6 Tryz.func109 (by kernel_rfl) rfl Tryz.ntmps109 (rs:=[.tmp 4]) rfl (Ut rfl) (by decide) ?_;simp [go_sem];refine A3 [] (abZ b x 4 hb hx aa) rfl ab ab ab (by simp [AV.renL,AV.ren]) ?_;rintro r hp' ⟨rfl,h0⟩;refine ⟨[(225,0)],rfl,?_⟩;simp [go_sem,D8,C8,h0,Blk.ren,x7,C7,AV.renL,AV.ren,D9,d7,aaz]
theorem ajT (b:List Nat) (x:Nat) (hb:b.length≤1000000) (hx:x<18446744073709551616):I1 Tryz.prog 150 0 [] [.d (nb b),.d (.int .u64 (x:Int))] (aaz (b ++ le x 8)):=by
 refine C6 Tryz.func150 (by kernel_rfl) rfl Tryz.ntmps150 (rs:=[.tmp 4]) rfl (Ut rfl) (by decide) ?_;simp [go_sem];refine A3 [] (ajS b x 8 hb hx aa) rfl ab ab ab (by simp [AV.renL,AV.ren]) ?_;rintro r hp' ⟨I,rfl,h0⟩;refine ⟨[(I,0)],by simp [M4,RG],?_⟩;simp [go_sem,D8,C8,h0,Blk.ren,x7,C7,AV.renL,AV.ren,D9,d7,aaz]
theorem Ys (b:List Nat) (x:Nat) (hb:b.length≤1000000) (hx:x<4294967296):m6 Tryz.prog 109 [.d (nb b),.d (.int .u32 (x:Int))] (fun r=>r=.d (nb (b ++ le x 4))):=UK (SI b x hb hx) ae
theorem abi (b:List Nat) (x:Nat) (hb:b.length≤1000000) (hx:x<18446744073709551616):m6 Tryz.prog 150 [.d (nb b),.d (.int .u64 (x:Int))] (fun r=>r=.d (nb (b ++ le x 8))):=UK (ajT b x hb hx) ae
theorem abj (b:List Nat) (n:Nat) (hb:b.length≤100000) (hn:n<4294967296):m6 Tryz.prog 120 [.d (nb b),.d (.int .u64 (n:Int))] (fun r=>r=.d (nb (b ++ m8 n))):=UK (VV b n hb hn) ae
theorem Zw (b:List Nat) (n:Nat) (hb:b.length≤1000000) (hn:n<4294967296):m6 Tryz.prog 135 [.d (nb b),.d (.int .u64 (n:Int))] (fun r=>r=.d (nb (b ++ m8 n))):=UK (Vg b n hb hn) ae
def I5 {α:Type} (f:α→List Nat) (l:List α) (k:Nat):List Nat:=((l.drop k).map f).flatten
theorem E7 {α:Type} {f:α→List Nat} {l:List α} {k:Nat} {x:α} {B R:List Nat} (hd:l.drop k=x :: l.drop (k+1)) (h:B ++ I5 f l k=R):(B ++ f x) ++ I5 f l (k+1)=R:=by
 unfold I5 at *;rw [hd,List.map_cons,List.flatten_cons,← ar] at h;exact h
theorem E8 {α:Type} {f:α→List Nat} {l:List α} {B R:List Nat} (h:B ++ I5 f l l.length=R):B=R:=by
 unfold I5 at h;rw [List.drop_length] at h
 simpa using h
theorem ahf (b:List Nat) (xs:List (List Nat)) (hb:b.length≤50000) (hx:SmW xs):m6 Tryz.prog 193 [.d (nb b),.d (.ro 1 (xs.map RL))] (fun r=>r=.d (nb (b ++ VB xs))):=by
 refine t6 Tryz.func193 Tryz.ntmps193 (rs:=[.tmp 4]) ae ?_;obtain ⟨hl,hx⟩:=hx;have hp5:=y9 xs.length;have w:IntKind.u64.wrap (xs.length:Int)=(xs.length:Int):=by rw [L0];omega
 have hR0:(b ++ m8 xs.length) ++ I5 F2 xs 0=b ++ VB xs:=by rw [ar];rfl
 generalize b ++ VB xs=R at *;simp [go_sem,w];refine a9 (abj b xs.length aa aa) ae ?_;have hB0:(b ++ m8 xs.length).length≤50005:=by rw [aj];omega
 generalize b ++ m8 xs.length=B0 at *;simp [go_sem]
 refine j9 (fun t:Nat × List Nat=>⟨[(5,.d (nb t.2)),(13,.d (.ro 1 (xs.map RL))),(14,.d (.int .i64 (xs.length:Int))),(15,.d (.int .i64 (t.1:Int)))],[],1000⟩)
  (fun t=>t.1≤xs.length∧t.2.length≤50005+605*t.1∧t.2 ++ I5 F2 xs t.1=R) (fun t=>xs.length - t.1) (0,B0) ⟨ab,by simp;omega,hR0⟩ (by
   simp [m7,c6,fv,lk,AV.low,AV.low1,nb]) ?_
 rintro ⟨k,B⟩ ⟨hk,hBl,hR⟩;simp only at hk hBl hR;simp only [go_sem,Nat.reduceEqDiff,Nat.reduceAdd,Nat.reduceLT,↓reduceIte,Nat.reduceMul];refine ⟨fun h=>?_,fun h=>?_⟩
 ·obtain ⟨x,hx1,hd⟩:=t5 (l:=xs) (k:=k) aa;have hxl:=hx x (ao hx1);have w3:=j6 (k:=k) aa;have hbl:=Vw x;simp [go_sem,hx1,RL];refine a9 (RS B x aa aa) ae ?_;simp [go_sem,w3];refine c8 (k+1,B ++ F2 x) ⟨by simp only;omega,by simp only [aj];omega,E7 hd hR⟩ (by simp only;omega) ?_;simp [m7,c6,fv,lk,AV.low,AV.low1,nb,F2]
 ·have hkl:k=xs.length:=aa;subst hkl;have:=E8 hR;subst this;simp [go_sem];exact b7 ae rfl
theorem afS (b:List Nat) (xs:List (List Nat)) (hb:b.length≤50000) (hx:SmW xs):m6 Tryz.prog 195 [.d (nb b),.d (.ro 1 (xs.map RL))] (fun r=>r=.d (nb (b ++ VB xs))):=by
 refine t6 Tryz.func195 Tryz.ntmps195 (rs:=[.tmp 4]) ae ?_;obtain ⟨hl,hx⟩:=hx;have hp5:=y9 xs.length;have w:IntKind.u64.wrap (xs.length:Int)=(xs.length:Int):=by rw [L0];omega
 have hR0:(b ++ m8 xs.length) ++ I5 F2 xs 0=b ++ VB xs:=by rw [ar];rfl
 generalize b ++ VB xs=R at *;simp [go_sem,w];refine a9 (Zw b xs.length aa aa) ae ?_;have hB0:(b ++ m8 xs.length).length≤50005:=by rw [aj];omega
 generalize b ++ m8 xs.length=B0 at *;simp [go_sem]
 refine j9 (fun t:Nat × List Nat=>⟨[(1,.d (.ro 1 (xs.map RL))),(5,.d (nb t.2)),(6,.d (.int .i64 (t.1:Int)))],[],1000⟩)
  (fun t=>t.1≤xs.length∧t.2.length≤50005+605*t.1∧t.2 ++ I5 F2 xs t.1=R) (fun t=>xs.length - t.1) (0,B0) ⟨ab,by simp;omega,hR0⟩ (by
   simp [m7,c6,fv,lk,AV.low,AV.low1,nb]) ?_
 rintro ⟨k,B⟩ ⟨hk,hBl,hR⟩;simp only at hk hBl hR;simp only [go_sem,Nat.reduceEqDiff,Nat.reduceAdd,Nat.reduceLT,↓reduceIte,Nat.reduceMul];refine ⟨fun h=>?_,fun h=>?_⟩
 ·obtain ⟨x,hx1,hd⟩:=t5 (l:=xs) (k:=k) aa;have hxl:=hx x (ao hx1);have w3:=j6 (k:=k) aa;have hbl:=Vw x;simp [go_sem,hx1,RL];refine a9 (Tz B x aa aa) ae ?_;simp [go_sem,w3];refine c8 (k+1,B ++ F2 x) ⟨by simp only;omega,by simp only [aj];omega,E7 hd hR⟩ (by simp only;omega) ?_;simp [m7,c6,fv,lk,AV.low,AV.low1,nb,F2]
 ·have hkl:k=xs.length:=aa;subst hkl;have:=E8 hR;subst this;simp [go_sem];exact b7 ae rfl
end Go.Proofs.YtldccnbokbieiaaGreat
namespace Go.Sha
theorem ad2 {i:Ip} (h:i.hash.length=32):(inB i).length=40:=by simp [inB,h,r9]
theorem Yt (o:Nat × List Nat):(J4 o).length≤13+o.2.length:=by
 have:=Vw o.2;unfold J4;rw [aj,r9];omega
def Sm (t:Tn):Prop:=t.ok∧t.ins.length≤6∧t.outs.length≤6∧(∀ o,o ∈ t.outs→o.2.length≤600)∧∀ i,i ∈ t.ins→SmW i.wit
theorem awe {t:Tn} (h:t.ok) (hw:Q1 6 6 600 t=true):Sm t:=by
 simp only [Q1,Bool.and_eq_true,decide_eq_true_eq,F1,RO,N2,aD] at hw;obtain ⟨h1,h2,h3,h4⟩:=hw;exact ⟨h,h1,h2,h3,fun i hi=>⟨(h4 i hi).1,(h4 i hi).2⟩⟩
end Go.Sha
namespace Go.Proofs.YtldccnbokbieiaaGreat
open Go.Am Go.Sha
def Zb (i:Ip):List AV:=cb i.hash ++ [.d (.int .u32 (i.idx:Int)),.d (.int .u32 (i.seq:Int)),.d (.ro 1 (i.wit.map RL))]
theorem afT (i:Ip):(eI i).map AV.d=Zb i:=by simp [eI,Zb,Tj]
theorem WX {i:Ip} (h:i.hash.length=32):(Zb i).length=35:=by simp [Zb,d0,h]
theorem ayc {i:Ip} (h:i.hash.length=32):(Zb i)[32]?=some (.d (.int .u32 (i.idx:Int))):=by
 rw [Zb,aB (by rw [d0];omega),d0,h];rfl
theorem ayd {i:Ip} (h:i.hash.length=32):(Zb i)[33]?=some (.d (.int .u32 (i.seq:Int))):=by
 rw [Zb,aB (by rw [d0];omega),d0,h];rfl
theorem aye {i:Ip} (h:i.hash.length=32):(Zb i)[34]?=some (.d (.ro 1 (i.wit.map RL))):=by
 rw [Zb,aB (by rw [d0];omega),d0,h];rfl
theorem aqR {i:Ip} (h:i.hash.length=32) (hl:32<(Zb i).length):(Zb i)[32]=.d (.int .u32 (i.idx:Int)):=by
 have:=ayc h;rw [am hl] at this;exact Option.some.inj this
theorem aqS {i:Ip} (h:i.hash.length=32) (hl:33<(Zb i).length):(Zb i)[33]=.d (.int .u32 (i.seq:Int)):=by
 have:=ayd h;rw [am hl] at this;exact Option.some.inj this
theorem aqT {i:Ip} (h:i.hash.length=32) (hl:34<(Zb i).length):(Zb i)[34]=.d (.ro 1 (i.wit.map RL)):=by
 have:=aye h;rw [am hl] at this;exact Option.some.inj this
theorem Wi {i:Ip} (h:i.hash.length=32):(Zb i).take 35=Zb i:=aq (by rw [WX h];omega)
theorem ap7 (n:Nat) (i:Ip):∀ v,v ∈ Zb i→v.low1 n:=by
 intro v hv;simp only [Zb,au,aF,List.mem_nil_iff,or_false] at hv;rcases hv with hv | rfl | rfl | rfl
 ·exact o5 _ _ _ hv
 ·trivial
 ·trivial
 ·trivial
theorem afU {i:Ip} (h:i.hash.length=32):(List.range 32).map (fun k=>((Zb i).drop k).take 1)=rb i.hash:=by
 have h1:=K4 h;rw [E6] at h1;rw [← h1];apply List.map_congr_left;intro k hk;have hk:=List.mem_range.1 hk;unfold Zb;rw [List.drop_append_of_le_length (by rw [d0];omega),List.take_append_of_le_length (by rw [aG,d0];omega)]
theorem zin:O6 Tryz.prog 139=some (cb z32 ++ [.d (.int .u32 0),.d (.int .u32 0),.nil]):=by kernel_rfl
attribute [go_sem] zin
theorem Wj:List.drop 35 (cb z32 ++ [AV.d (.int .u32 0),AV.d (.int .u32 0),AV.nil])=[]:=rfl
theorem ap8 (t:Tn) (ht:Sm t):m6 Tryz.prog 192 [.agg (eT t)] (fun r=>r=.d (nb (UY t))):=by
 obtain ⟨⟨hv,hlk,hi,ho⟩,h1,h2,h3,h4⟩:=ht;refine t6 Tryz.func192 Tryz.ntmps192 (rs:=[.tmp 2]) (by simp [AV.deep,AV.deep1,eT]) ?_;have w1:IntKind.u64.wrap (t.ins.length:Int)=(t.ins.length:Int):=by rw [L0];omega
 have w2:IntKind.u64.wrap (t.outs.length:Int)=(t.outs.length:Int):=by rw [L0];omega
 have hp1:=y9 t.ins.length;have hp2:=y9 t.outs.length;simp [go_sem,eT];refine u7 [] (Ys [] t.ver ab hv) rfl (c7 (.one (d9 (.nil 1))) (c7 (.deep ae) n7)) ?_;simp [go_sem,p9,w1];refine A3 [] (VV (le t.ver 4) t.ins.length (by simp [r9]) aa) rfl ab ab ab (by simp [AV.renL,AV.ren]) ?_;rintro r hp' ⟨I,rfl,h0⟩;refine ⟨[(I,0)],by simp [M4,RG],?_⟩;have hB0:(le t.ver 4 ++ m8 t.ins.length).length≤9:=by rw [aj,r9];omega
 have hR0:(le t.ver 4 ++ m8 t.ins.length) ++ I5 inB t.ins 0=le t.ver 4 ++ m8 t.ins.length ++ abg t.ins:=rfl;have hR9:UY t=(le t.ver 4 ++ m8 t.ins.length ++ abg t.ins) ++ (m8 t.outs.length ++ (Tu t.outs ++ le t.lock 4)):=by simp [UY]
 rw [hR9];generalize le t.ver 4 ++ m8 t.ins.length ++ abg t.ins=R1 at *;generalize le t.ver 4 ++ m8 t.ins.length=B0 at *;simp [go_sem,D8,C8,h0,Blk.ren,x7,C7,AV.renL,AV.ren,D9]
 refine j9 (fun u:Nat × List Nat=>⟨[(1,.ptr 0 0 0 1),(3,.own 352 0 u.2.length u.2.length),(18,.d (.ro 35 (t.ins.map eI))),(19,.d (.int .i64 (t.ins.length:Int))),(20,.d (.int .i64 (u.1:Int)))],[(352,⟨5,1,rb u.2⟩),(0,⟨57,4,[eT t]⟩)],2000⟩)
  (fun u=>u.1≤t.ins.length∧u.2.length≤9+40*u.1∧u.2 ++ I5 inB t.ins u.1=R1) (fun u=>t.ins.length - u.1) (0,B0) ⟨ab,by simp;omega,hR0⟩ (by
   simp [m7,c6,fv,lk,AV.low,AV.low1,eT]
   exact s7 _ _) ?_
 rintro ⟨k,B⟩ ⟨hk,hBl,hR⟩;simp only at hk hBl hR;simp only [eT];simp only [go_sem,Nat.reduceEqDiff,Nat.reduceAdd,Nat.reduceLT,↓reduceIte,Nat.reduceMul];refine ⟨fun h=>?_,fun h=>?_⟩
 ·obtain ⟨i,hi1,hd⟩:=t5 (l:=t.ins) (k:=k) aa;obtain ⟨hi32,hidx,hseq⟩:=hi i (ao hi1);have w3:=j6 (k:=k) aa;have hil:=ad2 hi32;have hel:=XD hi32;have hcl:=WX hi32;have hx:=afU hi32;simp [go_sem] at hx;simp [go_sem,hi1,hel,afT,hcl,Wi hi32,Wj,hx,o6,aqR hi32,RI];refine ⟨aa,?_⟩;have hBh:(B ++ i.hash).length=B.length+32:=by rw [aj,hi32]
  refine J5 [352] (SI (B ++ i.hash) i.idx aa hidx) rfl (c7 (.one (d9 (n9 hBh rfl ab))) (c7 (.deep ae) n7)) (fun ρ=>by simp [AV.renL,AV.ren]) ?_;rintro r hp' ⟨I,rfl,h0⟩;refine ⟨[(I,0)],by simp [M4,RG],?_⟩;have hB1:(B ++ i.hash ++ le i.idx 4).length=B.length+36:=by rw [aj,hBh,r9]
  have hB3:B ++ inB i=B ++ i.hash ++ le i.idx 4 ++ le i.seq 4:=by simp [inB]
  generalize B ++ i.hash ++ le i.idx 4=B1 at *;simp [go_sem,D8,C8,h0,Blk.ren,x7,C7,AV.renL,AV.ren,D9,p9,hcl,aqS hi32];refine J5 [2480] (SI B1 i.seq aa hseq) rfl (c7 (.one (d9 (n9 rfl rfl ab))) (c7 (.deep ae) n7)) (fun ρ=>by simp [AV.renL,AV.ren]) ?_;rintro r hp'' ⟨J,rfl,h0'⟩;refine ⟨[(J,0)],by simp [M4,RG],?_⟩;have hB2:(B1 ++ le i.seq 4).length=B1.length+4:=by rw [aj,r9]
  rw [← hB3] at h0' hB2 ⊢;generalize hB4:B ++ inB i=B2 at *;simp [go_sem,D8,C8,h0',Blk.ren,x7,C7,AV.renL,AV.ren,D9,p9,w3];refine UG (k+1,B2) ⟨by simp only;omega,by simp only;omega,by rw [← hB4];exact E7 hd hR⟩ (by simp only;omega) [(0,0),(2640,352)] 9000 (by decide) (by decide) (by decide) (by decide) ?_;simp [Zy,YG,D9,AV.ren,Blk.ren,x7,C7,m7,c6,fv,lk,AV.low,AV.low1,AV.renL,eT];exact s7 _ _
 ·have hkl:k=t.ins.length:=aa;subst hkl;have:=E8 hR;subst this;clear hR hR0 h hk;have hR0:(B ++ m8 t.outs.length) ++ I5 J4 t.outs 0=B ++ m8 t.outs.length ++ Tu t.outs:=rfl;have hR9:B ++ (m8 t.outs.length ++ (Tu t.outs ++ le t.lock 4))=(B ++ m8 t.outs.length ++ Tu t.outs) ++ le t.lock 4:=by simp
  rw [hR9];simp [go_sem,w2];refine u7 [352] (abj B t.outs.length aa aa) rfl (c7 (.one (d9 (n9 rfl rfl ab))) (c7 (.deep ae) n7)) ?_;have hB0':(B ++ m8 t.outs.length).length≤300:=by rw [aj];omega
  generalize B ++ m8 t.outs.length ++ Tu t.outs=R2 at *;generalize B ++ m8 t.outs.length=B1 at *;simp [go_sem,p9]
  refine j9 (fun u:Nat × List Nat=>⟨[(1,.ptr 0 0 0 1),(3,.d (nb u.2)),(46,.d (.ro 2 (t.outs.map eO))),(47,.d (.int .i64 (t.outs.length:Int))),(48,.d (.int .i64 (u.1:Int)))],[(0,⟨57,4,[eT t]⟩)],9000⟩)
   (fun u=>u.1≤t.outs.length∧u.2.length≤300+613*u.1∧u.2 ++ I5 J4 t.outs u.1=R2) (fun u=>t.outs.length - u.1) (0,B1) ⟨ab,by simp;omega,hR0⟩ (by
    simp [m7,c6,fv,lk,AV.low,AV.low1,eT]) ?_
  rintro ⟨k,B'⟩ ⟨hk,hBl',hR⟩;simp only at hk hBl' hR;simp only [eT];simp only [go_sem,Nat.reduceEqDiff,Nat.reduceAdd,Nat.reduceLT,↓reduceIte,Nat.reduceMul];refine ⟨fun h=>?_,fun h=>?_⟩
  ·obtain ⟨o,ho1,hd⟩:=t5 (l:=t.outs) (k:=k) aa;have ho64:=ho o (ao ho1);have hol:=h3 o (ao ho1);have w3:=j6 (k:=k) aa;have hoB:=Yt o;simp [go_sem,ho1,eO];refine a9 (abi B' o.1 aa ho64) ae ?_;simp [go_sem];have hl8:(B' ++ le o.1 8).length=B'.length+8:=by rw [aj,r9]
   have hB3:B' ++ J4 o=B' ++ le o.1 8 ++ (m8 o.2.length ++ o.2):=by simp [J4,F2]
   refine a9 (RS (B' ++ le o.1 8) o.2 aa aa) ae ?_;rw [← hB3];have hB4l:(B' ++ J4 o).length=B'.length+(J4 o).length:=aj;simp [go_sem,w3];refine c8 (k+1,B' ++ J4 o) ⟨by simp only;omega,by simp only;omega,E7 hd hR⟩ (by simp only;omega) ?_;simp [m7,c6,fv,lk,AV.low,AV.low1,eT]
  ·have hkl:k=t.outs.length:=aa;subst hkl;have:=E8 hR;subst this;simp [go_sem];refine a9 (Ys B' t.lock aa hlk) ae ?_;simp [go_sem];exact b7 ae (by rw [hR9])
theorem aiK {i:Ip} (h:i.hash.length=32):((eI i).take 32).map (fun c=>[c])=i.hash.map fun (b:Nat)=>[DV.int .u8 (b:Int)]:=by
 unfold eI;rw [List.take_append_of_le_length (by rw [H3];omega),aq (by rw [H3];omega)];simp [cd]
theorem anv (t:Tn) (ht:Sm t):m6 Tryz.prog 194 [.agg (eT t)] (fun r=>r=.d (nb (UY t))):=by
 obtain ⟨⟨hv,hlk,hi,ho⟩,h1,h2,h3,h4⟩:=ht;refine t6 Tryz.func194 Tryz.ntmps194 (rs:=[.tmp 2]) (by simp [AV.deep,AV.deep1,eT]) ?_;have w1:IntKind.u64.wrap (t.ins.length:Int)=(t.ins.length:Int):=by rw [L0];omega
 have w2:IntKind.u64.wrap (t.outs.length:Int)=(t.outs.length:Int):=by rw [L0];omega
 have wv:IntKind.u64.wrap (t.ver:Int)=(t.ver:Int):=by rw [L0];omega
 have wl:IntKind.u64.wrap (t.lock:Int)=(t.lock:Int):=by rw [L0];omega
 have hp1:=y9 t.ins.length;have hp2:=y9 t.outs.length;simp [go_sem,eT,wv];refine u7 [] (X3 [] t.ver 4 4 rfl ab aa aa) rfl (c7 (.one (d9 (.nil 1))) (c7 (.deep ae) (c7 (.deep ae) n7))) ?_;simp [go_sem,p9,w1];refine A3 [] (Vg (le t.ver 4) t.ins.length (by simp [r9]) aa) rfl ab ab ab (by simp [AV.renL,AV.ren]) ?_;rintro r hp' ⟨I,rfl,h0⟩;refine ⟨[(I,0)],by simp [M4,RG],?_⟩;have hB0:(le t.ver 4 ++ m8 t.ins.length).length≤9:=by rw [aj,r9];omega
 have hR0:(le t.ver 4 ++ m8 t.ins.length) ++ I5 inB t.ins 0=le t.ver 4 ++ m8 t.ins.length ++ abg t.ins:=rfl;have hR9:UY t=(le t.ver 4 ++ m8 t.ins.length ++ abg t.ins) ++ (m8 t.outs.length ++ (Tu t.outs ++ le t.lock 4)):=by simp [UY]
 rw [hR9];generalize le t.ver 4 ++ m8 t.ins.length ++ abg t.ins=R1 at *;generalize le t.ver 4 ++ m8 t.ins.length=B0 at *;simp [go_sem,D8,C8,h0,Blk.ren,x7,C7,AV.renL,AV.ren,D9]
 refine j9 (fun u:Nat × List Nat=>⟨[(1,.ptr 0 0 0 1),(3,.own 384 0 u.2.length u.2.length),(4,.d (.int .i64 (u.1:Int)))],[(384,⟨5,1,rb u.2⟩),(0,⟨57,4,[eT t]⟩)],2000⟩)
  (fun u=>u.1≤t.ins.length∧u.2.length≤9+40*u.1∧u.2 ++ I5 inB t.ins u.1=R1) (fun u=>t.ins.length - u.1) (0,B0) ⟨ab,by simp;omega,hR0⟩ (by
   simp [m7,c6,fv,lk,AV.low,AV.low1,eT]
   exact s7 _ _) ?_
 rintro ⟨k,B⟩ ⟨hk,hBl,hR⟩;simp only at hk hBl hR;simp only [eT];simp only [go_sem,Nat.reduceEqDiff,Nat.reduceAdd,Nat.reduceLT,↓reduceIte,Nat.reduceMul];refine ⟨fun h=>?_,fun h=>?_⟩
 ·obtain ⟨i,hi1,hd⟩:=t5 (l:=t.ins) (k:=k) aa;obtain ⟨hi32,hidx,hseq⟩:=hi i (ao hi1);have w3:=j6 (k:=k) aa;have hil:=ad2 hi32;have hel:=XD hi32;have wx:IntKind.u64.wrap (i.idx:Int)=(i.idx:Int):=by rw [L0];omega
  have ws:IntKind.u64.wrap (i.seq:Int)=(i.seq:Int):=by rw [L0];omega
  have her:=aiK hi32;simp [go_sem,hi1,hel,her,awb hi32,ap6 hi32,E6,o6,RI,wx,hi32];refine ⟨aa,?_⟩;have hBh:(B ++ i.hash).length=B.length+32:=by rw [aj,hi32]
  refine J5 [384] (L8 (B ++ i.hash) i.idx 4 4 rfl aa aa aa) rfl (c7 (.one (d9 (n9 hBh rfl ab))) (c7 (.deep ae) (c7 (.deep ae) n7))) (fun ρ=>by simp [AV.renL,AV.ren]) ?_;rintro r hp' ⟨rfl,h0⟩;refine ⟨[(33,0)],by simp [M4,RG],?_⟩;have hB1:(B ++ i.hash ++ le i.idx 4).length=B.length+36:=by rw [aj,hBh,r9]
  have hB3:B ++ inB i=B ++ i.hash ++ le i.idx 4 ++ le i.seq 4:=by simp [inB]
  generalize B ++ i.hash ++ le i.idx 4=B1 at *;simp [go_sem,D8,C8,h0,Blk.ren,x7,C7,AV.renL,AV.ren,D9,p9,hi1,ap6 hi32,ws];refine J5 [2768] (L8 B1 i.seq 4 4 rfl aa aa aa) rfl (c7 (.one (d9 (n9 rfl rfl ab))) (c7 (.deep ae) (c7 (.deep ae) n7))) (fun ρ=>by simp [AV.renL,AV.ren]) ?_;rintro r hp'' ⟨rfl,h0'⟩;refine ⟨[(33,0)],by simp [M4,RG],?_⟩;have hB2:(B1 ++ le i.seq 4).length=B1.length+4:=by rw [aj,r9]
  rw [← hB3] at h0' hB2 ⊢;generalize hB4:B ++ inB i=B2 at *;simp [go_sem,D8,C8,h0',Blk.ren,x7,C7,AV.renL,AV.ren,D9,p9,w3];refine UG (k+1,B2) ⟨by simp only;omega,by simp only;omega,by rw [← hB4];exact E7 hd hR⟩ (by simp only;omega) [(0,0),(3088,384)] 9000 (by decide) (by decide) (by decide) (by decide) ?_;simp [Zy,YG,D9,AV.ren,Blk.ren,x7,C7,m7,c6,fv,lk,AV.low,AV.low1,AV.renL,eT];exact s7 _ _
 ·have hkl:k=t.ins.length:=aa;subst hkl;have:=E8 hR;subst this;clear hR hR0 h hk;have hR0:(B ++ m8 t.outs.length) ++ I5 J4 t.outs 0=B ++ m8 t.outs.length ++ Tu t.outs:=rfl;have hR9:B ++ (m8 t.outs.length ++ (Tu t.outs ++ le t.lock 4))=(B ++ m8 t.outs.length ++ Tu t.outs) ++ le t.lock 4:=by simp
  rw [hR9];simp [go_sem,w2];refine u7 [384] (Zw B t.outs.length aa aa) rfl (c7 (.one (d9 (n9 rfl rfl ab))) (c7 (.deep ae) n7)) ?_;have hB0':(B ++ m8 t.outs.length).length≤300:=by rw [aj];omega
  generalize B ++ m8 t.outs.length ++ Tu t.outs=R2 at *;generalize B ++ m8 t.outs.length=B1 at *;simp [go_sem,p9]
  refine j9 (fun u:Nat × List Nat=>⟨[(1,.ptr 0 0 0 1),(3,.d (nb u.2)),(5,.d (.int .i64 (u.1:Int)))],[(0,⟨57,4,[eT t]⟩)],9000⟩)
   (fun u=>u.1≤t.outs.length∧u.2.length≤300+613*u.1∧u.2 ++ I5 J4 t.outs u.1=R2) (fun u=>t.outs.length - u.1) (0,B1) ⟨ab,by simp;omega,hR0⟩ (by
    simp [m7,c6,fv,lk,AV.low,AV.low1,eT]) ?_
  rintro ⟨k,B'⟩ ⟨hk,hBl',hR⟩;simp only at hk hBl' hR;simp only [eT];simp only [go_sem,Nat.reduceEqDiff,Nat.reduceAdd,Nat.reduceLT,↓reduceIte,Nat.reduceMul];refine ⟨fun h=>?_,fun h=>?_⟩
  ·obtain ⟨o,ho1,hd⟩:=t5 (l:=t.outs) (k:=k) aa;have ho64:=ho o (ao ho1);have hol:=h3 o (ao ho1);have w3:=j6 (k:=k) aa;have hoB:=Yt o;simp [go_sem,ho1,eO];refine a9 (X3 B' o.1 8 8 rfl aa ho64 aa) ae ?_;simp [go_sem,ho1,eO];have hl8:(B' ++ le o.1 8).length=B'.length+8:=by rw [aj,r9]
   have hB3:B' ++ J4 o=B' ++ le o.1 8 ++ (m8 o.2.length ++ o.2):=by simp [J4,F2]
   refine a9 (Tz (B' ++ le o.1 8) o.2 aa aa) ae ?_;rw [← hB3];have hB4l:(B' ++ J4 o).length=B'.length+(J4 o).length:=aj;simp [go_sem,w3];refine c8 (k+1,B' ++ J4 o) ⟨by simp only;omega,by simp only;omega,E7 hd hR⟩ (by simp only;omega) ?_;simp [m7,c6,fv,lk,AV.low,AV.low1,eT]
  ·have hkl:k=t.outs.length:=aa;subst hkl;have:=E8 hR;subst this;simp [go_sem,wl];refine a9 (X3 B' t.lock 4 4 rfl aa aa aa) ae ?_;simp [go_sem];exact b7 ae (by rw [hR9])
theorem acC {t:Tn} (ht:Sm t):(UY t).length≤4000:=by
 obtain ⟨⟨hv,hlk,hi,ho⟩,h1,h2,h3,h4⟩:=ht;have hp1:=y9 t.ins.length;have hp2:=y9 t.outs.length
 have e1:∀ l:List Ip,(∀ i,i ∈ l→i.hash.length=32)→(abg l).length=40*l.length:=by
  intro l
  induction l with
  | nil=>intro _;rfl
  | cons i r ih =>
   intro h;have h1:=ih fun j hj=>h j (ax _ hj);have h2:=ad2 (h i (aC ..));have e:(abg (i :: r)).length=(inB i).length+(abg r).length:=by simp [abg]
   rw [e,List.length_cons];omega
 have e2:∀ l:List (Nat × List Nat),(∀ o,o ∈ l→o.2.length≤600)→(Tu l).length≤613*l.length:=by
  intro l
  induction l with
  | nil=>intro _;simp [Tu]
  | cons i r ih =>
   intro h;have h1:=ih fun j hj=>h j (ax _ hj);have h2:=Yt i;have h3:=h i (aC ..);have e:(Tu (i :: r)).length=(J4 i).length+(Tu r).length:=by simp [Tu]
   rw [e,List.length_cons];omega
 have f1:=e1 t.ins fun i h=>(hi i h).1;have f2:=e2 t.outs h3;unfold UY;simp only [aj,r9];omega
def whB (i:Ip):List Nat:=VB i.wit
theorem anw (t:Tn) (ht:Sm t):m6 Tryz.prog 142 [.agg (eT t)] (fun r=>r=.d (nb (RP t))):=by
 have hbl:=acC ht;refine t6 Tryz.func142 Tryz.ntmps142 (rs:=[.tmp 2]) (by simp [AV.deep,AV.deep1,eT]) ?_;simp [go_sem,eT];refine a9 (ap8 t ht) (by simp [AV.deep,AV.deep1,eT]) ?_;obtain ⟨⟨hv,hlk,hi,ho⟩,h1,h2,h3,h4⟩:=ht;have hR0:UY t ++ I5 whB t.ins 0=RP t:=rfl;generalize RP t=R at *;generalize UY t=B0 at *;simp [go_sem]
 refine j9 (fun u:Nat × List Nat=>⟨[(3,.d (nb u.2)),(9,.d (.ro 35 (t.ins.map eI))),(10,.d (.int .i64 (t.ins.length:Int))),(11,.d (.int .i64 (u.1:Int)))],[],9000⟩)
  (fun u=>u.1≤t.ins.length∧u.2.length≤4000+3635*u.1∧u.2 ++ I5 whB t.ins u.1=R) (fun u=>t.ins.length - u.1) (0,B0) ⟨ab,by simp;omega,hR0⟩ (by
   simp [m7,c6,fv,lk,AV.low,AV.low1]) ?_
 rintro ⟨k,B⟩ ⟨hk,hBl,hR⟩;simp only at hk hBl hR;simp only [go_sem,Nat.reduceEqDiff,Nat.reduceAdd,Nat.reduceLT,↓reduceIte,Nat.reduceMul];refine ⟨fun h=>?_,fun h=>?_⟩
 ·obtain ⟨i,hi1,hd⟩:=t5 (l:=t.ins) (k:=k) aa;obtain ⟨hi32,hidx,hseq⟩:=hi i (ao hi1);have w3:=j6 (k:=k) aa;have hel:=XD hi32;have hcl:=WX hi32;have hw:=h4 i (ao hi1);have hll:=acB hw;simp [go_sem,hi1,hel,afT,hcl,Wi hi32,Wj,aqT hi32];refine a9 (ahf B i.wit aa hw) ae ?_;simp [go_sem,w3];refine c8 (k+1,B ++ VB i.wit) ⟨by simp only;omega,by simp only [aj];omega,E7 (f:=whB) hd hR⟩ (by simp only;omega) ?_;simp [m7,c6,fv,lk,AV.low,AV.low1]
 ·have hkl:k=t.ins.length:=aa;subst hkl;have:=E8 hR;subst this;simp [go_sem];exact b7 ae rfl
theorem ajU (t:Tn) (ht:Sm t):m6 Tryz.prog 145 [.agg (eT t)] (fun r=>r=.d (nb (RP t))):=by
 have hbl:=acC ht;refine t6 Tryz.func145 Tryz.ntmps145 (rs:=[.tmp 2]) (by simp [AV.deep,AV.deep1,eT]) ?_;simp [go_sem,eT];refine a9 (anv t ht) (by simp [AV.deep,AV.deep1,eT]) ?_;obtain ⟨⟨hv,hlk,hi,ho⟩,h1,h2,h3,h4⟩:=ht;have hR0:UY t ++ I5 whB t.ins 0=RP t:=rfl;generalize RP t=R at *;generalize UY t=B0 at *;simp [go_sem]
 refine j9 (fun u:Nat × List Nat=>⟨[(1,.ptr 0 0 0 1),(3,.d (nb u.2)),(4,.d (.int .i64 (u.1:Int)))],[(0,⟨57,4,[eT t]⟩)],9000⟩)
  (fun u=>u.1≤t.ins.length∧u.2.length≤4000+3635*u.1∧u.2 ++ I5 whB t.ins u.1=R) (fun u=>t.ins.length - u.1) (0,B0) ⟨ab,by simp;omega,hR0⟩ (by
   simp [m7,c6,fv,lk,AV.low,AV.low1,eT]) ?_
 rintro ⟨k,B⟩ ⟨hk,hBl,hR⟩;simp only at hk hBl hR;simp only [eT];simp only [go_sem,Nat.reduceEqDiff,Nat.reduceAdd,Nat.reduceLT,↓reduceIte,Nat.reduceMul];refine ⟨fun h=>?_,fun h=>?_⟩
 ·obtain ⟨i,hi1,hd⟩:=t5 (l:=t.ins) (k:=k) aa;obtain ⟨hi32,hidx,hseq⟩:=hi i (ao hi1);have w3:=j6 (k:=k) aa;have hw:=h4 i (ao hi1);have hll:=acB hw;simp [go_sem,hi1,abf hi32];refine a9 (afS B i.wit aa hw) ae ?_;simp [go_sem,w3];refine c8 (k+1,B ++ VB i.wit) ⟨by simp only;omega,by simp only [aj];omega,E7 (f:=whB) hd hR⟩ (by simp only;omega) ?_;simp [m7,c6,fv,lk,AV.low,AV.low1,eT]
 ·have hkl:k=t.ins.length:=aa;subst hkl;have:=E8 hR;subst this;simp [go_sem];exact b7 ae rfl
theorem ajV {t:Tn} (h:Sm t):Q1 20 30 1000 t=true:=by
 obtain ⟨_,h1,h2,h3,h4⟩:=h;simp only [Q1,Bool.and_eq_true,decide_eq_true_eq,F1,RO,N2,aD];refine ⟨aa,aa,fun o ho=>by have:=h3 o ho;omega,fun i hi=>?_⟩;obtain ⟨q1,q2⟩:=h4 i hi;exact ⟨aa,fun x hx=>by have:=q2 x hx;omega⟩
theorem ajW {xs:List (List Nat)} (h:SmW xs):N2 1000 xs=true:=by
 simp only [N2,aD,decide_eq_true_eq];exact fun x hx=>by have:=h.2 x hx;omega
theorem ajX (t:Tn) (ht:Sm t):m6 Tryz.prog 141 [.agg (eT t)] (fun r=>r=.d (.bool true)):=by
 refine t6 Tryz.func141 Tryz.ntmps141 (rs:=[.tmp 2]) (by simp [AV.deep,AV.deep1,eT]) ?_;obtain ⟨⟨hv,hlk,hi,ho⟩,h1,h2,h3,h4⟩:=ht;have i1:¬ 20<(t.ins.length:Int):=aa;have i2:¬ 20<(t.outs.length:Int):=aa;simp [go_sem,eT,i1,i2]
 refine j9 (fun k:Nat=>⟨[(1,.ptr 0 0 0 1),(18,.d (.ro 2 (t.outs.map eO))),(19,.d (.int .i64 (t.outs.length:Int))),(20,.d (.int .i64 (k:Int)))],[(0,⟨57,4,[eT t]⟩)],9000⟩)
  (fun k=>k≤t.outs.length) (fun k=>t.outs.length - k) 0 ab (by
   simp [m7,c6,fv,lk,AV.low,AV.low1,eT]) ?_
 intro k hk;simp only [eT];simp only [go_sem,Nat.reduceEqDiff,Nat.reduceAdd,Nat.reduceLT,↓reduceIte,Nat.reduceMul];refine ⟨fun h=>?_,fun h=>?_⟩
 ·obtain ⟨o,ho1,hd⟩:=t5 (l:=t.outs) (k:=k) aa;have hol:=h3 o (ao ho1);have w3:=j6 (k:=k) aa;simp [go_sem,ho1,eO];refine a9 (aiI o.2) ae ?_;have j1:¬ 1000<o.2.length:=aa;simp [go_sem,j1,w3];refine c8 (k+1) aa aa ?_;simp [m7,c6,fv,lk,AV.low,AV.low1,eT]
 ·simp [go_sem]
  refine j9 (fun k:Nat=>⟨[(1,.ptr 0 0 0 1),(29,.d (.ro 35 (t.ins.map eI))),(30,.d (.int .i64 (t.ins.length:Int))),(31,.d (.int .i64 (k:Int)))],[(0,⟨57,4,[eT t]⟩)],19000⟩)
   (fun k=>k≤t.ins.length) (fun k=>t.ins.length - k) 0 ab (by
    simp [m7,c6,fv,lk,AV.low,AV.low1,eT]) ?_
  intro k hk;simp only [eT];simp only [go_sem,Nat.reduceEqDiff,Nat.reduceAdd,Nat.reduceLT,↓reduceIte,Nat.reduceMul];refine ⟨fun h=>?_,fun h=>?_⟩
  ·obtain ⟨i,hi1,hd⟩:=t5 (l:=t.ins) (k:=k) aa;obtain ⟨hi32,hidx,hseq⟩:=hi i (ao hi1);have w3:=j6 (k:=k) aa;have hel:=XD hi32;have hcl:=WX hi32;have hw:=h4 i (ao hi1);have hw6:=hw.1;have j1:¬ 30<(i.wit.length:Int):=aa;simp [go_sem,hi1,hel,afT,hcl,Wi hi32,Wj,aqT hi32,j1];refine a9 (ad0 i.wit aa) ae ?_;simp [go_sem,ajW hw,w3];refine c8 (k+1) aa aa ?_;simp [m7,c6,fv,lk,AV.low,AV.low1,eT]
  ·simp [go_sem];exact b7 ae rfl
def XE (t:Tn):Int:=if 12000<(RP t).length then 4 else 0
theorem ajY (t:Tn) (ht:Sm t):m6 Tryz.prog 106 [.agg (eT t)] (fun r=>r=.d (.int .i64 (XE t))):=by
 refine t6 Tryz.func106 Tryz.ntmps106 (rs:=[.tmp 2]) (by simp [AV.deep,AV.deep1,eT]) ?_;simp [go_sem,eT];refine a9 (ajX t ht) (by simp [AV.deep,AV.deep1,eT]) ?_;simp [go_sem];refine a9 (anw t ht) (by simp [AV.deep,AV.deep1,eT]) ?_;have hc:XE t=if 12000<(RP t).length then 4 else 0:=rfl;rw [hc];by_cases h:12000<(RP t).length
 ·have i1:12000<((RP t).length:Int):=aa;simp [go_sem,nb,i1,h];exact b7 ae rfl
 ·have i1:¬ 12000<((RP t).length:Int):=aa;simp [go_sem,nb,i1,h];exact b7 ae rfl
theorem ahg (t:Tn) (ht:Sm t):m6 Tryz.prog 108 [.agg (eT t)] (fun r=>r=.d (.int .i64 (XE t))):=by
 refine t6 Tryz.func108 Tryz.ntmps108 (rs:=[.tmp 2]) (by simp [AV.deep,AV.deep1,eT]) ?_;simp [go_sem,eT];refine a9 (ahe t ht.1) (by simp [AV.deep,AV.deep1,eT]) ?_;rw [ajV ht];simp [go_sem];refine a9 (ajU t ht) (by simp [AV.deep,AV.deep1,eT]) ?_;have hc:XE t=if 12000<(RP t).length then 4 else 0:=rfl;rw [hc];by_cases h:12000<(RP t).length
 ·have i1:12000<((RP t).length:Int):=aa;simp [go_sem,nb,i1,h];exact b7 ae rfl
 ·have i1:¬ 12000<((RP t).length:Int):=aa;simp [go_sem,nb,i1,h];exact b7 ae rfl
def N5 (t:Tn) (n:Int) (coins:List (Nat × List Nat)):Int :=
 if XE t ≠ 0 ∨ coins.length ≠ t.ins.length ∨ n<0 ∨ (coins.length:Int)≤n ∨ F1 1000 coins=false then 1 else 0
theorem ajZ (t:Tn) (n:Int) (coins:List (Nat × List Nat)) (ht:Sm t) (hc:coins.length≤1000):m6 Tryz.prog 72 [.agg (eS t n coins)] (fun r=>r=.d (.int .i64 (N5 t n coins))):=by
 refine t6 Tryz.func72 Tryz.ntmps72 (rs:=[.tmp 2]) (by simp [AV.deep,AV.deep1,eS]) ?_;generalize hX:N5 t n coins=X;simp [go_sem,eS];refine a9 (ajY t ht) (by simp [AV.deep,AV.deep1,eT]) ?_;by_cases c1:XE t=0
 ·by_cases c2:(coins.length:Int)=(t.ins.length:Int)
  ·by_cases c3:n<0
   ·have:X=1:=by rw [← hX];simp [N5,c3]
    subst this;simp [go_sem,c1,c2,c3];exact b7 ae rfl
   ·by_cases c4:(coins.length:Int)≤n
    ·have:X=1:=by rw [← hX];simp [N5,c4]
     subst this;have c4':(t.ins.length:Int)≤n:=aa;simp [go_sem,c1,c2,c3,c4,c4'];exact b7 ae rfl
    ·have c4':¬ (t.ins.length:Int)≤n:=aa;simp [go_sem,c1,c2,c3,c4,c4'];refine a9 (ad1 coins aa) ae ?_
     have e:X=if F1 1000 coins=false then 1 else 0:=by
      rw [← hX];unfold N5;have:coins.length=t.ins.length:=aa;simp [c1,this,c3,c4']
     rw [e]
     cases F1 1000 coins
     ·simp [go_sem];exact b7 ae rfl
     ·simp [go_sem];exact b7 ae rfl
  ·have:X=1:=by rw [← hX];unfold N5;rw [if_pos (.inr (.inl aa))]
   subst this;simp [go_sem,c1,c2];exact b7 ae rfl
 ·have:X=1:=by rw [← hX];simp [N5,c1]
  subst this;simp [go_sem,c1];exact b7 ae rfl
theorem ahh (t:Tn) (n:Int) (coins:List (Nat × List Nat)) (ht:Sm t) (hc:coins.length≤1000):m6 Tryz.prog 75 [.agg (eS t n coins)] (fun r=>r=.d (.int .i64 (N5 t n coins))):=by
 refine t6 Tryz.func75 Tryz.ntmps75 (rs:=[.tmp 2]) (by simp [AV.deep,AV.deep1,eS]) ?_;generalize hX:N5 t n coins=X;simp [go_sem,eS];refine a9 (ahg t ht) (by simp [AV.deep,AV.deep1,eT]) ?_;by_cases c1:XE t=0
 ·by_cases c2:(coins.length:Int)=(t.ins.length:Int)
  ·by_cases c3:n<0
   ·have:X=1:=by rw [← hX];simp [N5,c3]
    subst this;simp [go_sem,c1,c2,c3];exact b7 ae rfl
   ·by_cases c4:(coins.length:Int)≤n
    ·have:X=1:=by rw [← hX];simp [N5,c4]
     subst this;have c4':(t.ins.length:Int)≤n:=aa;simp [go_sem,c1,c2,c3,c4,c4'];exact b7 ae rfl
    ·have c4':¬ (t.ins.length:Int)≤n:=aa
     have e:X=if F1 1000 coins=false then 1 else 0:=by
      rw [← hX];unfold N5;have:coins.length=t.ins.length:=aa;simp [c1,this,c3,c4']
     rw [e];simp [go_sem,c1,c2,c3,c4,c4']
     refine j9 (fun k:Nat=>⟨[(1,.ptr 0 0 0 1),(3,.d (.int .i64 (k:Int)))],[(0,⟨59,6,[eS t n coins]⟩)],2000⟩)
      (fun k=>k≤coins.length∧F1 1000 (coins.drop k)=F1 1000 coins) (fun k=>coins.length - k) 0 ⟨aa,rfl⟩ (by
       simp [m7,c6,fv,lk,AV.low,AV.low1,eS]) ?_
     rintro k ⟨hk,ho⟩;simp only [eS];simp only [go_sem,Nat.reduceEqDiff,Nat.reduceAdd,Nat.reduceLT,↓reduceIte,Nat.reduceMul];refine ⟨fun h=>?_,fun h=>?_⟩
     ·obtain ⟨o,ho1,hd⟩:=t5 (l:=coins) (k:=k) aa;have w3:=j6 (k:=k) aa;by_cases hx:o.2.length≤1000
      ·have j1:¬ 1000<(o.2.length:Int):=aa;simp [go_sem,ho1,eO,nb,j1,w3];refine c8 (k+1) ⟨aa,Rx hd ho (by simpa using hx)⟩ aa ?_;simp [m7,c6,fv,lk,AV.low,AV.low1,eS]
      ·have j1:1000<(o.2.length:Int):=aa;have:=N9 hd ho (by simpa using hx);simp [go_sem,ho1,eO,nb,j1];exact b7 ae (by rw [show F1 1000 coins=false from this];rfl)
     ·have hkl:k=coins.length:=aa;subst hkl;have hO:F1 1000 coins=true:=Ry ho;simp [go_sem];exact b7 ae (by rw [hO];rfl)
  ·have:X=1:=by rw [← hX];unfold N5;rw [if_pos (.inr (.inl aa))]
   subst this;simp [go_sem,c1,c2];exact b7 ae rfl
 ·have:X=1:=by rw [← hX];simp [N5,c1]
  subst this;simp [go_sem,c1];exact b7 ae rfl
def Zc (t:Tn) (coins:List (Nat × List Nat)):Bool:=Q1 6 6 600 t && (decide (coins.length≤8) && F1 1100 coins)
theorem aj0 (t:Tn) (n:Int) (coins:List (Nat × List Nat)) (ht:t.ok):m6 Tryz.prog 34 [.agg (eS t n coins)] (fun r=>r=.d (.bool (Zc t coins))):=by
 refine t6 Tryz.func34 Tryz.ntmps34 (rs:=[.tmp 2]) (by simp [AV.deep,AV.deep1,eS]) ?_;generalize hX:Zc t coins=X;unfold Zc at hX;simp [go_sem,eS];refine a9 (ahd t ht) (by simp [AV.deep,AV.deep1,eT]) ?_;generalize Q1 6 6 600 t=W at *
 cases W
 ·simp at hX;subst hX;simp [go_sem];exact b7 ae rfl
 ·by_cases c2:coins.length≤8
  ·have c2':¬ 8<(coins.length:Int):=aa;have e:X=F1 1100 coins:=by rw [← hX];simp [c2]
   rw [e];simp [go_sem,c2']
   refine j9 (fun k:Nat=>⟨[(1,.ptr 0 0 0 1),(3,.d (.int .i64 (k:Int)))],[(0,⟨59,6,[eS t n coins]⟩)],2000⟩)
    (fun k=>k≤coins.length∧F1 1100 (coins.drop k)=F1 1100 coins) (fun k=>coins.length - k) 0 ⟨aa,rfl⟩ (by
     simp [m7,c6,fv,lk,AV.low,AV.low1,eS]) ?_
   rintro k ⟨hk,ho⟩;simp only [eS];simp only [go_sem,Nat.reduceEqDiff,Nat.reduceAdd,Nat.reduceLT,↓reduceIte,Nat.reduceMul];refine ⟨fun h=>?_,fun h=>?_⟩
   ·obtain ⟨o,ho1,hd⟩:=t5 (l:=coins) (k:=k) aa;have w3:=j6 (k:=k) aa;by_cases hx:o.2.length≤1100
    ·have j1:¬ 1100<(o.2.length:Int):=aa;simp [go_sem,ho1,eO,nb,j1,w3];refine c8 (k+1) ⟨aa,Rx hd ho (by simpa using hx)⟩ aa ?_;simp [m7,c6,fv,lk,AV.low,AV.low1,eS]
    ·have j1:1100<(o.2.length:Int):=aa;have:=N9 hd ho (by simpa using hx);simp [go_sem,ho1,eO,nb,j1];exact b7 ae (by rw [show F1 1100 coins=false from this])
   ·have hkl:k=coins.length:=aa;subst hkl;have hO:F1 1100 coins=true:=Ry ho;simp [go_sem];exact b7 ae (by rw [hO])
  ·have c2':8<(coins.length:Int):=aa;have:X=false:=by rw [← hX];simp [c2]
   subst this;simp [go_sem,c2'];exact b7 ae rfl
theorem ad3 {n:Nat} {ds:List DV} (h:S9 Tryz.prog (n+1) 53 ds):∃ x:Nat,ds=[.int .u32 (x:Int)]∧x<4294967296:=by
 rw [S9] at h;simp only [Tryz.underlying53] at h;obtain ⟨x,rfl,hx⟩:=h;have hx':0≤x∧x<4294967296:=by simp [IntKind.has,IntKind.min,IntKind.max,IntKind.signed,IntKind.bits] at hx;omega
 exact ⟨x.toNat,by rw [show ((x.toNat:Nat):Int)=x by omega],aa⟩
theorem atu {n:Nat} {ds:List DV} (h:S9 Tryz.prog (n+1) 70 ds):∃ x:Nat,ds=[.int .u64 (x:Int)]∧x<18446744073709551616:=by
 rw [S9] at h;simp only [Tryz.underlying70] at h;obtain ⟨x,rfl,hx⟩:=h;have hx':0≤x∧x<18446744073709551616:=by simp [IntKind.has,IntKind.min,IntKind.max,IntKind.signed,IntKind.bits] at hx;omega
 exact ⟨x.toNat,by rw [show ((x.toNat:Nat):Int)=x by omega],aa⟩
theorem atv {n:Nat} {ds:List DV} (h:S9 Tryz.prog (n+3) 76 ds):∃ o:Nat × List Nat,ds=eO o∧o.1<18446744073709551616∧bytes o.2:=by
 rw [S9] at h;simp only [Tryz.underlying76,List.map_cons,List.map_nil] at h;obtain ⟨a,b,rfl,ha,ha2,a',b',rfl,hb,hb2,rfl⟩:=h;obtain ⟨x,rfl,hx⟩:=atu ha2;rw [show Tryz.prog.cellsOf 22=1 by kernel_rfl] at hb
 match a',hb,hb2 with
 | [y],_,hb2 =>
  obtain ⟨bs,rfl,_,h5⟩:=aav hb2;exact ⟨(x,bs),rfl,hx,h5⟩
theorem aiL {n:Nat} {ds:List DV} (h:S9 Tryz.prog (n+4) 55 ds):∃ os:List (Nat × List Nat),ds=[.ro 2 (os.map eO)]∧∀ o,o ∈ os→o.1<18446744073709551616∧bytes o.2:=by
 rw [S9] at h;simp only [Tryz.underlying55] at h;obtain ⟨es,rfl,hl,hr⟩:=h
 obtain ⟨os,rfl,hos⟩:=aal (enc:=eO) (R:=fun o=>o.1<18446744073709551616∧bytes o.2) (es:=es) (fun r hr'=>by
  obtain ⟨h1,h2⟩:=hr r hr';obtain ⟨o,rfl,h3,h4⟩:=atv h1
  exact ⟨o,rfl,h3,h4⟩)
 exact ⟨os,by rw [show Tryz.prog.cellsOf 76=2 by kernel_rfl],hos⟩
theorem awf {n:Nat} {ds:List DV} (h:S9 Tryz.prog (n+4) 139 ds):∃ i:Ip,ds=eI i∧i.ok∧bytes i.hash:=by
 rw [S9] at h;simp only [Tryz.underlying139,List.map_cons,List.map_nil] at h;obtain ⟨a,b,rfl,ha,ha2,a',b',rfl,hb,hb2,a3,b3,rfl,hc,hc2,rfl⟩:=h;rw [S9] at ha2;simp only [Tryz.underlying137,List.map_cons,List.map_nil] at ha2;obtain ⟨c,d,rfl,hc1,hc3,c',d',rfl,hd,hd2,rfl⟩:=ha2;obtain ⟨hash,rfl,h1,h2⟩:=agt hc3;obtain ⟨x,rfl,hx⟩:=ad3 hd2;obtain ⟨y,rfl,hy⟩:=ad3 hb2;rw [show Tryz.prog.cellsOf 41=1 by kernel_rfl] at hc
 match a3,hc,hc2 with
 | [z],_,hc2 =>
  obtain ⟨xs,rfl,_⟩:=ajD hc2;exact ⟨⟨hash,x,y,xs⟩,by simp [eI],⟨h1,hx,hy⟩,h2⟩
theorem atw {n:Nat} {ds:List DV} (h:S9 Tryz.prog (n+5) 54 ds):∃ is:List Ip,ds=[.ro 35 (is.map eI)]∧∀ i,i ∈ is→i.ok∧bytes i.hash:=by
 rw [S9] at h;simp only [Tryz.underlying54] at h;obtain ⟨es,rfl,hl,hr⟩:=h
 obtain ⟨os,rfl,hos⟩:=aal (enc:=eI) (R:=fun i=>i.ok∧bytes i.hash) (es:=es) (fun r hr'=>by
  obtain ⟨h1,h2⟩:=hr r hr';obtain ⟨o,rfl,h3⟩:=awf h1
  exact ⟨o,rfl,h3⟩)
 exact ⟨os,by rw [show Tryz.prog.cellsOf 139=35 by kernel_rfl],hos⟩
theorem awg {n:Nat} {ds:List DV} (h:S9 Tryz.prog (n+6) 57 ds):∃ t:Tn,ds.map .d=eT t∧t.ok∧(∀ o,o ∈ t.outs→bytes o.2)∧∀ i,i ∈ t.ins→bytes i.hash:=by
 rw [S9] at h;simp only [Tryz.underlying57,List.map_cons,List.map_nil] at h;obtain ⟨a,b,rfl,ha,ha2,a',b',rfl,hb,hb2,a3,b3,rfl,hc,hc2,a4,b4,rfl,hd,hd2,rfl⟩:=h;obtain ⟨v,rfl,hv⟩:=ad3 ha2;obtain ⟨is,rfl,his⟩:=atw hb2;obtain ⟨os,rfl,hos⟩:=aiL hc2;obtain ⟨l,rfl,hl⟩:=ad3 hd2;exact ⟨⟨v,is,os,l⟩,rfl,⟨hv,hl,fun i hi=>(his i hi).1,fun o ho=>(hos o ho).1⟩,fun o ho=>(hos o ho).2,fun i hi=>(his i hi).2⟩
end Go.Proofs.YtldccnbokbieiaaGreat
