/-
 Part 9 of what the claim rests on.
-/
import Derived.Test.YtmfnimjnneflnaaGreatY6
import Derived.Test.YtmfnimjnneflnaaGreatY7
import Derived.Laws.Externs
import Derived.Laws.MathBits
import Derived.Laws.Bits64b
set_option linter.unusedVariables false
set_option linter.unusedSimpArgs false
set_option maxRecDepth 100000
set_option maxHeartbeats 16000000
namespace Go.Proofs.YtmfnimjnneflnaaGreat
open Go.Am Go.Sha
def i31(v:Int):Prop:=-2147483648<v∧v<2147483648
structure Rn where
 main:List mh
 alt:List mh
 br:List Bool
 bud:Int
 cl:List (Int×Int)
 e:Int
structure Rx where
 h1:mh→mh
 h2:mh→mh
 /-- whether a thing is a key's signature of a message -/
 sg:mh→mh→mh→Bool
 /-- what a signature of the spending signs -/
 msg:mh
 lock:Int
 ver:Int
 seq:Int
 tpl:mh
 rcv:mh→Int→Int×Int×Int
 trg:mh→Int→Int→Int→List (Int×Int)×Int
@[go_sem] theorem OY:ek Tryz.prog 253=some [.any,.any,.any]:=by kernel_rfl
@[go_sem] theorem OZ:bg Tryz.prog 253=.arr 3 252:=by kernel_rfl
@[go_sem] theorem O0:Tryz.prog.cellsOf 252=1:=by kernel_rfl
@[go_sem] theorem O1:bg Tryz.prog 252=.scal:=by kernel_rfl
end Go.Proofs.YtmfnimjnneflnaaGreat
namespace Go.Sha
open Go.Proofs.YtmfnimjnneflnaaGreat
structure RnS where
 r:Rn
 J:List Bool
 H:Nat
end Go.Sha
namespace Go.Proofs.YtmfnimjnneflnaaGreat
open Go.Am Go.Sha
def LO(c:Int×Int):List AV:=[.d (.int .i64 c.1),.d (.int .u64 c.2)]
structure StOk(main alt:List mh):Prop where
 m:main.length≤1000
 a:alt.length≤1000
 mb:∀x,x∈main→x.length≤1000∧bytes x
 ab:∀x,x∈alt→x.length≤1000∧bytes x
theorem StOk.m1{main alt:List mh}(h:StOk main alt):∀x,x∈main→x.length≤1000000:=fun x hx=>by have:=(h.mb x hx).1;omega
theorem StOk.a1{main alt:List mh}(h:StOk main alt):∀x,x∈alt→x.length≤1000000:=fun x hx=>by have:=(h.ab x hx).1;omega
end Go.Proofs.YtmfnimjnneflnaaGreat
namespace Go.Sha
def bU(x:Int):Prop:=0≤x∧x<18446744073709551616
def Wn(n:Nat)(l:List Int):Prop:=l.length=n∧∀x,x∈l→bU x
def dj{σ:Type}(f:Nat→σ→σ)(s:σ):Nat→σ
 |0=>s
 |k+1=>f k (dj f s k)
theorem fi{σ:Type}{f:Nat→σ→σ}{s:σ}{P:Nat→σ→Prop}(h0:P 0 s)(hs:∀k s,P k s→P (k+1) (f k s)):∀k,P k (dj f s k)
 |0=>h0
 |k+1=>hs k _ (fi h0 hs k)
theorem pick{α β:Type}[Inhabited β]{A:α→Prop}{B:α→β→Prop}(h:∀x,A x→∃y,B x y):∃F:α→β,∀x,A x→B x (F x):=by
 classical
 refine⟨fun x=>if hx:A x then(h x hx).choose else default,fun x hx=>?_⟩;simp only[dif_pos hx];exact(h x hx).choose_spec
theorem nF:bU 0:=⟨aq,aq⟩
theorem D5(x:Int):bU (IntKind.u64.wrap x):=by
 have:IntKind.u64.wrap x=x%18446744073709551616:=by simp[IntKind.wrap,IntKind.bits,IntKind.signed]
 rw[this];exact⟨Int.emod_nonneg _ aq,Int.emod_lt_of_pos _ aq⟩
theorem kg{n k:Nat}{l:List Int}{x:Int}(h:Wn n l)(hx:bU x):Wn n (l.set k x):=by
 refine⟨by rw[List.length_set];exact h.1,fun y hy=>?_⟩;rcases List.mem_or_eq_of_mem_set hy with hy|rfl
 ·exact h.2 y hy
 ·exact hx
theorem Kp(n:Nat):Wn n (List.replicate n 0):=⟨aw,fun x hx=>by rw[List.eq_of_mem_replicate hx];exact nF⟩
theorem Hw{n k:Nat}{l:List Int}(h:Wn n l)(hk:k<n):∃x,l[k]?=some x∧bU x:=by
 obtain⟨h1,h2⟩:=h;refine⟨l[k]'aq,cm aq,h2 _ (List.getElem_mem _)⟩
def gI(l:List Int)(k:Nat):Int:=l.getD k 0
theorem bK{n k:Nat}{l:List Int}(h:Wn n l):bU (gI l k):=by
 unfold gI;rw[cR];by_cases hk:k<n
 ·obtain⟨x,e,hx⟩:=Hw h hk;rw[e];exact hx
 ·rw[List.getElem?_eq_none (by rw[h.1];omega)];exact nF
theorem fH{l:List Int}{k:Nat}(h:k<l.length):l[k]?=some (gI l k):=by
 unfold gI;rw[cR,cm h];rfl
end Go.Sha
namespace Go.Proofs.YtmfnimjnneflnaaGreat
open Go.Am Go.Sha
def cI(l:List Int):List AV:=l.map fun x=>AV.d (.int .u64 x)
theorem dc(l:List Int):(cI l).length=l.length:=by simp[cI]
theorem uk(l:List Int)(i:Nat):(cI l)[i]?=(l[i]?).map fun x=>AV.d (.int .u64 x):=by simp[cI]
theorem jr(l:List Int)(i:Nat)(x:Int):(cI l).set i (.d (.int .u64 x))=cI (l.set i x):=by simp[cI,List.map_set]
theorem aD(n:Nat)(l:List Int):∀v,v∈cI l→v.low1 n:=by
 intro v hv;rw[cI,List.mem_map]at hv;obtain⟨x,_,rfl⟩:=hv
 trivial
theorem eF(l:List Int):∀c,c∈cI l→c.deep1:=by
 intro c hc;rw[cI,List.mem_map]at hc;obtain⟨x,_,rfl⟩:=hc
 trivial
theorem bB(l:List Int):(AV.agg (cI l)).deep:=eF l
theorem aa{l:List Int}{n:Nat}(h:l.length=n):(cI l).take n=cI l:=cx (by rw[dc];omega)
theorem ay{l:List Int}{n:Nat}(h:l.length=n):(cI l).drop n=[]:=c_ (by rw[dc];omega)
theorem ax(a b:List Int):∀v,v∈[AV.agg (cI a),AV.agg (cI b)]→v.deep:=by
 intro v hv;simp at hv;rcases hv with rfl|rfl<;>exact bB _
theorem av(a:List Int):∀v,v∈[AV.agg (cI a)]→v.deep:=by
 intro v hv;simp at hv;subst hv;exact bB _
def zI:List Int:=[0,0,0,0]
theorem d6:Wn 4 zI:=Kp 4
theorem jM{w:World}{S:Nat→Prop}{σ:Nat→Option Nat}{hp:Hp}{U:Nat→Prop}{k:IntKind}{n:Int}{x:Value}(h:AIs w S σ hp U (.d (.int k n)) x):x=.int k n:=by
 cases h with
 |d h=>cases h;rfl
def AC:Array Value→Sem Value:=fun args=>do
 let (x, y, b) ← Extern.MathBitsCarry.three "Sub64" args
 pure (Extern.MathBitsCarry.pair ((x+Extern.MathBitsCarry.m64-y-b)%Extern.MathBitsCarry.m64) (if x<y+b then 1 else 0))
theorem um{P:Program}(x y:Int)(k:Nat)(hk:k≤1)(w:World) :
  (AC #[.int .u64 x,.int .u64 y,.int .u64 (k:Int)]).run P w =
   .ok (Extern.MathBitsCarry.pair ((x.toNat+Extern.MathBitsCarry.m64-y.toNat-k)%Extern.MathBitsCarry.m64) (if x.toNat<y.toNat+k then 1 else 0)) w:=by
 have:k=0∨k=1:=aq;rcases this with rfl|rfl<;>rfl
def C1(c:Int):Prop:=0≤c∧c≤1
theorem sw:C1 0:=⟨aq,aq⟩
theorem NB{c:Int}(h:C1 c):bU c:=⟨h.1,by have:=h.2;omega⟩
theorem vQ{w:World}{S:Nat→Prop}{σ:Nat→Option Nat}{hp:Hp}{U:Nat→Prop}{a b:Int}:AIs w S σ hp U (.tup [.d (.int .u64 a),.d (.int .u64 b)]) (.tuple #[.int .u64 a,.int .u64 b]):=by
 refine .tup _ #[.int .u64 a,.int .u64 b] rfl fun i c x hc hx=>?_
 match i with
 |0=>simp at hc hx;subst hc hx;exact .d (.int _ _)
 |1=>simp at hc hx;subst hc hx;exact .d (.int _ _)
 |n+2=>simp at hc
theorem AD(x y c:Int)(hx:bU x)(hy:bU y)(hc:C1 c):∃s d:Int,bU s∧C1 d∧s+18446744073709551616*d=x+y+c∧lW Tryz.prog 162 [.d (.int .u64 x),.d (.int .u64 y),.d (.int .u64 c)] (.tup [.d (.int .u64 s),.d (.int .u64 d)]):=by
 refine⟨(x+y+c)%18446744073709551616,(x+y+c)/18446744073709551616,⟨Int.emod_nonneg _ aq,Int.emod_lt_of_pos _ aq⟩,?_,aq,?_⟩
 ·obtain⟨h1,h2⟩:=hx;obtain⟨h3,h4⟩:=hy;obtain⟨h5,h6⟩:=hc;exact⟨aq,aq⟩
 ·intro w S σ hp U vs hl hv
  match vs,hl with
  |[a,b,e],_ =>
   have ha:=jM (hv 0 _ a rfl rfl);have hb:=jM (hv 1 _ b rfl rfl);have he:=jM (hv 2 _ e rfl rfl);subst ha hb he;refine⟨_,?_,vQ⟩;rw[run_callFunc_extern Tryz.func162 (by kernel_rfl) (by kernel_rfl) (by kernel_rfl) (e:=add64Entry) (by kernel_rfl),run_add64 x y c hx.1 hy.1 hc.1 hc.2];rfl
theorem AE(x y c:Int)(hx:bU x)(hy:bU y)(hc:C1 c):∃s d:Int,bU s∧C1 d∧s-18446744073709551616*d=x-y-c∧lW Tryz.prog 179 [.d (.int .u64 x),.d (.int .u64 y),.d (.int .u64 c)] (.tup [.d (.int .u64 s),.d (.int .u64 d)]):=by
 obtain⟨k,rfl⟩:=Int.eq_ofNat_of_zero_le hc.1;have hk:k≤1:=by have:=hc.2;omega
 refine⟨((((x.toNat+Extern.MathBitsCarry.m64-y.toNat-k)%Extern.MathBitsCarry.m64:Nat)):Int),(((if x.toNat<y.toNat+k then 1 else 0:Nat)):Int),?_,?_,?_,?_⟩
 ·have hm:(x.toNat+Extern.MathBitsCarry.m64-y.toNat-k)%Extern.MathBitsCarry.m64<Extern.MathBitsCarry.m64:=Nat.mod_lt _ (by decide);have e:Extern.MathBitsCarry.m64=18446744073709551616:=by decide
  exact⟨Int.natCast_nonneg _,by rw[e]at hm⊢;omega⟩
 ·split
  ·exact⟨aq,aq⟩
  ·exact⟨aq,aq⟩
 ·have e:Extern.MathBitsCarry.m64=18446744073709551616:=by decide
  obtain⟨h1,h2⟩:=hx;obtain⟨h3,h4⟩:=hy;rw[e]
  split<;>omega
 ·intro w S σ hp U vs hl hv
  match vs,hl with
  |[a,b,e],_ =>
   have ha:=jM (hv 0 _ a rfl rfl);have hb:=jM (hv 1 _ b rfl rfl);have he:=jM (hv 2 _ e rfl rfl);subst ha hb he;refine⟨_,?_,vQ⟩;rw[run_callFunc_extern Tryz.func179 (by kernel_rfl) (by kernel_rfl) (by kernel_rfl) (e:=AC) (by kernel_rfl),um x y k hk];rfl
theorem AG(z:Int)(h0:0≤z)(h1:z<18446744073709551616):Go.bits .and .u64 z 4294967295=z%4294967296:=by
 obtain⟨n,rfl⟩:=Int.eq_ofNat_of_zero_le h0;have h:=bits_and_u64_nat n 4294967295 aq aq;rw[nat_mask32]at h;rw[Int.natCast_emod]at h;exact h
theorem AH(x y:Int)(hx:bU x)(hy:bU y):∃s d:Int,bU s∧bU d∧d+18446744073709551616*s=x*y∧au Tryz.prog 187 [.d (.int .u64 x),.d (.int .u64 y)] (fun r=>r=.tup [.d (.int .u64 s),.d (.int .u64 d)]):=by
 have hp:0≤x*y∧x*y≤18446744073709551615*18446744073709551615:=⟨Int.mul_nonneg hx.1 hy.1,by
  have h1:=hx.2;have h2:=hy.2;have h3:=hy.1
  exact Int.mul_le_mul aq aq h3 aq⟩
 have hm:=mul64_arith x y hx.1 hx.2 hy.1 hy.2;have w:∀z,IntKind.u64.wrap z=z%18446744073709551616:=fun z=>by simp[IntKind.wrap,IntKind.bits,IntKind.signed]
 refine⟨x*y/18446744073709551616,x*y%18446744073709551616,⟨aq,aq⟩,⟨Int.emod_nonneg _ aq,Int.emod_lt_of_pos _ aq⟩,aq,?_⟩;refine bu Tryz.func187 Tryz.ntmps187 (rs:=[.tmp 4,.tmp 5]) a9 ?_;simp[go_sem,ar,IntKind.bits,w];refine ag a9 ?_;have f32:∀z:Int,Int.fdiv z 4294967296=z/4294967296:=fun z=>Int.fdiv_eq_ediv_of_nonneg _ aq;have a3:∀z:Int,Go.bits .and .u64 (z%18446744073709551616) 4294967295=z%18446744073709551616%4294967296:=fun z=>AG _ (Int.emod_nonneg _ aq) (Int.emod_lt_of_pos _ aq);simp only[f32,AG x hx.1 hx.2,AG y hy.1 hy.2,a3]
 have e:∀A B C D:Int,0≤A∧A≤18446744065119617025→0≤B∧B≤18446744065119617025→0≤C∧C≤18446744065119617025→0≤D∧D≤18446744065119617025 →
   (A+(B+C%18446744073709551616/4294967296)%18446744073709551616/4294967296+((B+C%18446744073709551616/4294967296)%18446744073709551616%4294967296+D)%18446744073709551616/4294967296)%18446744073709551616=(A*18446744073709551616+(B+D)*4294967296+C)/18446744073709551616:=by
  intro A B C D hA hB hC hD;omega
 obtain⟨x1,x0,hxx,q1,q2,q3,q4⟩:∃x1 x0:Int,x=x1*4294967296+x0∧0≤x1∧x1≤4294967295∧0≤x0∧x0≤4294967295:=⟨x/4294967296,x%4294967296,aq,by have:=hx.1;omega,by have:=hx.2;omega,aq,aq⟩;obtain⟨y1,y0,hyy,q5,q6,q7,q8⟩:∃y1 y0:Int,y=y1*4294967296+y0∧0≤y1∧y1≤4294967295∧0≤y0∧y0≤4294967295:=⟨y/4294967296,y%4294967296,aq,by have:=hy.1;omega,by have:=hy.2;omega,aq,aq⟩;have r1:x/4294967296=x1:=aq;have r2:x%4294967296=x0:=aq;have r3:y/4294967296=y1:=aq;have r4:y%4294967296=y0:=aq;rw[r1,r2,r3,r4,e _ _ _ _ (prod_bound x1 y1 q1 q2 q5 q6) (prod_bound x1 y0 q1 q2 q7 q8) (prod_bound x0 y0 q3 q4 q7 q8) (prod_bound x0 y1 q3 q4 q5 q6),←split_mul,←hxx,←hyy]
theorem qm(x:Int):IntKind.u64.wrap x=x%18446744073709551616:=by simp[IntKind.wrap,IntKind.bits,IntKind.signed]
def iw(A:Int×Int×Int→Int×Int)(a b:List Int)(k:Nat)(s:List Int×Int):List Int×Int :=
 (s.1.set k (A (gI a k,gI b k,s.2)).1,(A (gI a k,gI b k,s.2)).2)
def oH(A:Int×Int×Int→Int×Int)(M:Int×Int→Int×Int)(a:List Int)(k:Nat)(s:List Int×Int):List Int×Int :=
 (s.1.set k (A ((M (gI a k,4294968273)).2,s.2,0)).1,IntKind.u64.wrap ((M (gI a k,4294968273)).1+(A ((M (gI a k,4294968273)).2,s.2,0)).2))
def s8:List Int:=[0,0,0,0,0,0,0,0]
theorem Kq:Wn 8 s8:=Kp 8
def pl(i k:Nat):Nat:=i+k
def sx(A:Int×Int×Int→Int×Int)(M:Int×Int→Int×Int)(a b:List Int)(i k:Nat)(s:List Int×Int):List Int×Int :=
 (s.1.set (pl i k) (A ((A ((M (gI a i,gI b k)).2,gI s.1 (pl i k),0)).1,s.2,0)).1,IntKind.u64.wrap (IntKind.u64.wrap ((M (gI a i,gI b k)).1+(A ((M (gI a i,gI b k)).2,gI s.1 (pl i k),0)).2)+(A ((A ((M (gI a i,gI b k)).2,gI s.1 (pl i k),0)).1,s.2,0)).2))
def kT(A:Int×Int×Int→Int×Int)(M:Int×Int→Int×Int)(a b:List Int)(i:Nat)(p:List Int):List Int :=
 (dj (sx A M a b i) (p,0) 4).1.set (pl i 4) (dj (sx A M a b i) (p,0) 4).2
def V:List Int→Int
 |[]=>0
 |x::r=>x+18446744073709551616*V r
theorem V4(a b c d:Int):V [a,b,c,d]=a+18446744073709551616*(b+18446744073709551616*(c+18446744073709551616*d)):=by simp[V]
theorem fJ{l:List Int}(h:Wn 4 l):∃a b c d,l=[a,b,c,d]∧bU a∧bU b∧bU c∧bU d:=by
 obtain⟨h1,h2⟩:=h
 match l,h1 with
 |[a,b,c,d],_=>exact⟨a,b,c,d,rfl,h2 a aw,h2 b aw,h2 c aw,h2 d aw⟩
theorem cJ{l:List Int}(h:Wn 4 l):0≤V l∧V l<115792089237316195423570985008687907853269984665640564039457584007913129639936:=by
 obtain⟨a,b,c,d,rfl,ha,hb,hc,hd⟩:=fJ h;rw[V4];unfold bU at *;omega
theorem sy{l m:List Int}(h:Wn 4 l)(h':Wn 4 m)(e:V l=V m):l=m:=by
 obtain⟨a,b,c,d,rfl,ha,hb,hc,hd⟩:=fJ h;obtain⟨a',b',c',d',rfl,ha',hb',hc',hd'⟩:=fJ h';rw[V4,V4]at e;unfold bU at *;have e1:a=a':=aq;have e2:b=b':=aq;have e3:c=c':=aq;have e4:d=d':=aq;rw[e1,e2,e3,e4]
def ya(A:Int×Int×Int→Int×Int):Prop:=∀x,bU x.1∧bU x.2.1∧C1 x.2.2→bU (A x).1∧C1 (A x).2∧(A x).1+18446744073709551616*(A x).2=x.1+x.2.1+x.2.2
def Kr(A:Int×Int×Int→Int×Int):Prop:=∀x,bU x.1∧bU x.2.1∧C1 x.2.2→bU (A x).1∧C1 (A x).2∧(A x).1-18446744073709551616*(A x).2=x.1-x.2.1-x.2.2
def AI(M:Int×Int→Int×Int):Prop:=∀x,bU x.1∧bU x.2→bU (M x).1∧bU (M x).2∧(M x).2+18446744073709551616*(M x).1=x.1*x.2
theorem NC{A:Int×Int×Int→Int×Int}(hA:ya A){a b:List Int}(ha:Wn 4 a)(hb:Wn 4 b) :
  V (dj (iw A a b) (zI,0) 4).1+115792089237316195423570985008687907853269984665640564039457584007913129639936*(dj (iw A a b) (zI,0) 4).2=V a+V b:=by
 obtain⟨a0,a1,a2,a3,rfl,ha0,ha1,ha2,ha3⟩:=fJ ha;obtain⟨b0,b1,b2,b3,rfl,hb0,hb1,hb2,hb3⟩:=fJ hb;have c0:C1 0:=⟨aq,aq⟩;have s0:=hA (a0,b0,0) ⟨ha0,hb0,c0⟩;have s1:=hA (a1,b1,(A (a0,b0,0)).2) ⟨ha1,hb1,s0.2.1⟩;have s2:=hA (a2,b2,(A (a1,b1,(A (a0,b0,0)).2)).2) ⟨ha2,hb2,s1.2.1⟩;have s3:=hA (a3,b3,(A (a2,b2,(A (a1,b1,(A (a0,b0,0)).2)).2)).2) ⟨ha3,hb3,s2.2.1⟩;have e:dj (iw A [a0,a1,a2,a3] [b0,b1,b2,b3]) (zI,0) 4=([(A (a0,b0,0)).1,(A (a1,b1,(A (a0,b0,0)).2)).1,(A (a2,b2,(A (a1,b1,(A (a0,b0,0)).2)).2)).1,(A (a3,b3,(A (a2,b2,(A (a1,b1,(A (a0,b0,0)).2)).2)).2)).1],(A (a3,b3,(A (a2,b2,(A (a1,b1,(A (a0,b0,0)).2)).2)).2)).2):=rfl;rw[e,V4,V4,V4];generalize A (a3,b3,(A (a2,b2,(A (a1,b1,(A (a0,b0,0)).2)).2)).2)=q3 at *;generalize A (a2,b2,(A (a1,b1,(A (a0,b0,0)).2)).2)=q2 at *;generalize A (a1,b1,(A (a0,b0,0)).2)=q1 at *;generalize A (a0,b0,0)=q0 at *;obtain⟨_,_,e0⟩:=s0;obtain⟨_,_,e1⟩:=s1;obtain⟨_,_,e2⟩:=s2;obtain⟨_,_,e3⟩:=s3;dsimp only at *;omega
theorem ND{A:Int×Int×Int→Int×Int}(hA:Kr A){a b:List Int}(ha:Wn 4 a)(hb:Wn 4 b) :
  V (dj (iw A a b) (zI,0) 4).1-115792089237316195423570985008687907853269984665640564039457584007913129639936*(dj (iw A a b) (zI,0) 4).2=V a-V b:=by
 obtain⟨a0,a1,a2,a3,rfl,ha0,ha1,ha2,ha3⟩:=fJ ha;obtain⟨b0,b1,b2,b3,rfl,hb0,hb1,hb2,hb3⟩:=fJ hb;have c0:C1 0:=⟨aq,aq⟩;have s0:=hA (a0,b0,0) ⟨ha0,hb0,c0⟩;have s1:=hA (a1,b1,(A (a0,b0,0)).2) ⟨ha1,hb1,s0.2.1⟩;have s2:=hA (a2,b2,(A (a1,b1,(A (a0,b0,0)).2)).2) ⟨ha2,hb2,s1.2.1⟩;have s3:=hA (a3,b3,(A (a2,b2,(A (a1,b1,(A (a0,b0,0)).2)).2)).2) ⟨ha3,hb3,s2.2.1⟩;have e:dj (iw A [a0,a1,a2,a3] [b0,b1,b2,b3]) (zI,0) 4=([(A (a0,b0,0)).1,(A (a1,b1,(A (a0,b0,0)).2)).1,(A (a2,b2,(A (a1,b1,(A (a0,b0,0)).2)).2)).1,(A (a3,b3,(A (a2,b2,(A (a1,b1,(A (a0,b0,0)).2)).2)).2)).1],(A (a3,b3,(A (a2,b2,(A (a1,b1,(A (a0,b0,0)).2)).2)).2)).2):=rfl;rw[e,V4,V4,V4];generalize A (a3,b3,(A (a2,b2,(A (a1,b1,(A (a0,b0,0)).2)).2)).2)=q3 at *;generalize A (a2,b2,(A (a1,b1,(A (a0,b0,0)).2)).2)=q2 at *;generalize A (a1,b1,(A (a0,b0,0)).2)=q1 at *;generalize A (a0,b0,0)=q0 at *;obtain⟨_,_,e0⟩:=s0;obtain⟨_,_,e1⟩:=s1;obtain⟨_,_,e2⟩:=s2;obtain⟨_,_,e3⟩:=s3;dsimp only at *;omega
theorem vR{A:Int×Int×Int→Int×Int}{M:Int×Int→Int×Int}(hA:ya A)(hM:AI M){x y p c:Int}(hx:bU x)(hy:bU y)(hp:bU p)(hc:bU c) :
  bU (A ((A ((M (x,y)).2,p,0)).1,c,0)).1∧bU (IntKind.u64.wrap (IntKind.u64.wrap ((M (x,y)).1+(A ((M (x,y)).2,p,0)).2)+(A ((A ((M (x,y)).2,p,0)).1,c,0)).2)) ∧
  (A ((A ((M (x,y)).2,p,0)).1,c,0)).1+18446744073709551616*IntKind.u64.wrap (IntKind.u64.wrap ((M (x,y)).1+(A ((M (x,y)).2,p,0)).2)+(A ((A ((M (x,y)).2,p,0)).1,c,0)).2)=x*y+p+c:=by
 have c0:C1 0:=⟨aq,aq⟩;obtain⟨m1,m2,m3⟩:=hM (x,y) ⟨hx,hy⟩;generalize M (x,y)=m at *;obtain⟨n1,n2,n3⟩:=hA (m.2,p,0) ⟨m2,hp,c0⟩;generalize A (m.2,p,0)=q at *;obtain⟨k1,k2,k3⟩:=hA (q.1,c,0) ⟨n1,hc,c0⟩;generalize A (q.1,c,0)=r at *
 have hxy:x*y≤18446744073709551615*18446744073709551615:=by
  unfold bU at hx hy;exact Int.mul_le_mul aq aq aq aq
 dsimp only at *;simp only[qm]at *;unfold bU C1 at *;generalize x*y=z at *;refine⟨k1,⟨aq,aq⟩,aq⟩
theorem py{l:List Int}{i j:Nat}{x:Int}(h:i≠j):gI (l.set i x) j=gI l j:=by
 unfold gI;rw[cR,cR,List.getElem?_set_ne h]
theorem sA{n:Nat}{l:List Int}(h:Wn n l)(k:Nat):bU (gI l k):=by
 unfold gI;rw[cR]
 cases e:l[k]? with
 |none=>exact⟨aw,aw⟩
 |some x=>exact h.2 x (cr e)
theorem D6{A:Int×Int×Int→Int×Int}{M:Int×Int→Int×Int}(hA:ya A)(hM:AI M){a b p:List Int}(ha:Wn 4 a)(hb:Wn 4 b)(hp:Wn 8 p)(i:Nat) :
  ∃r0 r1 r2 r3 c,bU r0∧bU r1∧bU r2∧bU r3∧bU c ∧
   r0+18446744073709551616*(r1+18446744073709551616*(r2+18446744073709551616*(r3+18446744073709551616*c)))=gI a i*V b+(gI p i+18446744073709551616*(gI p (i+1)+18446744073709551616*(gI p (i+2)+18446744073709551616*gI p (i+3)))) ∧
   kT A M a b i p=((((p.set i r0).set (i+1) r1).set (i+2) r2).set (i+3) r3).set (i+4) c:=by
 obtain⟨b0,b1,b2,b3,rfl,hb0,hb1,hb2,hb3⟩:=fJ hb;have hx:=sA ha i;generalize hxe:gI a i=x at *;have z:bU 0:=⟨aq,aq⟩;obtain⟨s1,s2,s3⟩:=vR hA hM hx hb0 (sA hp i) z;obtain⟨t1,t2,t3⟩:=vR hA hM hx hb1 (sA hp (i+1)) s2;obtain⟨u1,u2,u3⟩:=vR hA hM hx hb2 (sA hp (i+2)) t2;obtain⟨v1,v2,v3⟩:=vR hA hM hx hb3 (sA hp (i+3)) u2;refine⟨_,_,_,_,_,s1,t1,u1,v1,v2,?_,?_⟩
 ·have hm:∀u v:Int,x*(u+18446744073709551616*v)=x*u+18446744073709551616*(x*v):=fun u v=>by rw[Int.mul_add,Int.mul_left_comm]
  rw[V4,hm,hm,hm];revert s3 t3 u3 v3;generalize gI p i=p0;generalize gI p (i+1)=p1;generalize gI p (i+2)=p2;generalize gI p (i+3)=p3;generalize x*b0=y0;generalize x*b1=y1;generalize x*b2=y2;generalize x*b3=y3;intro s3 t3 u3 v3;omega
 ·have n1:∀(l:List Int)(y:Int),gI (l.set i y) (i+1)=gI l (i+1):=fun l y=>py aq;have n2:∀(l:List Int)(y:Int),gI (l.set i y) (i+2)=gI l (i+2):=fun l y=>py aq;have n3:∀(l:List Int)(y:Int),gI (l.set i y) (i+3)=gI l (i+3):=fun l y=>py aq;have n4:∀(l:List Int)(y:Int),gI (l.set (i+1) y) (i+2)=gI l (i+2):=fun l y=>py aq;have n5:∀(l:List Int)(y:Int),gI (l.set (i+1) y) (i+3)=gI l (i+3):=fun l y=>py aq;have n6:∀(l:List Int)(y:Int),gI (l.set (i+2) y) (i+3)=gI l (i+3):=fun l y=>py aq;have g0:gI [b0,b1,b2,b3] 0=b0:=rfl;have g1:gI [b0,b1,b2,b3] 1=b1:=rfl;have g2:gI [b0,b1,b2,b3] 2=b2:=rfl;have g3:gI [b0,b1,b2,b3] 3=b3:=rfl;simp only[kT,dj,sx,pl,hxe,g0,g1,g2,g3,n1,n2,n3,n4,n5,n6,Nat.add_zero]
theorem AK{A:Int×Int×Int→Int×Int}{M:Int×Int→Int×Int}(hA:ya A)(hM:AI M){a b:List Int}(ha:Wn 4 a)(hb:Wn 4 b) :
  Wn 8 (dj (kT A M a b) s8 4)∧V (dj (kT A M a b) s8 4)=V a*V b:=by
 obtain⟨a0,a1,a2,a3,rfl,ha0,ha1,ha2,ha3⟩:=fJ ha;have z:bU 0:=⟨aq,aq⟩;have w0:Wn 8 s8:=⟨rfl,fun x hx=>by simp[s8]at hx;subst hx;exact z⟩;obtain⟨r0,r1,r2,r3,c0,hr0,hr1,hr2,hr3,hc0,e0,f0⟩:=D6 hA hM ha hb w0 0;have f0':kT A M [a0,a1,a2,a3] b 0 s8=[r0,r1,r2,r3,c0,0,0,0]:=f0;have w1:Wn 8 [r0,r1,r2,r3,c0,0,0,0]:=⟨rfl,fun x hx=>by simp at hx;rcases hx with rfl|rfl|rfl|rfl|rfl|rfl<;>assumption⟩;obtain⟨s0,s1,s2,s3,c1,hs0,hs1,hs2,hs3,hc1,e1,f1⟩:=D6 hA hM ha hb w1 1;have f1':kT A M [a0,a1,a2,a3] b 1 [r0,r1,r2,r3,c0,0,0,0]=[r0,s0,s1,s2,s3,c1,0,0]:=f1;have w2:Wn 8 [r0,s0,s1,s2,s3,c1,0,0]:=⟨rfl,fun x hx=>by simp at hx;rcases hx with rfl|rfl|rfl|rfl|rfl|rfl|rfl<;>assumption⟩;obtain⟨t0,t1,t2,t3,c2,ht0,ht1,ht2,ht3,hc2,e2,f2⟩:=D6 hA hM ha hb w2 2;have f2':kT A M [a0,a1,a2,a3] b 2 [r0,s0,s1,s2,s3,c1,0,0]=[r0,s0,t0,t1,t2,t3,c2,0]:=f2;have w3:Wn 8 [r0,s0,t0,t1,t2,t3,c2,0]:=⟨rfl,fun x hx=>by simp at hx;rcases hx with rfl|rfl|rfl|rfl|rfl|rfl|rfl|rfl<;>assumption⟩;obtain⟨u0,u1,u2,u3,c3,hu0,hu1,hu2,hu3,hc3,e3,f3⟩:=D6 hA hM ha hb w3 3;have f3':kT A M [a0,a1,a2,a3] b 3 [r0,s0,t0,t1,t2,t3,c2,0]=[r0,s0,t0,u0,u1,u2,u3,c3]:=f3
 have e:dj (kT A M [a0,a1,a2,a3] b) s8 4=[r0,s0,t0,u0,u1,u2,u3,c3]:=by
  simp only[dj];rw[f0',f1',f2',f3']
 rw[e];refine⟨⟨rfl,fun x hx=>by simp at hx;rcases hx with rfl|rfl|rfl|rfl|rfl|rfl|rfl|rfl<;>assumption⟩,?_⟩
 have k:V [a0,a1,a2,a3]*V b=a0*V b+18446744073709551616*(a1*V b+18446744073709551616*(a2*V b+18446744073709551616*(a3*V b))):=by
  rw[V4,Int.add_mul,Int.mul_assoc,Int.add_mul,Int.mul_assoc,Int.add_mul,Int.mul_assoc]
 have k2:V [r0,s0,t0,u0,u1,u2,u3,c3]=r0+18446744073709551616*(s0+18446744073709551616*(t0+18446744073709551616*(u0+18446744073709551616*(u1+18446744073709551616*(u2+18446744073709551616*(u3+18446744073709551616*c3)))))):=by simp[V]
 rw[k,k2];have g0:gI [a0,a1,a2,a3] 0*V b+(0+18446744073709551616*(0+18446744073709551616*(0+18446744073709551616*0)))=a0*V b:=by show a0*V b+_=_;omega
 have e0':r0+18446744073709551616*(r1+18446744073709551616*(r2+18446744073709551616*(r3+18446744073709551616*c0)))=a0*V b:=e0.trans g0;have e1':s0+18446744073709551616*(s1+18446744073709551616*(s2+18446744073709551616*(s3+18446744073709551616*c1)))=a1*V b+(r1+18446744073709551616*(r2+18446744073709551616*(r3+18446744073709551616*c0))):=e1;have e2':t0+18446744073709551616*(t1+18446744073709551616*(t2+18446744073709551616*(t3+18446744073709551616*c2)))=a2*V b+(s1+18446744073709551616*(s2+18446744073709551616*(s3+18446744073709551616*c1))):=e2;have e3':u0+18446744073709551616*(u1+18446744073709551616*(u2+18446744073709551616*(u3+18446744073709551616*c3)))=a3*V b+(t1+18446744073709551616*(t2+18446744073709551616*(t3+18446744073709551616*c2))):=e3;generalize a0*V b=y0 at *;generalize a1*V b=y1 at *;generalize a2*V b=y2 at *;generalize a3*V b=y3 at *;omega
theorem D7{A:Int×Int×Int→Int×Int}{M:Int×Int→Int×Int}(hA:ya A)(hM:AI M){a:List Int}(ha:Wn 4 a) :
  V (dj (oH A M a) (zI,0) 4).1+115792089237316195423570985008687907853269984665640564039457584007913129639936*(dj (oH A M a) (zI,0) 4).2=V a*4294968273:=by
 obtain⟨a0,a1,a2,a3,rfl,ha0,ha1,ha2,ha3⟩:=fJ ha;have z:bU 0:=⟨aq,aq⟩;have c0:C1 0:=⟨aq,aq⟩;have ov:bU 4294968273:=⟨aq,aq⟩
 have one:∀x c:Int,bU x→bU c→bU (A ((M (x,4294968273)).2,c,0)).1∧bU (IntKind.u64.wrap ((M (x,4294968273)).1+(A ((M (x,4294968273)).2,c,0)).2)) ∧
   (A ((M (x,4294968273)).2,c,0)).1+18446744073709551616*IntKind.u64.wrap ((M (x,4294968273)).1+(A ((M (x,4294968273)).2,c,0)).2)=x*4294968273+c:=by
  intro x c hx hc;obtain⟨m1,m2,m3⟩:=hM (x,4294968273) ⟨hx,ov⟩;generalize M (x,4294968273)=m at *;obtain⟨n1,n2,n3⟩:=hA (m.2,c,0) ⟨m2,hc,c0⟩;generalize A (m.2,c,0)=q at *;dsimp only at *;simp only[qm]at *;unfold bU C1 at *;refine⟨n1,⟨aq,aq⟩,aq⟩
 obtain⟨s1,s2,s3⟩:=one a0 0 ha0 z;obtain⟨t1,t2,t3⟩:=one a1 _ ha1 s2;obtain⟨u1,u2,u3⟩:=one a2 _ ha2 t2;obtain⟨v1,v2,v3⟩:=one a3 _ ha3 u2;have g0:gI [a0,a1,a2,a3] 0=a0:=rfl;have g1:gI [a0,a1,a2,a3] 1=a1:=rfl;have g2:gI [a0,a1,a2,a3] 2=a2:=rfl;have g3:gI [a0,a1,a2,a3] 3=a3:=rfl;have e:∀p q r s:Int,List.set (List.set (List.set (List.set zI 0 p) 1 q) 2 r) 3 s=[p,q,r,s]:=fun _ _ _ _=>rfl;simp only[dj,oH,g0,g1,g2,g3,e,V4];omega
theorem NE:ek Tryz.prog 96=some (cI zI):=by kernel_rfl
attribute [go_sem] NE
theorem Hy:zI.length=4:=rfl
attribute [go_sem] Hy dc uk
theorem qn{Q:AV→Prop}{st:St}{a:List Int}{b:Int}(hq:Q (.tup [.agg (cI a),.d (.int .u64 b)])):eH Q (.tup [.agg (cI a),.d (.int .u64 b)]) st :=
 ag (by
  intro c hc;simp at hc;rcases hc with rfl|rfl
  ·exact .inr ⟨_,rfl,eF _⟩
  ·exact .inl trivial) hq
theorem Hz:∃A:Int×Int×Int→Int×Int,ya A∧∀x,(bU x.1∧bU x.2.1∧C1 x.2.2)→bU (A x).1∧C1 (A x).2∧lW Tryz.prog 162 [.d (.int .u64 x.1),.d (.int .u64 x.2.1),.d (.int .u64 x.2.2)] (.tup [.d (.int .u64 (A x).1),.d (.int .u64 (A x).2)]):=by
 obtain⟨A,hA⟩:=pick (α:=Int×Int×Int) (β:=Int×Int) (A:=fun x=>bU x.1∧bU x.2.1∧C1 x.2.2) (B:=fun x y=>bU y.1∧C1 y.2∧y.1+18446744073709551616*y.2=x.1+x.2.1+x.2.2∧lW Tryz.prog 162 [.d (.int .u64 x.1),.d (.int .u64 x.2.1),.d (.int .u64 x.2.2)] (.tup [.d (.int .u64 y.1),.d (.int .u64 y.2)])) (fun x hx=>by
  obtain⟨s,d,h1,h2,h3,h4⟩:=AD x.1 x.2.1 x.2.2 hx.1 hx.2.1 hx.2.2
  exact⟨(s,d),h1,h2,h3,h4⟩)
 exact⟨A,fun x hx=>⟨(hA x hx).1,(hA x hx).2.1,(hA x hx).2.2.1⟩,fun x hx=>⟨(hA x hx).1,(hA x hx).2.1,(hA x hx).2.2.2⟩⟩
theorem NF:∃A:Int×Int×Int→Int×Int,Kr A∧∀x,(bU x.1∧bU x.2.1∧C1 x.2.2)→bU (A x).1∧C1 (A x).2∧lW Tryz.prog 179 [.d (.int .u64 x.1),.d (.int .u64 x.2.1),.d (.int .u64 x.2.2)] (.tup [.d (.int .u64 (A x).1),.d (.int .u64 (A x).2)]):=by
 obtain⟨A,hA⟩:=pick (α:=Int×Int×Int) (β:=Int×Int) (A:=fun x=>bU x.1∧bU x.2.1∧C1 x.2.2) (B:=fun x y=>bU y.1∧C1 y.2∧y.1-18446744073709551616*y.2=x.1-x.2.1-x.2.2∧lW Tryz.prog 179 [.d (.int .u64 x.1),.d (.int .u64 x.2.1),.d (.int .u64 x.2.2)] (.tup [.d (.int .u64 y.1),.d (.int .u64 y.2)])) (fun x hx=>by
  obtain⟨s,d,h1,h2,h3,h4⟩:=AE x.1 x.2.1 x.2.2 hx.1 hx.2.1 hx.2.2
  exact⟨(s,d),h1,h2,h3,h4⟩)
 exact⟨A,fun x hx=>⟨(hA x hx).1,(hA x hx).2.1,(hA x hx).2.2.1⟩,fun x hx=>⟨(hA x hx).1,(hA x hx).2.1,(hA x hx).2.2.2⟩⟩
theorem Ks:∃M:Int×Int→Int×Int,∀x,bU (M x).1∧bU (M x).2∧(bU x.1∧bU x.2→(M x).2+18446744073709551616*(M x).1=x.1*x.2∧au Tryz.prog 187 [.d (.int .u64 x.1),.d (.int .u64 x.2)] (fun r=>r=.tup [.d (.int .u64 (M x).1),.d (.int .u64 (M x).2)])):=by
 obtain⟨M,hM⟩:=pick (α:=Int×Int) (β:=Int×Int) (A:=fun _=>True) (B:=fun x y=>bU y.1∧bU y.2∧(bU x.1∧bU x.2→y.2+18446744073709551616*y.1=x.1*x.2∧au Tryz.prog 187 [.d (.int .u64 x.1),.d (.int .u64 x.2)] (fun r=>r=.tup [.d (.int .u64 y.1),.d (.int .u64 y.2)]))) (fun x _=>by
  by_cases hx:bU x.1∧bU x.2
  ·obtain⟨s,d,h1,h2,h3,h4⟩:=AH x.1 x.2 hx.1 hx.2;exact⟨(s,d),h1,h2,fun _=>⟨h3,h4⟩⟩
  ·exact⟨(0,0),nF,nF,fun h=>absurd h hx⟩)
 exact⟨M,fun x=>hM x trivial⟩
theorem vT{M:Int×Int→Int×Int}{C:Int×Int→Prop}(hM:∀x,bU (M x).1∧bU (M x).2∧(bU x.1∧bU x.2→(M x).2+18446744073709551616*(M x).1=x.1*x.2∧C x)):AI M :=
 fun x hx=>⟨(hM x).1,(hM x).2.1,((hM x).2.2 hx).1⟩
theorem fj(a b:List Int)(ha:Wn 4 a)(hb:Wn 4 b):∃(s:List Int)(c:Int),Wn 4 s∧C1 c∧V s+115792089237316195423570985008687907853269984665640564039457584007913129639936*c=V a+V b∧au Tryz.prog 131 [.agg (cI a),.agg (cI b)] (fun r=>r=.tup [.agg (cI s),.d (.int .u64 c)]):=by
 obtain⟨A,hAV,hA⟩:=Hz
 have hS:∀k,Wn 4 (dj (iw A a b) (zI,0) k).1∧C1 (dj (iw A a b) (zI,0) k).2:=fi (P:=fun _(s:List Int×Int)=>Wn 4 s.1∧C1 s.2) ⟨d6,sw⟩ fun k s hs=>by
  obtain⟨h1,h2,_⟩:=hA (gI a k,gI b k,s.2) ⟨bK ha,bK hb,hs.2⟩;exact⟨kg hs.1 h1,h2⟩
 refine⟨(dj (iw A a b) (zI,0) 4).1,(dj (iw A a b) (zI,0) 4).2,(hS 4).1,(hS 4).2,NC hAV ha hb,?_⟩;refine bu Tryz.func131 Tryz.ntmps131 (rs:=[.cell 4 96,.tmp 5]) (ax a b) ?_;have hal:=ha.1;have hbl:=hb.1;simp[go_sem,hal,hbl,aa hal,aa hbl];generalize hSS:dj (iw A a b) (zI,0)=S at *
 refine am (fun k:Nat=>⟨[(2,.ptr 0 0 0 1),(3,.ptr 32 0 0 1),(4,.ptr 64 0 0 1),(6,.ptr 128 0 0 1),(7,.d (.int .u64 (S k).2)),(9,.d (.int .i64 (k:Int)))],[(128,⟨96,4,[cI (S k).1]⟩),(64,⟨96,4,[cI zI]⟩),(32,⟨96,4,[cI b]⟩),(0,⟨96,4,[cI a]⟩)],1000⟩)
  (fun k=>k≤4) (fun k=>4-k) 0 aq (by
   rw[←hSS];simp[ak,ah,fv,lk,AV.low,AV.low1,dj]
   and_intros<;>first|rfl|exact aD _ _) ?_
 intro k hk;obtain⟨hs1,hs2⟩:=hS k;have hsl:=hs1.1;have w3:=al (k:=k) aq;simp only[go_sem,Nat.reduceEqDiff,Nat.reduceAdd,Nat.reduceLT,↓reduceIte];by_cases h4:k<4
 ·refine⟨fun h=>?_,fun h=>absurd (by exact_mod_cast h4) h⟩;have hka:=fH (l:=a) (k:=k) aq;have hkb:=fH (l:=b) (k:=k) aq;have hsn:S (k+1)=iw A a b k (S k):=by rw[←hSS];rfl
  obtain⟨h1,h2,h3⟩:=hA (gI a k,gI b k,(S k).2) ⟨bK ha,bK hb,hs2⟩;simp only[iw]at hsn;generalize A (gI a k,gI b k,(S k).2)=y at *;have hk4:(k:Int)<4:=aq;refine c7 [0,1,2,3,4,5,6,7] [8,11,13,14] [0,1,2,3,4,5,6,7,9,10,12] (.step 8 [9,10,12] true (.alt (bt 11 (a_ [13,14])) (a_ [13,11,14]))) ⟨[(2,.ptr 0 0 0 1),(3,.ptr 32 0 0 1),(4,.ptr 64 0 0 1),(6,.ptr 128 0 0 1),(7,.d (.int .u64 y.2)),(9,.d (.int .i64 (k:Int)))],[(128,⟨96,4,[cI ((S k).1.set k y.1)]⟩),(64,⟨96,4,[cI zI]⟩),(32,⟨96,4,[cI b]⟩),(0,⟨96,4,[cI a]⟩)],9000⟩ (k:=15) ?h3 ?hq
  case h3 =>
   intro G hG
   have hW:∀fr:Fr,(fv 2 fr=.ptr 0 0 0 1∧fv 3 fr=.ptr 32 0 0 1∧fv 4 fr=.ptr 64 0 0 1∧fv 6 fr=.ptr 128 0 0 1∧fv 7 fr=.d (.int .u64 y.2)∧fv 9 fr=.d (.int .i64 (k:Int)))→G fr [(128,⟨96,4,[cI ((S k).1.set k y.1)]⟩),(64,⟨96,4,[cI zI]⟩),(32,⟨96,4,[cI b]⟩),(0,⟨96,4,[cI a]⟩)]:=by
    rintro fr⟨e2,e3,e4,e6,e7,e9⟩;exact hG _ _ oy
   simp[go_sem,hka,hkb,hal,hbl,hsl,b7,hk4];refine na h3 ?_;simp[go_sem,hka,hkb,hal,hbl,hsl,jr,b7,hk4];and_intros<;>first|exact h4|exact hW _ ⟨rfl,rfl,rfl,rfl,rfl,rfl⟩|(refine hW _ ?_;simp[fv,lk])
  case hq =>
   simp[go_sem,w3];refine aj (k+1) aq aq ?_;rw[hsn];simp[ak,ah,fv,lk,AV.low,AV.low1];and_intros<;>exact aD _ _
 ·refine⟨fun h=>absurd (by exact_mod_cast h) h4,fun h=>?_⟩;have hk4:k=4:=aq;subst hk4;simp[go_sem,hsl,aa hsl,ay (l:=zI) (n:=4) rfl,ar];exact qn rfl
theorem jN(a b:List Int)(ha:Wn 4 a)(hb:Wn 4 b):∃(s:List Int)(c:Int),Wn 4 s∧C1 c∧V s-115792089237316195423570985008687907853269984665640564039457584007913129639936*c=V a-V b∧au Tryz.prog 157 [.agg (cI a),.agg (cI b)] (fun r=>r=.tup [.agg (cI s),.d (.int .u64 c)]):=by
 obtain⟨A,hAV,hA⟩:=NF
 have hS:∀k,Wn 4 (dj (iw A a b) (zI,0) k).1∧C1 (dj (iw A a b) (zI,0) k).2:=fi (P:=fun _(s:List Int×Int)=>Wn 4 s.1∧C1 s.2) ⟨d6,sw⟩ fun k s hs=>by
  obtain⟨h1,h2,_⟩:=hA (gI a k,gI b k,s.2) ⟨bK ha,bK hb,hs.2⟩;exact⟨kg hs.1 h1,h2⟩
 refine⟨(dj (iw A a b) (zI,0) 4).1,(dj (iw A a b) (zI,0) 4).2,(hS 4).1,(hS 4).2,ND hAV ha hb,?_⟩;refine bu Tryz.func157 Tryz.ntmps157 (rs:=[.cell 4 96,.tmp 5]) (ax a b) ?_;have hal:=ha.1;have hbl:=hb.1;simp[go_sem,hal,hbl,aa hal,aa hbl];generalize hSS:dj (iw A a b) (zI,0)=S at *
 refine am (fun k:Nat=>⟨[(2,.ptr 0 0 0 1),(3,.ptr 32 0 0 1),(4,.ptr 64 0 0 1),(6,.ptr 128 0 0 1),(7,.d (.int .u64 (S k).2)),(9,.d (.int .i64 (k:Int)))],[(128,⟨96,4,[cI (S k).1]⟩),(64,⟨96,4,[cI zI]⟩),(32,⟨96,4,[cI b]⟩),(0,⟨96,4,[cI a]⟩)],1000⟩)
  (fun k=>k≤4) (fun k=>4-k) 0 aq (by
   rw[←hSS];simp[ak,ah,fv,lk,AV.low,AV.low1,dj]
   and_intros<;>first|rfl|exact aD _ _) ?_
 intro k hk;obtain⟨hs1,hs2⟩:=hS k;have hsl:=hs1.1;have w3:=al (k:=k) aq;simp only[go_sem,Nat.reduceEqDiff,Nat.reduceAdd,Nat.reduceLT,↓reduceIte];by_cases h4:k<4
 ·refine⟨fun h=>?_,fun h=>absurd (by exact_mod_cast h4) h⟩;have hka:=fH (l:=a) (k:=k) aq;have hkb:=fH (l:=b) (k:=k) aq;have hsn:S (k+1)=iw A a b k (S k):=by rw[←hSS];rfl
  obtain⟨h1,h2,h3⟩:=hA (gI a k,gI b k,(S k).2) ⟨bK ha,bK hb,hs2⟩;simp only[iw]at hsn;generalize A (gI a k,gI b k,(S k).2)=y at *;have hk4:(k:Int)<4:=aq;refine c7 [0,1,2,3,4,5,6,7] [8,11,13,14] [0,1,2,3,4,5,6,7,9,10,12] (.step 8 [9,10,12] true (.alt (bt 11 (a_ [13,14])) (a_ [13,11,14]))) ⟨[(2,.ptr 0 0 0 1),(3,.ptr 32 0 0 1),(4,.ptr 64 0 0 1),(6,.ptr 128 0 0 1),(7,.d (.int .u64 y.2)),(9,.d (.int .i64 (k:Int)))],[(128,⟨96,4,[cI ((S k).1.set k y.1)]⟩),(64,⟨96,4,[cI zI]⟩),(32,⟨96,4,[cI b]⟩),(0,⟨96,4,[cI a]⟩)],9000⟩ (k:=15) ?h3 ?hq
  case h3 =>
   intro G hG
   have hW:∀fr:Fr,(fv 2 fr=.ptr 0 0 0 1∧fv 3 fr=.ptr 32 0 0 1∧fv 4 fr=.ptr 64 0 0 1∧fv 6 fr=.ptr 128 0 0 1∧fv 7 fr=.d (.int .u64 y.2)∧fv 9 fr=.d (.int .i64 (k:Int)))→G fr [(128,⟨96,4,[cI ((S k).1.set k y.1)]⟩),(64,⟨96,4,[cI zI]⟩),(32,⟨96,4,[cI b]⟩),(0,⟨96,4,[cI a]⟩)]:=by
    rintro fr⟨e2,e3,e4,e6,e7,e9⟩;exact hG _ _ oy
   simp[go_sem,hka,hkb,hal,hbl,hsl,b7,hk4];refine na h3 ?_;simp[go_sem,hka,hkb,hal,hbl,hsl,jr,b7,hk4];and_intros<;>first|exact h4|exact hW _ ⟨rfl,rfl,rfl,rfl,rfl,rfl⟩|(refine hW _ ?_;simp[fv,lk])
  case hq =>
   simp[go_sem,w3];refine aj (k+1) aq aq ?_;rw[hsn];simp[ak,ah,fv,lk,AV.low,AV.low1];and_intros<;>exact aD _ _
 ·refine⟨fun h=>absurd (by exact_mod_cast h) h4,fun h=>?_⟩;have hk4:k=4:=aq;subst hk4;simp[go_sem,hsl,aa hsl,ay (l:=zI) (n:=4) rfl,ar];exact qn rfl
theorem Fv(x y:Int):∀v,v∈[AV.d (.int .u64 x),AV.d (.int .u64 y)]→v.deep:=by
 intro v hv;simp at hv;rcases hv with rfl|rfl<;>trivial
theorem pz(a:List Int)(ha:Wn 4 a):∃(s:List Int)(c:Int),Wn 4 s∧bU c∧V s+115792089237316195423570985008687907853269984665640564039457584007913129639936*c=V a*4294968273∧au Tryz.prog 238 [.agg (cI a)] (fun r=>r=.tup [.agg (cI s),.d (.int .u64 c)]):=by
 obtain⟨A,hAV,hA⟩:=Hz;obtain⟨M,hM⟩:=Ks
 have hS:∀k,Wn 4 (dj (oH A M a) (zI,0) k).1∧bU (dj (oH A M a) (zI,0) k).2:=fi (P:=fun _(s:List Int×Int)=>Wn 4 s.1∧bU s.2) ⟨d6,nF⟩ fun k s hs=>by
  obtain⟨h1,h2,_⟩:=hA ((M (gI a k,4294968273)).2,s.2,0) ⟨(hM _).2.1,hs.2,sw⟩;exact⟨kg hs.1 h1,D5 _⟩
 refine⟨(dj (oH A M a) (zI,0) 4).1,(dj (oH A M a) (zI,0) 4).2,(hS 4).1,(hS 4).2,D7 hAV (vT hM) ha,?_⟩;refine bu Tryz.func238 Tryz.ntmps238 (rs:=[.cell 2 96,.tmp 3]) (av a) ?_;have hal:=ha.1;simp[go_sem,hal,aa hal];generalize hSS:dj (oH A M a) (zI,0)=S at *
 refine am (fun k:Nat=>⟨[(1,.ptr 0 0 0 1),(2,.ptr 32 0 0 1),(4,.ptr 96 0 0 1),(5,.d (.int .u64 (S k).2)),(10,.d (.int .i64 (k:Int)))],[(96,⟨96,4,[cI (S k).1]⟩),(32,⟨96,4,[cI zI]⟩),(0,⟨96,4,[cI a]⟩)],1000⟩)
  (fun k=>k≤4) (fun k=>4-k) 0 aq (by
   rw[←hSS];simp[ak,ah,fv,lk,AV.low,AV.low1,dj]
   and_intros<;>first|rfl|exact aD _ _) ?_
 intro k hk;obtain⟨hs1,hs2⟩:=hS k;have hsl:=hs1.1;have w3:=al (k:=k) aq;simp only[go_sem,Nat.reduceEqDiff,Nat.reduceAdd,Nat.reduceLT,↓reduceIte];by_cases h4:k<4
 ·refine⟨fun h=>?_,fun h=>absurd (by exact_mod_cast h4) h⟩;have hka:=fH (l:=a) (k:=k) aq;have hsn:S (k+1)=oH A M a k (S k):=by rw[←hSS];rfl
  obtain⟨m1,m2,m3⟩:=hM (gI a k,4294968273);obtain⟨h1,h2,h3⟩:=hA ((M (gI a k,4294968273)).2,(S k).2,0) ⟨m2,hs2,sw⟩;simp only[oH]at hsn;have hk4:(k:Int)<4:=aq;simp[go_sem,hka,hal,hsl,hk4];refine ae (m3 ⟨bK ha,⟨aq,aq⟩⟩).2 (Fv _ _) ?_;simp[go_sem,hka,hal,hsl,hk4];refine na h3 ?_;generalize A ((M (gI a k,4294968273)).2,(S k).2,0)=y at *;generalize M (gI a k,4294968273)=z at *;simp[go_sem,hka,hal,hsl,hk4,jr,w3];refine⟨h4,?_⟩;refine aj (k+1) aq aq ?_;rw[hsn];simp[ak,ah,fv,lk,AV.low,AV.low1];and_intros<;>exact aD _ _
 ·refine⟨fun h=>absurd (by exact_mod_cast h) h4,fun h=>?_⟩;have hk4:k=4:=aq;subst hk4;simp[go_sem,hsl,aa hsl,ay (l:=zI) (n:=4) rfl,ar];exact qn rfl
theorem NG:ek Tryz.prog 226=some (cI s8):=by kernel_rfl
attribute [go_sem] NG
theorem D8:s8.length=8:=rfl
attribute [go_sem] D8
theorem uo(a b:List Int)(ha:Wn 4 a)(hb:Wn 4 b):∃(s:List Int),Wn 8 s∧V s=V a*V b∧au Tryz.prog 163 [.agg (cI a),.agg (cI b)] (fun r=>r=.agg (cI s)):=by
 obtain⟨A,hAV,hA⟩:=Hz;obtain⟨M,hM⟩:=Ks
 have hI:∀i p,Wn 8 p→∀k,Wn 8 (dj (sx A M a b i) (p,0) k).1∧bU (dj (sx A M a b i) (p,0) k).2:=fun i p hp=>fi (P:=fun _(s:List Int×Int)=>Wn 8 s.1∧bU s.2) ⟨hp,nF⟩ fun k s hs=>by
  obtain⟨h1,h2,_⟩:=hA ((M (gI a i,gI b k)).2,gI s.1 (pl i k),0) ⟨(hM _).2.1,bK hs.1,sw⟩;obtain⟨h3,h4,_⟩:=hA ((A ((M (gI a i,gI b k)).2,gI s.1 (pl i k),0)).1,s.2,0) ⟨h1,hs.2,sw⟩;exact⟨kg hs.1 h3,D5 _⟩
 have hS:∀i,Wn 8 (dj (kT A M a b) s8 i):=fi (P:=fun _(s:List Int)=>Wn 8 s) Kq fun i s hs=>kg (hI i s hs 4).1 (hI i s hs 4).2;refine⟨dj (kT A M a b) s8 4,hS 4,(AK hAV (vT hM) ha hb).2,?_⟩;refine bu Tryz.func163 Tryz.ntmps163 (rs:=[.cell 4 226]) (ax a b) ?_;have hal:=ha.1;have hbl:=hb.1;simp[go_sem,hal,hbl,aa hal,aa hbl];generalize hSS:dj (kT A M a b) s8=S at *
 refine am (fun i:Nat=>⟨[(2,.ptr 0 0 0 1),(3,.ptr 32 0 0 1),(4,.ptr 64 0 0 1),(5,.ptr 96 0 0 1),(12,.d (.int .i64 (i:Int)))],[(96,⟨226,8,[cI (S i)]⟩),(64,⟨226,8,[cI s8]⟩),(32,⟨96,4,[cI b]⟩),(0,⟨96,4,[cI a]⟩)],1000⟩)
  (fun k=>k≤4) (fun k=>4-k) 0 aq (by
   rw[←hSS];simp[ak,ah,fv,lk,AV.low,AV.low1,dj]
   and_intros<;>first|rfl|exact aD _ _) ?_
 intro i hi;have hs1:=hS i;have w3:=al (k:=i) aq;simp only[go_sem,Nat.reduceEqDiff,Nat.reduceAdd,Nat.reduceLT,↓reduceIte];by_cases h4:i<4
 ·refine⟨fun h=>?_,fun h=>absurd (by exact_mod_cast h4) h⟩;have hka:=fH (l:=a) (k:=i) aq;have hi4:(i:Int)<4:=aq;have hsn:S (i+1)=kT A M a b i (S i):=by rw[←hSS];rfl
  have hIi:=hI i (S i) hs1;unfold kT at hsn;generalize hTT:dj (sx A M a b i) (S i,0)=T at *;have hT0:T 0=(S i,0):=by rw[←hTT];rfl
  refine am (fun k:Nat=>⟨[(2,.ptr 0 0 0 1),(3,.ptr 32 0 0 1),(4,.ptr 64 0 0 1),(5,.ptr 96 0 0 1),(12,.d (.int .i64 (i:Int))),(6,.d (.int .i64 (i:Int))),(7,.d (.int .u64 (T k).2)),(15,.d (.int .i64 (k:Int)))],[(96,⟨226,8,[cI (T k).1]⟩),(64,⟨226,8,[cI s8]⟩),(32,⟨96,4,[cI b]⟩),(0,⟨96,4,[cI a]⟩)],2000⟩)
   (fun k=>k≤4) (fun k=>4-k) 0 aq (by
    rw[hT0];simp[ak,ah,fv,lk,AV.low,AV.low1]
    and_intros<;>first|rfl|exact aD _ _) ?_
  intro k hk;obtain⟨ht1,ht2⟩:=hIi k;have htl:=ht1.1;have w4:=al (k:=k) aq;have hpl:pl i k=i+k:=rfl;have hp4:pl i 4=i+4:=rfl;have w5:IntKind.i64.wrap ((i:Int)+(k:Int))=(pl i k:Int):=by rw[hpl,IntWalk.i64_in _ aq];omega
  have w6:IntKind.i64.wrap ((i:Int)+4)=(pl i 4:Int):=by rw[hp4,IntWalk.i64_in _ aq];omega
  simp only[go_sem,Nat.reduceEqDiff,Nat.reduceAdd,Nat.reduceLT,↓reduceIte];by_cases h5:k<4
  ·refine⟨fun h=>?_,fun h=>absurd (by exact_mod_cast h5) h⟩;have hkb:=fH (l:=b) (k:=k) aq;have hkt:=fH (l:=(T k).1) (k:=pl i k) aq;have hk4:(k:Int)<4:=aq;have hik:(pl i k:Int)<8:=aq;have hikn:pl i k<8:=aq;have htn:T (k+1)=sx A M a b i k (T k):=by rw[←hTT];rfl
   obtain⟨m1,m2,m3⟩:=hM (gI a i,gI b k);obtain⟨h1,h2,h3⟩:=hA ((M (gI a i,gI b k)).2,gI (T k).1 (pl i k),0) ⟨m2,bK ht1,sw⟩;obtain⟨q1,q2,q3⟩:=hA ((A ((M (gI a i,gI b k)).2,gI (T k).1 (pl i k),0)).1,(T k).2,0) ⟨h1,ht2,sw⟩;unfold sx at htn;generalize A ((A ((M (gI a i,gI b k)).2,gI (T k).1 (pl i k),0)).1,(T k).2,0)=y2 at *;generalize A ((M (gI a i,gI b k)).2,gI (T k).1 (pl i k),0)=y at *;generalize M (gI a i,gI b k)=z at *;refine cQ [0,1,2,3,4,5] [(6,[7,8,9,10,11])] 1 (k:=12) ?_;intro G hG;simp[go_sem,hka,hkb,hal,hbl,hi4,hk4];refine ae (m3 ⟨bK ha,bK hb⟩).2 (Fv _ _) ?_;simp[go_sem,hka,hkb,hal,hbl,hi4,hk4];refine hG _ _ ?_;clear hG G;simp[go_sem,hkt,htl,w5,hik]
   first|refine na h3 ?_
   simp[go_sem,hkt,htl,w5,hik]
   first|refine na q3 ?_
   simp[go_sem,hkt,htl,w5,hik,hikn,jr,w4]
   first|refine aj (k+1) aq aq ?_|refine⟨aq,aj (k+1) aq aq ?_⟩
   rw[htn];simp[ak,ah,fv,lk,AV.low,AV.low1];and_intros<;>exact aD _ _
  ·refine⟨fun h=>absurd (by exact_mod_cast h) h5,fun h=>?_⟩;have hk4:k=4:=aq;subst hk4;have hi8:(pl i 4:Int)<8:=aq;have hi8n:pl i 4<8:=aq;simp[go_sem,htl,w6,hi8,hi8n,jr,w3]
   first|refine aj (i+1) aq aq ?_|refine⟨aq,aj (i+1) aq aq ?_⟩
   rw[hsn];simp[ak,ah,fv,lk,AV.low,AV.low1];and_intros<;>exact aD _ _
 ·refine⟨fun h=>absurd (by exact_mod_cast h) h4,fun h=>?_⟩;have hk4:i=4:=aq;subst hk4;have hsl:=hs1.1;simp[go_sem,hsl,aa hsl,ay (l:=s8) (n:=8) rfl,ar];exact ag (bB _) rfl
end Go.Proofs.YtmfnimjnneflnaaGreat
