/-
 Part 9 of what the claim rests on.
-/
import Derived.Test.YtmfnimjnneflnaaGreatD6
import Derived.Test.YtmfnimjnneflnaaGreatD7
import Derived.Laws.Externs
import Derived.Laws.MathBits
import Derived.Laws.Bits64b
set_option linter.unusedVariables false
set_option linter.unusedSimpArgs false
set_option maxRecDepth 100000
set_option maxHeartbeats 16000000
namespace Go.Proofs.YtmfnimjnneflnaaGreat
open Go.Am Go.Sha
theorem gm{v r:AV}{st:St}(h:v=r)(a:r.deep):dm (fun x=>x=r) v st:=by
 subst h;exact ae a rfl
theorem QX{b:bL}{n:Int}(c:bytes b)(h:lM 4 b=some n):-2147483648<n∧n<2147483648:=by
 unfold lM at h;split at h;rename_i i;obtain rfl:=Option.some.inj h;have g:b.length≤4:=aq;rcases fh b with rfl|⟨a,x,rfl⟩;decide;have j:x<256:=c x aw;have d:=wy (b:=a) (fun y f=>c y (List.mem_append_left _ f));simp at g;rw[jo];have hc:a.length=0∨a.length=1∨a.length=2∨a.length=3:=aq;rcases hc with e|e|e|e<;>rw[e]at d⊢<;>simp at d⊢<;>split<;>omega;cases h
def i31(v:Int):Prop:=-2147483648<v∧v<2147483648
def iY:bL→Option (Nat×Nat)
 |[]=>none
 |op::r =>
  if 0<op∧op≤75 then some (op,1)
  else if op=76 then(match r with|a::_=>some (a,2) | []=>none)
  else if op=77 then(match r with|a::b::_=>some (a+256*b,3)|_=>none)
  else some (0,1)
def lr(s:bL)(a:Nat):Option (Wd×Nat) :=
 match iY (s.drop a)with
 |none=>none
 |some (n,h)=>if(s.drop a).length-h<n then none else some (((s.drop a).headD 0,((s.drop a).drop h).take n),a+h+n)
def eF(w:Wd):Option bL :=
 if w.1≤77 then some w.2 else if w.1=79 then some [129]else if 80<w.1∧w.1≤96 then some [w.1-80]else none
def rQ(w:Wd):Bool:=match eF w with
 |none=>true
 |some b=>decide (cN b=w)
def og(a:Nat):Bool:=[97,99,100,103,104,105,106,107,108,109,110,111,112,113,114,115,116,117,118,119,120,121,122,123,124,125,126,130,135,136,139,140,143,144,145,146,147,148,154,155,156,157,158,159,160,161,162,163,164,165,168,170,172,173,177,178,179,186,187,188,204].contains a
structure Rn where
 main:List bL
 alt:List bL
 br:List Bool
 bud:Int
 cl:List (Int×Int)
 e:Int
structure Rx where
 h1:bL→bL
 h2:bL→bL
 /-- whether a thing is a key's signature of a message -/
 sg:bL→bL→bL→Bool
 /-- what a signature of the spending signs -/
 msg:bL
 lock:Int
 ver:Int
 seq:Int
 tpl:bL
 rcv:bL→Int→Int×Int×Int
 trg:bL→Int→Int→Int→List (Int×Int)×Int
def aH(x:Int)(r:Rn):Rn:=if r.e=0 then { r with e:=x }else r
def bA(r:Rn):bL×Rn :=
 if r.e=0 then(if r.main.length=0 then([],aH 12 r)else(r.main.getLastD [],{ r with main:=r.main.dropLast }))else([],r)
def eJ(most:Nat)(r:Rn):Int×Rn :=
 let p:=bA r
 if p.2.e=0 then(match lM most p.1 with|some n=>(n,p.2)|none=>(0,aH 15 p.2))else(0,p.2)
def ZO(r:Rn):bL×Rn:=if r.main.length=0 then([],aH 12 r)else(r.main.getLastD [],r)
def dZ(b:bL)(r:Rn):Rn :=
 if r.e=0 then(if fG (r.main++[b]) r.alt=0 then { r with main:=r.main++[b] }else aH (fG (r.main++[b]) r.alt) r)else r
def mn(b:Bool)(r:Rn):Rn:={ r with br:=r.br++[b] }
def mT(r:Rn):Option Bool×Rn:=if r.br.length=0 then(none,aH 18 r)else(some (r.br.getLastD false),{ r with br:=r.br.dropLast })
def iZ(r:Rn):Nat:=(r.br.filter fun b=>!b).length
def nl(r:Rn):Bool×Rn :=
 let p:=bA r
 (decide (p.1.length=1),if 1<p.1.length∨(p.1.length=1∧p.1.headD 0≠1)then aH 19 p.2 else p.2)
def ny(a:Nat)(r:Rn):Option Rn :=
 if a=99∨a=100 then
  some (if iZ r=0 then(let p:=nl r;mn (decide (p.1=decide (a=99))) p.2)else mn false r)
 else if a=103 then
  some (match mT r with|(some b,r')=>mn (!b) r'|(none,r')=>r')
 else if a=104 then some (mT r).2
 else none
def fO(b:bL→bL→bL→Bool)(key sig a:bL)(r:Rn):Bool×Rn :=
 if r.e=0∧sig.length≠0 then
  (if r.bud<50 then(false,aH 21 r)
  else if key.length=32∧b key sig a then(true,{ r with bud:=r.bud-50 })else(false,aH 20 { r with bud:=r.bud-50 }))
 else(false,r)
def AD(x:Rx)(a:Nat)(r:Rn):Rn :=
 let k:=bA r
 if a=172 then
  let s:=bA k.2
  let g:=fO x.sg k.1 s.1 x.msg s.2
  dZ (lh g.1) g.2
 else if a=173 then
  let s:=bA k.2
  let g:=fO x.sg k.1 s.1 x.msg s.2
  if g.1 then g.2 else aH 16 g.2
 else if a=186 then
  let n:=eJ 4 k.2
  let s:=bA n.2
  let g:=fO x.sg k.1 s.1 x.msg s.2
  dZ (aU (if g.1 then n.1+1 else n.1)) g.2
 else if a=204 then
  let m:=bA k.2
  let s:=bA m.2
  let g:=fO x.sg k.1 s.1 m.1 s.2
  dZ (lh g.1) g.2
 else k.2
def T8(r:Rn):Int×Rn :=
 let t:=ZO r
 if t.2.e=0 then
  (match lM 5 t.1 with
  |some n=>(n,if n<0 then aH 22 t.2 else t.2)
  |none=>(0,aH 15 t.2))
 else(0,t.2)
def ZP(x:Rx)(r:Rn):Rn :=
 let p:=T8 r
 if(decide (p.1<500000000) != decide (x.lock<500000000))||decide (x.lock<p.1)||decide (x.seq=4294967295)then aH 22 p.2 else p.2
def QY(k:Nat)(n:Int):Bool:=decide (n.fdiv (2 ^ k)%2=1)
def acH(x:Rx)(r:Rn):Rn :=
 let p:=T8 r
 if QY 31 p.1 then p.2
 else if decide (x.ver<2)||QY 31 x.seq||(QY 22 p.1 != QY 22 x.seq)||decide (x.seq%65536<p.1%65536)then aH 22 p.2 else p.2
def acI(x:Rx)(r:Rn):Rn :=
 let p:=ZO r
 if p.1=x.tpl then p.2 else aH 23 p.2
def Dn(l:List (Int×Int))(e:Int)(r:Rn):Rn :=
 if r.e=0 then dZ (lh true) { aH e r with cl:=r.cl++l }else r
def acJ(x:Rx)(r:Rn):Rn :=
 let h:=bA r
 let o:=eJ 4 h.2
 if o.2.e=0 then Dn [((x.rcv h.1 o.1).1,(x.rcv h.1 o.1).2.1)] (x.rcv h.1 o.1).2.2 o.2 else o.2
def da:Nat→Rn→List bL×Rn
 |0,r=>([],r)
 |k+1,r=>let p:=bA r;let q:=da k p.2;(q.1++[p.1],q.2)
def iq(n:Int)(r:Rn):List bL×Rn :=
 let r1:=if n<0∨(r.main.length:Int)<n then aH 12 r else r
 if r1.e=0 then da n.toNat r1 else([],r1)
def AE(x:Rx)(r:Rn):Rn :=
 let n:=eJ 4 r
 let b:=bA n.2
 let l:=iq n.1 b.2
 let o:=eJ 4 l.2
 let t:=eJ 4 o.2
 let k:=eJ 8 t.2
 if k.2.e=0 then
  (if(qf l.1 b.1).2=0 then Dn (x.trg (qf l.1 b.1).1 o.1 t.1 k.1).1 (x.trg (qf l.1 b.1).1 o.1 t.1 k.1).2 k.2 else aH (qf l.1 b.1).2 k.2)
 else k.2
def OV(x:Rx)(a:Nat)(r:Rn):Rn :=
 if a=106 then aH 17 r
 else if a=172∨a=173∨a=186∨a=204 then AD x a r
 else if a=177 then ZP x r
 else if a=178 then acH x r
 else if a=179 then acI x r
 else if a=187 then AE x r
 else if a=188 then acJ x r
 else
  let d:=doM x.h1 x.h2 a r.main r.alt
  { aH d.2.2 r with main:=d.1,alt:=d.2.1 }
def lN (x:Rx) (w:Wd) (r:Rn):Rn :=
 if !og w.1&&(eF w).isNone then aH 10 r
 else match ny w.1 r with
  |some r'=>r'
  | none =>
   if 0<iZ r then r
   else match eF w with
    |some b=>if rQ w then dZ b r else aH 11 r
    |none=>OV x w.1 r
def nA(x:Rx)(s:bL):Nat→Nat→Rn→Rn
 |0,_,r=>r
 | k+1,a,r =>
  if a<s.length∧r.e=0 then
   (match lr s a with
   |none=>aH 2 r
   |some (w,b)=>nA x s k b (lN x w r))
  else r
def s9(r:Rn):Rn :=
 let r1:=if 0<r.br.length then aH 18 r else r
 if r1.main.length=1∧pI (r1.main.headD [])=true then r1 else aH 25 r1
def Do(x:Rx)(s:bL)(a:List bL)(bud:Int):List (Int×Int)×Int :=
 let r:=s9 (nA x s (s.length+1) 0 (aH (fG a []) ⟨a,[],[],bud,[],0⟩))
 if r.e=0 then(r.cl,0)else([],r.e)
def yV(o:Option (Nat×Nat)):AV:=match o with
 |none=>.tup [.d (.int .i64 0),.d (.int .i64 0),.d (.bool false)]
 |some (n,h)=>.tup [.d (.int .i64 (n:Int)),.d (.int .i64 (h:Int)),.d (.bool true)]
theorem gf(o:Option (Nat×Nat)):(yV o).deep:=by
 rcases o with _|⟨n,h⟩;intro c hc;simp at hc;rcases hc with rfl|rfl<;>exact .inl trivial;intro c hc;simp at hc;rcases hc with rfl|rfl|rfl<;>exact .inl trivial
theorem We(a b:Nat)(c:a<4294967296)(d:b<4294967296):Go.bits .or .i64 (a:Int) (b:Int)=((a ||| b:Nat):Int):=by
 show IntKind.i64.wrap (((BitVec.ofInt 64 (a:Int)) ||| (BitVec.ofInt 64 (b:Int))).toNat:Int)=_;rw[BitVec.toNat_or,fB,fB,←Nat.or_mod_two_pow];have:a ||| b<2 ^ 32:=Nat.or_lt_two_pow aq aq;rw[IntWalk.i64_in _ aq];omega
theorem MY (c:Nat) (r:bL) (s:bytes (c :: r)) (D:r.length≤1000000):ap Tryz.prog 167 [.d (nb (c :: r))] (fun v=>v=yV (iY (c :: r))):=by
 refine bz Tryz.func167 Tryz.ntmps167 (rs:=[.tmp 2,.tmp 3,.tmp 4]) a9 ?_;have E:c<256:=s c aw;have B:IntKind.i64.wrap (c:Int)=(c:Int):=IntWalk.i64_in _ aq;simp[go_sem,nb];by_cases u:0<c
 ·have o:(0:Int)<(c:Int):=aq;have l:¬ c=0:=aq;by_cases g:c≤75
  ·have f:(c:Int)≤75:=aq;have e:iY (c::r)=some (c,1):=(by simp[iY,u,g]);rw[e];simp[go_sem,u,o,l,g,f,B,ai];exact gm rfl (gf (some (c,1)))
  ·have f:¬ (c:Int)≤75:=aq;by_cases j:c=76
   ·subst j;rcases r with _|⟨a,r⟩
    ·have e:iY [76]=none:=rfl;rw[e];simp[go_sem,ai];exact gm rfl (gf none)
    ·have e:iY (76::a::r)=some (a,2):=rfl;have y:a<256:=s a aw;have p:IntKind.i64.wrap (a:Int)=(a:Int):=IntWalk.i64_in _ aq;rw[e];simp[go_sem,p,ai];refine⟨fun _=>gm rfl (gf (some (a,2))),fun h=>absurd h aq⟩
   ·have m:¬(c:Int)=76:=aq;by_cases i:c=77
    ·subst i;rcases r with _|⟨a,r⟩
     ·have e:iY [77]=none:=rfl;rw[e];simp[go_sem,ai];exact gm rfl (gf none)
     ·rcases r with _|⟨b,r⟩
      ·have e:iY [77,a]=none:=rfl;rw[e];simp[go_sem,ai];exact gm rfl (gf none)
      ·have e:iY (77::a::b::r)=some (a+256*b,3):=rfl;have y:a<256:=s a aw;have C:b<256:=s b aw;have p:IntKind.i64.wrap (a:Int)=(a:Int):=IntWalk.i64_in _ aq;have x:IntKind.i64.wrap (b:Int)=(b:Int):=IntWalk.i64_in _ aq;rw[e];simp[go_sem,p,x,ai];refine⟨fun _=>?_,fun h=>absurd h aq⟩;refine cG [0,1,2,3,4,5,6,7,8,9,10,11,12] [] 0 (k:=13) ?_;intro G w;have z:IntKind.i64.wrap ((b:Int)*256)=((b*2 ^ 8:Nat):Int):=by rw[IntWalk.i64_in _ aq];omega
       have A:Go.bits .or .i64 (a:Int) ((b*2 ^ 8:Nat):Int)=((a+256*b:Nat):Int):=by
        rw[We a (b*2 ^ 8) aq aq,MO aq];omega
       generalize((b*2 ^ 8:Nat):Int)=q at *;simp[go_sem,p,x,z,A];refine w _ _ ?_;clear w G;simp[go_sem,ai];exact gm (by simp[yV]) (gf (some (a+256*b,3)))
    ·have n:¬(c:Int)=77:=aq;have e:iY (c::r)=some (0,1):=(by simp[iY,g,j,i]);rw[e];simp[go_sem,u,o,l,g,f,j,m,i,n,ai];exact gm rfl (gf (some (0,1)))
 ·have t:c=0:=aq;subst t;have e:iY (0::r)=some (0,1):=rfl;rw[e];simp[go_sem,ai];exact gm rfl (gf (some (0,1)))
def xT(w:Wd):List AV:=[.d (.int .u8 (w.1:Int)),.d (nb w.2)]
def MZ(o:Option (Wd×Nat)):AV:=match o with
 |some (w,p)=>.tup [.agg (xT w),.d (.int .i64 (p:Int)),.d (.int .i64 0)]
 |none=>.tup [.agg (xT (0,[])),.d (.int .i64 0),.d (.int .i64 2)]
theorem Dp{e n h:Nat}{r:bL}(d:bytes (e::r))(c:iY (e::r)=some (n,h)):1≤h∧h≤r.length+1∧n≤65535:=by
 have i:e<256:=d e aw;unfold iY at c;simp only at c;split at c;cases c;omega;split at c;rcases r with _|⟨a,r⟩;cases c;have g:a<256:=d a aw;cases c;simp;omega;split at c;rcases r with _|⟨a,_|⟨b,r⟩⟩;cases c;cases c;have g:a<256:=d a aw;have f:b<256:=d b aw;cases c;simp;omega;cases c;omega
theorem ta{cs cs':List AV}{a b:AV}{st:St}(hc:qZ st.hp (fun _=>True) cs cs')(f:∀c,c∈cs'→c.deep1)(h:a.deep1)(g:b.deep1) :
  dm (fun r=>r=.tup [.agg cs',a,b]) (.tup [.agg cs,a,b]) st:=by
 refine⟨_,.tup (cs':=[.agg cs',a,b]) rfl (fun i c j d e=>?_),?_,rfl⟩
 ·match i with
  |0=>simp at d e;subst d;subst e;exact .inr ⟨_,_,rfl,rfl,hc⟩
  |1=>simp at d e;subst d;subst e;exact .inl (.inl ⟨rfl,h⟩)
  |2=>simp at d e;subst d;subst e;exact .inl (.inl ⟨rfl,g⟩)
  |i+3=>simp at d
 ·intro c hc;simp at hc;rcases hc with rfl|rfl|rfl;exact .inr ⟨_,rfl,f⟩;exact .inl h;exact .inl g
theorem kW(w:Wd):∀c,c∈xT w→c.deep1:=by
 intro c hc;simp[xT]at hc;rcases hc with rfl|rfl<;>trivial
theorem M1 (s:bL) (a:Nat) (E:bytes s) (M:s.length≤1000000) (K:a<s.length):ap Tryz.prog 139 [.d (nb s),.d (.int .i64 (a:Int))] (fun v=>v=MZ (lr s a)):=by
  refine bz Tryz.func139 Tryz.ntmps139 (rs:=[.cell 4 42,.tmp 5,.tmp 6]) a9 ?_;have B:¬(a:Int)<0:=aq;have D:¬(s.length:Int)≤(a:Int):=aq;have h3:(a:Int)≤(s.length:Int):=aq;obtain⟨c,r,f⟩:∃c r,s.drop a=c::r:=by
    rcases h:s.drop a with _|⟨c,r⟩
    · have:=congrArg List.length h
      simp at this;omega
    · exact⟨c,r,rfl⟩
  have i:bytes (c::r):=fun x z=>E x (by rw[←f]at z;exact List.mem_of_mem_drop z);have q:r.length≤1000000:=by
    have:=congrArg List.length f;simp at this;omega
  simp[go_sem,nb,B,D,h3,←List.map_drop,f]
  have m:List.drop a (List.take s.length (s.map fun(b:Nat)=>[DV.int .u8 (b:Int)]))=(c::r).map fun(b:Nat)=>[DV.int .u8 (b:Int)]:=by
    rw[cx aw,←List.map_drop,f]
  rw[m];refine ag (MY c r i q) a9 ?_;have o:lr s a=match iY (c::r)with
    |none=>none
    |some (n,h)=>if(c::r).length-h<n then none else some ((c,((c::r).drop h).take n),a+h+n):=by
    unfold lr;rw[f];rfl
  rw[o];cases F:iY (c::r)with
  | none =>
    simp[go_sem,yV];exact ta (cs':=xT (0,[])) ⟨rfl,ay (aM trivial) (ay (ao (.nil 1)) bO)⟩ (kW _) trivial trivial
  | some p =>
    obtain⟨n,h⟩:=p;obtain⟨O,N,J⟩:=Dp i F;have H:a+(r.length+1)=s.length:=by
      have:=congrArg List.length f;simp at this;omega
    have w:IntKind.i64.wrap ((r.length:Int)+1-(h:Int))=((r.length+1-h:Nat):Int):=by rw[IntWalk.i64_in _ aq];omega
    by_cases j:r.length+1-h<n
    · have e:((r.length+1 - h:Nat):Int)<(n:Int):=aq
      simp[go_sem,yV,w,j,e];exact ta (cs':=xT (0,[])) ⟨rfl,ay (aM trivial) (ay (ao (.nil 1)) bO)⟩ (kW _) trivial trivial
    · have e:¬ ((r.length+1 - h:Nat):Int)<(n:Int):=aq
      have I:IntKind.i64.wrap ((h:Int)+(n:Int))=((h+n:Nat):Int):=by rw[IntWalk.i64_in _ aq];omega
      have P:IntKind.i64.wrap ((a:Int)+(h:Int))=((a+h:Nat):Int):=by rw[IntWalk.i64_in _ aq];omega
      have L:IntKind.i64.wrap (((a+h:Nat):Int)+(n:Int))=((a+h+n:Nat):Int):=by rw[IntWalk.i64_in _ aq];omega
      simp[go_sem,yV,w,j,e];refine cO [0,1,2,3,4,5,6,7,8,11,12,13,14,15] [9,16] [0,1,2,3,4,5,6,7,8,10,11,12,13,14,15,17,18] (.step 9 [10] true (.step 16 [17,18] false .done)) ⟨[(4,.ptr 0 0 0 1),(5,.d (.int .i64 ((a+h+n:Nat):Int))),(6,.d (.int .i64 0))],[(0,⟨42,2,[xT (c,List.take n (List.drop h (c::r)))]⟩)],9000⟩ (k:=19) ?h3 ?hq
      case h3 =>
        intro G A;have g:IntKind.i64.wrap ((a:Int)+(h:Int))=(a:Int)+(h:Int):=IntWalk.i64_in _ aq;have l:IntKind.i64.wrap ((a:Int)+(h:Int)+(n:Int))=(a:Int)+(h:Int)+(n:Int):=IntWalk.i64_in _ aq;have u:((h:Int)+(n:Int)).toNat=h+n:=aq;have t:List.drop h (List.take (h+n) ([DV.int .u8 (c:Int)]::r.map fun(b:Nat)=>[DV.int .u8 (b:Int)]))=(List.take n (List.drop h (c::r))).map fun(b:Nat)=>[DV.int .u8 (b:Int)]:=by
          show List.drop h (List.take (h+n) ((c::r).map fun(b:Nat)=>[DV.int .u8 (b:Int)]))=_;rw[←List.map_take,←List.map_drop,List.drop_take,Nat.add_sub_cancel_left]
        have C:(List.take n (List.drop h (c::r))).length≤100000:=by simp;omega
        generalize List.take n (List.drop h (c::r))=y at *;simp (config := { maxSteps := 3000000 }) [go_sem,I,g,l,u,t];have hc:=ek y aq
        repeat' apply And.intro
        all_goals first
          |omega
          | (refine ag hc a9 ?_
             simp (config := { maxSteps := 3000000 }) [go_sem,g,l]
             repeat' apply And.intro
             all_goals
               refine A _ _ (aV ?_)
               simp[av,ah,fv,lk,AV.low,AV.low1,xT])
      case hq =>
        simp[go_sem,ai,xT];exact ta (cs':=xT (c,List.take n (List.drop h (c::r)))) ⟨rfl,ay (aM trivial) (ay (aM trivial) bO)⟩ (kW _) trivial trivial
def M3(o:Option bL):AV:=match o with
 |some b=>.tup [.d (nb b),.d (.bool true)]
 |none=>.tup [.d (nb []),.d (.bool false)]
theorem Jl(o:Option bL):(M3 o).deep:=by
 rcases o with _|b;intro c hc;simp at hc;rcases hc with rfl|rfl<;>exact .inl trivial;intro c hc;simp at hc;rcases hc with rfl|rfl<;>exact .inl trivial
theorem yW{Q:AV→Prop}{st:St}{b:Bool}(hq:Q (.tup [.d (nb []),.d (.bool b)])):dm Q (.tup [.nil,.d (.bool b)]) st :=
 ew (ay (ao (.nil 1)) (ay (aM trivial) bO)) rfl a9 hq
theorem wR(w:Wd)(p:w.1<256)(r:w.2.length≤100000):ap Tryz.prog 21 [.agg (xT w)] (fun v=>v=M3 (eF w)):=by
 refine bz Tryz.func21 Tryz.ntmps21 (rs:=[.tmp 2,.tmp 3]) (by intro v c;simp at c;subst c;exact kW _) ?_;obtain⟨a,b⟩:=w;simp only at p r;simp[go_sem,xT];by_cases h:a≤77
 ·have e:(a:Int)≤77:=aq;have d:¬(77:Int)<(a:Int):=aq;have c:eF (a,b)=some b:=by simp[eF,h]
  rw[c];simp[go_sem,h,e,d];have hc:=ek b aq;refine ag hc a9 ?_;simp[go_sem,ai];exact gm rfl (Jl (some b))
 ·have e:¬(a:Int)≤77:=aq;have d:(77:Int)<(a:Int):=aq;by_cases k:a=79
  ·subst k;have c:eF (79,b)=some [129]:=(by simp[eF]);rw[c];simp[go_sem,ai];exact kO (L:=[129]) rfl rfl rfl
  ·have j:¬(a:Int)=79:=aq;by_cases m:80<a
   ·have f:(80:Int)<(a:Int):=aq;have g:¬(a:Int)≤80:=aq;by_cases n:a≤96
    ·have i:(a:Int)≤96:=aq;have l:¬(96:Int)<(a:Int):=aq;have c:eF (a,b)=some [a-80]:=(by simp[eF,h,k,m,n]);have o:IntKind.u8.wrap ((a:Int)-80)=((a-80:Nat):Int):=by rw[JR];omega
     rw[c];simp[go_sem,h,e,d,k,j,m,f,g,n,i,l,o,ai];generalize a-80=q at *;exact kO (L:=[q]) rfl rfl rfl
    ·have i:¬(a:Int)≤96:=aq;have l:(96:Int)<(a:Int):=aq;have c:eF (a,b)=none:=(by simp[eF,h,k,m,n]);rw[c];simp[go_sem,h,e,d,k,j,m,f,g,n,i,l,ai];exact yW rfl
   ·have f:¬(80:Int)<(a:Int):=aq;have g:(a:Int)≤80:=aq;have c:eF (a,b)=none:=(by simp[eF,h,k,m]);rw[c];simp[go_sem,h,e,d,k,j,m,f,g,ai];exact yW rfl
theorem HA{w:Wd}{b:bL}(h:eF w=some b):b.length≤w.2.length+1:=by
 unfold eF at h;split at h;cases h;omega;split at h;cases h;simp;split at h;cases h;simp;cases h
theorem wS{w:Wd}{b:bL}(c:bytes w.2)(d:w.1<256)(h:eF w=some b):bytes b:=by
 unfold eF at h;split at h;cases h;exact c;split at h;cases h;intro x a;simp at a;omega;split at h;cases h;intro x a;simp at a;omega;cases h
theorem Jm(w:Wd)(j:w.1<256)(k:bytes w.2)(r:w.2.length≤50000):ap Tryz.prog 170 [.agg (xT w)] (fun v=>v=.d (.bool (rQ w))):=by
 refine bz Tryz.func170 Tryz.ntmps170 (rs:=[.tmp 2]) (by intro v f;simp at f;subst f;exact kW _) ?_;obtain⟨h,b⟩:=w;simp only at j r k;have p:=wR (h,b) j (by show b.length≤100000;omega);simp only[xT]at p;simp[go_sem,xT];refine ag p (by intro v f;simp at f;subst f;exact kW (h,b)) ?_;unfold rQ
 cases n:eF (h,b)with
 |none =>
  simp[go_sem,M3,ai];exact ae trivial rfl
 |some y =>
  have s:=HA n;have c:=wS k j n;simp only at s;have l:=oQ y aq c;simp[go_sem,M3];refine ag l a9 ?_;have g:=fC y;have a:=jS c;have e:=(kP aq c:xQ (cN y)).2;rcases q:cN y with ⟨o,b2⟩;rw[q]at g a e;simp only at g a e;simp only[rG];by_cases m:o=h
  ·subst m;simp[go_sem];refine ag (kV b2 b a k) a9 ?_;simp[go_sem,ai];exact ae trivial rfl
  ·have i:¬(o:Int)=(h:Int):=aq;simp[go_sem,m,i,ai];exact ae trivial rfl
def qw(a:Nat):List (Nat×List Int)→List Int
 |[]=>[]
 |p::t=>if a=p.1 then p.2 else qw a t
theorem aA{a:Nat}{s:List Int}{t:List (Nat×List Int)}{n:Nat}(h:a=n):qw a ((n,s)::t)=s:=if_pos h
theorem aJ{a:Nat}{s:List Int}{t:List (Nat×List Int)}{n:Nat}(h:¬a=n):qw a ((n,s)::t)=qw a t:=if_neg h
def rR:List (Nat×List Int):=(97,78::79::80::[])::(99,73::70::[])::(100,78::79::84::73::70::[])::(103,69::76::83::69::[])::(104,69::78::68::73::70::[])::(105,86::69::82::73::70::89::[])::(106,82::69::84::85::82::78::[])::(107,84::79::65::76::84::[])::(108,70::82::79::77::65::76::84::[])::(109,50::68::82::79::80::[])::(110,50::68::85::80::[])::(111,51::68::85::80::[])::(112,50::79::86::69::82::[])::(113,50::82::79::84::[])::(114,50::83::87::65::80::[])::(115,73::70::68::85::80::[])::(116,68::69::80::84::72::[])::(117,68::82::79::80::[])::(118,68::85::80::[])::(119,78::73::80::[])::(120,79::86::69::82::[])::(121,80::73::67::75::[])::(122,82::79::76::76::[])::(123,82::79::84::[])::(124,83::87::65::80::[])::(125,84::85::67::75::[])::[]
def kX:List (Nat×List Int):=(126,67::65::84::[])::(130,83::73::90::69::[])::(135,69::81::85::65::76::[])::(136,69::81::85::65::76::86::69::82::73::70::89::[])::(139,49::65::68::68::[])::(140,49::83::85::66::[])::(143,78::69::71::65::84::69::[])::(144,65::66::83::[])::(145,78::79::84::[])::(146,48::78::79::84::69::81::85::65::76::[])::(147,65::68::68::[])::(148,83::85::66::[])::(154,66::79::79::76::65::78::68::[])::(155,66::79::79::76::79::82::[])::(156,78::85::77::69::81::85::65::76::[])::(157,78::85::77::69::81::85::65::76::86::69::82::73::70::89::[])::(158,78::85::77::78::79::84::69::81::85::65::76::[])::(159,76::69::83::83::84::72::65::78::[])::(160,71::82::69::65::84::69::82::84::72::65::78::[])::(161,76::69::83::83::79::82::69::81::85::65::76::[])::[]
def o4:List (Nat×List Int):=(162,71::82::69::65::84::69::82::79::82::69::81::85::65::76::[])::(163,77::73::78::[])::(164,77::65::88::[])::(165,87::73::84::72::73::78::[])::(168,83::72::65::50::53::54::[])::(170,72::65::83::72::50::53::54::[])::(172,67::72::69::67::75::83::73::71::[])::(173,67::72::69::67::75::83::73::71::86::69::82::73::70::89::[])::(177,67::76::84::86::[])::(178,67::83::86::[])::(179,67::84::86::[])::(186,67::72::69::67::75::83::73::71::65::68::68::[])::(187,86::65::85::76::84::[])::(188,82::69::67::79::86::69::82::[])::(204,67::83::70::83::[])::[]
set_option maxRecDepth 4000 in
theorem Jn(a:Nat)(h8:a<256):ap Tryz.prog 191 [.d (.int .u8 (a:Int))] (fun v=>v=.d (.str (qw a rR))):=by
 refine bz Tryz.func191 Tryz.ntmps191 (rs:=[.tmp 2]) a9 ?_;simp[go_sem,rR];by_cases D:a=97
 ·have b:(a:Int)=97:=aq;rw[aA D];simp[go_sem,D,b,ai];exact ae trivial rfl
 have ac:¬(a:Int)=97:=aq;rw[aJ D];simp[go_sem,D,ac];by_cases C:a=99
 ·have b:(a:Int)=99:=aq;rw[aA C];simp[go_sem,C,b,ai];exact ae trivial rfl
 have ad:¬(a:Int)=99:=aq;rw[aJ C];simp[go_sem,C,ad];by_cases t:a=100
 ·have b:(a:Int)=100:=aq;rw[aA t];simp[go_sem,t,b,ai];exact ae trivial rfl
 have E:¬(a:Int)=100:=aq;rw[aJ t];simp[go_sem,t,E];by_cases f:a=103
 ·have b:(a:Int)=103:=aq;rw[aA f];simp[go_sem,f,b,ai];exact ae trivial rfl
 have G:¬(a:Int)=103:=aq;rw[aJ f];simp[go_sem,f,G];by_cases m:a=104
 ·have b:(a:Int)=104:=aq;rw[aA m];simp[go_sem,m,b,ai];exact ae trivial rfl
 have Y:¬(a:Int)=104:=aq;rw[aJ m];simp[go_sem,m,Y];by_cases x:a=105
 ·have b:(a:Int)=105:=aq;rw[aA x];simp[go_sem,x,b,ai];exact ae trivial rfl
 have F:¬(a:Int)=105:=aq;rw[aJ x];simp[go_sem,x,F];by_cases i:a=106
 ·have b:(a:Int)=106:=aq;rw[aA i];simp[go_sem,i,b,ai];exact ae trivial rfl
 have W:¬(a:Int)=106:=aq;rw[aJ i];simp[go_sem,i,W];by_cases h:a=107
 ·have b:(a:Int)=107:=aq;rw[aA h];simp[go_sem,h,b,ai];exact ae trivial rfl
 have Z:¬(a:Int)=107:=aq;rw[aJ h];simp[go_sem,h,Z];by_cases g:a=108
 ·have b:(a:Int)=108:=aq;rw[aA g];simp[go_sem,g,b,ai];exact ae trivial rfl
 have S:¬(a:Int)=108:=aq;rw[aJ g];simp[go_sem,g,S];by_cases r:a=109
 ·have b:(a:Int)=109:=aq;rw[aA r];simp[go_sem,r,b,ai];exact ae trivial rfl
 have V:¬(a:Int)=109:=aq;rw[aJ r];simp[go_sem,r,V];by_cases e:a=110
 ·have b:(a:Int)=110:=aq;rw[aA e];simp[go_sem,e,b,ai];exact ae trivial rfl
 have I:¬(a:Int)=110:=aq;rw[aJ e];simp[go_sem,e,I];by_cases n:a=111
 ·have b:(a:Int)=111:=aq;rw[aA n];simp[go_sem,n,b,ai];exact ae trivial rfl
 have P:¬(a:Int)=111:=aq;rw[aJ n];simp[go_sem,n,P];by_cases u:a=112
 ·have b:(a:Int)=112:=aq;rw[aA u];simp[go_sem,u,b,ai];exact ae trivial rfl
 have O:¬(a:Int)=112:=aq;rw[aJ u];simp[go_sem,u,O];by_cases y:a=113
 ·have b:(a:Int)=113:=aq;rw[aA y];simp[go_sem,y,b,ai];exact ae trivial rfl
 have H:¬(a:Int)=113:=aq;rw[aJ y];simp[go_sem,y,H];by_cases l:a=114
 ·have b:(a:Int)=114:=aq;rw[aA l];simp[go_sem,l,b,ai];exact ae trivial rfl
 have U:¬(a:Int)=114:=aq;rw[aJ l];simp[go_sem,l,U];by_cases s:a=115
 ·have b:(a:Int)=115:=aq;rw[aA s];simp[go_sem,s,b,ai];exact ae trivial rfl
 have ab:¬(a:Int)=115:=aq;rw[aJ s];simp[go_sem,s,ab];by_cases c:a=116
 ·have b:(a:Int)=116:=aq;rw[aA c];simp[go_sem,c,b,ai];exact ae trivial rfl
 have X:¬(a:Int)=116:=aq;rw[aJ c];simp[go_sem,c,X];by_cases w:a=117
 ·have b:(a:Int)=117:=aq;rw[aA w];simp[go_sem,w,b,ai];exact ae trivial rfl
 have K:¬(a:Int)=117:=aq;rw[aJ w];simp[go_sem,w,K];by_cases q:a=118
 ·have b:(a:Int)=118:=aq;rw[aA q];simp[go_sem,q,b,ai];exact ae trivial rfl
 have T:¬(a:Int)=118:=aq;rw[aJ q];simp[go_sem,q,T];by_cases z:a=119
 ·have b:(a:Int)=119:=aq;rw[aA z];simp[go_sem,z,b,ai];exact ae trivial rfl
 have Q:¬(a:Int)=119:=aq;rw[aJ z];simp[go_sem,z,Q];by_cases j:a=120
 ·have b:(a:Int)=120:=aq;rw[aA j];simp[go_sem,j,b,ai];exact ae trivial rfl
 have N:¬(a:Int)=120:=aq;rw[aJ j];simp[go_sem,j,N];by_cases p:a=121
 ·have b:(a:Int)=121:=aq;rw[aA p];simp[go_sem,p,b,ai];exact ae trivial rfl
 have R:¬(a:Int)=121:=aq;rw[aJ p];simp[go_sem,p,R];by_cases A:a=122
 ·have b:(a:Int)=122:=aq;rw[aA A];simp[go_sem,A,b,ai];exact ae trivial rfl
 have L:¬(a:Int)=122:=aq;rw[aJ A];simp[go_sem,A,L];by_cases k:a=123
 ·have b:(a:Int)=123:=aq;rw[aA k];simp[go_sem,k,b,ai];exact ae trivial rfl
 have M:¬(a:Int)=123:=aq;rw[aJ k];simp[go_sem,k,M];by_cases o:a=124
 ·have b:(a:Int)=124:=aq;rw[aA o];simp[go_sem,o,b,ai];exact ae trivial rfl
 have aa:¬(a:Int)=124:=aq;rw[aJ o];simp[go_sem,o,aa];by_cases B:a=125
 ·have b:(a:Int)=125:=aq;rw[aA B];simp[go_sem,B,b,ai];exact ae trivial rfl
 have J:¬(a:Int)=125:=aq;rw[aJ B];simp[go_sem,B,J];exact ae trivial rfl
set_option maxRecDepth 4000 in
theorem AG(a:Nat)(S:a<256):ap Tryz.prog 192 [.d (.int .u8 (a:Int))] (fun v=>v=.d (.str (qw a kX))):=by
 refine bz Tryz.func192 Tryz.ntmps192 (rs:=[.tmp 2]) a9 ?_;simp[go_sem,kX];by_cases l:a=126
 ·have b:(a:Int)=126:=aq;rw[aA l];simp[go_sem,l,b,ai];exact ae trivial rfl
 have L:¬(a:Int)=126:=aq;rw[aJ l];simp[go_sem,l,L];by_cases w:a=130
 ·have b:(a:Int)=130:=aq;rw[aA w];simp[go_sem,w,b,ai];exact ae trivial rfl
 have y:¬(a:Int)=130:=aq;rw[aJ w];simp[go_sem,w,y];by_cases u:a=135
 ·have b:(a:Int)=135:=aq;rw[aA u];simp[go_sem,u,b,ai];exact ae trivial rfl
 have C:¬(a:Int)=135:=aq;rw[aJ u];simp[go_sem,u,C];by_cases f:a=136
 ·have b:(a:Int)=136:=aq;rw[aA f];simp[go_sem,f,b,ai];exact ae trivial rfl
 have z:¬(a:Int)=136:=aq;rw[aJ f];simp[go_sem,f,z];by_cases q:a=139
 ·have b:(a:Int)=139:=aq;rw[aA q];simp[go_sem,q,b,ai];exact ae trivial rfl
 have R:¬(a:Int)=139:=aq;rw[aJ q];simp[go_sem,q,R];by_cases n:a=140
 ·have b:(a:Int)=140:=aq;rw[aA n];simp[go_sem,n,b,ai];exact ae trivial rfl
 have M:¬(a:Int)=140:=aq;rw[aJ n];simp[go_sem,n,M];by_cases j:a=143
 ·have b:(a:Int)=143:=aq;rw[aA j];simp[go_sem,j,b,ai];exact ae trivial rfl
 have J:¬(a:Int)=143:=aq;rw[aJ j];simp[go_sem,j,J];by_cases k:a=144
 ·have b:(a:Int)=144:=aq;rw[aA k];simp[go_sem,k,b,ai];exact ae trivial rfl
 have D:¬(a:Int)=144:=aq;rw[aJ k];simp[go_sem,k,D];by_cases m:a=145
 ·have b:(a:Int)=145:=aq;rw[aA m];simp[go_sem,m,b,ai];exact ae trivial rfl
 have G:¬(a:Int)=145:=aq;rw[aJ m];simp[go_sem,m,G];by_cases s:a=146
 ·have b:(a:Int)=146:=aq;rw[aA s];simp[go_sem,s,b,ai];exact ae trivial rfl
 have I:¬(a:Int)=146:=aq;rw[aJ s];simp[go_sem,s,I];by_cases e:a=147
 ·have b:(a:Int)=147:=aq;rw[aA e];simp[go_sem,e,b,ai];exact ae trivial rfl
 have Q:¬(a:Int)=147:=aq;rw[aJ e];simp[go_sem,e,Q];by_cases i:a=148
 ·have b:(a:Int)=148:=aq;rw[aA i];simp[go_sem,i,b,ai];exact ae trivial rfl
 have H:¬(a:Int)=148:=aq;rw[aJ i];simp[go_sem,i,H];by_cases r:a=154
 ·have b:(a:Int)=154:=aq;rw[aA r];simp[go_sem,r,b,ai];exact ae trivial rfl
 have E:¬(a:Int)=154:=aq;rw[aJ r];simp[go_sem,r,E];by_cases c:a=155
 ·have b:(a:Int)=155:=aq;rw[aA c];simp[go_sem,c,b,ai];exact ae trivial rfl
 have N:¬(a:Int)=155:=aq;rw[aJ c];simp[go_sem,c,N];by_cases p:a=156
 ·have b:(a:Int)=156:=aq;rw[aA p];simp[go_sem,p,b,ai];exact ae trivial rfl
 have O:¬(a:Int)=156:=aq;rw[aJ p];simp[go_sem,p,O];by_cases t:a=157
 ·have b:(a:Int)=157:=aq;rw[aA t];simp[go_sem,t,b,ai];exact ae trivial rfl
 have F:¬(a:Int)=157:=aq;rw[aJ t];simp[go_sem,t,F];by_cases g:a=158
 ·have b:(a:Int)=158:=aq;rw[aA g];simp[go_sem,g,b,ai];exact ae trivial rfl
 have P:¬(a:Int)=158:=aq;rw[aJ g];simp[go_sem,g,P];by_cases o:a=159
 ·have b:(a:Int)=159:=aq;rw[aA o];simp[go_sem,o,b,ai];exact ae trivial rfl
 have A:¬(a:Int)=159:=aq;rw[aJ o];simp[go_sem,o,A];by_cases h:a=160
 ·have b:(a:Int)=160:=aq;rw[aA h];simp[go_sem,h,b,ai];exact ae trivial rfl
 have B:¬(a:Int)=160:=aq;rw[aJ h];simp[go_sem,h,B];by_cases x:a=161
 ·have b:(a:Int)=161:=aq;rw[aA x];simp[go_sem,x,b,ai];exact ae trivial rfl
 have K:¬(a:Int)=161:=aq;rw[aJ x];simp[go_sem,x,K];exact ae trivial rfl
set_option maxRecDepth 4000 in
theorem Dq(a:Nat)(I:a<256):ap Tryz.prog 193 [.d (.int .u8 (a:Int))] (fun v=>v=.d (.str (qw a o4))):=by
 refine bz Tryz.func193 Tryz.ntmps193 (rs:=[.tmp 2]) a9 ?_;simp[go_sem,o4];by_cases g:a=162
 ·have b:(a:Int)=162:=aq;rw[aA g];simp[go_sem,g,b,ai];exact ae trivial rfl
 have H:¬(a:Int)=162:=aq;rw[aJ g];simp[go_sem,g,H];by_cases f:a=163
 ·have b:(a:Int)=163:=aq;rw[aA f];simp[go_sem,f,b,ai];exact ae trivial rfl
 have D:¬(a:Int)=163:=aq;rw[aJ f];simp[go_sem,f,D];by_cases p:a=164
 ·have b:(a:Int)=164:=aq;rw[aA p];simp[go_sem,p,b,ai];exact ae trivial rfl
 have B:¬(a:Int)=164:=aq;rw[aJ p];simp[go_sem,p,B];by_cases h:a=165
 ·have b:(a:Int)=165:=aq;rw[aA h];simp[go_sem,h,b,ai];exact ae trivial rfl
 have A:¬(a:Int)=165:=aq;rw[aJ h];simp[go_sem,h,A];by_cases r:a=168
 ·have b:(a:Int)=168:=aq;rw[aA r];simp[go_sem,r,b,ai];exact ae trivial rfl
 have s:¬(a:Int)=168:=aq;rw[aJ r];simp[go_sem,r,s];by_cases i:a=170
 ·have b:(a:Int)=170:=aq;rw[aA i];simp[go_sem,i,b,ai];exact ae trivial rfl
 have F:¬(a:Int)=170:=aq;rw[aJ i];simp[go_sem,i,F];by_cases j:a=172
 ·have b:(a:Int)=172:=aq;rw[aA j];simp[go_sem,j,b,ai];exact ae trivial rfl
 have y:¬(a:Int)=172:=aq;rw[aJ j];simp[go_sem,j,y];by_cases k:a=173
 ·have b:(a:Int)=173:=aq;rw[aA k];simp[go_sem,k,b,ai];exact ae trivial rfl
 have E:¬(a:Int)=173:=aq;rw[aJ k];simp[go_sem,k,E];by_cases q:a=177
 ·have b:(a:Int)=177:=aq;rw[aA q];simp[go_sem,q,b,ai];exact ae trivial rfl
 have u:¬(a:Int)=177:=aq;rw[aJ q];simp[go_sem,q,u];by_cases o:a=178
 ·have b:(a:Int)=178:=aq;rw[aA o];simp[go_sem,o,b,ai];exact ae trivial rfl
 have C:¬(a:Int)=178:=aq;rw[aJ o];simp[go_sem,o,C];by_cases e:a=179
 ·have b:(a:Int)=179:=aq;rw[aA e];simp[go_sem,e,b,ai];exact ae trivial rfl
 have G:¬(a:Int)=179:=aq;rw[aJ e];simp[go_sem,e,G];by_cases l:a=186
 ·have b:(a:Int)=186:=aq;rw[aA l];simp[go_sem,l,b,ai];exact ae trivial rfl
 have z:¬(a:Int)=186:=aq;rw[aJ l];simp[go_sem,l,z];by_cases c:a=187
 ·have b:(a:Int)=187:=aq;rw[aA c];simp[go_sem,c,b,ai];exact ae trivial rfl
 have w:¬(a:Int)=187:=aq;rw[aJ c];simp[go_sem,c,w];by_cases m:a=188
 ·have b:(a:Int)=188:=aq;rw[aA m];simp[go_sem,m,b,ai];exact ae trivial rfl
 have t:¬(a:Int)=188:=aq;rw[aJ m];simp[go_sem,m,t];by_cases n:a=204
 ·have b:(a:Int)=204:=aq;rw[aA n];simp[go_sem,n,b,ai];exact ae trivial rfl
 have x:¬(a:Int)=204:=aq;rw[aJ n];simp[go_sem,n,x];exact ae trivial rfl
def HB(a:Nat):List Int:=if qw a rR=[]then(if qw a kX=[]then qw a o4 else qw a kX)else qw a rR
theorem QZ:(List.range 256).all (fun a=>og a==!decide (HB a=[]))=true:=by kernel_rfl
theorem Wg{a:Nat}(h:a<256):og a=!decide (HB a=[]):=by
 have:=d7.1 QZ a (List.mem_range.2 h);simpa using this
@[go_sem] theorem aef:fK Tryz.prog 253=some [.any,.any,.any]:=by kernel_rfl
@[go_sem] theorem aeg:bU Tryz.prog 253=.arr 3 252:=by kernel_rfl
@[go_sem] theorem aeh:Tryz.prog.cellsOf 252=1:=by kernel_rfl
@[go_sem] theorem aei:bU Tryz.prog 252=.scal:=by kernel_rfl
theorem Q0(a:Nat)(c:a<256):ap Tryz.prog 168 [.d (.int .u8 (a:Int))] (fun v=>v=.tup [.d (.str (HB a)),.d (.bool (og a))]):=by
 rw[Wg c];refine bz Tryz.func168 Tryz.ntmps168 (rs:=[.tmp 2,.tmp 3]) a9 ?_;simp[go_sem];have l:=Jn a c;have m:=AG a c;have i:=Dq a c;unfold HB;generalize qw a rR=a1 at *;generalize qw a kX=a2 at *;generalize qw a o4=a3 at *
 refine au (fun k:Nat=>⟨[(0,.d (.int .u8 (a:Int))),(7,.agg [.fn 191 [],.fn 192 [],.fn 193 []]),(8,.d (.int .i64 (k:Int)))],[],1000⟩)
  (fun k=>k≤3∧(1≤k→a1=[])∧(2≤k→a2=[])∧(3≤k→a3=[])) (fun k=>3-k) 0 ⟨aq,fun h=>aq,fun h=>aq,fun h=>aq⟩ (by simp[av,ah,fv,lk,AV.low,AV.low1]) ?_
 rintro k⟨n,f,g,j⟩;have e:k=0∨k=1∨k=2∨k=3:=aq;rcases e with rfl|rfl|rfl|rfl
 ·simp[go_sem];refine ag l a9 ?_;by_cases b:a1=[]
  ·subst b;simp[go_sem];refine am 1 aw aq ?_;simp[av,ah,fv,lk,AV.low,AV.low1];rfl
  ·simp[go_sem,b,ai];exact ae a9 rfl
 ·simp[go_sem];obtain rfl:=f aq;refine ag m a9 ?_;by_cases b:a2=[]
  ·subst b;simp[go_sem];refine am 2 aw aq ?_;simp[av,ah,fv,lk,AV.low,AV.low1];rfl
  ·simp[go_sem,b,ai];exact ae a9 rfl
 ·simp[go_sem];obtain rfl:=f aq;obtain rfl:=g aq;refine ag i a9 ?_;by_cases b:a3=[]
  ·subst b;simp[go_sem];refine am 3 aw aq ?_;simp[av,ah,fv,lk,AV.low,AV.low1];rfl
  ·simp[go_sem,b,ai];exact ae a9 rfl
 ·obtain rfl:=f aq;obtain rfl:=g aq;obtain rfl:=j aq;simp[go_sem,ai];exact ae a9 rfl
end Go.Proofs.YtmfnimjnneflnaaGreat
namespace Go.Sha
open Go.Proofs.YtmfnimjnneflnaaGreat
structure RnS where
 r:Rn
 J:List Bool
 H:Nat
end Go.Sha
namespace Go.Proofs.YtmfnimjnneflnaaGreat
open Go.Am Go.Sha
def cB(r:Rn)(b c:AV):List AV:=[.d (.ro 1 (r.main.map bP)),.d (.ro 1 (r.alt.map bP)),b,.d (.int .i64 (iZ r:Int)),.d (.int .i64 r.bud),c,.d (.int .i64 r.e)]
def t6(l J:List Bool):List (List AV):=(l++J).map fun b=>[AV.d (.bool b)]
def Yg(c:Int×Int):List AV:=[.d (.int .i64 c.1),.d (.int .u64 c.2)]
def JW(l:List (Int×Int))(H:Nat):List (List AV):=l.map Yg++List.replicate H [AV.d (.int .i64 0),.d (.int .u64 0)]
def cC(C:List AV)(s:RnS)(f:Nat→Nat):List AV:=C++cB s.r (.own (f 1) 0 s.r.br.length (s.r.br.length+s.J.length)) (.own (f 2) 0 s.r.cl.length (s.r.cl.length+s.H))
def a8(C:List AV)(s:RnS)(f:Nat→Nat):Nat→Blk
 |0=>⟨158,48,[cC C s f]⟩
 |1=>⟨4,1,t6 s.r.br s.J⟩
 |_=>⟨55,2,JW s.r.cl s.H⟩
def jV(C:List AV):Prop:=(∀v,v∈C→∀ ρ,AV.ren ρ v=v)∧(∀v,v∈C→∀n,v.low1 n)∧C.length=41
theorem M4{C:List AV}(h:jV C)(ρ:Nat→Nat)(l:List AV):AV.renL ρ (C++l)=C++AV.renL ρ l:=by
 rw[jT,jT,List.map_append];congr 1;rw[List.map_congr_left (g:=id) (fun v a=>h.1 v a ρ),List.map_id]
theorem Wh(ρ:Nat→Nat)(l J:List Bool):aS ρ (t6 l J)=t6 l J:=by
 unfold aS t6;rw[List.map_map];rfl
theorem Wi(ρ:Nat→Nat)(l:List (Int×Int))(H:Nat):aS ρ (JW l H)=JW l H:=by
 unfold aS JW;rw[List.map_append,List.map_map,List.map_replicate];rfl
theorem tc{C:List AV}(a:jV C):ME 3 (a8 C):=by
 refine⟨fun s f ρ g i b h=>?_,fun s f i b=>?_⟩
 ·match i with
  |0=>simp[a8,cC,cB,Blk.ren,aS,M4 a,AV.renL,AV.ren,h 1 aq,h 2 aq]
  |1=>simp only[a8,Blk.ren,Wh]
  |i+2=>simp only[a8,Blk.ren,Wi]
 ·match i with
  |0=>exact Nat.succ_ne_zero 47
  |1=>exact Nat.succ_ne_zero 0
  |i+2=>exact Nat.succ_ne_zero 1
theorem cf(C:List AV)(s:RnS)(f:Nat→Nat):kg 3 (a8 C) s f=[(f 0,a8 C s f 0),(f 1,a8 C s f 1),(f 2,a8 C s f 2)]:=rfl
theorem aP{C:List AV}{s:RnS}{hp:Hp}(c:lk 0 hp=some (a8 C s id 0))(a:lk 1 hp=some (a8 C s id 1))(b:lk 2 hp=some (a8 C s id 2)):Fv 3 (a8 C) s id hp:=by
 intro i d
 match i with
 |0=>exact c
 |1=>exact a
 |2=>exact b
theorem cK{C:List AV}(c:jV C)(r:Rn)(J:List Bool)(H:Nat)(x:Int):fH Tryz.prog 3 (a8 C) 96 ⟨r,J,H⟩ [.ptr 0 0 0 1,.d (.int .i64 x)] (fun v f=>f=⟨aH x r,J,H⟩):=by
 refine aB Tryz.func96 (by kernel_rfl) rfl Tryz.ntmps96 (rs:=[]) rfl (fD rfl) (by decide) ?_;rw[cf];simp only[a8,cC,cB,id];have b:=c.2.2;by_cases h:r.e=0
 ·have a:aH x r={ r with e:=x }:=if_pos h;simp[go_sem,h,ai,b,a];exact aP rfl rfl rfl
 ·have a:aH x r=r:=if_neg h;simp[go_sem,h,ai,b,a];exact aP rfl rfl rfl
theorem gn{C:List AV}(a:jV C)(r:Rn)(J:List Bool)(H:Nat):fH Tryz.prog 3 (a8 C) 100 ⟨r,J,H⟩ [.ptr 0 0 0 1] (fun v b=>v=.d (.bool (decide (r.e=0)))∧b=⟨r,J,H⟩):=by
 refine aB Tryz.func100 (by kernel_rfl) rfl Tryz.ntmps100 (rs:=[.tmp 2]) rfl (fD rfl) (by decide) ?_;rw[cf];simp only[a8,cC,cB,id];have c:=a.2.2;simp[go_sem,ai,c];exact aP rfl rfl rfl
theorem gR{C:List AV}(e:jV C){N:Nat}{Pp:Hp}{g:FuncId}{s:RnS}{a:List AV}{R:AV→RnS→Prop}{K:AV→Hp→Prop}(h:fH Tryz.prog 3 (a8 C) g s (.ptr 0 0 0 1::a) R)(k:3≤N)(d:∀p,p∈Pp→p.1<N∧3≤p.1)(b:∀ ρ,AV.renL ρ a=a)
  (f:∀v s' ρ,R v s'→(∀j,j<3→ρ j=j)→K (v.ren ρ) (Pp++kg 3 (a8 C) s' id)):uh Tryz.prog g (.ptr 0 0 0 1::a) (Pp++kg 3 (a8 C) s id) N K:=by
 refine uG (tc e) h (ie 3) (fun j i=>by show j<N;omega) (fun p c=>⟨(d p c).1,fun j i=>by have:=(d p c).2;show j≠p.1;omega⟩) ?_ f;rw[AV.renL,b,AV.ren];rfl
structure StOk(main alt:List bL):Prop where
 m:main.length≤1000
 a:alt.length≤1000
 mb:∀x,x∈main→x.length≤1000∧bytes x
 ab:∀x,x∈alt→x.length≤1000∧bytes x
theorem StOk.m1{main alt:List bL}(h:StOk main alt):∀x,x∈main→x.length≤1000000:=fun x a=>by have:=(h.mb x a).1;omega
theorem StOk.a1{main alt:List bL}(h:StOk main alt):∀x,x∈alt→x.length≤1000000:=fun x a=>by have:=(h.ab x a).1;omega
theorem M5{C l:List AV}(a b:AV)(h:C.length=41):List.drop 43 (C++a::b::l)=l:=by rw[List.drop_append,h,c_ aq];rfl
theorem Q1{C:List AV}(j:jV C)(r:Rn)(J:List Bool)(H:Nat)(k:StOk r.main r.alt):fH Tryz.prog 3 (a8 C) 220 ⟨r,J,H⟩ [.ptr 0 0 0 1] (fun v n=>(v=.nil∧(bA r).1=[]∨v=.d (nb (bA r).1))∧n=⟨(bA r).2,J,H⟩):=by
 refine aB Tryz.func220 (by kernel_rfl) rfl Tryz.ntmps220 (rs:=[.tmp 2]) rfl (fD rfl) (by decide) ?_;have q:=j.2.2;simp[go_sem];refine gR (Pp:=[]) j (gn j r J H) aq aw (by simp[AV.renL,AV.ren]) ?_;rintro v n ρ ⟨rfl,rfl⟩ y;by_cases h:r.e=0
 ·have f:=MX r.main r.alt k.m k.a k.m1 k.a1;obtain⟨c,alt,i,b,g,e⟩:=r;simp only at h f;subst h;rw[cf];simp only[a8,cC,cB,id,pE]at *;simp[go_sem,q,AV.ren];refine ag f (by intro v w;simp at w;subst w;exact iW c alt) ?_;rcases c.eq_nil_or_concat with rfl|⟨l,x,t⟩
  ·have o:bA ⟨[],alt,i,b,g,0⟩=([],aH 12 ⟨[],alt,i,b,g,0⟩):=rfl;rw[o];simp[go_sem,MW,pE];refine gR (Pp:=[(420,⟨155,2,[[.d (.ro 1 []),.d (.ro 1 [])]]⟩)]) (s:=⟨⟨[],alt,i,b,g,0⟩,J,H⟩) j (cK j ⟨[],alt,i,b,g,0⟩ J H 12) aq (by intro p u;simp at u;subst u;simp) (by simp[AV.renL,AV.ren]) ?_;rintro v n ρ rfl y;rw[cf];generalize aH 12 ⟨[],alt,i,b,g,0⟩=r';simp only[a8,cC,cB,id];simp[go_sem,ai];exact aP rfl rfl rfl
  ·rw[List.concat_eq_append]at t;subst t;have o:bA ⟨l++[x],alt,i,b,g,0⟩=(x,⟨l,alt,i,b,g,0⟩):=(by simp[bA]);rw[o];simp[go_sem,MW,pE,q,ai,M5];exact aP rfl rfl rfl
 ·have z:bA r=([],r):=if_neg h;rw[z,cf];simp only[a8,cC,cB,id];simp[go_sem,h,ai,AV.ren];exact aP rfl rfl rfl
theorem lO{C:List AV}(b:jV C)(r:Rn)(J:List Bool)(H:Nat)(c:StOk r.main r.alt):fH Tryz.prog 3 (a8 C) 220 ⟨r,J,H⟩ [.ptr 0 0 0 1] (fun v a=>v=.d (nb (bA r).1)∧a=⟨(bA r).2,J,H⟩):=by
 refine QV (Q1 b r J H c) ?_;rintro v a⟨⟨rfl,h⟩|h,rfl⟩;exact .inr ⟨rfl,1,by rw[h];rfl,rfl⟩;exact .inl ⟨h,rfl⟩
theorem Wj{l:List bL}{x:bL}{alt:List bL}(h:StOk (l++[x]) alt):StOk l alt∧x.length≤1000∧bytes x :=
 ⟨⟨by have:=h.m;simp at this;omega,h.a,fun y b=>h.mb y (by simp[b]),h.ab⟩,h.mb x aw⟩
theorem i6{x:Int}{r:Rn}(h:StOk r.main r.alt):StOk (aH x r).main (aH x r).alt:=by
 unfold aH;split<;>exact h
theorem eA{r:Rn}(h:StOk r.main r.alt):StOk (bA r).2.main (bA r).2.alt∧(bA r).1.length≤1000∧bytes (bA r).1:=by
 unfold bA;split;split;exact⟨i6 h,aw,fun x a=>by simp at a⟩
 rename_i c;rcases r.main.eq_nil_or_concat with e|⟨l,x,b⟩;exact absurd (by rw[e];rfl) c;rw[List.concat_eq_append]at b;rw[b]at h⊢;simp only[List.dropLast_concat,List.getLastD_concat];exact Wj h;exact⟨h,aw,fun x a=>by simp at a⟩
theorem FN(r:Rn):aH 0 r=r:=by
 unfold aH;split;rename_i h;obtain⟨a,b,c,d,f,e⟩:=r;simp only at h;subst h;rfl;rfl
theorem AH{x:Int}{r:Rn}(a:x≠0):(aH x r).e≠0:=by
 unfold aH;split;exact a;rename_i h;exact h
theorem wT{C:List AV}(a:jV C)(r:Rn)(J:List Bool)(H:Nat)(k:StOk r.main r.alt)(most:Nat)(o:most≤8):fH Tryz.prog 3 (a8 C) 227 ⟨r,J,H⟩ [.ptr 0 0 0 1,.d (.int .i64 (most:Int))] (fun v f=>v=.d (.int .i64 (eJ most r).1)∧f=⟨(eJ most r).2,J,H⟩):=by
 refine aB Tryz.func227 (by kernel_rfl) rfl Tryz.ntmps227 (rs:=[.tmp 4]) rfl (fD rfl) (by decide) ?_;have w:=a.2.2;simp[go_sem];refine gR (Pp:=[]) a (lO a r J H k) aq aw (by simp[AV.renL,AV.ren]) ?_;rintro v f ρ ⟨rfl,rfl⟩ l;obtain⟨i,j,g⟩:=eA k;unfold eJ;generalize bA r=p at *;obtain⟨b,c⟩:=p;simp only at i j g⊢;simp[go_sem,AV.ren];refine gR (Pp:=[]) a (gn a c J H) aq aw (by simp[AV.renL,AV.ren]) ?_;rintro v f ρ' ⟨rfl,rfl⟩ q;by_cases h:c.e=0
 ·have t:=Wb most b g o aq;simp[go_sem,AV.ren,h];refine ag t a9 ?_
  cases u:lM most b with
  |none =>
   simp[go_sem];refine gR (Pp:=[]) (s:=⟨c,J,H⟩) a (cK a c J H 15) aq aw (by simp[AV.renL,AV.ren]) ?_;rintro v f ρ rfl l;rw[cf];generalize aH 15 c=r';simp only[a8,cC,cB,id];simp[go_sem,ai];exact aP rfl rfl rfl
  |some n =>
   have m:=cK a c J H 0;rw[FN]at m;simp[go_sem];refine gR (Pp:=[]) (s:=⟨c,J,H⟩) a m aq aw (by simp[AV.renL,AV.ren]) ?_;rintro v f ρ rfl l;rw[cf];simp only[a8,cC,cB,id];simp[go_sem,ai];exact aP rfl rfl rfl
 ·simp[go_sem,AV.ren,h,ai];rw[cf];exact aP rfl rfl rfl
theorem qA{C:List AV}(k:jV C)(r:Rn)(J:List Bool)(H:Nat)(n:StOk r.main r.alt)(b:bL)(y:b.length≤1000000):fH Tryz.prog 3 (a8 C) 171 ⟨r,J,H⟩ [.ptr 0 0 0 1,.d (nb b)] (fun v q=>q=⟨dZ b r,J,H⟩):=by
 refine aB Tryz.func171 (by kernel_rfl) rfl Tryz.ntmps171 (rs:=[]) rfl (fD rfl) (by decide) ?_;have o:=k.2.2;have l:=Jj r.main r.alt b n.m n.a n.m1 n.a1 y;simp[go_sem];refine gR (Pp:=[]) k (gn k r J H) aq aw (by simp[AV.renL,AV.ren]) ?_;rintro v q ρ ⟨rfl,rfl⟩ w;obtain⟨c,alt,i,f,g,e⟩:=r;simp only at l;by_cases h:e=0
 ·subst h;rw[cf];simp only[a8,cC,cB,id,pE]at *;simp[go_sem,AV.ren,o];refine ag l (by intro v u;simp at u;rcases u with rfl|rfl;exact iW c alt;trivial) ?_;by_cases hc:fG (c++[b]) alt=0
  ·have t:yU ⟨c++[b],alt,0⟩=.tup [.agg (pE (c++[b]) alt),.d (.int .i64 0)]:=(by simp[yU,iD,hc]);have j:dZ b ⟨c,alt,i,f,g,0⟩=⟨c++[b],alt,i,f,g,0⟩:=(by simp[dZ,hc]);rw[t,j];simp[go_sem,pE,o,M5,ai];refine aP ?_ rfl rfl;simp[lk,a8,cC,cB];rfl
  ·have t:yU ⟨c++[b],alt,0⟩=.tup [.agg (pE [] []),.d (.int .i64 (fG (c++[b]) alt))]:=(by simp[yU,iD,hc]);have j:dZ b ⟨c,alt,i,f,g,0⟩=aH (fG (c++[b]) alt) ⟨c,alt,i,f,g,0⟩:=(by simp[dZ,hc]);rw[t,j];generalize fG (c++[b]) alt=x at *;simp[go_sem,pE,o,hc];refine gR (Pp:=[(388,⟨155,2,[[.d (.ro 1 []),.d (.ro 1 [])]]⟩)]) (s:=⟨⟨c,alt,i,f,g,0⟩,J,H⟩) k (cK k ⟨c,alt,i,f,g,0⟩ J H x) aq (by intro p j;simp at j;subst j;simp) (by simp[AV.renL,AV.ren]) ?_;rintro v q ρ rfl w;rw[cf];generalize aH x ⟨c,alt,i,f,g,0⟩=r';simp only[a8,cC,cB,id];simp[go_sem,ai];exact aP rfl rfl rfl
 ·have j:dZ b ⟨c,alt,i,f,g,e⟩=⟨c,alt,i,f,g,e⟩:=if_neg h;rw[j];simp[go_sem,AV.ren,h,ai];rw[cf];exact aP rfl rfl rfl
theorem FO(r:Rn):iZ r≤r.br.length:=List.length_filter_le _ _
theorem Q2(b:Bool)(r:Rn):iZ (mn b r)=iZ r+(if b then 0 else 1):=by
 unfold iZ mn;simp only[List.filter_append,b_];cases b<;>rfl
theorem uK(l J:List Bool):(t6 l J).length=l.length+J.length:=by simp[t6]
theorem Ds{l J:List Bool}:(t6 l J).take l.length=l.map fun b=>[AV.d (.bool b)]:=by
 unfold t6;rw[←List.map_take,List.take_left]
theorem Q3(l:List Bool)(b:Bool):(l.map fun b=>[AV.d (.bool b)])++[[AV.d (.bool b)]]=t6 (l++[b]) []:=by simp[t6]
theorem Q4(l:List Bool)(j b:Bool)(J:List Bool):(l.map fun b=>[AV.d (.bool b)])++[AV.d (.bool b)]::(t6 l (j::J)).drop (l.length+1)=t6 (l++[b]) J:=by
 unfold t6;rw[←List.map_drop,←List.drop_drop,List.drop_left];simp
theorem rS{C:List AV}(w:jV C)(r:Rn)(J:List Bool)(H:Nat)(b:Bool)(x:r.br.length≤1000000):fH Tryz.prog 3 (a8 C) 195 ⟨r,J,H⟩ [.ptr 0 0 0 1,.d (.bool b)] (fun v y=>∃k,y=⟨mn b r,k,H⟩):=by
 refine aB Tryz.func195 (by kernel_rfl) rfl Tryz.ntmps195 (rs:=[]) rfl (fD rfl) (by decide) ?_;have o:=w.2.2;have u:=FO r;have s:=Q2 b r;have t:IntKind.i64.wrap ((iZ r:Int)+1)=(iZ r:Int)+1:=IntWalk.i64_in _ aq;rw[cf];simp only[a8,cC,cB,id];simp[go_sem,o];obtain⟨c,alt,a,f,n,e⟩:=r;simp only at x u t s⊢;generalize z:iZ ⟨c,alt,a,f,n,e⟩=q at *
 have l:∀k:List Bool,a8 C ⟨mn b ⟨c,alt,a,f,n,e⟩,k,H⟩ id 0=⟨158,48,[C++[.d (.ro 1 (c.map bP)),.d (.ro 1 (alt.map bP)),.own 1 0 (a.length+1) (a.length+1+k.length),.d (.int .i64 ((q+(if b then 0 else 1):Nat):Int)),.d (.int .i64 f),.own 2 0 n.length (n.length+H),.d (.int .i64 e)]]⟩:=by
  intro k;simp only[a8,cC,cB,s];simp[mn]
 have i:∀k:List Bool,a8 C ⟨mn b ⟨c,alt,a,f,n,e⟩,k,H⟩ id 1=⟨4,1,t6 (a++[b]) k⟩:=fun _=>rfl;have m:∀k:List Bool,a8 C ⟨mn b ⟨c,alt,a,f,n,e⟩,k,H⟩ id 2=⟨55,2,JW n H⟩:=fun _=>rfl;rcases J with _|⟨j,J⟩
 ·have p:List.take a.length (t6 a [])=a.map fun b=>[AV.d (.bool b)]:=Ds;have g:(t6 a []).length=a.length+([]:List Bool).length:=uK _ _;have l:=l [];have i:=i [];have m:=m [];rw[←Q3]at i;cases b
  ·simp[go_sem,jP,P4,p,g,o,t];exact⟨aq,fun h=>aq,_,⟨[],rfl⟩,aP (l▸rfl) (i▸rfl) (m▸rfl)⟩
  ·simp[go_sem,jP,P4,p,g,o];exact⟨aq,fun h=>aq,_,⟨[],rfl⟩,aP (l▸rfl) (i▸rfl) (m▸rfl)⟩
 ·have p:List.take a.length (t6 a (j::J))=a.map fun b=>[AV.d (.bool b)]:=Ds;have g:(t6 a (j::J)).length=a.length+(j::J:List Bool).length:=uK _ _;have l:=l J;have i:=i J;have m:=m J;rw[←Q4 a j b J]at i;rw[show a.length+1+J.length=a.length+(J.length+1)by omega]at l;cases b
  ·simp[go_sem,jP,P4,p,g,o,t];exact⟨aq,_,⟨J,rfl⟩,aP (l▸rfl) (i▸rfl) (m▸rfl)⟩
  ·simp[go_sem,jP,P4,p,g,o];exact⟨aq,_,⟨J,rfl⟩,aP (l▸rfl) (i▸rfl) (m▸rfl)⟩
def Q5(o:Option Bool):AV:=match o with
 |some b=>.tup [.d (.bool b),.d (.bool true)]
 |none=>.tup [.d (.bool false),.d (.bool false)]
theorem Wl{l:List Bool}{J:List Bool}{k:Nat}{b:Bool}(h:l[k]?=some b):(t6 l J)[k]?=some [.d (.bool b)]:=by
 unfold t6;rw[cU,List.getElem?_append_left (ci.1 h).1,h];rfl
theorem Q6{main alt:List bL}{l:List Bool}{b:Bool}{bud e:Int}{cl:List (Int×Int)}:iZ ⟨main,alt,l++[b],bud,cl,e⟩=iZ ⟨main,alt,l,bud,cl,e⟩+(if b then 0 else 1):=by
 unfold iZ;simp only[List.filter_append,b_];cases b<;>rfl
theorem HC{C:List AV}(u:jV C)(r:Rn)(J:List Bool)(H:Nat)(E:r.br.length≤1000000):fH Tryz.prog 3 (a8 C) 196 ⟨r,J,H⟩ [.ptr 0 0 0 1] (fun v F=>v=Q5 (mT r).1∧∃J',F=⟨(mT r).2,J',H⟩):=by
 refine aB Tryz.func196 (by kernel_rfl) rfl Tryz.ntmps196 (rs:=[.tmp 2,.tmp 3]) rfl (fD rfl) (by decide) ?_;have t:=u.2.2;have p:=FO r;obtain⟨a,alt,I,c,f,e⟩:=r;simp only at E p;rw[cf];simp only[a8,cC,cB,id];rcases I.eq_nil_or_concat with rfl|⟨l,b,D⟩
 ·have x:mT ⟨a,alt,[],c,f,e⟩=(none,aH 18 ⟨a,alt,[],c,f,e⟩):=rfl;rw[x];simp[go_sem,t];rw[show AV.own 1 0 0 J.length=AV.own 1 0 ([]:List Bool).length (([]:List Bool).length+J.length)by simp];refine gR (Pp:=[]) (s:=⟨⟨a,alt,[],c,f,e⟩,J,H⟩) u (cK u ⟨a,alt,[],c,f,e⟩ J H 18) aq aw (by simp[AV.renL,AV.ren]) ?_;rintro v F ρ rfl M;rw[cf];generalize aH 18 ⟨a,alt,[],c,f,e⟩=r';simp only[a8,cC,cB,id];simp[go_sem,ai,Q5];exact⟨_,⟨J,rfl⟩,aP rfl rfl rfl⟩
 ·rw[List.concat_eq_append]at D;subst D;have x:mT ⟨a,alt,l++[b],c,f,e⟩=(some b,⟨a,alt,l,c,f,e⟩):=by simp[mT]
  rw[x];rw[Q6]at p⊢;have z:IntKind.i64.wrap (((l++[b]).length:Int)-1)=(l.length:Int):=by rw[IntWalk.i64_in _ (by simp at E⊢;omega)];simp
  have w:(t6 (l++[b]) J)[l.length]?=some [.d (.bool b)]:=Wl aw;have i:∀h:l.length<(t6 (l++[b]) J).length,(t6 (l++[b]) J)[l.length]=[.d (.bool b)]:=fun h=>Option.some.inj ((cm h).symm.trans w);have A:t6 (l++[b]) J=t6 l (b::J):=by simp[t6]
  generalize y:(l++[b]).length=n at *;have G:n=l.length+1:=by rw[←y];simp
  have k:¬n=0:=aq;have j:l.length<n:=aq;have g:(l.length:Int)<(n:Int):=aq;have o:(l.length:Int)≤(n:Int):=aq;have m:n+J.length=l.length+(b::J).length:=by simp;omega
  generalize B:iZ ⟨a,alt,l,c,f,e⟩=q at *;cases b
  ·have L:IntKind.i64.wrap (((q:Int)+1)-1)=(q:Int):=by simp only[Bool.false_eq_true,if_false]at p;rw[IntWalk.i64_in _ aq];omega
   have K:IntKind.i64.wrap (q:Int)=(q:Int):=by simp only[Bool.false_eq_true,if_false]at p;exact IntWalk.i64_in _ aq
   simp[go_sem,t,k,z,w,i,j,g,o,uK,y,L,K];exact⟨_,⟨rfl,false::J,rfl⟩,aP (by simp only[lk,a8,cC,cB,B,m];rfl) (congrArg (fun r=>some (⟨4,1,r⟩:Blk)) A) rfl⟩
  ·simp[go_sem,t,k,z,w,i,j,g,o,uK,y];exact⟨_,⟨rfl,true::J,rfl⟩,aP (by simp only[lk,a8,cC,cB,B,m];rfl) (congrArg (fun r=>some (⟨4,1,r⟩:Blk)) A) rfl⟩
theorem Wm{C:List AV}(a:jV C)(r:Rn)(J:List Bool)(H:Nat)(q:StOk r.main r.alt):fH Tryz.prog 3 (a8 C) 194 ⟨r,J,H⟩ [.ptr 0 0 0 1] (fun v c=>v=.d (.bool (nl r).1)∧c=⟨(nl r).2,J,H⟩):=by
 refine aB Tryz.func194 (by kernel_rfl) rfl Tryz.ntmps194 (rs:=[.tmp 2]) rfl (fD rfl) (by decide) ?_;have u:=a.2.2;simp[go_sem];refine gR (Pp:=[]) a (lO a r J H q) aq aw (by simp[AV.renL,AV.ren]) ?_;rintro v c ρ ⟨rfl,rfl⟩ t;obtain⟨i,k,n⟩:=eA q;unfold nl;generalize bA r=p at *;obtain⟨b,e⟩:=p;simp only at i k n⊢;have tQ:∀(d:Bool)(g:Rn)(j:St),j.hp=kg 3 (a8 C) ⟨g,J,H⟩ id→∃c,(AV.d (.bool d)=.d (.bool d)∧c=⟨g,J,H⟩)∧Fv 3 (a8 C) c id j.hp:=fun d g j h=>⟨_,⟨rfl,rfl⟩,by rw[h];exact aP rfl rfl rfl⟩;rcases b with _|⟨x,_|⟨y,b⟩⟩
 ·simp[go_sem,AV.ren,nb,ai];exact aP rfl rfl rfl
 ·by_cases o:x=1
  ·subst o;simp[go_sem,AV.ren,nb,ai];exact aP rfl rfl rfl
  ·have m:¬(x:Int)=1:=aq;simp[go_sem,AV.ren,nb,o,m];refine gR (Pp:=[]) (s:=⟨e,J,H⟩) a (cK a e J H 19) aq aw (by simp[AV.renL,AV.ren]) ?_;rintro v c ρ rfl t;rw[cf];generalize aH 19 e=g;simp only[a8,cC,cB,id];simp[go_sem,ai];exact aP rfl rfl rfl
 ·have l:(1:Int)<(b.length:Int)+1+1:=aq;have f:¬(b.length:Int)+1+1=1:=aq;simp[go_sem,AV.ren,nb,l,f];refine gR (Pp:=[]) (s:=⟨e,J,H⟩) a (cK a e J H 19) aq aw (by simp[AV.renL,AV.ren]) ?_;rintro v c ρ rfl t;rw[cf];generalize aH 19 e=g;simp only[a8,cC,cB,id];simp[go_sem,ai,f];exact aP rfl rfl rfl
theorem bw{C:List AV}(c:jV C){N:Nat}{Pp hp:Hp}{g:FuncId}{s:RnS}{a:List AV}{R:AV→RnS→Prop}{K:AV→Hp→Prop}(h:fH Tryz.prog 3 (a8 C) g s (.ptr 0 0 0 1::a) R)(e:hp=Pp++kg 3 (a8 C) s id)(d:3≤N)(f:∀p,p∈Pp→p.1<N∧3≤p.1)(b:∀ ρ,AV.renL ρ a=a)
  (i:∀v s' ρ,R v s'→(∀j,j<3→ρ j=j)→K (v.ren ρ) (Pp++kg 3 (a8 C) s' id)):uh Tryz.prog g (.ptr 0 0 0 1::a) hp N K:=e▸gR c h d f b i
theorem ZQ:Tryz.prog.underlying 4=some .bool:=by kernel_rfl
theorem T9(a b:Bool)(K:AV→Hp→Prop)(hp:Hp):df Tryz.prog .eql 4 (.d (.bool a)) (.d (.bool b)) K hp=K (.d (.bool (a==b))) hp:=by
 show(_∧_)=_;rw[ZQ];simp
theorem Q7{r:Rn}:(mT r).2.br.length≤r.br.length:=by
 unfold mT;split;unfold aH;split<;>exact cL _;simp
theorem M6(r:Rn):(nl r).2.br=r.br:=by
 have a:(bA r).2.br=r.br:=by
  unfold bA;split;split;unfold aH;split<;>rfl;rfl;rfl
 unfold nl;simp only;split;unfold aH;split<;>exact a;exact a
theorem M7{C:List AV}(e:jV C)(f:Nat)(B:f<256)(r:Rn)(J:List Bool)(H:Nat)(x:StOk r.main r.alt)(E:r.br.length≤100000):fH Tryz.prog 3 (a8 C) 169 ⟨r,J,H⟩ [.ptr 0 0 0 1,.d (.int .u8 (f:Int))]
  (fun v i=>v=.d (.bool (ny f r).isSome)∧∃h,i=⟨(ny f r).getD r,h,H⟩):=by
 refine aB Tryz.func169 (by kernel_rfl) rfl Tryz.ntmps169 (rs:=[.tmp 4]) rfl (fD rfl) (by decide) ?_;have n:=e.2.2;have D:=FO r;by_cases o:f=99∨f=100
 ·have k:ny f r=some (if iZ r=0 then mn (decide ((nl r).1=decide (f=99))) (nl r).2 else mn false r):=if_pos o;rw[k];by_cases a:iZ r=0
  ·rw[if_pos a];have l:(nl r).2.br.length≤1000000:=by rw[M6];omega
   have c:=Wm e r J H x;generalize nl r=p at *;obtain⟨d,g⟩:=p;simp only at l c⊢;rcases o with rfl|rfl
   ·simp[go_sem];rw[cf];simp only[a8,cC,cB,id];simp[go_sem,n,a];refine bw (Pp:=[]) (s:=⟨r,J,H⟩) e c (by simp[cf,a8,cC,cB,a]) aq aw (by simp[AV.renL,AV.ren]) ?_;rintro v i ρ ⟨rfl,rfl⟩ t;simp[go_sem,AV.ren,T9];refine bw (Pp:=[]) (s:=⟨g,J,H⟩) e (rS e (g) J H (d) aq) (by first|rfl|simp[cf,a8,cC,cB,a]) aq aw (by simp[AV.renL,AV.ren]) ?_;rintro v i ρ' ⟨h,rfl⟩ j;rw[cf];generalize mn (d) (g)=r';simp only[a8,cC,cB,id];simp[go_sem,ai];exact⟨_,⟨h,rfl⟩,aP rfl rfl rfl⟩
   ·simp[go_sem];rw[cf];simp only[a8,cC,cB,id];simp[go_sem,n,a];refine bw (Pp:=[]) (s:=⟨r,J,H⟩) e c (by simp[cf,a8,cC,cB,a]) aq aw (by simp[AV.renL,AV.ren]) ?_;rintro v i ρ ⟨rfl,rfl⟩ t;simp[go_sem,AV.ren,T9];refine bw (Pp:=[]) (s:=⟨g,J,H⟩) e (rS e (g) J H (!d) aq) (by first|rfl|simp[cf,a8,cC,cB,a]) aq aw (by simp[AV.renL,AV.ren]) ?_;rintro v i ρ' ⟨h,rfl⟩ j;rw[cf];generalize mn (!d) (g)=r';simp only[a8,cC,cB,id];simp[go_sem,ai];exact⟨_,⟨h,rfl⟩,aP rfl rfl rfl⟩
  ·rw[if_neg a];rcases o with rfl|rfl
   ·simp[go_sem];rw[cf];simp only[a8,cC,cB,id];simp[go_sem,n,a];refine bw (Pp:=[]) (s:=⟨r,J,H⟩) e (rS e (r) J H (false) aq) (by first|rfl|simp[cf,a8,cC,cB,a]) aq aw (by simp[AV.renL,AV.ren]) ?_;rintro v i ρ' ⟨h,rfl⟩ j;rw[cf];generalize mn (false) (r)=r';simp only[a8,cC,cB,id];simp[go_sem,ai];exact⟨_,⟨h,rfl⟩,aP rfl rfl rfl⟩
   ·simp[go_sem];rw[cf];simp only[a8,cC,cB,id];simp[go_sem,n,a];refine bw (Pp:=[]) (s:=⟨r,J,H⟩) e (rS e (r) J H (false) aq) (by first|rfl|simp[cf,a8,cC,cB,a]) aq aw (by simp[AV.renL,AV.ren]) ?_;rintro v i ρ' ⟨h,rfl⟩ j;rw[cf];generalize mn (false) (r)=r';simp only[a8,cC,cB,id];simp[go_sem,ai];exact⟨_,⟨h,rfl⟩,aP rfl rfl rfl⟩
 ·by_cases q:f=103
  ·subst q;have k:ny 103 r=some (match mT r with|(some b,r')=>mn (!b) r'|(none,r')=>r'):=rfl;rw[k];have l:(mT r).2.br.length≤1000000:=by have:=@Q7 r;omega
   have c:=HC e r J H aq;generalize mT r=p at *;obtain⟨d,g⟩:=p;simp only at l c⊢;simp[go_sem];refine gR (Pp:=[]) (s:=⟨r,J,H⟩) e c aq aw (by simp[AV.renL,AV.ren]) ?_;rintro v i ρ ⟨rfl,m,rfl⟩ t
   cases d with
   |none =>
    rw[cf];simp only[a8,cC,cB,id];simp[go_sem,AV.ren,AV.renL,Q5,ai];exact⟨_,⟨m,rfl⟩,aP rfl rfl rfl⟩
   |some b =>
    simp[go_sem,AV.ren,AV.renL,Q5];refine bw (Pp:=[]) (s:=⟨g,m,H⟩) e (rS e (g) m H (!b) aq) (by first|rfl|simp[cf,a8,cC,cB]) aq aw (by simp[AV.renL,AV.ren]) ?_;rintro v i ρ' ⟨h,rfl⟩ j;rw[cf];generalize mn (!b) (g)=r';simp only[a8,cC,cB,id];simp[go_sem,ai];exact⟨_,⟨h,rfl⟩,aP rfl rfl rfl⟩
  ·by_cases u:f=104
   ·subst u;have k:ny 104 r=some (mT r).2:=rfl;rw[k];have c:=HC e r J H aq;generalize mT r=p at *;obtain⟨d,g⟩:=p;simp only at c⊢;simp[go_sem];refine gR (Pp:=[]) (s:=⟨r,J,H⟩) e c aq aw (by simp[AV.renL,AV.ren]) ?_;rintro v i ρ ⟨rfl,m,rfl⟩ t;rw[cf];simp only[a8,cC,cB,id];simp[go_sem,ai];exact⟨_,⟨m,rfl⟩,aP rfl rfl rfl⟩
   ·have k:ny f r=none:=by
     unfold ny;rw[if_neg o,if_neg q,if_neg u]
    rw[k];have z:¬(f:Int)=99:=aq;have i2:¬(f:Int)=100:=aq;have i3:¬(f:Int)=103:=aq;have A:¬(f:Int)=104:=aq;have y:¬f=99:=aq;have w:¬f=100:=aq;rw[cf];simp only[a8,cC,cB,id];simp[go_sem,z,i2,i3,A,y,w,q,u,ai];exact⟨_,⟨J,rfl⟩,aP rfl rfl rfl⟩
end Go.Proofs.YtmfnimjnneflnaaGreat
namespace Go.Sha
def dQ(x:Int):Prop:=0≤x∧x<18446744073709551616
def Wn(n:Nat)(l:List Int):Prop:=l.length=n∧∀x,x∈l→dQ x
def fJ{σ:Type}(f:Nat→σ→σ)(s:σ):Nat→σ
 |0=>s
 |k+1=>f k (fJ f s k)
theorem jD{σ:Type}{f:Nat→σ→σ}{s:σ}{P:Nat→σ→Prop}(b:P 0 s)(a:∀k s,P k s→P (k+1) (f k s)):∀k,P k (fJ f s k)
 |0=>b
 |k+1=>a k _ (jD b a k)
theorem pick{α β:Type}[Inhabited β]{A:α→Prop}{B:α→β→Prop}(h:∀x,A x→∃y,B x y):∃F:α→β,∀x,A x→B x (F x):=by
 classical
 refine⟨fun x=>if a:A x then(h x a).choose else default,fun x a=>?_⟩;simp only[dif_pos a];exact(h x a).choose_spec
theorem wU:dQ 0:=⟨aq,aq⟩
theorem Q8(x:Int):dQ (IntKind.u64.wrap x):=by
 have:IntKind.u64.wrap x=x%18446744073709551616:=by simp[IntKind.wrap,IntKind.bits,IntKind.signed]
 rw[this];exact⟨Int.emod_nonneg _ aq,Int.emod_lt_of_pos _ aq⟩
theorem qB{n k:Nat}{l:List Int}{x:Int}(h:Wn n l)(b:dQ x):Wn n (l.set k x):=by
 refine⟨by rw[List.length_set];exact h.1,fun y a=>?_⟩;rcases List.mem_or_eq_of_mem_set a with a|rfl;exact h.2 y a;exact b
theorem ZR(n:Nat):Wn n (List.replicate n 0):=⟨aw,fun x a=>by rw[List.eq_of_mem_replicate a];exact wU⟩
theorem Wp{n k:Nat}{l:List Int}(h:Wn n l)(c:k<n):∃x,l[k]?=some x∧dQ x:=by
 obtain⟨b,a⟩:=h;refine⟨l[k]'aq,cm aq,a _ (List.getElem_mem _)⟩
def gI(l:List Int)(k:Nat):Int:=l.getD k 0
theorem dy{n k:Nat}{l:List Int}(h:Wn n l):dQ (gI l k):=by
 unfold gI;rw[cR];by_cases b:k<n;obtain⟨x,e,a⟩:=Wp h b;rw[e];exact a;rw[List.getElem?_eq_none (by rw[h.1];omega)];exact wU
theorem jW{l:List Int}{k:Nat}(h:k<l.length):l[k]?=some (gI l k):=by
 unfold gI;rw[cR,cm h];rfl
end Go.Sha
namespace Go.Proofs.YtmfnimjnneflnaaGreat
open Go.Am Go.Sha
def cI(l:List Int):List AV:=l.map fun x=>AV.d (.int .u64 x)
theorem fq(l:List Int):(cI l).length=l.length:=by simp[cI]
theorem FP(l:List Int)(i:Nat):(cI l)[i]?=(l[i]?).map fun x=>AV.d (.int .u64 x):=by simp[cI]
theorem oh(l:List Int)(i:Nat)(x:Int):(cI l).set i (.d (.int .u64 x))=cI (l.set i x):=by simp[cI,List.map_set]
theorem aR(n:Nat)(l:List Int):∀v,v∈cI l→v.low1 n:=by
 intro v a;rw[cI,List.mem_map]at a;obtain⟨x,_,rfl⟩:=a;trivial
theorem i7(l:List Int):∀c,c∈cI l→c.deep1:=by
 intro c hc;rw[cI,List.mem_map]at hc;obtain⟨x,_,rfl⟩:=hc;trivial
theorem cM(l:List Int):(AV.agg (cI l)).deep:=i7 l
theorem aa{l:List Int}{n:Nat}(h:l.length=n):(cI l).take n=cI l:=cx (by rw[fq];omega)
theorem aG{l:List Int}{n:Nat}(h:l.length=n):(cI l).drop n=[]:=c_ (by rw[fq];omega)
theorem aI(a b:List Int):∀v,v∈[AV.agg (cI a),AV.agg (cI b)]→v.deep:=by
 intro v c;simp at c;rcases c with rfl|rfl<;>exact cM _
theorem aF(a:List Int):∀v,v∈[AV.agg (cI a)]→v.deep:=by
 intro v b;simp at b;subst b;exact cM _
def zI:List Int:=[0,0,0,0]
theorem iu:Wn 4 zI:=ZR 4
theorem o5{w:World}{S:Nat→Prop}{σ:Nat→Option Nat}{hp:Hp}{U:Nat→Prop}{k:IntKind}{n:Int}{x:Value}(h:AIs w S σ hp U (.d (.int k n)) x):x=.int k n:=by
 cases h with
 |d h=>cases h;rfl
def M8:Array Value→Sem Value:=fun args=>do
 let (x, y, b) ← Extern.MathBitsCarry.three "Sub64" args
 pure (Extern.MathBitsCarry.pair ((x+Extern.MathBitsCarry.m64-y-b)%Extern.MathBitsCarry.m64) (if x<y+b then 1 else 0))
theorem FQ{P:Program}(x y:Int)(k:Nat)(a:k≤1)(w:World) :
  (M8 #[.int .u64 x,.int .u64 y,.int .u64 (k:Int)]).run P w =
   .ok (Extern.MathBitsCarry.pair ((x.toNat+Extern.MathBitsCarry.m64-y.toNat-k)%Extern.MathBitsCarry.m64) (if x.toNat<y.toNat+k then 1 else 0)) w:=by
 have:k=0∨k=1:=aq;rcases this with rfl|rfl<;>rfl
def C1(c:Int):Prop:=0≤c∧c≤1
theorem Dt:C1 0:=⟨aq,aq⟩
theorem acK{c:Int}(h:C1 c):dQ c:=⟨h.1,by have:=h.2;omega⟩
theorem HD{w:World}{S:Nat→Prop}{σ:Nat→Option Nat}{hp:Hp}{U:Nat→Prop}{a b:Int}:AIs w S σ hp U (.tup [.d (.int .u64 a),.d (.int .u64 b)]) (.tuple #[.int .u64 a,.int .u64 b]):=by
 refine .tup _ #[.int .u64 a,.int .u64 b] rfl fun i c x hc e=>?_
 match i with
 |0=>simp at hc e;subst hc e;exact .d (.int _ _)
 |1=>simp at hc e;subst hc e;exact .d (.int _ _)
 |n+2=>simp at hc
theorem M9(x y c:Int)(g:dQ x)(h:dQ y)(hc:C1 c):∃s d:Int,dQ s∧C1 d∧s+18446744073709551616*d=x+y+c∧qM Tryz.prog 162 [.d (.int .u64 x),.d (.int .u64 y),.d (.int .u64 c)] (.tup [.d (.int .u64 s),.d (.int .u64 d)]):=by
 refine⟨(x+y+c)%18446744073709551616,(x+y+c)/18446744073709551616,⟨Int.emod_nonneg _ aq,Int.emod_lt_of_pos _ aq⟩,?_,aq,?_⟩;obtain⟨o,r⟩:=g;obtain⟨n,p⟩:=h;obtain⟨u,q⟩:=hc;exact⟨aq,aq⟩
 ·intro w S σ t U m j f
  match m,j with
  |[a,b,e],_ =>
   have i:=o5 (f 0 _ a rfl rfl);have l:=o5 (f 1 _ b rfl rfl);have k:=o5 (f 2 _ e rfl rfl);subst i l k;refine⟨_,?_,HD⟩;rw[run_callFunc_extern Tryz.func162 (by kernel_rfl) (by kernel_rfl) (by kernel_rfl) (e:=add64Entry) (by kernel_rfl),run_add64 x y c g.1 h.1 hc.1 hc.2];rfl
theorem Na(x y c:Int)(g:dQ x)(p:dQ y)(hc:C1 c):∃s d:Int,dQ s∧C1 d∧s-18446744073709551616*d=x-y-c∧qM Tryz.prog 179 [.d (.int .u64 x),.d (.int .u64 y),.d (.int .u64 c)] (.tup [.d (.int .u64 s),.d (.int .u64 d)]):=by
 obtain⟨k,rfl⟩:=Int.eq_ofNat_of_zero_le hc.1;have i:k≤1:=by have:=hc.2;omega
 refine⟨((((x.toNat+Extern.MathBitsCarry.m64-y.toNat-k)%Extern.MathBitsCarry.m64:Nat)):Int),(((if x.toNat<y.toNat+k then 1 else 0:Nat)):Int),?_,?_,?_,?_⟩;have l:(x.toNat+Extern.MathBitsCarry.m64-y.toNat-k)%Extern.MathBitsCarry.m64<Extern.MathBitsCarry.m64:=Nat.mod_lt _ (by decide);have e:Extern.MathBitsCarry.m64=18446744073709551616:=by decide
 exact⟨Int.natCast_nonneg _,by rw[e]at l⊢;omega⟩;split;exact⟨aq,aq⟩;exact⟨aq,aq⟩;have e:Extern.MathBitsCarry.m64=18446744073709551616:=by decide
 obtain⟨r,u⟩:=g;obtain⟨q,t⟩:=p;rw[e];split<;>omega
 ·intro w S σ v U o j f
  match o,j with
  |[a,b,e],_ =>
   have h:=o5 (f 0 _ a rfl rfl);have n:=o5 (f 1 _ b rfl rfl);have m:=o5 (f 2 _ e rfl rfl);subst h n m;refine⟨_,?_,HD⟩;rw[run_callFunc_extern Tryz.func179 (by kernel_rfl) (by kernel_rfl) (by kernel_rfl) (e:=M8) (by kernel_rfl),FQ x y k i];rfl
theorem Nb(z:Int)(a:0≤z)(b:z<18446744073709551616):Go.bits .and .u64 z 4294967295=z%4294967296:=by
 obtain⟨n,rfl⟩:=Int.eq_ofNat_of_zero_le a;have h:=bits_and_u64_nat n 4294967295 aq aq;rw[nat_mask32]at h;rw[Int.natCast_emod]at h;exact h
theorem Nc(x y:Int)(b:dQ x)(a:dQ y):∃s d:Int,dQ s∧dQ d∧d+18446744073709551616*s=x*y∧ap Tryz.prog 187 [.d (.int .u64 x),.d (.int .u64 y)] (fun r=>r=.tup [.d (.int .u64 s),.d (.int .u64 d)]):=by
 have Q:0≤x*y∧x*y≤18446744073709551615*18446744073709551615:=⟨Int.mul_nonneg b.1 a.1,by
  have L:=b.2;have O:=a.2;have E:=a.1
  exact Int.mul_le_mul aq aq E aq⟩
 have M:=mul64_arith x y b.1 b.2 a.1 a.2;have w:∀z,IntKind.u64.wrap z=z%18446744073709551616:=fun z=>by simp[IntKind.wrap,IntKind.bits,IntKind.signed]
 refine⟨x*y/18446744073709551616,x*y%18446744073709551616,⟨aq,aq⟩,⟨Int.emod_nonneg _ aq,Int.emod_lt_of_pos _ aq⟩,aq,?_⟩;refine bz Tryz.func187 Tryz.ntmps187 (rs:=[.tmp 4,.tmp 5]) a9 ?_;simp[go_sem,ai,IntKind.bits,w];refine ae a9 ?_;have k:∀z:Int,Int.fdiv z 4294967296=z/4294967296:=fun z=>Int.fdiv_eq_ediv_of_nonneg _ aq;have v:∀z:Int,Go.bits .and .u64 (z%18446744073709551616) 4294967295=z%18446744073709551616%4294967296:=fun z=>Nb _ (Int.emod_nonneg _ aq) (Int.emod_lt_of_pos _ aq);simp only[k,Nb x b.1 b.2,Nb y a.1 a.2,v]
 have e:∀A B C D:Int,0≤A∧A≤18446744065119617025→0≤B∧B≤18446744065119617025→0≤C∧C≤18446744065119617025→0≤D∧D≤18446744065119617025 →
   (A+(B+C%18446744073709551616/4294967296)%18446744073709551616/4294967296+((B+C%18446744073709551616/4294967296)%18446744073709551616%4294967296+D)%18446744073709551616/4294967296)%18446744073709551616=(A*18446744073709551616+(B+D)*4294967296+C)/18446744073709551616:=by
  intro A B C D P N K J;omega
 obtain⟨c,h,i,t,p,q,l⟩:∃c h:Int,x=c*4294967296+h∧0≤c∧c≤4294967295∧0≤h∧h≤4294967295:=⟨x/4294967296,x%4294967296,aq,by have:=b.1;omega,by have:=b.2;omega,aq,aq⟩;obtain⟨f,g,j,m,o,u,n⟩:∃f g:Int,y=f*4294967296+g∧0≤f∧f≤4294967295∧0≤g∧g≤4294967295:=⟨y/4294967296,y%4294967296,aq,by have:=a.1;omega,by have:=a.2;omega,aq,aq⟩;have I:x/4294967296=c:=aq;have F:x%4294967296=h:=aq;have H:y/4294967296=f:=aq;have G:y%4294967296=g:=aq;rw[I,F,H,G,e _ _ _ _ (prod_bound c f t p m o) (prod_bound c g t p u n) (prod_bound h g q l u n) (prod_bound h f q l m o),←split_mul,←i,←j]
theorem AI(x:Int):IntKind.u64.wrap x=x%18446744073709551616:=by simp[IntKind.wrap,IntKind.bits,IntKind.signed]
def mo(A:Int×Int×Int→Int×Int)(a b:List Int)(k:Nat)(s:List Int×Int):List Int×Int :=
 (s.1.set k (A (gI a k,gI b k,s.2)).1,(A (gI a k,gI b k,s.2)).2)
def xU(A:Int×Int×Int→Int×Int)(M:Int×Int→Int×Int)(a:List Int)(k:Nat)(s:List Int×Int):List Int×Int :=
 (s.1.set k (A ((M (gI a k,4294968273)).2,s.2,0)).1,IntKind.u64.wrap ((M (gI a k,4294968273)).1+(A ((M (gI a k,4294968273)).2,s.2,0)).2))
def Ew:List Int:=[0,0,0,0,0,0,0,0]
theorem ZS:Wn 8 Ew:=ZR 8
def pl(i k:Nat):Nat:=i+k
def Du(A:Int×Int×Int→Int×Int)(M:Int×Int→Int×Int)(a b:List Int)(i k:Nat)(s:List Int×Int):List Int×Int :=
 (s.1.set (pl i k) (A ((A ((M (gI a i,gI b k)).2,gI s.1 (pl i k),0)).1,s.2,0)).1,IntKind.u64.wrap (IntKind.u64.wrap ((M (gI a i,gI b k)).1+(A ((M (gI a i,gI b k)).2,gI s.1 (pl i k),0)).2)+(A ((A ((M (gI a i,gI b k)).2,gI s.1 (pl i k),0)).1,s.2,0)).2))
def rT(A:Int×Int×Int→Int×Int)(M:Int×Int→Int×Int)(a b:List Int)(i:Nat)(p:List Int):List Int :=
 (fJ (Du A M a b i) (p,0) 4).1.set (pl i 4) (fJ (Du A M a b i) (p,0) 4).2
def V:List Int→Int
 |[]=>0
 |x::r=>x+18446744073709551616*V r
theorem V4(a b c d:Int):V [a,b,c,d]=a+18446744073709551616*(b+18446744073709551616*(c+18446744073709551616*d)):=by simp[V]
theorem jX{l:List Int}(h:Wn 4 l):∃a b c d,l=[a,b,c,d]∧dQ a∧dQ b∧dQ c∧dQ d:=by
 obtain⟨f,e⟩:=h
 match l,f with
 |[a,b,c,d],_=>exact⟨a,b,c,d,rfl,e a aw,e b aw,e c aw,e d aw⟩
theorem eC{l:List Int}(h:Wn 4 l):0≤V l∧V l<115792089237316195423570985008687907853269984665640564039457584007913129639936:=by
 obtain⟨a,b,c,d,rfl,g,e,hc,f⟩:=jX h;rw[V4];unfold dQ at *;omega
theorem Dv{l m:List Int}(h:Wn 4 l)(u:Wn 4 m)(e:V l=V m):l=m:=by
 obtain⟨a,b,c,d,rfl,v,w,hc,x⟩:=jX h;obtain⟨s,n,g,r,rfl,i,f,p,o⟩:=jX u;rw[V4,V4]at e;unfold dQ at *;have k:a=s:=aq;have q:b=n:=aq;have j:c=g:=aq;have t:d=r:=aq;rw[k,q,j,t]
def Jo(A:Int×Int×Int→Int×Int):Prop:=∀x,dQ x.1∧dQ x.2.1∧C1 x.2.2→dQ (A x).1∧C1 (A x).2∧(A x).1+18446744073709551616*(A x).2=x.1+x.2.1+x.2.2
def ZT(A:Int×Int×Int→Int×Int):Prop:=∀x,dQ x.1∧dQ x.2.1∧C1 x.2.2→dQ (A x).1∧C1 (A x).2∧(A x).1-18446744073709551616*(A x).2=x.1-x.2.1-x.2.2
def Nh(M:Int×Int→Int×Int):Prop:=∀x,dQ x.1∧dQ x.2→dQ (M x).1∧dQ (M x).2∧(M x).2+18446744073709551616*(M x).1=x.1*x.2
theorem acL{A:Int×Int×Int→Int×Int}(j:Jo A){a b:List Int}(v:Wn 4 a)(y:Wn 4 b) :
  V (fJ (mo A a b) (zI,0) 4).1+115792089237316195423570985008687907853269984665640564039457584007913129639936*(fJ (mo A a b) (zI,0) 4).2=V a+V b:=by
 obtain⟨d,f,h,i,rfl,m,o,q,n⟩:=jX v;obtain⟨c,g,b2,b3,rfl,l,k,r,p⟩:=jX y;have x:C1 0:=⟨aq,aq⟩;have s:=j (d,c,0) ⟨m,l,x⟩;have t:=j (f,g,(A (d,c,0)).2) ⟨o,k,s.2.1⟩;have u:=j (h,b2,(A (f,g,(A (d,c,0)).2)).2) ⟨q,r,t.2.1⟩;have w:=j (i,b3,(A (h,b2,(A (f,g,(A (d,c,0)).2)).2)).2) ⟨n,p,u.2.1⟩;have e:fJ (mo A [d,f,h,i] [c,g,b2,b3]) (zI,0) 4=([(A (d,c,0)).1,(A (f,g,(A (d,c,0)).2)).1,(A (h,b2,(A (f,g,(A (d,c,0)).2)).2)).1,(A (i,b3,(A (h,b2,(A (f,g,(A (d,c,0)).2)).2)).2)).1],(A (i,b3,(A (h,b2,(A (f,g,(A (d,c,0)).2)).2)).2)).2):=rfl;rw[e,V4,V4,V4];generalize A (i,b3,(A (h,b2,(A (f,g,(A (d,c,0)).2)).2)).2)=q3 at *;generalize A (h,b2,(A (f,g,(A (d,c,0)).2)).2)=q2 at *;generalize A (f,g,(A (d,c,0)).2)=q1 at *;generalize A (d,c,0)=q0 at *;obtain⟨_,_,z⟩:=s;obtain⟨_,_,C⟩:=t;obtain⟨_,_,D⟩:=u;obtain⟨_,_,B⟩:=w;dsimp only at *;omega
theorem acM{A:Int×Int×Int→Int×Int}(j:ZT A){a b:List Int}(v:Wn 4 a)(y:Wn 4 b) :
  V (fJ (mo A a b) (zI,0) 4).1-115792089237316195423570985008687907853269984665640564039457584007913129639936*(fJ (mo A a b) (zI,0) 4).2=V a-V b:=by
 obtain⟨d,f,h,i,rfl,m,o,q,n⟩:=jX v;obtain⟨c,g,b2,b3,rfl,l,k,r,p⟩:=jX y;have x:C1 0:=⟨aq,aq⟩;have s:=j (d,c,0) ⟨m,l,x⟩;have t:=j (f,g,(A (d,c,0)).2) ⟨o,k,s.2.1⟩;have u:=j (h,b2,(A (f,g,(A (d,c,0)).2)).2) ⟨q,r,t.2.1⟩;have w:=j (i,b3,(A (h,b2,(A (f,g,(A (d,c,0)).2)).2)).2) ⟨n,p,u.2.1⟩;have e:fJ (mo A [d,f,h,i] [c,g,b2,b3]) (zI,0) 4=([(A (d,c,0)).1,(A (f,g,(A (d,c,0)).2)).1,(A (h,b2,(A (f,g,(A (d,c,0)).2)).2)).1,(A (i,b3,(A (h,b2,(A (f,g,(A (d,c,0)).2)).2)).2)).1],(A (i,b3,(A (h,b2,(A (f,g,(A (d,c,0)).2)).2)).2)).2):=rfl;rw[e,V4,V4,V4];generalize A (i,b3,(A (h,b2,(A (f,g,(A (d,c,0)).2)).2)).2)=q3 at *;generalize A (h,b2,(A (f,g,(A (d,c,0)).2)).2)=q2 at *;generalize A (f,g,(A (d,c,0)).2)=q1 at *;generalize A (d,c,0)=q0 at *;obtain⟨_,_,z⟩:=s;obtain⟨_,_,C⟩:=t;obtain⟨_,_,D⟩:=u;obtain⟨_,_,B⟩:=w;dsimp only at *;omega
theorem HE{A:Int×Int×Int→Int×Int}{M:Int×Int→Int×Int}(d:Jo A)(h:Nh M){x y p c:Int}(a:dQ x)(e:dQ y)(hp:dQ p)(hc:dQ c) :
  dQ (A ((A ((M (x,y)).2,p,0)).1,c,0)).1∧dQ (IntKind.u64.wrap (IntKind.u64.wrap ((M (x,y)).1+(A ((M (x,y)).2,p,0)).2)+(A ((A ((M (x,y)).2,p,0)).1,c,0)).2)) ∧
  (A ((A ((M (x,y)).2,p,0)).1,c,0)).1+18446744073709551616*IntKind.u64.wrap (IntKind.u64.wrap ((M (x,y)).1+(A ((M (x,y)).2,p,0)).2)+(A ((A ((M (x,y)).2,p,0)).1,c,0)).2)=x*y+p+c:=by
 have b:C1 0:=⟨aq,aq⟩;obtain⟨n,j,k⟩:=h (x,y) ⟨a,e⟩;generalize M (x,y)=m at *;obtain⟨g,o,l⟩:=d (m.2,p,0) ⟨j,hp,b⟩;generalize A (m.2,p,0)=q at *;obtain⟨f,k2,k3⟩:=d (q.1,c,0) ⟨g,hc,b⟩;generalize A (q.1,c,0)=r at *;have i:x*y≤18446744073709551615*18446744073709551615:=by
  unfold dQ at a e;exact Int.mul_le_mul aq aq aq aq
 dsimp only at *;simp only[AI]at *;unfold dQ C1 at *;generalize x*y=z at *;refine⟨f,⟨aq,aq⟩,aq⟩
theorem yX{l:List Int}{i j:Nat}{x:Int}(h:i≠j):gI (l.set i x) j=gI l j:=by
 unfold gI;rw[cR,cR,List.getElem?_set_ne h]
theorem Dw{n:Nat}{l:List Int}(h:Wn n l)(k:Nat):dQ (gI l k):=by
 unfold gI;rw[cR];cases e:l[k]? with
 |none=>exact⟨aw,aw⟩
 |some x=>exact h.2 x (cr e)
theorem Q9{A:Int×Int×Int→Int×Int}{M:Int×Int→Int×Int}(h:Jo A)(g:Nh M){a b p:List Int}(w:Wn 4 a)(N:Wn 4 b)(hp:Wn 8 p)(i:Nat) :
  ∃r0 r1 r2 r3 c,dQ r0∧dQ r1∧dQ r2∧dQ r3∧dQ c ∧
   r0+18446744073709551616*(r1+18446744073709551616*(r2+18446744073709551616*(r3+18446744073709551616*c)))=gI a i*V b+(gI p i+18446744073709551616*(gI p (i+1)+18446744073709551616*(gI p (i+2)+18446744073709551616*gI p (i+3)))) ∧
   rT A M a b i p=((((p.set i r0).set (i+1) r1).set (i+2) r2).set (i+3) r3).set (i+4) c:=by
 obtain⟨d,e,b2,b3,rfl,m,j,q,o⟩:=jX N;have f:=Dw w i;generalize k:gI a i=x at *;have z:dQ 0:=⟨aq,aq⟩;obtain⟨O,P,s⟩:=HE h g f m (Dw hp i) z;obtain⟨L,J,r⟩:=HE h g f j (Dw hp (i+1)) P;obtain⟨B,u2,u3⟩:=HE h g f q (Dw hp (i+2)) J;obtain⟨Q,R,t⟩:=HE h g f o (Dw hp (i+3)) u2;refine⟨_,_,_,_,_,O,L,B,Q,R,?_,?_⟩;have n:∀u v:Int,x*(u+18446744073709551616*v)=x*u+18446744073709551616*(x*v):=fun u v=>by rw[Int.mul_add,Int.mul_left_comm]
 rw[V4,n,n,n];revert s r u3 t;generalize gI p i=p0;generalize gI p (i+1)=p1;generalize gI p (i+2)=p2;generalize gI p (i+3)=p3;generalize x*d=y0;generalize x*e=y1;generalize x*b2=y2;generalize x*b3=y3;intro s r u3 t;omega;have F:∀(l:List Int)(y:Int),gI (l.set i y) (i+1)=gI l (i+1):=fun l y=>yX aq;have T:∀(l:List Int)(y:Int),gI (l.set i y) (i+2)=gI l (i+2):=fun l y=>yX aq;have H:∀(l:List Int)(y:Int),gI (l.set i y) (i+3)=gI l (i+3):=fun l y=>yX aq;have D:∀(l:List Int)(y:Int),gI (l.set (i+1) y) (i+2)=gI l (i+2):=fun l y=>yX aq;have C:∀(l:List Int)(y:Int),gI (l.set (i+1) y) (i+3)=gI l (i+3):=fun l y=>yX aq;have G:∀(l:List Int)(y:Int),gI (l.set (i+2) y) (i+3)=gI l (i+3):=fun l y=>yX aq;have E:gI [d,e,b2,b3] 0=d:=rfl;have I:gI [d,e,b2,b3] 1=e:=rfl;have K:gI [d,e,b2,b3] 2=b2:=rfl;have S:gI [d,e,b2,b3] 3=b3:=rfl;simp only[rT,fJ,Du,pl,k,E,I,K,S,F,T,H,D,C,G,Nat.add_zero]
theorem Ni{A:Int×Int×Int→Int×Int}{M:Int×Int→Int×Int}(F:Jo A)(E:Nh M){a b:List Int}(u:Wn 4 a)(D:Wn 4 b) :
  Wn 8 (fJ (rT A M a b) Ew 4)∧V (fJ (rT A M a b) Ew 4)=V a*V b:=by
 obtain⟨f,h,j,i,rfl,af,S,U,ag⟩:=jX u;have z:dQ 0:=⟨aq,aq⟩;have R:Wn 8 Ew:=⟨rfl,fun x c=>by simp[Ew]at c;subst c;exact z⟩;obtain⟨d,r,w,t,o,am,aa,Z,ac,ak,e0,f0⟩:=Q9 F E u D R 0;have I:rT A M [f,h,j,i] b 0 Ew=[d,r,w,t,o,0,0,0]:=f0;have w1:Wn 8 [d,r,w,t,o,0,0,0]:=⟨rfl,fun x c=>by simp at c;rcases c with rfl|rfl|rfl|rfl|rfl|rfl<;>assumption⟩;obtain⟨g,q,C,n,B,N,ad,P,Y,ap,e1,f1⟩:=Q9 F E u D w1 1;have J:rT A M [f,h,j,i] b 1 [d,r,w,t,o,0,0,0]=[d,g,q,C,n,B,0,0]:=f1;have w2:Wn 8 [d,g,q,C,n,B,0,0]:=⟨rfl,fun x c=>by simp at c;rcases c with rfl|rfl|rfl|rfl|rfl|rfl|rfl<;>assumption⟩;obtain⟨l,p,s,y,c2,ah,X,aj,al,ao,e2,f2⟩:=Q9 F E u D w2 2;have G:rT A M [f,h,j,i] b 2 [d,g,q,C,n,B,0,0]=[d,g,l,p,s,y,c2,0]:=f2;have W:Wn 8 [d,g,l,p,s,y,c2,0]:=⟨rfl,fun x c=>by simp at c;rcases c with rfl|rfl|rfl|rfl|rfl|rfl|rfl|rfl<;>assumption⟩;obtain⟨v,m,u2,u3,c3,O,an,Q,L,ab,e3,K⟩:=Q9 F E u D W 3;have H:rT A M [f,h,j,i] b 3 [d,g,l,p,s,y,c2,0]=[d,g,l,v,m,u2,u3,c3]:=K
 have e:fJ (rT A M [f,h,j,i] b) Ew 4=[d,g,l,v,m,u2,u3,c3]:=by
  simp only[fJ];rw[I,J,G,H]
 rw[e];refine⟨⟨rfl,fun x c=>by simp at c;rcases c with rfl|rfl|rfl|rfl|rfl|rfl|rfl|rfl<;>assumption⟩,?_⟩
 have k:V [f,h,j,i]*V b=f*V b+18446744073709551616*(h*V b+18446744073709551616*(j*V b+18446744073709551616*(i*V b))):=by
  rw[V4,Int.add_mul,Int.mul_assoc,Int.add_mul,Int.mul_assoc,Int.add_mul,Int.mul_assoc]
 have k2:V [d,g,l,v,m,u2,u3,c3]=d+18446744073709551616*(g+18446744073709551616*(l+18446744073709551616*(v+18446744073709551616*(m+18446744073709551616*(u2+18446744073709551616*(u3+18446744073709551616*c3)))))):=by simp[V]
 rw[k,k2];have g0:gI [f,h,j,i] 0*V b+(0+18446744073709551616*(0+18446744073709551616*(0+18446744073709551616*0)))=f*V b:=by show f*V b+_=_;omega
 have ai:d+18446744073709551616*(r+18446744073709551616*(w+18446744073709551616*(t+18446744073709551616*o)))=f*V b:=e0.trans g0;have ae:g+18446744073709551616*(q+18446744073709551616*(C+18446744073709551616*(n+18446744073709551616*B)))=h*V b+(r+18446744073709551616*(w+18446744073709551616*(t+18446744073709551616*o))):=e1;have T:l+18446744073709551616*(p+18446744073709551616*(s+18446744073709551616*(y+18446744073709551616*c2)))=j*V b+(q+18446744073709551616*(C+18446744073709551616*(n+18446744073709551616*B))):=e2;have ar:v+18446744073709551616*(m+18446744073709551616*(u2+18446744073709551616*(u3+18446744073709551616*c3)))=i*V b+(p+18446744073709551616*(s+18446744073709551616*(y+18446744073709551616*c2))):=e3;generalize f*V b=y0 at *;generalize h*V b=y1 at *;generalize j*V b=y2 at *;generalize i*V b=y3 at *;omega
theorem Rb{A:Int×Int×Int→Int×Int}{M:Int×Int→Int×Int}(D:Jo A)(w:Nh M){a:List Int}(o:Wn 4 a) :
  V (fJ (xU A M a) (zI,0) 4).1+115792089237316195423570985008687907853269984665640564039457584007913129639936*(fJ (xU A M a) (zI,0) 4).2=V a*4294968273:=by
 obtain⟨f,b,g,d,rfl,h,j,k,i⟩:=jX o;have z:dQ 0:=⟨aq,aq⟩;have B:C1 0:=⟨aq,aq⟩;have n:dQ 4294968273:=⟨aq,aq⟩;have one:∀x c:Int,dQ x→dQ c→dQ (A ((M (x,4294968273)).2,c,0)).1∧dQ (IntKind.u64.wrap ((M (x,4294968273)).1+(A ((M (x,4294968273)).2,c,0)).2)) ∧
   (A ((M (x,4294968273)).2,c,0)).1+18446744073709551616*IntKind.u64.wrap ((M (x,4294968273)).1+(A ((M (x,4294968273)).2,c,0)).2)=x*4294968273+c:=by
  intro x c l hc;obtain⟨N,G,J⟩:=w (x,4294968273) ⟨l,n⟩;generalize M (x,4294968273)=m at *;obtain⟨u,T,L⟩:=D (m.2,c,0) ⟨G,hc,B⟩;generalize A (m.2,c,0)=q at *;dsimp only at *;simp only[AI]at *;unfold dQ C1 at *;refine⟨u,⟨aq,aq⟩,aq⟩
 obtain⟨P,E,K⟩:=one f 0 h z;obtain⟨O,y,H⟩:=one b _ j E;obtain⟨I,u2,u3⟩:=one g _ k y;obtain⟨Q,R,S⟩:=one d _ i u2;have t:gI [f,b,g,d] 0=f:=rfl;have v:gI [f,b,g,d] 1=b:=rfl;have C:gI [f,b,g,d] 2=g:=rfl;have F:gI [f,b,g,d] 3=d:=rfl;have e:∀p q r s:Int,List.set (List.set (List.set (List.set zI 0 p) 1 q) 2 r) 3 s=[p,q,r,s]:=fun _ _ _ _=>rfl;simp only[fJ,xU,t,v,C,F,e,V4];omega
theorem acN:fK Tryz.prog 96=some (cI zI):=by kernel_rfl
attribute [go_sem] acN
theorem Wq:zI.length=4:=rfl
attribute [go_sem] Wq fq FP
theorem AK{Q:AV→Prop}{st:St}{a:List Int}{b:Int}(hq:Q (.tup [.agg (cI a),.d (.int .u64 b)])):dm Q (.tup [.agg (cI a),.d (.int .u64 b)]) st :=
 ae (by
  intro c hc;simp at hc;rcases hc with rfl|rfl;exact .inr ⟨_,rfl,i7 _⟩
  exact .inl trivial) hq
theorem Ws:∃A:Int×Int×Int→Int×Int,Jo A∧∀x,(dQ x.1∧dQ x.2.1∧C1 x.2.2)→dQ (A x).1∧C1 (A x).2∧qM Tryz.prog 162 [.d (.int .u64 x.1),.d (.int .u64 x.2.1),.d (.int .u64 x.2.2)] (.tup [.d (.int .u64 (A x).1),.d (.int .u64 (A x).2)]):=by
 obtain⟨A,b⟩:=pick (α:=Int×Int×Int) (β:=Int×Int) (A:=fun x=>dQ x.1∧dQ x.2.1∧C1 x.2.2) (B:=fun x y=>dQ y.1∧C1 y.2∧y.1+18446744073709551616*y.2=x.1+x.2.1+x.2.2∧qM Tryz.prog 162 [.d (.int .u64 x.1),.d (.int .u64 x.2.1),.d (.int .u64 x.2.2)] (.tup [.d (.int .u64 y.1),.d (.int .u64 y.2)])) (fun x a=>by
  obtain⟨s,d,c,g,e,f⟩:=M9 x.1 x.2.1 x.2.2 a.1 a.2.1 a.2.2
  exact⟨(s,d),c,g,e,f⟩)
 exact⟨A,fun x a=>⟨(b x a).1,(b x a).2.1,(b x a).2.2.1⟩,fun x a=>⟨(b x a).1,(b x a).2.1,(b x a).2.2.2⟩⟩
theorem acO:∃A:Int×Int×Int→Int×Int,ZT A∧∀x,(dQ x.1∧dQ x.2.1∧C1 x.2.2)→dQ (A x).1∧C1 (A x).2∧qM Tryz.prog 179 [.d (.int .u64 x.1),.d (.int .u64 x.2.1),.d (.int .u64 x.2.2)] (.tup [.d (.int .u64 (A x).1),.d (.int .u64 (A x).2)]):=by
 obtain⟨A,b⟩:=pick (α:=Int×Int×Int) (β:=Int×Int) (A:=fun x=>dQ x.1∧dQ x.2.1∧C1 x.2.2) (B:=fun x y=>dQ y.1∧C1 y.2∧y.1-18446744073709551616*y.2=x.1-x.2.1-x.2.2∧qM Tryz.prog 179 [.d (.int .u64 x.1),.d (.int .u64 x.2.1),.d (.int .u64 x.2.2)] (.tup [.d (.int .u64 y.1),.d (.int .u64 y.2)])) (fun x a=>by
  obtain⟨s,d,c,g,e,f⟩:=Na x.1 x.2.1 x.2.2 a.1 a.2.1 a.2.2
  exact⟨(s,d),c,g,e,f⟩)
 exact⟨A,fun x a=>⟨(b x a).1,(b x a).2.1,(b x a).2.2.1⟩,fun x a=>⟨(b x a).1,(b x a).2.1,(b x a).2.2.2⟩⟩
theorem ZU:∃M:Int×Int→Int×Int,∀x,dQ (M x).1∧dQ (M x).2∧(dQ x.1∧dQ x.2→(M x).2+18446744073709551616*(M x).1=x.1*x.2∧ap Tryz.prog 187 [.d (.int .u64 x.1),.d (.int .u64 x.2)] (fun r=>r=.tup [.d (.int .u64 (M x).1),.d (.int .u64 (M x).2)])):=by
 obtain⟨M,e⟩:=pick (α:=Int×Int) (β:=Int×Int) (A:=fun _=>True) (B:=fun x y=>dQ y.1∧dQ y.2∧(dQ x.1∧dQ x.2→y.2+18446744073709551616*y.1=x.1*x.2∧ap Tryz.prog 187 [.d (.int .u64 x.1),.d (.int .u64 x.2)] (fun r=>r=.tup [.d (.int .u64 y.1),.d (.int .u64 y.2)]))) (fun x _=>by
  by_cases a:dQ x.1∧dQ x.2;obtain⟨s,d,b,g,c,f⟩:=Nc x.1 x.2 a.1 a.2;exact⟨(s,d),b,g,fun _=>⟨c,f⟩⟩
  exact⟨(0,0),wU,wU,fun h=>absurd h a⟩)
 exact⟨M,fun x=>e x trivial⟩
theorem HF{M:Int×Int→Int×Int}{C:Int×Int→Prop}(a:∀x,dQ (M x).1∧dQ (M x).2∧(dQ x.1∧dQ x.2→(M x).2+18446744073709551616*(M x).1=x.1*x.2∧C x)):Nh M :=
 fun x b=>⟨(a x).1,(a x).2.1,((a x).2.2 b).1⟩
theorem jE(a b:List Int)(t:Wn 4 a)(u:Wn 4 b):∃(s:List Int)(c:Int),Wn 4 s∧C1 c∧V s+115792089237316195423570985008687907853269984665640564039457584007913129639936*c=V a+V b∧ap Tryz.prog 131 [.agg (cI a),.agg (cI b)] (fun r=>r=.tup [.agg (cI s),.d (.int .u64 c)]):=by
 obtain⟨A,w,H⟩:=Ws;have v:∀k,Wn 4 (fJ (mo A a b) (zI,0) k).1∧C1 (fJ (mo A a b) (zI,0) k).2:=jD (P:=fun _(s:List Int×Int)=>Wn 4 s.1∧C1 s.2) ⟨iu,Dt⟩ fun k s E=>by
  obtain⟨D,F,_⟩:=H (gI a k,gI b k,s.2) ⟨dy t,dy u,E.2⟩;exact⟨qB E.1 D,F⟩
 refine⟨(fJ (mo A a b) (zI,0) 4).1,(fJ (mo A a b) (zI,0) 4).2,(v 4).1,(v 4).2,acL w t u,?_⟩;refine bz Tryz.func131 Tryz.ntmps131 (rs:=[.cell 4 96,.tmp 5]) (aI a b) ?_;have f:=t.1;have i:=u.1;simp[go_sem,f,i,aa f,aa i];generalize q:fJ (mo A a b) (zI,0)=S at *
 refine au (fun k:Nat=>⟨[(2,.ptr 0 0 0 1),(3,.ptr 32 0 0 1),(4,.ptr 64 0 0 1),(6,.ptr 128 0 0 1),(7,.d (.int .u64 (S k).2)),(9,.d (.int .i64 (k:Int)))],[(128,⟨96,4,[cI (S k).1]⟩),(64,⟨96,4,[cI zI]⟩),(32,⟨96,4,[cI b]⟩),(0,⟨96,4,[cI a]⟩)],1000⟩)
  (fun k=>k≤4) (fun k=>4-k) 0 aq (by
   rw[←q];simp[av,ah,fv,lk,AV.low,AV.low1,fJ]
   and_intros<;>first|rfl|exact aR _ _) ?_
 intro k K;obtain⟨x,B⟩:=v k;have g:=x.1;have J:=az (k:=k) aq;simp only[go_sem,Nat.reduceEqDiff,Nat.reduceAdd,Nat.reduceLT,↓reduceIte];by_cases z:k<4
 ·refine⟨fun h=>?_,fun h=>absurd (by exact_mod_cast z) h⟩;have o:=jW (l:=a) (k:=k) aq;have p:=jW (l:=b) (k:=k) aq;have m:S (k+1)=mo A a b k (S k):=by rw[←q];rfl
  obtain⟨D,F,h3⟩:=H (gI a k,gI b k,(S k).2) ⟨dy t,dy u,B⟩;simp only[mo]at m;generalize A (gI a k,gI b k,(S k).2)=y at *;have e:(k:Int)<4:=aq;refine cO [0,1,2,3,4,5,6,7] [8,11,13,14] [0,1,2,3,4,5,6,7,9,10,12] (.step 8 [9,10,12] true (.alt (bt 11 (a_ [13,14])) (a_ [13,11,14]))) ⟨[(2,.ptr 0 0 0 1),(3,.ptr 32 0 0 1),(4,.ptr 64 0 0 1),(6,.ptr 128 0 0 1),(7,.d (.int .u64 y.2)),(9,.d (.int .i64 (k:Int)))],[(128,⟨96,4,[cI ((S k).1.set k y.1)]⟩),(64,⟨96,4,[cI zI]⟩),(32,⟨96,4,[cI b]⟩),(0,⟨96,4,[cI a]⟩)],9000⟩ (k:=15) ?h3 ?hq
  case h3 =>
   intro G I;have C:∀j:Fr,(fv 2 j=.ptr 0 0 0 1∧fv 3 j=.ptr 32 0 0 1∧fv 4 j=.ptr 64 0 0 1∧fv 6 j=.ptr 128 0 0 1∧fv 7 j=.d (.int .u64 y.2)∧fv 9 j=.d (.int .i64 (k:Int)))→G j [(128,⟨96,4,[cI ((S k).1.set k y.1)]⟩),(64,⟨96,4,[cI zI]⟩),(32,⟨96,4,[cI b]⟩),(0,⟨96,4,[cI a]⟩)]:=by
    rintro j⟨N,L,R,Q,M,O⟩;exact I _ _ pD
   simp[go_sem,o,p,f,i,g,cZ,e];refine sQ h3 ?_;simp[go_sem,o,p,f,i,g,oh,cZ,e];and_intros<;>first|exact z|exact C _ ⟨rfl,rfl,rfl,rfl,rfl,rfl⟩|(refine C _ ?_;simp[fv,lk])
  case hq =>
   simp[go_sem,J];refine am (k+1) aq aq ?_;rw[m];simp[av,ah,fv,lk,AV.low,AV.low1];and_intros<;>exact aR _ _
 ·refine⟨fun h=>absurd (by exact_mod_cast h) z,fun h=>?_⟩;have e:k=4:=aq;subst e;simp[go_sem,g,aa g,aG (l:=zI) (n:=4) rfl,ai];exact AK rfl
theorem lu(a b:List Int)(t:Wn 4 a)(u:Wn 4 b):∃(s:List Int)(c:Int),Wn 4 s∧C1 c∧V s-115792089237316195423570985008687907853269984665640564039457584007913129639936*c=V a-V b∧ap Tryz.prog 157 [.agg (cI a),.agg (cI b)] (fun r=>r=.tup [.agg (cI s),.d (.int .u64 c)]):=by
 obtain⟨A,w,H⟩:=acO;have v:∀k,Wn 4 (fJ (mo A a b) (zI,0) k).1∧C1 (fJ (mo A a b) (zI,0) k).2:=jD (P:=fun _(s:List Int×Int)=>Wn 4 s.1∧C1 s.2) ⟨iu,Dt⟩ fun k s E=>by
  obtain⟨D,F,_⟩:=H (gI a k,gI b k,s.2) ⟨dy t,dy u,E.2⟩;exact⟨qB E.1 D,F⟩
 refine⟨(fJ (mo A a b) (zI,0) 4).1,(fJ (mo A a b) (zI,0) 4).2,(v 4).1,(v 4).2,acM w t u,?_⟩;refine bz Tryz.func157 Tryz.ntmps157 (rs:=[.cell 4 96,.tmp 5]) (aI a b) ?_;have f:=t.1;have i:=u.1;simp[go_sem,f,i,aa f,aa i];generalize q:fJ (mo A a b) (zI,0)=S at *
 refine au (fun k:Nat=>⟨[(2,.ptr 0 0 0 1),(3,.ptr 32 0 0 1),(4,.ptr 64 0 0 1),(6,.ptr 128 0 0 1),(7,.d (.int .u64 (S k).2)),(9,.d (.int .i64 (k:Int)))],[(128,⟨96,4,[cI (S k).1]⟩),(64,⟨96,4,[cI zI]⟩),(32,⟨96,4,[cI b]⟩),(0,⟨96,4,[cI a]⟩)],1000⟩)
  (fun k=>k≤4) (fun k=>4-k) 0 aq (by
   rw[←q];simp[av,ah,fv,lk,AV.low,AV.low1,fJ]
   and_intros<;>first|rfl|exact aR _ _) ?_
 intro k K;obtain⟨x,B⟩:=v k;have g:=x.1;have J:=az (k:=k) aq;simp only[go_sem,Nat.reduceEqDiff,Nat.reduceAdd,Nat.reduceLT,↓reduceIte];by_cases z:k<4
 ·refine⟨fun h=>?_,fun h=>absurd (by exact_mod_cast z) h⟩;have o:=jW (l:=a) (k:=k) aq;have p:=jW (l:=b) (k:=k) aq;have m:S (k+1)=mo A a b k (S k):=by rw[←q];rfl
  obtain⟨D,F,h3⟩:=H (gI a k,gI b k,(S k).2) ⟨dy t,dy u,B⟩;simp only[mo]at m;generalize A (gI a k,gI b k,(S k).2)=y at *;have e:(k:Int)<4:=aq;refine cO [0,1,2,3,4,5,6,7] [8,11,13,14] [0,1,2,3,4,5,6,7,9,10,12] (.step 8 [9,10,12] true (.alt (bt 11 (a_ [13,14])) (a_ [13,11,14]))) ⟨[(2,.ptr 0 0 0 1),(3,.ptr 32 0 0 1),(4,.ptr 64 0 0 1),(6,.ptr 128 0 0 1),(7,.d (.int .u64 y.2)),(9,.d (.int .i64 (k:Int)))],[(128,⟨96,4,[cI ((S k).1.set k y.1)]⟩),(64,⟨96,4,[cI zI]⟩),(32,⟨96,4,[cI b]⟩),(0,⟨96,4,[cI a]⟩)],9000⟩ (k:=15) ?h3 ?hq
  case h3 =>
   intro G I;have C:∀j:Fr,(fv 2 j=.ptr 0 0 0 1∧fv 3 j=.ptr 32 0 0 1∧fv 4 j=.ptr 64 0 0 1∧fv 6 j=.ptr 128 0 0 1∧fv 7 j=.d (.int .u64 y.2)∧fv 9 j=.d (.int .i64 (k:Int)))→G j [(128,⟨96,4,[cI ((S k).1.set k y.1)]⟩),(64,⟨96,4,[cI zI]⟩),(32,⟨96,4,[cI b]⟩),(0,⟨96,4,[cI a]⟩)]:=by
    rintro j⟨N,L,R,Q,M,O⟩;exact I _ _ pD
   simp[go_sem,o,p,f,i,g,cZ,e];refine sQ h3 ?_;simp[go_sem,o,p,f,i,g,oh,cZ,e];and_intros<;>first|exact z|exact C _ ⟨rfl,rfl,rfl,rfl,rfl,rfl⟩|(refine C _ ?_;simp[fv,lk])
  case hq =>
   simp[go_sem,J];refine am (k+1) aq aq ?_;rw[m];simp[av,ah,fv,lk,AV.low,AV.low1];and_intros<;>exact aR _ _
 ·refine⟨fun h=>absurd (by exact_mod_cast h) z,fun h=>?_⟩;have e:k=4:=aq;subst e;simp[go_sem,g,aa g,aG (l:=zI) (n:=4) rfl,ai];exact AK rfl
theorem Ub(x y:Int):∀v,v∈[AV.d (.int .u64 x),AV.d (.int .u64 y)]→v.deep:=by
 intro v a;simp at a;rcases a with rfl|rfl<;>trivial
theorem yY(a:List Int)(o:Wn 4 a):∃(s:List Int)(c:Int),Wn 4 s∧dQ c∧V s+115792089237316195423570985008687907853269984665640564039457584007913129639936*c=V a*4294968273∧ap Tryz.prog 238 [.agg (cI a)] (fun r=>r=.tup [.agg (cI s),.d (.int .u64 c)]):=by
 obtain⟨A,p,B⟩:=Ws;obtain⟨M,u⟩:=ZU;have m:∀k,Wn 4 (fJ (xU A M a) (zI,0) k).1∧dQ (fJ (xU A M a) (zI,0) k).2:=jD (P:=fun _(s:List Int×Int)=>Wn 4 s.1∧dQ s.2) ⟨iu,wU⟩ fun k s x=>by
  obtain⟨w,E,_⟩:=B ((M (gI a k,4294968273)).2,s.2,0) ⟨(u _).2.1,x.2,Dt⟩;exact⟨qB x.1 w,Q8 _⟩
 refine⟨(fJ (xU A M a) (zI,0) 4).1,(fJ (xU A M a) (zI,0) 4).2,(m 4).1,(m 4).2,Rb p (HF u) o,?_⟩;refine bz Tryz.func238 Tryz.ntmps238 (rs:=[.cell 2 96,.tmp 3]) (aF a) ?_;have e:=o.1;simp[go_sem,e,aa e];generalize j:fJ (xU A M a) (zI,0)=S at *
 refine au (fun k:Nat=>⟨[(1,.ptr 0 0 0 1),(2,.ptr 32 0 0 1),(4,.ptr 96 0 0 1),(5,.d (.int .u64 (S k).2)),(10,.d (.int .i64 (k:Int)))],[(96,⟨96,4,[cI (S k).1]⟩),(32,⟨96,4,[cI zI]⟩),(0,⟨96,4,[cI a]⟩)],1000⟩)
  (fun k=>k≤4) (fun k=>4-k) 0 aq (by
   rw[←j];simp[av,ah,fv,lk,AV.low,AV.low1,fJ]
   and_intros<;>first|rfl|exact aR _ _) ?_
 intro k H;obtain⟨q,v⟩:=m k;have f:=q.1;have G:=az (k:=k) aq;simp only[go_sem,Nat.reduceEqDiff,Nat.reduceAdd,Nat.reduceLT,↓reduceIte];by_cases t:k<4
 ·refine⟨fun h=>?_,fun h=>absurd (by exact_mod_cast t) h⟩;have g:=jW (l:=a) (k:=k) aq;have i:S (k+1)=xU A M a k (S k):=by rw[←j];rfl
  obtain⟨I,F,C⟩:=u (gI a k,4294968273);obtain⟨w,E,D⟩:=B ((M (gI a k,4294968273)).2,(S k).2,0) ⟨F,v,Dt⟩;simp only[xU]at i;have b:(k:Int)<4:=aq;simp[go_sem,g,e,f,b];refine ag (C ⟨dy o,⟨aq,aq⟩⟩).2 (Ub _ _) ?_;simp[go_sem,g,e,f,b];refine sQ D ?_;generalize A ((M (gI a k,4294968273)).2,(S k).2,0)=y at *;generalize M (gI a k,4294968273)=z at *;simp[go_sem,g,e,f,b,oh,G];refine⟨t,?_⟩;refine am (k+1) aq aq ?_;rw[i];simp[av,ah,fv,lk,AV.low,AV.low1];and_intros<;>exact aR _ _
 ·refine⟨fun h=>absurd (by exact_mod_cast h) t,fun h=>?_⟩;have b:k=4:=aq;subst b;simp[go_sem,f,aa f,aG (l:=zI) (n:=4) rfl,ai];exact AK rfl
theorem acP:fK Tryz.prog 226=some (cI Ew):=by kernel_rfl
attribute [go_sem] acP
theorem Re:Ew.length=8:=rfl
attribute [go_sem] Re
theorem FR(a b:List Int)(J:Wn 4 a)(hb:Wn 4 b):∃(s:List Int),Wn 8 s∧V s=V a*V b∧ap Tryz.prog 163 [.agg (cI a),.agg (cI b)] (fun r=>r=.agg (cI s)):=by
 obtain⟨A,L,I⟩:=Ws;obtain⟨M,Y⟩:=ZU;have O:∀i p,Wn 8 p→∀k,Wn 8 (fJ (Du A M a b i) (p,0) k).1∧dQ (fJ (Du A M a b i) (p,0) k).2:=fun i p hp=>jD (P:=fun _(s:List Int×Int)=>Wn 8 s.1∧dQ s.2) ⟨hp,wU⟩ fun k s o=>by
  obtain⟨W,h2,_⟩:=I ((M (gI a i,gI b k)).2,gI s.1 (pl i k),0) ⟨(Y _).2.1,dy o.1,Dt⟩;obtain⟨N,X,_⟩:=I ((A ((M (gI a i,gI b k)).2,gI s.1 (pl i k),0)).1,s.2,0) ⟨W,o.2,Dt⟩;exact⟨qB o.1 N,Q8 _⟩
 have hS:∀i,Wn 8 (fJ (rT A M a b) Ew i):=jD (P:=fun _(s:List Int)=>Wn 8 s) ZS fun i s o=>qB (O i s o 4).1 (O i s o 4).2;refine⟨fJ (rT A M a b) Ew 4,hS 4,(Ni L (HF Y) J hb).2,?_⟩;refine bz Tryz.func163 Tryz.ntmps163 (rs:=[.cell 4 226]) (aI a b) ?_;have e:=J.1;have f:=hb.1;simp[go_sem,e,f,aa e,aa f];generalize E:fJ (rT A M a b) Ew=S at *
 refine au (fun i:Nat=>⟨[(2,.ptr 0 0 0 1),(3,.ptr 32 0 0 1),(4,.ptr 64 0 0 1),(5,.ptr 96 0 0 1),(12,.d (.int .i64 (i:Int)))],[(96,⟨226,8,[cI (S i)]⟩),(64,⟨226,8,[cI Ew]⟩),(32,⟨96,4,[cI b]⟩),(0,⟨96,4,[cI a]⟩)],1000⟩)
  (fun k=>k≤4) (fun k=>4-k) 0 aq (by
   rw[←E];simp[av,ah,fv,lk,AV.low,AV.low1,fJ]
   and_intros<;>first|rfl|exact aR _ _) ?_
 intro i hi;have v:=hS i;have w3:=az (k:=i) aq;simp only[go_sem,Nat.reduceEqDiff,Nat.reduceAdd,Nat.reduceLT,↓reduceIte];by_cases X:i<4
 ·refine⟨fun h=>?_,fun h=>absurd (by exact_mod_cast X) h⟩;have w:=jW (l:=a) (k:=i) aq;have x:(i:Int)<4:=aq;have q:S (i+1)=rT A M a b i (S i):=by rw[←E];rfl
  have Z:=O i (S i) v;unfold rT at q;generalize u:fJ (Du A M a b i) (S i,0)=T at *;have ac:T 0=(S i,0):=by rw[←u];rfl
  refine au (fun k:Nat=>⟨[(2,.ptr 0 0 0 1),(3,.ptr 32 0 0 1),(4,.ptr 64 0 0 1),(5,.ptr 96 0 0 1),(12,.d (.int .i64 (i:Int))),(6,.d (.int .i64 (i:Int))),(7,.d (.int .u64 (T k).2)),(15,.d (.int .i64 (k:Int)))],[(96,⟨226,8,[cI (T k).1]⟩),(64,⟨226,8,[cI Ew]⟩),(32,⟨96,4,[cI b]⟩),(0,⟨96,4,[cI a]⟩)],2000⟩)
   (fun k=>k≤4) (fun k=>4-k) 0 aq (by
    rw[ac];simp[av,ah,fv,lk,AV.low,AV.low1]
    and_intros<;>first|rfl|exact aR _ _) ?_
  intro k hk;obtain⟨C,Q⟩:=Z k;have g:=C.1;have w4:=az (k:=k) aq;have ab:pl i k=i+k:=rfl;have K:pl i 4=i+4:=rfl;have R:IntKind.i64.wrap ((i:Int)+(k:Int))=(pl i k:Int):=by rw[ab,IntWalk.i64_in _ aq];omega
  have w6:IntKind.i64.wrap ((i:Int)+4)=(pl i 4:Int):=by rw[K,IntWalk.i64_in _ aq];omega
  simp only[go_sem,Nat.reduceEqDiff,Nat.reduceAdd,Nat.reduceLT,↓reduceIte];by_cases h5:k<4
  ·refine⟨fun h=>?_,fun h=>absurd (by exact_mod_cast h5) h⟩;have B:=jW (l:=b) (k:=k) aq;have m:=jW (l:=(T k).1) (k:=pl i k) aq;have c:(k:Int)<4:=aq;have j:(pl i k:Int)<8:=aq;have F:pl i k<8:=aq;have t:T (k+1)=Du A M a b i k (T k):=by rw[←u];rfl
   obtain⟨m1,m2,m3⟩:=Y (gI a i,gI b k);obtain⟨W,h2,N⟩:=I ((M (gI a i,gI b k)).2,gI (T k).1 (pl i k),0) ⟨m2,dy C,Dt⟩;obtain⟨q1,q2,q3⟩:=I ((A ((M (gI a i,gI b k)).2,gI (T k).1 (pl i k),0)).1,(T k).2,0) ⟨W,Q,Dt⟩;unfold Du at t;generalize A ((A ((M (gI a i,gI b k)).2,gI (T k).1 (pl i k),0)).1,(T k).2,0)=y2 at *;generalize A ((M (gI a i,gI b k)).2,gI (T k).1 (pl i k),0)=y at *;generalize M (gI a i,gI b k)=z at *;refine cG [0,1,2,3,4,5] [(6,[7,8,9,10,11])] 1 (k:=12) ?_;intro G hG;simp[go_sem,w,B,e,f,x,c];refine ag (m3 ⟨dy J,dy hb⟩).2 (Ub _ _) ?_;simp[go_sem,w,B,e,f,x,c];refine hG _ _ ?_;clear hG G;simp[go_sem,m,g,R,j]
   first|refine sQ N ?_
   simp[go_sem,m,g,R,j]
   first|refine sQ q3 ?_
   simp[go_sem,m,g,R,j,F,oh,w4]
   first|refine am (k+1) aq aq ?_|refine⟨aq,am (k+1) aq aq ?_⟩
   rw[t];simp[av,ah,fv,lk,AV.low,AV.low1];and_intros<;>exact aR _ _
  ·refine⟨fun h=>absurd (by exact_mod_cast h) h5,fun h=>?_⟩;have c:k=4:=aq;subst c;have U:(pl i 4:Int)<8:=aq;have H:pl i 4<8:=aq;simp[go_sem,g,w6,U,H,oh,w3]
   first|refine am (i+1) aq aq ?_|refine⟨aq,am (i+1) aq aq ?_⟩
   rw[q];simp[av,ah,fv,lk,AV.low,AV.low1];and_intros<;>exact aR _ _
 ·refine⟨fun h=>absurd (by exact_mod_cast h) X,fun h=>?_⟩;have c:i=4:=aq;subst c;have D:=v.1;simp[go_sem,D,aa D,aG (l:=Ew) (n:=8) rfl,ai];exact ae (cM _) rfl
end Go.Proofs.YtmfnimjnneflnaaGreat
