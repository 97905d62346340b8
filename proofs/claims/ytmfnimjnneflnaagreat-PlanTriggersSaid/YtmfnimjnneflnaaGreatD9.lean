/-
 Part 10 of what the claim rests on.
-/
import Derived.Test.YtmfnimjnneflnaaGreatD6
import Derived.Test.YtmfnimjnneflnaaGreatD8
import Derived.KernelRfl
set_option linter.unusedVariables false
set_option linter.unusedSimpArgs false
set_option maxRecDepth 100000
set_option maxHeartbeats 16000000
namespace Go.Proofs.YtmfnimjnneflnaaGreat
open Go.Am Go.Sha
def W1(f:FuncId)(a b:List Int):Prop:=ap Tryz.prog f [.agg (cI a)] (fun r=>r=.agg (cI b))
def W2(f:FuncId)(a b c:List Int):Prop:=ap Tryz.prog f [.agg (cI a),.agg (cI b)] (fun r=>r=.agg (cI c))
theorem cY{Q:AV→Prop}{st:St}{a:List Int}(hq:Q (.agg (cI a))):dm Q (.agg (cI a)) st:=ae (cM _) hq
theorem eR(x:Int):ap Tryz.prog 134 [.d (.int .u64 x)] (fun r=>r=.agg (cI [x,0,0,0])):=by
 refine bz Tryz.func134 Tryz.ntmps134 (rs:=[.cell 2 96]) a9 ?_;simp[go_sem,cI,zI,ai];exact cY (a:=[x,0,0,0]) rfl
theorem jF{x:Int}(h:dQ x):Wn 4 [x,0,0,0]:=⟨rfl,by intro y a;simp at a;rcases a with rfl|rfl|rfl|rfl<;>first|exact h|exact wU⟩
def AL:List Int:=[18446744069414583343,18446744073709551615,18446744073709551615,18446744073709551615]
theorem Dx:Wn 4 AL:=⟨rfl,by intro y a;simp[AL]at a;rcases a with rfl|rfl<;>exact⟨aq,aq⟩⟩
theorem kA:ap Tryz.prog 214 [] (fun r=>r=.agg (cI AL)):=by
 refine bz Tryz.func214 Tryz.ntmps214 (rs:=[.cell 0 96]) a9 ?_;simp[go_sem,cI,zI,ai];exact cY (a:=AL) rfl
theorem iG(a:List Int)(h:Wn 4 a):∃r,Wn 4 r∧V r=V a%115792089237316195423570985008687907853269984665640564039457584007908834671663∧W1 217 a r:=by
 obtain⟨d,c,m,hc,w,o⟩:=lu a AL h Dx;have z:=eC h;have y:=eC m;have p:V AL=115792089237316195423570985008687907853269984665640564039457584007908834671663:=by simp[V,AL]
 rw[p]at w;have v:=hc.1;have q:=hc.2;have b:=h.1;have e:=m.1;by_cases j:c=0
 ·refine⟨d,m,by subst j;omega,?_⟩;unfold W1;refine bz Tryz.func217 Tryz.ntmps217 (rs:=[.cell 2 96]) (aF a) ?_;simp[go_sem,b,aa b];refine cO [0] [1,2,6,7] [0,3,4,5,8] (.alt (bt 1 (.alt (.step 2 [3,4,5] true (bt 6 (.step 7 [8] true .done))) (bt 6 (.step 2 [3,4,5] true (.step 7 [8] true .done))))) (bt 6 (bt 1 (.step 2 [3,4,5] true (.step 7 [8] true .done))))) ⟨[(1,.ptr 0 0 0 1),(2,.ptr 32 0 0 1),(3,.ptr 256 0 0 1),(4,.d (.int .u64 c))],[(256,⟨96,4,[cI d]⟩),(32,⟨96,4,[cI zI]⟩),(0,⟨96,4,[cI a]⟩)],9000⟩ (k:=9) ?h3 ?hq
  case h3 =>
   intro G i;have g:∀f:Fr,(fv 1 f=.ptr 0 0 0 1∧fv 2 f=.ptr 32 0 0 1∧fv 3 f=.ptr 256 0 0 1∧fv 4 f=.d (.int .u64 c))→G f [(256,⟨96,4,[cI d]⟩),(32,⟨96,4,[cI zI]⟩),(0,⟨96,4,[cI a]⟩)]:=by
    rintro f⟨t,u,s,x⟩;exact i _ _ pD
   simp[go_sem,b,aa b,cZ]
   repeat' first|exact g _ ⟨rfl,rfl,rfl,rfl⟩|(refine g _ ?_;simp[fv,lk];done)|refine ag kA aw ?_|refine ag o (aI _ _) ?_|apply And.intro|simp[go_sem,b,aa b,e,aa e,aG (l:=zI) (n:=4) rfl,cZ]
  case hq =>
   simp[go_sem,j,e,aa e,aG (l:=zI) (n:=4) rfl,ai];exact cY rfl
 ·refine⟨a,h,aq,?_⟩;unfold W1;refine bz Tryz.func217 Tryz.ntmps217 (rs:=[.cell 2 96]) (aF a) ?_;simp[go_sem,b,aa b];refine cO [0] [1,2,6,7] [0,3,4,5,8] (.alt (bt 1 (.alt (.step 2 [3,4,5] true (bt 6 (.step 7 [8] true .done))) (bt 6 (.step 2 [3,4,5] true (.step 7 [8] true .done))))) (bt 6 (bt 1 (.step 2 [3,4,5] true (.step 7 [8] true .done))))) ⟨[(1,.ptr 0 0 0 1),(2,.ptr 32 0 0 1),(3,.ptr 256 0 0 1),(4,.d (.int .u64 c))],[(256,⟨96,4,[cI d]⟩),(32,⟨96,4,[cI zI]⟩),(0,⟨96,4,[cI a]⟩)],9000⟩ (k:=9) ?h3 ?hq
  case h3 =>
   intro G i;have g:∀f:Fr,(fv 1 f=.ptr 0 0 0 1∧fv 2 f=.ptr 32 0 0 1∧fv 3 f=.ptr 256 0 0 1∧fv 4 f=.d (.int .u64 c))→G f [(256,⟨96,4,[cI d]⟩),(32,⟨96,4,[cI zI]⟩),(0,⟨96,4,[cI a]⟩)]:=by
    rintro f⟨t,u,s,x⟩;exact i _ _ pD
   simp[go_sem,b,aa b,cZ]
   repeat' first|exact g _ ⟨rfl,rfl,rfl,rfl⟩|(refine g _ ?_;simp[fv,lk];done)|refine ag kA aw ?_|refine ag o (aI _ _) ?_|apply And.intro|simp[go_sem,b,aa b,e,aa e,aG (l:=zI) (n:=4) rfl,cZ]
  case hq =>
   simp[go_sem,j,b,aa b,aG (l:=zI) (n:=4) rfl,ai];exact cY rfl
theorem acQ:dQ 4294968273:=⟨aq,aq⟩
theorem uL(a:List Int)(c:Int):∀v,v∈[AV.agg (cI a),AV.d (.int .u64 c)]→v.deep:=by
 intro v b;simp at b;rcases b with rfl|rfl;exact cM _;trivial
theorem Dy(a:List Int)(c:Int)(m:Wn 4 a)(hc:C1 c)(I:c=1→V a+4294968273<115792089237316195423570985008687907853269984665640564039457584007913129639936):∃r,Wn 4 r∧V r=(V a+115792089237316195423570985008687907853269984665640564039457584007913129639936*c)%115792089237316195423570985008687907853269984665640564039457584007908834671663∧ap Tryz.prog 239 [.agg (cI a),.d (.int .u64 c)] (fun x=>x=.agg (cI r)):=by
 obtain⟨N,g,K,v⟩:=iG a m;obtain⟨s,d,o,w,J,B⟩:=jE a [4294968273,0,0,0] m (jF acQ);obtain⟨F,f,L,q⟩:=iG s o;have z:V [4294968273,0,0,0]=4294968273:=by simp[V]
 rw[z]at J;have S:=eC m;have y:=eC o;have M:=w.1;have C:=w.2;have H:=hc.1;have A:=hc.2;unfold W1 at v q;have b:=m.1;have e:=o.1;have h:=g.1;have i:=f.1;by_cases p:c=0
 ·refine⟨N,g,by subst p;rw[K];omega,?_⟩;refine bz Tryz.func239 Tryz.ntmps239 (rs:=[.cell 4 96]) (uL a c) ?_;simp[go_sem,b,aa b,p];refine ag v (aF _) ?_;simp[go_sem,h,aa h,aG (l:=zI) (n:=4) rfl,ai];exact cY rfl
 ·have u:c=1:=aq;have D:=I u;refine⟨F,f,by subst u;rw[L];omega,?_⟩;refine bz Tryz.func239 Tryz.ntmps239 (rs:=[.cell 4 96]) (uL a c) ?_;simp[go_sem,b,aa b,p];refine cO [0] [1,2,6,7] [0,3,4,5,8] (.alt (bt 1 (.alt (.step 2 [3,4,5] true (bt 6 (.step 7 [8] true .done))) (bt 6 (.step 2 [3,4,5] true (.step 7 [8] true .done))))) (bt 6 (bt 1 (.step 2 [3,4,5] true (.step 7 [8] true .done))))) ⟨[(2,.ptr 0 0 0 1),(4,.ptr 32 0 0 1),(5,.ptr 320 0 0 1)],[(320,⟨96,4,[cI s]⟩),(32,⟨96,4,[cI zI]⟩),(0,⟨96,4,[cI a]⟩)],9000⟩ (k:=9) ?h3 ?hq
  case h3 =>
   intro G E;have t:∀j:Fr,(fv 2 j=.ptr 0 0 0 1∧fv 4 j=.ptr 32 0 0 1∧fv 5 j=.ptr 320 0 0 1)→G j [(320,⟨96,4,[cI s]⟩),(32,⟨96,4,[cI zI]⟩),(0,⟨96,4,[cI a]⟩)]:=by
    rintro j⟨P,Q,O⟩;exact E _ _ pD
   simp[go_sem,b,aa b,cZ]
   repeat' first|exact t _ ⟨rfl,rfl,rfl⟩|(refine t _ ?_;simp[fv,lk];done)|refine ag (eR 4294968273) a9 ?_|refine ag B (aI _ _) ?_|apply And.intro|simp[go_sem,b,aa b,e,aa e,aG (l:=zI) (n:=4) rfl,cZ]
  case hq =>
   simp[go_sem,e,aa e];refine ag q (aF _) ?_;simp[go_sem,i,aa i,aG (l:=zI) (n:=4) rfl,ai];exact cY rfl
theorem Rf(a b:List Int)(q:Wn 4 a)(w:Wn 4 b):∃r,Wn 4 r∧V r=(V a+V b)%115792089237316195423570985008687907853269984665640564039457584007908834671663∧W2 219 a b r:=by
 obtain⟨x,m,g,v⟩:=iG a q;obtain⟨A,i,o,t⟩:=iG b w;obtain⟨s,c,j,hc,H,y⟩:=jE x A m i;have I:=eC j;have D:=hc.1;have B:=hc.2;obtain⟨r,u,z,E⟩:=Dy s c j hc (fun h=>by subst h;omega);have p:V r=(V a+V b)%115792089237316195423570985008687907853269984665640564039457584007908834671663:=by rw[z,H,g,o];omega
 unfold W1 at v t;have d:=q.1;have e:=w.1;have F:=j.1;have f:=u.1;refine⟨r,u,p,?_⟩;unfold W2;refine bz Tryz.func219 Tryz.ntmps219 (rs:=[.cell 4 96]) (aI a b) ?_;simp[go_sem,d,e,aa d,aa e];refine cG [0,2] [(1,[]),(3,[]),(4,[5,6]),(7,[]),(8,[])] 3 (k:=9) ?_;intro G C;simp[go_sem,d,e,aa d,aa e];refine ag v (aF _) ?_;simp[go_sem,d,e,aa d,aa e];refine ag t (aF _) ?_;simp[go_sem];refine ag y (aI _ _) ?_;simp[go_sem];refine ag E (uL _ _) ?_;simp[go_sem,f,aa f,aG (l:=zI) (n:=4) rfl,cZ];refine C _ _ ?_;simp[go_sem,f,aa f,ai];exact cY rfl
theorem Rh{Q:AV→Prop}{st:St}{a b:List Int}(hq:Q (.tup [.agg (cI a),.agg (cI b)])):dm Q (.tup [.agg (cI a),.agg (cI b)]) st :=
 ae (by
  intro c hc;simp at hc;rcases hc with rfl|rfl;exact .inr ⟨_,rfl,i7 _⟩
  exact .inr ⟨_,rfl,i7 _⟩) hq
theorem ZV(l:List Int)(n:Nat):(cI l).take n=cI (l.take n):=by simp[cI,List.map_take]
theorem ZW(l:List Int)(n:Nat):(cI l).drop n=cI (l.drop n):=by simp[cI,List.map_drop]
theorem Ri{l:List Int}(h:Wn 8 l):Wn 4 (l.take 4):=⟨by rw[List.length_take,h.1];rfl,fun x a=>h.2 x (List.mem_of_mem_take a)⟩
theorem Rj{l:List Int}(h:Wn 8 l):Wn 4 (l.drop 4):=⟨by rw[et,h.1],fun x a=>h.2 x (List.mem_of_mem_drop a)⟩
theorem V8{p:List Int}(h:Wn 8 p):V (p.take 4)+115792089237316195423570985008687907853269984665640564039457584007913129639936*V (p.drop 4)=V p:=by
 obtain⟨j,_⟩:=h
 match p,j with
 |[a,b,c,d,e,f,g,i],_ =>
  simp only[List.take_succ_cons,List.take_zero,List.drop_succ_cons,List.drop_zero,V];omega
theorem AM(a b:List Int)(u:Wn 4 a)(w:Wn 4 b):∃(f hi:List Int),Wn 4 f∧Wn 4 hi∧V f+115792089237316195423570985008687907853269984665640564039457584007913129639936*V hi=V a*V b∧ap Tryz.prog 133 [.agg (cI a),.agg (cI b)] (fun r=>r=.tup [.agg (cI f),.agg (cI hi)]):=by
 obtain⟨p,m,x,A⟩:=FR a b u w;have g:=u.1;have i:=w.1;have e:=m.1;have h:=Ri m;have j:=Rj m;refine⟨p.take 4,p.drop 4,h,j,by rw[←x];exact V8 m,?_⟩;refine bz Tryz.func133 Tryz.ntmps133 (rs:=[.cell 4 96,.cell 5 96]) (aI a b) ?_;simp[go_sem,g,i,aa g,aa i];refine ag A (aI _ _) ?_;simp[go_sem,e,aa e,aG (l:=Ew) (n:=8) rfl];have q:=ZV p 4;have s:=ZW p 4;have d:=h.1;have c:=j.1;have v:(cI (p.drop 4)).take 4=cI (p.drop 4):=aa c;generalize p.take 4=f at *;generalize p.drop 4=hi at *;have t:List.drop 4 (cI zI)=[]:=aG rfl;refine cO [0,1,2] [3,4,5,6,7] [0,1,2] (.alt (bt 3 (.alt (bt 4 (.alt (bt 5 (a_ [6,7])) (a_ [6,5,7]))) (a_ [6,4,5,7]))) (a_ [6,3,4,5,7])) ⟨[(4,.ptr 64 0 0 1),(5,.ptr 96 0 0 1)],[(96,⟨96,4,[cI hi]⟩),(64,⟨96,4,[cI f]⟩)],9000⟩ (k:=8) ?h3 ?hq
 case h3 =>
  intro G z;have y:∀o:Fr,(fv 4 o=.ptr 64 0 0 1∧fv 5 o=.ptr 96 0 0 1)→G o [(224,⟨226,8,[cI p]⟩),(96,⟨96,4,[cI hi]⟩),(64,⟨96,4,[cI f]⟩),(32,⟨96,4,[cI b]⟩),(0,⟨96,4,[cI a]⟩)]:=by
   rintro o⟨q,s⟩;exact z _ _ pD
  simp[go_sem,e,q,s,v,d,c,t,cZ]
  repeat' first|exact y _ ⟨rfl,rfl⟩|apply And.intro|simp[go_sem,e,q,s,v,d,c,t,cZ]
 case hq =>
  simp[go_sem,d,c,t,aa d,aa c,ai];exact Rh rfl
theorem AN(a b:List Int)(B:Wn 4 a)(H:Wn 4 b):∃r,Wn 4 r∧V r=(V a*V b)%115792089237316195423570985008687907853269984665640564039457584007908834671663∧W2 209 a b r:=by
 obtain⟨I,x,j,m,L,S⟩:=AM a b B H;obtain⟨X,d,l,f,vf,P⟩:=yY x m;obtain⟨s,c,y,hc,vs,M⟩:=jE I X j l;obtain⟨N,c2,i,w,v,T⟩:=yY [IntKind.u64.wrap (d+c),0,0,0] (jF (Q8 _));obtain⟨z,c3,k,g,K,W⟩:=jE s N y i;have b1:=eC j;have b2:=eC m;have b3:=eC l;have b4:=eC y;have b5:=eC i;have Y:=eC k;have q1:=f.1;have q2:=f.2;have q3:=hc.1;have Z:=hc.2;have q5:=g.1;have q6:=g.2;have q7:=w.1;have J:V [IntKind.u64.wrap (d+c),0,0,0]=d+c:=by
  rw[V4,AI];omega
 rw[J]at v;have Q:c3=1→V z+4294968273<115792089237316195423570985008687907853269984665640564039457584007913129639936:=fun h=>by subst h;omega
 obtain⟨r,F,O,U⟩:=Dy z c3 k g Q;have A:V r=(V a*V b)%115792089237316195423570985008687907853269984665640564039457584007908834671663:=by
  have z2:c2=0:=by
   have h1:d+c≤18446744073709551616:=aq;have h2:115792089237316195423570985008687907853269984665640564039457584007913129639936*c2≤(d+c)*4294968273:=aq;omega
  subst z2;have e:V I+115792089237316195423570985008687907853269984665640564039457584007913129639936*V x=(V z+115792089237316195423570985008687907853269984665640564039457584007913129639936*c3)+115792089237316195423570985008687907853269984665640564039457584007908834671663*(V x+(d+c)):=aq;rw[O,←L,e,Int.add_mul_emod_self_left]
 have o:=B.1;have p:=H.1;have u:=j.1;have C:=m.1;have E:=l.1;have t:=y.1;have G:=i.1;have l6:=k.1;have D:=F.1;have q:List.drop 4 (cI zI)=[]:=aG rfl;refine⟨r,F,A,?_⟩;unfold W2;refine bz Tryz.func209 Tryz.ntmps209 (rs:=[.cell 4 96]) (aI a b) ?_;simp[go_sem,o,p,aa o,aa p];refine ag S (aI _ _) ?_;simp[go_sem,u,C,aa u,aa C,q];refine ag P (aF _) ?_;simp[go_sem,u,E,aa u,aa E,q];refine ag M (aI _ _) ?_;simp[go_sem,t,aa t,q];refine ag (eR _) a9 ?_;simp[go_sem];refine ag T (aF _) ?_;simp[go_sem,t,G,aa t,aa G,q];refine ag W (aI _ _) ?_;simp[go_sem];refine ag U (uL _ _) ?_;simp[go_sem,D,aa D,q,ai];exact cY rfl
theorem lv{y n:Nat}(h:iI[y]?=some (n:Int)):y<2 ^ n:=by
 unfold iI at h;rw[cU]at h;by_cases b:y<256;rw[List.getElem?_range b,Option.map_some,Option.some.injEq]at h;by_cases a:y=0;subst a;exact Nat.two_pow_pos n;rw[if_neg a]at h;have:n=Nat.log2 y+1:=aq;rw[this];exact Nat.lt_log2_self;rw[List.getElem?_eq_none (by simpa using b)]at h;cases h
theorem up(k:Nat){X Y n:Nat}(h:X/2 ^ k=Y)(a:Y<2 ^ n):X<2 ^ (k+n):=by
 subst h;rw[Nat.pow_add,Nat.mul_comm];exact(Nat.div_lt_iff_lt_mul (Nat.two_pow_pos k)).1 a
theorem up2{X a b:Nat}(h:X<2 ^ a)(e:a=b):X<2 ^ b:=e▸h
theorem Rk(X:Nat)(O:X<18446744073709551616):∃n:Nat,n≤64∧X<2 ^ n∧ap Tryz.prog 212 [.d (.int .u64 (X:Int))] (fun r=>r=.d (.int .i64 (n:Int))):=by
 have F:∀n:Nat,n≤100→IntKind.i64.wrap (n:Int)=(n:Int):=fun n h=>IntWalk.i64_in _ aq;have G:∀n:Int,0≤n→n≤100→IntKind.i64.wrap n=n:=fun n N f=>IntWalk.i64_in _ aq;have L:IntKind.i64.wrap 8=8∧IntKind.i64.wrap 16=16∧IntKind.i64.wrap 24=24∧IntKind.i64.wrap 32=32∧IntKind.i64.wrap 40=40∧IntKind.i64.wrap 48=48∧IntKind.i64.wrap 56=56:=by
  and_intros<;>exact IntWalk.i64_in _ aq
 obtain⟨E,p,l,m,q,o,s⟩:=L;by_cases P:X<4294967296
 ·have k:¬(4294967296:Int)≤(X:Int):=aq;by_cases K:X<65536
  ·have i:¬(65536:Int)≤(X:Int):=aq;by_cases J:X<256
   ·have v:¬(256:Int)≤(X:Int):=aq;have u:IntKind.u8.wrap (X:Int)=(X:Int):=by rw[JR];omega
    have y:X<256:=aq;obtain⟨b,c⟩:∃b,iI[X]?=some b:=⟨_,cm (by simp[iI];omega)⟩;obtain⟨n,rfl,w⟩:=iE rfl c;have t:n≤8:=by split at w<;>omega
    refine⟨0+n,aq,by rw[Nat.zero_add];exact lv c,?_⟩;refine bz Tryz.func212 Tryz.ntmps212 (rs:=[.tmp 2]) a9 ?_;simp[go_sem,k,i,v,u,IntKind.bits,E,p,l,m,q,o,s]
    split;rename_i b2 a;have f:iI[X]?=some b2:=a;rw[c]at f;cases f;exact ae a9 (by simp only[F n aq]);rename_i a;exact iF rfl y a
   ·have v:(256:Int)≤(X:Int):=aq;have d8:Int.fdiv (X:Int) 256=((X/256:Nat):Int):=fX X 256;have I:X/256<256:=aq;generalize x:X/256=g at *;have u:IntKind.u8.wrap (g:Int)=(g:Int):=by rw[JR];omega
    have y:g<256:=aq;obtain⟨b,c⟩:∃b,iI[g]?=some b:=⟨_,cm (by simp[iI];omega)⟩;obtain⟨n,rfl,w⟩:=iE rfl c;have t:n≤8:=by split at w<;>omega
    refine⟨8+n,aq,up 8 x (lv c),?_⟩;refine bz Tryz.func212 Tryz.ntmps212 (rs:=[.tmp 2]) a9 ?_;simp[go_sem,k,i,v,d8,u,IntKind.bits,E,p,l,m,q,o,s]
    split;rename_i b2 a;have f:iI[g]?=some b2:=a;rw[c]at f;cases f;have z:IntKind.i64.wrap (8+(n:Int))=8+(n:Int):=G _ aq aq;exact ae a9 (by simp only[F n aq,z]);rename_i a;exact iF rfl y a
  ·have i:(65536:Int)≤(X:Int):=aq;have B:Int.fdiv (X:Int) 65536=((X/65536:Nat):Int):=fX X 65536;have H:X/65536<65536:=aq;generalize A:X/65536=e at *;by_cases J:e<256
   ·have v:¬(256:Int)≤(e:Int):=aq;have u:IntKind.u8.wrap (e:Int)=(e:Int):=by rw[JR];omega
    have y:e<256:=aq;obtain⟨b,c⟩:∃b,iI[e]?=some b:=⟨_,cm (by simp[iI];omega)⟩;obtain⟨n,rfl,w⟩:=iE rfl c;have t:n≤8:=by split at w<;>omega
    refine⟨16+n,aq,up 16 A (lv c),?_⟩;refine bz Tryz.func212 Tryz.ntmps212 (rs:=[.tmp 2]) a9 ?_;simp[go_sem,k,i,B,v,u,IntKind.bits,E,p,l,m,q,o,s]
    split;rename_i b2 a;have f:iI[e]?=some b2:=a;rw[c]at f;cases f;have z:IntKind.i64.wrap (16+(n:Int))=16+(n:Int):=G _ aq aq;exact ae a9 (by simp only[F n aq,z]);rename_i a;exact iF rfl y a
   ·have v:(256:Int)≤(e:Int):=aq;have d8:Int.fdiv (e:Int) 256=((e/256:Nat):Int):=fX e 256;have I:e/256<256:=aq;generalize x:e/256=g at *;have u:IntKind.u8.wrap (g:Int)=(g:Int):=by rw[JR];omega
    have y:g<256:=aq;obtain⟨b,c⟩:∃b,iI[g]?=some b:=⟨_,cm (by simp[iI];omega)⟩;obtain⟨n,rfl,w⟩:=iE rfl c;have t:n≤8:=by split at w<;>omega
    refine⟨24+n,aq,up2 (up 16 A (up 8 x (lv c))) aq,?_⟩;refine bz Tryz.func212 Tryz.ntmps212 (rs:=[.tmp 2]) a9 ?_;simp[go_sem,k,i,B,v,d8,u,IntKind.bits,E,p,l,m,q,o,s]
    split;rename_i b2 a;have f:iI[g]?=some b2:=a;rw[c]at f;cases f;have z:IntKind.i64.wrap (24+(n:Int))=24+(n:Int):=G _ aq aq;exact ae a9 (by simp only[F n aq,z]);rename_i a;exact iF rfl y a
 ·have k:(4294967296:Int)≤(X:Int):=aq;have D:Int.fdiv (X:Int) 4294967296=((X/4294967296:Nat):Int):=fX X 4294967296;have M:X/4294967296<4294967296:=aq;generalize C:X/4294967296=j at *;by_cases K:j<65536
  ·have i:¬(65536:Int)≤(j:Int):=aq;by_cases J:j<256
   ·have v:¬(256:Int)≤(j:Int):=aq;have u:IntKind.u8.wrap (j:Int)=(j:Int):=by rw[JR];omega
    have y:j<256:=aq;obtain⟨b,c⟩:∃b,iI[j]?=some b:=⟨_,cm (by simp[iI];omega)⟩;obtain⟨n,rfl,w⟩:=iE rfl c;have t:n≤8:=by split at w<;>omega
    refine⟨32+n,aq,up 32 C (lv c),?_⟩;refine bz Tryz.func212 Tryz.ntmps212 (rs:=[.tmp 2]) a9 ?_;simp[go_sem,k,D,i,v,u,IntKind.bits,E,p,l,m,q,o,s]
    split;rename_i b2 a;have f:iI[j]?=some b2:=a;rw[c]at f;cases f;have z:IntKind.i64.wrap (32+(n:Int))=32+(n:Int):=G _ aq aq;exact ae a9 (by simp only[F n aq,z]);rename_i a;exact iF rfl y a
   ·have v:(256:Int)≤(j:Int):=aq;have d8:Int.fdiv (j:Int) 256=((j/256:Nat):Int):=fX j 256;have I:j/256<256:=aq;generalize x:j/256=g at *;have u:IntKind.u8.wrap (g:Int)=(g:Int):=by rw[JR];omega
    have y:g<256:=aq;obtain⟨b,c⟩:∃b,iI[g]?=some b:=⟨_,cm (by simp[iI];omega)⟩;obtain⟨n,rfl,w⟩:=iE rfl c;have t:n≤8:=by split at w<;>omega
    refine⟨40+n,aq,up2 (up 32 C (up 8 x (lv c))) aq,?_⟩;refine bz Tryz.func212 Tryz.ntmps212 (rs:=[.tmp 2]) a9 ?_;simp[go_sem,k,D,i,v,d8,u,IntKind.bits,E,p,l,m,q,o,s]
    split;rename_i b2 a;have f:iI[g]?=some b2:=a;rw[c]at f;cases f;have z:IntKind.i64.wrap (40+(n:Int))=40+(n:Int):=G _ aq aq;exact ae a9 (by simp only[F n aq,z]);rename_i a;exact iF rfl y a
  ·have i:(65536:Int)≤(j:Int):=aq;have B:Int.fdiv (j:Int) 65536=((j/65536:Nat):Int):=fX j 65536;have H:j/65536<65536:=aq;generalize A:j/65536=e at *;by_cases J:e<256
   ·have v:¬(256:Int)≤(e:Int):=aq;have u:IntKind.u8.wrap (e:Int)=(e:Int):=by rw[JR];omega
    have y:e<256:=aq;obtain⟨b,c⟩:∃b,iI[e]?=some b:=⟨_,cm (by simp[iI];omega)⟩;obtain⟨n,rfl,w⟩:=iE rfl c;have t:n≤8:=by split at w<;>omega
    refine⟨48+n,aq,up2 (up 32 C (up 16 A (lv c))) aq,?_⟩;refine bz Tryz.func212 Tryz.ntmps212 (rs:=[.tmp 2]) a9 ?_;simp[go_sem,k,D,i,B,v,u,IntKind.bits,E,p,l,m,q,o,s]
    split;rename_i b2 a;have f:iI[e]?=some b2:=a;rw[c]at f;cases f;have z:IntKind.i64.wrap (48+(n:Int))=48+(n:Int):=G _ aq aq;exact ae a9 (by simp only[F n aq,z]);rename_i a;exact iF rfl y a
   ·have v:(256:Int)≤(e:Int):=aq;have d8:Int.fdiv (e:Int) 256=((e/256:Nat):Int):=fX e 256;have I:e/256<256:=aq;generalize x:e/256=g at *;have u:IntKind.u8.wrap (g:Int)=(g:Int):=by rw[JR];omega
    have y:g<256:=aq;obtain⟨b,c⟩:∃b,iI[g]?=some b:=⟨_,cm (by simp[iI];omega)⟩;obtain⟨n,rfl,w⟩:=iE rfl c;have t:n≤8:=by split at w<;>omega
    refine⟨56+n,aq,up2 (up 32 C (up 16 A (up 8 x (lv c)))) aq,?_⟩;refine bz Tryz.func212 Tryz.ntmps212 (rs:=[.tmp 2]) a9 ?_;simp[go_sem,k,D,i,B,v,d8,u,IntKind.bits,E,p,l,m,q,o,s]
    split;rename_i b2 a;have f:iI[g]?=some b2:=a;rw[c]at f;cases f;have z:IntKind.i64.wrap (56+(n:Int))=56+(n:Int):=G _ aq aq;exact ae a9 (by simp only[F n aq,z]);rename_i a;exact iF rfl y a
theorem Rl(x:Int)(a:dQ x):∃n:Nat,n≤64∧x<2 ^ n∧ap Tryz.prog 212 [.d (.int .u64 x)] (fun r=>r=.d (.int .i64 (n:Int))):=by
 obtain⟨X,rfl⟩:=Int.eq_ofNat_of_zero_le a.1;obtain⟨n,b,e,c⟩:=Rk X (by have:=a.2;omega);exact⟨n,b,by exact_mod_cast e,c⟩
def AO(N:Int→Nat)(a:List Int):Nat→Nat
 |0=>0
 |k+1=>if gI a k=0 then AO N a k else 64*k+N (gI a k)
theorem HG{N:Int→Nat}{a:List Int}(h:∀k,N (gI a k)≤64):∀k,AO N a k≤64*k
 |0=>cL _
 |k+1=>by
  have b:=HG h k;have c:=h k;unfold AO;split<;>omega
theorem Wt{N:Int→Nat}{a:List Int}(s:Wn 4 a)(h:∀k,gI a k<2 ^ N (gI a k)):V a<2 ^ AO N a 4:=by
 obtain⟨d,b,e,c,rfl,x,v,w,u⟩:=jX s;have t:=h 0;have r:=h 1;have k2:=h 2;have k3:=h 3;have i:gI [d,b,e,c] 0=d:=rfl;have j:gI [d,b,e,c] 1=b:=rfl;have l:gI [d,b,e,c] 2=e:=rfl;have o:gI [d,b,e,c] 3=c:=rfl;rw[i]at t;rw[j]at r;rw[l]at k2;rw[o]at k3;have p:∀n m:Nat,(2:Int) ^ (n+m)=2 ^ n*2 ^ m:=fun n m=>Int.pow_add 2 n m;simp only[AO,i,j,l,o,V4];unfold dQ at *;by_cases z3:c=0;rw[if_pos z3];by_cases z2:e=0;rw[if_pos z2];by_cases f:b=0;rw[if_pos f];by_cases g:d=0;rw[if_pos g];subst g f z2 z3;decide;rw[if_neg g,p];subst f z2 z3;generalize(2:Int) ^ N d=q at *;simp;omega;rw[if_neg f,p];subst z2 z3;generalize(2:Int) ^ N b=q at *;simp;omega;rw[if_neg z2,p];subst z3;generalize(2:Int) ^ N e=q at *;simp;omega;rw[if_neg z3,p];generalize(2:Int) ^ N c=q at *;simp;omega
theorem AP(a:List Int)(e:Wn 4 a):∃n:Nat,n≤256∧V a<2 ^ n∧ap Tryz.prog 182 [.agg (cI a)] (fun r=>r=.d (.int .i64 (n:Int))):=by
 obtain⟨N,i⟩:=pick (α:=Int) (β:=Nat) (A:=fun x=>dQ x) (B:=fun x n=>n≤64∧x<2 ^ n∧ap Tryz.prog 212 [.d (.int .u64 x)] (fun r=>r=.d (.int .i64 (n:Int)))) Rl;have m:∀k,N (gI a k)≤64:=fun k=>(i _ (dy e)).1;have o:=HG m;have c:=e.1;refine⟨AO N a 4,o 4,Wt e (fun k=>(i _ (dy e)).2.1),?_⟩;refine bz Tryz.func182 Tryz.ntmps182 (rs:=[.tmp 2]) (aF a) ?_;generalize v:AO N a 4=T;simp[go_sem,c,aa c]
 refine au (fun k:Nat=>⟨[(1,.ptr 0 0 0 1),(3,.d (.int .i64 (QN k)))],[(0,⟨96,4,[cI a]⟩)],500⟩)
  (fun k=>k≤4∧AO N a k=T) (fun k=>k) 4 ⟨aq,v⟩ (by
   simp[av,ah,fv,lk,AV.low,AV.low1,QN]
   exact aR _ _) ?_
 rintro k⟨t,b⟩
 match k,t,b with
 |0,_,b =>
  simp[go_sem,TW,ai];exact ae a9 (by rw[←b];rfl)
 | k+1,t,b =>
  have s:=dy (k:=k) e;have g:=jW (l:=a) (k:=k) aq;have f:(k:Int)<4:=aq;unfold AO at b;have p:=(i _ s).1;have hc:=(i _ s).2.2;by_cases h:gI a k=0
  ·rw[if_pos h]at b;have w:IntKind.i64.wrap ((k:Int)-1)=QN k:=by
    cases k with
    |zero=>rw[IntWalk.i64_in _ aq];rfl
    |succ j=>rw[IntWalk.i64_in _ aq];simp[QN]
   simp[go_sem,MK,g,c,f,h,w]
   first|refine am k ⟨aq,b⟩ aq ?_
   simp[av,ah,fv,lk,AV.low,AV.low1];exact aR _ _
  ·rw[if_neg h]at b;have q:IntKind.i64.wrap (64*(k:Int))=64*(k:Int):=IntWalk.i64_in _ aq;generalize y:N (gI a k)=n at *;have u:IntKind.i64.wrap (64*(k:Int)+(n:Int))=64*(k:Int)+(n:Int):=IntWalk.i64_in _ aq;simp[go_sem,MK,g,c,f,h,q]
   first|refine ag hc a9 ?_
   simp[go_sem,q,u,ai];exact ae a9 (by rw[←b];first|rfl|simp[u])
theorem HH(a b:List Int)(y:Wn 4 a)(B:Wn 4 b):∃r,Wn 4 r∧V r=(V a-V b)%115792089237316195423570985008687907853269984665640564039457584007908834671663∧W2 210 a b r:=by
 obtain⟨F,w,E,u⟩:=iG a y;obtain⟨J,t,S,s⟩:=iG b B;obtain⟨d,c,q,hc,U,z⟩:=lu F J w t;obtain⟨x,c2,m,o,Q,N⟩:=jE d AL q Dx;have I:V AL=115792089237316195423570985008687907853269984665640564039457584007908834671663:=by simp[V,AL]
 rw[I]at Q;have K:=eC q;have T:=eC m;have D:=hc.1;have H:=hc.2;have P:=o.1;have L:=o.2;unfold W1 at u s;have f:=y.1;have g:=B.1;have e:=q.1;have i:=m.1;have l:List.drop 4 (cI zI)=[]:=aG rfl;by_cases v:c=0
 ·refine⟨d,q,by subst v;omega,?_⟩;unfold W2;refine bz Tryz.func210 Tryz.ntmps210 (rs:=[.cell 4 96]) (aI a b) ?_;simp[go_sem,f,g,aa f,aa g];refine cO [0,2] [1,3,4,8,9] [0,2,5,6,7,10] (.alt (bt 1 (.alt (bt 3 (.alt (.step 4 [5,6,7] true (bt 8 (.step 9 [10] true .done))) (bt 8 (.step 4 [5,6,7] true (.step 9 [10] true .done))))) (bt 8 (bt 3 (.step 4 [5,6,7] true (.step 9 [10] true .done)))))) (bt 8 (bt 1 (bt 3 (.step 4 [5,6,7] true (.step 9 [10] true .done)))))) ⟨[(4,.ptr 64 0 0 1),(5,.ptr 352 0 0 1),(6,.d (.int .u64 c))],[(352,⟨96,4,[cI d]⟩),(64,⟨96,4,[cI zI]⟩)],9000⟩ (k:=11) ?h3 ?hq
  case h3 =>
   intro G p;have j:∀h:Fr,(fv 4 h=.ptr 64 0 0 1∧fv 5 h=.ptr 352 0 0 1∧fv 6 h=.d (.int .u64 c))→G h [(352,⟨96,4,[cI d]⟩),(64,⟨96,4,[cI zI]⟩),(32,⟨96,4,[cI b]⟩),(0,⟨96,4,[cI a]⟩)]:=by
    rintro h⟨A,C,O⟩;exact p _ _ pD
   simp[go_sem,f,g,aa f,aa g,e,aa e,l,cZ]
   repeat' first|exact j _ ⟨rfl,rfl,rfl⟩|(refine j _ ?_;simp[fv,lk];done)|refine ag u (aF _) ?_|refine ag s (aF _) ?_|refine ag z (aI _ _) ?_|apply And.intro|simp[go_sem,f,g,aa f,aa g,e,aa e,l,cZ]
  case hq =>
   simp[go_sem,v,e,aa e,l,ai];exact cY rfl
 ·have M:c=1:=aq;refine⟨x,m,by subst M;omega,?_⟩;unfold W2;refine bz Tryz.func210 Tryz.ntmps210 (rs:=[.cell 4 96]) (aI a b) ?_;simp[go_sem,f,g,aa f,aa g];refine cO [0,2] [1,3,4,8,9] [0,2,5,6,7,10] (.alt (bt 1 (.alt (bt 3 (.alt (.step 4 [5,6,7] true (bt 8 (.step 9 [10] true .done))) (bt 8 (.step 4 [5,6,7] true (.step 9 [10] true .done))))) (bt 8 (bt 3 (.step 4 [5,6,7] true (.step 9 [10] true .done)))))) (bt 8 (bt 1 (bt 3 (.step 4 [5,6,7] true (.step 9 [10] true .done)))))) ⟨[(4,.ptr 64 0 0 1),(5,.ptr 352 0 0 1),(6,.d (.int .u64 c))],[(352,⟨96,4,[cI d]⟩),(64,⟨96,4,[cI zI]⟩)],9000⟩ (k:=11) ?h3 ?hq
  case h3 =>
   intro G p;have j:∀h:Fr,(fv 4 h=.ptr 64 0 0 1∧fv 5 h=.ptr 352 0 0 1∧fv 6 h=.d (.int .u64 c))→G h [(352,⟨96,4,[cI d]⟩),(64,⟨96,4,[cI zI]⟩),(32,⟨96,4,[cI b]⟩),(0,⟨96,4,[cI a]⟩)]:=by
    rintro h⟨A,C,O⟩;exact p _ _ pD
   simp[go_sem,f,g,aa f,aa g,e,aa e,l,cZ]
   repeat' first|exact j _ ⟨rfl,rfl,rfl⟩|(refine j _ ?_;simp[fv,lk];done)|refine ag u (aF _) ?_|refine ag s (aF _) ?_|refine ag z (aI _ _) ?_|apply And.intro|simp[go_sem,f,g,aa f,aa g,e,aa e,l,cZ]
  case hq =>
   simp[go_sem,v];refine cO [0] [1,2,5,6] [0,3,4] (bt 1 (.step 2 [3,4] true (.alt (bt 5 (a_ [6])) (a_ [6,5])))) ⟨[(4,.ptr 64 0 0 1),(5,.ptr 352 0 0 1)],[(352,⟨96,4,[cI x]⟩),(64,⟨96,4,[cI zI]⟩)],9000⟩ (k:=7) ?h3 ?hq
   case h3 =>
    intro G p;have j:∀h:Fr,(fv 4 h=.ptr 64 0 0 1∧fv 5 h=.ptr 352 0 0 1)→G h [(352,⟨96,4,[cI x]⟩),(64,⟨96,4,[cI zI]⟩)]:=by
     rintro h⟨A,C⟩;exact p _ _ pD
    simp[go_sem,e,aa e,i,aa i,l,aG e,cZ]
    repeat' first|exact j _ ⟨rfl,rfl⟩|(refine j _ ?_;simp[fv,lk];done)|refine ag kA aw ?_|refine ag N (aI _ _) ?_|apply And.intro|simp[go_sem,e,aa e,i,aa i,l,aG e,cZ]
   case hq =>
    simp[go_sem,i,aa i,l,ai];exact cY rfl
theorem Rm(a:List Int)(e:Wn 4 a):∃r,Wn 4 r∧V r=(0-V a)%115792089237316195423570985008687907853269984665640564039457584007908834671663∧W1 218 a r:=by
 obtain⟨r,f,h,d⟩:=HH zI a iu e;unfold W2 at d;have b:=e.1;have c:=f.1;have g:List.drop 4 (cI zI)=[]:=aG rfl;refine⟨r,f,h,?_⟩;unfold W1;refine bz Tryz.func218 Tryz.ntmps218 (rs:=[.cell 2 96]) (aF a) ?_;simp[go_sem,b,aa b];refine ag d (aI zI a) ?_;simp[go_sem,c,aa c,g,ai];exact cY rfl
theorem ZX:∃M:List Int×List Int→List Int,∀x,(Wn 4 x.1∧Wn 4 x.2)→Wn 4 (M x)∧V (M x)=(V x.1*V x.2)%115792089237316195423570985008687907853269984665640564039457584007908834671663∧ap Tryz.prog 209 [.agg (cI x.1),.agg (cI x.2)] (fun r=>r=.agg (cI (M x))) :=
 pick (α:=List Int×List Int) (β:=List Int) (A:=fun x=>Wn 4 x.1∧Wn 4 x.2) (B:=fun x y=>Wn 4 y∧V y=(V x.1*V x.2)%115792089237316195423570985008687907853269984665640564039457584007908834671663∧ap Tryz.prog 209 [.agg (cI x.1),.agg (cI x.2)] (fun r=>r=.agg (cI y))) (fun x a=>by
  obtain⟨r,b,d,c⟩:=AN x.1 x.2 a.1 a.2
  exact⟨r,b,d,c⟩)
def dq(i:Nat):Nat:=i/64
def rq(i:Nat):Nat:=i%64
def AQ(n:List Int)(i:Nat):Prop:=Go.bits .and .u64 (Int.fdiv (gI n (dq i)) (2 ^ rq i)) 1=0
theorem AS(z:Int)(a:0≤z)(b:z<18446744073709551616):Go.bits .and .u64 z 1=z%2:=by
 obtain⟨n,rfl⟩:=Int.eq_ofNat_of_zero_le a;have h:=bits_and_u64_nat n 1 aq aq;rw[Nat.and_one_is_mod,Int.natCast_emod]at h;exact h
theorem Nj{n:List Int}(g:Wn 4 n){j:Nat}(hj:j<4):(((V n).toNat/2 ^ (64*j)%2 ^ 64:Nat):Int)=gI n j:=by
 obtain⟨a,b,c,d,rfl,l,i,k,h⟩:=jX g;unfold dQ at *;have e:=V4 a b c d;obtain⟨N,f⟩:∃N:Nat,V [a,b,c,d]=(N:Int):=⟨(V [a,b,c,d]).toNat,by rw[e];omega⟩;rw[f];rw[f]at e
 match j,hj with
 |0,_=>show _=a;rw[Int.toNat_natCast];omega
 |1,_=>show _=b;rw[Int.toNat_natCast];omega
 |2,_=>show _=c;rw[Int.toNat_natCast];omega
 |3,_=>show _=d;rw[Int.toNat_natCast];omega
theorem Uc{n:List Int}(c:Wn 4 n){k:Nat}(l:k<256):(AQ n k→(V n).toNat/2 ^ k%2=0)∧(¬AQ n k→(V n).toNat/2 ^ k%2=1):=by
 have d:=Nj c (j:=k/64) aq;have p:=dy (k:=k/64) c;generalize(V n).toNat=N at *;have e:AQ n k↔N/2 ^ k%2=0:=by
  unfold AQ;have f:dq k=k/64:=rfl;have i:rq k=k%64:=rfl;rw[f,i,←d];have g:Int.fdiv (((N/2 ^ (64*(k/64))%2 ^ 64:Nat)):Int) (2 ^ (k%64))=((N/2 ^ (64*(k/64))%2 ^ 64/2 ^ (k%64):Nat):Int):=by
   rw[Int.fdiv_eq_ediv_of_nonneg _ (Int.le_of_lt (Int.pow_pos aq))]
   exact_mod_cast rfl
  have b:N/2 ^ (64*(k/64))%2 ^ 64/2 ^ (k%64)<18446744073709551616:=Nat.lt_of_le_of_lt (Nat.div_le_self _ _) (Nat.mod_lt _ (by decide));rw[g,AS _ (Int.natCast_nonneg _) (Int.lt_of_lt_of_le (Int.ofNat_lt.2 b) (Int.le_of_eq rfl))];have o:(N/2 ^ (64*(k/64))%2 ^ 64/2 ^ (k%64))%2=N/2 ^ k%2:=by
   have a:(N/2 ^ (64*(k/64))%2 ^ 64).testBit (k%64)=N.testBit k:=by
    rw[Nat.testBit_mod_two_pow,←Nat.shiftRight_eq_div_pow,Nat.testBit_shiftRight];have:k%64<64:=Nat.mod_lt _ aq;rw[decide_eq_true this,Bool.true_and];congr 1;omega
   rw[Nat.testBit_eq_decide_div_mod_eq,Nat.testBit_eq_decide_div_mod_eq]at a;have m:=decide_eq_decide.1 a;have:=Nat.mod_two_eq_zero_or_one (N/2 ^ (64*(k/64))%2 ^ 64/2 ^ (k%64));have:=Nat.mod_two_eq_zero_or_one (N/2 ^ k);omega
  omega
 refine⟨e.1,fun h=>?_⟩;have:=Nat.mod_two_eq_zero_or_one (N/2 ^ k);rcases this with a|a;exact absurd (e.2 a) h;exact a
open Classical in
noncomputable def stpW(M:List Int×List Int→List Int)(n:List Int)(k:Nat)(s:List Int×List Int):List Int×List Int :=
 (if AQ n k then s.1 else M (s.1,s.2),M (s.2,s.2))
theorem Nk(a n:List Int)(Z:Wn 4 a)(O:Wn 4 n):∃r,Wn 4 r∧V r=V a ^ (V n).toNat%115792089237316195423570985008687907853269984665640564039457584007908834671663∧W2 215 a n r:=by
 obtain⟨M,t⟩:=ZX;obtain⟨b,H,T,f1⟩:=iG a Z;obtain⟨L,hL,vL,f2⟩:=AP n O;unfold W1 at f1;have Q:∀k,Wn 4 (fJ (stpW M n) ([1,0,0,0],b) k).1∧Wn 4 (fJ (stpW M n) ([1,0,0,0],b) k).2:=jD (P:=fun _(s:List Int×List Int)=>Wn 4 s.1∧Wn 4 s.2) ⟨jF ⟨aq,aq⟩,H⟩ fun k s o=>by
  unfold stpW;refine⟨?_,(t (s.2,s.2) ⟨o.2,o.2⟩).1⟩;dsimp only;split;exact o.1;exact(t (s.1,s.2) o).1
 have hV:∀k,k≤256→V (fJ (stpW M n) ([1,0,0,0],b) k).1=V a ^ ((V n).toNat%2 ^ k)%115792089237316195423570985008687907853269984665640564039457584007908834671663∧V (fJ (stpW M n) ([1,0,0,0],b) k).2=V a ^ (2 ^ k)%115792089237316195423570985008687907853269984665640564039457584007908834671663:=by
  intro k
  induction k with
  |zero =>
   intro _;refine⟨?_,?_⟩;show V [1,0,0,0]=_;rw[Nat.pow_zero,Nat.mod_one,Int.pow_zero];simp[V];show V b=_;rw[T,Nat.pow_zero,Int.pow_succ,Int.pow_zero,Int.one_mul]
  | succ k ih =>
   intro hk;obtain⟨w,i2⟩:=ih aq;have o:=Q k;have bv:=Uc O (k:=k) aq;have J:=(t ((fJ (stpW M n) ([1,0,0,0],b) k).2,(fJ (stpW M n) ([1,0,0,0],b) k).2) ⟨o.2,o.2⟩).2.1;have N:=(t ((fJ (stpW M n) ([1,0,0,0],b) k).1,(fJ (stpW M n) ([1,0,0,0],b) k).2) o).2.1;rw[fJ];generalize fJ (stpW M n) ([1,0,0,0],b) k=s at *;dsimp only at N J;have B:V (stpW M n k s).2=V a ^ (2 ^ (k+1))%115792089237316195423570985008687907853269984665640564039457584007908834671663:=by
    show V (M (s.2,s.2))=_;rw[J,i2,←Int.mul_emod,←Int.pow_add,Nat.pow_succ,Nat.mul_two]
   refine⟨?_,B⟩;rw[Nat.mod_pow_succ];unfold stpW;dsimp only;by_cases g:AQ n k;rw[if_pos g,w,bv.1 g,Nat.mul_zero,Nat.add_zero];rw[if_neg g,N,w,i2,bv.2 g,Nat.mul_one,Int.pow_add,←Int.mul_emod]
 have C:(V n).toNat%2 ^ L=(V n).toNat:=Nat.mod_eq_of_lt (by
  have h0:=(eC O).1;have:(((V n).toNat:Nat):Int)<((2 ^ L:Nat):Int):=by rw[Int.toNat_of_nonneg h0];exact_mod_cast vL
  exact_mod_cast this)
 refine⟨(fJ (stpW M n) ([1,0,0,0],b) L).1,(Q L).1,by rw[(hV L hL).1,C],?_⟩;unfold W2;refine bz Tryz.func215 Tryz.ntmps215 (rs:=[.cell 4 96]) (aI a n) ?_;have e:=Z.1;have c:=O.1;have m:=H.1;have X:List.drop 4 (cI zI)=[]:=aG rfl;simp[go_sem,e,c,aa e,aa c];generalize D:fJ (stpW M n) ([1,0,0,0],b)=S at *;have Y:S 0=([1,0,0,0],b):=by rw[←D];rfl
 refine cO [1] [0,2,3,4,5,6] [1] (.alt (bt 0 (.alt (bx 2 (.alt (a_ [3,4,5,6]) (a_ [4,3,5,6]))) (.alt (bt 3 (.alt (a_ [2,4,5,6]) (bt 4 (a_ [2,5,6])))) (bt 4 (.alt (a_ [2,3,5,6]) (bt 3 (a_ [2,5,6]))))))) (.alt (bt 3 (.alt (bt 0 (.alt (a_ [2,4,5,6]) (bt 4 (a_ [2,5,6])))) (bt 4 (bt 0 (a_ [2,5,6]))))) (bt 4 (.alt (bt 0 (.alt (a_ [2,3,5,6]) (bt 3 (a_ [2,5,6])))) (bt 3 (bt 0 (a_ [2,5,6]))))))) ⟨[(3,.ptr 32 0 0 1),(4,.ptr 64 0 0 1),(5,.ptr 192 0 0 1),(6,.ptr 224 0 0 1)],[(224,⟨96,4,[cI b]⟩),(192,⟨96,4,[cI [1,0,0,0]]⟩),(64,⟨96,4,[cI zI]⟩),(32,⟨96,4,[cI n]⟩)],9000⟩ (k:=7) ?h3 ?hq
 case h3 =>
  intro G hG;have hW:∀(v:Fr)(u:Hp),(fv 3 v=.ptr 32 0 0 1∧fv 4 v=.ptr 64 0 0 1∧fv 5 v=.ptr 192 0 0 1∧fv 6 v=.ptr 224 0 0 1∧lk 224 u=some ⟨96,4,[cI b]⟩∧lk 192 u=some ⟨96,4,[cI [1,0,0,0]]⟩∧lk 64 u=some ⟨96,4,[cI zI]⟩∧lk 32 u=some ⟨96,4,[cI n]⟩)→G v u:=by
   rintro v u⟨q0,q1,q2,q3,q4,q5,q6,q7⟩;exact hG _ _ pD
  simp[go_sem,e,aa e,m,aa m,X,cZ]
  repeat' first|exact hW _ _ ⟨rfl,rfl,rfl,rfl,rfl,rfl,rfl,rfl⟩|(refine hW _ _ ?_;simp[fv,lk];done)|refine ag (eR 1) a9 ?_|refine ag f1 (aF _) ?_|apply And.intro|simp[go_sem,e,aa e,m,aa m,X,cZ]
 case hq =>
  simp[go_sem,c,aa c];refine ag f2 (aF _) ?_;simp[go_sem]
  refine au (fun k:Nat=>⟨[(3,.ptr 32 0 0 1),(4,.ptr 64 0 0 1),(5,.ptr 192 0 0 1),(6,.ptr 224 0 0 1),(12,.d (.int .i64 (L:Int))),(13,.d (.int .i64 (k:Int)))],[(224,⟨96,4,[cI (S k).2]⟩),(192,⟨96,4,[cI (S k).1]⟩),(64,⟨96,4,[cI zI]⟩),(32,⟨96,4,[cI n]⟩)],20000⟩)
   (fun k=>k≤L) (fun k=>L-k) 0 aq (by
    rw[Y];simp[av,ah,fv,lk,AV.low,AV.low1]
    and_intros<;>first|rfl|exact aR _ _) ?_
  intro k hk;obtain⟨x,j⟩:=Q k;have p:=x.1;have i:=j.1;have w3:=az (k:=k) aq;simp only[go_sem,Nat.reduceEqDiff,Nat.reduceAdd,Nat.reduceLT,↓reduceIte];by_cases h4:k<L
  ·refine⟨fun h=>?_,fun h=>absurd (by exact_mod_cast h4) h⟩;have f:S (k+1)=stpW M n k (S k):=by rw[←D];rfl
   have ac:dq k=k/64:=rfl;have ab:rq k=k%64:=rfl;have A:=jW (l:=n) (k:=dq k) aq;have U:IntKind.i64.wrap ((k:Int)/64)=(dq k:Int):=by rw[IntWalk.i64_in _ aq];omega
   have E:IntKind.i64.wrap ((k:Int).tdiv 64)=(dq k:Int):=U;have B:(k:Int)%64=(rq k:Int):=aq;have F:(k:Int).tmod 64=(rq k:Int):=B;have w:(dq k:Int)<4:=aq;obtain⟨N,_,J⟩:=t ((S k).2,(S k).2) ⟨j,j⟩;obtain⟨m3,_,m4⟩:=t ((S k).1,(S k).2) ⟨x,j⟩;have K:=N.1;have l4:=m3.1;have q:rq k<64:=aq;have I:min (rq k) 64=rq k:=aq;unfold stpW at f;by_cases g:AQ n k
   ·rw[if_pos g]at f;unfold AQ at g;simp[go_sem,A,c,B,F,U,E,w,q,I,g,IntKind.bits,p,i,aa p,aa i]
    first|refine ag J (aI _ _) ?_
    generalize M ((S k).2,(S k).2)=z at *;simp[go_sem,K,aa K,i,aG i,w3]
    first|refine am (k+1) aq aq ?_
    rw[f];simp[av,ah,fv,lk,AV.low,AV.low1];and_intros<;>exact aR _ _
   ·rw[if_neg g]at f;unfold AQ at g;simp[go_sem,A,c,B,F,U,E,w,q,I,g,IntKind.bits,p,i,aa p,aa i]
    first|refine ag m4 (aI _ _) ?_
    generalize M ((S k).1,(S k).2)=y at *;simp[go_sem,l4,aa l4,p,i,aa i,aG p]
    first|refine ag J (aI _ _) ?_
    generalize M ((S k).2,(S k).2)=z at *;simp[go_sem,K,aa K,i,aG i,w3]
    first|refine am (k+1) aq aq ?_
    rw[f];simp[av,ah,fv,lk,AV.low,AV.low1];and_intros<;>exact aR _ _
  ·refine⟨fun h=>absurd (by exact_mod_cast h) h4,fun h=>?_⟩;have W:k=L:=aq;subst W;simp[go_sem,p,aa p,X,ai];exact cY rfl
theorem orR{x y:Int}(a:dQ x)(b:dQ y):dQ (Go.bits .or .u64 x y):=by
 obtain⟨X,rfl⟩:=Int.eq_ofNat_of_zero_le a.1;obtain⟨Y,rfl⟩:=Int.eq_ofNat_of_zero_le b.1;have c:=a.2;have d:=b.2;rw[QM X Y aq aq];have:=Nat.or_lt_two_pow (x:=X) (y:=Y) (n:=64) aq aq;exact⟨Int.natCast_nonneg _,aq⟩
theorem fdR{x:Int}(a:dQ x):dQ (Int.fdiv x 4):=by
 obtain⟨b,c⟩:=a;rw[Int.fdiv_eq_ediv_of_nonneg _ aq];exact⟨aq,aq⟩
theorem Ro(a:List Int)(g:Wn 4 a):∃r,Wn 4 r∧V r=V a ^ 115792089237316195423570985008687907853269984665640564039457584007908834671661%115792089237316195423570985008687907853269984665640564039457584007908834671663∧W1 213 a r:=by
 obtain⟨n,c,f,hc,l,p⟩:=lu AL [2,0,0,0] Dx (jF ⟨aq,aq⟩);obtain⟨r,j,h,i⟩:=Nk a n g f;have m:V AL=115792089237316195423570985008687907853269984665640564039457584007908834671663:=by simp[V,AL]
 have q:V [2,0,0,0]=2:=by simp[V]
 rw[m,q]at l;have s:=eC f;have b2:=hc.1;have b3:=hc.2;have o:(V n).toNat=115792089237316195423570985008687907853269984665640564039457584007908834671661:=aq;rw[o]at h;unfold W2 at i;have b:=g.1;have d:=f.1;have e:=j.1;have k:List.drop 4 (cI zI)=[]:=aG rfl;refine⟨r,j,h,?_⟩;unfold W1;refine bz Tryz.func213 Tryz.ntmps213 (rs:=[.cell 2 96]) (aF a) ?_;simp[go_sem,b,aa b];refine ag kA aw ?_;simp[go_sem];refine ag (eR 2) a9 ?_;simp[go_sem];refine ag p (aI _ _) ?_;simp[go_sem,b,d,aa b,aa d,k];refine ag i (aI _ _) ?_;simp[go_sem,e,aa e,k,ai];exact cY rfl
def ZY(x:Int):Int:=IntKind.u64.wrap (x*4611686018427387904)
def Dz(a:List Int)(k:Nat)(s:List Int):List Int :=
 if k<3 then s.set k (Go.bits .or .u64 (Int.fdiv (gI a k) 4) (ZY (gI a (pl k 1))))else s.set k (Int.fdiv (gI a k) 4)
theorem Nl(x y:Int)(d:0≤x)(a:x<18446744073709551616):Go.bits .or .u64 (Int.fdiv x 4) (ZY y)=x/4+4611686018427387904*(y%4):=by
 rw[Int.fdiv_eq_ediv_of_nonneg _ aq];unfold ZY;rw[AI];obtain⟨X,b⟩:∃X:Nat,x/4=(X:Int):=⟨(x/4).toNat,aq⟩;obtain⟨Y,c⟩:∃Y:Nat,y%4=(Y:Int):=⟨(y%4).toNat,aq⟩;have e:y*4611686018427387904%18446744073709551616=((Y*2 ^ 62:Nat):Int):=aq;rw[e,b,QM X (Y*2 ^ 62) aq aq,c,Nat.or_comm,←Nat.shiftLeft_eq,←Nat.shiftLeft_add_eq_or_of_lt (show X<2 ^ 62 by omega),Nat.shiftLeft_eq];omega
theorem Wu{a:List Int}(j:Wn 4 a):V (fJ (Dz a) zI 4)=V a/4:=by
 obtain⟨f,b,c,d,rfl,i,g,h,w⟩:=jX j;have l:gI [f,b,c,d] 0=f:=rfl;have o:gI [f,b,c,d] 1=b:=rfl;have t:gI [f,b,c,d] 2=c:=rfl;have v:gI [f,b,c,d] 3=d:=rfl;have m:gI [f,b,c,d] (pl 0 1)=b:=rfl;have u:gI [f,b,c,d] (pl 1 1)=c:=rfl;have k:gI [f,b,c,d] (pl 2 1)=d:=rfl;have e:∀p q r s:Int,List.set (List.set (List.set (List.set zI 0 p) 1 q) 2 r) 3 s=[p,q,r,s]:=fun _ _ _ _=>rfl;unfold dQ at *;simp only[fJ,Dz,l,o,t,v,m,u,k];rw[if_neg (show ¬((3:Nat)<3)by omega),if_pos (show(2:Nat)<3 by omega),if_pos (show(1:Nat)<3 by omega),if_pos (show(0:Nat)<3 by omega),Nl f b i.1 i.2,Nl b c g.1 g.2,Nl c d h.1 h.2,e,V4,V4,Int.fdiv_eq_ediv_of_nonneg _ aq];omega
theorem Rq(a:List Int)(t:Wn 4 a):∃r,Wn 4 r∧V r=V a/4∧ap Tryz.prog 216 [.agg (cI a),.d (.int .i64 2)] (fun x=>x=.agg (cI r)):=by
 have C:∀k,Wn 4 (fJ (Dz a) zI k):=jD (P:=fun _(s:List Int)=>Wn 4 s) iu fun k s E=>by
  unfold Dz;split;exact qB E (orR (fdR (dy t)) (Q8 _));exact qB E (fdR (dy t))
 refine⟨fJ (Dz a) zI 4,C 4,Wu t,?_⟩;refine bz Tryz.func216 Tryz.ntmps216 (rs:=[.cell 4 96]) (by intro v F;simp at F;rcases F with rfl|rfl;exact cM _;trivial) ?_;have e:=t.1;generalize q:fJ (Dz a) zI=S at *;have H:IntKind.i64.wrap 0=0:=IntWalk.i64_in _ aq;have K:List.drop 4 (cI zI)=[]:=aG rfl;simp[go_sem,e,aa e,H]
 refine au (fun k:Nat=>⟨[(2,.ptr 0 0 0 1),(4,.ptr 32 0 0 1),(5,.ptr 192 0 0 1),(6,.d (.int .i64 0)),(7,.d (.int .i64 2)),(8,.d (.int .i64 (k:Int)))],[(192,⟨96,4,[cI (S k)]⟩),(32,⟨96,4,[cI zI]⟩),(0,⟨96,4,[cI a]⟩)],1000⟩)
  (fun k=>k≤4) (fun k=>4-k) 0 aq (by
   rw[←q];simp[av,ah,fv,lk,AV.low,AV.low1,fJ]
   first|(and_intros<;>first|rfl|exact aR _ _)) ?_
 intro k L;have z:=C k;have f:=z.1;have J:=az (k:=k) aq;have A:IntKind.i64.wrap 62=62:=IntWalk.i64_in _ aq;simp only[go_sem,Nat.reduceEqDiff,Nat.reduceAdd,Nat.reduceLT,↓reduceIte];by_cases p:k<4
 ·refine⟨fun h=>?_,fun h=>absurd (by exact_mod_cast p) h⟩;have m:=jW (l:=a) (k:=k) aq;have c:(k:Int)<4:=aq;have b:S (k+1)=Dz a k (S k):=by rw[←q];rfl
  have g:IntKind.i64.wrap ((k:Int)-0)=(k:Int):=IntWalk.i64_in _ aq;have j:IntKind.i64.wrap (k:Int)=(k:Int):=IntWalk.i64_in _ aq;unfold Dz at b;have o:pl k 1=k+1:=rfl;have u:IntKind.i64.wrap ((k:Int)+1)=(pl k 1:Int):=by rw[o];exact J
  by_cases D:k<3
  ·rw[if_pos D]at b;have B:=jW (l:=a) (k:=pl k 1) aq;have i3:(pl k 1:Int)<4:=aq;have i:pl k 1<4:=aq;have I:(S k)[k]?=some (gI (S k) k):=jW aq;have y:((S k).set k (Int.fdiv (gI a k) 4))[k]?=some (Int.fdiv (gI a k) 4):=(by rw[List.getElem?_set_self aq]);simp[go_sem,m,e,f,c,g,j,oh,u,i3,i,IntKind.bits];refine⟨p,?_⟩;refine cG [0,1,2,3,4,5,6,7,8,9,10,11,12,13] [(14,[])] 0 (k:=15) ?_;intro G w;simp[go_sem,m,B,e,f,c,g,j,oh,u,i3,IntKind.bits,y,A,List.length_set,ZY]
   first|refine⟨p,w _ _ ?_⟩|refine w _ _ ?_|refine⟨aq,w _ _ ?_⟩
   clear w G;simp[go_sem,u];refine am (k+1) aq aq ?_;rw[b];simp[av,ah,fv,lk,AV.low,AV.low1,o,ZY]
   first|(and_intros<;>exact aR _ _)
  ·rw[if_neg D]at b;have i3:¬(pl k 1:Int)<4:=aq;have i:¬pl k 1<4:=aq;simp[go_sem,m,e,f,c,g,j,oh,u,i3,i,IntKind.bits]
   first|refine⟨p,am (k+1) aq aq ?_⟩|refine am (k+1) aq aq ?_
   rw[b];simp[av,ah,fv,lk,AV.low,AV.low1,o]
   first|(and_intros<;>exact aR _ _)
 ·refine⟨fun h=>absurd (by exact_mod_cast h) p,fun h=>?_⟩;have c:k=4:=aq;subst c;simp[go_sem,f,aa f,K,ai];exact cY rfl
theorem fM(l:List Int):cn .u64 (cI l)=some l:=by
 induction l with
 |nil=>rfl
 |cons x r ih=>simp only[cI,List.map_cons]at ih⊢;simp[cn,ih]
theorem o6{Q:AV→Prop}{st:St}{a:List Int}{b:Bool}(hq:Q (.tup [.agg (cI a),.d (.bool b)])):dm Q (.tup [.agg (cI a),.d (.bool b)]) st :=
 ae (by
  intro c hc;simp at hc;rcases hc with rfl|rfl;exact .inr ⟨_,rfl,i7 _⟩
  exact .inl trivial) hq
theorem HI(a:List Int)(c:Int):∀v,v∈[AV.agg (cI a),AV.d (.int .i64 c)]→v.deep:=by
 intro v b;simp at b;rcases b with rfl|rfl;exact cM _;trivial
theorem Nn(a:List Int)(N:Wn 4 a):∃(r:List Int)(p:Bool),Wn 4 r∧(p=true↔(V a ^ 28948022309329048855892746252171976963317496166410141009864396001977208667916%115792089237316195423570985008687907853269984665640564039457584007908834671663)*(V a ^ 28948022309329048855892746252171976963317496166410141009864396001977208667916%115792089237316195423570985008687907853269984665640564039457584007908834671663)%115792089237316195423570985008687907853269984665640564039457584007908834671663=V a%115792089237316195423570985008687907853269984665640564039457584007908834671663)∧(p=true→V r=if V a ^ 28948022309329048855892746252171976963317496166410141009864396001977208667916%115792089237316195423570985008687907853269984665640564039457584007908834671663%2=0 then V a ^ 28948022309329048855892746252171976963317496166410141009864396001977208667916%115792089237316195423570985008687907853269984665640564039457584007908834671663 else(0-V a ^ 28948022309329048855892746252171976963317496166410141009864396001977208667916%115792089237316195423570985008687907853269984665640564039457584007908834671663)%115792089237316195423570985008687907853269984665640564039457584007908834671663)∧(p=false→r=zI)∧ap Tryz.prog 189 [.agg (cI a)] (fun x=>x=.tup [.agg (cI r),.d (.bool p)]):=by
 obtain⟨n0,c,z,hc,L,f1⟩:=jE AL [1,0,0,0] Dx (jF ⟨aq,aq⟩);obtain⟨n,hn,vn,f2⟩:=Rq n0 z;obtain⟨r,t,K,T⟩:=Nk a n N hn;obtain⟨m,W,vm,X⟩:=AN r r t t;obtain⟨B,I,M,Y⟩:=iG a N;obtain⟨q,hq,vq,Z⟩:=Rm r t;have vp:V AL=115792089237316195423570985008687907853269984665640564039457584007908834671663:=by simp[V,AL]
 have v1:V [1,0,0,0]=1:=by simp[V]
 rw[vp,v1]at L;have b1:=eC z;have b2:=hc.1;have b3:=hc.2;have vN:(V n).toNat=28948022309329048855892746252171976963317496166410141009864396001977208667916:=aq;rw[vN]at K;have w:m=B↔(V a ^ 28948022309329048855892746252171976963317496166410141009864396001977208667916%115792089237316195423570985008687907853269984665640564039457584007908834671663)*(V a ^ 28948022309329048855892746252171976963317496166410141009864396001977208667916%115792089237316195423570985008687907853269984665640564039457584007908834671663)%115792089237316195423570985008687907853269984665640564039457584007908834671663=V a%115792089237316195423570985008687907853269984665640564039457584007908834671663:=by
  rw[←K,←vm,←M];exact⟨fun h=>by rw[h],fun h=>Dv W I h⟩
 have s:=dy (k:=0) t;have u:Go.bits .and .u64 (gI r 0) 1=0↔V r%2=0:=by
  rw[AS _ s.1 s.2];obtain⟨r0,r1,r2,r3,e,_⟩:=jX t;rw[e,V4];show r0%2=0↔_;omega
 rw[←K]at w;unfold W1 at Y Z;unfold W2 at T X;have f:=N.1;have g:=z.1;have b:=t.1;have S:=W.1;have Q:=I.1;have D:=hq.1;have A:List.drop 4 (cI zI)=[]:=aG rfl;have v:=jW (l:=r) (k:=0) aq;have C:(cI r).head?=some (.d (.int .u64 (gI r 0))):=by
  rw[List.head?_eq_getElem?,FP,v];rfl
 have F:∀(x:List Int)(p:Bool),Wn 4 x→(m≠B→x=zI∧p=false)→(m=B→p=true∧x=(if Go.bits .and .u64 (gI r 0) 1=0 then r else q))→ap Tryz.prog 189 [.agg (cI a)] (fun y=>y=.tup [.agg (cI x),.d (.bool p)]):=by
  intro x p hx O E;refine bz Tryz.func189 Tryz.ntmps189 (rs:=[.cell 2 96,.tmp 3]) (aF a) ?_;simp[go_sem,f,aa f];refine ag kA aw ?_;simp[go_sem];refine ag (eR 1) a9 ?_;simp[go_sem];refine ag f1 (aI _ _) ?_;simp[go_sem,g,aa g,A];refine cO [0,1] [2,3,4,5] [0,1] (.alt (bt 2 (.alt (a_ [3,4,5]) (bt 4 (a_ [3,5])))) (bt 4 (bt 2 (a_ [3,5])))) ⟨[(1,.ptr 0 0 0 1),(2,.ptr 32 0 0 1),(6,.ptr 512 0 0 1)],[(512,⟨96,4,[cI r]⟩),(32,⟨96,4,[cI zI]⟩),(0,⟨96,4,[cI a]⟩)],9000⟩ (k:=6) ?h3 ?hq
  case h3 =>
   intro G P;have U:∀(J:Fr)(H:Hp),(fv 1 J=.ptr 0 0 0 1∧fv 2 J=.ptr 32 0 0 1∧fv 6 J=.ptr 512 0 0 1∧lk 512 H=some ⟨96,4,[cI r]⟩∧lk 32 H=some ⟨96,4,[cI zI]⟩∧lk 0 H=some ⟨96,4,[cI a]⟩)→G J H:=by
    rintro J H⟨q0,q1,q2,q3,q4,q5⟩;exact P _ _ pD
   simp[go_sem,f,aa f,g,aa g,b,aa b,A,cZ]
   repeat' first|exact U _ _ ⟨rfl,rfl,rfl,rfl,rfl,rfl⟩|(refine U _ _ ?_;simp[fv,lk];done)|refine ag f2 (HI _ _) ?_|refine ag T (aI _ _) ?_|apply And.intro|simp[go_sem,f,aa f,g,aa g,b,aa b,A,cZ]
  case hq =>
   simp[go_sem];refine cG [0,1,3] [(2,[]),(4,[5])] 2 (k:=6) ?_;intro G P;simp[go_sem,b,aa b,f,aa f];refine ag X (aI _ _) ?_;simp[go_sem,b,aa b,f,aa f];refine ag Y (aF _) ?_;simp[go_sem,fM,S,Q];refine P _ _ ?_;by_cases i:m=B
   ·obtain⟨rfl,j⟩:=E i;by_cases o:Go.bits .and .u64 (gI r 0) 1=0
    ·rw[if_pos o]at j;subst j;simp[go_sem,i,v,C,o,b,aa b,A,ai];exact o6 rfl
    ·rw[if_neg o]at j;subst j;simp[go_sem,i,v,C,o,b,aa b,A];refine ag Z (aF _) ?_;simp[go_sem,D,b,aa D,aG b,A,ai];exact o6 rfl
   ·obtain⟨rfl,rfl⟩:=O i;simp[go_sem,i,A,aa (l:=zI) (n:=4) rfl,ai];exact o6 (a:=zI) rfl
 rw[←K];by_cases i:m=B
 ·refine⟨if Go.bits .and .u64 (gI r 0) 1=0 then r else q,true,?_,⟨fun _=>w.1 i,fun _=>rfl⟩,fun _=>?_,fun h=>(Bool.noConfusion h),F _ _ ?_ (fun h=>absurd i h) (fun _=>⟨rfl,rfl⟩)⟩
  split;exact t;exact hq;by_cases o:V r%2=0;rw[if_pos (u.2 o),if_pos o];rw[if_neg (fun h=>o (u.1 h)),if_neg o,vq];split;exact t;exact hq
 ·exact⟨zI,false,iu,⟨fun h=>(Bool.noConfusion h),fun h=>absurd (w.2 h) i⟩,fun h=>(Bool.noConfusion h),fun _=>rfl,F _ _ iu (fun _=>⟨rfl,rfl⟩) (fun h=>absurd h i)⟩
end Go.Proofs.YtmfnimjnneflnaaGreat
namespace Go.Ec
class CR (R:Type) where
 ad:R→R→R
 mu:R→R→R
 ic:Int→R
 ad_as:∀a b c,ad (ad a b) c=ad a (ad b c)
 ad_co:∀a b,ad a b=ad b a
 mu_as:∀a b c,mu (mu a b) c=mu a (mu b c)
 mu_co:∀a b,mu a b=mu b a
 di:∀a b c,mu (ad a b) c=ad (mu a c) (mu b c)
 ic_ad:∀m n,ic (m+n)=ad (ic m) (ic n)
 ic_mu:∀m n,ic (m*n)=mu (ic m) (ic n)
 ze:∀a,ad (ic 0) a=a
 on:∀a,mu (ic 1) a=a
 zm:∀a,mu (ic 0) a=ic 0
open CR
section
variable {R:Type} [CR R]
theorem di'(a b c:R):mu c (ad a b)=ad (mu c a) (mu c b):=by rw[mu_co c,di,mu_co a,mu_co b]
theorem Jp(a:R):ad a (ic 0)=a:=by rw[ad_co,ze]
theorem zm'(a:R):mu a (ic 0)=ic 0:=by rw[mu_co,zm]
theorem OW(a:R):mu a (ic 1)=a:=by rw[mu_co,on]
theorem ad4(a b c d:R):ad (ad a b) (ad c d)=ad (ad a c) (ad b d):=by
 rw[ad_as,←ad_as b,ad_co b c,ad_as c,←ad_as]
theorem mu4(a b c d:R):mu (mu a b) (mu c d)=mu (mu a c) (mu b d):=by
 rw[mu_as,←mu_as b,mu_co b c,mu_as c,←mu_as]
def pw(x:R):Nat→R
 |0=>ic 1
 |k+1=>mu (pw x k) x
theorem Ud(x:R)(a:Nat):∀b,pw x (a+b)=mu (pw x a) (pw x b)
 |0=>(OW _).symm
 |b+1=>by rw[←Nat.add_assoc,pw,Ud x a b,pw,mu_as]
abbrev Mo:=Int×Nat×Nat×Nat
def sG(x y z:R)(m:Mo):R:=mu (ic m.1) (mu (pw x m.2.1) (mu (pw y m.2.2.1) (pw z m.2.2.2)))
def ev(x y z:R):List Mo→R
 |[]=>ic 0
 |m::l=>ad (sG x y z m) (ev x y z l)
theorem AU(x y z:R)(q:List Mo):∀p,ev x y z (p++q)=ad (ev x y z p) (ev x y z q)
 |[]=>(ze _).symm
 |m::l=>by rw[List.cons_append,ev,AU x y z q l,ev,ad_as]
def mm(m k:Mo):Mo:=(m.1*k.1,m.2.1+k.2.1,m.2.2.1+k.2.2.1,m.2.2.2+k.2.2.2)
theorem Wv(x y z:R)(m k:Mo):sG x y z (mm m k)=mu (sG x y z m) (sG x y z k):=by
 simp only[sG,mm,ic_mu,Ud];rw[mu4 (ic m.1) _ (ic k.1) _];congr 1;rw[mu4 (pw x _) _ (pw x _) _];congr 1;rw[mu4]
def pm(p q:List Mo):List Mo:=p.flatMap fun m=>q.map (mm m)
theorem Np(x y z:R)(m:Mo):∀q,ev x y z (q.map (mm m))=mu (sG x y z m) (ev x y z q)
 |[]=>(zm' _).symm
 |k::l=>by rw[List.map_cons,ev,ev,Np x y z m l,Wv,di']
theorem Nq(x y z:R)(q:List Mo):∀p,ev x y z (pm p q)=mu (ev x y z p) (ev x y z q)
 |[]=>(zm _).symm
 |m::l=>by
  have:pm (m::l) q=q.map (mm m)++pm l q:=by simp[pm]
  rw[this,AU,Np,Nq x y z q l,ev,di]
def nr:List Mo→Nat
 |[]=>0
 |m::l=>m.1.natAbs+nr l
theorem FT(q:List Mo):∀p,nr (p++q)=nr p+nr q
 |[]=>(Nat.zero_add _).symm
 |m::l=>by rw[List.cons_append,nr,FT q l,nr,Nat.add_assoc]
theorem Nr(m:Mo):∀q,nr (q.map (mm m))=m.1.natAbs*nr q
 |[]=>rfl
 |k::l=>by rw[List.map_cons,nr,nr,Nr m l,Nat.mul_add,mm,Int.natAbs_mul]
theorem Ns(q:List Mo):∀p,nr (pm p q)=nr p*nr q
 |[]=>by simp[pm,nr]
 |m::l=>by
  have:pm (m::l) q=q.map (mm m)++pm l q:=by simp[pm]
  rw[this,FT,Nr,Ns q l,nr,Nat.add_mul]
def co(D E:Nat):List Mo→Nat→Int
 |[],_=>0
 |m::l,k=>(if m.2.1+D*(m.2.2.1+E*m.2.2.2)=k then m.1 else 0)+co D E l k
theorem Ue(D E k:Nat):∀l,(co D E l k).natAbs≤nr l
 |[]=>by simp[co]
 |m::l=>by
  have:=Ue D E k l;rw[co,nr];split<;>omega
def su(f:Nat→R):Nat→R
 |0=>ic 0
 |k+1=>ad (su f k) (f k)
theorem Uf(f g:Nat→R):∀n,su (fun k=>ad (f k) (g k)) n=ad (su f n) (su g n)
 |0=>(ze _).symm
 |n+1=>by rw[su,Uf f g n,su,su,ad4]
theorem Rt{f:Nat→R}:∀n,(∀k,k<n→f k=ic 0)→su f n=ic 0
 |0,_=>rfl
 |n+1,h=>by rw[su,Rt n fun k a=>h k aq,h n aq,ze]
theorem Nu{f:Nat→R}{j:Nat}:∀n,j<n→(∀k,k≠j→f k=ic 0)→su f n=f j
 |0,h,_=>by omega
 |n+1,h,hz=>by
  rw[su];by_cases e:j=n;subst e;rw[Rt j fun k b=>hz k aq,ze];rw[Nu n aq hz,hz n (fun a=>e a.symm),Jp]
theorem HJ{f g:Nat→R}(n:Nat)(h:∀k,f k=g k):su f n=su g n:=by
 have:f=g:=funext h;rw[this]
def mon(D E:Nat)(x y z:R)(k:Nat):R:=mu (pw x (k%D)) (mu (pw y (k/D%E)) (pw z (k/D/E)))
theorem Ug{D E:Nat}(b:0<D)(c:0<E)(x y z:R)(N:Nat):∀l:List Mo,(∀m,m∈l→m.2.1<D∧m.2.2.1<E∧m.2.1+D*(m.2.2.1+E*m.2.2.2)<N)→ev x y z l=su (fun k=>mu (ic (co D E l k)) (mon D E x y z k)) N
 |[],_=>by
  rw[Rt];rfl;intro k _;rw[co,zm]
 | m :: l,h=>by
  obtain⟨d,f,g⟩:=h m aw;rw[ev,Ug b c x y z N l (fun k a=>h k (by simp[a]))];have p:(m.2.1+D*(m.2.2.1+E*m.2.2.2))%D=m.2.1:=by rw[Nat.add_mul_mod_self_left,Nat.mod_eq_of_lt d]
  have q:(m.2.1+D*(m.2.2.1+E*m.2.2.2))/D=m.2.2.1+E*m.2.2.2:=by rw[Nat.add_mul_div_left _ _ b,Nat.div_eq_of_lt d,Nat.zero_add]
  have i:(m.2.2.1+E*m.2.2.2)%E=m.2.2.1:=by rw[Nat.add_mul_mod_self_left,Nat.mod_eq_of_lt f]
  have r:(m.2.2.1+E*m.2.2.2)/E=m.2.2.2:=by rw[Nat.add_mul_div_left _ _ c,Nat.div_eq_of_lt f,Nat.zero_add]
  have o:sG x y z m=su (fun k=>mu (ic (if m.2.1+D*(m.2.2.1+E*m.2.2.2)=k then m.1 else 0)) (mon D E x y z k)) N:=by
   rw[Nu (j:=m.2.1+D*(m.2.2.1+E*m.2.2.2)) N g (fun k a=>by rw[if_neg (fun e=>a e.symm),zm])];rw[if_pos rfl,mon,q,p,i,r,sG]
  rw[o,←Uf];refine HJ N fun k=>?_;rw[co,ic_ad,di]
end
instance crI:CR Int where
 ad:=(·+·)
 mu:=(·*·)
 ic:=id
 ad_as:=Int.add_assoc
 ad_co:=Int.add_comm
 mu_as:=Int.mul_assoc
 mu_co:=Int.mul_comm
 di:=Int.add_mul
 ic_ad:=fun _ _=>rfl
 ic_mu:=fun _ _=>rfl
 ze:=Int.zero_add
 on:=Int.one_mul
 zm:=Int.zero_mul
theorem qC(x:Int):∀k,pw x k=x ^ k
 |0=>(Int.pow_zero x).symm
 |k+1=>by rw[pw,qC x k,Int.pow_succ];rfl
theorem Nv(K:Int)(c:Nat→Int)(B:Nat)(d:∀k,(c k).natAbs≤B)(e:(B:Int)<K):∀(N s:Nat),su (R:=Int) (fun k=>c (k+s)*K ^ k) N=0→∀k,k<N→c (k+s)=0
 |0,_,_,k,h=>by omega
 | N+1,s,h,k,hk=>by
  have split:∀M,su (R:=Int) (fun k=>c (k+s)*K ^ k) (M+1)=c s+K*su (R:=Int) (fun k=>c (k+(s+1))*K ^ k) M:=by
   intro M
   induction M with
   |zero=>simp[su,CR.ad,CR.ic]
   |succ M ih =>
    rw[su,ih,su];show _+_+_=_+K*(_+_);have:M+1+s=M+(s+1):=aq;rw[this,Int.mul_add,Int.pow_succ,Int.add_assoc];congr 2;rw[Int.mul_comm (K ^ M) K,←Int.mul_assoc,Int.mul_comm (c _) K,Int.mul_assoc]
  rw[split]at h;have f:c s=0:=by
   have j:=d s;have g:K∣c s:=⟨- su (R:=Int) (fun k=>c (k+(s+1))*K ^ k) N,by rw[Int.mul_neg];omega⟩;rcases Int.natAbs_dvd_natAbs.2 g with ⟨t,l⟩;rcases Nat.eq_zero_or_pos t with rfl|b;omega;have:K.natAbs≤K.natAbs*t:=Nat.le_mul_of_pos_right _ b;omega
  cases k with
  |zero=>simpa using f
  | succ k =>
   have a:K≠0:=aq;have i:su (R:=Int) (fun k=>c (k+(s+1))*K ^ k) N=0:=by
    have:K*su (R:=Int) (fun k=>c (k+(s+1))*K ^ k) N=0:=aq;rcases Int.mul_eq_zero.1 this with h|h;exact absurd h a;exact h
   have:=Nv K c B d e N (s+1) i k aq;rw[←this];congr 1;omega
theorem Ru(K:Int)(D E k:Nat):mon (R:=Int) D E K (K ^ D) (K ^ (D*E)) k=K ^ k:=by
 show pw K _*(pw (K ^ D) _*pw (K ^ (D*E)) _)=_;rw[qC,qC,qC,←Int.pow_mul,←Int.pow_mul,←Int.pow_add,←Int.pow_add];congr 1;have a:=Nat.div_add_mod k D;have c:=Nat.div_add_mod (k/D) E;have b:D*(k/D%E)+D*E*(k/D/E)=D*(k/D):=by
  rw[Nat.mul_assoc,←Nat.mul_add];congr 1;omega
 omega
theorem DC(D E:Nat):∀l:List Mo,∃N,∀m,m∈l→m.2.1+D*(m.2.2.1+E*m.2.2.2)<N
 |[]=>⟨0,fun m h=>by simp at h⟩
 |a::l=>by
  obtain⟨N,h⟩:=DC D E l;refine⟨max N (a.2.1+D*(a.2.2.1+E*a.2.2.2)+1),fun m b=>?_⟩;rcases d_.1 b with rfl|b;omega;have:=h m b;omega
theorem Rw{R:Type}[CR R]{D E:Nat}{K:Int}{l:List Mo}(e:0<D)(f:0<E)(b:∀m,m∈l→m.2.1<D∧m.2.2.1<E)(d:(nr l:Int)<K)(h:ev (R:=Int) K (K ^ D) (K ^ (D*E)) l=0)(x y z:R):ev x y z l=ic 0:=by
 obtain⟨N,i⟩:=DC D E l;have g:∀m,m∈l→m.2.1<D∧m.2.2.1<E∧m.2.1+D*(m.2.2.1+E*m.2.2.2)<N:=fun m a=>⟨(b m a).1,(b m a).2,i m a⟩;rw[Ug e f _ _ _ N l g]at h⊢;have j:su (R:=Int) (fun k=>co D E l (k+0)*K ^ k) N=0:=by
  rw[←h];refine HJ N fun k=>?_;rw[Ru];rfl
 have o:=Nv K (co D E l) (nr l) (fun k=>Ue D E k l) d N 0 j;refine Rt N fun k c=>?_;have:=o k c;rw[Nat.add_zero]at this;rw[this,zm]
end Go.Ec
namespace Go.Ec
open CR
structure Al(A:Type) where
 add:A→A→A
 mul:A→A→A
 con:Int→A
 isz:A→Bool
structure Al.Snd{A R:Type}[CR R](o:Al A)(ok:A→Prop)(e:A→R):Prop where
 add_ok:∀{a b},ok a→ok b→ok (o.add a b)
 mul_ok:∀{a b},ok a→ok b→ok (o.mul a b)
 con_ok:∀n,ok (o.con n)
 add_ev:∀{a b},ok a→ok b→e (o.add a b)=ad (e a) (e b)
 mul_ev:∀{a b},ok a→ok b→e (o.mul a b)=mu (e a) (e b)
 con_ev:∀n,e (o.con n)=ic n
 isz_ev:∀{a},ok a→o.isz a=true→e a=ic 0
def Al.sq{A:Type}(o:Al A)(c:A):Al (A×A) where
 add p q:=(o.add p.1 q.1,o.add p.2 q.2)
 mul p q:=(o.add (o.mul p.1 q.1) (o.mul (o.mul p.2 q.2) c),o.add (o.mul p.1 q.2) (o.mul p.2 q.1))
 con n:=(o.con n,o.con 0)
 isz p:=o.isz p.1&&o.isz p.2
theorem Al.Snd.sq{A R:Type}[CR R]{o:Al A}{d:A→Prop}{e:A→R}(h:o.Snd d e){c:A}(hc:d c){y:R}(g:mu y y=e c) :
  (o.sq c).Snd (fun p=>d p.1∧d p.2) (fun p=>ad (e p.1) (mu (e p.2) y)) where
 add_ok:=fun a b=>⟨h.add_ok a.1 b.1,h.add_ok a.2 b.2⟩
 mul_ok:=fun a b=>⟨h.add_ok (h.mul_ok a.1 b.1) (h.mul_ok (h.mul_ok a.2 b.2) hc),h.add_ok (h.mul_ok a.1 b.2) (h.mul_ok a.2 b.1)⟩
 con_ok:=fun n=>⟨h.con_ok n,h.con_ok 0⟩
 add_ev:=fun{a b}p q=>by
  show ad (e (o.add a.1 b.1)) (mu (e (o.add a.2 b.2)) y)=_;rw[h.add_ev p.1 q.1,h.add_ev p.2 q.2,di,ad4]
 mul_ev:=fun{a b}p q=>by
  show ad (e (o.add (o.mul a.1 b.1) (o.mul (o.mul a.2 b.2) c))) (mu (e (o.add (o.mul a.1 b.2) (o.mul a.2 b.1))) y)=_;rw[h.add_ev (h.mul_ok p.1 q.1) (h.mul_ok (h.mul_ok p.2 q.2) hc),h.add_ev (h.mul_ok p.1 q.2) (h.mul_ok p.2 q.1),h.mul_ev p.1 q.1,h.mul_ev (h.mul_ok p.2 q.2) hc,h.mul_ev p.2 q.2,h.mul_ev p.1 q.2,h.mul_ev p.2 q.1,←g];rw[di (e a.1),di' (e b.1),di' (e b.1),di (mu (e a.1) (e b.2)),mu4 (e a.2) y (e b.2) y,ad4,mu_as (e a.1),mu_as (e a.2) (e b.1),mu_co (e b.1) y,←mu_as (e a.2) y,ad_co (mu (mu (e a.2) (e b.2)) (mu y y))]
 con_ev:=fun n=>by
  show ad (e (o.con n)) (mu (e (o.con 0)) y)=_;rw[h.con_ev,h.con_ev,zm,Jp]
 isz_ev:=fun{a}p q=>by
  have f:(o.isz a.1&&o.isz a.2)=true:=q;rw[Bool.and_eq_true]at f;show ad (e a.1) (mu (e a.2) y)=_;rw[h.isz_ev p.1 f.1,h.isz_ev p.2 f.2,zm,ze]
structure Pv where
 g:List Mo
 v:Int
 n:Nat
 a:Nat
 b:Nat
def Pv.z:Pv:=⟨[],0,0,0,0⟩
def HK(K:Int)(D E:Nat):Al Pv where
 add p q:=⟨p.g++q.g,p.v+q.v,p.n+q.n,max p.a q.a,max p.b q.b⟩
 mul p q:=bif p.n.beq 0||q.n.beq 0 then⟨pm p.g q.g,0,0,0,0⟩else⟨pm p.g q.g,p.v*q.v,p.n*q.n,p.a+q.a,p.b+q.b⟩
 con n:=⟨[(n,0,0,0)],n,n.natAbs,0,0⟩
 isz p:=p.n.beq 0||(decide (p.v=0)&&decide ((p.n:Int)<K)&&Nat.blt p.a D&&Nat.blt p.b E)
def okP(K:Int)(D E:Nat)(p:Pv):Prop:=(p.n=0→p.v=0)∧p.v=ev (R:=Int) K (K ^ D) (K ^ (D*E)) p.g∧nr p.g≤p.n∧(p.n=0∨∀m,m∈p.g→m.1≠0→m.2.1≤p.a∧m.2.2.1≤p.b)
theorem AW{R:Type}[CR R](x y z:R):∀l,nr l=0→ev x y z l=ic 0
 |[],_=>rfl
 |m::l,h=>by
  rw[nr]at h;have a:m.1=0:=aq;rw[ev,AW x y z l aq,sG,a,zm,ze]
theorem o7{R:Type}[CR R](x y z:R):∀l,ev x y z (l.filter fun m=>m.1 != 0)=ev x y z l
 |[]=>rfl
 |m::l=>by
  by_cases h:m.1=0;rw[List.filter_cons_of_neg (by simp[h]),o7 x y z l,ev,sG,h,zm,ze];rw[List.filter_cons_of_pos (by simp[h]),ev,o7 x y z l,ev]
theorem tf:∀l:List Mo,nr (l.filter fun m=>m.1 != 0)=nr l
 |[]=>rfl
 |m::l=>by
  by_cases h:m.1=0;rw[List.filter_cons_of_neg (by simp[h]),tf l,nr,h];simp;rw[List.filter_cons_of_pos (by simp[h]),nr,tf l,nr]
theorem FU:∀(l:List Mo)(m:Mo),m∈l→nr l=0→m.1=0
 |k::l,m,a,h=>by
  rw[nr]at h;rcases d_.1 a with rfl|a;omega;exact FU l m a aq
theorem acU{R:Type}[CR R](K:Int)(D E:Nat)(N:0<D)(P:0<E)(x y z:R):(HK K D E).Snd (okP K D E) (fun p=>ev x y z p.g) where
 add_ok:=fun{p q}hp hq=>by
  obtain⟨r,l,w,o⟩:=hp;obtain⟨B,F,H,C⟩:=hq;refine⟨fun h=>?_,?_,?_,?_⟩;have d:p.n+q.n=0:=h;show p.v+q.v=0;rw[r aq,B aq];rfl;show p.v+q.v=_;rw[l,F];exact(AU _ _ _ _ _).symm;show nr (p.g++q.g)≤p.n+q.n;rw[FT];omega;refine .inr fun m c f=>?_;show m.2.1≤max p.a q.a∧m.2.2.1≤max p.b q.b;rcases cD.1 c with c|c;rcases o with h|h;exact absurd (FU _ m c aq) f;have:=h m c f;omega;rcases C with h|h;exact absurd (FU _ m c aq) f;have:=h m c f;omega
 mul_ok:=fun{p q}hp hq=>by
  obtain⟨r,l,w,o⟩:=hp;obtain⟨B,F,H,C⟩:=hq;have I:p.v*q.v=ev (R:=Int) K (K ^ D) (K ^ (D*E)) (pm p.g q.g):=by rw[l,F];exact(Nq _ _ _ _ _).symm
  by_cases k:p.n=0∨q.n=0;have e:(HK K D E).mul p q=⟨pm p.g q.g,0,0,0,0⟩:=by
   show(bif p.n.beq 0||q.n.beq 0 then _ else _)=_;have:(p.n.beq 0||q.n.beq 0)=true:=by rw[Bool.or_eq_true];exact k.imp (fun h=>by rw[h];rfl) (fun h=>by rw[h];rfl)
   rw[this];rfl
  rw[e];have W:nr (pm p.g q.g)=0:=by
   rw[Ns];rcases k with h|h;rw[show nr p.g=0 by omega,Nat.zero_mul];rw[show nr q.g=0 by omega,Nat.mul_zero]
  refine⟨fun _=>rfl,?_,?_,.inl rfl⟩;show 0=_;rw[←I];rcases k with h|h;rw[r h,Int.zero_mul];rw[B h,Int.mul_zero];show nr (pm p.g q.g)≤0;rw[W];exact cL _;have j:p.n≠0:=fun h=>k (.inl h);have u:q.n≠0:=fun h=>k (.inr h);have e:(HK K D E).mul p q=⟨pm p.g q.g,p.v*q.v,p.n*q.n,p.a+q.a,p.b+q.b⟩:=by
   show(bif p.n.beq 0||q.n.beq 0 then _ else _)=_;have:(p.n.beq 0||q.n.beq 0)=false:=by
    rw[Bool.or_eq_false_iff];exact⟨Bool.eq_false_iff.2 fun h=>j (Nat.eq_of_beq_eq_true h),Bool.eq_false_iff.2 fun h=>u (Nat.eq_of_beq_eq_true h)⟩
   rw[this];rfl
  rw[e];refine⟨fun h=>?_,I,?_,.inr fun m c f=>?_⟩;rcases Nat.mul_eq_zero.1 h with h|h;exact absurd h j;exact absurd h u;show nr (pm p.g q.g)≤p.n*q.n;rw[Ns];exact Nat.mul_le_mul w H;show m.2.1≤p.a+q.a∧m.2.2.1≤p.b+q.b;obtain⟨s,T,M⟩:=List.mem_flatMap.1 c;obtain⟨t,V,rfl⟩:=List.mem_map.1 M;have i:s.1*t.1≠0:=f;have A:s.1≠0:=fun h=>i (by rw[h,Int.zero_mul]);have G:t.1≠0:=fun h=>i (by rw[h,Int.mul_zero]);have X:=(o.resolve_left j) s T A;have Y:=(C.resolve_left u) t V G;show s.2.1+t.2.1≤_∧s.2.2.1+t.2.2.1≤_;omega
 con_ok:=fun n=>by
  refine⟨fun h=>?_,?_,?_,.inr fun m c _=>?_⟩;have d:n.natAbs=0:=h;show n=0;omega;show n=n*(1*(1*1))+0;simp;show n.natAbs+0≤n.natAbs;omega;have:m=(n,0,0,0):=(by simpa[HK]using c);subst this;exact⟨cL _,cL _⟩
 add_ev:=fun{p q}_ _=>AU _ _ _ _ _
 mul_ev:=fun{p q}_ _=>by
  show ev x y z (Pv.g (bif p.n.beq 0||q.n.beq 0 then _ else _))=_;cases p.n.beq 0||q.n.beq 0<;>exact Nq _ _ _ _ _
 con_ev:=fun n=>by
  show ad (mu (ic n) (mu (ic 1) (mu (ic 1) (ic 1)))) (ic 0)=ic n;rw[OW,OW,OW,Jp]
 isz_ev:=fun{p}hp h=>by
  obtain⟨r,l,w,o⟩:=hp;have d:(p.n.beq 0||(decide (p.v=0)&&decide ((p.n:Int)<K)&&Nat.blt p.a D&&Nat.blt p.b E))=true:=h;rw[Bool.or_eq_true]at d;rcases d with d|d;exact AW x y z _ (by have:=Nat.eq_of_beq_eq_true d;omega);simp only[Bool.and_eq_true,decide_eq_true_eq]at d;obtain⟨⟨⟨j,u⟩,O⟩,Q⟩:=d;have L:p.a<D:=Nat.le_of_ble_eq_true O;have J:p.b<E:=Nat.le_of_ble_eq_true Q;rcases o with h|h;exact AW x y z _ aq;show ev x y z p.g=_;rw[←o7];refine Rw (K:=K) N P (fun m c=>?_) ?_ ?_ x y z;obtain⟨S,U⟩:=List.mem_filter.1 c;have:=h m S (by simpa using U);omega;rw[tf];omega;rw[o7,←l,j]
inductive In where
 |add (i j:Nat)
 |sub (i j:Nat)
 |mul (i j:Nat)
 |con (n:Int)
def ZZ{A:Type}(o:Al A)(l:List A):In→A
 | .add i j=>o.add (l.getD i (o.con 0)) (l.getD j (o.con 0))
 | .sub i j=>o.add (l.getD i (o.con 0)) (o.mul (o.con (-1)) (l.getD j (o.con 0)))
 | .mul i j=>o.mul (l.getD i (o.con 0)) (l.getD j (o.con 0))
 | .con n=>o.con n
def run{A:Type}(o:Al A):List In→List A→List A
 |[],l=>l
 |i::r,l=>run o r (ZZ o l i::l)
def FW(R:Type)[CR R]:Al R:=⟨ad,mu,ic,fun _=>false⟩
theorem DD{A B:Type}(f:A→B)(l:List A)(i:Nat)(d:A)(a:B)(h:f d=a):(l.map f).getD i a=f (l.getD i d):=by
 rw[cR,cR,cU];cases l[i]?<;>simp[h]
theorem HL{A:Type}{b:A→Prop}{l:List A}(h:∀a,a∈l→b a){d:A}(c:b d)(i:Nat):b (l.getD i d):=by
 rw[cR];cases e:l[i]? with
 |none=>exact c
 |some a=>exact h a (cr e)
theorem Nw{A R:Type}[CR R]{o:Al A}{c:A→Prop}{e:A→R}(h:o.Snd c e):∀(p:List In)(l:List A),(∀a,a∈l→c a)→(∀a,a∈run o p l→c a)∧run (FW R) p (l.map e)=(run o p l).map e
 |[],l,hl=>⟨hl,rfl⟩
 | i :: r,l,hl=>by
  have g:∀k,c (l.getD k (o.con 0)):=fun k=>HL hl (h.con_ok 0) k;have b:∀k,(l.map e).getD k (ic 0)=e (l.getD k (o.con 0)):=fun k=>DD e l k _ _ (h.con_ev 0);have f:c (ZZ o l i)∧ZZ (FW R) (l.map e) i=e (ZZ o l i):=by
   cases i with
   |add i j=>exact⟨h.add_ok (g i) (g j),by show ad ((l.map e).getD i (ic 0)) ((l.map e).getD j (ic 0))=e (o.add _ _);rw[h.add_ev (g i) (g j),b,b]⟩
   |sub i j=>exact⟨h.add_ok (g i) (h.mul_ok (h.con_ok _) (g j)),by show ad ((l.map e).getD i (ic 0)) (mu (ic (-1)) ((l.map e).getD j (ic 0)))=e (o.add _ (o.mul (o.con (-1)) _));rw[h.add_ev (g i) (h.mul_ok (h.con_ok _) (g j)),h.mul_ev (h.con_ok _) (g j),h.con_ev,b,b]⟩
   |mul i j=>exact⟨h.mul_ok (g i) (g j),by show mu ((l.map e).getD i (ic 0)) ((l.map e).getD j (ic 0))=e (o.mul _ _);rw[h.mul_ev (g i) (g j),b,b]⟩
   |con n=>exact⟨h.con_ok n,by show ic n=e (o.con n);rw[h.con_ev]⟩
  obtain⟨m,q⟩:=Nw h r (ZZ o l i::l) (fun a d=>by
   rcases d_.1 d with rfl|d;exact f.1
   exact hl a d)
  refine⟨m,?_⟩;rw[run,run,←q,List.map_cons,f.2]
def alY(K:Int)(D E:Nat):Al (((Pv×Pv)×(Pv×Pv))×((Pv×Pv)×(Pv×Pv))) :=
 let o:=HK K D E
 let c1:Pv:=⟨[(1,3,0,0),(7,0,0,0)],K ^ 3+7,8,3,0⟩
 let c2:Pv:=⟨[(1,0,3,0),(7,0,0,0)],(K ^ D) ^ 3+7,8,0,3⟩
 let c3:Pv:=⟨[(1,0,0,3),(7,0,0,0)],(K ^ (D*E)) ^ 3+7,8,0,0⟩
 ((o.sq c1).sq (c2,o.con 0)).sq ((c3,o.con 0),(o.con 0,o.con 0))
def Z0(K:Int)(D E:Nat):List (((Pv×Pv)×(Pv×Pv))×((Pv×Pv)×(Pv×Pv))) :=
 let o:=HK K D E
 let z:=o.con 0
 let i:=o.con 1
 [((((⟨[(1,1,0,0)],K,1,1,0⟩:Pv),z),(z,z)),((z,z),(z,z))),
  ((((⟨[(1,0,1,0)],K ^ D,1,0,1⟩:Pv),z),(z,z)),((z,z),(z,z))),
  ((((⟨[(1,0,0,1)],K ^ (D*E),1,0,0⟩:Pv),z),(z,z)),((z,z),(z,z))),
  (((z,i),(z,z)),((z,z),(z,z))),
  (((z,z),(i,z)),((z,z),(z,z))),
  (((z,z),(z,z)),((i,z),(z,z)))]
def Jq(K:Int)(D E:Nat)(p:List In):Bool:=(alY K D E).isz ((run (alY K D E) p (Z0 K D E)).getD 0 ((alY K D E).con 0))
def cu{R:Type}[CR R](x:R):R:=ad (mu x (mu x x)) (ic 7)
theorem chk_ok{R:Type}[CR R](K:Int)(D E:Nat)(M:0<D)(N:0<E)(p:List In)(h:Jq K D E p=true)(x1 f e i j s:R)(O:mu i i=cu x1)(T:mu j j=cu f)(h3:mu s s=cu e) :
  (run (FW R) p [x1,f,e,i,j,s]).getD 0 (ic 0)=ic 0:=by
 have t:=acU (R:=R) K D E M N x1 f e;have d:=t.con_ok 0;have x:=t.con_ok 1;have B:=t.con_ev 0;have L:=t.con_ev 1;have one:∀(a b c:Nat)(v:Int)(k o:Nat),v=ev (R:=Int) K (K ^ D) (K ^ (D*E)) [(1,a,b,c)]→a≤k→b≤o→okP K D E ⟨[(1,a,b,c)],v,1,k,o⟩:=by
  intro a b c v k o I r H;refine⟨fun h=>by simp at h,I,by simp[nr],.inr fun m C _=>?_⟩;have l:m=(1,a,b,c):=by simpa using C
  subst l;exact⟨r,H⟩
 have q:∀(a b c:Nat)(v:Int)(k o:Nat),v=ev (R:=Int) K (K ^ D) (K ^ (D*E)) [(1,a,b,c),(7,0,0,0)]→a≤k→b≤o→okP K D E ⟨[(1,a,b,c),(7,0,0,0)],v,8,k,o⟩:=by
  intro a b c v k o I r H;refine⟨fun h=>by simp at h,I,by simp[nr],.inr fun m C _=>?_⟩;have l:m=(1,a,b,c)∨m=(7,0,0,0):=by simpa using C
  rcases l with rfl|rfl;exact⟨r,H⟩;exact⟨Nat.zero_le _,Nat.zero_le _⟩
 have z:=q 3 0 0 (K ^ 3+7) 3 0 (by simp[ev,sG,qC,ic,mu,ad]) aq aq;have A:=q 0 3 0 ((K ^ D) ^ 3+7) 0 3 (by simp[ev,sG,qC,ic,mu,ad]) aq aq;have w:=q 0 0 3 ((K ^ (D*E)) ^ 3+7) 0 0 (by simp[ev,sG,qC,ic,mu,ad]) aq aq;have V:=t.sq (c:=⟨[(1,3,0,0),(7,0,0,0)],K ^ 3+7,8,3,0⟩) z (y:=i) (by
  rw[O];show cu x1=ad (sG x1 f e (1,3,0,0)) (ad (sG x1 f e (7,0,0,0)) (ic 0));simp only[sG,pw,on,OW,Jp,cu];rw[mu_as])
 have W:=V.sq (c:=(⟨[(1,0,3,0),(7,0,0,0)],(K ^ D) ^ 3+7,8,0,3⟩,(HK K D E).con 0)) ⟨A,d⟩ (y:=j) (by
  rw[T];show cu f=ad (ad (sG x1 f e (1,0,3,0)) (ad (sG x1 f e (7,0,0,0)) (ic 0))) (mu (ev x1 f e ((HK K D E).con 0).g) i);rw[B,zm,Jp];simp only[sG,pw,on,OW,Jp,cu];rw[mu_as])
 have u:=W.sq (c:=((⟨[(1,0,0,3),(7,0,0,0)],(K ^ (D*E)) ^ 3+7,8,0,0⟩,(HK K D E).con 0),((HK K D E).con 0,(HK K D E).con 0))) ⟨⟨w,d⟩,d,d⟩ (y:=s) (by
  rw[h3];show cu e=ad (ad (ad (sG x1 f e (1,0,0,3)) (ad (sG x1 f e (7,0,0,0)) (ic 0))) (mu (ev x1 f e ((HK K D E).con 0).g) i)) (mu (ad (ev x1 f e ((HK K D E).con 0).g) (mu (ev x1 f e ((HK K D E).con 0).g) i)) j);rw[B,zm,Jp,ze,zm,Jp];simp only[sG,pw,on,OW,Jp,cu];rw[mu_as])
 have Y:=one 1 0 0 K 1 0 (by simp[ev,sG,pw,ic,mu,ad]) aq aq;have Q:=one 0 1 0 (K ^ D) 0 1 (by simp[ev,sG,pw,ic,mu,ad]) aq aq;have S:=one 0 0 1 (K ^ (D*E)) 0 0 (by simp[ev,sG,pw,ic,mu,ad]) aq aq;obtain⟨P,U⟩:=Nw u p (Z0 K D E) (by
  intro a r;simp only[Z0,d_,List.not_mem_nil,or_false]at r;rcases r with rfl|rfl|rfl|rfl|rfl|rfl;exact⟨⟨⟨Y,d⟩,d,d⟩,⟨d,d⟩,d,d⟩;exact⟨⟨⟨Q,d⟩,d,d⟩,⟨d,d⟩,d,d⟩;exact⟨⟨⟨S,d⟩,d,d⟩,⟨d,d⟩,d,d⟩;exact⟨⟨⟨d,x⟩,d,d⟩,⟨d,d⟩,d,d⟩;exact⟨⟨⟨d,d⟩,x,d⟩,⟨d,d⟩,d,d⟩
  exact⟨⟨⟨d,d⟩,d,d⟩,⟨x,d⟩,d,d⟩)
 have J:ev x1 f e [(1,1,0,0)]=x1:=by simp only[ev,sG,pw,on,OW,Jp]
 have F:ev x1 f e [(1,0,1,0)]=f:=by simp only[ev,sG,pw,on,OW,Jp]
 have G:ev x1 f e [(1,0,0,1)]=e:=by simp only[ev,sG,pw,on,OW,Jp]
 have X:(Z0 K D E).map (fun p=>ad (ad (ad (ev x1 f e p.1.1.1.g) (mu (ev x1 f e p.1.1.2.g) i)) (mu (ad (ev x1 f e p.1.2.1.g) (mu (ev x1 f e p.1.2.2.g) i)) j)) (mu (ad (ad (ev x1 f e p.2.1.1.g) (mu (ev x1 f e p.2.1.2.g) i)) (mu (ad (ev x1 f e p.2.2.1.g) (mu (ev x1 f e p.2.2.2.g) i)) j)) s))=[x1,f,e,i,j,s]:=by
  simp only[Z0,List.map_cons,List.map_nil,B,L,J,F,G,zm,ze,Jp,on]
 rw[←X,U,DD _ _ _ ((alY K D E).con 0) (ic 0) (u.con_ev 0)];exact u.isz_ev (HL P (u.con_ok 0) 0) h
end Go.Ec
namespace Go.Ec
open CR
def Ey(n:Nat)[h:NeZero n](c:Int):Fin n:=⟨(c%(n:Int)).toNat,by
 have:=Int.emod_lt_of_pos c (b:=(n:Int)) (by have:=h.out;omega);have:=Int.emod_nonneg c (b:=(n:Int)) (by have:=h.out;omega)
 omega⟩
theorem np(n:Nat)[h:NeZero n](c:Int):(((Ey n c).val:Nat):Int)=c%(n:Int):=by
 have:=Int.emod_nonneg c (b:=(n:Int)) (by have:=h.out;omega);show(((c%(n:Int)).toNat:Nat):Int)=_;omega
theorem mU{n:Nat}{a b:Fin n}(h:((a.val:Nat):Int)=((b.val:Nat):Int)):a=b:=Fin.ext aq
instance crF(n:Nat)[h:NeZero n]:CR (Fin n) where
 ad:=(·+·)
 mu:=(·*·)
 ic:=Ey n
 ad_as:=by intros;grobner
 ad_co:=by intros;grobner
 mu_as:=by intros;grobner
 mu_co:=by intros;grobner
 di:=by intros;grobner
 ic_ad:=fun a b=>mU (by
  rw[np,Fin.val_add,Int.natCast_emod,Int.natCast_add,np,np,←Int.add_emod])
 ic_mu:=fun a b=>mU (by
  rw[np,Fin.val_mul,Int.natCast_emod,Int.natCast_mul,np,np,←Int.mul_emod])
 ze:=fun a=>mU (by
  rw[Fin.val_add,Int.natCast_emod,Int.natCast_add,np];have:=a.isLt
  rw[Int.zero_emod,Int.zero_add,Int.emod_eq_of_lt aq aq])
 on:=fun a=>mU (by
  rw[Fin.val_mul,Int.natCast_emod,Int.natCast_mul,np];have:=a.isLt
  rw[Int.mul_emod,Int.emod_emod,←Int.mul_emod,Int.one_mul,Int.emod_eq_of_lt aq aq])
 zm:=fun a=>mU (by
  rw[Fin.val_mul,Int.natCast_emod,Int.natCast_mul,np,Int.zero_emod,Int.zero_mul,Int.zero_emod])
variable {n:Nat} [NeZero n]
theorem ja(k:Nat):(Ey n (k:Int))=Fin.ofNat n k:=mU (by
 rw[np];show _=((k%n:Nat):Int);rw[Int.natCast_emod])
theorem ic0:(ic 0:Fin n)=0:=ja 0
theorem icm(c:Int):(ic (-c):Fin n)=- ic c:=by
 have h:ad (ic (-c)) (ic c)=(ic 0:Fin n):=by rw[←ic_ad];congr 1;omega
 have d:(ic (-c):Fin n)+ic c=0:=by rw[←ic0];exact h
 generalize(ic (-c):Fin n)=a at *;generalize(ic c:Fin n)=b at *
 grobner
end Go.Ec
namespace Go.Ec
open CR
def dk{R:Type}[CR R](u v:R×R×R):R×R×R :=
 let xy:=ad (mu u.1 v.2.1) (mu v.1 u.2.1)
 let yz:=ad (mu u.2.1 v.2.2) (mu v.2.1 u.2.2)
 let xz:=ad (mu u.1 v.2.2) (mu v.1 u.2.2)
 let yy:=mu u.2.1 v.2.1
 let zz:=mu u.2.2 v.2.2
 let xx:=mu u.1 v.1
 let d:=ad yy (mu (ic (-1)) (mu (ic 21) zz))
 let e:=ad yy (mu (ic 21) zz)
 (ad (mu xy d) (mu (ic (-1)) (mu (ic 21) (mu yz xz))),ad (mu e d) (mu (ic 63) (mu xx xz)),ad (mu yz e) (mu (ic 3) (mu xx xy)))
def Ww:List In:=.con 1::.mul 1 5::.mul 3 5::.add 1 0::.mul 7 3::.mul 9 4::.add 1 0::.mul 7 6::.mul 9 7::.add 1 0::.mul 13 14::.mul 10 10::.mul 12 13::.con 21::.mul 0 2::.sub 4 0::.add 5 1::.mul 13 1::.mul 11 8::.mul 5 0::.sub 2 0::.mul 4 5::.mul 9 12::.con 63::.mul 0 1::.add 3 0::.mul 19 9::.mul 14 23::.con 3::.mul 0 1::.add 3 0::.mul 10 36::.mul 34 6::.add 1 0::.mul 8 33::.mul 40 4::.add 1 0::.mul 16 36::.mul 40 7::.add 1 0::.mul 14 45::.mul 10 40::.mul 21 44::.mul 29 1::.sub 3 0::.add 4 1::.mul 12 1::.mul 10 7::.mul 34 0::.sub 2 0::.mul 4 5::.mul 8 11::.mul 28 0::.add 2 0::.mul 17 8::.mul 12 21::.mul 27 0::.add 2 0::.mul 59 63::.mul 61 63::.add 1 0::.mul 66 60::.add 56 0::.mul 65 62::.add 55 0::.mul 69 70::.mul 67 68::.sub 1 52::.add 2 53::.mul 8 1::.mul 7 5::.mul 57 0::.sub 2 0::.mul 4 5::.mul 7 9::.mul 51 0::.add 2 0::.mul 14 8::.mul 11 17::.mul 50 0::.add 2 0::.mul 81 4::.mul 9 85::.add 1 0::.mul 87 3::.mul 8 84::.add 1 0::.mul 87 6::.mul 15 87::.add 1 0::.mul 93 13::.mul 90 10::.mul 92 19::.mul 79 1::.sub 3 0::.add 4 1::.mul 12 1::.mul 10 7::.mul 84 0::.sub 2 0::.mul 4 5::.mul 8 11::.mul 78 0::.add 2 0::.mul 17 8::.mul 12 21::.mul 77 0::.add 2 0::.mul 58 0::.mul 51 9::.sub 1 0::[]
theorem Z1:Jq (2 ^ 200) 16 20 Ww=true:=by kernel_rfl
theorem Z2{R:Type}[CR R](x1 f d b a c:R)(g:mu b b=cu x1)(i:mu a a=cu f)(h3:mu c c=cu d):(ad (mu (dk (dk (x1,b,ic 1) (f,a,ic 1)) (d,c,ic 1)).1 (dk (x1,b,ic 1) (dk (f,a,ic 1) (d,c,ic 1))).2.2) (mu (ic (-1)) (mu (dk (dk (x1,b,ic 1) (f,a,ic 1)) (d,c,ic 1)).2.2 (dk (x1,b,ic 1) (dk (f,a,ic 1) (d,c,ic 1))).1)))=ic 0:=by
 have h:=chk_ok (2 ^ 200) 16 20 aq aq Ww Z1 x1 f d b a c g i h3;have e:(run (FW R) Ww [x1,f,d,b,a,c]).getD 0 (ic 0)=(ad (mu (dk (dk (x1,b,ic 1) (f,a,ic 1)) (d,c,ic 1)).1 (dk (x1,b,ic 1) (dk (f,a,ic 1) (d,c,ic 1))).2.2) (mu (ic (-1)) (mu (dk (dk (x1,b,ic 1) (f,a,ic 1)) (d,c,ic 1)).2.2 (dk (x1,b,ic 1) (dk (f,a,ic 1) (d,c,ic 1))).1))):=by kernel_rfl
 rw[e]at h;exact h
def Wx:List In:=.con 1::.mul 1 5::.mul 3 5::.add 1 0::.mul 7 3::.mul 9 4::.add 1 0::.mul 7 6::.mul 9 7::.add 1 0::.mul 13 14::.mul 10 10::.mul 12 13::.con 21::.mul 0 2::.sub 4 0::.add 5 1::.mul 13 1::.mul 11 8::.mul 5 0::.sub 2 0::.mul 4 5::.mul 9 12::.con 63::.mul 0 1::.add 3 0::.mul 19 9::.mul 14 23::.con 3::.mul 0 1::.add 3 0::.mul 10 36::.mul 34 6::.add 1 0::.mul 8 33::.mul 40 4::.add 1 0::.mul 16 36::.mul 40 7::.add 1 0::.mul 14 45::.mul 10 40::.mul 21 44::.mul 29 1::.sub 3 0::.add 4 1::.mul 12 1::.mul 10 7::.mul 34 0::.sub 2 0::.mul 4 5::.mul 8 11::.mul 28 0::.add 2 0::.mul 17 8::.mul 12 21::.mul 27 0::.add 2 0::.mul 59 63::.mul 61 63::.add 1 0::.mul 66 60::.add 56 0::.mul 65 62::.add 55 0::.mul 69 70::.mul 67 68::.sub 1 52::.add 2 53::.mul 8 1::.mul 7 5::.mul 57 0::.sub 2 0::.mul 4 5::.mul 7 9::.mul 51 0::.add 2 0::.mul 14 8::.mul 11 17::.mul 50 0::.add 2 0::.mul 81 4::.mul 9 85::.add 1 0::.mul 87 3::.mul 8 84::.add 1 0::.mul 87 6::.mul 15 87::.add 1 0::.mul 93 13::.mul 90 10::.mul 92 19::.mul 79 1::.sub 3 0::.add 4 1::.mul 12 1::.mul 10 7::.mul 84 0::.sub 2 0::.mul 4 5::.mul 8 11::.mul 78 0::.add 2 0::.mul 17 8::.mul 12 21::.mul 77 0::.add 2 0::.mul 54 0::.mul 51 5::.sub 1 0::[]
theorem Z3:Jq (2 ^ 200) 16 20 Wx=true:=by kernel_rfl
theorem Z4{R:Type}[CR R](x1 f d b a c:R)(g:mu b b=cu x1)(i:mu a a=cu f)(h3:mu c c=cu d):(ad (mu (dk (dk (x1,b,ic 1) (f,a,ic 1)) (d,c,ic 1)).2.1 (dk (x1,b,ic 1) (dk (f,a,ic 1) (d,c,ic 1))).2.2) (mu (ic (-1)) (mu (dk (dk (x1,b,ic 1) (f,a,ic 1)) (d,c,ic 1)).2.2 (dk (x1,b,ic 1) (dk (f,a,ic 1) (d,c,ic 1))).2.1)))=ic 0:=by
 have h:=chk_ok (2 ^ 200) 16 20 aq aq Wx Z3 x1 f d b a c g i h3;have e:(run (FW R) Wx [x1,f,d,b,a,c]).getD 0 (ic 0)=(ad (mu (dk (dk (x1,b,ic 1) (f,a,ic 1)) (d,c,ic 1)).2.1 (dk (x1,b,ic 1) (dk (f,a,ic 1) (d,c,ic 1))).2.2) (mu (ic (-1)) (mu (dk (dk (x1,b,ic 1) (f,a,ic 1)) (d,c,ic 1)).2.2 (dk (x1,b,ic 1) (dk (f,a,ic 1) (d,c,ic 1))).2.1))):=by kernel_rfl
 rw[e]at h;exact h
def Wy:List In:=.con 1::.mul 1 5::.mul 3 5::.add 1 0::.mul 7 3::.mul 9 4::.add 1 0::.mul 7 6::.mul 9 7::.add 1 0::.mul 13 14::.mul 10 10::.mul 12 13::.con 21::.mul 0 2::.sub 4 0::.add 5 1::.mul 13 1::.mul 11 8::.mul 5 0::.sub 2 0::.mul 4 5::.mul 9 12::.con 63::.mul 0 1::.add 3 0::.mul 19 9::.mul 14 23::.con 3::.mul 0 1::.add 3 0::.mul 5 0::.mul 6 0::.mul 12 12::.mul 13 0::.mul 4 4::.mul 5 0::.con 7::.mul 0 1::.add 4 0::.sub 7 0::[]
theorem Z5:Jq (2 ^ 200) 16 20 Wy=true:=by kernel_rfl
theorem Z6{R:Type}[CR R](x1 c f b a d:R)(g:mu b b=cu x1)(i:mu a a=cu c)(h3:mu d d=cu f):(ad (mu (dk (x1,b,ic 1) (c,a,ic 1)).2.1 (mu (dk (x1,b,ic 1) (c,a,ic 1)).2.1 (dk (x1,b,ic 1) (c,a,ic 1)).2.2)) (mu (ic (-1)) (ad (mu (dk (x1,b,ic 1) (c,a,ic 1)).1 (mu (dk (x1,b,ic 1) (c,a,ic 1)).1 (dk (x1,b,ic 1) (c,a,ic 1)).1)) (mu (ic 7) (mu (dk (x1,b,ic 1) (c,a,ic 1)).2.2 (mu (dk (x1,b,ic 1) (c,a,ic 1)).2.2 (dk (x1,b,ic 1) (c,a,ic 1)).2.2))))))=ic 0:=by
 have h:=chk_ok (2 ^ 200) 16 20 aq aq Wy Z5 x1 c f b a d g i h3;have e:(run (FW R) Wy [x1,c,f,b,a,d]).getD 0 (ic 0)=(ad (mu (dk (x1,b,ic 1) (c,a,ic 1)).2.1 (mu (dk (x1,b,ic 1) (c,a,ic 1)).2.1 (dk (x1,b,ic 1) (c,a,ic 1)).2.2)) (mu (ic (-1)) (ad (mu (dk (x1,b,ic 1) (c,a,ic 1)).1 (mu (dk (x1,b,ic 1) (c,a,ic 1)).1 (dk (x1,b,ic 1) (c,a,ic 1)).1)) (mu (ic 7) (mu (dk (x1,b,ic 1) (c,a,ic 1)).2.2 (mu (dk (x1,b,ic 1) (c,a,ic 1)).2.2 (dk (x1,b,ic 1) (c,a,ic 1)).2.2)))))):=by kernel_rfl
 rw[e]at h;exact h
def Wz:List In:=.con 1::.mul 1 5::.mul 3 5::.add 1 0::.mul 7 3::.mul 9 4::.add 1 0::.mul 7 6::.mul 9 7::.add 1 0::.mul 13 14::.mul 10 10::.mul 12 13::.con 21::.mul 0 2::.sub 4 0::.add 5 1::.mul 13 1::.mul 11 8::.mul 5 0::.sub 2 0::.mul 4 5::.mul 9 12::.con 63::.mul 0 1::.add 3 0::.mul 19 9::.mul 14 23::.con 3::.mul 0 1::.add 3 0::.sub 32 31::.sub 36 35::.mul 1 1::.mul 13 0::.mul 2 2::.add 36 37::.mul 0 3::.sub 2 0::.mul 0 8::.sub 5 0::[]
theorem Z7:Jq (2 ^ 200) 16 20 Wz=true:=by kernel_rfl
theorem Z8{R:Type}[CR R](x1 a f c b d:R)(g:mu c c=cu x1)(i:mu b b=cu a)(h3:mu d d=cu f):(ad (mu (dk (x1,c,ic 1) (a,b,ic 1)).1 (mu (ad a (mu (ic (-1)) x1)) (ad a (mu (ic (-1)) x1)))) (mu (ic (-1)) (mu (ad (mu (ad b (mu (ic (-1)) c)) (ad b (mu (ic (-1)) c))) (mu (ic (-1)) (mu (ad x1 a) (mu (ad a (mu (ic (-1)) x1)) (ad a (mu (ic (-1)) x1)))))) (dk (x1,c,ic 1) (a,b,ic 1)).2.2)))=ic 0:=by
 have h:=chk_ok (2 ^ 200) 16 20 aq aq Wz Z7 x1 a f c b d g i h3;have e:(run (FW R) Wz [x1,a,f,c,b,d]).getD 0 (ic 0)=(ad (mu (dk (x1,c,ic 1) (a,b,ic 1)).1 (mu (ad a (mu (ic (-1)) x1)) (ad a (mu (ic (-1)) x1)))) (mu (ic (-1)) (mu (ad (mu (ad b (mu (ic (-1)) c)) (ad b (mu (ic (-1)) c))) (mu (ic (-1)) (mu (ad x1 a) (mu (ad a (mu (ic (-1)) x1)) (ad a (mu (ic (-1)) x1)))))) (dk (x1,c,ic 1) (a,b,ic 1)).2.2))):=by kernel_rfl
 rw[e]at h;exact h
def WA:List In:=.con 1::.mul 1 5::.mul 3 5::.add 1 0::.mul 7 3::.mul 9 4::.add 1 0::.mul 7 6::.mul 9 7::.add 1 0::.mul 13 14::.mul 10 10::.mul 12 13::.con 21::.mul 0 2::.sub 4 0::.add 5 1::.mul 13 1::.mul 11 8::.mul 5 0::.sub 2 0::.mul 4 5::.mul 9 12::.con 63::.mul 0 1::.add 3 0::.mul 19 9::.mul 14 23::.con 3::.mul 0 1::.add 3 0::.sub 32 31::.sub 36 35::.mul 0 0::.add 34 35::.mul 3 3::.mul 1 0::.sub 3 0::.mul 6 2::.mul 13 0::.mul 40 4::.sub 0 3::.mul 9 0::.mul 46 4::.sub 1 0::.mul 0 14::.sub 6 0::[]
theorem Z9:Jq (2 ^ 200) 16 20 WA=true:=by kernel_rfl
theorem aaa{R:Type}[CR R](x1 a f b c d:R)(g:mu b b=cu x1)(i:mu c c=cu a)(h3:mu d d=cu f):(ad (mu (dk (x1,b,ic 1) (a,c,ic 1)).2.1 (mu (ad a (mu (ic (-1)) x1)) (mu (ad a (mu (ic (-1)) x1)) (ad a (mu (ic (-1)) x1))))) (mu (ic (-1)) (mu (ad (mu (ad c (mu (ic (-1)) b)) (ad (mu x1 (mu (ad a (mu (ic (-1)) x1)) (ad a (mu (ic (-1)) x1)))) (mu (ic (-1)) (ad (mu (ad c (mu (ic (-1)) b)) (ad c (mu (ic (-1)) b))) (mu (ic (-1)) (mu (ad x1 a) (mu (ad a (mu (ic (-1)) x1)) (ad a (mu (ic (-1)) x1))))))))) (mu (ic (-1)) (mu b (mu (ad a (mu (ic (-1)) x1)) (mu (ad a (mu (ic (-1)) x1)) (ad a (mu (ic (-1)) x1))))))) (dk (x1,b,ic 1) (a,c,ic 1)).2.2)))=ic 0:=by
 have h:=chk_ok (2 ^ 200) 16 20 aq aq WA Z9 x1 a f b c d g i h3;have e:(run (FW R) WA [x1,a,f,b,c,d]).getD 0 (ic 0)=(ad (mu (dk (x1,b,ic 1) (a,c,ic 1)).2.1 (mu (ad a (mu (ic (-1)) x1)) (mu (ad a (mu (ic (-1)) x1)) (ad a (mu (ic (-1)) x1))))) (mu (ic (-1)) (mu (ad (mu (ad c (mu (ic (-1)) b)) (ad (mu x1 (mu (ad a (mu (ic (-1)) x1)) (ad a (mu (ic (-1)) x1)))) (mu (ic (-1)) (ad (mu (ad c (mu (ic (-1)) b)) (ad c (mu (ic (-1)) b))) (mu (ic (-1)) (mu (ad x1 a) (mu (ad a (mu (ic (-1)) x1)) (ad a (mu (ic (-1)) x1))))))))) (mu (ic (-1)) (mu b (mu (ad a (mu (ic (-1)) x1)) (mu (ad a (mu (ic (-1)) x1)) (ad a (mu (ic (-1)) x1))))))) (dk (x1,b,ic 1) (a,c,ic 1)).2.2))):=by kernel_rfl
 rw[e]at h;exact h
def WB:List In:=.con 1::.mul 1 4::.add 0 0::.mul 6 2::.add 0 0::.mul 5 4::.add 0 0::.mul 10 10::.mul 7 7::.mul 9 9::.con 21::.mul 0 2::.sub 4 0::.add 5 1::.mul 11 1::.mul 10 8::.mul 5 0::.sub 2 0::.mul 4 5::.mul 9 12::.con 63::.mul 0 1::.add 3 0::.mul 18 9::.mul 14 21::.con 3::.mul 0 1::.add 3 0::.mul 2 18::.con 4::.mul 0 22::.mul 13 0::.mul 3 3::.mul 33 25::.con 8::.mul 0 1::.sub 3 0::.mul 0 9::.sub 6 0::[]
theorem aab:Jq (2 ^ 200) 16 20 WB=true:=by kernel_rfl
theorem aac{R:Type}[CR R](x1 f d a b c:R)(g:mu a a=cu x1)(i:mu b b=cu f)(h3:mu c c=cu d):(ad (mu (dk (x1,a,ic 1) (x1,a,ic 1)).1 (mu (ic 4) (mu a a))) (mu (ic (-1)) (mu (ad (mu (mu (ic 3) (mu x1 x1)) (mu (ic 3) (mu x1 x1))) (mu (ic (-1)) (mu (ic 8) (mu x1 (mu a a))))) (dk (x1,a,ic 1) (x1,a,ic 1)).2.2)))=ic 0:=by
 have h:=chk_ok (2 ^ 200) 16 20 aq aq WB aab x1 f d a b c g i h3;have e:(run (FW R) WB [x1,f,d,a,b,c]).getD 0 (ic 0)=(ad (mu (dk (x1,a,ic 1) (x1,a,ic 1)).1 (mu (ic 4) (mu a a))) (mu (ic (-1)) (mu (ad (mu (mu (ic 3) (mu x1 x1)) (mu (ic 3) (mu x1 x1))) (mu (ic (-1)) (mu (ic 8) (mu x1 (mu a a))))) (dk (x1,a,ic 1) (x1,a,ic 1)).2.2))):=by kernel_rfl
 rw[e]at h;exact h
def WC:List In:=.con 1::.mul 1 4::.add 0 0::.mul 6 2::.add 0 0::.mul 5 4::.add 0 0::.mul 10 10::.mul 7 7::.mul 9 9::.con 21::.mul 0 2::.sub 4 0::.add 5 1::.mul 11 1::.mul 10 8::.mul 5 0::.sub 2 0::.mul 4 5::.mul 9 12::.con 63::.mul 0 1::.add 3 0::.mul 18 9::.mul 14 21::.con 3::.mul 0 1::.add 3 0::.mul 2 18::.mul 32 21::.con 8::.mul 0 1::.mul 9 0::.mul 33 25::.con 12::.mul 0 1::.mul 7 7::.sub 1 0::.mul 9 0::.mul 31 31::.mul 9 0::.sub 2 0::.mul 0 14::.sub 10 0::[]
theorem aad:Jq (2 ^ 200) 16 20 WC=true:=by kernel_rfl
theorem aae{R:Type}[CR R](x1 f d a b c:R)(g:mu a a=cu x1)(i:mu b b=cu f)(h3:mu c c=cu d):(ad (mu (dk (x1,a,ic 1) (x1,a,ic 1)).2.1 (mu (ic 8) (mu a (mu a a)))) (mu (ic (-1)) (mu (ad (mu (mu (ic 3) (mu x1 x1)) (ad (mu (ic 12) (mu x1 (mu a a))) (mu (ic (-1)) (mu (mu (ic 3) (mu x1 x1)) (mu (ic 3) (mu x1 x1)))))) (mu (ic (-1)) (mu (ic 8) (mu (mu a a) (mu a a))))) (dk (x1,a,ic 1) (x1,a,ic 1)).2.2)))=ic 0:=by
 have h:=chk_ok (2 ^ 200) 16 20 aq aq WC aad x1 f d a b c g i h3;have e:(run (FW R) WC [x1,f,d,a,b,c]).getD 0 (ic 0)=(ad (mu (dk (x1,a,ic 1) (x1,a,ic 1)).2.1 (mu (ic 8) (mu a (mu a a)))) (mu (ic (-1)) (mu (ad (mu (mu (ic 3) (mu x1 x1)) (ad (mu (ic 12) (mu x1 (mu a a))) (mu (ic (-1)) (mu (mu (ic 3) (mu x1 x1)) (mu (ic 3) (mu x1 x1)))))) (mu (ic (-1)) (mu (ic 8) (mu (mu a a) (mu a a))))) (dk (x1,a,ic 1) (x1,a,ic 1)).2.2))):=by kernel_rfl
 rw[e]at h;exact h
def WE:List In:=.con 1::.mul 1 4::.add 0 0::.mul 6 2::.add 0 0::.mul 5 4::.add 0 0::.mul 10 10::.mul 7 7::.mul 9 9::.con 21::.mul 0 2::.sub 4 0::.add 5 1::.mul 11 1::.mul 10 8::.mul 5 0::.sub 2 0::.mul 4 5::.mul 9 12::.con 63::.mul 0 1::.add 3 0::.mul 18 9::.mul 14 21::.con 3::.mul 0 1::.add 3 0::.mul 31 20::.con 8::.mul 0 1::.sub 3 0::[]
theorem aaf:Jq (2 ^ 200) 16 20 WE=true:=by kernel_rfl
theorem aag{R:Type}[CR R](x1 f d a b c:R)(g:mu a a=cu x1)(i:mu b b=cu f)(h3:mu c c=cu d):(ad (dk (x1,a,ic 1) (x1,a,ic 1)).2.2 (mu (ic (-1)) (mu (ic 8) (mu a (mu a a)))))=ic 0:=by
 have h:=chk_ok (2 ^ 200) 16 20 aq aq WE aaf x1 f d a b c g i h3;have e:(run (FW R) WE [x1,f,d,a,b,c]).getD 0 (ic 0)=(ad (dk (x1,a,ic 1) (x1,a,ic 1)).2.2 (mu (ic (-1)) (mu (ic 8) (mu a (mu a a))))):=by kernel_rfl
 rw[e]at h;exact h
def WF:List In:=.con 1::.mul 1 5::.mul 3 5::.add 1 0::.mul 7 3::.mul 9 4::.add 1 0::.mul 7 6::.mul 9 7::.add 1 0::.mul 13 14::.mul 10 10::.mul 12 13::.con 21::.mul 0 2::.sub 4 0::.add 5 1::.mul 13 1::.mul 11 8::.mul 5 0::.sub 2 0::.mul 4 5::.mul 9 12::.con 63::.mul 0 1::.add 3 0::.mul 19 9::.mul 14 23::.con 3::.mul 0 1::.add 3 0::.sub 31 32::.add 35 36::.mul 0 0::.add 34 35::.mul 3 3::.mul 1 0::.sub 3 0::.mul 38 2::.sub 0 1::.mul 7 0::.mul 9 5::.mul 45 0::.sub 2 0::.add 13 0::[]
theorem aah:Jq (2 ^ 200) 16 20 WF=true:=by kernel_rfl
theorem aai{R:Type}[CR R](x1 a f b c d:R)(g:mu b b=cu x1)(i:mu c c=cu a)(h3:mu d d=cu f):(ad (dk (x1,b,ic 1) (a,c,ic 1)).2.2 (ad (mu (ad b c) (ad (mu x1 (mu (ad x1 (mu (ic (-1)) a)) (ad x1 (mu (ic (-1)) a)))) (mu (ic (-1)) (ad (mu (ad b c) (ad b c)) (mu (ic (-1)) (mu (ad x1 a) (mu (ad x1 (mu (ic (-1)) a)) (ad x1 (mu (ic (-1)) a))))))))) (mu (ic (-1)) (mu b (mu (ad x1 (mu (ic (-1)) a)) (mu (ad x1 (mu (ic (-1)) a)) (ad x1 (mu (ic (-1)) a))))))))=ic 0:=by
 have h:=chk_ok (2 ^ 200) 16 20 aq aq WF aah x1 a f b c d g i h3;have e:(run (FW R) WF [x1,a,f,b,c,d]).getD 0 (ic 0)=(ad (dk (x1,b,ic 1) (a,c,ic 1)).2.2 (ad (mu (ad b c) (ad (mu x1 (mu (ad x1 (mu (ic (-1)) a)) (ad x1 (mu (ic (-1)) a)))) (mu (ic (-1)) (ad (mu (ad b c) (ad b c)) (mu (ic (-1)) (mu (ad x1 a) (mu (ad x1 (mu (ic (-1)) a)) (ad x1 (mu (ic (-1)) a))))))))) (mu (ic (-1)) (mu b (mu (ad x1 (mu (ic (-1)) a)) (mu (ad x1 (mu (ic (-1)) a)) (ad x1 (mu (ic (-1)) a)))))))):=by kernel_rfl
 rw[e]at h;exact h
def WG:List In:=.con 1::.sub 1 2::.add 5 6::.mul 0 0::.add 4 5::.mul 3 3::.mul 1 0::.sub 3 0::.mul 8 2::.sub 0 1::.mul 7 0::.mul 9 5::.mul 15 0::.sub 2 0::.mul 6 6::.mul 7 0::.mul 4 4::.con 7::.mul 0 1::.add 3 0::.mul 6 6::.sub 1 0::[]
theorem aaj:Jq (2 ^ 200) 16 20 WG=true:=by kernel_rfl
theorem aak{R:Type}[CR R](x1 a f b c d:R)(g:mu b b=cu x1)(i:mu c c=cu a)(h3:mu d d=cu f):(ad (ad (mu (ad (mu (ad b c) (ad b c)) (mu (ic (-1)) (mu (ad x1 a) (mu (ad x1 (mu (ic (-1)) a)) (ad x1 (mu (ic (-1)) a)))))) (mu (ad (mu (ad b c) (ad b c)) (mu (ic (-1)) (mu (ad x1 a) (mu (ad x1 (mu (ic (-1)) a)) (ad x1 (mu (ic (-1)) a)))))) (ad (mu (ad b c) (ad b c)) (mu (ic (-1)) (mu (ad x1 a) (mu (ad x1 (mu (ic (-1)) a)) (ad x1 (mu (ic (-1)) a)))))))) (mu (ic 7) (mu (mu (ad x1 (mu (ic (-1)) a)) (mu (ad x1 (mu (ic (-1)) a)) (ad x1 (mu (ic (-1)) a)))) (mu (ad x1 (mu (ic (-1)) a)) (mu (ad x1 (mu (ic (-1)) a)) (ad x1 (mu (ic (-1)) a))))))) (mu (ic (-1)) (mu (ad (mu (ad b c) (ad (mu x1 (mu (ad x1 (mu (ic (-1)) a)) (ad x1 (mu (ic (-1)) a)))) (mu (ic (-1)) (ad (mu (ad b c) (ad b c)) (mu (ic (-1)) (mu (ad x1 a) (mu (ad x1 (mu (ic (-1)) a)) (ad x1 (mu (ic (-1)) a))))))))) (mu (ic (-1)) (mu b (mu (ad x1 (mu (ic (-1)) a)) (mu (ad x1 (mu (ic (-1)) a)) (ad x1 (mu (ic (-1)) a))))))) (ad (mu (ad b c) (ad (mu x1 (mu (ad x1 (mu (ic (-1)) a)) (ad x1 (mu (ic (-1)) a)))) (mu (ic (-1)) (ad (mu (ad b c) (ad b c)) (mu (ic (-1)) (mu (ad x1 a) (mu (ad x1 (mu (ic (-1)) a)) (ad x1 (mu (ic (-1)) a))))))))) (mu (ic (-1)) (mu b (mu (ad x1 (mu (ic (-1)) a)) (mu (ad x1 (mu (ic (-1)) a)) (ad x1 (mu (ic (-1)) a))))))))))=ic 0:=by
 have h:=chk_ok (2 ^ 200) 16 20 aq aq WG aaj x1 a f b c d g i h3;have e:(run (FW R) WG [x1,a,f,b,c,d]).getD 0 (ic 0)=(ad (ad (mu (ad (mu (ad b c) (ad b c)) (mu (ic (-1)) (mu (ad x1 a) (mu (ad x1 (mu (ic (-1)) a)) (ad x1 (mu (ic (-1)) a)))))) (mu (ad (mu (ad b c) (ad b c)) (mu (ic (-1)) (mu (ad x1 a) (mu (ad x1 (mu (ic (-1)) a)) (ad x1 (mu (ic (-1)) a)))))) (ad (mu (ad b c) (ad b c)) (mu (ic (-1)) (mu (ad x1 a) (mu (ad x1 (mu (ic (-1)) a)) (ad x1 (mu (ic (-1)) a)))))))) (mu (ic 7) (mu (mu (ad x1 (mu (ic (-1)) a)) (mu (ad x1 (mu (ic (-1)) a)) (ad x1 (mu (ic (-1)) a)))) (mu (ad x1 (mu (ic (-1)) a)) (mu (ad x1 (mu (ic (-1)) a)) (ad x1 (mu (ic (-1)) a))))))) (mu (ic (-1)) (mu (ad (mu (ad b c) (ad (mu x1 (mu (ad x1 (mu (ic (-1)) a)) (ad x1 (mu (ic (-1)) a)))) (mu (ic (-1)) (ad (mu (ad b c) (ad b c)) (mu (ic (-1)) (mu (ad x1 a) (mu (ad x1 (mu (ic (-1)) a)) (ad x1 (mu (ic (-1)) a))))))))) (mu (ic (-1)) (mu b (mu (ad x1 (mu (ic (-1)) a)) (mu (ad x1 (mu (ic (-1)) a)) (ad x1 (mu (ic (-1)) a))))))) (ad (mu (ad b c) (ad (mu x1 (mu (ad x1 (mu (ic (-1)) a)) (ad x1 (mu (ic (-1)) a)))) (mu (ic (-1)) (ad (mu (ad b c) (ad b c)) (mu (ic (-1)) (mu (ad x1 a) (mu (ad x1 (mu (ic (-1)) a)) (ad x1 (mu (ic (-1)) a))))))))) (mu (ic (-1)) (mu b (mu (ad x1 (mu (ic (-1)) a)) (mu (ad x1 (mu (ic (-1)) a)) (ad x1 (mu (ic (-1)) a)))))))))):=by kernel_rfl
 rw[e]at h;exact h
def WH:List In:=.con 1::.mul 1 1::.con 3::.mul 0 1::.con (-1)::.mul 8 0::.mul 6 0::.mul 7 10::.add 1 0::.mul 12 8::.mul 4 9::.add 1 0::.mul 12 11::.add 0 0::.mul 17 8::.mul 14 14::.con 21::.mul 0 1::.sub 3 0::.add 4 1::.mul 11 1::.mul 9 7::.mul 5 0::.sub 2 0::.mul 4 5::.mul 23 11::.con 63::.mul 0 1::.add 3 0::.mul 17 9::.mul 28 21::.mul 28 0::.add 2 0::.mul 36 36::.mul 34 0::.con 12::.mul 0 1::.mul 33 33::.sub 1 0::.mul 35 0::.mul 6 6::.con 8::.mul 0 1::.sub 3 0::.sub 15 0::[]
theorem aal:Jq (2 ^ 200) 16 20 WH=true:=by kernel_rfl
theorem aam{R:Type}[CR R](x1 f d a b c:R)(g:mu a a=cu x1)(i:mu b b=cu f)(h3:mu c c=cu d):(ad (dk (x1,a,ic 1) (x1,mu a (ic (-1)),ic 1)).2.1 (mu (ic (-1)) (ad (mu (mu (ic 3) (mu x1 x1)) (ad (mu (ic 12) (mu x1 (mu a a))) (mu (ic (-1)) (mu (mu (ic 3) (mu x1 x1)) (mu (ic 3) (mu x1 x1)))))) (mu (ic (-1)) (mu (ic 8) (mu (mu a a) (mu a a)))))))=ic 0:=by
 have h:=chk_ok (2 ^ 200) 16 20 aq aq WH aal x1 f d a b c g i h3;have e:(run (FW R) WH [x1,f,d,a,b,c]).getD 0 (ic 0)=(ad (dk (x1,a,ic 1) (x1,mu a (ic (-1)),ic 1)).2.1 (mu (ic (-1)) (ad (mu (mu (ic 3) (mu x1 x1)) (ad (mu (ic 12) (mu x1 (mu a a))) (mu (ic (-1)) (mu (mu (ic 3) (mu x1 x1)) (mu (ic 3) (mu x1 x1)))))) (mu (ic (-1)) (mu (ic 8) (mu (mu a a) (mu a a))))))):=by kernel_rfl
 rw[e]at h;exact h
def WI:List In:=.con 1::.mul 1 1::.con 3::.mul 0 1::.mul 0 0::.mul 8 8::.mul 6 0::.con 8::.mul 0 1::.sub 4 0::.con 12::.mul 0 4::.sub 0 7::.mul 9 0::.mul 8 8::.mul 7 0::.sub 2 0::.con 4::.mul 0 12::.mul 9 9::.mul 10 0::.mul 2 2::.mul 3 0::.con 7::.mul 0 1::.add 4 0::.mul 9 9::.sub 1 0::[]
theorem aan:Jq (2 ^ 200) 16 20 WI=true:=by kernel_rfl
theorem aao{R:Type}[CR R](x1 f d a b c:R)(g:mu a a=cu x1)(i:mu b b=cu f)(h3:mu c c=cu d):(ad (ad (mu (ad (mu (mu (ic 3) (mu x1 x1)) (mu (ic 3) (mu x1 x1))) (mu (ic (-1)) (mu (ic 8) (mu x1 (mu a a))))) (mu (ad (mu (mu (ic 3) (mu x1 x1)) (mu (ic 3) (mu x1 x1))) (mu (ic (-1)) (mu (ic 8) (mu x1 (mu a a))))) (ad (mu (mu (ic 3) (mu x1 x1)) (mu (ic 3) (mu x1 x1))) (mu (ic (-1)) (mu (ic 8) (mu x1 (mu a a))))))) (mu (ic 7) (mu (mu (ic 4) (mu a a)) (mu (mu (ic 4) (mu a a)) (mu (ic 4) (mu a a)))))) (mu (ic (-1)) (mu (ad (mu (mu (ic 3) (mu x1 x1)) (ad (mu (ic 12) (mu x1 (mu a a))) (mu (ic (-1)) (mu (mu (ic 3) (mu x1 x1)) (mu (ic 3) (mu x1 x1)))))) (mu (ic (-1)) (mu (ic 8) (mu (mu a a) (mu a a))))) (ad (mu (mu (ic 3) (mu x1 x1)) (ad (mu (ic 12) (mu x1 (mu a a))) (mu (ic (-1)) (mu (mu (ic 3) (mu x1 x1)) (mu (ic 3) (mu x1 x1)))))) (mu (ic (-1)) (mu (ic 8) (mu (mu a a) (mu a a))))))))=ic 0:=by
 have h:=chk_ok (2 ^ 200) 16 20 aq aq WI aan x1 f d a b c g i h3;have e:(run (FW R) WI [x1,f,d,a,b,c]).getD 0 (ic 0)=(ad (ad (mu (ad (mu (mu (ic 3) (mu x1 x1)) (mu (ic 3) (mu x1 x1))) (mu (ic (-1)) (mu (ic 8) (mu x1 (mu a a))))) (mu (ad (mu (mu (ic 3) (mu x1 x1)) (mu (ic 3) (mu x1 x1))) (mu (ic (-1)) (mu (ic 8) (mu x1 (mu a a))))) (ad (mu (mu (ic 3) (mu x1 x1)) (mu (ic 3) (mu x1 x1))) (mu (ic (-1)) (mu (ic 8) (mu x1 (mu a a))))))) (mu (ic 7) (mu (mu (ic 4) (mu a a)) (mu (mu (ic 4) (mu a a)) (mu (ic 4) (mu a a)))))) (mu (ic (-1)) (mu (ad (mu (mu (ic 3) (mu x1 x1)) (ad (mu (ic 12) (mu x1 (mu a a))) (mu (ic (-1)) (mu (mu (ic 3) (mu x1 x1)) (mu (ic 3) (mu x1 x1)))))) (mu (ic (-1)) (mu (ic 8) (mu (mu a a) (mu a a))))) (ad (mu (mu (ic 3) (mu x1 x1)) (ad (mu (ic 12) (mu x1 (mu a a))) (mu (ic (-1)) (mu (mu (ic 3) (mu x1 x1)) (mu (ic 3) (mu x1 x1)))))) (mu (ic (-1)) (mu (ic 8) (mu (mu a a) (mu a a)))))))):=by kernel_rfl
 rw[e]at h;exact h
end Go.Ec
namespace Go.Ec
open CR
section
variable {n:Nat} [NeZero n]
theorem FX(a b:Fin n):ad a b=a+b:=rfl
theorem Ez(a b:Fin n):mu a b=a*b:=rfl
theorem FY:(ic 0:Fin n)=0:=ja 0
theorem JX:(ic 1:Fin n)=1:=ja 1
theorem pK:(ic (-1):Fin n)=-1:=by rw[icm,JX]
theorem OX:(ic 3:Fin n)=3:=ja 3
theorem ic4:(ic 4:Fin n)=4:=ja 4
theorem ic7:(ic 7:Fin n)=7:=ja 7
theorem ic8:(ic 8:Fin n)=8:=ja 8
theorem aap:(ic 12:Fin n)=12:=ja 12
theorem DF:(ic 21:Fin n)=21:=ja 21
theorem FZ:(ic 63:Fin n)=63:=ja 63
structure Fd(n:Nat)[NeZero n] where
 inv:Fin n→Fin n
 hinv:∀a:Fin n,a≠0→a*inv a=1
 inv0:inv 0=0
 one:(1:Fin n)≠0
 two:(2:Fin n)≠0
 cub:∀x:Fin n,x*x*x+7≠0
theorem Fd.nzd(f:Fd n){a b:Fin n}(h:a*b=0):a=0∨b=0:=by
 by_cases c:a=0;exact .inl c;have:=f.hinv a c;refine .inr ?_;generalize f.inv a=i at *
 grobner
theorem Fd.mul_ne(f:Fd n){a b:Fin n}(d:a≠0)(c:b≠0):a*b≠0:=fun h=>(f.nzd h).elim d c
theorem Fd.eight(f:Fd n):(8:Fin n)≠0:=by
 have e:(8:Fin n)=2*(2*2):=by grobner
 rw[e];exact f.mul_ne f.two (f.mul_ne f.two f.two)
theorem Fd.four(f:Fd n):(4:Fin n)≠0:=by
 have e:(4:Fin n)=2*2:=by grobner
 rw[e];exact f.mul_ne f.two f.two
abbrev Pt(n:Nat):=Option (Fin n×Fin n)
def gz:Pt n→Prop
 |none=>True
 |some p=>p.2*p.2=p.1*p.1*p.1+7
theorem cz{x y:Fin n}(h:gz (some (x,y))):mu y y=cu x:=by
 have a:y*y=x*x*x+7:=h;show y*y=x*(x*x)+ic 7;rw[ic7];grobner
theorem Fd.y_ne(f:Fd n){x y:Fin n}(h:gz (some (x,y))):y≠0:=by
 intro b;have a:y*y=x*x*x+7:=h;rw[b]at a;exact f.cub x (by grobner)
abbrev yZ(n:Nat):=Fin n×Fin n×Fin n
def pr:Pt n→yZ n
 |none=>(ic 0,ic 1,ic 0)
 |some p=>(p.1,p.2,ic 1)
def nm(f:Fd n)(t:yZ n):Pt n:=if t.2.2=0 then none else some (t.1*f.inv t.2.2,t.2.1*f.inv t.2.2)
def sum(f:Fd n)(P Q:Pt n):Pt n:=nm f (dk (pr P) (pr Q))
def sc(k:Fin n)(t:yZ n):yZ n:=(k*t.1,k*t.2.1,k*t.2.2)
def nz(t:yZ n):Prop:=¬(t.1=0∧t.2.1=0∧t.2.2=0)
def hc(t:yZ n):Prop:=t.2.1*(t.2.1*t.2.2)=t.1*(t.1*t.1)+7*(t.2.2*(t.2.2*t.2.2))
theorem F2(k l:Fin n)(u v:yZ n):dk (sc k u) (sc l v)=sc (k*k*(l*l)) (dk u v):=by
 obtain⟨a,b,c⟩:=u;obtain⟨d,e,g⟩:=v;simp only[dk,sc,FX,Ez,pK,DF,FZ,OX];refine Prod.ext ?_ (Prod.ext ?_ ?_);dsimp only;grobner;dsimp only;grobner;dsimp only;grobner
theorem DG(u v:yZ n):dk u v=dk v u:=by
 obtain⟨a,b,c⟩:=u;obtain⟨d,e,g⟩:=v;simp only[dk,FX,Ez,pK,DF,FZ,OX];refine Prod.ext ?_ (Prod.ext ?_ ?_);dsimp only;grobner;dsimp only;grobner;dsimp only;grobner
theorem rU(f:Fd n)(P Q:Pt n):sum f P Q=sum f Q P:=by rw[sum,sum,DG]
theorem aaq(f:Fd n){t:yZ n}(c:hc t)(e:nz t):∃k,k≠0∧t=sc k (pr (nm f t)):=by
 obtain⟨x,y,z⟩:=t;by_cases a:z=0;have b:x=0:=by
  have:x*(x*x)=0:=by
   have d:y*(y*z)=x*(x*x)+7*(z*(z*z)):=c;rw[a]at d;grobner
  rcases f.nzd this with h|h;exact h;exact(f.nzd h).elim id id
 refine⟨y,fun g=>e ⟨b,g,a⟩,?_⟩;simp only[nm,if_pos a,pr,sc,FY,JX,b,a];refine Prod.ext ?_ (Prod.ext ?_ ?_);dsimp only;grobner;dsimp only;grobner;dsimp only;grobner;refine⟨z,a,?_⟩;have j:=f.hinv z a;simp only[nm,if_neg a,pr,sc,JX];generalize f.inv z=i at *;refine Prod.ext ?_ (Prod.ext ?_ ?_);dsimp only;grobner;dsimp only;grobner;dsimp only;grobner
theorem aar(f:Fd n){t:yZ n}(b:hc t):gz (nm f t):=by
 obtain⟨x,y,z⟩:=t;by_cases a:z=0;simp[nm,a,gz];have d:=f.hinv z a;have c:y*(y*z)=x*(x*x)+7*(z*(z*z)):=b;simp only[nm,if_neg a,gz];generalize f.inv z=i at *;have e:(y*(y*z))*(i*i*i)=(x*(x*x)+7*(z*(z*z)))*(i*i*i):=by rw[c]
 grobner
theorem WJ(f:Fd n){A B:Pt n}(e:(pr A).1*(pr B).2.2=(pr A).2.2*(pr B).1)(c:(pr A).2.1*(pr B).2.2=(pr A).2.2*(pr B).2.1):A=B:=by
 cases A with
 | none=>cases B with
  |none=>rfl
  |some b =>
   simp only[pr,FY,JX]at c;exact absurd (by grobner) f.one
 | some a=>cases B with
  |none =>
   simp only[pr,FY,JX]at c;exact absurd (by grobner) f.one
  |some b =>
   obtain⟨x,y⟩:=a;obtain⟨g,i⟩:=b;simp only[pr,JX]at e c;have h:x=g:=by grobner
   have d:y=i:=by grobner
   rw[h,d]
theorem d0(f:Fd n){Q:Pt n}(h:gz Q):sum f none Q=Q:=by
 cases Q with
 |none =>
  have e:(dk (pr (none:Pt n)) (pr none)).2.2=0:=by simp only[dk,pr,FX,Ez,FY,JX,pK,DF,FZ,OX];grobner
  rw[sum,nm,if_pos e]
 | some q =>
  obtain⟨x,y⟩:=q;have a:=f.y_ne h;have d:=f.hinv y a;have e:dk (pr (none:Pt n)) (pr (some (x,y)))=(x*y,y*y,y):=by
   simp only[dk,pr,FX,Ez,FY,JX,pK,DF,FZ,OX];refine Prod.ext ?_ (Prod.ext ?_ ?_);dsimp only;grobner;dsimp only;grobner;dsimp only;grobner
  rw[sum,nm,e,if_neg a];generalize f.inv y=i at *;have c:x*y*i=x:=by grobner
  have b:y*y*i=y:=by grobner
  simp only[c,b]
theorem gU(f:Fd n){Q:Pt n}(h:gz Q):sum f Q none=Q:=by rw[rU,d0 f h]
theorem Nx(x1 a c b:Fin n)(d:gz (some (x1,a)))(e:gz (some (c,b))):hc (dk (x1,a,ic 1) (c,b,ic 1)):=by
 have h:=Z6 x1 c x1 a b a (cz d) (cz e) (cz d);simp only[FX,Ez,pK,FY,ic7]at h;show _=_;generalize dk (x1,a,ic 1) (c,b,ic 1)=t at *
 grobner
theorem acW{g w:Fin n}(k:g*(g*g)+7*(w*w*w)+-1*(0*0)=0):g*(g*g)+7*(w*w*w)=0:=by grobner
theorem acX{g w i:Fin n}(a:w*i=1)(b:g*(g*g)+7*(w*w*w)=0):g*i*(g*i)*(g*i)+7=0:=by
 have c:w*w*w*(i*i*i)=1:=by
  have:w*w*w*(i*i*i)=(w*i)*(w*i)*(w*i):=by grobner
  rw[this,a];grobner
 have d:(g*(g*g)+7*(w*w*w))*(i*i*i)=0:=by rw[b];grobner
 grobner
theorem Ny(f:Fd n)(x1 c e j:Fin n)(l:gz (some (x1,c)))(p:gz (some (e,j))):nz (dk (x1,c,ic 1) (e,j,ic 1)):=by
 rintro⟨F,y,v⟩;by_cases u:x1=e;subst u;have m:(c-j)*(c+j)=0:=by
  have a:c*c=x1*x1*x1+7:=l;have b:j*j=x1*x1*x1+7:=p
  grobner
 rcases f.nzd m with m|m;have o:j=c:=by grobner
 subst o;have h:=aag x1 x1 x1 j j j (cz l) (cz l) (cz l);simp only[FX,Ez,pK,FY,ic8]at h;rw[v]at h;have m:=f.y_ne l;exact f.mul_ne f.eight (f.mul_ne m (f.mul_ne m m)) (by grobner);have o:j=-c:=by grobner
 subst o;have h:=aam x1 x1 x1 c c c (cz l) (cz l) (cz l);have A:mu c (ic (-1))=-c:=by rw[pK,Ez];grobner
 rw[A]at h;have k:=aao x1 x1 x1 c c c (cz l) (cz l) (cz l);simp only[FX,Ez,pK,FY,OX,ic4,ic7,ic8,aap]at h k;rw[y]at h;have m:=f.y_ne l;have z:=f.mul_ne f.four (f.mul_ne m m);have r:=f.hinv _ z;generalize f.inv (4*(c*c))=i at *;generalize C:3*(x1*x1)*(3*(x1*x1))+-1*(8*(x1*(c*c)))=g at *;generalize D:3*(x1*x1)*(12*(x1*(c*c))+-1*(3*(x1*x1)*(3*(x1*x1))))+-1*(8*(c*c*(c*c)))=kk at *;generalize 4*(c*c)=w at *;have q:kk=0:=by grobner
 rw[q]at k;refine f.cub (g*i) ?_;have p:(g*(g*g)+7*(w*(w*w)))*(i*i*i)=0:=by
  have:g*(g*g)+7*(w*(w*w))=0:=by grobner
  rw[this];grobner
 have E:w*w*w*(i*i*i)=1:=by
  have:w*w*w*(i*i*i)=(w*i)*(w*i)*(w*i):=by grobner
  rw[this,r];grobner
 grobner
 ·have h:=aai x1 e x1 c j c (cz l) (cz p) (cz l);have k:=aak x1 e x1 c j c (cz l) (cz p) (cz l);simp only[FX,Ez,pK,FY,ic7]at h k;rw[v]at h;have x:x1+-1*e≠0:=fun h=>u (by grobner);have B:=f.mul_ne x x;have r:=f.hinv _ B;generalize f.inv ((x1+-1*e)*(x1+-1*e))=i at *;generalize G:(c+j)*(x1*((x1+-1*e)*(x1+-1*e))+-1*((c+j)*(c+j)+-1*((x1+e)*((x1+-1*e)*(x1+-1*e)))))+-1*(c*((x1+-1*e)*((x1+-1*e)*(x1+-1*e))))=N at *;generalize C:(c+j)*(c+j)+-1*((x1+e)*((x1+-1*e)*(x1+-1*e)))=g at *;have t:N=0:=by grobner
  rw[t]at k;have s:(x1+-1*e)*((x1+-1*e)*(x1+-1*e))*((x1+-1*e)*((x1+-1*e)*(x1+-1*e)))=((x1+-1*e)*(x1+-1*e))*((x1+-1*e)*(x1+-1*e))*((x1+-1*e)*(x1+-1*e)):=by
   generalize x1+-1*e=d at *
   grobner
  rw[s]at k;generalize(x1+-1*e)*(x1+-1*e)=w at *;exact f.cub (g*i) (acX r (acW k))
theorem WL(f:Fd n)(x1 b c a:Fin n)(d:gz (some (x1,b)))(e:gz (some (c,a))):∃k,k≠0∧dk (x1,b,ic 1) (c,a,ic 1)=sc k (pr (sum f (some (x1,b)) (some (c,a)))) :=
 aaq f (Nx x1 b c a d e) (Ny f x1 b c a d e)
theorem qD(f:Fd n){P Q:Pt n}(a:gz P)(b:gz Q):gz (sum f P Q):=by
 cases P with
 |none=>rw[d0 f b];exact b
 |some p=>cases Q with
  |none=>rw[gU f a];exact a
  |some q=>exact aar f (Nx _ _ _ _ a b)
theorem wV(f:Fd n){P Q:Pt n}(c:gz P)(a:gz Q):∃k,k≠0∧dk (pr P) (pr Q)=sc k (pr (sum f P Q)):=by
 have one:∀t:yZ n,sc 1 t=t:=fun t=>by
  simp only[sc];refine Prod.ext ?_ (Prod.ext ?_ ?_);dsimp only;grobner;dsimp only;grobner;dsimp only;grobner
 have b:∀{Q:Pt n},gz Q→∃k,k≠0∧dk (pr none) (pr Q)=sc k (pr Q):=by
  intro Q a;cases Q with
  |none =>
   refine⟨1,f.one,?_⟩;simp only[dk,pr,sc,FX,Ez,FY,JX,pK,DF,FZ,OX];refine Prod.ext ?_ (Prod.ext ?_ ?_);dsimp only;grobner;dsimp only;grobner;dsimp only;grobner
  |some q =>
   obtain⟨x,y⟩:=q;refine⟨y,f.y_ne a,?_⟩;simp only[dk,pr,sc,FX,Ez,FY,JX,pK,DF,FZ,OX];refine Prod.ext ?_ (Prod.ext ?_ ?_);dsimp only;grobner;dsimp only;grobner;dsimp only;grobner
 cases P with
 |none=>rw[d0 f a];exact b a
 |some p=>cases Q with
  |none=>rw[gU f c,DG];exact b c
  |some q=>exact WL f _ _ _ _ c a
theorem Nz(k l:Fin n)(t:yZ n):sc k (sc l t)=sc (k*l) t:=by
 simp only[sc];refine Prod.ext ?_ (Prod.ext ?_ ?_);dsimp only;grobner;dsimp only;grobner;dsimp only;grobner
theorem gp(f:Fd n){P Q R:Pt n}(s:gz P)(k:gz Q)(u:gz R):sum f (sum f P Q) R=sum f P (sum f Q R):=by
 have w:=qD f s k;have z:=qD f k u;have one:∀t:yZ n,sc 1 t=t:=fun t=>by
  simp only[sc];refine Prod.ext ?_ (Prod.ext ?_ ?_);dsimp only;grobner;dsimp only;grobner;dsimp only;grobner
 cases P with
 |none=>rw[d0 f k,d0 f z]
 | some p=>cases Q with
  |none=>rw[gU f s,d0 f u]
  | some q=>cases R with
   |none=>rw[gU f w,gU f k]
   | some r =>
    obtain⟨c,d⟩:=p;obtain⟨j,e⟩:=q;obtain⟨g,i⟩:=r;obtain⟨o,v,L⟩:=wV f s k;obtain⟨k2,C,N⟩:=wV f w u;obtain⟨k3,y,K⟩:=wV f k u;obtain⟨k4,D,S⟩:=wV f s z;have I:=Z2 c j g d e i (cz s) (cz k) (cz u);have J:=Z4 c j g d e i (cz s) (cz k) (cz u);have T:dk (dk (c,d,ic 1) (j,e,ic 1)) (g,i,ic 1)=sc (o*o*(1*1)*k2) (pr (sum f (sum f (some (c,d)) (some (j,e))) (some (g,i)))):=by
     have E:dk (c,d,ic 1) (j,e,ic 1)=sc o (pr (sum f (some (c,d)) (some (j,e)))):=L;have H:dk (pr (sum f (some (c,d)) (some (j,e)))) (g,i,ic 1)=sc k2 (pr (sum f (sum f (some (c,d)) (some (j,e))) (some (g,i)))):=N;rw[E,show((g,i,ic 1):yZ n)=sc 1 (g,i,ic 1)from(one _).symm,F2,H,Nz]
    have U:dk (c,d,ic 1) (dk (j,e,ic 1) (g,i,ic 1))=sc (1*1*(k3*k3)*k4) (pr (sum f (some (c,d)) (sum f (some (j,e)) (some (g,i))))):=by
     have G:dk (j,e,ic 1) (g,i,ic 1)=sc k3 (pr (sum f (some (j,e)) (some (g,i)))):=K;have F:dk (c,d,ic 1) (pr (sum f (some (j,e)) (some (g,i))))=sc k4 (pr (sum f (some (c,d)) (sum f (some (j,e)) (some (g,i))))):=S;rw[G,show((c,d,ic 1):yZ n)=sc 1 (c,d,ic 1)from(one _).symm,F2,F,Nz]
    have M:o*o*(1*1)*k2≠0:=f.mul_ne (f.mul_ne (f.mul_ne v v) (f.mul_ne f.one f.one)) C;have O:1*1*(k3*k3)*k4≠0:=f.mul_ne (f.mul_ne (f.mul_ne f.one f.one) (f.mul_ne y y)) D;rw[T,U]at I J;generalize o*o*(1*1)*k2=l at *;generalize 1*1*(k3*k3)*k4=m at *;generalize sum f (sum f (some (c,d)) (some (j,e))) (some (g,i))=A at *;generalize sum f (some (c,d)) (sum f (some (j,e)) (some (g,i)))=B at *;simp only[sc,FX,Ez,pK,FY]at I J;have x:=f.mul_ne M O;refine WJ f ?_ ?_;have:l*m*((pr A).1*(pr B).2.2-(pr A).2.2*(pr B).1)=0:=by
     generalize pr A=a at *;generalize pr B=b at *
     grobner
    rcases f.nzd this with h|h;exact absurd h x;generalize pr A=a at *;generalize pr B=b at *
    grobner
    ·have:l*m*((pr A).2.1*(pr B).2.2-(pr A).2.2*(pr B).2.1)=0:=by
      generalize pr A=a at *;generalize pr B=b at *
      grobner
     rcases f.nzd this with h|h;exact absurd h x;generalize pr A=a at *;generalize pr B=b at *
     grobner
end
end Go.Ec
namespace Go.Ec
open CR
section
variable {n:Nat} [NeZero n]
theorem Ry{c g T x S:Fin n}(k:T*c-g*S=0)(a:x*c=g):c*(T-x*S)=0:=by
 have:c*(T-x*S)=(T*c-g*S)+(g-x*c)*S:=by grobner
 rw[this,k,a];grobner
theorem wW{a b:Fin n}(h:a-b=0):a=b:=by grobner
theorem acY{x x1 a y m:Fin n}(b:x*(4*(a*a))=m*m-8*(x1*(a*a)))(c:y*(2*a)=m*(x1-x)-a*(2*a)):y*(8*(a*(a*a)))=m*(12*(x1*(a*a))-m*m)-8*(a*a*(a*a)):=by
 have d:y*(8*(a*(a*a)))=(y*(2*a))*(4*(a*a)):=by clear b c;grobner
 have e:(m*(x1-x)-a*(2*a))*(4*(a*a))=m*(x1*(4*(a*a))-x*(4*(a*a)))-8*(a*a*(a*a)):=by clear b c d;grobner
 rw[d,c,e,b];clear b c d e
 grobner
theorem acZ{x x1 a y d e g:Fin n}(b:x*(d*d)=g)(c:y*d=e*(x1-x)-a*d):y*(d*(d*d))=e*(x1*(d*d)-g)-a*(d*(d*d)):=by
 have f:y*(d*(d*d))=(y*d)*(d*d):=by clear b c;grobner
 have h:(e*(x1-x)-a*d)*(d*d)=e*(x1*(d*d)-x*(d*d))-a*(d*(d*d)):=by clear b c f;grobner
 rw[f,c,h,b]
theorem NA(f:Fd n){x1 c g d:Fin n}(l:gz (some (x1,c)))(m:gz (some (g,d))){x y:Fin n}(j:(dk (x1,c,ic 1) (g,d,ic 1)).1=x*(dk (x1,c,ic 1) (g,d,ic 1)).2.2)(k:(dk (x1,c,ic 1) (g,d,ic 1)).2.1=y*(dk (x1,c,ic 1) (g,d,ic 1)).2.2):sum f (some (x1,c)) (some (g,d))=some (x,y):=by
 have o:=Ny f x1 c g d l m;have e:sum f (some (x1,c)) (some (g,d))=nm f (dk (x1,c,ic 1) (g,d,ic 1)):=rfl;rw[e];generalize dk (x1,c,ic 1) (g,d,ic 1)=t at *;obtain⟨X,Y,Z⟩:=t;dsimp only at j k;have h:Z≠0:=fun h=>o ⟨by dsimp only;rw[j,h];grobner,by dsimp only;rw[k,h];grobner,h⟩;have p:=f.hinv Z h;rw[nm,if_neg h];generalize f.inv Z=i at *;have a:X*i=x:=by grobner
 have b:Y*i=y:=by grobner
 dsimp only;rw[a,b]
theorem Jr(f:Fd n){x1 d c e:Fin n}(g:gz (some (x1,d)))(l:gz (some (c,e)))(i:c-x1≠0){x y:Fin n}
  (m:x*((c-x1)*(c-x1))=(e-d)*(e-d)-(x1+c)*((c-x1)*(c-x1)))
  (p:y*(c-x1)=(e-d)*(x1-x)-d*(c-x1)):sum f (some (x1,d)) (some (c,e))=some (x,y):=by
 have j:=Z8 x1 c x1 d e d (cz g) (cz l) (cz g);have k:=aaa x1 c x1 d e d (cz g) (cz l) (cz g);simp only[FX,Ez,pK,FY]at j k;have o:∀a b:Fin n,a+-1*b=a-b:=fun a b=>by grobner
 simp only[o]at j k;refine NA f g l ?_ ?_;rcases f.nzd (Ry j m)with h|h;exact absurd h (f.mul_ne i i);exact wW h;rcases f.nzd (Ry k (acZ m p))with h|h;exact absurd h (f.mul_ne i (f.mul_ne i i));exact wW h
theorem F3(f:Fd n){x1 c:Fin n}(e:gz (some (x1,c))){x y:Fin n}
  (j:x*(4*(c*c))=3*(x1*x1)*(3*(x1*x1))-8*(x1*(c*c)))
  (l:y*(2*c)=3*(x1*x1)*(x1-x)-c*(2*c)):sum f (some (x1,c)) (some (x1,c))=some (x,y):=by
 have d:=f.y_ne e;have g:=aac x1 x1 x1 c c c (cz e) (cz e) (cz e);have i:=aae x1 x1 x1 c c c (cz e) (cz e) (cz e);simp only[FX,Ez,pK,FY,OX,ic4,ic8,aap]at g i;have k:∀a b:Fin n,a+-1*b=a-b:=fun a b=>by grobner
 simp only[k]at g i;refine NA f e e ?_ ?_;rcases f.nzd (Ry g j)with h|h;exact absurd h (f.mul_ne f.four (f.mul_ne d d));exact wW h;rcases f.nzd (Ry i (acY j l))with h|h;exact absurd h (f.mul_ne f.eight (f.mul_ne d (f.mul_ne d d)));exact wW h
theorem HM(f:Fd n){x y:Fin n}(a:gz (some (x,y))):sum f (some (x,y)) (some (x,-y))=none:=by
 have:(dk (x,y,ic 1) (x,-y,ic 1)).2.2=0:=by
  simp only[dk,FX,Ez,JX,pK,DF,OX];grobner
 show nm f (dk (x,y,ic 1) (x,-y,ic 1))=none;rw[nm,if_pos this]
def ng:Pt n→Pt n
 |none=>none
 |some p=>some (p.1,-p.2)
theorem Uh{P:Pt n}(h:gz P):gz (ng P):=by
 cases P with
 |none=>trivial
 |some p =>
  have a:p.2*p.2=p.1*p.1*p.1+7:=h;show -p.2*-p.2=p.1*p.1*p.1+7
  grobner
theorem NB(f:Fd n){P:Pt n}(h:gz P):sum f P (ng P)=none:=by
 cases P with
 |none=>exact d0 f (show gz (none:Pt n)from trivial)
 |some p=>exact HM f h
def mp(f:Fd n):Nat→Pt n→Pt n
 |0,_=>none
 |k+1,P=>sum f (mp f k P) P
theorem ki(f:Fd n){P:Pt n}(h:gz P):∀k,gz (mp f k P)
 |0=>trivial
 |k+1=>qD f (ki f h k) h
theorem mV(f:Fd n){P:Pt n}(h:gz P)(a:Nat):∀b,mp f (a+b) P=sum f (mp f a P) (mp f b P)
 |0=>(gU f (ki f h a)).symm
 |b+1=>by rw[←Nat.add_assoc,mp,mV f h a b,mp,gp f (ki f h a) (ki f h b) h]
theorem WM(f:Fd n){P:Pt n}(h:gz P):mp f 1 P=P:=d0 f h
theorem F4(f:Fd n){P:Pt n}(h:gz P)(a:Nat):mp f (2*a) P=sum f (mp f a P) (mp f a P):=by rw[Nat.two_mul,mV f h]
theorem aas(f:Fd n){A B C D:Pt n}(d:gz A)(c:gz B)(a:gz C)(b:gz D):sum f (sum f A B) (sum f C D)=sum f (sum f A C) (sum f B D):=by
 rw[gp f d c (qD f a b),←gp f c a b,rU f B C,gp f a c b,←gp f d a (qD f c b)]
theorem uM(f:Fd n):∀k,mp f k none=(none:Pt n)
 |0=>rfl
 |k+1=>by rw[mp,uM f k];exact d0 f (show gz (none:Pt n)from True.intro)
theorem AX(f:Fd n){P:Pt n}(h:gz P)(a:Nat):∀b,mp f (a*b) P=mp f b (mp f a P)
 |0=>rfl
 |b+1=>by rw[Nat.mul_add,Nat.mul_one,mV f h,AX f h a b,mp]
def rV(f:Fd n)(x y z:Fin n):Pt n:=if z=0 then none else some (x*(f.inv z*f.inv z),y*(f.inv z*f.inv z*f.inv z))
theorem DI(f:Fd n)(x y:Fin n):rV f x y 0=none:=by simp[rV]
theorem AY(f:Fd n){x y z a b:Fin n}(hz:z≠0)(e:x=a*(z*z))(h:y=b*(z*z*z)):rV f x y z=some (a,b):=by
 have c:=f.hinv z hz;rw[rV,if_neg hz];generalize f.inv z=i at *;have g:x*(i*i)=a:=by
  have:x*(i*i)=a*((z*i)*(z*i)):=by rw[e];grobner
  rw[this,c];grobner
 have d:y*(i*i*i)=b:=by
  have:y*(i*i*i)=b*((z*i)*(z*i)*(z*i)):=by rw[h];grobner
  rw[this,c];grobner
 rw[g,d]
theorem F5(f:Fd n)(x y:Fin n){z:Fin n}(hz:z≠0):∃a b,x=a*(z*z)∧y=b*(z*z*z)∧rV f x y z=some (a,b):=by
 have e:=f.hinv z hz;have d:x=x*(f.inv z*f.inv z)*(z*z):=by
  have:x*(f.inv z*f.inv z)*(z*z)=x*((z*f.inv z)*(z*f.inv z)):=by grobner
  rw[this,e];grobner
 have c:y=y*(f.inv z*f.inv z*f.inv z)*(z*z*z):=by
  have:y*(f.inv z*f.inv z*f.inv z)*(z*z*z)=y*((z*f.inv z)*(z*f.inv z)*(z*f.inv z)):=by grobner
  rw[this,e];grobner
 exact⟨_,_,d,c,AY f hz d c⟩
theorem WN(f:Fd n){a b:Fin n}(k:gz (some (a,b))):∃x y,x*(4*(b*b))=3*(a*a)*(3*(a*a))-8*(a*(b*b))∧y*(2*b)=3*(a*a)*(a-x)-b*(2*b)∧sum f (some (a,b)) (some (a,b))=some (x,y):=by
 have h:=f.y_ne k;have d:=f.hinv _ (f.mul_ne f.four (f.mul_ne h h));have i2:=f.hinv _ (f.mul_ne f.two h);have e:(3*(a*a)*(3*(a*a))-8*(a*(b*b)))*f.inv (4*(b*b))*(4*(b*b))=3*(a*a)*(3*(a*a))-8*(a*(b*b)):=by
  generalize 3*(a*a)*(3*(a*a))-8*(a*(b*b))=g at *;generalize f.inv (4*(b*b))=i at *;generalize 4*(b*b)=c at *;have:g*i*c=g*(c*i):=by clear d i2;grobner
  rw[this,d];clear d i2 this;grobner
 have j:∀g:Fin n,g*f.inv (2*b)*(2*b)=g:=by
  intro g;generalize f.inv (2*b)=i at *;generalize 2*b=c at *;have:g*i*c=g*(c*i):=by clear d i2 e;grobner
  rw[this,i2];clear d i2 this e;grobner
 exact⟨_,_,e,j _,F3 f k e (j _)⟩
theorem ac0{a b z x y:Fin n}(c:x*(4*(b*b))=3*(a*a)*(3*(a*a))-8*(a*(b*b)))(e:y*(2*b)=3*(a*a)*(a-x)-b*(2*b)) :
  3*(a*(z*z)*(a*(z*z)))*(3*(a*(z*z)*(a*(z*z))))-2*(4*(a*(z*z)*(b*(z*z*z)*(b*(z*z*z)))))=x*(2*(b*(z*z*z)*z)*(2*(b*(z*z*z)*z))) ∧
  3*(a*(z*z)*(a*(z*z)))*(4*(a*(z*z)*(b*(z*z*z)*(b*(z*z*z))))-x*(2*(b*(z*z*z)*z)*(2*(b*(z*z*z)*z))))-8*(b*(z*z*z)*(b*(z*z*z))*(b*(z*z*z)*(b*(z*z*z))))=y*(2*(b*(z*z*z)*z)*(2*(b*(z*z*z)*z))*(2*(b*(z*z*z)*z))):=by
 refine⟨?_,?_⟩;have d:x*(2*(b*(z*z*z)*z)*(2*(b*(z*z*z)*z)))=(x*(4*(b*b)))*(z*z*z*z*(z*z*z*z)):=by clear c e;grobner
 rw[d,c];clear c e d
 grobner
 ·have d:y*(2*(b*(z*z*z)*z)*(2*(b*(z*z*z)*z))*(2*(b*(z*z*z)*z)))=(y*(2*b))*(4*(b*b))*(z*z*z*z*(z*z*z*z)*(z*z*z*z)):=by clear c e;grobner
  rw[d,e];clear c e d
  grobner
theorem wX(f:Fd n){x y z:Fin n}(hz:z≠0)(d:gz (rV f x y z)) :
  2*(y*z)≠0∧y≠0∧rV f (3*(x*x)*(3*(x*x))-2*(4*(x*(y*y)))) (3*(x*x)*(4*(x*(y*y))-(3*(x*x)*(3*(x*x))-2*(4*(x*(y*y)))))-8*(y*y*(y*y))) (2*(y*z))=sum f (rV f x y z) (rV f x y z):=by
 obtain⟨a,b,j,i,e⟩:=F5 f x y hz;rw[e]at d⊢;have o:=f.y_ne d;have c:y≠0:=by
  rw[i];exact f.mul_ne o (f.mul_ne (f.mul_ne hz hz) hz)
 have h:2*(y*z)≠0:=f.mul_ne f.two (f.mul_ne c hz);refine⟨h,c,?_⟩;obtain⟨X,Y,m,k,l⟩:=WN f d;obtain⟨g,p⟩:=ac0 (z:=z) m k;rw[l];subst j i;exact AY f h g (by rw[g];exact p)
theorem NC(f:Fd n){x1 b a d:Fin n}(k:gz (some (x1,b)))(l:gz (some (a,d)))(h:a-x1≠0):∃x y,x*((a-x1)*(a-x1))=(d-b)*(d-b)-(x1+a)*((a-x1)*(a-x1))∧y*(a-x1)=(d-b)*(x1-x)-b*(a-x1)∧sum f (some (x1,b)) (some (a,d))=some (x,y):=by
 have i2:=f.hinv _ h;have e:∀g:Fin n,g*f.inv (a-x1)*(a-x1)=g:=by
  intro g;generalize f.inv (a-x1)=i at *;generalize a-x1=c at *;have:g*i*c=g*(c*i):=by clear i2;grobner
  rw[this,i2];clear i2 this;grobner
 have j:∀g:Fin n,g*(f.inv (a-x1)*f.inv (a-x1))*((a-x1)*(a-x1))=g:=by
  intro g;generalize f.inv (a-x1)=i at *;generalize a-x1=c at *;have:g*(i*i)*(c*c)=g*((c*i)*(c*i)):=by clear i2 e;grobner
  rw[this,i2];clear i2 this e;grobner
 exact⟨_,_,j _,e _,Jr f k l h (j _) (e _)⟩
theorem ac1{a b a' b' z z' x y:Fin n}(i:x*((a'-a)*(a'-a))=(b'-b)*(b'-b)-(a+a')*((a'-a)*(a'-a)))(j:y*(a'-a)=(b'-b)*(a-x)-b*(a'-a)){p u2 q s h r:Fin n}
  (c:p=a*(z*z)*(z'*z')) (f:u2=a'*(z'*z')*(z*z)) (d:q=b*(z*z*z)*(z'*z'*z')) (e:s=b'*(z'*z'*z')*(z*z*z)) (o:h=u2-p) (m:r=s-q) :
  r*r-h*h*h-2*(p*(h*h))=x*(h*(z*z')*(h*(z*z')))∧r*(p*(h*h)-x*(h*(z*z')*(h*(z*z'))))-q*(h*h*h)=y*(h*(z*z')*(h*(z*z'))*(h*(z*z'))):=by
 have g:h=(a'-a)*(z*z*(z'*z')):=by rw[o,c,f];clear i j;grobner
 have k:r=(b'-b)*(z*z*z*(z'*z'*z')):=by rw[m,d,e];clear i j g;grobner
 refine⟨?_,?_⟩;have l:x*(h*(z*z')*(h*(z*z')))=(x*((a'-a)*(a'-a)))*(z*z*z*(z'*z'*z')*(z*z*z*(z'*z'*z'))):=by rw[g];clear i j g k o m c f d e;grobner
 rw[l,i,g,k,c];clear i j l g k o m c f d e
 grobner
 ·have l:y*(h*(z*z')*(h*(z*z'))*(h*(z*z')))=(y*(a'-a))*((a'-a)*(a'-a))*(z*z*z*(z'*z'*z')*(z*z*z*(z'*z'*z'))*(z*z*z*(z'*z'*z'))):=by rw[g];clear i j g k o m c f d e;grobner
  rw[l,j,g,k,c,d];clear i j l g k o m c f d e
  grobner
theorem ND(f:Fd n){x y z D E z' G u2 O S h r:Fin n}(hz:z≠0)(m:z'≠0)(p:gz (rV f x y z))(c:gz (rV f D E z'))
  (i:G=x*(z'*z')) (g:u2=D*(z*z)) (j:O=y*(z'*z'*z')) (d:S=E*(z*z*z)) (C:h=u2-G) (A:r=S-O) :
  (h≠0→rV f (r*r-h*h*h-2*(G*(h*h))) (r*(G*(h*h)-(r*r-h*h*h-2*(G*(h*h))))-O*(h*h*h)) (h*(z*z'))=sum f (rV f x y z) (rV f D E z')) ∧
  (h=0→r=0→rV f x y z=rV f D E z')∧(h=0→r≠0→sum f (rV f x y z) (rV f D E z')=none):=by
 obtain⟨a,b,u,v,e⟩:=F5 f x y hz;obtain⟨s,o,k,l,w⟩:=F5 f D E m;rw[e]at p⊢;rw[w]at c⊢;rw[u]at i;rw[k]at g;rw[v]at j;rw[l]at d;have t:h=(s-a)*(z*z*(z'*z')):=by rw[C,i,g];clear u v k l e w p c;grobner
 have B:r=(o-b)*(z*z*z*(z'*z'*z')):=by rw[A,j,d];clear u v k l e w p c t;grobner
 have H:=f.mul_ne (f.mul_ne hz hz) (f.mul_ne m m);have I:=f.mul_ne (f.mul_ne (f.mul_ne hz hz) hz) (f.mul_ne (f.mul_ne m m) m);refine⟨fun F=>?_,fun F L=>?_,fun F L=>?_⟩;have Z:s-a≠0:=fun q=>F (by rw[t,q];clear u v k l e w p c t B i g j d C A;grobner);obtain⟨X,Y,V,T,U⟩:=NC f p c Z;obtain⟨P,a2⟩:=ac1 (z:=z) (z':=z') V T i g j d C A;rw[U];exact AY f (f.mul_ne F (f.mul_ne hz m)) P (by rw[P];exact a2);have N:s-a=0:=(f.nzd (t.symm.trans F)).resolve_right H;have M:o-b=0:=(f.nzd (B.symm.trans L)).resolve_right I;rw[wW N,wW M];have N:s-a=0:=(f.nzd (t.symm.trans F)).resolve_right H;have M:o-b≠0:=fun q=>L (by rw[B,q];clear u v k l e w p c t B i g j d C A;grobner);have W:=wW N;subst W;have J:b*b=s*s*s+7:=p;have K:o*o=s*s*s+7:=c;have Q:(o-b)*(o+b)=0:=by
  have:(o-b)*(o+b)=o*o-b*b:=by clear u v k l e w p c t B i g j d C A J K;grobner
  rw[this,J,K];clear u v k l e w p c t B i g j d C A J K this;grobner
 have h4:o+b=0:=(f.nzd Q).resolve_left M;have h5:o=-b:=by clear u v k l e w p c t B i g j d C A J K Q;grobner
 rw[h5];exact HM f p
end
end Go.Ec
namespace Go.Ec
def Prm(r:Nat):Prop:=2≤r∧∀d,d∣r→d=1∨d=r
theorem Prm.cop{r a:Nat}(h:Prm r)(b:¬r∣a):Nat.Coprime r a:=by
 have c:=Nat.gcd_dvd_left r a;rcases h.2 _ c with e|e;exact e;exact absurd (e▸Nat.gcd_dvd_right r a) b
theorem Prm.mul{r a b:Nat}(h:Prm r)(d:r∣a*b):r∣a∨r∣b:=by
 by_cases c:r∣a;exact .inl c;exact .inr ((h.cop c).dvd_of_dvd_mul_left d)
theorem NE:∀(k n:Nat),n≤k→2≤n→∃r,Prm r∧r∣n
 |0,n,h1,h2=>by omega
 | k+1,n,h1,h2=>by
  by_cases h:∃d,d∣n∧d≠1∧d≠n;obtain⟨d,a,l,i⟩:=h;have b:0<n:=aq;have o:=Nat.le_of_dvd b a;have j:d≠0:=fun e=>by subst e;have:=Nat.eq_zero_of_zero_dvd a;omega
  obtain⟨r,m,c⟩:=NE k d aq aq;exact⟨r,m,Nat.dvd_trans c a⟩;refine⟨n,⟨h2,fun d a=>?_⟩,Nat.dvd_refl n⟩;by_cases f:d=1;exact .inl f;by_cases g:d=n;exact .inr g;exact absurd ⟨d,a,f,g⟩ h
def ch:Nat→Nat→Nat
 |_,0=>1
 |0,_+1=>0
 |n+1,k+1=>ch n k+ch n (k+1)
theorem HN:∀n k,n<k→ch n k=0
 |0,k+1,_=>rfl
 |n+1,k+1,h=>by rw[ch,HN n k aq,HN n (k+1) aq]
theorem HO:∀n,ch n n=1
 |0=>rfl
 |n+1=>by rw[ch,HO n,HN n (n+1) aq]
theorem AZ:∀n k,(k+1)*ch (n+1) (k+1)=(n+1)*ch n k
 |0,0=>rfl
 |0,k+1=>by simp[ch]
 |n+1,0=>by
  have h:=AZ n 0;have e:ch (n+2) 1=ch (n+1) 0+ch (n+1) 1:=rfl;have c:ch (n+1) 0=1:=rfl;have d:ch n 0=1:=by cases n<;>rfl
  rw[c]at e;rw[d]at h;rw[Nat.zero_add,Nat.one_mul,Nat.mul_one]at h;show 1*ch (n+2) 1=(n+1+1)*1;omega
 |n+1,k+1=>by
  have a:=AZ n k;have f:=AZ n (k+1);have e:ch (n+2) (k+2)=ch (n+1) (k+1)+ch (n+1) (k+2):=rfl;have b:ch (n+1) (k+1)=ch n k+ch n (k+1):=rfl;show(k+2)*ch (n+2) (k+2)=(n+2)*ch (n+1) (k+1);rw[e,Nat.mul_add,show(k+2)*ch (n+1) (k+2)=(n+1)*ch n (k+1)from f];have:(k+2)*ch (n+1) (k+1)=(k+1)*ch (n+1) (k+1)+ch (n+1) (k+1):=by rw[show k+2=(k+1)+1 from rfl,Nat.add_mul,Nat.one_mul]
  rw[this,a,b,show n+2=(n+1)+1 from rfl,Nat.add_mul (n+1) 1,Nat.one_mul,Nat.mul_add];omega
def sm(f:Nat→Nat):Nat→Nat
 |0=>0
 |k+1=>sm f k+f k
theorem rW(f:Nat→Nat):∀k,sm f (k+1)=f 0+sm (fun j=>f (j+1)) k
 |0=>by simp[sm]
 |k+1=>by rw[sm,rW f k,sm];omega
theorem NF(f g:Nat→Nat):∀k,sm (fun j=>f j+g j) k=sm f k+sm g k
 |0=>rfl
 |k+1=>by rw[sm,NF f g k,sm,sm];omega
theorem NG(c:Nat)(f:Nat→Nat):∀k,sm (fun j=>f j*c) k=sm f k*c
 |0=>by simp[sm]
 |k+1=>by rw[sm,NG c f k,sm,Nat.add_mul]
theorem HQ{f g:Nat→Nat}:∀k,(∀j,j<k→f j=g j)→sm f k=sm g k
 |0,_=>rfl
 |k+1,h=>by rw[sm,sm,HQ k fun j a=>h j aq,h k aq]
theorem Ui(a:Nat):∀n,(a+1) ^ n=sm (fun k=>ch n k*a ^ k) (n+1)
 |0=>by simp[sm,ch]
 | n+1=>by
  rw[Nat.pow_succ,Ui a n];rw[rW (fun k=>ch (n+1) k*a ^ k) (n+1)];have b:sm (fun j=>ch (n+1) (j+1)*a ^ (j+1)) (n+1)=sm (fun j=>ch n j*a ^ j*a) (n+1)+sm (fun j=>ch n (j+1)*a ^ (j+1)) (n+1):=by
   rw[←NF];refine HQ _ fun j _=>?_;show(ch n j+ch n (j+1))*a ^ (j+1)=_;rw[Nat.add_mul,Nat.pow_succ,Nat.mul_assoc]
  rw[b,NG];have c:sm (fun j=>ch n (j+1)*a ^ (j+1)) (n+1)+ch (n+1) 0*a ^ 0=sm (fun k=>ch n k*a ^ k) (n+1):=by
   rw[rW (fun k=>ch n k*a ^ k) n,sm,HN n (n+1) aq];have:ch n 0=1:=by cases n<;>rfl
   simp only[this,ch,Nat.zero_mul,Nat.add_zero];omega
  rw[Nat.mul_add,Nat.mul_one];omega
theorem NH(r:Nat)(f:Nat→Nat):∀k,(∀j,j<k→r∣f j)→r∣sm f k
 |0,_=>Nat.dvd_zero r
 |k+1,h=>Nat.dvd_add (NH r f k fun j a=>h j aq) (h k aq)
theorem WO{r k:Nat}(h:Prm r)(d:0<k)(e:k<r):r∣ch r k:=by
 obtain⟨k,rfl⟩:∃j,k=j+1:=⟨k-1,aq⟩;obtain⟨s,rfl⟩:∃j,r=j+1:=⟨r-1,aq⟩;have b:=AZ s k;have c:(s+1)∣(k+1)*ch (s+1) (k+1):=⟨_,b⟩;rcases h.mul c with a|a;have:=Nat.le_of_dvd aq a;omega;exact a
theorem HT{r:Nat}(h:Prm r):∀a,a ^ r%r=a%r
 |0=>by rw[Nat.zero_pow (by have:=h.1;omega)]
 |a+1=>by
  obtain⟨s,rfl⟩:∃j,r=j+1:=⟨r-1,by have:=h.1;omega⟩;have b:=HT h a;rw[Ui,sm,HO,Nat.one_mul,rW];have d:ch (s+1) 0*a ^ 0=1:=by simp[ch]
  obtain⟨t,c⟩:=NH (s+1) (fun j=>ch (s+1) (j+1)*a ^ (j+1)) s fun j e=>Nat.dvd_trans (WO h aq aq) ⟨_,rfl⟩;rw[d,c];have:(1+(s+1)*t+a ^ (s+1))=(a ^ (s+1)+1)+(s+1)*t:=aq;rw[this,Nat.add_mul_mod_self_left,Nat.add_mod,b,←Nat.add_mod]
theorem A0{r:Nat}(h:Prm r){a:Nat}(f:¬r∣a):a ^ (r-1)%r=1:=by
 have i:=h.1;have k:=HT h a;obtain⟨s,rfl⟩:∃j,r=j+1:=⟨r-1,aq⟩;rw[Nat.add_sub_cancel];by_cases m:a=0;subst m;exact absurd (Nat.dvd_zero _) f;have p:0<a ^ s:=Nat.pow_pos aq;have e:∀b c:Nat,c≤b→b%(s+1)=c%(s+1)→(s+1)∣b-c:=fun b c g h=>by
  have o:=Nat.div_add_mod b (s+1);have i:=Nat.div_add_mod c (s+1);refine⟨b/(s+1)-c/(s+1),?_⟩;rw[Nat.mul_sub];omega
 have l:(s+1)∣a*(a ^ s-1):=by
  rw[Nat.mul_sub,Nat.mul_one,Nat.mul_comm,←Nat.pow_succ];exact e _ _ (Nat.le_self_pow aq a) k
 rcases h.mul l with d|d;exact absurd d f;obtain⟨t,q⟩:=d;have:a ^ s=1+(s+1)*t:=aq;rw[this,Nat.add_mul_mod_self_left,Nat.mod_eq_of_lt aq]
theorem bez:∀(k a b:Nat),a+b≤k→0<a→0<b→Nat.gcd a b=1→∃s t,a*s=1+b*t
 |0,a,b,h,ha,hb,_=>by omega
 | k+1,a,b,h,ha,hb,hg=>by
  by_cases e:b=1;subst e;exact⟨1,a-1,aq⟩;by_cases d:a=1;subst d;exact⟨1,0,aq⟩;rcases Nat.lt_trichotomy a b with f|f|f;obtain⟨s,t,c⟩:=bez k a (b-a) aq ha aq (by rw[Nat.gcd_sub_self_right aq];exact hg);refine⟨s+t,t,?_⟩;have:b*t=(b-a)*t+a*t:=by rw[←Nat.add_mul];congr 1;omega
  rw[Nat.mul_add,c,this,Nat.add_assoc];subst f;rw[Nat.gcd_self]at hg;omega;obtain⟨s,t,c⟩:=bez k (a-b) b aq aq hb (by rw[Nat.gcd_sub_self_left aq];exact hg);refine⟨s,t+s,?_⟩;have:a*s=(a-b)*s+b*s:=by rw[←Nat.add_mul];congr 1;omega
  rw[this,c,Nat.mul_add,Nat.add_assoc]
theorem wY{b r:Nat}(a:2≤r)(h:b%r=1):∀t,b ^ t%r=1
 |0=>by rw[Nat.pow_zero,Nat.mod_eq_of_lt aq]
 |t+1=>by rw[Nat.pow_succ,Nat.mul_mod,wY a h t,h,Nat.mul_one,Nat.mod_eq_of_lt aq]
theorem aat{N q R a:Nat}(hq:Prm q)(u:N=q*R+1)(m:a ^ (q*R)%N=1)(o:Nat.gcd (a ^ R%N-1) N=1)(v:a ^ R%N≠0){r:Nat}(h:Prm r)(j:r∣N):q∣r-1:=by
 by_cases k:q∣r-1;exact k;exfalso;have b:=h.1;have hc:=hq.cop k;obtain⟨s,t,d⟩:=bez _ q (r-1) (cL _) (by have:=hq.1;omega) aq hc;have mm:∀x,x%N%r=x%r:=fun x=>Nat.mod_mod_of_dvd x j;have e:a ^ (q*R)%r=1:=by rw[←mm,m,Nat.mod_eq_of_lt aq]
 have g:¬r∣a ^ R:=by
  intro ⟨c,hc⟩;rw[Nat.mul_comm,Nat.pow_mul,Nat.pow_mod,hc,Nat.mul_mod_right,Nat.zero_pow (by have:=hq.1;omega)]at e;rw[Nat.zero_mod]at e;omega
 have f:=A0 h g;have i:(a ^ R) ^ (q*s)%r=1:=by
  rw[←Nat.pow_mul,←Nat.mul_assoc,Nat.mul_comm R q,Nat.pow_mul];exact wY b e s
 rw[d,Nat.pow_add,Nat.pow_one,Nat.pow_mul,Nat.mul_mod,wY b f t,Nat.mul_one,Nat.mod_mod]at i;have p:(a ^ R%N)%r=1:=by rw[mm];exact i
 have l:r∣a ^ R%N-1:=by
  have:=Nat.div_add_mod (a ^ R%N) r;exact⟨a ^ R%N/r,aq⟩
 have:=Nat.dvd_gcd l j;rw[o]at this;have:=Nat.le_of_dvd aq this;omega
theorem aau{N F:Nat}(o:2≤N)(v:N<F*F)(h:∀r,Prm r→r∣N→F∣r-1):Prm N:=by
 refine⟨o,fun d p=>?_⟩;by_cases k:d=1;exact .inl k;by_cases m:d=N;exact .inr m;exfalso;obtain⟨e,b⟩:=p;have s:d≠0:=fun q=>by subst q;simp at b;omega
 have t:e≠0:=fun q=>by subst q;simp at b;omega
 have l:e≠1:=fun q=>by subst q;simp at b;omega
 have c:∀x,x∣N→2≤x→F<x:=by
  intro x i f;obtain⟨r,g,a⟩:=NE x x (cL _) f;have j:=h r g (Nat.dvd_trans a i);have w:=Nat.le_of_dvd (by have:=g.1;omega) j;have y:=Nat.le_of_dvd aq a;have:=g.1;omega
 have u:=c d ⟨e,b⟩ aq;have b2:=c e ⟨d,by rw[Nat.mul_comm];exact b⟩ aq;have:F*F≤d*e:=Nat.mul_le_mul aq aq;omega
theorem ac2{q F m:Nat}(hq:Prm q)(a:q∣m)(f:F∣m)(h:¬q∣F):F*q∣m:=by
 obtain⟨c,hc⟩:=f;rw[hc]at a;rcases hq.mul a with b|⟨e,d⟩;exact absurd b h;exact⟨e,by rw[hc,d,Nat.mul_assoc]⟩
def uj{α:Type}(n:Nat)(k:Nat→α):α:=Nat.rec (k 0) (fun m _=>k (m+1)) n
theorem kN{α:Type}(n:Nat)(k:Nat→α):uj n k=k n:=by cases n<;>rfl
def WP(N:Nat):Nat→Nat→Nat→Nat→Nat
 |0,_,_,acc=>acc
 |f+1,a,e,acc=>bif e.beq 0 then acc else uj (a*a%N) fun b=>uj (e/2) fun d=>uj (bif (e%2).beq 1 then acc*a%N else acc) fun c=>WP N f b d c
theorem ti(N:Nat):∀(f a e b:Nat),e<2 ^ f→b%N=b→WP N f a e b=b*a ^ e%N
 |0,a,e,b,h,hm=>by
  have:e=0:=aq;subst this;rw[WP,Nat.pow_zero,Nat.mul_one,hm]
 | f+1,a,e,b,h,hm=>by
  rw[WP];by_cases j:e=0;subst j;show b=_;rw[Nat.pow_zero,Nat.mul_one,hm];have c:e.beq 0=false:=Bool.eq_false_iff.2 fun q=>j (Nat.eq_of_beq_eq_true q);rw[c,cond_false,kN,kN,kN];have i:e/2<2 ^ f:=by rw[Nat.pow_succ]at h;omega
  have d:(a*a%N) ^ (e/2)%N=a ^ (2*(e/2))%N:=by rw[←Nat.pow_mod,Nat.pow_mul,Nat.pow_two]
  rcases Nat.mod_two_eq_zero_or_one e with g|g;have c:(e%2).beq 1=false:=by rw[g];rfl
  rw[c,cond_false,ti N f _ _ _ i hm,Nat.mul_mod,d,←Nat.mul_mod,show 2*(e/2)=e by omega];have c:(e%2).beq 1=true:=by rw[g];rfl
  rw[c,cond_true,ti N f _ _ _ i (Nat.mod_mod _ _),Nat.mul_mod,d,Nat.mod_mod,←Nat.mul_mod,Nat.mul_assoc,Nat.mul_comm a,←Nat.pow_succ,Nat.succ_eq_add_one,show 2*(e/2)+1=e by omega]
def tri(N:Nat):Nat→Nat→Bool
 |0,d=>Nat.blt N (d*d)
 |f+1,d=>bif Nat.blt N (d*d)then true else bif (N%d).beq 0 then false else uj (d+1) fun a=>tri N f a
theorem NI(N:Nat):∀f d,tri N f d=true→(∀x,2≤x→x<d→¬x∣N)→∀x,2≤x→x*x≤N→¬x∣N
 |0,d,h,hd,x,h2,hx=>hd x h2 (by
  have g:Nat.blt N (d*d)=true:=h;have:=Nat.le_of_ble_eq_true g;rcases Nat.lt_or_ge x d with q|q;exact q
  have:=Nat.mul_le_mul q q;omega)
 | f+1,d,h,hd,x,h2,hx=>by
  rw[tri]at h;cases c:Nat.blt N (d*d)with
  |true =>
   refine hd x h2 ?_;have:=Nat.le_of_ble_eq_true c;rcases Nat.lt_or_ge x d with q|q;exact q;have:=Nat.mul_le_mul q q;omega
  | false =>
   rw[c,cond_false]at h;cases a:(N%d).beq 0 with
   |true=>rw[a,cond_true]at h;cases h
   | false =>
    rw[a,cond_false,kN]at h;refine NI N f (d+1) h (fun y e i=>?_) x h2 hx;rcases Nat.lt_or_ge y d with q|q;exact hd y e q;have:y=d:=aq;subst this;intro b;have:N%y=0:=Nat.mod_eq_zero_of_dvd b;rw[this]at a;cases a
theorem mW{N:Nat}(f:Nat)(i:2≤N)(h:tri N f 2=true):Prm N:=by
 have g:=NI N f 2 h (fun x b c=>aq);refine⟨i,fun d j=>?_⟩;by_cases b:d=1;exact .inl b;by_cases c:d=N;exact .inr c;exfalso;obtain⟨e,a⟩:=j;have k:d≠0:=fun q=>by subst q;simp at a;omega
 have l:e≠0:=fun q=>by subst q;simp at a;omega
 have m:e≠1:=fun q=>by subst q;simp at a;omega
 rcases Nat.le_total d e with q|q;exact g d aq (by rw[a];exact Nat.mul_le_mul_left _ q) ⟨e,a⟩;exact g e aq (by rw[a];exact d9 _ q) ⟨d,by rw[Nat.mul_comm];exact a⟩
def pkB(N:Nat):List (Nat×Nat)→Bool
 |[]=>true
 |p::l=>uj ((N-1)/p.1) fun R=>(p.1*R+1).beq N&&(WP N 300 p.2 (N-1) 1).beq 1&&(uj (WP N 300 p.2 R 1) fun b=>!b.beq 0&&(Nat.gcd (b-1) N).beq 1)&&pkB N l
def Yh(l:List (Nat×Nat)):Nat:=l.foldr (fun p a=>a*p.1) 1
def Rz:List (Nat×Nat)→Bool
 |[]=>true
 |p::l=>!((Yh l%p.1).beq 0)&&Rz l
theorem Uj{N:Nat}(t:2≤N)(o:N<2 ^ 300):∀l:List (Nat×Nat),(∀p,p∈l→Prm p.1)→pkB N l=true→Rz l=true→∀r,Prm r→r∣N→Yh l∣r-1
 |[],_,_,_,r,_,_=>Nat.one_dvd _
 |p::l,hp,h,hdi,r,hr,hd=>by
  rw[pkB,kN,kN]at h;simp only[Bool.and_eq_true]at h;obtain⟨⟨⟨g,d⟩,f,c⟩,v⟩:=h;have g:=Nat.eq_of_beq_eq_true g;have d:=Nat.eq_of_beq_eq_true d;have c:=Nat.eq_of_beq_eq_true c;have i:1%N=1:=Nat.mod_eq_of_lt aq;rw[ti N 300 _ _ _ aq i,Nat.one_mul]at d;have k:(N-1)/p.1≤N-1:=Nat.div_le_self _ _;rw[ti N 300 _ _ _ aq i,Nat.one_mul]at f c;have b:(!((Yh l%p.1).beq 0)&&Rz l)=true:=hdi;rw[Bool.and_eq_true]at b;have e:N-1=p.1*((N-1)/p.1):=aq;have s:=aat (N:=N) (q:=p.1) (R:=(N-1)/p.1) (a:=p.2) (hp p aw) g.symm (by rw[←e];exact d) c (fun q=>by rw[q]at f;cases f) hr hd;refine ac2 (hp p aw) s (Uj t o l (fun x j=>hp x (by simp[j])) v b.2 r hr hd) fun m=>?_;have u:Yh l%p.1=0:=Nat.mod_eq_zero_of_dvd m;rw[u]at b
  cases b.1
theorem om{N:Nat}(l:List (Nat×Nat))(a:2≤N)(d:N<2 ^ 300)(hp:∀p,p∈l→Prm p.1)(h:pkB N l=true)(c:Rz l=true)(b:N<Yh l*Yh l):Prm N :=
 aau a b (Uj a d l hp h c)
end Go.Ec
namespace Go.Ec
theorem ac3:Prm 107590001:=mW 10377 aq (by kernel_rfl)
theorem ac4:Prm 7240687:=mW 2695 aq (by kernel_rfl)
theorem ac5:Prm 96557:=mW 315 aq (by kernel_rfl)
theorem ac6:Prm 255515944373312847190720520512484175977:=om ((107590001,2)::(7240687,2)::(96557,2)::[]) aq aq (fun p a=>by
 simp only[d_,List.not_mem_nil,or_false]at a;rcases a with rfl|rfl|rfl;exact ac3;exact ac4;exact ac5
 ) (by kernel_rfl) (by kernel_rfl) (Nat.le_of_ble_eq_true (by kernel_rfl))
theorem ac7:Prm 205115282021455665897114700593932402728804164701536103180137503955397371:=om ((255515944373312847190720520512484175977,2)::[]) aq aq (fun p a=>by
 simp only[d_,List.not_mem_nil,or_false]at a
 subst a;exact ac6) (by kernel_rfl) (by kernel_rfl) (Nat.le_of_ble_eq_true (by kernel_rfl))
theorem ac8:Prm 115792089237316195423570985008687907853269984665640564039457584007908834671663:=om ((205115282021455665897114700593932402728804164701536103180137503955397371,2)::[]) aq aq (fun p a=>by
 simp only[d_,List.not_mem_nil,or_false]at a
 subst a;exact ac7) (by kernel_rfl) (by kernel_rfl) (Nat.le_of_ble_eq_true (by kernel_rfl))
theorem ac9:Prm 1627771:=mW 1280 aq (by kernel_rfl)
theorem ada:Prm 297159362677:=om ((1627771,2)::[]) aq aq (fun p a=>by
 simp only[d_,List.not_mem_nil,or_false]at a
 subst a;exact ac9) (by kernel_rfl) (by kernel_rfl) (Nat.le_of_ble_eq_true (by kernel_rfl))
theorem adb:Prm 545358713:=mW 23357 aq (by kernel_rfl)
theorem adc:Prm 29047611873442575647497758179:=om ((545358713,2)::(297159362677,2)::[]) aq aq (fun p a=>by
 simp only[d_,List.not_mem_nil,or_false]at a;rcases a with rfl|rfl;exact adb;exact ada
 ) (by kernel_rfl) (by kernel_rfl) (Nat.le_of_ble_eq_true (by kernel_rfl))
theorem aav:Prm 341948486974166000522343609283189:=om ((29047611873442575647497758179,2)::[]) aq aq (fun p a=>by
 simp only[d_,List.not_mem_nil,or_false]at a
 subst a;exact adc) (by kernel_rfl) (by kernel_rfl) (Nat.le_of_ble_eq_true (by kernel_rfl))
theorem aaw:Prm 44706919:=mW 6691 aq (by kernel_rfl)
theorem aax:Prm 120233:=mW 351 aq (by kernel_rfl)
theorem aay:Prm 174723607534414371449:=om ((44706919,2)::(120233,2)::[]) aq aq (fun p a=>by
 simp only[d_,List.not_mem_nil,or_false]at a;rcases a with rfl|rfl;exact aaw;exact aax
 ) (by kernel_rfl) (by kernel_rfl) (Nat.le_of_ble_eq_true (by kernel_rfl))
theorem aaz:Prm 115792089237316195423570985008687907852837564279074904382605163141518161494337:=om ((341948486974166000522343609283189,2)::(174723607534414371449,2)::[]) aq aq (fun p a=>by
 simp only[d_,List.not_mem_nil,or_false]at a;rcases a with rfl|rfl;exact aav;exact aay
 ) (by kernel_rfl) (by kernel_rfl) (Nat.le_of_ble_eq_true (by kernel_rfl))
theorem RA:Prm 115792089237316195423570985008687907853269984665640564039457584007908834671663:=ac8
theorem RB:Prm 115792089237316195423570985008687907852837564279074904382605163141518161494337:=aaz
end Go.Ec
namespace Go.Ec
section
theorem um{n:Nat}(a b:Fin n):(a*b).val=a.val*b.val%n:=Fin.val_mul a b
theorem Js{n:Nat}(a b:Fin n):(a+b).val=(a.val+b.val)%n:=Fin.val_add a b
variable {n:Nat} [hz:NeZero n]
theorem ade(k:Nat):((Fin.ofNat n k).val)=k%n:=rfl
def adf(hp:Prm n)(h8:8≤n)(h3:3*((n-1)/3)=n-1)(hc:(n-7) ^ ((n-1)/3)%n≠1):Fd n where
 inv a:=⟨a.val ^ (n-2)%n,Nat.mod_lt _ aq⟩
 hinv:=fun a ha=>by
  have hv:a.val≠0:=fun h=>ha (Fin.ext (by rw[h];rfl));have hd:¬n∣a.val:=fun h=>by have:=Nat.le_of_dvd aq h;have:=a.isLt;omega
  have hf:=A0 hp hd;refine Fin.ext ?_;rw[um];show a.val*(a.val ^ (n-2)%n)%n=1%n;rw[Nat.mul_mod,Nat.mod_mod,←Nat.mul_mod,Nat.mul_comm,←Nat.pow_succ,show(n-2).succ=n-1 by omega,hf,Nat.mod_eq_of_lt aq]
 inv0:=by
  refine Fin.ext ?_;show(0%n) ^ (n-2)%n=0%n;rw[Nat.zero_mod,Nat.zero_pow aq,Nat.zero_mod]
 one:=fun h=>by
  have:=congrArg Fin.val h;have h':1%n=0%n:=this;rw[Nat.mod_eq_of_lt aq,Nat.zero_mod]at h';omega
 two:=fun h=>by
  have:=congrArg Fin.val h;have h':2%n=0%n:=this;rw[Nat.mod_eq_of_lt aq,Nat.zero_mod]at h';omega
 cub:=fun x h=>by
  have hv:=congrArg Fin.val h;rw[Js,um,um]at hv;have hv':(x.val*x.val%n*x.val%n+7%n)%n=0%n:=hv;rw[Nat.zero_mod,←Nat.add_mod,Nat.add_mod,Nat.mod_mul_mod,←Nat.add_mod]at hv';have hd:n∣x.val*x.val*x.val+7:=Nat.dvd_of_mod_eq_zero hv'
  have hx:¬n∣x.val:=fun q=>by
   have hq:n∣x.val*x.val*x.val:=Nat.dvd_trans q ⟨x.val*x.val,by rw[Nat.mul_assoc]⟩;have:=(Nat.dvd_add_right hq).1 hd;have:=Nat.le_of_dvd aq this;omega
  have e:x.val*x.val*x.val%n=n-7:=by
   obtain⟨t,ht⟩:=hd;have ht0:t≠0:=fun q=>by subst q;omega
   obtain⟨s,rfl⟩:∃s,t=s+1:=⟨t-1,aq⟩;have:x.val*x.val*x.val=(n-7)+n*s:=by rw[Nat.mul_add]at ht;omega
   rw[this,Nat.add_mul_mod_self_left,Nat.mod_eq_of_lt aq]
  apply hc;have p3:x.val*x.val*x.val=x.val ^ 3:=by rw[Nat.pow_succ,Nat.pow_succ,Nat.pow_one]
  rw[←e,p3,←Nat.pow_mod,←Nat.pow_mul,h3];exact A0 hp hx
end
def pP:Nat:=115792089237316195423570985008687907853269984665640564039457584007908834671663
theorem mX:pP=115792089237316195423570985008687907853269984665640564039457584007908834671663:=rfl
theorem A3:Prm pP:=RA
theorem WQ:(pP-7) ^ ((pP-1)/3)%pP≠1:=by
 have h:=ti pP 300 (pP-7) ((pP-1)/3) 1 (by rw[mX];omega) (Nat.mod_eq_of_lt (Nat.le_of_ble_eq_true (by kernel_rfl)));rw[Nat.one_mul]at h;rw[←h];exact Nat.ne_of_beq_eq_false (by kernel_rfl)
theorem WR:8≤pP:=Nat.le_of_ble_eq_true (by kernel_rfl)
instance pP_nz:NeZero pP:=⟨fun h=>by have:=WR;omega⟩
theorem adg:3*((pP-1)/3)=pP-1:=Nat.eq_of_beq_eq_true (by kernel_rfl)
attribute [irreducible] pP
abbrev F:=Fin pP
noncomputable def fd:Fd pP:=adf A3 WR adg WQ
end Go.Ec
namespace Go.Proofs.YtmfnimjnneflnaaGreat
open Go.Am Go.Sha Go.Ec
abbrev pZ:Int:=115792089237316195423570985008687907853269984665640564039457584007908834671663
theorem ef:(pP:Int)=pZ:=by rw[mX];rfl
def FV(l:List Int):F:=Ey pP (V l)
theorem dT(l:List Int):(((FV l).val:Nat):Int)=V l%pZ:=by unfold FV;rw[np,ef]
theorem nq{a b:F}(h:((a.val:Nat):Int)=((b.val:Nat):Int)):a=b:=mU h
theorem NJ{a b:List Int}(d:Wn 4 a)(c:Wn 4 b)(f:V a<pZ)(g:V b<pZ)(h:FV a=FV b):a=b:=by
 have e:=congrArg (fun x:F=>((x.val:Nat):Int)) h;simp only[dT]at e;have:=(eC d).1;have:=(eC c).1;rw[Int.emod_eq_of_lt aq f,Int.emod_eq_of_lt aq g]at e;exact Dv d c e
theorem WS{r a b:List Int}(h:V r=(V a*V b)%pZ):V r<pZ∧FV r=FV a*FV b:=by
 refine⟨by rw[h];exact Int.emod_lt_of_pos _ (by decide),nq ?_⟩;rw[dT,um,Int.natCast_emod,Int.natCast_mul,dT,dT,ef,h,Int.emod_emod,←Int.mul_emod]
theorem WT{r a b:List Int}(h:V r=(V a+V b)%pZ):V r<pZ∧FV r=FV a+FV b:=by
 refine⟨by rw[h];exact Int.emod_lt_of_pos _ (by decide),nq ?_⟩;rw[dT,Js,Int.natCast_emod,Int.natCast_add,dT,dT,ef,h,Int.emod_emod,←Int.add_emod]
theorem Jt{a b c:F}(h:c+b=a):c=a-b:=by grobner
theorem WU{r a b:List Int}(h:V r=(V a-V b)%pZ):V r<pZ∧FV r=FV a-FV b:=by
 refine⟨by rw[h];exact Int.emod_lt_of_pos _ (by decide),Jt (nq ?_)⟩;rw[Js,Int.natCast_emod,Int.natCast_add,dT,dT,dT,ef,h,Int.emod_emod,←Int.add_emod];congr 1;omega
theorem A4:FV zI=0:=by
 refine nq ?_;rw[dT];have:V zI=0:=by simp[V,zI]
 rw[this];rfl
theorem mY{a:List Int}(d:Wn 4 a)(h:V a<pZ):FV a=0↔a=zI:=by
 have e:V zI=0:=by simp[V,zI]
 have b:V zI<pZ:=by rw[e];decide
 exact⟨fun c=>NJ d iu h b (by rw[c,A4]),fun c=>by rw[c,A4]⟩
theorem F6(k:Nat)(a:(k:Int)<18446744073709551616):FV [(k:Int),0,0,0]=Fin.ofNat pP k:=by
 have:V [(k:Int),0,0,0]=(k:Int):=by simp[V]
 unfold FV;rw[this];exact ja k
theorem WV{r a:List Int}{k:Nat}(b:k=pP-2)(h:V r=V a ^ k%pZ):V r<pZ∧FV r=fd.inv (FV a):=by
 refine⟨by rw[h];exact Int.emod_lt_of_pos _ (by decide),nq ?_⟩;have e:fd.inv (FV a)=⟨(FV a).val ^ (pP-2)%pP,Nat.mod_lt _ (by have:=WR;omega)⟩:=rfl;rw[e,←b];show _=((((FV a).val ^ k%pP:Nat)):Int);rw[dT,h,Int.emod_emod,Int.natCast_emod,Int.natCast_pow,dT,ef];have pm:∀(x m:Int)(k:Nat),x ^ k%m=(x%m) ^ k%m:=by
  intro x m k
  induction k with
  |zero=>rw[Int.pow_zero,Int.pow_zero]
  |succ k ih=>rw[Int.pow_succ,Int.pow_succ,Int.mul_emod,ih,Int.mul_emod ((x%m) ^ k),Int.emod_emod]
 exact pm _ _ _
theorem gV(a b:List Int)(f:Wn 4 a)(c:Wn 4 b):∃r,Wn 4 r∧(V r<pZ∧FV r=FV a*FV b)∧W2 209 a b r:=by
 obtain⟨r,d,g,e⟩:=AN a b f c;exact⟨r,d,WS g,e⟩
theorem aaA(a b:List Int)(f:Wn 4 a)(c:Wn 4 b):∃r,Wn 4 r∧(V r<pZ∧FV r=FV a+FV b)∧W2 219 a b r:=by
 obtain⟨r,d,g,e⟩:=Rf a b f c;exact⟨r,d,WT g,e⟩
theorem rX(a b:List Int)(f:Wn 4 a)(c:Wn 4 b):∃r,Wn 4 r∧(V r<pZ∧FV r=FV a-FV b)∧W2 210 a b r:=by
 obtain⟨r,d,g,e⟩:=HH a b f c;exact⟨r,d,WU g,e⟩
theorem aaB(a:List Int)(d:Wn 4 a):∃r,Wn 4 r∧(V r<pZ∧FV r=fd.inv (FV a))∧W1 213 a r:=by
 obtain⟨r,b,e,c⟩:=Ro a d;exact⟨r,b,WV (by rw[mX]) e,c⟩
def PV(x y:List Int)(b:Bool):Pt pP:=if b then none else some (FV x,FV y)
def jq(x y:List Int)(b:Bool):Prop:=(b=true∧x=zI∧y=zI)∨(b=false∧V x<pZ∧V y<pZ∧FV y*FV y=FV x*FV x*FV x+7)
theorem lA{x y:List Int}{b:Bool}(h:jq x y b):gz (PV x y b):=by
 rcases h with ⟨rfl,_,_⟩|⟨rfl,_,_,h⟩;trivial;exact h
theorem tj:jq zI zI true:=.inl ⟨rfl,rfl,rfl⟩
theorem Ju:PV zI zI true=none:=rfl
noncomputable def JV(x y z:List Int):Pt pP:=rV fd (FV x) (FV y) (FV z)
def tm(x y z:List Int):Prop:=(V x<pZ∧V y<pZ∧V z<pZ)∧gz (JV x y z)
end Go.Proofs.YtmfnimjnneflnaaGreat
