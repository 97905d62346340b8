/-
 Part 10.
-/
import Derived.Test.YtmfnimjnneflnaaGreatN8
import Derived.KernelRfl
set_option linter.unusedVariables false
set_option linter.unusedSimpArgs false
set_option maxRecDepth 100000
set_option maxHeartbeats 16000000
open Go.Proofs.Tryz
namespace Go.Proofs.YtmfnimjnneflnaaGreat
section
def W1(f:FuncId)(a b:List Int):Prop:=ar prog f [.agg (cI a)] (fun r=>r=.agg (cI b))
def W2(f:FuncId)(a b c:List Int):Prop:=ar prog f [.agg (cI a),.agg (cI b)] (fun r=>r=.agg (cI c))
theorem eJ{Q:AV→Prop}{st:St}{a:List Int}(hq:Q (.agg (cI a))):dG Q (.agg (cI a)) st:=aa (gf _) hq
theorem gh(x:Int):fm prog 134 [.d (.int .u64 x)] (.agg (cI [x,0,0,0])):=by
 refine bL func134 ntmps134 (rs:=[.cell 2 96]) a9 ?_;simp[go_sem,cI,ah];exact eJ (a:=[x,0,0,0]) rfl
theorem li{x:Int}(h:ec x):Wn 4 [x,0,0,0]:=⟨rfl,by intro y a;simp at a;rcases a with rfl|rfl|rfl|rfl<;>first|exact h|exact yo⟩
def CC:List Int:=[18446744069414583343,18446744073709551615,18446744073709551615,18446744073709551615]
theorem E7:Wn 4 CC:=⟨rfl,by intro y a;simp[CC]at a;rcases a with rfl|rfl<;>exact⟨aq,aq⟩⟩
theorem lv:fm prog 214 [] (.agg (cI CC)):=by
 refine bL func214 ntmps214 (rs:=[.cell 0 96]) a9 ?_;simp[go_sem,cI,ah];exact eJ (a:=CC) rfl
theorem ji(a:List Int)(h:Wn 4 a):∃r,Wn 4 r∧V r=V a%115792089237316195423570985008687907853269984665640564039457584007908834671663∧W1 217 a r:=by
 obtain⟨d,c,j,hc,t,o⟩:=ta a CC h E7;have y:=lZ h;have z:=lZ j;have v:V CC=115792089237316195423570985008687907853269984665640564039457584007908834671663:=by simp[V,CC]
 rw[v]at t;have x:=hc.1;have w:=hc.2;have b:=h.1;have f:=j.1;by_cases i:c=0
 ·refine⟨d,j,by subst i;omega,?_⟩;unfold W1;refine bL func217 ntmps217 (rs:=[.cell 2 96]) (aV a) ?_;simp[go_sem,b];refine dI [0] [1,2,6,7] [0,3,4,5,8] (.alt (bt 1 (.alt (.step 2 [3,4,5] true (bt 6 (.step 7 [8] true .done))) (bt 6 (.step 2 [3,4,5] true (.step 7 [8] true .done))))) (bt 6 (bt 1 (.step 2 [3,4,5] true (.step 7 [8] true .done))))) ⟨[(1,.ptr 0 0 0 1),(2,.ptr 32 0 0 1),(3,.ptr 256 0 0 1),(4,.d (.int .u64 c))],[(256,⟨96,4,[cI d]⟩),(32,⟨96,4,[cI ed]⟩),(0,⟨96,4,[cI a]⟩)],9000⟩ (k:=9) ?h3 ?hq
  case h3 =>
   intro G m;have g:∀e:Fr,(fv 1 e=.ptr 0 0 0 1∧fv 2 e=.ptr 32 0 0 1∧fv 3 e=.ptr 256 0 0 1∧fv 4 e=.d (.int .u64 c))→G e [(256,⟨96,4,[cI d]⟩),(32,⟨96,4,[cI ed]⟩),(0,⟨96,4,[cI a]⟩)]:=by
    rintro e⟨q,u,p,s⟩;exact m _ _ qK
   simp[go_sem,b,ae b,dM]
   repeat' first|exact g _ ⟨rfl,rfl,rfl,rfl⟩|(refine g _ ?_;simp[fv,lk];done)|refine ag lv aw ?_|refine ag o (aP _ _) ?_|apply And.intro|simp[go_sem,f,dM]
  case hq =>
   simp[go_sem,i,f,ae f,bg (l:=ed) (n:=4) rfl,ah];exact eJ rfl
 ·refine⟨a,h,aq,?_⟩;unfold W1;refine bL func217 ntmps217 (rs:=[.cell 2 96]) (aV a) ?_;simp[go_sem,b];refine dI [0] [1,2,6,7] [0,3,4,5,8] (.alt (bt 1 (.alt (.step 2 [3,4,5] true (bt 6 (.step 7 [8] true .done))) (bt 6 (.step 2 [3,4,5] true (.step 7 [8] true .done))))) (bt 6 (bt 1 (.step 2 [3,4,5] true (.step 7 [8] true .done))))) ⟨[(1,.ptr 0 0 0 1),(2,.ptr 32 0 0 1),(3,.ptr 256 0 0 1),(4,.d (.int .u64 c))],[(256,⟨96,4,[cI d]⟩),(32,⟨96,4,[cI ed]⟩),(0,⟨96,4,[cI a]⟩)],9000⟩ (k:=9) ?h3 ?hq
  case h3 =>
   intro G m;have g:∀e:Fr,(fv 1 e=.ptr 0 0 0 1∧fv 2 e=.ptr 32 0 0 1∧fv 3 e=.ptr 256 0 0 1∧fv 4 e=.d (.int .u64 c))→G e [(256,⟨96,4,[cI d]⟩),(32,⟨96,4,[cI ed]⟩),(0,⟨96,4,[cI a]⟩)]:=by
    rintro e⟨q,u,p,s⟩;exact m _ _ qK
   simp[go_sem,b,ae b,dM]
   repeat' first|exact g _ ⟨rfl,rfl,rfl,rfl⟩|(refine g _ ?_;simp[fv,lk];done)|refine ag lv aw ?_|refine ag o (aP _ _) ?_|apply And.intro|simp[go_sem,f,dM]
  case hq =>
   simp[go_sem,i,b,ae b,bg (l:=ed) (n:=4) rfl,ah];exact eJ rfl
theorem aew:ec 4294968273:=⟨aq,aq⟩
theorem wL(a:List Int)(c:Int):∀v,v∈[AV.agg (cI a),AV.d (.int .u64 c)]→v.deep:=by
 intro v b;simp at b;rcases b with rfl|rfl;exact gf _;trivial
theorem E8(a:List Int)(c:Int)(m:Wn 4 a)(hc:C1 c)(E:c=1→V a+4294968273<115792089237316195423570985008687907853269984665640564039457584007913129639936):∃r,Wn 4 r∧V r=(V a+115792089237316195423570985008687907853269984665640564039457584007913129639936*c)%115792089237316195423570985008687907853269984665640564039457584007908834671663∧fm prog 239 [.agg (cI a),.d (.int .u64 c)] (.agg (cI r)):=by
 obtain⟨K,h,C,q⟩:=ji a m;obtain⟨s,d,p,t,y,D⟩:=qp a [4294968273,0,0,0] m (li aew);obtain⟨N,i,A,u⟩:=ji s p;have z:V [4294968273,0,0,0]=4294968273:=by simp[V]
 rw[z]at y;have P:=lZ m;have B:=lZ p;have F:=t.1;have L:=t.2;have M:=hc.1;have J:=hc.2;unfold W1 at q u;have b:=m.1;have e:=p.1;have g:=h.1;have f:=i.1;by_cases o:c=0
 ·refine⟨K,h,by subst o;rw[C];omega,?_⟩;refine bL func239 ntmps239 (rs:=[.cell 4 96]) (wL a c) ?_;simp[go_sem,b,ae b,o];refine ag q (aV _) ?_;simp[go_sem,g,ae g,ah];exact eJ rfl
 ·have w:c=1:=aq;have H:=E w;refine⟨N,i,by subst w;rw[A];omega,?_⟩;refine bL func239 ntmps239 (rs:=[.cell 4 96]) (wL a c) ?_;simp[go_sem,b,o];refine dI [0] [1,2,6,7] [0,3,4,5,8] (.alt (bt 1 (.alt (.step 2 [3,4,5] true (bt 6 (.step 7 [8] true .done))) (bt 6 (.step 2 [3,4,5] true (.step 7 [8] true .done))))) (bt 6 (bt 1 (.step 2 [3,4,5] true (.step 7 [8] true .done))))) ⟨[(2,.ptr 0 0 0 1),(4,.ptr 32 0 0 1),(5,.ptr 320 0 0 1)],[(320,⟨96,4,[cI s]⟩),(32,⟨96,4,[cI ed]⟩),(0,⟨96,4,[cI a]⟩)],9000⟩ (k:=9) ?h3 ?hq
  case h3 =>
   intro G I;have v:∀j:Fr,(fv 2 j=.ptr 0 0 0 1∧fv 4 j=.ptr 32 0 0 1∧fv 5 j=.ptr 320 0 0 1)→G j [(320,⟨96,4,[cI s]⟩),(32,⟨96,4,[cI ed]⟩),(0,⟨96,4,[cI a]⟩)]:=by
    rintro j⟨Q,S,O⟩;exact I _ _ qK
   simp[go_sem,b,ae b,dM]
   repeat' first|exact v _ ⟨rfl,rfl,rfl⟩|(refine v _ ?_;simp[fv,lk];done)|refine ag (gh 4294968273) a9 ?_|refine ag D (aP _ _) ?_|apply And.intro|simp[go_sem,e,dM]
  case hq =>
   simp[go_sem,e,ae e];refine ag u (aV _) ?_;simp[go_sem,f,ae f,bg (l:=ed) (n:=4) rfl,ah];exact eJ rfl
theorem UC(a b:List Int)(q:Wn 4 a)(v:Wn 4 b):∃r,Wn 4 r∧V r=(V a+V b)%115792089237316195423570985008687907853269984665640564039457584007908834671663∧W2 219 a b r:=by
 obtain⟨F,g,m,p⟩:=ji a q;obtain⟨y,l,j,u⟩:=ji b v;obtain⟨s,c,i,hc,x,z⟩:=qp F y g l;have D:=lZ i;have H:=hc.1;have C:=hc.2;obtain⟨r,t,E,w⟩:=E8 s c i hc (fun h=>by subst h;omega);have o:V r=(V a+V b)%115792089237316195423570985008687907853269984665640564039457584007908834671663:=by rw[E,x,m,j];omega
 unfold W1 at p u;have d:=q.1;have e:=v.1;have A:=i.1;have f:=t.1;refine⟨r,t,o,?_⟩;unfold W2;refine bL func219 ntmps219 (rs:=[.cell 4 96]) (aP a b) ?_;simp[go_sem,d,e];refine cK [0,2] [(1,[]),(3,[]),(4,[5,6]),(7,[]),(8,[])] 3 (k:=9) ?_;intro G B;simp[go_sem,d,e,ae d,ae e];refine ag p (aV _) ?_;simp[go_sem];refine ag u (aV _) ?_;simp[go_sem];refine ag z (aP _ _) ?_;simp[go_sem];refine ag w (wL _ _) ?_;simp[go_sem,f,dM];refine B _ _ ?_;simp[go_sem,f,ae f,ah];exact eJ rfl
theorem UD{Q:AV→Prop}{st:St}{a b:List Int}(hq:Q (.tup [.agg (cI a),.agg (cI b)])):dG Q (.tup [.agg (cI a),.agg (cI b)]) st :=
 aa (by
  intro c hc;simp at hc;rcases hc with rfl|rfl;exact .inr ⟨_,rfl,km _⟩
  exact .inr ⟨_,rfl,km _⟩) hq
theorem abK(l:List Int)(n:Nat):(cI l).take n=cI (l.take n):=by simp[cI,List.map_take]
theorem abL(l:List Int)(n:Nat):(cI l).drop n=cI (l.drop n):=by simp[cI,List.map_drop]
theorem UE{l:List Int}(h:Wn 8 l):Wn 4 (l.take 4):=⟨by rw[List.length_take,h.1];rfl,fun x a=>h.2 x (List.mem_of_mem_take a)⟩
theorem UF{l:List Int}(h:Wn 8 l):Wn 4 (l.drop 4):=⟨by rw[e_,h.1],fun x a=>h.2 x (List.mem_of_mem_drop a)⟩
theorem V8{p:List Int}(h:Wn 8 p):V (p.take 4)+115792089237316195423570985008687907853269984665640564039457584007913129639936*V (p.drop 4)=V p:=by
 obtain⟨j,_⟩:=h
 match p,j with
 |[a,b,c,d,e,f,g,i],_ =>
  simp only[List.take_succ_cons,List.take_zero,List.drop_succ_cons,List.drop_zero,V];omega
theorem UG(a b:List Int)(s:Wn 4 a)(u:Wn 4 b):∃(f hi:List Int),Wn 4 f∧Wn 4 hi∧V f+115792089237316195423570985008687907853269984665640564039457584007913129639936*V hi=V a*V b∧fm prog 133 [.agg (cI a),.agg (cI b)] (.tup [.agg (cI f),.agg (cI hi)]):=by
 obtain⟨p,m,x,v⟩:=Hv a b s u;have h:=s.1;have j:=u.1;have e:=m.1;have i:=UE m;have g:=UF m;refine⟨p.take 4,p.drop 4,i,g,by rw[←x];exact V8 m,?_⟩;refine bL func133 ntmps133 (rs:=[.cell 4 96,.cell 5 96]) (aP a b) ?_;simp[go_sem,h,j,ae h,ae j];refine ag v (aP _ _) ?_;simp[go_sem,e];have o:=abK p 4;have q:=abL p 4;have d:=i.1;have c:=g.1;have t:(cI (p.drop 4)).take 4=cI (p.drop 4):=ae c;generalize p.take 4=f at *;generalize p.drop 4=hi at *;have w:List.drop 4 (cI ed)=[]:=bg rfl;refine dI [0,1,2] [3,4,5,6,7] [0,1,2] (.alt (bt 3 (.alt (bt 4 (.alt (bt 5 (a_ [6,7])) (a_ [6,5,7]))) (a_ [6,4,5,7]))) (a_ [6,3,4,5,7])) ⟨[(4,.ptr 64 0 0 1),(5,.ptr 96 0 0 1)],[(96,⟨96,4,[cI hi]⟩),(64,⟨96,4,[cI f]⟩)],9000⟩ (k:=8) ?h3 ?hq
 case h3 =>
  intro G z;have y:∀l:Fr,(fv 4 l=.ptr 64 0 0 1∧fv 5 l=.ptr 96 0 0 1)→G l [(224,⟨226,8,[cI p]⟩),(96,⟨96,4,[cI hi]⟩),(64,⟨96,4,[cI f]⟩),(32,⟨96,4,[cI b]⟩),(0,⟨96,4,[cI a]⟩)]:=by
   rintro l⟨o,q⟩;exact z _ _ qK
  simp[go_sem,e,o,q,t,d,c,dM]
  repeat' first|exact y _ ⟨rfl,rfl⟩|apply And.intro|simp[go_sem,e,o,q,t,d,c,w,dM]
 case hq =>
  simp[go_sem,d,c,ae d,ae c,ah];exact UD rfl
theorem CE(a b:List Int)(A:Wn 4 a)(E:Wn 4 b):∃r,Wn 4 r∧V r=(V a*V b)%115792089237316195423570985008687907853269984665640564039457584007908834671663∧W2 209 a b r:=by
 obtain⟨G,v,i,g,N,I⟩:=UG a b A E;obtain⟨M,d,j,f,vf,O⟩:=AD v g;obtain⟨s,c,u,hc,X,P⟩:=qp G M i j;obtain⟨Q,c2,m,x,t,J⟩:=AD [IntKind.u64.wrap (d+c),0,0,0] (li (Uy _));obtain⟨z,c3,k,l,U,S⟩:=qp s Q u m;have b1:=lZ i;have b2:=lZ g;have b3:=lZ j;have b4:=lZ u;have b5:=lZ m;have b6:=lZ k;have q1:=f.1;have q2:=f.2;have q3:=hc.1;have Y:=hc.2;have Z:=l.1;have q6:=l.2;have q7:=x.1;have K:V [IntKind.u64.wrap (d+c),0,0,0]=d+c:=by
  rw[V4,Cm];omega
 rw[K]at t;have L:c3=1→V z+4294968273<115792089237316195423570985008687907853269984665640564039457584007913129639936:=fun h=>by subst h;omega
 obtain⟨r,B,T,W⟩:=E8 z c3 k l L;have y:V r=(V a*V b)%115792089237316195423570985008687907853269984665640564039457584007908834671663:=by
  have z2:c2=0:=by
   have h1:d+c≤18446744073709551616:=aq;have h2:115792089237316195423570985008687907853269984665640564039457584007913129639936*c2≤(d+c)*4294968273:=aq;omega
  subst z2;have e:V G+115792089237316195423570985008687907853269984665640564039457584007913129639936*V v=(V z+115792089237316195423570985008687907853269984665640564039457584007913129639936*c3)+115792089237316195423570985008687907853269984665640564039457584007908834671663*(V v+(d+c)):=aq;rw[T,←N,e,Int.add_mul_emod_self_left]
 have o:=A.1;have p:=E.1;have w:=i.1;have F:=g.1;have C:=j.1;have q:=u.1;have D:=m.1;have l6:=k.1;have H:=B.1;have hz:List.drop 4 (cI ed)=[]:=bg rfl;refine⟨r,B,y,?_⟩;unfold W2;refine bL func209 ntmps209 (rs:=[.cell 4 96]) (aP a b) ?_;simp[go_sem,o,p,ae o,ae p];refine ag I (aP _ _) ?_;simp[go_sem,w,F,ae F];refine ag O (aV _) ?_;simp[go_sem,w,C,ae w,ae C];refine ag P (aP _ _) ?_;simp[go_sem,q];refine ag (gh _) a9 ?_;simp[go_sem];refine ag J (aV _) ?_;simp[go_sem,q,D,ae q,ae D];refine ag S (aP _ _) ?_;simp[go_sem];refine ag W (wL _ _) ?_;simp[go_sem,H,ae H,ah];exact eJ rfl
theorem mG{y n:Nat}(h:jo[y]?=some (n:Int)):y<2 ^ n:=by
 unfold jo at h;rw[cU]at h;by_cases a:y<256;rw[List.getElem?_range a,Option.map_some,Option.some.injEq]at h;by_cases b:y=0;subst b;exact Nat.two_pow_pos n;rw[if_neg b]at h;have:n=Nat.log2 y+1:=aq;rw[this];exact Nat.lt_log2_self;rw[List.getElem?_eq_none (by simpa using a)]at h;cases h
theorem up(k:Nat){X Y n:Nat}(h:X/2 ^ k=Y)(a:Y<2 ^ n):X<2 ^ (k+n):=by
 subst h;rw[Nat.pow_add,Nat.mul_comm];exact(Nat.div_lt_iff_lt_mul (Nat.two_pow_pos k)).1 a
theorem up2{X a b:Nat}(h:X<2 ^ a)(e:a=b):X<2 ^ b:=e▸h
theorem UH(X:Nat)(N:X<18446744073709551616):∃n:Nat,n≤64∧X<2 ^ n∧fm prog 212 [.d (.int .u64 (X:Int))] (.d (.int .i64 (n:Int))):=by
 have y:∀n:Nat,n≤100→IntKind.i64.wrap (n:Int)=(n:Int):=fun n h=>IntWalk.i64_in _ aq;have z:∀n:Int,0≤n→n≤100→IntKind.i64.wrap n=n:=fun n P f=>IntWalk.i64_in _ aq;have K:IntKind.i64.wrap 8=8∧IntKind.i64.wrap 16=16∧IntKind.i64.wrap 24=24∧IntKind.i64.wrap 32=32∧IntKind.i64.wrap 40=40∧IntKind.i64.wrap 48=48∧IntKind.i64.wrap 56=56:=by
  and_intros<;>exact IntWalk.i64_in _ aq
 obtain⟨M,A,G,J,D,B,C⟩:=K;by_cases O:X<4294967296
 ·have k:¬(4294967296:Int)≤(X:Int):=aq;by_cases L:X<65536
  ·have g:¬(65536:Int)≤(X:Int):=aq;by_cases F:X<256
   ·have p:¬(256:Int)≤(X:Int):=aq;have q:IntKind.u8.wrap (X:Int)=(X:Int):=by rw[MF];omega
    have l:X<256:=aq;obtain⟨b,c⟩:∃b,jo[X]?=some b:=⟨_,cm (by simp[jo];omega)⟩;obtain⟨n,rfl,o⟩:=jg rfl c;have s:n≤8:=by split at o<;>omega
    refine⟨0+n,aq,by rw[Nat.zero_add];exact mG c,?_⟩;refine bL func212 ntmps212 (rs:=[.tmp 2]) a9 ?_;simp[go_sem,k,g,p,q]
    split;rename_i b2 a;have f:jo[X]?=some b2:=a;rw[c]at f;cases f;exact aa a9 (by simp only[y n aq]);rename_i a;exact jh rfl l a
   ·have p:(256:Int)≤(X:Int):=aq;have d8:Int.fdiv (X:Int) 256=((X/256:Nat):Int):=gC X 256;have H:X/256<256:=aq;generalize m:X/256=i at *;have q:IntKind.u8.wrap (i:Int)=(i:Int):=by rw[MF];omega
    have l:i<256:=aq;obtain⟨b,c⟩:∃b,jo[i]?=some b:=⟨_,cm (by simp[jo];omega)⟩;obtain⟨n,rfl,o⟩:=jg rfl c;have s:n≤8:=by split at o<;>omega
    refine⟨8+n,aq,up 8 m (mG c),?_⟩;refine bL func212 ntmps212 (rs:=[.tmp 2]) a9 ?_;simp[go_sem,k,g,p,d8,q,IntKind.bits,M]
    split;rename_i b2 a;have f:jo[i]?=some b2:=a;rw[c]at f;cases f;have t:IntKind.i64.wrap (8+(n:Int))=8+(n:Int):=z _ aq aq;exact aa a9 (by simp only[y n aq,t]);rename_i a;exact jh rfl l a
  ·have g:(65536:Int)≤(X:Int):=aq;have v:Int.fdiv (X:Int) 65536=((X/65536:Nat):Int):=gC X 65536;have E:X/65536<65536:=aq;generalize u:X/65536=e at *;by_cases F:e<256
   ·have p:¬(256:Int)≤(e:Int):=aq;have q:IntKind.u8.wrap (e:Int)=(e:Int):=by rw[MF];omega
    have l:e<256:=aq;obtain⟨b,c⟩:∃b,jo[e]?=some b:=⟨_,cm (by simp[jo];omega)⟩;obtain⟨n,rfl,o⟩:=jg rfl c;have s:n≤8:=by split at o<;>omega
    refine⟨16+n,aq,up 16 u (mG c),?_⟩;refine bL func212 ntmps212 (rs:=[.tmp 2]) a9 ?_;simp[go_sem,k,g,v,p,q,IntKind.bits,A]
    split;rename_i b2 a;have f:jo[e]?=some b2:=a;rw[c]at f;cases f;have t:IntKind.i64.wrap (16+(n:Int))=16+(n:Int):=z _ aq aq;exact aa a9 (by simp only[y n aq,t]);rename_i a;exact jh rfl l a
   ·have p:(256:Int)≤(e:Int):=aq;have d8:Int.fdiv (e:Int) 256=((e/256:Nat):Int):=gC e 256;have H:e/256<256:=aq;generalize m:e/256=i at *;have q:IntKind.u8.wrap (i:Int)=(i:Int):=by rw[MF];omega
    have l:i<256:=aq;obtain⟨b,c⟩:∃b,jo[i]?=some b:=⟨_,cm (by simp[jo];omega)⟩;obtain⟨n,rfl,o⟩:=jg rfl c;have s:n≤8:=by split at o<;>omega
    refine⟨24+n,aq,up2 (up 16 u (up 8 m (mG c))) aq,?_⟩;refine bL func212 ntmps212 (rs:=[.tmp 2]) a9 ?_;simp[go_sem,k,g,v,p,d8,q,IntKind.bits,A,G]
    split;rename_i b2 a;have f:jo[i]?=some b2:=a;rw[c]at f;cases f;have t:IntKind.i64.wrap (24+(n:Int))=24+(n:Int):=z _ aq aq;exact aa a9 (by simp only[y n aq,t]);rename_i a;exact jh rfl l a
 ·have k:(4294967296:Int)≤(X:Int):=aq;have x:Int.fdiv (X:Int) 4294967296=((X/4294967296:Nat):Int):=gC X 4294967296;have I:X/4294967296<4294967296:=aq;generalize w:X/4294967296=j at *;by_cases L:j<65536
  ·have g:¬(65536:Int)≤(j:Int):=aq;by_cases F:j<256
   ·have p:¬(256:Int)≤(j:Int):=aq;have q:IntKind.u8.wrap (j:Int)=(j:Int):=by rw[MF];omega
    have l:j<256:=aq;obtain⟨b,c⟩:∃b,jo[j]?=some b:=⟨_,cm (by simp[jo];omega)⟩;obtain⟨n,rfl,o⟩:=jg rfl c;have s:n≤8:=by split at o<;>omega
    refine⟨32+n,aq,up 32 w (mG c),?_⟩;refine bL func212 ntmps212 (rs:=[.tmp 2]) a9 ?_;simp[go_sem,k,x,g,p,q,IntKind.bits]
    split;rename_i b2 a;have f:jo[j]?=some b2:=a;rw[c]at f;cases f;have t:IntKind.i64.wrap (32+(n:Int))=32+(n:Int):=z _ aq aq;exact aa a9 (by simp only[y n aq,t]);rename_i a;exact jh rfl l a
   ·have p:(256:Int)≤(j:Int):=aq;have d8:Int.fdiv (j:Int) 256=((j/256:Nat):Int):=gC j 256;have H:j/256<256:=aq;generalize m:j/256=i at *;have q:IntKind.u8.wrap (i:Int)=(i:Int):=by rw[MF];omega
    have l:i<256:=aq;obtain⟨b,c⟩:∃b,jo[i]?=some b:=⟨_,cm (by simp[jo];omega)⟩;obtain⟨n,rfl,o⟩:=jg rfl c;have s:n≤8:=by split at o<;>omega
    refine⟨40+n,aq,up2 (up 32 w (up 8 m (mG c))) aq,?_⟩;refine bL func212 ntmps212 (rs:=[.tmp 2]) a9 ?_;simp[go_sem,k,x,g,p,d8,q,IntKind.bits,D]
    split;rename_i b2 a;have f:jo[i]?=some b2:=a;rw[c]at f;cases f;have t:IntKind.i64.wrap (40+(n:Int))=40+(n:Int):=z _ aq aq;exact aa a9 (by simp only[y n aq,t]);rename_i a;exact jh rfl l a
  ·have g:(65536:Int)≤(j:Int):=aq;have v:Int.fdiv (j:Int) 65536=((j/65536:Nat):Int):=gC j 65536;have E:j/65536<65536:=aq;generalize u:j/65536=e at *;by_cases F:e<256
   ·have p:¬(256:Int)≤(e:Int):=aq;have q:IntKind.u8.wrap (e:Int)=(e:Int):=by rw[MF];omega
    have l:e<256:=aq;obtain⟨b,c⟩:∃b,jo[e]?=some b:=⟨_,cm (by simp[jo];omega)⟩;obtain⟨n,rfl,o⟩:=jg rfl c;have s:n≤8:=by split at o<;>omega
    refine⟨48+n,aq,up2 (up 32 w (up 16 u (mG c))) aq,?_⟩;refine bL func212 ntmps212 (rs:=[.tmp 2]) a9 ?_;simp[go_sem,k,x,g,v,p,q,IntKind.bits,B]
    split;rename_i b2 a;have f:jo[e]?=some b2:=a;rw[c]at f;cases f;have t:IntKind.i64.wrap (48+(n:Int))=48+(n:Int):=z _ aq aq;exact aa a9 (by simp only[y n aq,t]);rename_i a;exact jh rfl l a
   ·have p:(256:Int)≤(e:Int):=aq;have d8:Int.fdiv (e:Int) 256=((e/256:Nat):Int):=gC e 256;have H:e/256<256:=aq;generalize m:e/256=i at *;have q:IntKind.u8.wrap (i:Int)=(i:Int):=by rw[MF];omega
    have l:i<256:=aq;obtain⟨b,c⟩:∃b,jo[i]?=some b:=⟨_,cm (by simp[jo];omega)⟩;obtain⟨n,rfl,o⟩:=jg rfl c;have s:n≤8:=by split at o<;>omega
    refine⟨56+n,aq,up2 (up 32 w (up 16 u (up 8 m (mG c)))) aq,?_⟩;refine bL func212 ntmps212 (rs:=[.tmp 2]) a9 ?_;simp[go_sem,k,x,g,v,p,d8,q,IntKind.bits,B,C]
    split;rename_i b2 a;have f:jo[i]?=some b2:=a;rw[c]at f;cases f;have t:IntKind.i64.wrap (56+(n:Int))=56+(n:Int):=z _ aq aq;exact aa a9 (by simp only[y n aq,t]);rename_i a;exact jh rfl l a
theorem UI(x:Int)(a:ec x):∃n:Nat,n≤64∧x<2 ^ n∧fm prog 212 [.d (.int .u64 x)] (.d (.int .i64 (n:Int))):=by
 obtain⟨X,rfl⟩:=Int.eq_ofNat_of_zero_le a.1;obtain⟨n,e,c,b⟩:=UH X (by have:=a.2;omega);exact⟨n,e,by exact_mod_cast c,b⟩
def CG(N:Int→Nat)(a:List Int):Nat→Nat
 |0=>0
 |k+1=>if gI a k=0 then CG N a k else 64*k+N (gI a k)
theorem Jt{N:Int→Nat}{a:List Int}(h:∀k,N (gI a k)≤64):∀k,CG N a k≤64*k
 |0=>cL _
 |k+1=>by
  have c:=Jt h k;have b:=h k;unfold CG;split<;>omega
theorem YH{N:Int→Nat}{a:List Int}(r:Wn 4 a)(h:∀k,gI a k<2 ^ N (gI a k)):V a<2 ^ CG N a 4:=by
 obtain⟨c,e,d,b,rfl,v,x,w,u⟩:=kG r;have s:=h 0;have t:=h 1;have k2:=h 2;have k3:=h 3;have l:gI [c,e,d,b] 0=c:=rfl;have o:gI [c,e,d,b] 1=e:=rfl;have i:gI [c,e,d,b] 2=d:=rfl;have j:gI [c,e,d,b] 3=b:=rfl;rw[l]at s;rw[o]at t;rw[i]at k2;rw[j]at k3;have p:∀n m:Nat,(2:Int) ^ (n+m)=2 ^ n*2 ^ m:=fun n m=>Int.pow_add 2 n m;simp only[CG,l,o,i,j,V4];unfold ec at *;by_cases z3:b=0;rw[if_pos z3];by_cases z2:d=0;rw[if_pos z2];by_cases f:e=0;rw[if_pos f];by_cases g:c=0;rw[if_pos g];subst g f z2 z3;decide;rw[if_neg g,p];subst f z2 z3;generalize(2:Int) ^ N c=q at *;simp;omega;rw[if_neg f,p];subst z2 z3;generalize(2:Int) ^ N e=q at *;simp;omega;rw[if_neg z2,p];subst z3;generalize(2:Int) ^ N d=q at *;simp;omega;rw[if_neg z3,p];generalize(2:Int) ^ N b=q at *;simp;omega
theorem CH(a:List Int)(c:Wn 4 a):∃n:Nat,n≤256∧V a<2 ^ n∧fm prog 182 [.agg (cI a)] (.d (.int .i64 (n:Int))):=by
 obtain⟨N,h⟩:=pick (α:=Int) (β:=Nat) (A:=fun x=>ec x) (B:=fun x n=>n≤64∧x<2 ^ n∧fm prog 212 [.d (.int .u64 x)] (.d (.int .i64 (n:Int)))) UI;have i:∀k,N (gI a k)≤64:=fun k=>(h _ (dK c)).1;have o:=Jt i;have m:=c.1;refine⟨CG N a 4,o 4,YH c (fun k=>(h _ (dK c)).2.1),?_⟩;refine bL func182 ntmps182 (rs:=[.tmp 2]) (aV a) ?_;generalize v:CG N a 4=T;simp[go_sem,m]
 refine av (fun k:Nat=>⟨[(1,.ptr 0 0 0 1),(3,.d (.int .i64 (TZ k)))],[(0,⟨96,4,[cI a]⟩)],500⟩)
  (fun k=>k≤4∧CG N a k=T) (fun k=>k) 4 ⟨aq,v⟩ (by
   simp[aA,ai,fv,lk,AV.low,AV.l,TZ]
   exact cH _ _) ?_
 rintro k⟨s,b⟩
 match k,s,b with
 |0,_,b =>
  simp[go_sem,We,ah];exact aa a9 (by rw[←b];rfl)
 | k+1,s,b =>
  have p:=dK (k:=k) c;have f:=kF (l:=a) (k:=k) aq;have e:(k:Int)<4:=aq;unfold CG at b;have t:=(h _ p).1;have hc:=(h _ p).2.2;by_cases g:gI a k=0
  ·rw[if_pos g]at b;have w:IntKind.i64.wrap ((k:Int)-1)=TZ k:=by
    cases k with
    |zero=>rw[IntWalk.i64_in _ aq];rfl
    |succ j=>rw[IntWalk.i64_in _ aq];simp[TZ]
   simp[go_sem,OP,f,e,g,w]
   first|refine ao k ⟨aq,b⟩ aq ?_
   simp[aA,ai,fv,lk,AV.low,AV.l];exact cH _ _
  ·rw[if_neg g]at b;have u:IntKind.i64.wrap (64*(k:Int))=64*(k:Int):=IntWalk.i64_in _ aq;generalize y:N (gI a k)=n at *;have q:IntKind.i64.wrap (64*(k:Int)+(n:Int))=64*(k:Int)+(n:Int):=IntWalk.i64_in _ aq;simp[go_sem,OP,f,e,g,u]
   first|refine ag hc a9 ?_
   simp[go_sem,q,ah];exact aa a9 (by rw[←b];first|rfl|simp[q])
theorem Ju(a b:List Int)(x:Wn 4 a)(B:Wn 4 b):∃r,Wn 4 r∧V r=(V a-V b)%115792089237316195423570985008687907853269984665640564039457584007908834671663∧W2 210 a b r:=by
 obtain⟨T,t,S,q⟩:=ji a x;obtain⟨M,v,Q,u⟩:=ji b B;obtain⟨d,c,p,hc,U,z⟩:=ta T M t v;obtain⟨w,c2,j,o,K,J⟩:=qp d CC p E7;have N:V CC=115792089237316195423570985008687907853269984665640564039457584007908834671663:=by simp[V,CC]
 rw[N]at K;have E:=lZ p;have H:=lZ j;have D:=hc.1;have L:=hc.2;have F:=o.1;have I:=o.2;unfold W1 at q u;have g:=x.1;have h:=B.1;have e:=p.1;have l:=j.1;have y:List.drop 4 (cI ed)=[]:=bg rfl;by_cases s:c=0
 ·refine⟨d,p,by subst s;omega,?_⟩;unfold W2;refine bL func210 ntmps210 (rs:=[.cell 4 96]) (aP a b) ?_;simp[go_sem,g,h];refine dI [0,2] [1,3,4,8,9] [0,2,5,6,7,10] (.alt (bt 1 (.alt (bt 3 (.alt (.step 4 [5,6,7] true (bt 8 (.step 9 [10] true .done))) (bt 8 (.step 4 [5,6,7] true (.step 9 [10] true .done))))) (bt 8 (bt 3 (.step 4 [5,6,7] true (.step 9 [10] true .done)))))) (bt 8 (bt 1 (bt 3 (.step 4 [5,6,7] true (.step 9 [10] true .done)))))) ⟨[(4,.ptr 64 0 0 1),(5,.ptr 352 0 0 1),(6,.d (.int .u64 c))],[(352,⟨96,4,[cI d]⟩),(64,⟨96,4,[cI ed]⟩)],9000⟩ (k:=11) ?h3 ?hq
  case h3 =>
   intro G m;have i:∀f:Fr,(fv 4 f=.ptr 64 0 0 1∧fv 5 f=.ptr 352 0 0 1∧fv 6 f=.d (.int .u64 c))→G f [(352,⟨96,4,[cI d]⟩),(64,⟨96,4,[cI ed]⟩),(32,⟨96,4,[cI b]⟩),(0,⟨96,4,[cI a]⟩)]:=by
    rintro f⟨C,A,O⟩;exact m _ _ qK
   simp[go_sem,g,h,ae g,ae h,dM]
   repeat' first|exact i _ ⟨rfl,rfl,rfl⟩|(refine i _ ?_;simp[fv,lk];done)|refine ag q (aV _) ?_|refine ag u (aV _) ?_|refine ag z (aP _ _) ?_|apply And.intro|simp[go_sem,e,dM]
  case hq =>
   simp[go_sem,s,e,ae e,y,ah];exact eJ rfl
 ·have P:c=1:=aq;refine⟨w,j,by subst P;omega,?_⟩;unfold W2;refine bL func210 ntmps210 (rs:=[.cell 4 96]) (aP a b) ?_;simp[go_sem,g,h];refine dI [0,2] [1,3,4,8,9] [0,2,5,6,7,10] (.alt (bt 1 (.alt (bt 3 (.alt (.step 4 [5,6,7] true (bt 8 (.step 9 [10] true .done))) (bt 8 (.step 4 [5,6,7] true (.step 9 [10] true .done))))) (bt 8 (bt 3 (.step 4 [5,6,7] true (.step 9 [10] true .done)))))) (bt 8 (bt 1 (bt 3 (.step 4 [5,6,7] true (.step 9 [10] true .done)))))) ⟨[(4,.ptr 64 0 0 1),(5,.ptr 352 0 0 1),(6,.d (.int .u64 c))],[(352,⟨96,4,[cI d]⟩),(64,⟨96,4,[cI ed]⟩)],9000⟩ (k:=11) ?h3 ?hq
  case h3 =>
   intro G m;have i:∀f:Fr,(fv 4 f=.ptr 64 0 0 1∧fv 5 f=.ptr 352 0 0 1∧fv 6 f=.d (.int .u64 c))→G f [(352,⟨96,4,[cI d]⟩),(64,⟨96,4,[cI ed]⟩),(32,⟨96,4,[cI b]⟩),(0,⟨96,4,[cI a]⟩)]:=by
    rintro f⟨C,A,O⟩;exact m _ _ qK
   simp[go_sem,g,h,ae g,ae h,dM]
   repeat' first|exact i _ ⟨rfl,rfl,rfl⟩|(refine i _ ?_;simp[fv,lk];done)|refine ag q (aV _) ?_|refine ag u (aV _) ?_|refine ag z (aP _ _) ?_|apply And.intro|simp[go_sem,e,dM]
  case hq =>
   simp[go_sem,s];refine dI [0] [1,2,5,6] [0,3,4] (bt 1 (.step 2 [3,4] true (.alt (bt 5 (a_ [6])) (a_ [6,5])))) ⟨[(4,.ptr 64 0 0 1),(5,.ptr 352 0 0 1)],[(352,⟨96,4,[cI w]⟩),(64,⟨96,4,[cI ed]⟩)],9000⟩ (k:=7) ?h3 ?hq
   case h3 =>
    intro G m;have i:∀f:Fr,(fv 4 f=.ptr 64 0 0 1∧fv 5 f=.ptr 352 0 0 1)→G f [(352,⟨96,4,[cI w]⟩),(64,⟨96,4,[cI ed]⟩)]:=by
     rintro f⟨C,A⟩;exact m _ _ qK
    simp[go_sem,e,ae e]
    repeat' first|exact i _ ⟨rfl,rfl⟩|(refine i _ ?_;simp[fv,lk];done)|refine ag lv aw ?_|refine ag J (aP _ _) ?_|apply And.intro|simp[go_sem,e,l,bg e,dM]
   case hq =>
    simp[go_sem,l,ae l,y,ah];exact eJ rfl
theorem UJ(a:List Int)(e:Wn 4 a):∃r,Wn 4 r∧V r=(0-V a)%115792089237316195423570985008687907853269984665640564039457584007908834671663∧W1 218 a r:=by
 obtain⟨r,f,g,d⟩:=Ju ed a lh e;unfold W2 at d;have b:=e.1;have c:=f.1;have h:List.drop 4 (cI ed)=[]:=bg rfl;refine⟨r,f,g,?_⟩;unfold W1;refine bL func218 ntmps218 (rs:=[.cell 2 96]) (aV a) ?_;simp[go_sem,b,ae b];refine ag d (aP ed a) ?_;simp[go_sem,c,ae c,ah];exact eJ rfl
theorem abM:∃M:List Int×List Int→List Int,∀x,(Wn 4 x.1∧Wn 4 x.2)→Wn 4 (M x)∧V (M x)=(V x.1*V x.2)%115792089237316195423570985008687907853269984665640564039457584007908834671663∧fm prog 209 [.agg (cI x.1),.agg (cI x.2)] (.agg (cI (M x))) :=
 pick (α:=List Int×List Int) (β:=List Int) (A:=fun x=>Wn 4 x.1∧Wn 4 x.2) (B:=fun x y=>Wn 4 y∧V y=(V x.1*V x.2)%115792089237316195423570985008687907853269984665640564039457584007908834671663∧fm prog 209 [.agg (cI x.1),.agg (cI x.2)] (.agg (cI y))) (fun x a=>by
  obtain⟨r,d,c,b⟩:=CE x.1 x.2 a.1 a.2
  exact⟨r,d,c,b⟩)
def dq(i:Nat):Nat:=i/64
def rq(i:Nat):Nat:=i%64
def CJ(n:List Int)(i:Nat):Prop:=Go.bits .and .u64 (Int.fdiv (gI n (dq i)) (2 ^ rq i)) 1=0
theorem CL(z:Int)(a:0≤z)(b:z<18446744073709551616):Go.bits .and .u64 z 1=z%2:=by
 obtain⟨n,rfl⟩:=Int.eq_ofNat_of_zero_le a;have h:=bits_and_u64_nat n 1 aq aq;rw[Nat.and_one_is_mod,Int.natCast_emod]at h;exact h
theorem PR{n:List Int}(g:Wn 4 n){j:Nat}(hj:j<4):(((V n).toNat/2 ^ (64*j)%2 ^ 64:Nat):Int)=gI n j:=by
 obtain⟨a,b,c,d,rfl,i,l,k,h⟩:=kG g;unfold ec at *;have e:=V4 a b c d;obtain⟨N,f⟩:∃N:Nat,V [a,b,c,d]=(N:Int):=⟨(V [a,b,c,d]).toNat,by rw[e];omega⟩;rw[f];rw[f]at e
 match j,hj with
 |0,_=>show _=a;rw[Int.toNat_natCast];omega
 |1,_=>show _=b;rw[Int.toNat_natCast];omega
 |2,_=>show _=c;rw[Int.toNat_natCast];omega
 |3,_=>show _=d;rw[Int.toNat_natCast];omega
theorem Ww{n:List Int}(c:Wn 4 n){k:Nat}(p:k<256):(CJ n k→(V n).toNat/2 ^ k%2=0)∧(¬CJ n k→(V n).toNat/2 ^ k%2=1):=by
 have d:=PR c (j:=k/64) aq;have l:=dK (k:=k/64) c;generalize(V n).toNat=N at *;have e:CJ n k↔N/2 ^ k%2=0:=by
  unfold CJ;have g:dq k=k/64:=rfl;have i:rq k=k%64:=rfl;rw[g,i,←d];have f:Int.fdiv (((N/2 ^ (64*(k/64))%2 ^ 64:Nat)):Int) (2 ^ (k%64))=((N/2 ^ (64*(k/64))%2 ^ 64/2 ^ (k%64):Nat):Int):=by
   rw[Int.fdiv_eq_ediv_of_nonneg _ (Int.le_of_lt (Int.pow_pos aq))]
   exact_mod_cast rfl
  have b:N/2 ^ (64*(k/64))%2 ^ 64/2 ^ (k%64)<18446744073709551616:=Nat.lt_of_le_of_lt (Nat.div_le_self _ _) (Nat.mod_lt _ (by decide));rw[f,CL _ (Int.natCast_nonneg _) (Int.lt_of_lt_of_le (Int.ofNat_lt.2 b) (Int.le_of_eq rfl))];have o:(N/2 ^ (64*(k/64))%2 ^ 64/2 ^ (k%64))%2=N/2 ^ k%2:=by
   have a:(N/2 ^ (64*(k/64))%2 ^ 64).testBit (k%64)=N.testBit k:=by
    rw[Nat.testBit_mod_two_pow,←Nat.shiftRight_eq_div_pow,Nat.testBit_shiftRight];have:k%64<64:=Nat.mod_lt _ aq;rw[decide_eq_true this,Bool.true_and];congr 1;omega
   rw[Nat.testBit_eq_decide_div_mod_eq,Nat.testBit_eq_decide_div_mod_eq]at a;have m:=decide_eq_decide.1 a;have:=Nat.mod_two_eq_zero_or_one (N/2 ^ (64*(k/64))%2 ^ 64/2 ^ (k%64));have:=Nat.mod_two_eq_zero_or_one (N/2 ^ k);omega
  omega
 refine⟨e.1,fun h=>?_⟩;have:=Nat.mod_two_eq_zero_or_one (N/2 ^ k);rcases this with a|a;exact absurd (e.2 a) h;exact a
open Classical in
noncomputable def stpW(M:List Int×List Int→List Int)(n:List Int)(k:Nat)(s:List Int×List Int):List Int×List Int :=
 (if CJ n k then s.1 else M (s.1,s.2),M (s.2,s.2))
theorem PS(a n:List Int)(W:Wn 4 a)(F:Wn 4 n):∃r,Wn 4 r∧V r=V a ^ (V n).toNat%115792089237316195423570985008687907853269984665640564039457584007908834671663∧W2 215 a n r:=by
 obtain⟨M,o⟩:=abM;obtain⟨b,u,Q,U⟩:=ji a W;obtain⟨L,hL,vL,f2⟩:=CH n F;unfold W1 at U;have I:∀k,Wn 4 (gp (stpW M n) ([1,0,0,0],b) k).1∧Wn 4 (gp (stpW M n) ([1,0,0,0],b) k).2:=kj (P:=fun _(s:List Int×List Int)=>Wn 4 s.1∧Wn 4 s.2) ⟨li ⟨aq,aq⟩,u⟩ fun k s i=>by
  unfold stpW;refine⟨?_,(o (s.2,s.2) ⟨i.2,i.2⟩).1⟩;dsimp only;split;exact i.1;exact(o (s.1,s.2) i).1
 have hV:∀k,k≤256→V (gp (stpW M n) ([1,0,0,0],b) k).1=V a ^ ((V n).toNat%2 ^ k)%115792089237316195423570985008687907853269984665640564039457584007908834671663∧V (gp (stpW M n) ([1,0,0,0],b) k).2=V a ^ (2 ^ k)%115792089237316195423570985008687907853269984665640564039457584007908834671663:=by
  intro k
  induction k with
  |zero =>
   intro _;refine⟨?_,?_⟩;show V [1,0,0,0]=_;rw[Nat.pow_zero,Nat.mod_one,Int.pow_zero];simp[V];show V b=_;rw[Q,Nat.pow_zero,Int.pow_succ,Int.pow_zero,Int.one_mul]
  | succ k ih =>
   intro hk;obtain⟨B,i2⟩:=ih aq;have i:=I k;have Y:=Ww F (k:=k) aq;have E:=(o ((gp (stpW M n) ([1,0,0,0],b) k).2,(gp (stpW M n) ([1,0,0,0],b) k).2) ⟨i.2,i.2⟩).2.1;have H:=(o ((gp (stpW M n) ([1,0,0,0],b) k).1,(gp (stpW M n) ([1,0,0,0],b) k).2) i).2.1;rw[gp];generalize gp (stpW M n) ([1,0,0,0],b) k=s at *;dsimp only at H E;have N:V (stpW M n k s).2=V a ^ (2 ^ (k+1))%115792089237316195423570985008687907853269984665640564039457584007908834671663:=by
    show V (M (s.2,s.2))=_;rw[E,i2,←Int.mul_emod,←Int.pow_add,Nat.pow_succ,Nat.mul_two]
   refine⟨?_,N⟩;rw[Nat.mod_pow_succ];unfold stpW;dsimp only;by_cases c:CJ n k;rw[if_pos c,B,Y.1 c,Nat.mul_zero,Nat.add_zero];rw[if_neg c,H,B,i2,Y.2 c,Nat.mul_one,Int.pow_add,←Int.mul_emod]
 have A:(V n).toNat%2 ^ L=(V n).toNat:=Nat.mod_eq_of_lt (by
  have h0:=(lZ F).1;have:(((V n).toNat:Nat):Int)<((2 ^ L:Nat):Int):=by rw[Int.toNat_of_nonneg h0];exact_mod_cast vL
  exact_mod_cast this)
 refine⟨(gp (stpW M n) ([1,0,0,0],b) L).1,(I L).1,by rw[(hV L hL).1,A],?_⟩;unfold W2;refine bL func215 ntmps215 (rs:=[.cell 4 96]) (aP a n) ?_;have m:=W.1;have j:=F.1;have K:=u.1;have hz:List.drop 4 (cI ed)=[]:=bg rfl;simp[go_sem,m,j];generalize v:gp (stpW M n) ([1,0,0,0],b)=S at *;have J:S 0=([1,0,0,0],b):=by rw[←v];rfl
 refine dI [1] [0,2,3,4,5,6] [1] (.alt (bt 0 (.alt (bx 2 (.alt (a_ [3,4,5,6]) (a_ [4,3,5,6]))) (.alt (bt 3 (.alt (a_ [2,4,5,6]) (bt 4 (a_ [2,5,6])))) (bt 4 (.alt (a_ [2,3,5,6]) (bt 3 (a_ [2,5,6]))))))) (.alt (bt 3 (.alt (bt 0 (.alt (a_ [2,4,5,6]) (bt 4 (a_ [2,5,6])))) (bt 4 (bt 0 (a_ [2,5,6]))))) (bt 4 (.alt (bt 0 (.alt (a_ [2,3,5,6]) (bt 3 (a_ [2,5,6])))) (bt 3 (bt 0 (a_ [2,5,6]))))))) ⟨[(3,.ptr 32 0 0 1),(4,.ptr 64 0 0 1),(5,.ptr 192 0 0 1),(6,.ptr 224 0 0 1)],[(224,⟨96,4,[cI b]⟩),(192,⟨96,4,[cI [1,0,0,0]]⟩),(64,⟨96,4,[cI ed]⟩),(32,⟨96,4,[cI n]⟩)],9000⟩ (k:=7) ?h3 ?hq
 case h3 =>
  intro G hG;have hW:∀(q:Fr)(t:Hp),(fv 3 q=.ptr 32 0 0 1∧fv 4 q=.ptr 64 0 0 1∧fv 5 q=.ptr 192 0 0 1∧fv 6 q=.ptr 224 0 0 1∧lk 224 t=some ⟨96,4,[cI b]⟩∧lk 192 t=some ⟨96,4,[cI [1,0,0,0]]⟩∧lk 64 t=some ⟨96,4,[cI ed]⟩∧lk 32 t=some ⟨96,4,[cI n]⟩)→G q t:=by
   rintro q t⟨q0,q1,q2,q3,q4,q5,q6,q7⟩;exact hG _ _ qK
  simp[go_sem,m,ae m,dM]
  repeat' first|exact hW _ _ ⟨rfl,rfl,rfl,rfl,rfl,rfl,rfl,rfl⟩|(refine hW _ _ ?_;simp[fv];done)|refine ag (gh 1) a9 ?_|refine ag U (aV _) ?_|apply And.intro|simp[go_sem,K,dM]
 case hq =>
  simp[go_sem,j,ae j];refine ag f2 (aV _) ?_;simp[go_sem]
  refine av (fun k:Nat=>⟨[(3,.ptr 32 0 0 1),(4,.ptr 64 0 0 1),(5,.ptr 192 0 0 1),(6,.ptr 224 0 0 1),(12,.d (.int .i64 (L:Int))),(13,.d (.int .i64 (k:Int)))],[(224,⟨96,4,[cI (S k).2]⟩),(192,⟨96,4,[cI (S k).1]⟩),(64,⟨96,4,[cI ed]⟩),(32,⟨96,4,[cI n]⟩)],20000⟩)
   (fun k=>k≤L) (fun k=>L-k) 0 aq (by
    rw[J];simp[aA,ai,fv,lk,AV.low,AV.l]
    and_intros<;>first|rfl|exact cH _ _) ?_
  intro k hk;obtain⟨w,g⟩:=I k;have p:=w.1;have f:=g.1;have w3:=ay (k:=k) aq;simp only[go_sem,Nat.reduceEqDiff,Nat.reduceAdd,Nat.reduceLT,↓reduceIte];by_cases Z:k<L
  ·refine⟨fun h=>?_,fun h=>absurd (by exact_mod_cast Z) h⟩;have e:S (k+1)=stpW M n k (S k):=by rw[←v];rfl
   have ad:dq k=k/64:=rfl;have ab:rq k=k%64:=rfl;have x:=kF (l:=n) (k:=dq k) aq;have O:IntKind.i64.wrap ((k:Int)/64)=(dq k:Int):=by rw[IntWalk.i64_in _ aq];omega
   have ac:IntKind.i64.wrap ((k:Int).tdiv 64)=(dq k:Int):=O;have N:(k:Int)%64=(rq k:Int):=aq;have D:(k:Int).tmod 64=(rq k:Int):=N;have B:(dq k:Int)<4:=aq;obtain⟨H,_,E⟩:=o ((S k).2,(S k).2) ⟨g,g⟩;obtain⟨m3,_,m4⟩:=o ((S k).1,(S k).2) ⟨w,g⟩;have X:=H.1;have l4:=m3.1;have aa:rq k<64:=aq;have C:min (rq k) 64=rq k:=aq;unfold stpW at e;by_cases c:CJ n k
   ·rw[if_pos c]at e;unfold CJ at c;simp[go_sem,x,D,O,B,C,c,IntKind.bits,f,ae f]
    first|refine ag E (aP _ _) ?_
    generalize M ((S k).2,(S k).2)=z at *;simp[go_sem,X,f,bg f,w3]
    first|refine ao (k+1) aq aq ?_
    rw[e];simp[aA,ai,fv,lk,AV.low,AV.l];and_intros<;>exact cH _ _
   ·rw[if_neg c]at e;unfold CJ at c;simp[go_sem,x,D,O,B,C,c,IntKind.bits,p,f,ae p,ae f]
    first|refine ag m4 (aP _ _) ?_
    generalize M ((S k).1,(S k).2)=y at *;simp[go_sem,l4,p,f,ae f,bg p]
    first|refine ag E (aP _ _) ?_
    generalize M ((S k).2,(S k).2)=z at *;simp[go_sem,X,f,bg f,w3]
    first|refine ao (k+1) aq aq ?_
    rw[e];simp[aA,ai,fv,lk,AV.low,AV.l];and_intros<;>exact cH _ _
  ·refine⟨fun h=>absurd (by exact_mod_cast h) Z,fun h=>?_⟩;have T:k=L:=aq;subst T;simp[go_sem,p,ae p,hz];exact eJ rfl
theorem orR{x y:Int}(b:ec x)(a:ec y):ec (Go.bits .or .u64 x y):=by
 obtain⟨X,rfl⟩:=Int.eq_ofNat_of_zero_le b.1;obtain⟨Y,rfl⟩:=Int.eq_ofNat_of_zero_le a.1;have d:=b.2;have c:=a.2;rw[TY X Y aq aq];have:=Nat.or_lt_two_pow (x:=X) (y:=Y) (n:=64) aq aq;exact⟨Int.natCast_nonneg _,aq⟩
theorem fdR{x:Int}(a:ec x):ec (Int.fdiv x 4):=by
 obtain⟨c,b⟩:=a;rw[Int.fdiv_eq_ediv_of_nonneg _ aq];exact⟨aq,aq⟩
theorem UK(a:List Int)(g:Wn 4 a):∃r,Wn 4 r∧V r=V a ^ 115792089237316195423570985008687907853269984665640564039457584007908834671661%115792089237316195423570985008687907853269984665640564039457584007908834671663∧W1 213 a r:=by
 obtain⟨n,c,f,hc,l,k⟩:=ta CC [2,0,0,0] E7 (li ⟨aq,aq⟩);obtain⟨r,h,j,i⟩:=PS a n g f;have o:V CC=115792089237316195423570985008687907853269984665640564039457584007908834671663:=by simp[V,CC]
 have m:V [2,0,0,0]=2:=by simp[V]
 rw[o,m]at l;have s:=lZ f;have b2:=hc.1;have b3:=hc.2;have p:(V n).toNat=115792089237316195423570985008687907853269984665640564039457584007908834671661:=aq;rw[p]at j;unfold W2 at i;have b:=g.1;have d:=f.1;have e:=h.1;have q:List.drop 4 (cI ed)=[]:=bg rfl;refine⟨r,h,j,?_⟩;unfold W1;refine bL func213 ntmps213 (rs:=[.cell 2 96]) (aV a) ?_;simp[go_sem,b];refine ag lv aw ?_;simp[go_sem];refine ag (gh 2) a9 ?_;simp[go_sem];refine ag k (aP _ _) ?_;simp[go_sem,b,d,ae b,ae d];refine ag i (aP _ _) ?_;simp[go_sem,e,ae e,ah];exact eJ rfl
def hiS(x:Int):Int:=IntKind.u64.wrap (x*4611686018427387904)
def E9(a:List Int)(k:Nat)(s:List Int):List Int :=
 if k<3 then s.set k (Go.bits .or .u64 (Int.fdiv (gI a k) 4) (hiS (gI a (pl k 1))))else s.set k (Int.fdiv (gI a k) 4)
theorem PT(x y:Int)(d:0≤x)(b:x<18446744073709551616):Go.bits .or .u64 (Int.fdiv x 4) (hiS y)=x/4+4611686018427387904*(y%4):=by
 rw[Int.fdiv_eq_ediv_of_nonneg _ aq];unfold hiS;rw[Cm];obtain⟨X,c⟩:∃X:Nat,x/4=(X:Int):=⟨(x/4).toNat,aq⟩;obtain⟨Y,a⟩:∃Y:Nat,y%4=(Y:Int):=⟨(y%4).toNat,aq⟩;have e:y*4611686018427387904%18446744073709551616=((Y*2 ^ 62:Nat):Int):=aq;rw[e,c,TY X (Y*2 ^ 62) aq aq,a,Nat.or_comm,←Nat.shiftLeft_eq,←Nat.shiftLeft_add_eq_or_of_lt (show X<2 ^ 62 by omega),Nat.shiftLeft_eq];omega
theorem YI{a:List Int}(j:Wn 4 a):V (gp (E9 a) ed 4)=V a/4:=by
 obtain⟨f,c,b,d,rfl,g,i,h,w⟩:=kG j;have u:gI [f,c,b,d] 0=f:=rfl;have o:gI [f,c,b,d] 1=c:=rfl;have m:gI [f,c,b,d] 2=b:=rfl;have t:gI [f,c,b,d] 3=d:=rfl;have v:gI [f,c,b,d] (pl 0 1)=c:=rfl;have l:gI [f,c,b,d] (pl 1 1)=b:=rfl;have k:gI [f,c,b,d] (pl 2 1)=d:=rfl;have e:∀p q r s:Int,List.set (List.set (List.set (List.set ed 0 p) 1 q) 2 r) 3 s=[p,q,r,s]:=fun _ _ _ _=>rfl;unfold ec at *;simp only[gp,E9,u,o,m,t,v,l,k];rw[if_neg (show ¬((3:Nat)<3)by omega),if_pos (show(2:Nat)<3 by omega),if_pos (show(1:Nat)<3 by omega),if_pos (show(0:Nat)<3 by omega),PT f c g.1 g.2,PT c b i.1 i.2,PT b d h.1 h.2,e,V4,V4,Int.fdiv_eq_ediv_of_nonneg _ aq];omega
theorem UL(a:List Int)(o:Wn 4 a):∃r,Wn 4 r∧V r=V a/4∧fm prog 216 [.agg (cI a),.d (.int .i64 2)] (.agg (cI r)):=by
 have B:∀k,Wn 4 (gp (E9 a) ed k):=kj (P:=fun _(s:List Int)=>Wn 4 s) lh fun k s D=>by
  unfold E9;split;exact rM D (orR (fdR (dK o)) (Uy _));exact rM D (fdR (dK o))
 refine⟨gp (E9 a) ed 4,B 4,YI o,?_⟩;refine bL func216 ntmps216 (rs:=[.cell 4 96]) (by intro v E;simp at E;rcases E with rfl|rfl;exact gf _;trivial) ?_;have w:=o.1;generalize i:gp (E9 a) ed=S at *;have H:IntKind.i64.wrap 0=0:=IntWalk.i64_in _ aq;have J:List.drop 4 (cI ed)=[]:=bg rfl;simp[go_sem,w,H]
 refine av (fun k:Nat=>⟨[(2,.ptr 0 0 0 1),(4,.ptr 32 0 0 1),(5,.ptr 192 0 0 1),(6,.d (.int .i64 0)),(7,.d (.int .i64 2)),(8,.d (.int .i64 (k:Int)))],[(192,⟨96,4,[cI (S k)]⟩),(32,⟨96,4,[cI ed]⟩),(0,⟨96,4,[cI a]⟩)],1000⟩)
  (fun k=>k≤4) (fun k=>4-k) 0 aq (by
   rw[←i];simp[aA,ai,fv,lk,AV.low,AV.l,gp]
   first|(and_intros<;>first|rfl|exact cH _ _)) ?_
 intro k L;have A:=B k;have c:=A.1;have K:=ay (k:=k) aq;have u:IntKind.i64.wrap 62=62:=IntWalk.i64_in _ aq;simp only[go_sem,Nat.reduceEqDiff,Nat.reduceAdd,Nat.reduceLT,↓reduceIte];by_cases j:k<4
 ·refine⟨fun h=>?_,fun h=>absurd (by exact_mod_cast j) h⟩;have m:=kF (l:=a) (k:=k) aq;have b:(k:Int)<4:=aq;have e:S (k+1)=E9 a k (S k):=by rw[←i];rfl
  have F:IntKind.i64.wrap ((k:Int)-0)=(k:Int):=IntWalk.i64_in _ aq;have f:IntKind.i64.wrap (k:Int)=(k:Int):=IntWalk.i64_in _ aq;unfold E9 at e;have g:pl k 1=k+1:=rfl;have p:IntKind.i64.wrap ((k:Int)+1)=(pl k 1:Int):=by rw[g];exact K
  by_cases C:k<3
  ·rw[if_pos C]at e;have y:=kF (l:=a) (k:=pl k 1) aq;have i3:(pl k 1:Int)<4:=aq;have t:pl k 1<4:=aq;have I:(S k)[k]?=some (gI (S k) k):=kF aq;have z:((S k).set k (Int.fdiv (gI a k) 4))[k]?=some (Int.fdiv (gI a k) 4):=(by rw[List.getElem?_set_self aq]);simp[go_sem,m,c,b,f,py,p,i3,IntKind.bits];refine⟨j,?_⟩;refine cK [0,1,2,3,4,5,6,7,8,9,10,11,12,13] [(14,[])] 0 (k:=15) ?_;intro G q;simp[go_sem,y,c,b,f,py,p,i3,IntKind.bits,z,u,List.length_set]
   first|refine⟨j,q _ _ ?_⟩|refine q _ _ ?_|refine⟨aq,q _ _ ?_⟩
   clear q G;simp[go_sem,p];refine ao (k+1) aq aq ?_;rw[e];simp[aA,ai,fv,lk,AV.low,AV.l,g,hiS]
   first|(and_intros<;>exact cH _ _)
  ·rw[if_neg C]at e;have i3:¬(pl k 1:Int)<4:=aq;have t:¬pl k 1<4:=aq;simp[go_sem,m,c,b,f,py,p,i3,IntKind.bits]
   first|refine⟨j,ao (k+1) aq aq ?_⟩|refine ao (k+1) aq aq ?_
   rw[e];simp[aA,ai,fv,lk,AV.low,AV.l,g]
   first|(and_intros<;>exact cH _ _)
 ·refine⟨fun h=>absurd (by exact_mod_cast h) j,fun h=>?_⟩;have b:k=4:=aq;subst b;simp[go_sem,c,ae c,J];exact eJ rfl
theorem jM(l:List Int):cF .u64 (cI l)=some l:=by
 induction l with
 |nil=>rfl
 |cons x r ih=>simp only[cI,List.map_cons]at ih⊢;simp[cF,ih]
theorem qq{Q:AV→Prop}{st:St}{a:List Int}{b:Bool}(hq:Q (.tup [.agg (cI a),.d (.bool b)])):dG Q (.tup [.agg (cI a),.d (.bool b)]) st :=
 aa (by
  intro c hc;simp at hc;rcases hc with rfl|rfl;exact .inr ⟨_,rfl,km _⟩
  exact .inl trivial) hq
theorem Jv(a:List Int)(c:Int):∀v,v∈[AV.agg (cI a),AV.d (.int .i64 c)]→v.deep:=by
 intro v b;simp at b;rcases b with rfl|rfl;exact gf _;trivial
theorem PU(a:List Int)(L:Wn 4 a):∃(r:List Int)(i:Bool),Wn 4 r∧(i=true↔(V a ^ 28948022309329048855892746252171976963317496166410141009864396001977208667916%115792089237316195423570985008687907853269984665640564039457584007908834671663)*(V a ^ 28948022309329048855892746252171976963317496166410141009864396001977208667916%115792089237316195423570985008687907853269984665640564039457584007908834671663)%115792089237316195423570985008687907853269984665640564039457584007908834671663=V a%115792089237316195423570985008687907853269984665640564039457584007908834671663)∧(i=true→V r=if V a ^ 28948022309329048855892746252171976963317496166410141009864396001977208667916%115792089237316195423570985008687907853269984665640564039457584007908834671663%2=0 then V a ^ 28948022309329048855892746252171976963317496166410141009864396001977208667916%115792089237316195423570985008687907853269984665640564039457584007908834671663 else(0-V a ^ 28948022309329048855892746252171976963317496166410141009864396001977208667916%115792089237316195423570985008687907853269984665640564039457584007908834671663)%115792089237316195423570985008687907853269984665640564039457584007908834671663)∧(i=false→r=ed)∧fm prog 189 [.agg (cI a)] (.tup [.agg (cI r),.d (.bool i)]):=by
 obtain⟨n0,c,v,hc,J,f1⟩:=qp CC [1,0,0,0] E7 (li ⟨aq,aq⟩);obtain⟨n,hn,vn,f2⟩:=UL n0 v;obtain⟨r,p,I,U⟩:=PS a n L hn;obtain⟨m,X,vm,T⟩:=CE r r p p;obtain⟨E,A,Q,Y⟩:=ji a L;obtain⟨q,hq,vq,Z⟩:=UJ r p;have vp:V CC=115792089237316195423570985008687907853269984665640564039457584007908834671663:=by simp[V,CC]
 have v1:V [1,0,0,0]=1:=by simp[V]
 rw[vp,v1]at J;have b1:=lZ v;have b2:=hc.1;have b3:=hc.2;have vN:(V n).toNat=28948022309329048855892746252171976963317496166410141009864396001977208667916:=aq;rw[vN]at I;have w:m=E↔(V a ^ 28948022309329048855892746252171976963317496166410141009864396001977208667916%115792089237316195423570985008687907853269984665640564039457584007908834671663)*(V a ^ 28948022309329048855892746252171976963317496166410141009864396001977208667916%115792089237316195423570985008687907853269984665640564039457584007908834671663)%115792089237316195423570985008687907853269984665640564039457584007908834671663=V a%115792089237316195423570985008687907853269984665640564039457584007908834671663:=by
  rw[←I,←vm,←Q];exact⟨fun h=>by rw[h],fun h=>Wu X A h⟩
 have s:=dK (k:=0) p;have t:Go.bits .and .u64 (gI r 0) 1=0↔V r%2=0:=by
  rw[CL _ s.1 s.2];obtain⟨r0,r1,r2,r3,e,_⟩:=kG p;rw[e,V4];show r0%2=0↔_;omega
 rw[←I]at w;unfold W1 at Y Z;unfold W2 at U T;have f:=L.1;have u:=v.1;have b:=p.1;have S:=X.1;have N:=A.1;have z:=hq.1;have O:List.drop 4 (cI ed)=[]:=bg rfl;have M:=kF (l:=r) (k:=0) aq;have B:(cI r).head?=some (.d (.int .u64 (gI r 0))):=by
  rw[List.head?_eq_getElem?,Ht,M];rfl
 have D:∀(x:List Int)(i:Bool),Wn 4 x→(m≠E→x=ed∧i=false)→(m=E→i=true∧x=(if Go.bits .and .u64 (gI r 0) 1=0 then r else q))→fm prog 189 [.agg (cI a)] (.tup [.agg (cI x),.d (.bool i)]):=by
  intro x i hx K C;refine bL func189 ntmps189 (rs:=[.cell 2 96,.tmp 3]) (aV a) ?_;simp[go_sem,f];refine ag lv aw ?_;simp[go_sem];refine ag (gh 1) a9 ?_;simp[go_sem];refine ag f1 (aP _ _) ?_;simp[go_sem,u];refine dI [0,1] [2,3,4,5] [0,1] (.alt (bt 2 (.alt (a_ [3,4,5]) (bt 4 (a_ [3,5])))) (bt 4 (bt 2 (a_ [3,5])))) ⟨[(1,.ptr 0 0 0 1),(2,.ptr 32 0 0 1),(6,.ptr 512 0 0 1)],[(512,⟨96,4,[cI r]⟩),(32,⟨96,4,[cI ed]⟩),(0,⟨96,4,[cI a]⟩)],9000⟩ (k:=6) ?h3 ?hq
  case h3 =>
   intro G P;have W:∀(F:Fr)(H:Hp),(fv 1 F=.ptr 0 0 0 1∧fv 2 F=.ptr 32 0 0 1∧fv 6 F=.ptr 512 0 0 1∧lk 512 H=some ⟨96,4,[cI r]⟩∧lk 32 H=some ⟨96,4,[cI ed]⟩∧lk 0 H=some ⟨96,4,[cI a]⟩)→G F H:=by
    rintro F H⟨q0,q1,q2,q3,q4,q5⟩;exact P _ _ qK
   simp[go_sem,f,ae f,u,ae u,dM]
   repeat' first|exact W _ _ ⟨rfl,rfl,rfl,rfl,rfl,rfl⟩|(refine W _ _ ?_;simp[fv];done)|refine ag f2 (Jv _ _) ?_|refine ag U (aP _ _) ?_|apply And.intro|simp[go_sem,b,dM]
  case hq =>
   simp[go_sem];refine cK [0,1,3] [(2,[]),(4,[5])] 2 (k:=6) ?_;intro G P;simp[go_sem,b,ae b,f,ae f];refine ag T (aP _ _) ?_;simp[go_sem];refine ag Y (aV _) ?_;simp[go_sem,jM,S,N];refine P _ _ ?_;by_cases g:m=E
   ·obtain⟨rfl,o⟩:=C g;by_cases j:Go.bits .and .u64 (gI r 0) 1=0
    ·rw[if_pos j]at o;subst o;simp[go_sem,g,B,j,b,ae b,O,ah];exact qq rfl
    ·rw[if_neg j]at o;subst o;simp[go_sem,g,B,j,b,ae b];refine ag Z (aV _) ?_;simp[go_sem,z,b,ae z,bg b,O,ah];exact qq rfl
   ·obtain⟨rfl,rfl⟩:=K g;simp[go_sem,g,O,ah];exact qq (a:=ed) rfl
 rw[←I];by_cases g:m=E
 ·refine⟨if Go.bits .and .u64 (gI r 0) 1=0 then r else q,true,?_,⟨fun _=>w.1 g,fun _=>rfl⟩,fun _=>?_,fun h=>(Bool.noConfusion h),D _ _ ?_ (fun h=>absurd g h) (fun _=>⟨rfl,rfl⟩)⟩
  split;exact p;exact hq;by_cases j:V r%2=0;rw[if_pos (t.2 j),if_pos j];rw[if_neg (fun h=>j (t.1 h)),if_neg j,vq];split;exact p;exact hq
 ·exact⟨ed,false,lh,⟨fun h=>(Bool.noConfusion h),fun h=>absurd (w.2 h) g⟩,fun h=>(Bool.noConfusion h),fun _=>rfl,D _ _ lh (fun _=>⟨rfl,rfl⟩) (fun h=>absurd h g)⟩
end
section
class CR (R:Type) where
 ad:R→R→R
 mu:R→R→R
 ic:Int→R
 ad_as:∀a b c,ad (ad a b) c=ad a (ad b c)
 ad_co:∀a b,ad a b=ad b a
 mu_as:∀a b c,mu (mu a b) c=mu a (mu b c)
 mu_co:∀a b,mu a b=mu b a
 di:∀a b c,mu (ad a b) c=ad (mu a c) (mu b c)
 ic_ad:∀m n,ic (m+n)=ad (ic m) (ic n)
 ic_mu:∀m n,ic (m*n)=mu (ic m) (ic n)
 ze:∀a,ad (ic 0) a=a
 on:∀a,mu (ic 1) a=a
 zm:∀a,mu (ic 0) a=ic 0
open CR
section
variable {R:Type} [CR R]
theorem di'(a b c:R):mu c (ad a b)=ad (mu c a) (mu c b):=by rw[mu_co c,di,mu_co a,mu_co b]
theorem LC(a:R):ad a (ic 0)=a:=by rw[ad_co,ze]
theorem zm'(a:R):mu a (ic 0)=ic 0:=by rw[mu_co,zm]
theorem RA(a:R):mu a (ic 1)=a:=by rw[mu_co,on]
theorem ad4(a b c d:R):ad (ad a b) (ad c d)=ad (ad a c) (ad b d):=by
 rw[ad_as,←ad_as b,ad_co b c,ad_as c,←ad_as]
theorem mu4(a b c d:R):mu (mu a b) (mu c d)=mu (mu a c) (mu b d):=by
 rw[mu_as,←mu_as b,mu_co b c,mu_as c,←mu_as]
def pw(x:R):Nat→R
 |0=>ic 1
 |k+1=>mu (pw x k) x
theorem Wx(x:R)(a:Nat):∀b,pw x (a+b)=mu (pw x a) (pw x b)
 |0=>(RA _).symm
 |b+1=>by rw[←Nat.add_assoc,pw,Wx x a b,pw,mu_as]
abbrev Mo:=Int×Nat×Nat×Nat
def tY(x y z:R)(m:Mo):R:=mu (ic m.1) (mu (pw x m.2.1) (mu (pw y m.2.2.1) (pw z m.2.2.2)))
def ea(x y z:R):List Mo→R
 |[]=>ic 0
 |m::l=>ad (tY x y z m) (ea x y z l)
theorem CM(x y z:R)(q:List Mo):∀p,ea x y z (p++q)=ad (ea x y z p) (ea x y z q)
 |[]=>(ze _).symm
 |m::l=>by rw[List.cons_append,ea,CM x y z q l,ea,ad_as]
def mm(m k:Mo):Mo:=(m.1*k.1,m.2.1+k.2.1,m.2.2.1+k.2.2.1,m.2.2.2+k.2.2.2)
theorem YJ(x y z:R)(m k:Mo):tY x y z (mm m k)=mu (tY x y z m) (tY x y z k):=by
 simp only[tY,mm,ic_mu,Wx];rw[mu4 (ic m.1) _ (ic k.1) _];congr 1;rw[mu4 (pw x _) _ (pw x _) _];congr 1;rw[mu4]
def pm(p q:List Mo):List Mo:=p.flatMap fun m=>q.map (mm m)
theorem PW(x y z:R)(m:Mo):∀q,ea x y z (q.map (mm m))=mu (tY x y z m) (ea x y z q)
 |[]=>(zm' _).symm
 |k::l=>by rw[List.map_cons,ea,ea,PW x y z m l,YJ,di']
theorem PX(x y z:R)(q:List Mo):∀p,ea x y z (pm p q)=mu (ea x y z p) (ea x y z q)
 |[]=>(zm _).symm
 |m::l=>by
  have:pm (m::l) q=q.map (mm m)++pm l q:=by simp[pm]
  rw[this,CM,PW,PX x y z q l,ea,di]
def nr:List Mo→Nat
 |[]=>0
 |m::l=>m.1.natAbs+nr l
theorem Hw(q:List Mo):∀p,nr (p++q)=nr p+nr q
 |[]=>(Nat.zero_add _).symm
 |m::l=>by rw[List.cons_append,nr,Hw q l,nr,Nat.add_assoc]
theorem PY(m:Mo):∀q,nr (q.map (mm m))=m.1.natAbs*nr q
 |[]=>rfl
 |k::l=>by rw[List.map_cons,nr,nr,PY m l,Nat.mul_add,mm,Int.natAbs_mul]
theorem PZ(q:List Mo):∀p,nr (pm p q)=nr p*nr q
 |[]=>by simp[pm,nr]
 |m::l=>by
  have:pm (m::l) q=q.map (mm m)++pm l q:=by simp[pm]
  rw[this,Hw,PY,PZ q l,nr,Nat.add_mul]
def co(D E:Nat):List Mo→Nat→Int
 |[],_=>0
 |m::l,k=>(if m.2.1+D*(m.2.2.1+E*m.2.2.2)=k then m.1 else 0)+co D E l k
theorem Wy(D E k:Nat):∀l,(co D E l k).natAbs≤nr l
 |[]=>by simp[co]
 |m::l=>by
  have:=Wy D E k l;rw[co,nr];split<;>omega
def su(f:Nat→R):Nat→R
 |0=>ic 0
 |k+1=>ad (su f k) (f k)
theorem Wz(f g:Nat→R):∀n,su (fun k=>ad (f k) (g k)) n=ad (su f n) (su g n)
 |0=>(ze _).symm
 |n+1=>by rw[su,Wz f g n,su,su,ad4]
theorem UM{f:Nat→R}:∀n,(∀k,k<n→f k=ic 0)→su f n=ic 0
 |0,_=>rfl
 |n+1,h=>by rw[su,UM n fun k a=>h k aq,h n aq,ze]
theorem P0{f:Nat→R}{j:Nat}:∀n,j<n→(∀k,k≠j→f k=ic 0)→su f n=f j
 |0,h,_=>by omega
 |n+1,h,hz=>by
  rw[su];by_cases e:j=n;subst e;rw[UM j fun k b=>hz k aq,ze];rw[P0 n aq hz,hz n (fun a=>e a.symm),LC]
theorem Jw{f g:Nat→R}(n:Nat)(h:∀k,f k=g k):su f n=su g n:=by
 have:f=g:=funext h;rw[this]
def mon(D E:Nat)(x y z:R)(k:Nat):R:=mu (pw x (k%D)) (mu (pw y (k/D%E)) (pw z (k/D/E)))
theorem WA{D E:Nat}(b:0<D)(f:0<E)(x y z:R)(N:Nat):∀l:List Mo,(∀m,m∈l→m.2.1<D∧m.2.2.1<E∧m.2.1+D*(m.2.2.1+E*m.2.2.2)<N)→ea x y z l=su (fun k=>mu (ic (co D E l k)) (mon D E x y z k)) N
 |[],_=>by
  rw[UM];rfl;intro k _;rw[co,zm]
 | m :: l,h=>by
  obtain⟨d,c,g⟩:=h m aw;rw[ea,WA b f x y z N l (fun k a=>h k (by simp[a]))];have o:(m.2.1+D*(m.2.2.1+E*m.2.2.2))%D=m.2.1:=by rw[Nat.add_mul_mod_self_left,Nat.mod_eq_of_lt d]
  have q:(m.2.1+D*(m.2.2.1+E*m.2.2.2))/D=m.2.2.1+E*m.2.2.2:=by rw[Nat.add_mul_div_left _ _ b,Nat.div_eq_of_lt d,Nat.zero_add]
  have i:(m.2.2.1+E*m.2.2.2)%E=m.2.2.1:=by rw[Nat.add_mul_mod_self_left,Nat.mod_eq_of_lt c]
  have p:(m.2.2.1+E*m.2.2.2)/E=m.2.2.2:=by rw[Nat.add_mul_div_left _ _ f,Nat.div_eq_of_lt c,Nat.zero_add]
  have r:tY x y z m=su (fun k=>mu (ic (if m.2.1+D*(m.2.2.1+E*m.2.2.2)=k then m.1 else 0)) (mon D E x y z k)) N:=by
   rw[P0 (j:=m.2.1+D*(m.2.2.1+E*m.2.2.2)) N g (fun k a=>by rw[if_neg (fun e=>a e.symm),zm])];rw[if_pos rfl,mon,q,o,i,p,tY]
  rw[r,←Wz];refine Jw N fun k=>?_;rw[co,ic_ad,di]
end
instance crI:CR Int where
 ad:=(·+·)
 mu:=(·*·)
 ic:=id
 ad_as:=Int.add_assoc
 ad_co:=Int.add_comm
 mu_as:=Int.mul_assoc
 mu_co:=Int.mul_comm
 di:=Int.add_mul
 ic_ad:=fun _ _=>rfl
 ic_mu:=fun _ _=>rfl
 ze:=Int.zero_add
 on:=Int.one_mul
 zm:=Int.zero_mul
theorem rN(x:Int):∀k,pw x k=x ^ k
 |0=>(Int.pow_zero x).symm
 |k+1=>by rw[pw,rN x k,Int.pow_succ];rfl
theorem P1(K:Int)(c:Nat→Int)(B:Nat)(d:∀k,(c k).natAbs≤B)(i:(B:Int)<K):∀(N s:Nat),su (R:=Int) (fun k=>c (k+s)*K ^ k) N=0→∀k,k<N→c (k+s)=0
 |0,_,_,k,h=>by omega
 | N+1,s,h,k,hk=>by
  have split:∀M,su (R:=Int) (fun k=>c (k+s)*K ^ k) (M+1)=c s+K*su (R:=Int) (fun k=>c (k+(s+1))*K ^ k) M:=by
   intro M
   induction M with
   |zero=>simp[su,CR.ad,CR.ic]
   |succ M ih =>
    rw[su,ih,su];show _+_+_=_+K*(_+_);have:M+1+s=M+(s+1):=aq;rw[this,Int.mul_add,Int.pow_succ,Int.add_assoc];congr 2;rw[Int.mul_comm (K ^ M) K,←Int.mul_assoc,Int.mul_comm (c _) K,Int.mul_assoc]
  rw[split]at h;have e:c s=0:=by
   have j:=d s;have f:K∣c s:=⟨- su (R:=Int) (fun k=>c (k+(s+1))*K ^ k) N,by rw[Int.mul_neg];omega⟩;rcases Int.natAbs_dvd_natAbs.2 f with ⟨t,l⟩;rcases Nat.eq_zero_or_pos t with rfl|a;omega;have:K.natAbs≤K.natAbs*t:=Nat.le_mul_of_pos_right _ a;omega
  cases k with
  |zero=>simpa using e
  | succ k =>
   have b:K≠0:=aq;have g:su (R:=Int) (fun k=>c (k+(s+1))*K ^ k) N=0:=by
    have:K*su (R:=Int) (fun k=>c (k+(s+1))*K ^ k) N=0:=aq;rcases Int.mul_eq_zero.1 this with h|h;exact absurd h b;exact h
   have:=P1 K c B d i N (s+1) g k aq;rw[←this];congr 1;omega
theorem UN(K:Int)(D E k:Nat):mon (R:=Int) D E K (K ^ D) (K ^ (D*E)) k=K ^ k:=by
 show pw K _*(pw (K ^ D) _*pw (K ^ (D*E)) _)=_;rw[rN,rN,rN,←Int.pow_mul,←Int.pow_mul,←Int.pow_add,←Int.pow_add];congr 1;have c:=Nat.div_add_mod k D;have b:=Nat.div_add_mod (k/D) E;have a:D*(k/D%E)+D*E*(k/D/E)=D*(k/D):=by
  rw[Nat.mul_assoc,←Nat.mul_add];congr 1;omega
 omega
theorem Fa(D E:Nat):∀l:List Mo,∃N,∀m,m∈l→m.2.1+D*(m.2.2.1+E*m.2.2.2)<N
 |[]=>⟨0,fun m h=>by simp at h⟩
 |a::l=>by
  obtain⟨N,h⟩:=Fa D E l;refine⟨max N (a.2.1+D*(a.2.2.1+E*a.2.2.2)+1),fun m b=>?_⟩;rcases d_.1 b with rfl|b;omega;have:=h m b;omega
theorem UO{R:Type}[CR R]{D E:Nat}{K:Int}{l:List Mo}(e:0<D)(o:0<E)(b:∀m,m∈l→m.2.1<D∧m.2.2.1<E)(j:(nr l:Int)<K)(h:ea (R:=Int) K (K ^ D) (K ^ (D*E)) l=0)(x y z:R):ea x y z l=ic 0:=by
 obtain⟨N,c⟩:=Fa D E l;have d:∀m,m∈l→m.2.1<D∧m.2.2.1<E∧m.2.1+D*(m.2.2.1+E*m.2.2.2)<N:=fun m a=>⟨(b m a).1,(b m a).2,c m a⟩;rw[WA e o _ _ _ N l d]at h⊢;have g:su (R:=Int) (fun k=>co D E l (k+0)*K ^ k) N=0:=by
  rw[←h];refine Jw N fun k=>?_;rw[UN];rfl
 have f:=P1 K (co D E l) (nr l) (fun k=>Wy D E k l) j N 0 g;refine UM N fun k i=>?_;have:=f k i;rw[Nat.add_zero]at this;rw[this,zm]
end
section
open CR
structure Al(A:Type) where
 add:A→A→A
 mul:A→A→A
 con:Int→A
 isz:A→Bool
structure Al.Snd{A R:Type}[CR R](o:Al A)(ok:A→Prop)(e:A→R):Prop where
 add_ok:∀{a b},ok a→ok b→ok (o.add a b)
 mul_ok:∀{a b},ok a→ok b→ok (o.mul a b)
 con_ok:∀n,ok (o.con n)
 add_ev:∀{a b},ok a→ok b→e (o.add a b)=ad (e a) (e b)
 mul_ev:∀{a b},ok a→ok b→e (o.mul a b)=mu (e a) (e b)
 con_ev:∀n,e (o.con n)=ic n
 isz_ev:∀{a},ok a→o.isz a=true→e a=ic 0
def Al.sq{A:Type}(o:Al A)(c:A):Al (A×A) where
 add p q:=(o.add p.1 q.1,o.add p.2 q.2)
 mul p q:=(o.add (o.mul p.1 q.1) (o.mul (o.mul p.2 q.2) c),o.add (o.mul p.1 q.2) (o.mul p.2 q.1))
 con n:=(o.con n,o.con 0)
 isz p:=o.isz p.1&&o.isz p.2
theorem Al.Snd.sq{A R:Type}[CR R]{o:Al A}{d:A→Prop}{e:A→R}(h:o.Snd d e){c:A}(hc:d c){y:R}(g:mu y y=e c) :
  (o.sq c).Snd (fun p=>d p.1∧d p.2) (fun p=>ad (e p.1) (mu (e p.2) y)) where
 add_ok:=fun a b=>⟨h.add_ok a.1 b.1,h.add_ok a.2 b.2⟩
 mul_ok:=fun a b=>⟨h.add_ok (h.mul_ok a.1 b.1) (h.mul_ok (h.mul_ok a.2 b.2) hc),h.add_ok (h.mul_ok a.1 b.2) (h.mul_ok a.2 b.1)⟩
 con_ok:=fun n=>⟨h.con_ok n,h.con_ok 0⟩
 add_ev:=fun{a b}p q=>by
  show ad (e (o.add a.1 b.1)) (mu (e (o.add a.2 b.2)) y)=_;rw[h.add_ev p.1 q.1,h.add_ev p.2 q.2,di,ad4]
 mul_ev:=fun{a b}p q=>by
  show ad (e (o.add (o.mul a.1 b.1) (o.mul (o.mul a.2 b.2) c))) (mu (e (o.add (o.mul a.1 b.2) (o.mul a.2 b.1))) y)=_;rw[h.add_ev (h.mul_ok p.1 q.1) (h.mul_ok (h.mul_ok p.2 q.2) hc),h.add_ev (h.mul_ok p.1 q.2) (h.mul_ok p.2 q.1),h.mul_ev p.1 q.1,h.mul_ev (h.mul_ok p.2 q.2) hc,h.mul_ev p.2 q.2,h.mul_ev p.1 q.2,h.mul_ev p.2 q.1,←g];rw[di (e a.1),di' (e b.1),di' (e b.1),di (mu (e a.1) (e b.2)),mu4 (e a.2) y (e b.2) y,ad4,mu_as (e a.1),mu_as (e a.2) (e b.1),mu_co (e b.1) y,←mu_as (e a.2) y,ad_co (mu (mu (e a.2) (e b.2)) (mu y y))]
 con_ev:=fun n=>by
  show ad (e (o.con n)) (mu (e (o.con 0)) y)=_;rw[h.con_ev,h.con_ev,zm,LC]
 isz_ev:=fun{a}p q=>by
  have f:(o.isz a.1&&o.isz a.2)=true:=q;rw[Bool.and_eq_true]at f;show ad (e a.1) (mu (e a.2) y)=_;rw[h.isz_ev p.1 f.1,h.isz_ev p.2 f.2,zm,ze]
structure Pv where
 g:List Mo
 v:Int
 n:Nat
 a:Nat
 b:Nat
def Pv.z:Pv:=⟨[],0,0,0,0⟩
def Jx(K:Int)(D E:Nat):Al Pv where
 add p q:=⟨p.g++q.g,p.v+q.v,p.n+q.n,max p.a q.a,max p.b q.b⟩
 mul p q:=bif p.n.beq 0||q.n.beq 0 then⟨pm p.g q.g,0,0,0,0⟩else⟨pm p.g q.g,p.v*q.v,p.n*q.n,p.a+q.a,p.b+q.b⟩
 con n:=⟨[(n,0,0,0)],n,n.natAbs,0,0⟩
 isz p:=p.n.beq 0||(decide (p.v=0)&&decide ((p.n:Int)<K)&&Nat.blt p.a D&&Nat.blt p.b E)
def okP(K:Int)(D E:Nat)(p:Pv):Prop:=(p.n=0→p.v=0)∧p.v=ea (R:=Int) K (K ^ D) (K ^ (D*E)) p.g∧nr p.g≤p.n∧(p.n=0∨∀m,m∈p.g→m.1≠0→m.2.1≤p.a∧m.2.2.1≤p.b)
theorem CN{R:Type}[CR R](x y z:R):∀l,nr l=0→ea x y z l=ic 0
 |[],_=>rfl
 |m::l,h=>by
  rw[nr]at h;have a:m.1=0:=aq;rw[ea,CN x y z l aq,tY,a,zm,ze]
theorem qu{R:Type}[CR R](x y z:R):∀l,ea x y z (l.filter fun m=>m.1 != 0)=ea x y z l
 |[]=>rfl
 |m::l=>by
  by_cases h:m.1=0;rw[List.filter_cons_of_neg (by simp[h]),qu x y z l,ea,tY,h,zm,ze];rw[List.filter_cons_of_pos (by simp[h]),ea,qu x y z l,ea]
theorem uI:∀l:List Mo,nr (l.filter fun m=>m.1 != 0)=nr l
 |[]=>rfl
 |m::l=>by
  by_cases h:m.1=0;rw[List.filter_cons_of_neg (by simp[h]),uI l,nr,h];simp;rw[List.filter_cons_of_pos (by simp[h]),nr,uI l,nr]
theorem Hy:∀(l:List Mo)(m:Mo),m∈l→nr l=0→m.1=0
 |k::l,m,a,h=>by
  rw[nr]at h;rcases d_.1 a with rfl|a;omega;exact Hy l m a aq
theorem aeA{R:Type}[CR R](K:Int)(D E:Nat)(M:0<D)(V:0<E)(x y z:R):(Jx K D E).Snd (okP K D E) (fun p=>ea x y z p.g) where
 add_ok:=fun{p q}hp hq=>by
  obtain⟨u,j,A,k⟩:=hp;obtain⟨G,F,I,B⟩:=hq;refine⟨fun h=>?_,?_,?_,?_⟩;have d:p.n+q.n=0:=h;show p.v+q.v=0;rw[u aq,G aq];rfl;show p.v+q.v=_;rw[j,F];exact(CM _ _ _ _ _).symm;show nr (p.g++q.g)≤p.n+q.n;rw[Hw];omega;refine .inr fun m c f=>?_;show m.2.1≤max p.a q.a∧m.2.2.1≤max p.b q.b;rcases cD.1 c with c|c;rcases k with h|h;exact absurd (Hy _ m c aq) f;have:=h m c f;omega;rcases B with h|h;exact absurd (Hy _ m c aq) f;have:=h m c f;omega
 mul_ok:=fun{p q}hp hq=>by
  obtain⟨u,j,A,k⟩:=hp;obtain⟨G,F,I,B⟩:=hq;have H:p.v*q.v=ea (R:=Int) K (K ^ D) (K ^ (D*E)) (pm p.g q.g):=by rw[j,F];exact(PX _ _ _ _ _).symm
  by_cases i:p.n=0∨q.n=0;have e:(Jx K D E).mul p q=⟨pm p.g q.g,0,0,0,0⟩:=by
   show(bif p.n.beq 0||q.n.beq 0 then _ else _)=_;have:(p.n.beq 0||q.n.beq 0)=true:=by rw[Bool.or_eq_true];exact i.imp (fun h=>by rw[h];rfl) (fun h=>by rw[h];rfl)
   rw[this];rfl
  rw[e];have J:nr (pm p.g q.g)=0:=by
   rw[PZ];rcases i with h|h;rw[show nr p.g=0 by omega,Nat.zero_mul];rw[show nr q.g=0 by omega,Nat.mul_zero]
  refine⟨fun _=>rfl,?_,?_,.inl rfl⟩;show 0=_;rw[←H];rcases i with h|h;rw[u h,Int.zero_mul];rw[G h,Int.mul_zero];show nr (pm p.g q.g)≤0;rw[J];exact cL _;have o:p.n≠0:=fun h=>i (.inl h);have r:q.n≠0:=fun h=>i (.inr h);have e:(Jx K D E).mul p q=⟨pm p.g q.g,p.v*q.v,p.n*q.n,p.a+q.a,p.b+q.b⟩:=by
   show(bif p.n.beq 0||q.n.beq 0 then _ else _)=_;have:(p.n.beq 0||q.n.beq 0)=false:=by
    rw[Bool.or_eq_false_iff];exact⟨Bool.eq_false_iff.2 fun h=>o (Nat.eq_of_beq_eq_true h),Bool.eq_false_iff.2 fun h=>r (Nat.eq_of_beq_eq_true h)⟩
   rw[this];rfl
  rw[e];refine⟨fun h=>?_,H,?_,.inr fun m c f=>?_⟩;rcases Nat.mul_eq_zero.1 h with h|h;exact absurd h o;exact absurd h r;show nr (pm p.g q.g)≤p.n*q.n;rw[PZ];exact Nat.mul_le_mul A I;show m.2.1≤p.a+q.a∧m.2.2.1≤p.b+q.b;obtain⟨s,Q,P⟩:=List.mem_flatMap.1 c;obtain⟨t,T,rfl⟩:=List.mem_map.1 P;have l:s.1*t.1≠0:=f;have w:s.1≠0:=fun h=>l (by rw[h,Int.zero_mul]);have C:t.1≠0:=fun h=>l (by rw[h,Int.mul_zero]);have Y:=(k.resolve_left o) s Q w;have X:=(B.resolve_left r) t T C;show s.2.1+t.2.1≤_∧s.2.2.1+t.2.2.1≤_;omega
 con_ok:=fun n=>by
  refine⟨fun h=>?_,?_,?_,.inr fun m c _=>?_⟩;have d:n.natAbs=0:=h;show n=0;omega;show n=n*(1*(1*1))+0;simp;show n.natAbs+0≤n.natAbs;omega;have:m=(n,0,0,0):=(by simpa[Jx]using c);subst this;exact⟨cL _,cL _⟩
 add_ev:=fun{p q}_ _=>CM _ _ _ _ _
 mul_ev:=fun{p q}_ _=>by
  show ea x y z (Pv.g (bif p.n.beq 0||q.n.beq 0 then _ else _))=_;cases p.n.beq 0||q.n.beq 0<;>exact PX _ _ _ _ _
 con_ev:=fun n=>by
  show ad (mu (ic n) (mu (ic 1) (mu (ic 1) (ic 1)))) (ic 0)=ic n;rw[RA,RA,RA,LC]
 isz_ev:=fun{p}hp h=>by
  obtain⟨u,j,A,k⟩:=hp;have d:(p.n.beq 0||(decide (p.v=0)&&decide ((p.n:Int)<K)&&Nat.blt p.a D&&Nat.blt p.b E))=true:=h;rw[Bool.or_eq_true]at d;rcases d with d|d;exact CN x y z _ (by have:=Nat.eq_of_beq_eq_true d;omega);simp only[Bool.and_eq_true,decide_eq_true_eq]at d;obtain⟨⟨⟨o,r⟩,L⟩,S⟩:=d;have U:p.a<D:=Nat.le_of_ble_eq_true L;have O:p.b<E:=Nat.le_of_ble_eq_true S;rcases k with h|h;exact CN x y z _ aq;show ea x y z p.g=_;rw[←qu];refine UO (K:=K) M V (fun m c=>?_) ?_ ?_ x y z;obtain⟨N,W⟩:=List.mem_filter.1 c;have:=h m N (by simpa using W);omega;rw[uI];omega;rw[qu,←j,o]
inductive In where
 |add (i j:Nat)
 |sub (i j:Nat)
 |mul (i j:Nat)
 |con (n:Int)
def stp{A:Type}(o:Al A)(l:List A):In→A
 | .add i j=>o.add (l.getD i (o.con 0)) (l.getD j (o.con 0))
 | .sub i j=>o.add (l.getD i (o.con 0)) (o.mul (o.con (-1)) (l.getD j (o.con 0)))
 | .mul i j=>o.mul (l.getD i (o.con 0)) (l.getD j (o.con 0))
 | .con n=>o.con n
def run{A:Type}(o:Al A):List In→List A→List A
 |[],l=>l
 |i::r,l=>run o r (stp o l i::l)
def Hz(R:Type)[CR R]:Al R:=⟨ad,mu,ic,fun _=>false⟩
theorem Fb{A B:Type}(f:A→B)(l:List A)(i:Nat)(d:A)(a:B)(h:f d=a):(l.map f).getD i a=f (l.getD i d):=by
 rw[cR,cR,cU];cases l[i]?<;>simp[h]
theorem Jy{A:Type}{b:A→Prop}{l:List A}(h:∀a,a∈l→b a){d:A}(c:b d)(i:Nat):b (l.getD i d):=by
 rw[cR];cases e:l[i]? with
 |none=>exact c
 |some a=>exact h a (cr e)
theorem P2{A R:Type}[CR R]{o:Al A}{c:A→Prop}{e:A→R}(h:o.Snd c e):∀(p:List In)(l:List A),(∀a,a∈l→c a)→(∀a,a∈run o p l→c a)∧run (Hz R) p (l.map e)=(run o p l).map e
 |[],l,hl=>⟨hl,rfl⟩
 | i :: r,l,hl=>by
  have g:∀k,c (l.getD k (o.con 0)):=fun k=>Jy hl (h.con_ok 0) k;have b:∀k,(l.map e).getD k (ic 0)=e (l.getD k (o.con 0)):=fun k=>Fb e l k _ _ (h.con_ev 0);have f:c (stp o l i)∧stp (Hz R) (l.map e) i=e (stp o l i):=by
   cases i with
   |add i j=>exact⟨h.add_ok (g i) (g j),by show ad ((l.map e).getD i (ic 0)) ((l.map e).getD j (ic 0))=e (o.add _ _);rw[h.add_ev (g i) (g j),b,b]⟩
   |sub i j=>exact⟨h.add_ok (g i) (h.mul_ok (h.con_ok _) (g j)),by show ad ((l.map e).getD i (ic 0)) (mu (ic (-1)) ((l.map e).getD j (ic 0)))=e (o.add _ (o.mul (o.con (-1)) _));rw[h.add_ev (g i) (h.mul_ok (h.con_ok _) (g j)),h.mul_ev (h.con_ok _) (g j),h.con_ev,b,b]⟩
   |mul i j=>exact⟨h.mul_ok (g i) (g j),by show mu ((l.map e).getD i (ic 0)) ((l.map e).getD j (ic 0))=e (o.mul _ _);rw[h.mul_ev (g i) (g j),b,b]⟩
   |con n=>exact⟨h.con_ok n,by show ic n=e (o.con n);rw[h.con_ev]⟩
  obtain⟨q,m⟩:=P2 h r (stp o l i::l) (fun a d=>by
   rcases d_.1 d with rfl|d;exact f.1
   exact hl a d)
  refine⟨q,?_⟩;rw[run,run,←m,List.map_cons,f.2]
def alY(K:Int)(D E:Nat):Al (((Pv×Pv)×(Pv×Pv))×((Pv×Pv)×(Pv×Pv))) :=
 let o:=Jx K D E
 let c1:Pv:=⟨[(1,3,0,0),(7,0,0,0)],K ^ 3+7,8,3,0⟩
 let c2:Pv:=⟨[(1,0,3,0),(7,0,0,0)],(K ^ D) ^ 3+7,8,0,3⟩
 let c3:Pv:=⟨[(1,0,0,3),(7,0,0,0)],(K ^ (D*E)) ^ 3+7,8,0,0⟩
 ((o.sq c1).sq (c2,o.con 0)).sq ((c3,o.con 0),(o.con 0,o.con 0))
def six(K:Int)(D E:Nat):List (((Pv×Pv)×(Pv×Pv))×((Pv×Pv)×(Pv×Pv))) :=
 let o:=Jx K D E
 let z:=o.con 0
 let i:=o.con 1
 [((((⟨[(1,1,0,0)],K,1,1,0⟩:Pv),z),(z,z)),((z,z),(z,z))),
  ((((⟨[(1,0,1,0)],K ^ D,1,0,1⟩:Pv),z),(z,z)),((z,z),(z,z))),
  ((((⟨[(1,0,0,1)],K ^ (D*E),1,0,0⟩:Pv),z),(z,z)),((z,z),(z,z))),
  (((z,i),(z,z)),((z,z),(z,z))),
  (((z,z),(i,z)),((z,z),(z,z))),
  (((z,z),(z,z)),((i,z),(z,z)))]
def LD(K:Int)(D E:Nat)(p:List In):Bool:=(alY K D E).isz ((run (alY K D E) p (six K D E)).getD 0 ((alY K D E).con 0))
def cu{R:Type}[CR R](x:R):R:=ad (mu x (mu x x)) (ic 7)
theorem gq{R:Type}[CR R](K:Int)(D E:Nat)(N:0<D)(W:0<E)(p:List In)(h:LD K D E p=true)(x1 e f i j r:R)(V:mu i i=cu x1)(U:mu j j=cu e)(h3:mu r r=cu f) :
  (run (Hz R) p [x1,e,f,i,j,r]).getD 0 (ic 0)=ic 0:=by
 have t:=aeA (R:=R) K D E N W x1 e f;have d:=t.con_ok 0;have F:=t.con_ok 1;have J:=t.con_ev 0;have L:=t.con_ev 1;have one:∀(a b c:Nat)(v:Int)(q o:Nat),v=ea (R:=Int) K (K ^ D) (K ^ (D*E)) [(1,a,b,c)]→a≤q→b≤o→okP K D E ⟨[(1,a,b,c)],v,1,q,o⟩:=by
  intro a b c v q o B s C;refine⟨fun h=>by simp at h,B,by simp[nr],.inr fun m G _=>?_⟩;have k:m=(1,a,b,c):=by simpa using G
  subst k;exact⟨s,C⟩
 have l:∀(a b c:Nat)(v:Int)(q o:Nat),v=ea (R:=Int) K (K ^ D) (K ^ (D*E)) [(1,a,b,c),(7,0,0,0)]→a≤q→b≤o→okP K D E ⟨[(1,a,b,c),(7,0,0,0)],v,8,q,o⟩:=by
  intro a b c v q o B s C;refine⟨fun h=>by simp at h,B,by simp[nr],.inr fun m G _=>?_⟩;have k:m=(1,a,b,c)∨m=(7,0,0,0):=by simpa using G
  rcases k with rfl|rfl;exact⟨s,C⟩;exact⟨Nat.zero_le _,Nat.zero_le _⟩
 have x:=l 3 0 0 (K ^ 3+7) 3 0 (by simp[ea,tY,rN,ic,mu,ad]) aq aq;have w:=l 0 3 0 ((K ^ D) ^ 3+7) 0 3 (by simp[ea,tY,rN,ic,mu,ad]) aq aq;have I:=l 0 0 3 ((K ^ (D*E)) ^ 3+7) 0 0 (by simp[ea,tY,rN,ic,mu,ad]) aq aq;have O:=t.sq (c:=⟨[(1,3,0,0),(7,0,0,0)],K ^ 3+7,8,3,0⟩) x (y:=i) (by
  rw[V];show cu x1=ad (tY x1 e f (1,3,0,0)) (ad (tY x1 e f (7,0,0,0)) (ic 0));simp only[tY,pw,on,RA,LC,cu];rw[mu_as])
 have Y:=O.sq (c:=(⟨[(1,0,3,0),(7,0,0,0)],(K ^ D) ^ 3+7,8,0,3⟩,(Jx K D E).con 0)) ⟨w,d⟩ (y:=j) (by
  rw[U];show cu e=ad (ad (tY x1 e f (1,0,3,0)) (ad (tY x1 e f (7,0,0,0)) (ic 0))) (mu (ea x1 e f ((Jx K D E).con 0).g) i);rw[J,zm,LC];simp only[tY,pw,on,RA,LC,cu];rw[mu_as])
 have u:=Y.sq (c:=((⟨[(1,0,0,3),(7,0,0,0)],(K ^ (D*E)) ^ 3+7,8,0,0⟩,(Jx K D E).con 0),((Jx K D E).con 0,(Jx K D E).con 0))) ⟨⟨I,d⟩,d,d⟩ (y:=r) (by
  rw[h3];show cu f=ad (ad (ad (tY x1 e f (1,0,0,3)) (ad (tY x1 e f (7,0,0,0)) (ic 0))) (mu (ea x1 e f ((Jx K D E).con 0).g) i)) (mu (ad (ea x1 e f ((Jx K D E).con 0).g) (mu (ea x1 e f ((Jx K D E).con 0).g) i)) j);rw[J,zm,LC,ze,zm,LC];simp only[tY,pw,on,RA,LC,cu];rw[mu_as])
 have T:=one 1 0 0 K 1 0 (by simp[ea,tY,pw,ic,mu,ad]) aq aq;have S:=one 0 1 0 (K ^ D) 0 1 (by simp[ea,tY,pw,ic,mu,ad]) aq aq;have P:=one 0 0 1 (K ^ (D*E)) 0 0 (by simp[ea,tY,pw,ic,mu,ad]) aq aq;obtain⟨X,M⟩:=P2 u p (six K D E) (by
  intro a s;simp only[six,d_,List.not_mem_nil,or_false]at s;rcases s with rfl|rfl|rfl|rfl|rfl|rfl;exact⟨⟨⟨T,d⟩,d,d⟩,⟨d,d⟩,d,d⟩;exact⟨⟨⟨S,d⟩,d,d⟩,⟨d,d⟩,d,d⟩;exact⟨⟨⟨P,d⟩,d,d⟩,⟨d,d⟩,d,d⟩;exact⟨⟨⟨d,F⟩,d,d⟩,⟨d,d⟩,d,d⟩;exact⟨⟨⟨d,d⟩,F,d⟩,⟨d,d⟩,d,d⟩
  exact⟨⟨⟨d,d⟩,d,d⟩,⟨F,d⟩,d,d⟩)
 have z:ea x1 e f [(1,1,0,0)]=x1:=by simp only[ea,tY,pw,on,RA,LC]
 have A:ea x1 e f [(1,0,1,0)]=e:=by simp only[ea,tY,pw,on,RA,LC]
 have H:ea x1 e f [(1,0,0,1)]=f:=by simp only[ea,tY,pw,on,LC]
 have Q:(six K D E).map (fun p=>ad (ad (ad (ea x1 e f p.1.1.1.g) (mu (ea x1 e f p.1.1.2.g) i)) (mu (ad (ea x1 e f p.1.2.1.g) (mu (ea x1 e f p.1.2.2.g) i)) j)) (mu (ad (ad (ea x1 e f p.2.1.1.g) (mu (ea x1 e f p.2.1.2.g) i)) (mu (ad (ea x1 e f p.2.2.1.g) (mu (ea x1 e f p.2.2.2.g) i)) j)) r))=[x1,e,f,i,j,r]:=by
  simp only[six,List.map_cons,List.map_nil,J,L,z,A,H,zm,ze,LC,on]
 rw[←Q,M,Fb _ _ _ ((alY K D E).con 0) (ic 0) (u.con_ev 0)];exact u.isz_ev (Jy X (u.con_ok 0) 0) h
end
section
open CR
def MJ(n:Nat)[h:NeZero n](c:Int):Fin n:=⟨(c%(n:Int)).toNat,by
 have:=Int.emod_lt_of_pos c (b:=(n:Int)) (by have:=h.out;omega);have:=Int.emod_nonneg c (b:=(n:Int)) (by have:=h.out;omega)
 omega⟩
theorem pz(n:Nat)[h:NeZero n](c:Int):(((MJ n c).val:Nat):Int)=c%(n:Int):=by
 have:=Int.emod_nonneg c (b:=(n:Int)) (by have:=h.out;omega);show(((c%(n:Int)).toNat:Nat):Int)=_;omega
theorem oo{n:Nat}{a b:Fin n}(h:((a.val:Nat):Int)=((b.val:Nat):Int)):a=b:=Fin.ext aq
instance crF(n:Nat)[h:NeZero n]:CR (Fin n) where
 ad:=(·+·)
 mu:=(·*·)
 ic:=MJ n
 ad_as:=by intros;grobner
 ad_co:=by intros;grobner
 mu_as:=by intros;grobner
 mu_co:=by intros;grobner
 di:=by intros;grobner
 ic_ad:=fun a b=>oo (by
  rw[pz,Fin.val_add,Int.natCast_emod,Int.natCast_add,pz,pz,←Int.add_emod])
 ic_mu:=fun a b=>oo (by
  rw[pz,Fin.val_mul,Int.natCast_emod,Int.natCast_mul,pz,pz,←Int.mul_emod])
 ze:=fun a=>oo (by
  rw[Fin.val_add,Int.natCast_emod,Int.natCast_add,pz];have:=a.isLt
  rw[Int.zero_emod,Int.zero_add,Int.emod_eq_of_lt aq aq])
 on:=fun a=>oo (by
  rw[Fin.val_mul,Int.natCast_emod,Int.natCast_mul,pz];have:=a.isLt
  rw[Int.mul_emod,Int.emod_emod,←Int.mul_emod,Int.one_mul,Int.emod_eq_of_lt aq aq])
 zm:=fun a=>oo (by
  rw[Fin.val_mul,Int.natCast_emod,Int.natCast_mul,pz,Int.zero_emod,Int.zero_mul,Int.zero_emod])
variable {n:Nat} [NeZero n]
theorem jN(k:Nat):(MJ n (k:Int))=Fin.ofNat n k:=oo (by
 rw[pz];show _=((k%n:Nat):Int);rw[Int.natCast_emod])
theorem ic0:(ic 0:Fin n)=0:=jN 0
theorem icm(c:Int):(ic (-c):Fin n)=- ic c:=by
 have h:ad (ic (-c)) (ic c)=(ic 0:Fin n):=by rw[←ic_ad];congr 1;omega
 have d:(ic (-c):Fin n)+ic c=0:=by rw[←ic0];exact h
 generalize(ic (-c):Fin n)=a at *;generalize(ic c:Fin n)=b at *
 grobner
end
section
open CR
def dF{R:Type}[CR R](u v:R×R×R):R×R×R :=
 let xy:=ad (mu u.1 v.2.1) (mu v.1 u.2.1)
 let yz:=ad (mu u.2.1 v.2.2) (mu v.2.1 u.2.2)
 let xz:=ad (mu u.1 v.2.2) (mu v.1 u.2.2)
 let yy:=mu u.2.1 v.2.1
 let zz:=mu u.2.2 v.2.2
 let xx:=mu u.1 v.1
 let d:=ad yy (mu (ic (-1)) (mu (ic 21) zz))
 let e:=ad yy (mu (ic 21) zz)
 (ad (mu xy d) (mu (ic (-1)) (mu (ic 21) (mu yz xz))),ad (mu e d) (mu (ic 63) (mu xx xz)),ad (mu yz e) (mu (ic 3) (mu xx xy)))
def YK:List In:=.con 1::.mul 1 5::.mul 3 5::.add 1 0::.mul 7 3::.mul 9 4::.add 1 0::.mul 7 6::.mul 9 7::.add 1 0::.mul 13 14::.mul 10 10::.mul 12 13::.con 21::.mul 0 2::.sub 4 0::.add 5 1::.mul 13 1::.mul 11 8::.mul 5 0::.sub 2 0::.mul 4 5::.mul 9 12::.con 63::.mul 0 1::.add 3 0::.mul 19 9::.mul 14 23::.con 3::.mul 0 1::.add 3 0::.mul 10 36::.mul 34 6::.add 1 0::.mul 8 33::.mul 40 4::.add 1 0::.mul 16 36::.mul 40 7::.add 1 0::.mul 14 45::.mul 10 40::.mul 21 44::.mul 29 1::.sub 3 0::.add 4 1::.mul 12 1::.mul 10 7::.mul 34 0::.sub 2 0::.mul 4 5::.mul 8 11::.mul 28 0::.add 2 0::.mul 17 8::.mul 12 21::.mul 27 0::.add 2 0::.mul 59 63::.mul 61 63::.add 1 0::.mul 66 60::.add 56 0::.mul 65 62::.add 55 0::.mul 69 70::.mul 67 68::.sub 1 52::.add 2 53::.mul 8 1::.mul 7 5::.mul 57 0::.sub 2 0::.mul 4 5::.mul 7 9::.mul 51 0::.add 2 0::.mul 14 8::.mul 11 17::.mul 50 0::.add 2 0::.mul 81 4::.mul 9 85::.add 1 0::.mul 87 3::.mul 8 84::.add 1 0::.mul 87 6::.mul 15 87::.add 1 0::.mul 93 13::.mul 90 10::.mul 92 19::.mul 79 1::.sub 3 0::.add 4 1::.mul 12 1::.mul 10 7::.mul 84 0::.sub 2 0::.mul 4 5::.mul 8 11::.mul 78 0::.add 2 0::.mul 17 8::.mul 12 21::.mul 77 0::.add 2 0::.mul 58 0::.mul 51 9::.sub 1 0::[]
theorem abQ:LD (2 ^ 200) 16 20 YK=true:=by kernel_rfl
theorem abR{R:Type}[CR R](x1 d f c a b:R)(i:mu c c=cu x1)(g:mu a a=cu d)(h3:mu b b=cu f):(ad (mu (dF (dF (x1,c,ic 1) (d,a,ic 1)) (f,b,ic 1)).1 (dF (x1,c,ic 1) (dF (d,a,ic 1) (f,b,ic 1))).2.2) (mu (ic (-1)) (mu (dF (dF (x1,c,ic 1) (d,a,ic 1)) (f,b,ic 1)).2.2 (dF (x1,c,ic 1) (dF (d,a,ic 1) (f,b,ic 1))).1)))=ic 0:=by
 have h:=gq (2 ^ 200) 16 20 aq aq YK abQ x1 d f c a b i g h3;have e:(run (Hz R) YK [x1,d,f,c,a,b]).getD 0 (ic 0)=(ad (mu (dF (dF (x1,c,ic 1) (d,a,ic 1)) (f,b,ic 1)).1 (dF (x1,c,ic 1) (dF (d,a,ic 1) (f,b,ic 1))).2.2) (mu (ic (-1)) (mu (dF (dF (x1,c,ic 1) (d,a,ic 1)) (f,b,ic 1)).2.2 (dF (x1,c,ic 1) (dF (d,a,ic 1) (f,b,ic 1))).1))):=by kernel_rfl
 rw[e]at h;exact h
def YL:List In:=.con 1::.mul 1 5::.mul 3 5::.add 1 0::.mul 7 3::.mul 9 4::.add 1 0::.mul 7 6::.mul 9 7::.add 1 0::.mul 13 14::.mul 10 10::.mul 12 13::.con 21::.mul 0 2::.sub 4 0::.add 5 1::.mul 13 1::.mul 11 8::.mul 5 0::.sub 2 0::.mul 4 5::.mul 9 12::.con 63::.mul 0 1::.add 3 0::.mul 19 9::.mul 14 23::.con 3::.mul 0 1::.add 3 0::.mul 10 36::.mul 34 6::.add 1 0::.mul 8 33::.mul 40 4::.add 1 0::.mul 16 36::.mul 40 7::.add 1 0::.mul 14 45::.mul 10 40::.mul 21 44::.mul 29 1::.sub 3 0::.add 4 1::.mul 12 1::.mul 10 7::.mul 34 0::.sub 2 0::.mul 4 5::.mul 8 11::.mul 28 0::.add 2 0::.mul 17 8::.mul 12 21::.mul 27 0::.add 2 0::.mul 59 63::.mul 61 63::.add 1 0::.mul 66 60::.add 56 0::.mul 65 62::.add 55 0::.mul 69 70::.mul 67 68::.sub 1 52::.add 2 53::.mul 8 1::.mul 7 5::.mul 57 0::.sub 2 0::.mul 4 5::.mul 7 9::.mul 51 0::.add 2 0::.mul 14 8::.mul 11 17::.mul 50 0::.add 2 0::.mul 81 4::.mul 9 85::.add 1 0::.mul 87 3::.mul 8 84::.add 1 0::.mul 87 6::.mul 15 87::.add 1 0::.mul 93 13::.mul 90 10::.mul 92 19::.mul 79 1::.sub 3 0::.add 4 1::.mul 12 1::.mul 10 7::.mul 84 0::.sub 2 0::.mul 4 5::.mul 8 11::.mul 78 0::.add 2 0::.mul 17 8::.mul 12 21::.mul 77 0::.add 2 0::.mul 54 0::.mul 51 5::.sub 1 0::[]
theorem abS:LD (2 ^ 200) 16 20 YL=true:=by kernel_rfl
theorem abT{R:Type}[CR R](x1 d f c a b:R)(i:mu c c=cu x1)(g:mu a a=cu d)(h3:mu b b=cu f):(ad (mu (dF (dF (x1,c,ic 1) (d,a,ic 1)) (f,b,ic 1)).2.1 (dF (x1,c,ic 1) (dF (d,a,ic 1) (f,b,ic 1))).2.2) (mu (ic (-1)) (mu (dF (dF (x1,c,ic 1) (d,a,ic 1)) (f,b,ic 1)).2.2 (dF (x1,c,ic 1) (dF (d,a,ic 1) (f,b,ic 1))).2.1)))=ic 0:=by
 have h:=gq (2 ^ 200) 16 20 aq aq YL abS x1 d f c a b i g h3;have e:(run (Hz R) YL [x1,d,f,c,a,b]).getD 0 (ic 0)=(ad (mu (dF (dF (x1,c,ic 1) (d,a,ic 1)) (f,b,ic 1)).2.1 (dF (x1,c,ic 1) (dF (d,a,ic 1) (f,b,ic 1))).2.2) (mu (ic (-1)) (mu (dF (dF (x1,c,ic 1) (d,a,ic 1)) (f,b,ic 1)).2.2 (dF (x1,c,ic 1) (dF (d,a,ic 1) (f,b,ic 1))).2.1))):=by kernel_rfl
 rw[e]at h;exact h
def YM:List In:=.con 1::.mul 1 5::.mul 3 5::.add 1 0::.mul 7 3::.mul 9 4::.add 1 0::.mul 7 6::.mul 9 7::.add 1 0::.mul 13 14::.mul 10 10::.mul 12 13::.con 21::.mul 0 2::.sub 4 0::.add 5 1::.mul 13 1::.mul 11 8::.mul 5 0::.sub 2 0::.mul 4 5::.mul 9 12::.con 63::.mul 0 1::.add 3 0::.mul 19 9::.mul 14 23::.con 3::.mul 0 1::.add 3 0::.mul 5 0::.mul 6 0::.mul 12 12::.mul 13 0::.mul 4 4::.mul 5 0::.con 7::.mul 0 1::.add 4 0::.sub 7 0::[]
theorem abU:LD (2 ^ 200) 16 20 YM=true:=by kernel_rfl
theorem abV{R:Type}[CR R](x1 c f b a d:R)(i:mu b b=cu x1)(g:mu a a=cu c)(h3:mu d d=cu f):(ad (mu (dF (x1,b,ic 1) (c,a,ic 1)).2.1 (mu (dF (x1,b,ic 1) (c,a,ic 1)).2.1 (dF (x1,b,ic 1) (c,a,ic 1)).2.2)) (mu (ic (-1)) (ad (mu (dF (x1,b,ic 1) (c,a,ic 1)).1 (mu (dF (x1,b,ic 1) (c,a,ic 1)).1 (dF (x1,b,ic 1) (c,a,ic 1)).1)) (mu (ic 7) (mu (dF (x1,b,ic 1) (c,a,ic 1)).2.2 (mu (dF (x1,b,ic 1) (c,a,ic 1)).2.2 (dF (x1,b,ic 1) (c,a,ic 1)).2.2))))))=ic 0:=by
 have h:=gq (2 ^ 200) 16 20 aq aq YM abU x1 c f b a d i g h3;have e:(run (Hz R) YM [x1,c,f,b,a,d]).getD 0 (ic 0)=(ad (mu (dF (x1,b,ic 1) (c,a,ic 1)).2.1 (mu (dF (x1,b,ic 1) (c,a,ic 1)).2.1 (dF (x1,b,ic 1) (c,a,ic 1)).2.2)) (mu (ic (-1)) (ad (mu (dF (x1,b,ic 1) (c,a,ic 1)).1 (mu (dF (x1,b,ic 1) (c,a,ic 1)).1 (dF (x1,b,ic 1) (c,a,ic 1)).1)) (mu (ic 7) (mu (dF (x1,b,ic 1) (c,a,ic 1)).2.2 (mu (dF (x1,b,ic 1) (c,a,ic 1)).2.2 (dF (x1,b,ic 1) (c,a,ic 1)).2.2)))))):=by kernel_rfl
 rw[e]at h;exact h
def YN:List In:=.con 1::.mul 1 5::.mul 3 5::.add 1 0::.mul 7 3::.mul 9 4::.add 1 0::.mul 7 6::.mul 9 7::.add 1 0::.mul 13 14::.mul 10 10::.mul 12 13::.con 21::.mul 0 2::.sub 4 0::.add 5 1::.mul 13 1::.mul 11 8::.mul 5 0::.sub 2 0::.mul 4 5::.mul 9 12::.con 63::.mul 0 1::.add 3 0::.mul 19 9::.mul 14 23::.con 3::.mul 0 1::.add 3 0::.sub 32 31::.sub 36 35::.mul 1 1::.mul 13 0::.mul 2 2::.add 36 37::.mul 0 3::.sub 2 0::.mul 0 8::.sub 5 0::[]
theorem abW:LD (2 ^ 200) 16 20 YN=true:=by kernel_rfl
theorem abX{R:Type}[CR R](x1 a f c b d:R)(i:mu c c=cu x1)(g:mu b b=cu a)(h3:mu d d=cu f):(ad (mu (dF (x1,c,ic 1) (a,b,ic 1)).1 (mu (ad a (mu (ic (-1)) x1)) (ad a (mu (ic (-1)) x1)))) (mu (ic (-1)) (mu (ad (mu (ad b (mu (ic (-1)) c)) (ad b (mu (ic (-1)) c))) (mu (ic (-1)) (mu (ad x1 a) (mu (ad a (mu (ic (-1)) x1)) (ad a (mu (ic (-1)) x1)))))) (dF (x1,c,ic 1) (a,b,ic 1)).2.2)))=ic 0:=by
 have h:=gq (2 ^ 200) 16 20 aq aq YN abW x1 a f c b d i g h3;have e:(run (Hz R) YN [x1,a,f,c,b,d]).getD 0 (ic 0)=(ad (mu (dF (x1,c,ic 1) (a,b,ic 1)).1 (mu (ad a (mu (ic (-1)) x1)) (ad a (mu (ic (-1)) x1)))) (mu (ic (-1)) (mu (ad (mu (ad b (mu (ic (-1)) c)) (ad b (mu (ic (-1)) c))) (mu (ic (-1)) (mu (ad x1 a) (mu (ad a (mu (ic (-1)) x1)) (ad a (mu (ic (-1)) x1)))))) (dF (x1,c,ic 1) (a,b,ic 1)).2.2))):=by kernel_rfl
 rw[e]at h;exact h
def YO:List In:=.con 1::.mul 1 5::.mul 3 5::.add 1 0::.mul 7 3::.mul 9 4::.add 1 0::.mul 7 6::.mul 9 7::.add 1 0::.mul 13 14::.mul 10 10::.mul 12 13::.con 21::.mul 0 2::.sub 4 0::.add 5 1::.mul 13 1::.mul 11 8::.mul 5 0::.sub 2 0::.mul 4 5::.mul 9 12::.con 63::.mul 0 1::.add 3 0::.mul 19 9::.mul 14 23::.con 3::.mul 0 1::.add 3 0::.sub 32 31::.sub 36 35::.mul 0 0::.add 34 35::.mul 3 3::.mul 1 0::.sub 3 0::.mul 6 2::.mul 13 0::.mul 40 4::.sub 0 3::.mul 9 0::.mul 46 4::.sub 1 0::.mul 0 14::.sub 6 0::[]
theorem abY:LD (2 ^ 200) 16 20 YO=true:=by kernel_rfl
theorem abZ{R:Type}[CR R](x1 a f b c d:R)(i:mu b b=cu x1)(g:mu c c=cu a)(h3:mu d d=cu f):(ad (mu (dF (x1,b,ic 1) (a,c,ic 1)).2.1 (mu (ad a (mu (ic (-1)) x1)) (mu (ad a (mu (ic (-1)) x1)) (ad a (mu (ic (-1)) x1))))) (mu (ic (-1)) (mu (ad (mu (ad c (mu (ic (-1)) b)) (ad (mu x1 (mu (ad a (mu (ic (-1)) x1)) (ad a (mu (ic (-1)) x1)))) (mu (ic (-1)) (ad (mu (ad c (mu (ic (-1)) b)) (ad c (mu (ic (-1)) b))) (mu (ic (-1)) (mu (ad x1 a) (mu (ad a (mu (ic (-1)) x1)) (ad a (mu (ic (-1)) x1))))))))) (mu (ic (-1)) (mu b (mu (ad a (mu (ic (-1)) x1)) (mu (ad a (mu (ic (-1)) x1)) (ad a (mu (ic (-1)) x1))))))) (dF (x1,b,ic 1) (a,c,ic 1)).2.2)))=ic 0:=by
 have h:=gq (2 ^ 200) 16 20 aq aq YO abY x1 a f b c d i g h3;have e:(run (Hz R) YO [x1,a,f,b,c,d]).getD 0 (ic 0)=(ad (mu (dF (x1,b,ic 1) (a,c,ic 1)).2.1 (mu (ad a (mu (ic (-1)) x1)) (mu (ad a (mu (ic (-1)) x1)) (ad a (mu (ic (-1)) x1))))) (mu (ic (-1)) (mu (ad (mu (ad c (mu (ic (-1)) b)) (ad (mu x1 (mu (ad a (mu (ic (-1)) x1)) (ad a (mu (ic (-1)) x1)))) (mu (ic (-1)) (ad (mu (ad c (mu (ic (-1)) b)) (ad c (mu (ic (-1)) b))) (mu (ic (-1)) (mu (ad x1 a) (mu (ad a (mu (ic (-1)) x1)) (ad a (mu (ic (-1)) x1))))))))) (mu (ic (-1)) (mu b (mu (ad a (mu (ic (-1)) x1)) (mu (ad a (mu (ic (-1)) x1)) (ad a (mu (ic (-1)) x1))))))) (dF (x1,b,ic 1) (a,c,ic 1)).2.2))):=by kernel_rfl
 rw[e]at h;exact h
def YP:List In:=.con 1::.mul 1 4::.add 0 0::.mul 6 2::.add 0 0::.mul 5 4::.add 0 0::.mul 10 10::.mul 7 7::.mul 9 9::.con 21::.mul 0 2::.sub 4 0::.add 5 1::.mul 11 1::.mul 10 8::.mul 5 0::.sub 2 0::.mul 4 5::.mul 9 12::.con 63::.mul 0 1::.add 3 0::.mul 18 9::.mul 14 21::.con 3::.mul 0 1::.add 3 0::.mul 2 18::.con 4::.mul 0 22::.mul 13 0::.mul 3 3::.mul 33 25::.con 8::.mul 0 1::.sub 3 0::.mul 0 9::.sub 6 0::[]
theorem ab0:LD (2 ^ 200) 16 20 YP=true:=by kernel_rfl
theorem ab1{R:Type}[CR R](x1 d f a b c:R)(i:mu a a=cu x1)(g:mu b b=cu d)(h3:mu c c=cu f):(ad (mu (dF (x1,a,ic 1) (x1,a,ic 1)).1 (mu (ic 4) (mu a a))) (mu (ic (-1)) (mu (ad (mu (mu (ic 3) (mu x1 x1)) (mu (ic 3) (mu x1 x1))) (mu (ic (-1)) (mu (ic 8) (mu x1 (mu a a))))) (dF (x1,a,ic 1) (x1,a,ic 1)).2.2)))=ic 0:=by
 have h:=gq (2 ^ 200) 16 20 aq aq YP ab0 x1 d f a b c i g h3;have e:(run (Hz R) YP [x1,d,f,a,b,c]).getD 0 (ic 0)=(ad (mu (dF (x1,a,ic 1) (x1,a,ic 1)).1 (mu (ic 4) (mu a a))) (mu (ic (-1)) (mu (ad (mu (mu (ic 3) (mu x1 x1)) (mu (ic 3) (mu x1 x1))) (mu (ic (-1)) (mu (ic 8) (mu x1 (mu a a))))) (dF (x1,a,ic 1) (x1,a,ic 1)).2.2))):=by kernel_rfl
 rw[e]at h;exact h
def YQ:List In:=.con 1::.mul 1 4::.add 0 0::.mul 6 2::.add 0 0::.mul 5 4::.add 0 0::.mul 10 10::.mul 7 7::.mul 9 9::.con 21::.mul 0 2::.sub 4 0::.add 5 1::.mul 11 1::.mul 10 8::.mul 5 0::.sub 2 0::.mul 4 5::.mul 9 12::.con 63::.mul 0 1::.add 3 0::.mul 18 9::.mul 14 21::.con 3::.mul 0 1::.add 3 0::.mul 2 18::.mul 32 21::.con 8::.mul 0 1::.mul 9 0::.mul 33 25::.con 12::.mul 0 1::.mul 7 7::.sub 1 0::.mul 9 0::.mul 31 31::.mul 9 0::.sub 2 0::.mul 0 14::.sub 10 0::[]
theorem ab2:LD (2 ^ 200) 16 20 YQ=true:=by kernel_rfl
theorem ab3{R:Type}[CR R](x1 d f a b c:R)(i:mu a a=cu x1)(g:mu b b=cu d)(h3:mu c c=cu f):(ad (mu (dF (x1,a,ic 1) (x1,a,ic 1)).2.1 (mu (ic 8) (mu a (mu a a)))) (mu (ic (-1)) (mu (ad (mu (mu (ic 3) (mu x1 x1)) (ad (mu (ic 12) (mu x1 (mu a a))) (mu (ic (-1)) (mu (mu (ic 3) (mu x1 x1)) (mu (ic 3) (mu x1 x1)))))) (mu (ic (-1)) (mu (ic 8) (mu (mu a a) (mu a a))))) (dF (x1,a,ic 1) (x1,a,ic 1)).2.2)))=ic 0:=by
 have h:=gq (2 ^ 200) 16 20 aq aq YQ ab2 x1 d f a b c i g h3;have e:(run (Hz R) YQ [x1,d,f,a,b,c]).getD 0 (ic 0)=(ad (mu (dF (x1,a,ic 1) (x1,a,ic 1)).2.1 (mu (ic 8) (mu a (mu a a)))) (mu (ic (-1)) (mu (ad (mu (mu (ic 3) (mu x1 x1)) (ad (mu (ic 12) (mu x1 (mu a a))) (mu (ic (-1)) (mu (mu (ic 3) (mu x1 x1)) (mu (ic 3) (mu x1 x1)))))) (mu (ic (-1)) (mu (ic 8) (mu (mu a a) (mu a a))))) (dF (x1,a,ic 1) (x1,a,ic 1)).2.2))):=by kernel_rfl
 rw[e]at h;exact h
def YR:List In:=.con 1::.mul 1 4::.add 0 0::.mul 6 2::.add 0 0::.mul 5 4::.add 0 0::.mul 10 10::.mul 7 7::.mul 9 9::.con 21::.mul 0 2::.sub 4 0::.add 5 1::.mul 11 1::.mul 10 8::.mul 5 0::.sub 2 0::.mul 4 5::.mul 9 12::.con 63::.mul 0 1::.add 3 0::.mul 18 9::.mul 14 21::.con 3::.mul 0 1::.add 3 0::.mul 31 20::.con 8::.mul 0 1::.sub 3 0::[]
theorem ab4:LD (2 ^ 200) 16 20 YR=true:=by kernel_rfl
theorem ab5{R:Type}[CR R](x1 d f a b c:R)(i:mu a a=cu x1)(g:mu b b=cu d)(h3:mu c c=cu f):(ad (dF (x1,a,ic 1) (x1,a,ic 1)).2.2 (mu (ic (-1)) (mu (ic 8) (mu a (mu a a)))))=ic 0:=by
 have h:=gq (2 ^ 200) 16 20 aq aq YR ab4 x1 d f a b c i g h3;have e:(run (Hz R) YR [x1,d,f,a,b,c]).getD 0 (ic 0)=(ad (dF (x1,a,ic 1) (x1,a,ic 1)).2.2 (mu (ic (-1)) (mu (ic 8) (mu a (mu a a))))):=by kernel_rfl
 rw[e]at h;exact h
def YS:List In:=.con 1::.mul 1 5::.mul 3 5::.add 1 0::.mul 7 3::.mul 9 4::.add 1 0::.mul 7 6::.mul 9 7::.add 1 0::.mul 13 14::.mul 10 10::.mul 12 13::.con 21::.mul 0 2::.sub 4 0::.add 5 1::.mul 13 1::.mul 11 8::.mul 5 0::.sub 2 0::.mul 4 5::.mul 9 12::.con 63::.mul 0 1::.add 3 0::.mul 19 9::.mul 14 23::.con 3::.mul 0 1::.add 3 0::.sub 31 32::.add 35 36::.mul 0 0::.add 34 35::.mul 3 3::.mul 1 0::.sub 3 0::.mul 38 2::.sub 0 1::.mul 7 0::.mul 9 5::.mul 45 0::.sub 2 0::.add 13 0::[]
theorem ab6:LD (2 ^ 200) 16 20 YS=true:=by kernel_rfl
theorem ab7{R:Type}[CR R](x1 a f b c d:R)(i:mu b b=cu x1)(g:mu c c=cu a)(h3:mu d d=cu f):(ad (dF (x1,b,ic 1) (a,c,ic 1)).2.2 (ad (mu (ad b c) (ad (mu x1 (mu (ad x1 (mu (ic (-1)) a)) (ad x1 (mu (ic (-1)) a)))) (mu (ic (-1)) (ad (mu (ad b c) (ad b c)) (mu (ic (-1)) (mu (ad x1 a) (mu (ad x1 (mu (ic (-1)) a)) (ad x1 (mu (ic (-1)) a))))))))) (mu (ic (-1)) (mu b (mu (ad x1 (mu (ic (-1)) a)) (mu (ad x1 (mu (ic (-1)) a)) (ad x1 (mu (ic (-1)) a))))))))=ic 0:=by
 have h:=gq (2 ^ 200) 16 20 aq aq YS ab6 x1 a f b c d i g h3;have e:(run (Hz R) YS [x1,a,f,b,c,d]).getD 0 (ic 0)=(ad (dF (x1,b,ic 1) (a,c,ic 1)).2.2 (ad (mu (ad b c) (ad (mu x1 (mu (ad x1 (mu (ic (-1)) a)) (ad x1 (mu (ic (-1)) a)))) (mu (ic (-1)) (ad (mu (ad b c) (ad b c)) (mu (ic (-1)) (mu (ad x1 a) (mu (ad x1 (mu (ic (-1)) a)) (ad x1 (mu (ic (-1)) a))))))))) (mu (ic (-1)) (mu b (mu (ad x1 (mu (ic (-1)) a)) (mu (ad x1 (mu (ic (-1)) a)) (ad x1 (mu (ic (-1)) a)))))))):=by kernel_rfl
 rw[e]at h;exact h
def YT:List In:=.con 1::.sub 1 2::.add 5 6::.mul 0 0::.add 4 5::.mul 3 3::.mul 1 0::.sub 3 0::.mul 8 2::.sub 0 1::.mul 7 0::.mul 9 5::.mul 15 0::.sub 2 0::.mul 6 6::.mul 7 0::.mul 4 4::.con 7::.mul 0 1::.add 3 0::.mul 6 6::.sub 1 0::[]
theorem ab8:LD (2 ^ 200) 16 20 YT=true:=by kernel_rfl
theorem ab9{R:Type}[CR R](x1 a f b c d:R)(i:mu b b=cu x1)(g:mu c c=cu a)(h3:mu d d=cu f):(ad (ad (mu (ad (mu (ad b c) (ad b c)) (mu (ic (-1)) (mu (ad x1 a) (mu (ad x1 (mu (ic (-1)) a)) (ad x1 (mu (ic (-1)) a)))))) (mu (ad (mu (ad b c) (ad b c)) (mu (ic (-1)) (mu (ad x1 a) (mu (ad x1 (mu (ic (-1)) a)) (ad x1 (mu (ic (-1)) a)))))) (ad (mu (ad b c) (ad b c)) (mu (ic (-1)) (mu (ad x1 a) (mu (ad x1 (mu (ic (-1)) a)) (ad x1 (mu (ic (-1)) a)))))))) (mu (ic 7) (mu (mu (ad x1 (mu (ic (-1)) a)) (mu (ad x1 (mu (ic (-1)) a)) (ad x1 (mu (ic (-1)) a)))) (mu (ad x1 (mu (ic (-1)) a)) (mu (ad x1 (mu (ic (-1)) a)) (ad x1 (mu (ic (-1)) a))))))) (mu (ic (-1)) (mu (ad (mu (ad b c) (ad (mu x1 (mu (ad x1 (mu (ic (-1)) a)) (ad x1 (mu (ic (-1)) a)))) (mu (ic (-1)) (ad (mu (ad b c) (ad b c)) (mu (ic (-1)) (mu (ad x1 a) (mu (ad x1 (mu (ic (-1)) a)) (ad x1 (mu (ic (-1)) a))))))))) (mu (ic (-1)) (mu b (mu (ad x1 (mu (ic (-1)) a)) (mu (ad x1 (mu (ic (-1)) a)) (ad x1 (mu (ic (-1)) a))))))) (ad (mu (ad b c) (ad (mu x1 (mu (ad x1 (mu (ic (-1)) a)) (ad x1 (mu (ic (-1)) a)))) (mu (ic (-1)) (ad (mu (ad b c) (ad b c)) (mu (ic (-1)) (mu (ad x1 a) (mu (ad x1 (mu (ic (-1)) a)) (ad x1 (mu (ic (-1)) a))))))))) (mu (ic (-1)) (mu b (mu (ad x1 (mu (ic (-1)) a)) (mu (ad x1 (mu (ic (-1)) a)) (ad x1 (mu (ic (-1)) a))))))))))=ic 0:=by
 have h:=gq (2 ^ 200) 16 20 aq aq YT ab8 x1 a f b c d i g h3;have e:(run (Hz R) YT [x1,a,f,b,c,d]).getD 0 (ic 0)=(ad (ad (mu (ad (mu (ad b c) (ad b c)) (mu (ic (-1)) (mu (ad x1 a) (mu (ad x1 (mu (ic (-1)) a)) (ad x1 (mu (ic (-1)) a)))))) (mu (ad (mu (ad b c) (ad b c)) (mu (ic (-1)) (mu (ad x1 a) (mu (ad x1 (mu (ic (-1)) a)) (ad x1 (mu (ic (-1)) a)))))) (ad (mu (ad b c) (ad b c)) (mu (ic (-1)) (mu (ad x1 a) (mu (ad x1 (mu (ic (-1)) a)) (ad x1 (mu (ic (-1)) a)))))))) (mu (ic 7) (mu (mu (ad x1 (mu (ic (-1)) a)) (mu (ad x1 (mu (ic (-1)) a)) (ad x1 (mu (ic (-1)) a)))) (mu (ad x1 (mu (ic (-1)) a)) (mu (ad x1 (mu (ic (-1)) a)) (ad x1 (mu (ic (-1)) a))))))) (mu (ic (-1)) (mu (ad (mu (ad b c) (ad (mu x1 (mu (ad x1 (mu (ic (-1)) a)) (ad x1 (mu (ic (-1)) a)))) (mu (ic (-1)) (ad (mu (ad b c) (ad b c)) (mu (ic (-1)) (mu (ad x1 a) (mu (ad x1 (mu (ic (-1)) a)) (ad x1 (mu (ic (-1)) a))))))))) (mu (ic (-1)) (mu b (mu (ad x1 (mu (ic (-1)) a)) (mu (ad x1 (mu (ic (-1)) a)) (ad x1 (mu (ic (-1)) a))))))) (ad (mu (ad b c) (ad (mu x1 (mu (ad x1 (mu (ic (-1)) a)) (ad x1 (mu (ic (-1)) a)))) (mu (ic (-1)) (ad (mu (ad b c) (ad b c)) (mu (ic (-1)) (mu (ad x1 a) (mu (ad x1 (mu (ic (-1)) a)) (ad x1 (mu (ic (-1)) a))))))))) (mu (ic (-1)) (mu b (mu (ad x1 (mu (ic (-1)) a)) (mu (ad x1 (mu (ic (-1)) a)) (ad x1 (mu (ic (-1)) a)))))))))):=by kernel_rfl
 rw[e]at h;exact h
def YU:List In:=.con 1::.mul 1 1::.con 3::.mul 0 1::.con (-1)::.mul 8 0::.mul 6 0::.mul 7 10::.add 1 0::.mul 12 8::.mul 4 9::.add 1 0::.mul 12 11::.add 0 0::.mul 17 8::.mul 14 14::.con 21::.mul 0 1::.sub 3 0::.add 4 1::.mul 11 1::.mul 9 7::.mul 5 0::.sub 2 0::.mul 4 5::.mul 23 11::.con 63::.mul 0 1::.add 3 0::.mul 17 9::.mul 28 21::.mul 28 0::.add 2 0::.mul 36 36::.mul 34 0::.con 12::.mul 0 1::.mul 33 33::.sub 1 0::.mul 35 0::.mul 6 6::.con 8::.mul 0 1::.sub 3 0::.sub 15 0::[]
theorem aca:LD (2 ^ 200) 16 20 YU=true:=by kernel_rfl
theorem acb{R:Type}[CR R](x1 d f a b c:R)(i:mu a a=cu x1)(g:mu b b=cu d)(h3:mu c c=cu f):(ad (dF (x1,a,ic 1) (x1,mu a (ic (-1)),ic 1)).2.1 (mu (ic (-1)) (ad (mu (mu (ic 3) (mu x1 x1)) (ad (mu (ic 12) (mu x1 (mu a a))) (mu (ic (-1)) (mu (mu (ic 3) (mu x1 x1)) (mu (ic 3) (mu x1 x1)))))) (mu (ic (-1)) (mu (ic 8) (mu (mu a a) (mu a a)))))))=ic 0:=by
 have h:=gq (2 ^ 200) 16 20 aq aq YU aca x1 d f a b c i g h3;have e:(run (Hz R) YU [x1,d,f,a,b,c]).getD 0 (ic 0)=(ad (dF (x1,a,ic 1) (x1,mu a (ic (-1)),ic 1)).2.1 (mu (ic (-1)) (ad (mu (mu (ic 3) (mu x1 x1)) (ad (mu (ic 12) (mu x1 (mu a a))) (mu (ic (-1)) (mu (mu (ic 3) (mu x1 x1)) (mu (ic 3) (mu x1 x1)))))) (mu (ic (-1)) (mu (ic 8) (mu (mu a a) (mu a a))))))):=by kernel_rfl
 rw[e]at h;exact h
def YV:List In:=.con 1::.mul 1 1::.con 3::.mul 0 1::.mul 0 0::.mul 8 8::.mul 6 0::.con 8::.mul 0 1::.sub 4 0::.con 12::.mul 0 4::.sub 0 7::.mul 9 0::.mul 8 8::.mul 7 0::.sub 2 0::.con 4::.mul 0 12::.mul 9 9::.mul 10 0::.mul 2 2::.mul 3 0::.con 7::.mul 0 1::.add 4 0::.mul 9 9::.sub 1 0::[]
theorem acd:LD (2 ^ 200) 16 20 YV=true:=by kernel_rfl
theorem ace{R:Type}[CR R](x1 d f a b c:R)(i:mu a a=cu x1)(g:mu b b=cu d)(h3:mu c c=cu f):(ad (ad (mu (ad (mu (mu (ic 3) (mu x1 x1)) (mu (ic 3) (mu x1 x1))) (mu (ic (-1)) (mu (ic 8) (mu x1 (mu a a))))) (mu (ad (mu (mu (ic 3) (mu x1 x1)) (mu (ic 3) (mu x1 x1))) (mu (ic (-1)) (mu (ic 8) (mu x1 (mu a a))))) (ad (mu (mu (ic 3) (mu x1 x1)) (mu (ic 3) (mu x1 x1))) (mu (ic (-1)) (mu (ic 8) (mu x1 (mu a a))))))) (mu (ic 7) (mu (mu (ic 4) (mu a a)) (mu (mu (ic 4) (mu a a)) (mu (ic 4) (mu a a)))))) (mu (ic (-1)) (mu (ad (mu (mu (ic 3) (mu x1 x1)) (ad (mu (ic 12) (mu x1 (mu a a))) (mu (ic (-1)) (mu (mu (ic 3) (mu x1 x1)) (mu (ic 3) (mu x1 x1)))))) (mu (ic (-1)) (mu (ic 8) (mu (mu a a) (mu a a))))) (ad (mu (mu (ic 3) (mu x1 x1)) (ad (mu (ic 12) (mu x1 (mu a a))) (mu (ic (-1)) (mu (mu (ic 3) (mu x1 x1)) (mu (ic 3) (mu x1 x1)))))) (mu (ic (-1)) (mu (ic 8) (mu (mu a a) (mu a a))))))))=ic 0:=by
 have h:=gq (2 ^ 200) 16 20 aq aq YV acd x1 d f a b c i g h3;have e:(run (Hz R) YV [x1,d,f,a,b,c]).getD 0 (ic 0)=(ad (ad (mu (ad (mu (mu (ic 3) (mu x1 x1)) (mu (ic 3) (mu x1 x1))) (mu (ic (-1)) (mu (ic 8) (mu x1 (mu a a))))) (mu (ad (mu (mu (ic 3) (mu x1 x1)) (mu (ic 3) (mu x1 x1))) (mu (ic (-1)) (mu (ic 8) (mu x1 (mu a a))))) (ad (mu (mu (ic 3) (mu x1 x1)) (mu (ic 3) (mu x1 x1))) (mu (ic (-1)) (mu (ic 8) (mu x1 (mu a a))))))) (mu (ic 7) (mu (mu (ic 4) (mu a a)) (mu (mu (ic 4) (mu a a)) (mu (ic 4) (mu a a)))))) (mu (ic (-1)) (mu (ad (mu (mu (ic 3) (mu x1 x1)) (ad (mu (ic 12) (mu x1 (mu a a))) (mu (ic (-1)) (mu (mu (ic 3) (mu x1 x1)) (mu (ic 3) (mu x1 x1)))))) (mu (ic (-1)) (mu (ic 8) (mu (mu a a) (mu a a))))) (ad (mu (mu (ic 3) (mu x1 x1)) (ad (mu (ic 12) (mu x1 (mu a a))) (mu (ic (-1)) (mu (mu (ic 3) (mu x1 x1)) (mu (ic 3) (mu x1 x1)))))) (mu (ic (-1)) (mu (ic 8) (mu (mu a a) (mu a a)))))))):=by kernel_rfl
 rw[e]at h;exact h
end
section
open CR
section
variable {n:Nat} [NeZero n]
theorem HA(a b:Fin n):ad a b=a+b:=rfl
theorem Gg(a b:Fin n):mu a b=a*b:=rfl
theorem HB:(ic 0:Fin n)=0:=jN 0
theorem P3:(ic 1:Fin n)=1:=jN 1
theorem qO:(ic (-1):Fin n)=-1:=by rw[icm,P3]
theorem RB:(ic 3:Fin n)=3:=jN 3
theorem ic4:(ic 4:Fin n)=4:=jN 4
theorem ic7:(ic 7:Fin n)=7:=jN 7
theorem ic8:(ic 8:Fin n)=8:=jN 8
theorem acf:(ic 12:Fin n)=12:=jN 12
theorem Fe:(ic 21:Fin n)=21:=jN 21
theorem HC:(ic 63:Fin n)=63:=jN 63
structure Fd(n:Nat)[NeZero n] where
 inv:Fin n→Fin n
 hinv:∀a:Fin n,a≠0→a*inv a=1
 inv0:inv 0=0
 one:(1:Fin n)≠0
 two:(2:Fin n)≠0
 cub:∀x:Fin n,x*x*x+7≠0
theorem Fd.nzd(f:Fd n){a b:Fin n}(h:a*b=0):a=0∨b=0:=by
 by_cases c:a=0;exact .inl c;have:=f.hinv a c;refine .inr ?_;generalize f.inv a=i at *
 grobner
theorem Fd.mul_ne(f:Fd n){a b:Fin n}(d:a≠0)(c:b≠0):a*b≠0:=fun h=>(f.nzd h).elim d c
theorem Fd.eight(f:Fd n):(8:Fin n)≠0:=by
 have e:(8:Fin n)=2*(2*2):=by grobner
 rw[e];exact f.mul_ne f.two (f.mul_ne f.two f.two)
theorem Fd.four(f:Fd n):(4:Fin n)≠0:=by
 have e:(4:Fin n)=2*2:=by grobner
 rw[e];exact f.mul_ne f.two f.two
abbrev Pt(n:Nat):=Option (Fin n×Fin n)
def kV:Pt n→Prop
 |none=>True
 |some p=>p.2*p.2=p.1*p.1*p.1+7
theorem cJ{x y:Fin n}(h:kV (some (x,y))):mu y y=cu x:=by
 have a:y*y=x*x*x+7:=h;show y*y=x*(x*x)+ic 7;rw[ic7];grobner
theorem Fd.y_ne(f:Fd n){x y:Fin n}(h:kV (some (x,y))):y≠0:=by
 intro a;have b:y*y=x*x*x+7:=h;rw[a]at b;exact f.cub x (by grobner)
abbrev CO(n:Nat):=Fin n×Fin n×Fin n
def pr:Pt n→CO n
 |none=>(ic 0,ic 1,ic 0)
 |some p=>(p.1,p.2,ic 1)
def nm(f:Fd n)(t:CO n):Pt n:=if t.2.2=0 then none else some (t.1*f.inv t.2.2,t.2.1*f.inv t.2.2)
def sum(f:Fd n)(P Q:Pt n):Pt n:=nm f (dF (pr P) (pr Q))
def sc(k:Fin n)(t:CO n):CO n:=(k*t.1,k*t.2.1,k*t.2.2)
def nz(t:CO n):Prop:=¬(t.1=0∧t.2.1=0∧t.2.2=0)
def hc(t:CO n):Prop:=t.2.1*(t.2.1*t.2.2)=t.1*(t.1*t.1)+7*(t.2.2*(t.2.2*t.2.2))
theorem HD(k l:Fin n)(u v:CO n):dF (sc k u) (sc l v)=sc (k*k*(l*l)) (dF u v):=by
 obtain⟨a,b,c⟩:=u;obtain⟨d,e,g⟩:=v;simp only[dF,sc,HA,Gg,qO,Fe,HC,RB];refine Prod.ext ?_ (Prod.ext ?_ ?_);dsimp only;grobner;dsimp only;grobner;dsimp only;grobner
theorem Ff(u v:CO n):dF u v=dF v u:=by
 obtain⟨a,b,c⟩:=u;obtain⟨d,e,g⟩:=v;simp only[dF,HA,Gg,qO,Fe,HC,RB];refine Prod.ext ?_ (Prod.ext ?_ ?_);dsimp only;grobner;dsimp only;grobner;dsimp only;grobner
theorem yp(f:Fd n)(P Q:Pt n):sum f P Q=sum f Q P:=by rw[sum,sum,Ff]
theorem acg(f:Fd n){t:CO n}(e:hc t)(d:nz t):∃k,k≠0∧t=sc k (pr (nm f t)):=by
 obtain⟨x,y,z⟩:=t;by_cases a:z=0;have b:x=0:=by
  have:x*(x*x)=0:=by
   have g:y*(y*z)=x*(x*x)+7*(z*(z*z)):=e;rw[a]at g;grobner
  rcases f.nzd this with h|h;exact h;exact(f.nzd h).elim id id
 refine⟨y,fun c=>d ⟨b,c,a⟩,?_⟩;simp only[nm,pr,sc,HB,P3,b,a];refine Prod.ext ?_ (Prod.ext ?_ ?_);dsimp only;grobner;dsimp only;grobner;dsimp only;grobner;refine⟨z,a,?_⟩;have j:=f.hinv z a;simp only[nm,if_neg a,pr,sc,P3];generalize f.inv z=i at *;refine Prod.ext ?_ (Prod.ext ?_ ?_);dsimp only;grobner;dsimp only;grobner;dsimp only;grobner
theorem ach(f:Fd n){t:CO n}(b:hc t):kV (nm f t):=by
 obtain⟨x,y,z⟩:=t;by_cases a:z=0;simp[nm,a,kV];have e:=f.hinv z a;have c:y*(y*z)=x*(x*x)+7*(z*(z*z)):=b;simp only[nm,if_neg a,kV];generalize f.inv z=i at *;have d:(y*(y*z))*(i*i*i)=(x*(x*x)+7*(z*(z*z)))*(i*i*i):=by rw[c]
 grobner
theorem YW(f:Fd n){A B:Pt n}(g:(pr A).1*(pr B).2.2=(pr A).2.2*(pr B).1)(c:(pr A).2.1*(pr B).2.2=(pr A).2.2*(pr B).2.1):A=B:=by
 cases A with
 | none=>cases B with
  |none=>rfl
  |some b =>
   simp only[pr,HB,P3]at c;exact absurd (by grobner) f.one
 | some a=>cases B with
  |none =>
   simp only[pr,HB,P3]at c;exact absurd (by grobner) f.one
  |some b =>
   obtain⟨x,y⟩:=a;obtain⟨d,h⟩:=b;simp only[pr,P3]at g c;have e:x=d:=by grobner
   have i:y=h:=by grobner
   rw[e,i]
theorem iN(f:Fd n){Q:Pt n}(h:kV Q):sum f none Q=Q:=by
 cases Q with
 |none =>
  have e:(dF (pr (none:Pt n)) (pr none)).2.2=0:=by simp only[dF,pr,HA,Gg,HB,P3,qO,Fe,HC,RB];grobner
  rw[sum,nm,if_pos e]
 | some q =>
  obtain⟨x,y⟩:=q;have a:=f.y_ne h;have d:=f.hinv y a;have e:dF (pr (none:Pt n)) (pr (some (x,y)))=(x*y,y*y,y):=by
   simp only[dF,pr,HA,Gg,HB,P3,qO,Fe,HC,RB];refine Prod.ext ?_ (Prod.ext ?_ ?_);dsimp only;grobner;dsimp only;grobner;dsimp only;grobner
  rw[sum,nm,e,if_neg a];generalize f.inv y=i at *;have b:x*y*i=x:=by grobner
  have c:y*y*i=y:=by grobner
  simp only[b,c]
theorem mf(f:Fd n){Q:Pt n}(h:kV Q):sum f Q none=Q:=by rw[yp,iN f h]
theorem P4(x1 a c b:Fin n)(d:kV (some (x1,a)))(e:kV (some (c,b))):hc (dF (x1,a,ic 1) (c,b,ic 1)):=by
 have h:=abV x1 c x1 a b a (cJ d) (cJ e) (cJ d);simp only[HA,Gg,qO,HB,ic7]at h;show _=_;generalize dF (x1,a,ic 1) (c,b,ic 1)=t at *
 grobner
theorem aeC{g w:Fin n}(k:g*(g*g)+7*(w*w*w)+-1*(0*0)=0):g*(g*g)+7*(w*w*w)=0:=by grobner
theorem aeD{g w i:Fin n}(b:w*i=1)(a:g*(g*g)+7*(w*w*w)=0):g*i*(g*i)*(g*i)+7=0:=by
 have c:w*w*w*(i*i*i)=1:=by
  have:w*w*w*(i*i*i)=(w*i)*(w*i)*(w*i):=by grobner
  rw[this,b];grobner
 have d:(g*(g*g)+7*(w*w*w))*(i*i*i)=0:=by rw[a];grobner
 grobner
theorem P5(f:Fd n)(x1 c e j:Fin n)(l:kV (some (x1,c)))(p:kV (some (e,j))):nz (dF (x1,c,ic 1) (e,j,ic 1)):=by
 rintro⟨F,y,u⟩;by_cases x:x1=e;subst x;have m:(c-j)*(c+j)=0:=by
  have a:c*c=x1*x1*x1+7:=l;have b:j*j=x1*x1*x1+7:=p
  grobner
 rcases f.nzd m with m|m;have o:j=c:=by grobner
 subst o;have h:=ab5 x1 x1 x1 j j j (cJ l) (cJ l) (cJ l);simp only[HA,Gg,qO,HB,ic8]at h;rw[u]at h;have m:=f.y_ne l;exact f.mul_ne f.eight (f.mul_ne m (f.mul_ne m m)) (by grobner);have o:j=-c:=by grobner
 subst o;have h:=acb x1 x1 x1 c c c (cJ l) (cJ l) (cJ l);have B:mu c (ic (-1))=-c:=by rw[qO,Gg];grobner
 rw[B]at h;have k:=ace x1 x1 x1 c c c (cJ l) (cJ l) (cJ l);simp only[HA,Gg,qO,HB,RB,ic4,ic7,ic8,acf]at h k;rw[y]at h;have m:=f.y_ne l;have A:=f.mul_ne f.four (f.mul_ne m m);have q:=f.hinv _ A;generalize f.inv (4*(c*c))=i at *;generalize z:3*(x1*x1)*(3*(x1*x1))+-1*(8*(x1*(c*c)))=g at *;generalize G:3*(x1*x1)*(12*(x1*(c*c))+-1*(3*(x1*x1)*(3*(x1*x1))))+-1*(8*(c*c*(c*c)))=kk at *;generalize 4*(c*c)=w at *;have s:kk=0:=by grobner
 rw[s]at k;refine f.cub (g*i) ?_;have p:(g*(g*g)+7*(w*(w*w)))*(i*i*i)=0:=by
  have:g*(g*g)+7*(w*(w*w))=0:=by grobner
  rw[this];grobner
 have D:w*w*w*(i*i*i)=1:=by
  have:w*w*w*(i*i*i)=(w*i)*(w*i)*(w*i):=by grobner
  rw[this,q];grobner
 grobner
 ·have h:=ab7 x1 e x1 c j c (cJ l) (cJ p) (cJ l);have k:=ab9 x1 e x1 c j c (cJ l) (cJ p) (cJ l);simp only[HA,Gg,qO,HB,ic7]at h k;rw[u]at h;have v:x1+-1*e≠0:=fun h=>x (by grobner);have C:=f.mul_ne v v;have q:=f.hinv _ C;generalize f.inv ((x1+-1*e)*(x1+-1*e))=i at *;generalize E:(c+j)*(x1*((x1+-1*e)*(x1+-1*e))+-1*((c+j)*(c+j)+-1*((x1+e)*((x1+-1*e)*(x1+-1*e)))))+-1*(c*((x1+-1*e)*((x1+-1*e)*(x1+-1*e))))=N at *;generalize z:(c+j)*(c+j)+-1*((x1+e)*((x1+-1*e)*(x1+-1*e)))=g at *;have r:N=0:=by grobner
  rw[r]at k;have t:(x1+-1*e)*((x1+-1*e)*(x1+-1*e))*((x1+-1*e)*((x1+-1*e)*(x1+-1*e)))=((x1+-1*e)*(x1+-1*e))*((x1+-1*e)*(x1+-1*e))*((x1+-1*e)*(x1+-1*e)):=by
   generalize x1+-1*e=d at *
   grobner
  rw[t]at k;generalize(x1+-1*e)*(x1+-1*e)=w at *;exact f.cub (g*i) (aeD q (aeC k))
theorem YX(f:Fd n)(x1 c b a:Fin n)(e:kV (some (x1,c)))(d:kV (some (b,a))):∃k,k≠0∧dF (x1,c,ic 1) (b,a,ic 1)=sc k (pr (sum f (some (x1,c)) (some (b,a)))) :=
 acg f (P4 x1 c b a e d) (P5 f x1 c b a e d)
theorem rO(f:Fd n){P Q:Pt n}(b:kV P)(a:kV Q):kV (sum f P Q):=by
 cases P with
 |none=>rw[iN f a];exact a
 |some p=>cases Q with
  |none=>rw[mf f b];exact b
  |some q=>exact ach f (P4 _ _ _ _ b a)
theorem yq(f:Fd n){P Q:Pt n}(c:kV P)(a:kV Q):∃k,k≠0∧dF (pr P) (pr Q)=sc k (pr (sum f P Q)):=by
 have one:∀t:CO n,sc 1 t=t:=fun t=>by
  simp only[sc];refine Prod.ext ?_ (Prod.ext ?_ ?_);dsimp only;grobner;dsimp only;grobner;dsimp only;grobner
 have b:∀{Q:Pt n},kV Q→∃k,k≠0∧dF (pr none) (pr Q)=sc k (pr Q):=by
  intro Q a;cases Q with
  |none =>
   refine⟨1,f.one,?_⟩;simp only[dF,pr,sc,HA,Gg,HB,P3,qO,Fe,HC,RB];refine Prod.ext ?_ (Prod.ext ?_ ?_);dsimp only;grobner;dsimp only;grobner;dsimp only;grobner
  |some q =>
   obtain⟨x,y⟩:=q;refine⟨y,f.y_ne a,?_⟩;simp only[dF,pr,sc,HA,Gg,HB,P3,qO,Fe,HC,RB];refine Prod.ext ?_ (Prod.ext ?_ ?_);dsimp only;grobner;dsimp only;grobner;dsimp only;grobner
 cases P with
 |none=>rw[iN f a];exact b a
 |some p=>cases Q with
  |none=>rw[mf f c,Ff];exact b c
  |some q=>exact YX f _ _ _ _ c a
theorem P6(k l:Fin n)(t:CO n):sc k (sc l t)=sc (k*l) t:=by
 simp only[sc];refine Prod.ext ?_ (Prod.ext ?_ ?_);dsimp only;grobner;dsimp only;grobner;dsimp only;grobner
theorem jj(f:Fd n){P Q R:Pt n}(u:kV P)(k:kV Q)(s:kV R):sum f (sum f P Q) R=sum f P (sum f Q R):=by
 have x:=rO f u k;have v:=rO f k s;have one:∀t:CO n,sc 1 t=t:=fun t=>by
  simp only[sc];refine Prod.ext ?_ (Prod.ext ?_ ?_);dsimp only;grobner;dsimp only;grobner;dsimp only;grobner
 cases P with
 |none=>rw[iN f k,iN f v]
 | some p=>cases Q with
  |none=>rw[mf f u,iN f s]
  | some q=>cases R with
   |none=>rw[mf f x,mf f k]
   | some r =>
    obtain⟨i,g⟩:=p;obtain⟨d,j⟩:=q;obtain⟨e,c⟩:=r;obtain⟨o,y,N⟩:=yq f u k;obtain⟨k2,F,T⟩:=yq f x s;obtain⟨k3,w,L⟩:=yq f k s;obtain⟨k4,E,S⟩:=yq f u v;have J:=abR i d e g j c (cJ u) (cJ k) (cJ s);have I:=abT i d e g j c (cJ u) (cJ k) (cJ s);have M:dF (dF (i,g,ic 1) (d,j,ic 1)) (e,c,ic 1)=sc (o*o*(1*1)*k2) (pr (sum f (sum f (some (i,g)) (some (d,j))) (some (e,c)))):=by
     have G:dF (i,g,ic 1) (d,j,ic 1)=sc o (pr (sum f (some (i,g)) (some (d,j)))):=N;have C:dF (pr (sum f (some (i,g)) (some (d,j)))) (e,c,ic 1)=sc k2 (pr (sum f (sum f (some (i,g)) (some (d,j))) (some (e,c)))):=T;rw[G,show((e,c,ic 1):CO n)=sc 1 (e,c,ic 1)from(one _).symm,HD,C,P6]
    have O:dF (i,g,ic 1) (dF (d,j,ic 1) (e,c,ic 1))=sc (1*1*(k3*k3)*k4) (pr (sum f (some (i,g)) (sum f (some (d,j)) (some (e,c))))):=by
     have D:dF (d,j,ic 1) (e,c,ic 1)=sc k3 (pr (sum f (some (d,j)) (some (e,c)))):=L;have H:dF (i,g,ic 1) (pr (sum f (some (d,j)) (some (e,c))))=sc k4 (pr (sum f (some (i,g)) (sum f (some (d,j)) (some (e,c))))):=S;rw[D,show((i,g,ic 1):CO n)=sc 1 (i,g,ic 1)from(one _).symm,HD,H,P6]
    have K:o*o*(1*1)*k2≠0:=f.mul_ne (f.mul_ne (f.mul_ne y y) (f.mul_ne f.one f.one)) F;have U:1*1*(k3*k3)*k4≠0:=f.mul_ne (f.mul_ne (f.mul_ne f.one f.one) (f.mul_ne w w)) E;rw[M,O]at J I;generalize o*o*(1*1)*k2=l at *;generalize 1*1*(k3*k3)*k4=m at *;generalize sum f (sum f (some (i,g)) (some (d,j))) (some (e,c))=A at *;generalize sum f (some (i,g)) (sum f (some (d,j)) (some (e,c)))=B at *;simp only[sc,HA,Gg,qO,HB]at J I;have z:=f.mul_ne K U;refine YW f ?_ ?_;have:l*m*((pr A).1*(pr B).2.2-(pr A).2.2*(pr B).1)=0:=by
     generalize pr A=a at *;generalize pr B=b at *
     grobner
    rcases f.nzd this with h|h;exact absurd h z;generalize pr A=a at *;generalize pr B=b at *
    grobner
    ·have:l*m*((pr A).2.1*(pr B).2.2-(pr A).2.2*(pr B).2.1)=0:=by
      generalize pr A=a at *;generalize pr B=b at *
      grobner
     rcases f.nzd this with h|h;exact absurd h z;generalize pr A=a at *;generalize pr B=b at *
     grobner
end
end
section
open CR
section
variable {n:Nat} [NeZero n]
theorem UQ{c g T x S:Fin n}(k:T*c-g*S=0)(a:x*c=g):c*(T-x*S)=0:=by
 have:c*(T-x*S)=(T*c-g*S)+(g-x*c)*S:=by grobner
 rw[this,k,a];grobner
theorem yr{a b:Fin n}(h:a-b=0):a=b:=by grobner
theorem aeE{x x1 a y m:Fin n}(c:x*(4*(a*a))=m*m-8*(x1*(a*a)))(b:y*(2*a)=m*(x1-x)-a*(2*a)):y*(8*(a*(a*a)))=m*(12*(x1*(a*a))-m*m)-8*(a*a*(a*a)):=by
 have d:y*(8*(a*(a*a)))=(y*(2*a))*(4*(a*a)):=by clear c b;grobner
 have e:(m*(x1-x)-a*(2*a))*(4*(a*a))=m*(x1*(4*(a*a))-x*(4*(a*a)))-8*(a*a*(a*a)):=by clear c b d;grobner
 rw[d,b,e,c];clear c b d e
 grobner
theorem aeF{x x1 a y d e g:Fin n}(c:x*(d*d)=g)(b:y*d=e*(x1-x)-a*d):y*(d*(d*d))=e*(x1*(d*d)-g)-a*(d*(d*d)):=by
 have f:y*(d*(d*d))=(y*d)*(d*d):=by clear c b;grobner
 have h:(e*(x1-x)-a*d)*(d*d)=e*(x1*(d*d)-x*(d*d))-a*(d*(d*d)):=by clear c b f;grobner
 rw[f,b,h,c]
theorem P7(f:Fd n){x1 d c g:Fin n}(o:kV (some (x1,d)))(m:kV (some (c,g))){x y:Fin n}(k:(dF (x1,d,ic 1) (c,g,ic 1)).1=x*(dF (x1,d,ic 1) (c,g,ic 1)).2.2)(j:(dF (x1,d,ic 1) (c,g,ic 1)).2.1=y*(dF (x1,d,ic 1) (c,g,ic 1)).2.2):sum f (some (x1,d)) (some (c,g))=some (x,y):=by
 have l:=P5 f x1 d c g o m;have e:sum f (some (x1,d)) (some (c,g))=nm f (dF (x1,d,ic 1) (c,g,ic 1)):=rfl;rw[e];generalize dF (x1,d,ic 1) (c,g,ic 1)=t at *;obtain⟨X,Y,Z⟩:=t;dsimp only at k j;have h:Z≠0:=fun h=>l ⟨by dsimp only;rw[k,h];grobner,by dsimp only;rw[j,h];grobner,h⟩;have p:=f.hinv Z h;rw[nm,if_neg h];generalize f.inv Z=i at *;have a:X*i=x:=by grobner
 have b:Y*i=y:=by grobner
 dsimp only;rw[a,b]
theorem LF(f:Fd n){x1 d c e:Fin n}(i:kV (some (x1,d)))(l:kV (some (c,e)))(g:c-x1≠0){x y:Fin n}
  (m:x*((c-x1)*(c-x1))=(e-d)*(e-d)-(x1+c)*((c-x1)*(c-x1)))
  (o:y*(c-x1)=(e-d)*(x1-x)-d*(c-x1)):sum f (some (x1,d)) (some (c,e))=some (x,y):=by
 have j:=abX x1 c x1 d e d (cJ i) (cJ l) (cJ i);have k:=abZ x1 c x1 d e d (cJ i) (cJ l) (cJ i);simp only[HA,Gg,qO,HB]at j k;have p:∀a b:Fin n,a+-1*b=a-b:=fun a b=>by grobner
 simp only[p]at j k;refine P7 f i l ?_ ?_;rcases f.nzd (UQ j m)with h|h;exact absurd h (f.mul_ne g g);exact yr h;rcases f.nzd (UQ k (aeF m o))with h|h;exact absurd h (f.mul_ne g (f.mul_ne g g));exact yr h
theorem HE(f:Fd n){x1 c:Fin n}(e:kV (some (x1,c))){x y:Fin n}
  (j:x*(4*(c*c))=3*(x1*x1)*(3*(x1*x1))-8*(x1*(c*c)))
  (k:y*(2*c)=3*(x1*x1)*(x1-x)-c*(2*c)):sum f (some (x1,c)) (some (x1,c))=some (x,y):=by
 have d:=f.y_ne e;have g:=ab1 x1 x1 x1 c c c (cJ e) (cJ e) (cJ e);have i:=ab3 x1 x1 x1 c c c (cJ e) (cJ e) (cJ e);simp only[HA,Gg,qO,HB,RB,ic4,ic8,acf]at g i;have l:∀a b:Fin n,a+-1*b=a-b:=fun a b=>by grobner
 simp only[l]at g i;refine P7 f e e ?_ ?_;rcases f.nzd (UQ g j)with h|h;exact absurd h (f.mul_ne f.four (f.mul_ne d d));exact yr h;rcases f.nzd (UQ i (aeE j k))with h|h;exact absurd h (f.mul_ne f.eight (f.mul_ne d (f.mul_ne d d)));exact yr h
theorem UR(f:Fd n){x y:Fin n}(a:kV (some (x,y))):sum f (some (x,y)) (some (x,-y))=none:=by
 have:(dF (x,y,ic 1) (x,-y,ic 1)).2.2=0:=by
  simp only[dF,HA,Gg,P3,qO,Fe,RB];grobner
 show nm f (dF (x,y,ic 1) (x,-y,ic 1))=none;rw[nm,if_pos this]
def ng:Pt n→Pt n
 |none=>none
 |some p=>some (p.1,-p.2)
def mp(f:Fd n):Nat→Pt n→Pt n
 |0,_=>none
 |k+1,P=>sum f (mp f k P) P
theorem qV(f:Fd n){P:Pt n}(h:kV P):∀k,kV (mp f k P)
 |0=>trivial
 |k+1=>rO f (qV f h k) h
theorem HF(f:Fd n){P:Pt n}(h:kV P)(a:Nat):∀b,mp f (a+b) P=sum f (mp f a P) (mp f b P)
 |0=>(mf f (qV f h a)).symm
 |b+1=>by rw[←Nat.add_assoc,mp,HF f h a b,mp,jj f (qV f h a) (qV f h b) h]
theorem HG(f:Fd n){P:Pt n}(h:kV P)(a:Nat):mp f (2*a) P=sum f (mp f a P) (mp f a P):=by rw[Nat.two_mul,HF f h]
theorem aci(f:Fd n){A B C D:Pt n}(d:kV A)(a:kV B)(b:kV C)(c:kV D):sum f (sum f A B) (sum f C D)=sum f (sum f A C) (sum f B D):=by
 rw[jj f d a (rO f b c),←jj f a b c,yp f B C,jj f b a c,←jj f d b (rO f a c)]
def tc(f:Fd n)(x y z:Fin n):Pt n:=if z=0 then none else some (x*(f.inv z*f.inv z),y*(f.inv z*f.inv z*f.inv z))
theorem Fg(f:Fd n)(x y:Fin n):tc f x y 0=none:=by simp[tc]
theorem CP(f:Fd n){x y z a b:Fin n}(hz:z≠0)(g:x=a*(z*z))(d:y=b*(z*z*z)):tc f x y z=some (a,b):=by
 have c:=f.hinv z hz;rw[tc,if_neg hz];generalize f.inv z=i at *;have e:x*(i*i)=a:=by
  have:x*(i*i)=a*((z*i)*(z*i)):=by rw[g];grobner
  rw[this,c];grobner
 have h:y*(i*i*i)=b:=by
  have:y*(i*i*i)=b*((z*i)*(z*i)*(z*i)):=by rw[d];grobner
  rw[this,c];grobner
 rw[e,h]
theorem HH(f:Fd n)(x y:Fin n){z:Fin n}(hz:z≠0):∃a b,x=a*(z*z)∧y=b*(z*z*z)∧tc f x y z=some (a,b):=by
 have d:=f.hinv z hz;have c:x=x*(f.inv z*f.inv z)*(z*z):=by
  have:x*(f.inv z*f.inv z)*(z*z)=x*((z*f.inv z)*(z*f.inv z)):=by grobner
  rw[this,d];grobner
 have e:y=y*(f.inv z*f.inv z*f.inv z)*(z*z*z):=by
  have:y*(f.inv z*f.inv z*f.inv z)*(z*z*z)=y*((z*f.inv z)*(z*f.inv z)*(z*f.inv z)):=by grobner
  rw[this,d];grobner
 exact⟨_,_,c,e,CP f hz c e⟩
theorem YY(f:Fd n){a b:Fin n}(j:kV (some (a,b))):∃x y,x*(4*(b*b))=3*(a*a)*(3*(a*a))-8*(a*(b*b))∧y*(2*b)=3*(a*a)*(a-x)-b*(2*b)∧sum f (some (a,b)) (some (a,b))=some (x,y):=by
 have h:=f.y_ne j;have d:=f.hinv _ (f.mul_ne f.four (f.mul_ne h h));have i2:=f.hinv _ (f.mul_ne f.two h);have e:(3*(a*a)*(3*(a*a))-8*(a*(b*b)))*f.inv (4*(b*b))*(4*(b*b))=3*(a*a)*(3*(a*a))-8*(a*(b*b)):=by
  generalize 3*(a*a)*(3*(a*a))-8*(a*(b*b))=g at *;generalize f.inv (4*(b*b))=i at *;generalize 4*(b*b)=c at *;have:g*i*c=g*(c*i):=by clear d i2;grobner
  rw[this,d];clear d i2 this;grobner
 have k:∀g:Fin n,g*f.inv (2*b)*(2*b)=g:=by
  intro g;generalize f.inv (2*b)=i at *;generalize 2*b=c at *;have:g*i*c=g*(c*i):=by clear d i2 e;grobner
  rw[this,i2];clear d i2 this e;grobner
 exact⟨_,_,e,k _,HE f j e (k _)⟩
theorem aeG{a b z x y:Fin n}(e:x*(4*(b*b))=3*(a*a)*(3*(a*a))-8*(a*(b*b)))(c:y*(2*b)=3*(a*a)*(a-x)-b*(2*b)) :
  3*(a*(z*z)*(a*(z*z)))*(3*(a*(z*z)*(a*(z*z))))-2*(4*(a*(z*z)*(b*(z*z*z)*(b*(z*z*z)))))=x*(2*(b*(z*z*z)*z)*(2*(b*(z*z*z)*z))) ∧
  3*(a*(z*z)*(a*(z*z)))*(4*(a*(z*z)*(b*(z*z*z)*(b*(z*z*z))))-x*(2*(b*(z*z*z)*z)*(2*(b*(z*z*z)*z))))-8*(b*(z*z*z)*(b*(z*z*z))*(b*(z*z*z)*(b*(z*z*z))))=y*(2*(b*(z*z*z)*z)*(2*(b*(z*z*z)*z))*(2*(b*(z*z*z)*z))):=by
 refine⟨?_,?_⟩;have d:x*(2*(b*(z*z*z)*z)*(2*(b*(z*z*z)*z)))=(x*(4*(b*b)))*(z*z*z*z*(z*z*z*z)):=by clear e c;grobner
 rw[d,e];clear e c d
 grobner
 ·have d:y*(2*(b*(z*z*z)*z)*(2*(b*(z*z*z)*z))*(2*(b*(z*z*z)*z)))=(y*(2*b))*(4*(b*b))*(z*z*z*z*(z*z*z*z)*(z*z*z*z)):=by clear e c;grobner
  rw[d,c];clear e c d
  grobner
theorem yt(f:Fd n){x y z:Fin n}(hz:z≠0)(d:kV (tc f x y z)) :
  2*(y*z)≠0∧y≠0∧tc f (3*(x*x)*(3*(x*x))-2*(4*(x*(y*y)))) (3*(x*x)*(4*(x*(y*y))-(3*(x*x)*(3*(x*x))-2*(4*(x*(y*y)))))-8*(y*y*(y*y))) (2*(y*z))=sum f (tc f x y z) (tc f x y z):=by
 obtain⟨a,b,m,g,e⟩:=HH f x y hz;rw[e]at d⊢;have o:=f.y_ne d;have c:y≠0:=by
  rw[g];exact f.mul_ne o (f.mul_ne (f.mul_ne hz hz) hz)
 have h:2*(y*z)≠0:=f.mul_ne f.two (f.mul_ne c hz);refine⟨h,c,?_⟩;obtain⟨X,Y,j,k,l⟩:=YY f d;obtain⟨i,p⟩:=aeG (z:=z) j k;rw[l];subst m g;exact CP f h i (by rw[i];exact p)
theorem P8(f:Fd n){x1 b a d:Fin n}(l:kV (some (x1,b)))(k:kV (some (a,d)))(h:a-x1≠0):∃x y,x*((a-x1)*(a-x1))=(d-b)*(d-b)-(x1+a)*((a-x1)*(a-x1))∧y*(a-x1)=(d-b)*(x1-x)-b*(a-x1)∧sum f (some (x1,b)) (some (a,d))=some (x,y):=by
 have i2:=f.hinv _ h;have e:∀g:Fin n,g*f.inv (a-x1)*(a-x1)=g:=by
  intro g;generalize f.inv (a-x1)=i at *;generalize a-x1=c at *;have:g*i*c=g*(c*i):=by clear i2;grobner
  rw[this,i2];clear i2 this;grobner
 have j:∀g:Fin n,g*(f.inv (a-x1)*f.inv (a-x1))*((a-x1)*(a-x1))=g:=by
  intro g;generalize f.inv (a-x1)=i at *;generalize a-x1=c at *;have:g*(i*i)*(c*c)=g*((c*i)*(c*i)):=by clear i2 e;grobner
  rw[this,i2];clear i2 this e;grobner
 exact⟨_,_,j _,e _,LF f l k h (j _) (e _)⟩
theorem aeH{a b a' b' z z' x y:Fin n}(j:x*((a'-a)*(a'-a))=(b'-b)*(b'-b)-(a+a')*((a'-a)*(a'-a)))(i:y*(a'-a)=(b'-b)*(a-x)-b*(a'-a)){p u2 q s h r:Fin n}
  (c:p=a*(z*z)*(z'*z')) (f:u2=a'*(z'*z')*(z*z)) (d:q=b*(z*z*z)*(z'*z'*z')) (e:s=b'*(z'*z'*z')*(z*z*z)) (o:h=u2-p) (l:r=s-q) :
  r*r-h*h*h-2*(p*(h*h))=x*(h*(z*z')*(h*(z*z')))∧r*(p*(h*h)-x*(h*(z*z')*(h*(z*z'))))-q*(h*h*h)=y*(h*(z*z')*(h*(z*z'))*(h*(z*z'))):=by
 have g:h=(a'-a)*(z*z*(z'*z')):=by rw[o,c,f];clear j i;grobner
 have k:r=(b'-b)*(z*z*z*(z'*z'*z')):=by rw[l,d,e];clear j i g;grobner
 refine⟨?_,?_⟩;have m:x*(h*(z*z')*(h*(z*z')))=(x*((a'-a)*(a'-a)))*(z*z*z*(z'*z'*z')*(z*z*z*(z'*z'*z'))):=by rw[g];clear j i g k o l c f d e;grobner
 rw[m,j,g,k,c];clear j i m g k o l c f d e
 grobner
 ·have m:y*(h*(z*z')*(h*(z*z'))*(h*(z*z')))=(y*(a'-a))*((a'-a)*(a'-a))*(z*z*z*(z'*z'*z')*(z*z*z*(z'*z'*z'))*(z*z*z*(z'*z'*z'))):=by rw[g];clear j i g k o l c f d e;grobner
  rw[m,i,g,k,c,d];clear j i m g k o l c f d e
  grobner
theorem P9(f:Fd n){x y z F E z' G u2 M S h r:Fin n}(hz:z≠0)(m:z'≠0)(p:kV (tc f x y z))(c:kV (tc f F E z'))
  (j:G=x*(z'*z')) (i:u2=F*(z*z)) (k:M=y*(z'*z'*z')) (d:S=E*(z*z*z)) (C:h=u2-G) (B:r=S-M) :
  (h≠0→tc f (r*r-h*h*h-2*(G*(h*h))) (r*(G*(h*h)-(r*r-h*h*h-2*(G*(h*h))))-M*(h*h*h)) (h*(z*z'))=sum f (tc f x y z) (tc f F E z')) ∧
  (h=0→r=0→tc f x y z=tc f F E z')∧(h=0→r≠0→sum f (tc f x y z) (tc f F E z')=none):=by
 obtain⟨a,b,v,u,e⟩:=HH f x y hz;obtain⟨s,o,l,g,w⟩:=HH f F E m;rw[e]at p⊢;rw[w]at c⊢;rw[v]at j;rw[l]at i;rw[u]at k;rw[g]at d;have t:h=(s-a)*(z*z*(z'*z')):=by rw[C,j,i];clear v u l g e w p c;grobner
 have A:r=(o-b)*(z*z*z*(z'*z'*z')):=by rw[B,k,d];clear v u l g e w p c t;grobner
 have H:=f.mul_ne (f.mul_ne hz hz) (f.mul_ne m m);have I:=f.mul_ne (f.mul_ne (f.mul_ne hz hz) hz) (f.mul_ne (f.mul_ne m m) m);refine⟨fun D=>?_,fun D L=>?_,fun D L=>?_⟩;have W:s-a≠0:=fun q=>D (by rw[t,q];clear v u l g e w p c t A j i k d C B;grobner);obtain⟨X,Y,T,U,V⟩:=P8 f p c W;obtain⟨Q,a2⟩:=aeH (z:=z) (z':=z') T U j i k d C B;rw[V];exact CP f (f.mul_ne D (f.mul_ne hz m)) Q (by rw[Q];exact a2);have O:s-a=0:=(f.nzd (t.symm.trans D)).resolve_right H;have N:o-b=0:=(f.nzd (A.symm.trans L)).resolve_right I;rw[yr O,yr N];have O:s-a=0:=(f.nzd (t.symm.trans D)).resolve_right H;have N:o-b≠0:=fun q=>L (by rw[A,q];clear v u l g e w p c t A j i k d C B;grobner);have Z:=yr O;subst Z;have K:b*b=s*s*s+7:=p;have J:o*o=s*s*s+7:=c;have P:(o-b)*(o+b)=0:=by
  have:(o-b)*(o+b)=o*o-b*b:=by clear v u l g e w p c t A j i k d C B K J;grobner
  rw[this,K,J];clear v u l g e w p c t A j i k d C B K J this;grobner
 have h4:o+b=0:=(f.nzd P).resolve_left N;have h5:o=-b:=by clear v u l g e w p c t A j i k d C B K J P;grobner
 rw[h5];exact UR f p
end
end
def Prm(r:Nat):Prop:=2≤r∧∀d,d∣r→d=1∨d=r
theorem Prm.cop{r a:Nat}(h:Prm r)(c:¬r∣a):Nat.Coprime r a:=by
 have b:=Nat.gcd_dvd_left r a;rcases h.2 _ b with e|e;exact e;exact absurd (e▸Nat.gcd_dvd_right r a) c
theorem Prm.mul{r a b:Nat}(h:Prm r)(d:r∣a*b):r∣a∨r∣b:=by
 by_cases c:r∣a;exact .inl c;exact .inr ((h.cop c).dvd_of_dvd_mul_left d)
theorem Qa:∀(k n:Nat),n≤k→2≤n→∃r,Prm r∧r∣n
 |0,n,h1,h2=>by omega
 | k+1,n,h1,h2=>by
  by_cases h:∃d,d∣n∧d≠1∧d≠n;obtain⟨d,a,m,i⟩:=h;have b:0<n:=aq;have o:=Nat.le_of_dvd b a;have j:d≠0:=fun e=>by subst e;have:=Nat.eq_zero_of_zero_dvd a;omega
  obtain⟨r,l,c⟩:=Qa k d aq aq;exact⟨r,l,Nat.dvd_trans c a⟩;refine⟨n,⟨h2,fun d a=>?_⟩,Nat.dvd_refl n⟩;by_cases f:d=1;exact .inl f;by_cases g:d=n;exact .inr g;exact absurd ⟨d,a,f,g⟩ h
def ch:Nat→Nat→Nat
 |_,0=>1
 |0,_+1=>0
 |n+1,k+1=>ch n k+ch n (k+1)
theorem Jz:∀n k,n<k→ch n k=0
 |0,k+1,_=>rfl
 |n+1,k+1,h=>by rw[ch,Jz n k aq,Jz n (k+1) aq]
theorem JA:∀n,ch n n=1
 |0=>rfl
 |n+1=>by rw[ch,JA n,Jz n (n+1) aq]
theorem CQ:∀n k,(k+1)*ch (n+1) (k+1)=(n+1)*ch n k
 |0,0=>rfl
 |0,k+1=>by simp[ch]
 |n+1,0=>by
  have h:=CQ n 0;have e:ch (n+2) 1=ch (n+1) 0+ch (n+1) 1:=rfl;have d:ch (n+1) 0=1:=rfl;have b:ch n 0=1:=by cases n<;>rfl
  rw[d]at e;rw[b]at h;rw[Nat.zero_add,Nat.one_mul,Nat.mul_one]at h;show 1*ch (n+2) 1=(n+1+1)*1;omega
 |n+1,k+1=>by
  have f:=CQ n k;have c:=CQ n (k+1);have e:ch (n+2) (k+2)=ch (n+1) (k+1)+ch (n+1) (k+2):=rfl;have a:ch (n+1) (k+1)=ch n k+ch n (k+1):=rfl;show(k+2)*ch (n+2) (k+2)=(n+2)*ch (n+1) (k+1);rw[e,Nat.mul_add,show(k+2)*ch (n+1) (k+2)=(n+1)*ch n (k+1)from c];have:(k+2)*ch (n+1) (k+1)=(k+1)*ch (n+1) (k+1)+ch (n+1) (k+1):=by rw[show k+2=(k+1)+1 from rfl,Nat.add_mul,Nat.one_mul]
  rw[this,f,a,show n+2=(n+1)+1 from rfl,Nat.add_mul (n+1) 1,Nat.one_mul,Nat.mul_add];omega
def sm(f:Nat→Nat):Nat→Nat
 |0=>0
 |k+1=>sm f k+f k
theorem tf(f:Nat→Nat):∀k,sm f (k+1)=f 0+sm (fun j=>f (j+1)) k
 |0=>by simp[sm]
 |k+1=>by rw[sm,tf f k,sm];omega
theorem Qb(f g:Nat→Nat):∀k,sm (fun j=>f j+g j) k=sm f k+sm g k
 |0=>rfl
 |k+1=>by rw[sm,Qb f g k,sm,sm];omega
theorem Qc(c:Nat)(f:Nat→Nat):∀k,sm (fun j=>f j*c) k=sm f k*c
 |0=>by simp[sm]
 |k+1=>by rw[sm,Qc c f k,sm,Nat.add_mul]
theorem JB{f g:Nat→Nat}:∀k,(∀j,j<k→f j=g j)→sm f k=sm g k
 |0,_=>rfl
 |k+1,h=>by rw[sm,sm,JB k fun j a=>h j aq,h k aq]
theorem WB(a:Nat):∀n,(a+1) ^ n=sm (fun k=>ch n k*a ^ k) (n+1)
 |0=>by simp[sm,ch]
 | n+1=>by
  rw[Nat.pow_succ,WB a n];rw[tf (fun k=>ch (n+1) k*a ^ k) (n+1)];have b:sm (fun j=>ch (n+1) (j+1)*a ^ (j+1)) (n+1)=sm (fun j=>ch n j*a ^ j*a) (n+1)+sm (fun j=>ch n (j+1)*a ^ (j+1)) (n+1):=by
   rw[←Qb];refine JB _ fun j _=>?_;show(ch n j+ch n (j+1))*a ^ (j+1)=_;rw[Nat.add_mul,Nat.pow_succ,Nat.mul_assoc]
  rw[b,Qc];have c:sm (fun j=>ch n (j+1)*a ^ (j+1)) (n+1)+ch (n+1) 0*a ^ 0=sm (fun k=>ch n k*a ^ k) (n+1):=by
   rw[tf (fun k=>ch n k*a ^ k) n,sm,Jz n (n+1) aq];have:ch n 0=1:=by cases n<;>rfl
   simp only[this,ch,Nat.zero_mul,Nat.add_zero];omega
  rw[Nat.mul_add,Nat.mul_one];omega
theorem Qd(r:Nat)(f:Nat→Nat):∀k,(∀j,j<k→r∣f j)→r∣sm f k
 |0,_=>Nat.dvd_zero r
 |k+1,h=>Nat.dvd_add (Qd r f k fun j a=>h j aq) (h k aq)
theorem YZ{r k:Nat}(h:Prm r)(e:0<k)(d:k<r):r∣ch r k:=by
 obtain⟨k,rfl⟩:∃j,k=j+1:=⟨k-1,aq⟩;obtain⟨s,rfl⟩:∃j,r=j+1:=⟨r-1,aq⟩;have c:=CQ s k;have b:(s+1)∣(k+1)*ch (s+1) (k+1):=⟨_,c⟩;rcases h.mul b with a|a;have:=Nat.le_of_dvd aq a;omega;exact a
theorem JC{r:Nat}(h:Prm r):∀a,a ^ r%r=a%r
 |0=>by rw[Nat.zero_pow (by have:=h.1;omega)]
 |a+1=>by
  obtain⟨s,rfl⟩:∃j,r=j+1:=⟨r-1,by have:=h.1;omega⟩;have d:=JC h a;rw[WB,sm,JA,Nat.one_mul,tf];have b:ch (s+1) 0*a ^ 0=1:=by simp[ch]
  obtain⟨t,c⟩:=Qd (s+1) (fun j=>ch (s+1) (j+1)*a ^ (j+1)) s fun j e=>Nat.dvd_trans (YZ h aq aq) ⟨_,rfl⟩;rw[b,c];have:(1+(s+1)*t+a ^ (s+1))=(a ^ (s+1)+1)+(s+1)*t:=aq;rw[this,Nat.add_mul_mod_self_left,Nat.add_mod,d,←Nat.add_mod]
theorem HI{r:Nat}(h:Prm r){a:Nat}(f:¬r∣a):a ^ (r-1)%r=1:=by
 have l:=h.1;have g:=JC h a;obtain⟨s,rfl⟩:∃j,r=j+1:=⟨r-1,aq⟩;rw[Nat.add_sub_cancel];by_cases k:a=0;subst k;exact absurd (Nat.dvd_zero _) f;have q:0<a ^ s:=Nat.pow_pos aq;have e:∀b c:Nat,c≤b→b%(s+1)=c%(s+1)→(s+1)∣b-c:=fun b c m h=>by
  have p:=Nat.div_add_mod b (s+1);have l:=Nat.div_add_mod c (s+1);refine⟨b/(s+1)-c/(s+1),?_⟩;rw[Nat.mul_sub];omega
 have i:(s+1)∣a*(a ^ s-1):=by
  rw[Nat.mul_sub,Nat.mul_one,Nat.mul_comm,←Nat.pow_succ];exact e _ _ (Nat.le_self_pow aq a) g
 rcases h.mul i with d|d;exact absurd d f;obtain⟨t,o⟩:=d;have:a ^ s=1+(s+1)*t:=aq;rw[this,Nat.add_mul_mod_self_left,Nat.mod_eq_of_lt aq]
theorem bez:∀(k a b:Nat),a+b≤k→0<a→0<b→Nat.gcd a b=1→∃s t,a*s=1+b*t
 |0,a,b,h,ha,hb,_=>by omega
 | k+1,a,b,h,ha,hb,hg=>by
  by_cases e:b=1;subst e;exact⟨1,a-1,aq⟩;by_cases d:a=1;subst d;exact⟨1,0,aq⟩;rcases Nat.lt_trichotomy a b with c|c|c;obtain⟨s,t,f⟩:=bez k a (b-a) aq ha aq (by rw[Nat.gcd_sub_self_right aq];exact hg);refine⟨s+t,t,?_⟩;have:b*t=(b-a)*t+a*t:=by rw[←Nat.add_mul];congr 1;omega
  rw[Nat.mul_add,f,this,Nat.add_assoc];subst c;rw[Nat.gcd_self]at hg;omega;obtain⟨s,t,f⟩:=bez k (a-b) b aq aq hb (by rw[Nat.gcd_sub_self_left aq];exact hg);refine⟨s,t+s,?_⟩;have:a*s=(a-b)*s+b*s:=by rw[←Nat.add_mul];congr 1;omega
  rw[this,f,Nat.mul_add,Nat.add_assoc]
theorem yu{b r:Nat}(a:2≤r)(h:b%r=1):∀t,b ^ t%r=1
 |0=>by rw[Nat.pow_zero,Nat.mod_eq_of_lt aq]
 |t+1=>by rw[Nat.pow_succ,Nat.mul_mod,yu a h t,h,Nat.mul_one,Nat.mod_eq_of_lt aq]
theorem acj{N q R a:Nat}(hq:Prm q)(u:N=q*R+1)(o:a ^ (q*R)%N=1)(m:Nat.gcd (a ^ R%N-1) N=1)(p:a ^ R%N≠0){r:Nat}(h:Prm r)(i:r∣N):q∣r-1:=by
 by_cases k:q∣r-1;exact k;exfalso;have b:=h.1;have hc:=hq.cop k;obtain⟨s,t,e⟩:=bez _ q (r-1) (cL _) (by have:=hq.1;omega) aq hc;have mm:∀x,x%N%r=x%r:=fun x=>Nat.mod_mod_of_dvd x i;have g:a ^ (q*R)%r=1:=by rw[←mm,o,Nat.mod_eq_of_lt aq]
 have d:¬r∣a ^ R:=by
  intro ⟨c,hc⟩;rw[Nat.mul_comm,Nat.pow_mul,Nat.pow_mod,hc,Nat.mul_mod_right,Nat.zero_pow (by have:=hq.1;omega)]at g;rw[Nat.zero_mod]at g;omega
 have f:=HI h d;have j:(a ^ R) ^ (q*s)%r=1:=by
  rw[←Nat.pow_mul,←Nat.mul_assoc,Nat.mul_comm R q,Nat.pow_mul];exact yu b g s
 rw[e,Nat.pow_add,Nat.pow_one,Nat.pow_mul,Nat.mul_mod,yu b f t,Nat.mul_one,Nat.mod_mod]at j;have v:(a ^ R%N)%r=1:=by rw[mm];exact j
 have l:r∣a ^ R%N-1:=by
  have:=Nat.div_add_mod (a ^ R%N) r;exact⟨a ^ R%N/r,aq⟩
 have:=Nat.dvd_gcd l i;rw[m]at this;have:=Nat.le_of_dvd aq this;omega
theorem ack{N F:Nat}(l:2≤N)(u:N<F*F)(h:∀r,Prm r→r∣N→F∣r-1):Prm N:=by
 refine⟨l,fun d o=>?_⟩;by_cases t:d=1;exact .inl t;by_cases s:d=N;exact .inr s;exfalso;obtain⟨e,c⟩:=o;have m:d≠0:=fun q=>by subst q;simp at c;omega
 have k:e≠0:=fun q=>by subst q;simp at c;omega
 have i:e≠1:=fun q=>by subst q;simp at c;omega
 have a:∀x,x∣N→2≤x→F<x:=by
  intro x p g;obtain⟨r,f,b⟩:=Qa x x (cL _) g;have j:=h r f (Nat.dvd_trans b p);have w:=Nat.le_of_dvd (by have:=f.1;omega) j;have y:=Nat.le_of_dvd aq b;have:=f.1;omega
 have v:=a d ⟨e,c⟩ aq;have b2:=a e ⟨d,by rw[Nat.mul_comm];exact c⟩ aq;have:F*F≤d*e:=Nat.mul_le_mul aq aq;omega
theorem aeJ{q F m:Nat}(hq:Prm q)(a:q∣m)(f:F∣m)(h:¬q∣F):F*q∣m:=by
 obtain⟨c,hc⟩:=f;rw[hc]at a;rcases hq.mul a with b|⟨e,d⟩;exact absurd b h;exact⟨e,by rw[hc,d,Nat.mul_assoc]⟩
def eh{α:Type}(n:Nat)(k:Nat→α):α:=Nat.rec (k 0) (fun m _=>k (m+1)) n
theorem eq{α:Type}(n:Nat)(k:Nat→α):eh n k=k n:=by cases n<;>rfl
def Y0(N:Nat):Nat→Nat→Nat→Nat→Nat
 |0,_,_,acc=>acc
 |f+1,a,e,acc=>bif e.beq 0 then acc else eh (a*a%N) fun b=>eh (e/2) fun d=>eh (bif (e%2).beq 1 then acc*a%N else acc) fun c=>Y0 N f b d c
theorem uJ(N:Nat):∀(f a e b:Nat),e<2 ^ f→b%N=b→Y0 N f a e b=b*a ^ e%N
 |0,a,e,b,h,hm=>by
  have:e=0:=aq;subst this;rw[Y0,Nat.pow_zero,Nat.mul_one,hm]
 | f+1,a,e,b,h,hm=>by
  rw[Y0];by_cases i:e=0;subst i;show b=_;rw[Nat.pow_zero,Nat.mul_one,hm];have d:e.beq 0=false:=Bool.eq_false_iff.2 fun q=>i (Nat.eq_of_beq_eq_true q);rw[d,cond_false,eq,eq,eq];have j:e/2<2 ^ f:=by rw[Nat.pow_succ]at h;omega
  have c:(a*a%N) ^ (e/2)%N=a ^ (2*(e/2))%N:=by rw[←Nat.pow_mod,Nat.pow_mul,Nat.pow_two]
  rcases Nat.mod_two_eq_zero_or_one e with g|g;have d:(e%2).beq 1=false:=by rw[g];rfl
  rw[d,cond_false,uJ N f _ _ _ j hm,Nat.mul_mod,c,←Nat.mul_mod,show 2*(e/2)=e by omega];have d:(e%2).beq 1=true:=by rw[g];rfl
  rw[d,cond_true,uJ N f _ _ _ j (Nat.mod_mod _ _),Nat.mul_mod,c,Nat.mod_mod,←Nat.mul_mod,Nat.mul_assoc,Nat.mul_comm a,←Nat.pow_succ,Nat.succ_eq_add_one,show 2*(e/2)+1=e by omega]
def tri(N:Nat):Nat→Nat→Bool
 |0,d=>Nat.blt N (d*d)
 |f+1,d=>bif Nat.blt N (d*d)then true else bif (N%d).beq 0 then false else eh (d+1) fun a=>tri N f a
theorem Qe(N:Nat):∀f d,tri N f d=true→(∀x,2≤x→x<d→¬x∣N)→∀x,2≤x→x*x≤N→¬x∣N
 |0,d,h,hd,x,h2,hx=>hd x h2 (by
  have g:Nat.blt N (d*d)=true:=h;have:=Nat.le_of_ble_eq_true g;rcases Nat.lt_or_ge x d with q|q;exact q
  have:=Nat.mul_le_mul q q;omega)
 | f+1,d,h,hd,x,h2,hx=>by
  rw[tri]at h;cases c:Nat.blt N (d*d)with
  |true =>
   refine hd x h2 ?_;have:=Nat.le_of_ble_eq_true c;rcases Nat.lt_or_ge x d with q|q;exact q;have:=Nat.mul_le_mul q q;omega
  | false =>
   rw[c,cond_false]at h;cases a:(N%d).beq 0 with
   |true=>rw[a,cond_true]at h;cases h
   | false =>
    rw[a,cond_false,eq]at h;refine Qe N f (d+1) h (fun y e i=>?_) x h2 hx;rcases Nat.lt_or_ge y d with q|q;exact hd y e q;have:y=d:=aq;subst this;intro b;have:N%y=0:=Nat.mod_eq_zero_of_dvd b;rw[this]at a;cases a
theorem CS{N:Nat}(f:Nat)(m:2≤N)(h:tri N f 2=true):Prm N:=by
 have c:=Qe N f 2 h (fun x g b=>aq);refine⟨m,fun d k=>?_⟩;by_cases g:d=1;exact .inl g;by_cases b:d=N;exact .inr b;exfalso;obtain⟨e,a⟩:=k;have j:d≠0:=fun q=>by subst q;simp at a;omega
 have l:e≠0:=fun q=>by subst q;simp at a;omega
 have i:e≠1:=fun q=>by subst q;simp at a;omega
 rcases Nat.le_total d e with q|q;exact c d aq (by rw[a];exact Nat.mul_le_mul_left _ q) ⟨e,a⟩;exact c e aq (by rw[a];exact fk _ q) ⟨d,by rw[Nat.mul_comm];exact a⟩
def pkB(N:Nat):List (Nat×Nat)→Bool
 |[]=>true
 |p::l=>eh ((N-1)/p.1) fun R=>(p.1*R+1).beq N&&(Y0 N 300 p.2 (N-1) 1).beq 1&&(eh (Y0 N 300 p.2 R 1) fun b=>!b.beq 0&&(Nat.gcd (b-1) N).beq 1)&&pkB N l
def prd(l:List (Nat×Nat)):Nat:=l.foldr (fun p a=>a*p.1) 1
def US:List (Nat×Nat)→Bool
 |[]=>true
 |p::l=>!((prd l%p.1).beq 0)&&US l
theorem WC{N:Nat}(j:2≤N)(m:N<2 ^ 300):∀l:List (Nat×Nat),(∀p,p∈l→Prm p.1)→pkB N l=true→US l=true→∀r,Prm r→r∣N→prd l∣r-1
 |[],_,_,_,r,_,_=>Nat.one_dvd _
 |p::l,hp,h,hdi,r,hr,hd=>by
  rw[pkB,eq,eq]at h;simp only[Bool.and_eq_true]at h;obtain⟨⟨⟨g,c⟩,f,d⟩,v⟩:=h;have g:=Nat.eq_of_beq_eq_true g;have c:=Nat.eq_of_beq_eq_true c;have d:=Nat.eq_of_beq_eq_true d;have i:1%N=1:=Nat.mod_eq_of_lt aq;rw[uJ N 300 _ _ _ aq i,Nat.one_mul]at c;have u:(N-1)/p.1≤N-1:=Nat.div_le_self _ _;rw[uJ N 300 _ _ _ aq i,Nat.one_mul]at f d;have b:(!((prd l%p.1).beq 0)&&US l)=true:=hdi;rw[Bool.and_eq_true]at b;have e:N-1=p.1*((N-1)/p.1):=aq;have t:=acj (N:=N) (q:=p.1) (R:=(N-1)/p.1) (a:=p.2) (hp p aw) g.symm (by rw[←e];exact c) d (fun q=>by rw[q]at f;cases f) hr hd;refine aeJ (hp p aw) t (WC j m l (fun x o=>hp x (by simp[o])) v b.2 r hr hd) fun k=>?_;have s:prd l%p.1=0:=Nat.mod_eq_zero_of_dvd k;rw[s]at b
  cases b.1
theorem HJ{N:Nat}(l:List (Nat×Nat))(a:2≤N)(b:N<2 ^ 300)(hp:∀p,p∈l→Prm p.1)(h:pkB N l=true)(c:US l=true)(d:N<prd l*prd l):Prm N :=
 ack a d (WC a b l hp h c)
theorem aeK:Prm 107590001:=CS 10377 aq (by kernel_rfl)
theorem aeL:Prm 7240687:=CS 2695 aq (by kernel_rfl)
theorem aeM:Prm 96557:=CS 315 aq (by kernel_rfl)
theorem aeN:Prm 255515944373312847190720520512484175977:=HJ ((107590001,2)::(7240687,2)::(96557,2)::[]) aq aq (fun p a=>by
 simp only[d_,List.not_mem_nil,or_false]at a;rcases a with rfl|rfl|rfl;exact aeK;exact aeL;exact aeM
 ) (by kernel_rfl) (by kernel_rfl) (Nat.le_of_ble_eq_true (by kernel_rfl))
theorem aeO:Prm 205115282021455665897114700593932402728804164701536103180137503955397371:=HJ ((255515944373312847190720520512484175977,2)::[]) aq aq (fun p a=>by
 simp only[d_,List.not_mem_nil,or_false]at a
 subst a;exact aeN) (by kernel_rfl) (by kernel_rfl) (Nat.le_of_ble_eq_true (by kernel_rfl))
theorem aeP:Prm 115792089237316195423570985008687907853269984665640564039457584007908834671663:=HJ ((205115282021455665897114700593932402728804164701536103180137503955397371,2)::[]) aq aq (fun p a=>by
 simp only[d_,List.not_mem_nil,or_false]at a
 subst a;exact aeO) (by kernel_rfl) (by kernel_rfl) (Nat.le_of_ble_eq_true (by kernel_rfl))
theorem UT:Prm 115792089237316195423570985008687907853269984665640564039457584007908834671663:=aeP
section
theorem vV{n:Nat}(a b:Fin n):(a*b).val=a.val*b.val%n:=Fin.val_mul a b
theorem LG{n:Nat}(a b:Fin n):(a+b).val=(a.val+b.val)%n:=Fin.val_add a b
variable {n:Nat} [hz:NeZero n]
def aeQ(hp:Prm n)(h8:8≤n)(h3:3*((n-1)/3)=n-1)(hc:(n-7) ^ ((n-1)/3)%n≠1):Fd n where
 inv a:=⟨a.val ^ (n-2)%n,Nat.mod_lt _ aq⟩
 hinv:=fun a ha=>by
  have hv:a.val≠0:=fun h=>ha (Fin.ext (by rw[h];rfl));have hd:¬n∣a.val:=fun h=>by have:=Nat.le_of_dvd aq h;have:=a.isLt;omega
  have hf:=HI hp hd;refine Fin.ext ?_;rw[vV];show a.val*(a.val ^ (n-2)%n)%n=1%n;rw[Nat.mul_mod,Nat.mod_mod,←Nat.mul_mod,Nat.mul_comm,←Nat.pow_succ,show(n-2).succ=n-1 by omega,hf,Nat.mod_eq_of_lt aq]
 inv0:=by
  refine Fin.ext ?_;show(0%n) ^ (n-2)%n=0%n;rw[Nat.zero_mod,Nat.zero_pow aq,Nat.zero_mod]
 one:=fun h=>by
  have:=congrArg Fin.val h;have h':1%n=0%n:=this;rw[Nat.mod_eq_of_lt aq,Nat.zero_mod]at h';omega
 two:=fun h=>by
  have:=congrArg Fin.val h;have h':2%n=0%n:=this;rw[Nat.mod_eq_of_lt aq,Nat.zero_mod]at h';omega
 cub:=fun x h=>by
  have hv:=congrArg Fin.val h;rw[LG,vV,vV]at hv;have hv':(x.val*x.val%n*x.val%n+7%n)%n=0%n:=hv;rw[Nat.zero_mod,←Nat.add_mod,Nat.add_mod,Nat.mod_mul_mod,←Nat.add_mod]at hv';have hd:n∣x.val*x.val*x.val+7:=Nat.dvd_of_mod_eq_zero hv'
  have hx:¬n∣x.val:=fun q=>by
   have hq:n∣x.val*x.val*x.val:=Nat.dvd_trans q ⟨x.val*x.val,by rw[Nat.mul_assoc]⟩;have:=(Nat.dvd_add_right hq).1 hd;have:=Nat.le_of_dvd aq this;omega
  have e:x.val*x.val*x.val%n=n-7:=by
   obtain⟨t,ht⟩:=hd;have ht0:t≠0:=fun q=>by subst q;omega
   obtain⟨s,rfl⟩:∃s,t=s+1:=⟨t-1,aq⟩;have:x.val*x.val*x.val=(n-7)+n*s:=by rw[Nat.mul_add]at ht;omega
   rw[this,Nat.add_mul_mod_self_left,Nat.mod_eq_of_lt aq]
  apply hc;have p3:x.val*x.val*x.val=x.val ^ 3:=by rw[Nat.pow_succ,Nat.pow_succ,Nat.pow_one]
  rw[←e,p3,←Nat.pow_mod,←Nat.pow_mul,h3];exact HI hp hx
end
def pP:Nat:=115792089237316195423570985008687907853269984665640564039457584007908834671663
theorem yv:pP=115792089237316195423570985008687907853269984665640564039457584007908834671663:=rfl
theorem Y4:Prm pP:=UT
theorem Y5:(pP-7) ^ ((pP-1)/3)%pP≠1:=by
 have h:=uJ pP 300 (pP-7) ((pP-1)/3) 1 (by rw[yv];omega) (Nat.mod_eq_of_lt (Nat.le_of_ble_eq_true (by kernel_rfl)));rw[Nat.one_mul]at h;rw[←h];exact Nat.ne_of_beq_eq_false (by kernel_rfl)
theorem Y6:8≤pP:=Nat.le_of_ble_eq_true (by kernel_rfl)
instance pP_nz:NeZero pP:=⟨fun h=>by have:=Y6;omega⟩
theorem aeR:3*((pP-1)/3)=pP-1:=Nat.eq_of_beq_eq_true (by kernel_rfl)
attribute [irreducible] pP
abbrev F:=Fin pP
noncomputable def fd:Fd pP:=aeQ Y4 Y6 aeR Y5
abbrev pZ:Int:=115792089237316195423570985008687907853269984665640564039457584007908834671663
theorem i6:(pP:Int)=pZ:=by rw[yv];rfl
def FV(l:List Int):F:=MJ pP (V l)
theorem eW(l:List Int):(((FV l).val:Nat):Int)=V l%pZ:=by unfold FV;rw[pz,i6]
theorem ti{a b:F}(h:((a.val:Nat):Int)=((b.val:Nat):Int)):a=b:=oo h
theorem Qf{a b:List Int}(d:Wn 4 a)(c:Wn 4 b)(g:V a<pZ)(f:V b<pZ)(h:FV a=FV b):a=b:=by
 have e:=congrArg (fun x:F=>((x.val:Nat):Int)) h;simp only[eW]at e;have:=(lZ d).1;have:=(lZ c).1;rw[Int.emod_eq_of_lt aq g,Int.emod_eq_of_lt aq f]at e;exact Wu d c e
theorem Y7{r a b:List Int}(h:V r=(V a*V b)%pZ):V r<pZ∧FV r=FV a*FV b:=by
 refine⟨by rw[h];exact Int.emod_lt_of_pos _ (by decide),ti ?_⟩;rw[eW,vV,Int.natCast_emod,Int.natCast_mul,eW,eW,i6,h,Int.emod_emod,←Int.mul_emod]
theorem Y8{r a b:List Int}(h:V r=(V a+V b)%pZ):V r<pZ∧FV r=FV a+FV b:=by
 refine⟨by rw[h];exact Int.emod_lt_of_pos _ (by decide),ti ?_⟩;rw[eW,LG,Int.natCast_emod,Int.natCast_add,eW,eW,i6,h,Int.emod_emod,←Int.add_emod]
theorem LH{a b c:F}(h:c+b=a):c=a-b:=by grobner
theorem Y9{r a b:List Int}(h:V r=(V a-V b)%pZ):V r<pZ∧FV r=FV a-FV b:=by
 refine⟨by rw[h];exact Int.emod_lt_of_pos _ (by decide),LH (ti ?_)⟩;rw[LG,Int.natCast_emod,Int.natCast_add,eW,eW,eW,i6,h,Int.emod_emod,←Int.add_emod];congr 1;omega
theorem CU:FV ed=0:=by
 refine ti ?_;rw[eW];have:V ed=0:=by simp[V,ed]
 rw[this];rfl
theorem oq{a:List Int}(e:Wn 4 a)(h:V a<pZ):FV a=0↔a=ed:=by
 have d:V ed=0:=by simp[V,ed]
 have c:V ed<pZ:=by rw[d];decide
 exact⟨fun b=>Qf e lh h c (by rw[b,CU]),fun b=>by rw[b,CU]⟩
theorem HK(k:Nat)(a:(k:Int)<18446744073709551616):FV [(k:Int),0,0,0]=Fin.ofNat pP k:=by
 have:V [(k:Int),0,0,0]=(k:Int):=by simp[V]
 unfold FV;rw[this];exact jN k
theorem Za{r a:List Int}{k:Nat}(b:k=pP-2)(h:V r=V a ^ k%pZ):V r<pZ∧FV r=fd.inv (FV a):=by
 refine⟨by rw[h];exact Int.emod_lt_of_pos _ (by decide),ti ?_⟩;have e:fd.inv (FV a)=⟨(FV a).val ^ (pP-2)%pP,Nat.mod_lt _ (by have:=Y6;omega)⟩:=rfl;rw[e,←b];show _=((((FV a).val ^ k%pP:Nat)):Int);rw[eW,h,Int.emod_emod,Int.natCast_emod,Int.natCast_pow,eW,i6];have pm:∀(x m:Int)(k:Nat),x ^ k%m=(x%m) ^ k%m:=by
  intro x m k
  induction k with
  |zero=>rw[Int.pow_zero,Int.pow_zero]
  |succ k ih=>rw[Int.pow_succ,Int.pow_succ,Int.mul_emod,ih,Int.mul_emod ((x%m) ^ k),Int.emod_emod]
 exact pm _ _ _
theorem iO(a b:List Int)(e:Wn 4 a)(d:Wn 4 b):∃r,Wn 4 r∧(V r<pZ∧FV r=FV a*FV b)∧W2 209 a b r:=by
 obtain⟨r,g,f,c⟩:=CE a b e d;exact⟨r,g,Y7 f,c⟩
theorem acl(a b:List Int)(e:Wn 4 a)(d:Wn 4 b):∃r,Wn 4 r∧(V r<pZ∧FV r=FV a+FV b)∧W2 219 a b r:=by
 obtain⟨r,g,f,c⟩:=UC a b e d;exact⟨r,g,Y8 f,c⟩
theorem tj(a b:List Int)(e:Wn 4 a)(d:Wn 4 b):∃r,Wn 4 r∧(V r<pZ∧FV r=FV a-FV b)∧W2 210 a b r:=by
 obtain⟨r,g,f,c⟩:=Ju a b e d;exact⟨r,g,Y9 f,c⟩
theorem acm(a:List Int)(c:Wn 4 a):∃r,Wn 4 r∧(V r<pZ∧FV r=fd.inv (FV a))∧W1 213 a r:=by
 obtain⟨r,e,d,b⟩:=UK a c;exact⟨r,e,Za (by rw[yv]) d,b⟩
def PV(x y:List Int)(b:Bool):Pt pP:=if b then none else some (FV x,FV y)
def kN(x y:List Int)(b:Bool):Prop:=(b=true∧x=ed∧y=ed)∨(b=false∧V x<pZ∧V y<pZ∧FV y*FV y=FV x*FV x*FV x+7)
theorem tm{x y:List Int}{b:Bool}(h:kN x y b):kV (PV x y b):=by
 rcases h with ⟨rfl,_,_⟩|⟨rfl,_,_,h⟩;trivial;exact h
theorem yw:kN ed ed true:=.inl ⟨rfl,rfl,rfl⟩
theorem Qg:PV ed ed true=none:=rfl
noncomputable def JV(x y z:List Int):Pt pP:=tc fd (FV x) (FV y) (FV z)
def uK(x y z:List Int):Prop:=(V x<pZ∧V y<pZ∧V z<pZ)∧kV (JV x y z)
end Go.Proofs.YtmfnimjnneflnaaGreat
