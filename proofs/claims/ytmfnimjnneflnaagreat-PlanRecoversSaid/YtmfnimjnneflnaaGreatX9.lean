/-
 Part 10 of what the claim rests on.
-/
import Derived.Test.YtmfnimjnneflnaaGreatX6
import Derived.Test.YtmfnimjnneflnaaGreatX8
import Derived.KernelRfl
set_option linter.unusedVariables false
set_option linter.unusedSimpArgs false
set_option maxRecDepth 100000
set_option maxHeartbeats 16000000
namespace Go.Proofs.YtmfnimjnneflnaaGreat
open Go.Am Go.Sha
def W1(f:FuncId)(a b:List Int):Prop:=au Tryz.prog f [.agg (cI a)] (fun r=>r=.agg (cI b))
def W2(f:FuncId)(a b c:List Int):Prop:=au Tryz.prog f [.agg (cI a),.agg (cI b)] (fun r=>r=.agg (cI c))
theorem eC{Q:AV→Prop}{st:St}{a:List Int}(hq:Q (.agg (cI a))):dC Q (.agg (cI a)) st:=aa (fO _) hq
theorem fP(x:Int):au Tryz.prog 134 [.d (.int .u64 x)] (fun r=>r=.agg (cI [x,0,0,0])):=by
 refine bF Tryz.func134 Tryz.ntmps134 (rs:=[.cell 2 96]) a9 ?_;simp[go_sem,cI,ah];exact eC (a:=[x,0,0,0]) rfl
theorem kS{x:Int}(h:dZ x):Wn 4 [x,0,0,0]:=⟨rfl,by intro y a;simp at a;rcases a with rfl|rfl|rfl|rfl<;>first|exact h|exact x6⟩
def BU:List Int:=[18446744069414583343,18446744073709551615,18446744073709551615,18446744073709551615]
theorem EL:Wn 4 BU:=⟨rfl,by intro y a;simp[BU]at a;rcases a with rfl|rfl<;>exact⟨aq,aq⟩⟩
theorem lc:au Tryz.prog 214 [] (fun r=>r=.agg (cI BU)):=by
 refine bF Tryz.func214 Tryz.ntmps214 (rs:=[.cell 0 96]) a9 ?_;simp[go_sem,cI,ah];exact eC (a:=BU) rfl
theorem i6(a:List Int)(h:Wn 4 a):∃r,Wn 4 r∧V r=V a%115792089237316195423570985008687907853269984665640564039457584007908834671663∧W1 217 a r:=by
 obtain⟨d,c,i,hc,s,o⟩:=sX a BU h EL;have z:=lO h;have y:=lO i;have v:V BU=115792089237316195423570985008687907853269984665640564039457584007908834671663:=by simp[V,BU]
 rw[v]at s;have x:=hc.1;have u:=hc.2;have b:=h.1;have f:=i.1;by_cases m:c=0
 ·refine⟨d,i,by subst m;omega,?_⟩;unfold W1;refine bF Tryz.func217 Tryz.ntmps217 (rs:=[.cell 2 96]) (aS a) ?_;simp[go_sem,b];refine dE [0] [1,2,6,7] [0,3,4,5,8] (.alt (bt 1 (.alt (.step 2 [3,4,5] true (bt 6 (.step 7 [8] true .done))) (bt 6 (.step 2 [3,4,5] true (.step 7 [8] true .done))))) (bt 6 (bt 1 (.step 2 [3,4,5] true (.step 7 [8] true .done))))) ⟨[(1,.ptr 0 0 0 1),(2,.ptr 32 0 0 1),(3,.ptr 256 0 0 1),(4,.d (.int .u64 c))],[(256,⟨96,4,[cI d]⟩),(32,⟨96,4,[cI zI]⟩),(0,⟨96,4,[cI a]⟩)],9000⟩ (k:=9) ?h3 ?hq
  case h3 =>
   intro G j;have g:∀e:Fr,(fv 1 e=.ptr 0 0 0 1∧fv 2 e=.ptr 32 0 0 1∧fv 3 e=.ptr 256 0 0 1∧fv 4 e=.d (.int .u64 c))→G e [(256,⟨96,4,[cI d]⟩),(32,⟨96,4,[cI zI]⟩),(0,⟨96,4,[cI a]⟩)]:=by
    rintro e⟨w,t,p,q⟩;exact j _ _ qC
   simp[go_sem,b,ae b,dI]
   repeat' first|exact g _ ⟨rfl,rfl,rfl,rfl⟩|(refine g _ ?_;simp[fv,lk];done)|refine ag lc aw ?_|refine ag o (aN _ _) ?_|apply And.intro|simp[go_sem,f,dI]
  case hq =>
   simp[go_sem,m,f,ae f,be (l:=zI) (n:=4) rfl,ah];exact eC rfl
 ·refine⟨a,h,aq,?_⟩;unfold W1;refine bF Tryz.func217 Tryz.ntmps217 (rs:=[.cell 2 96]) (aS a) ?_;simp[go_sem,b];refine dE [0] [1,2,6,7] [0,3,4,5,8] (.alt (bt 1 (.alt (.step 2 [3,4,5] true (bt 6 (.step 7 [8] true .done))) (bt 6 (.step 2 [3,4,5] true (.step 7 [8] true .done))))) (bt 6 (bt 1 (.step 2 [3,4,5] true (.step 7 [8] true .done))))) ⟨[(1,.ptr 0 0 0 1),(2,.ptr 32 0 0 1),(3,.ptr 256 0 0 1),(4,.d (.int .u64 c))],[(256,⟨96,4,[cI d]⟩),(32,⟨96,4,[cI zI]⟩),(0,⟨96,4,[cI a]⟩)],9000⟩ (k:=9) ?h3 ?hq
  case h3 =>
   intro G j;have g:∀e:Fr,(fv 1 e=.ptr 0 0 0 1∧fv 2 e=.ptr 32 0 0 1∧fv 3 e=.ptr 256 0 0 1∧fv 4 e=.d (.int .u64 c))→G e [(256,⟨96,4,[cI d]⟩),(32,⟨96,4,[cI zI]⟩),(0,⟨96,4,[cI a]⟩)]:=by
    rintro e⟨w,t,p,q⟩;exact j _ _ qC
   simp[go_sem,b,ae b,dI]
   repeat' first|exact g _ ⟨rfl,rfl,rfl,rfl⟩|(refine g _ ?_;simp[fv,lk];done)|refine ag lc aw ?_|refine ag o (aN _ _) ?_|apply And.intro|simp[go_sem,f,dI]
  case hq =>
   simp[go_sem,m,b,ae b,be (l:=zI) (n:=4) rfl,ah];exact eC rfl
theorem ad2:dZ 4294968273:=⟨aq,aq⟩
theorem v8(a:List Int)(c:Int):∀v,v∈[AV.agg (cI a),AV.d (.int .u64 c)]→v.deep:=by
 intro v b;simp at b;rcases b with rfl|rfl;exact fO _;trivial
theorem EM(a:List Int)(c:Int)(m:Wn 4 a)(hc:C1 c)(K:c=1→V a+4294968273<115792089237316195423570985008687907853269984665640564039457584007913129639936):∃r,Wn 4 r∧V r=(V a+115792089237316195423570985008687907853269984665640564039457584007913129639936*c)%115792089237316195423570985008687907853269984665640564039457584007908834671663∧au Tryz.prog 239 [.agg (cI a),.d (.int .u64 c)] (fun x=>x=.agg (cI r)):=by
 obtain⟨A,f,L,t⟩:=i6 a m;obtain⟨s,d,o,u,z,y⟩:=qh a [4294968273,0,0,0] m (kS ad2);obtain⟨E,h,C,w⟩:=i6 s o;have F:V [4294968273,0,0,0]=4294968273:=by simp[V]
 rw[F]at z;have Q:=lO m;have B:=lO o;have M:=u.1;have I:=u.2;have N:=hc.1;have J:=hc.2;unfold W1 at t w;have b:=m.1;have e:=o.1;have g:=f.1;have i:=h.1;by_cases p:c=0
 ·refine⟨A,f,by subst p;rw[L];omega,?_⟩;refine bF Tryz.func239 Tryz.ntmps239 (rs:=[.cell 4 96]) (v8 a c) ?_;simp[go_sem,b,ae b,p];refine ag t (aS _) ?_;simp[go_sem,g,ae g,ah];exact eC rfl
 ·have v:c=1:=aq;have D:=K v;refine⟨E,h,by subst v;rw[C];omega,?_⟩;refine bF Tryz.func239 Tryz.ntmps239 (rs:=[.cell 4 96]) (v8 a c) ?_;simp[go_sem,b,p];refine dE [0] [1,2,6,7] [0,3,4,5,8] (.alt (bt 1 (.alt (.step 2 [3,4,5] true (bt 6 (.step 7 [8] true .done))) (bt 6 (.step 2 [3,4,5] true (.step 7 [8] true .done))))) (bt 6 (bt 1 (.step 2 [3,4,5] true (.step 7 [8] true .done))))) ⟨[(2,.ptr 0 0 0 1),(4,.ptr 32 0 0 1),(5,.ptr 320 0 0 1)],[(320,⟨96,4,[cI s]⟩),(32,⟨96,4,[cI zI]⟩),(0,⟨96,4,[cI a]⟩)],9000⟩ (k:=9) ?h3 ?hq
  case h3 =>
   intro G H;have q:∀j:Fr,(fv 2 j=.ptr 0 0 0 1∧fv 4 j=.ptr 32 0 0 1∧fv 5 j=.ptr 320 0 0 1)→G j [(320,⟨96,4,[cI s]⟩),(32,⟨96,4,[cI zI]⟩),(0,⟨96,4,[cI a]⟩)]:=by
    rintro j⟨S,P,O⟩;exact H _ _ qC
   simp[go_sem,b,ae b,dI]
   repeat' first|exact q _ ⟨rfl,rfl,rfl⟩|(refine q _ ?_;simp[fv,lk];done)|refine ag (fP 4294968273) a9 ?_|refine ag y (aN _ _) ?_|apply And.intro|simp[go_sem,e,dI]
  case hq =>
   simp[go_sem,e,ae e];refine ag w (aS _) ?_;simp[go_sem,i,ae i,be (l:=zI) (n:=4) rfl,ah];exact eC rfl
theorem TW(a b:List Int)(q:Wn 4 a)(u:Wn 4 b):∃r,Wn 4 r∧V r=(V a+V b)%115792089237316195423570985008687907853269984665640564039457584007908834671663∧W2 219 a b r:=by
 obtain⟨C,l,j,t⟩:=i6 a q;obtain⟨z,m,o,p⟩:=i6 b u;obtain⟨s,c,i,hc,w,F⟩:=qh C z l m;have x:=lO i;have H:=hc.1;have D:=hc.2;obtain⟨r,v,E,y⟩:=EM s c i hc (fun h=>by subst h;omega);have g:V r=(V a+V b)%115792089237316195423570985008687907853269984665640564039457584007908834671663:=by rw[E,w,j,o];omega
 unfold W1 at t p;have f:=q.1;have d:=u.1;have B:=i.1;have e:=v.1;refine⟨r,v,g,?_⟩;unfold W2;refine bF Tryz.func219 Tryz.ntmps219 (rs:=[.cell 4 96]) (aN a b) ?_;simp[go_sem,f,d];refine cz [0,2] [(1,[]),(3,[]),(4,[5,6]),(7,[]),(8,[])] 3 (k:=9) ?_;intro G A;simp[go_sem,f,d,ae f,ae d];refine ag t (aS _) ?_;simp[go_sem];refine ag p (aS _) ?_;simp[go_sem];refine ag F (aN _ _) ?_;simp[go_sem];refine ag y (v8 _ _) ?_;simp[go_sem,e,dI];refine A _ _ ?_;simp[go_sem,e,ae e,ah];exact eC rfl
theorem TX{Q:AV→Prop}{st:St}{a b:List Int}(hq:Q (.tup [.agg (cI a),.agg (cI b)])):dC Q (.tup [.agg (cI a),.agg (cI b)]) st :=
 aa (by
  intro c hc;simp at hc;rcases hc with rfl|rfl;exact .inr ⟨_,rfl,j6 _⟩
  exact .inr ⟨_,rfl,j6 _⟩) hq
theorem abf(l:List Int)(n:Nat):(cI l).take n=cI (l.take n):=by simp[cI,List.map_take]
theorem abg(l:List Int)(n:Nat):(cI l).drop n=cI (l.drop n):=by simp[cI,List.map_drop]
theorem TY{l:List Int}(h:Wn 8 l):Wn 4 (l.take 4):=⟨by rw[List.length_take,h.1];rfl,fun x a=>h.2 x (List.mem_of_mem_take a)⟩
theorem TZ{l:List Int}(h:Wn 8 l):Wn 4 (l.drop 4):=⟨by rw[e_,h.1],fun x a=>h.2 x (List.mem_of_mem_drop a)⟩
theorem V8{p:List Int}(h:Wn 8 p):V (p.take 4)+115792089237316195423570985008687907853269984665640564039457584007913129639936*V (p.drop 4)=V p:=by
 obtain⟨j,_⟩:=h
 match p,j with
 |[a,b,c,d,e,f,g,i],_ =>
  simp only[List.take_succ_cons,List.take_zero,List.drop_succ_cons,List.drop_zero,V];omega
theorem T0(a b:List Int)(s:Wn 4 a)(u:Wn 4 b):∃(f hi:List Int),Wn 4 f∧Wn 4 hi∧V f+115792089237316195423570985008687907853269984665640564039457584007913129639936*V hi=V a*V b∧au Tryz.prog 133 [.agg (cI a),.agg (cI b)] (fun r=>r=.tup [.agg (cI f),.agg (cI hi)]):=by
 obtain⟨p,l,z,w⟩:=G3 a b s u;have i:=s.1;have g:=u.1;have e:=l.1;have h:=TY l;have j:=TZ l;refine⟨p.take 4,p.drop 4,h,j,by rw[←z];exact V8 l,?_⟩;refine bF Tryz.func133 Tryz.ntmps133 (rs:=[.cell 4 96,.cell 5 96]) (aN a b) ?_;simp[go_sem,i,g,ae i,ae g];refine ag w (aN _ _) ?_;simp[go_sem,e];have q:=abf p 4;have o:=abg p 4;have d:=h.1;have c:=j.1;have t:(cI (p.drop 4)).take 4=cI (p.drop 4):=ae c;generalize p.take 4=f at *;generalize p.drop 4=hi at *;have x:List.drop 4 (cI zI)=[]:=be rfl;refine dE [0,1,2] [3,4,5,6,7] [0,1,2] (.alt (bt 3 (.alt (bt 4 (.alt (bt 5 (a_ [6,7])) (a_ [6,5,7]))) (a_ [6,4,5,7]))) (a_ [6,3,4,5,7])) ⟨[(4,.ptr 64 0 0 1),(5,.ptr 96 0 0 1)],[(96,⟨96,4,[cI hi]⟩),(64,⟨96,4,[cI f]⟩)],9000⟩ (k:=8) ?h3 ?hq
 case h3 =>
  intro G y;have v:∀m:Fr,(fv 4 m=.ptr 64 0 0 1∧fv 5 m=.ptr 96 0 0 1)→G m [(224,⟨226,8,[cI p]⟩),(96,⟨96,4,[cI hi]⟩),(64,⟨96,4,[cI f]⟩),(32,⟨96,4,[cI b]⟩),(0,⟨96,4,[cI a]⟩)]:=by
   rintro m⟨q,o⟩;exact y _ _ qC
  simp[go_sem,e,q,o,t,d,c,dI]
  repeat' first|exact v _ ⟨rfl,rfl⟩|apply And.intro|simp[go_sem,e,q,o,t,d,c,x,dI]
 case hq =>
  simp[go_sem,d,c,ae d,ae c,ah];exact TX rfl
theorem BV(a b:List Int)(A:Wn 4 a)(G:Wn 4 b):∃r,Wn 4 r∧V r=(V a*V b)%115792089237316195423570985008687907853269984665640564039457584007908834671663∧W2 209 a b r:=by
 obtain⟨B,v,g,l,W,O⟩:=T0 a b A G;obtain⟨L,d,k,f,vf,J⟩:=Af v l;obtain⟨s,c,u,hc,Y,T⟩:=qh B L g k;obtain⟨Q,c2,m,z,x,N⟩:=Af [IntKind.u64.wrap (d+c),0,0,0] (kS (TS _));obtain⟨q,c3,i,j,U,P⟩:=qh s Q u m;have b1:=lO g;have b2:=lO l;have b3:=lO k;have b4:=lO u;have b5:=lO m;have b6:=lO i;have q1:=f.1;have q2:=f.2;have q3:=hc.1;have q4:=hc.2;have q5:=j.1;have Z:=j.2;have X:=z.1;have I:V [IntKind.u64.wrap (d+c),0,0,0]=d+c:=by
  rw[V4,BR];omega
 rw[I]at x;have K:c3=1→V q+4294968273<115792089237316195423570985008687907853269984665640564039457584007913129639936:=fun h=>by subst h;omega
 obtain⟨r,H,S,M⟩:=EM q c3 i j K;have t:V r=(V a*V b)%115792089237316195423570985008687907853269984665640564039457584007908834671663:=by
  have z2:c2=0:=by
   have h1:d+c≤18446744073709551616:=aq;have h2:115792089237316195423570985008687907853269984665640564039457584007913129639936*c2≤(d+c)*4294968273:=aq;omega
  subst z2;have e:V B+115792089237316195423570985008687907853269984665640564039457584007913129639936*V v=(V q+115792089237316195423570985008687907853269984665640564039457584007913129639936*c3)+115792089237316195423570985008687907853269984665640564039457584007908834671663*(V v+(d+c)):=aq;rw[S,←W,e,Int.add_mul_emod_self_left]
 have p:=A.1;have o:=G.1;have y:=g.1;have C:=l.1;have F:=k.1;have w:=u.1;have E:=m.1;have l6:=i.1;have D:=H.1;have hz:List.drop 4 (cI zI)=[]:=be rfl;refine⟨r,H,t,?_⟩;unfold W2;refine bF Tryz.func209 Tryz.ntmps209 (rs:=[.cell 4 96]) (aN a b) ?_;simp[go_sem,p,o,ae p,ae o];refine ag O (aN _ _) ?_;simp[go_sem,y,C,ae C];refine ag J (aS _) ?_;simp[go_sem,y,F,ae y,ae F];refine ag T (aN _ _) ?_;simp[go_sem,w];refine ag (fP _) a9 ?_;simp[go_sem];refine ag N (aS _) ?_;simp[go_sem,w,E,ae w,ae E];refine ag P (aN _ _) ?_;simp[go_sem];refine ag M (v8 _ _) ?_;simp[go_sem,D,ae D,ah];exact eC rfl
theorem mr{y n:Nat}(h:jd[y]?=some (n:Int)):y<2 ^ n:=by
 unfold jd at h;rw[c_]at h;by_cases a:y<256;rw[List.getElem?_range a,Option.map_some,Option.some.injEq]at h;by_cases b:y=0;subst b;exact Nat.two_pow_pos n;rw[if_neg b]at h;have:n=Nat.log2 y+1:=aq;rw[this];exact Nat.lt_log2_self;rw[List.getElem?_eq_none (by simpa using a)]at h;cases h
theorem up(k:Nat){X Y n:Nat}(h:X/2 ^ k=Y)(a:Y<2 ^ n):X<2 ^ (k+n):=by
 subst h;rw[Nat.pow_add,Nat.mul_comm];exact(Nat.div_lt_iff_lt_mul (Nat.two_pow_pos k)).1 a
theorem up2{X a b:Nat}(h:X<2 ^ a)(e:a=b):X<2 ^ b:=e▸h
theorem T8(X:Nat)(P:X<18446744073709551616):∃n:Nat,n≤64∧X<2 ^ n∧au Tryz.prog 212 [.d (.int .u64 (X:Int))] (fun r=>r=.d (.int .i64 (n:Int))):=by
 have y:∀n:Nat,n≤100→IntKind.i64.wrap (n:Int)=(n:Int):=fun n h=>IntWalk.i64_in _ aq;have z:∀n:Int,0≤n→n≤100→IntKind.i64.wrap n=n:=fun n N f=>IntWalk.i64_in _ aq;have J:IntKind.i64.wrap 8=8∧IntKind.i64.wrap 16=16∧IntKind.i64.wrap 24=24∧IntKind.i64.wrap 32=32∧IntKind.i64.wrap 40=40∧IntKind.i64.wrap 48=48∧IntKind.i64.wrap 56=56:=by
  and_intros<;>exact IntWalk.i64_in _ aq
 obtain⟨L,A,E,M,G,B,D⟩:=J;by_cases O:X<4294967296
 ·have k:¬(4294967296:Int)≤(X:Int):=aq;by_cases K:X<65536
  ·have i:¬(65536:Int)≤(X:Int):=aq;by_cases H:X<256
   ·have p:¬(256:Int)≤(X:Int):=aq;have o:IntKind.u8.wrap (X:Int)=(X:Int):=by rw[LJ];omega
    have m:X<256:=aq;obtain⟨b,c⟩:∃b,jd[X]?=some b:=⟨_,cm (by simp[jd];omega)⟩;obtain⟨n,rfl,q⟩:=iY rfl c;have s:n≤8:=by split at q<;>omega
    refine⟨0+n,aq,by rw[Nat.zero_add];exact mr c,?_⟩;refine bF Tryz.func212 Tryz.ntmps212 (rs:=[.tmp 2]) a9 ?_;simp[go_sem,k,i,p,o]
    split;rename_i b2 a;have f:jd[X]?=some b2:=a;rw[c]at f;cases f;exact aa a9 (by simp only[y n aq]);rename_i a;exact iZ rfl m a
   ·have p:(256:Int)≤(X:Int):=aq;have d8:Int.fdiv (X:Int) 256=((X/256:Nat):Int):=gn X 256;have F:X/256<256:=aq;generalize l:X/256=g at *;have o:IntKind.u8.wrap (g:Int)=(g:Int):=by rw[LJ];omega
    have m:g<256:=aq;obtain⟨b,c⟩:∃b,jd[g]?=some b:=⟨_,cm (by simp[jd];omega)⟩;obtain⟨n,rfl,q⟩:=iY rfl c;have s:n≤8:=by split at q<;>omega
    refine⟨8+n,aq,up 8 l (mr c),?_⟩;refine bF Tryz.func212 Tryz.ntmps212 (rs:=[.tmp 2]) a9 ?_;simp[go_sem,k,i,p,d8,o,IntKind.bits,L]
    split;rename_i b2 a;have f:jd[g]?=some b2:=a;rw[c]at f;cases f;have t:IntKind.i64.wrap (8+(n:Int))=8+(n:Int):=z _ aq aq;exact aa a9 (by simp only[y n aq,t]);rename_i a;exact iZ rfl m a
  ·have i:(65536:Int)≤(X:Int):=aq;have u:Int.fdiv (X:Int) 65536=((X/65536:Nat):Int):=gn X 65536;have C:X/65536<65536:=aq;generalize v:X/65536=e at *;by_cases H:e<256
   ·have p:¬(256:Int)≤(e:Int):=aq;have o:IntKind.u8.wrap (e:Int)=(e:Int):=by rw[LJ];omega
    have m:e<256:=aq;obtain⟨b,c⟩:∃b,jd[e]?=some b:=⟨_,cm (by simp[jd];omega)⟩;obtain⟨n,rfl,q⟩:=iY rfl c;have s:n≤8:=by split at q<;>omega
    refine⟨16+n,aq,up 16 v (mr c),?_⟩;refine bF Tryz.func212 Tryz.ntmps212 (rs:=[.tmp 2]) a9 ?_;simp[go_sem,k,i,u,p,o,IntKind.bits,A]
    split;rename_i b2 a;have f:jd[e]?=some b2:=a;rw[c]at f;cases f;have t:IntKind.i64.wrap (16+(n:Int))=16+(n:Int):=z _ aq aq;exact aa a9 (by simp only[y n aq,t]);rename_i a;exact iZ rfl m a
   ·have p:(256:Int)≤(e:Int):=aq;have d8:Int.fdiv (e:Int) 256=((e/256:Nat):Int):=gn e 256;have F:e/256<256:=aq;generalize l:e/256=g at *;have o:IntKind.u8.wrap (g:Int)=(g:Int):=by rw[LJ];omega
    have m:g<256:=aq;obtain⟨b,c⟩:∃b,jd[g]?=some b:=⟨_,cm (by simp[jd];omega)⟩;obtain⟨n,rfl,q⟩:=iY rfl c;have s:n≤8:=by split at q<;>omega
    refine⟨24+n,aq,up2 (up 16 v (up 8 l (mr c))) aq,?_⟩;refine bF Tryz.func212 Tryz.ntmps212 (rs:=[.tmp 2]) a9 ?_;simp[go_sem,k,i,u,p,d8,o,IntKind.bits,A,E]
    split;rename_i b2 a;have f:jd[g]?=some b2:=a;rw[c]at f;cases f;have t:IntKind.i64.wrap (24+(n:Int))=24+(n:Int):=z _ aq aq;exact aa a9 (by simp only[y n aq,t]);rename_i a;exact iZ rfl m a
 ·have k:(4294967296:Int)≤(X:Int):=aq;have x:Int.fdiv (X:Int) 4294967296=((X/4294967296:Nat):Int):=gn X 4294967296;have I:X/4294967296<4294967296:=aq;generalize w:X/4294967296=j at *;by_cases K:j<65536
  ·have i:¬(65536:Int)≤(j:Int):=aq;by_cases H:j<256
   ·have p:¬(256:Int)≤(j:Int):=aq;have o:IntKind.u8.wrap (j:Int)=(j:Int):=by rw[LJ];omega
    have m:j<256:=aq;obtain⟨b,c⟩:∃b,jd[j]?=some b:=⟨_,cm (by simp[jd];omega)⟩;obtain⟨n,rfl,q⟩:=iY rfl c;have s:n≤8:=by split at q<;>omega
    refine⟨32+n,aq,up 32 w (mr c),?_⟩;refine bF Tryz.func212 Tryz.ntmps212 (rs:=[.tmp 2]) a9 ?_;simp[go_sem,k,x,i,p,o,IntKind.bits]
    split;rename_i b2 a;have f:jd[j]?=some b2:=a;rw[c]at f;cases f;have t:IntKind.i64.wrap (32+(n:Int))=32+(n:Int):=z _ aq aq;exact aa a9 (by simp only[y n aq,t]);rename_i a;exact iZ rfl m a
   ·have p:(256:Int)≤(j:Int):=aq;have d8:Int.fdiv (j:Int) 256=((j/256:Nat):Int):=gn j 256;have F:j/256<256:=aq;generalize l:j/256=g at *;have o:IntKind.u8.wrap (g:Int)=(g:Int):=by rw[LJ];omega
    have m:g<256:=aq;obtain⟨b,c⟩:∃b,jd[g]?=some b:=⟨_,cm (by simp[jd];omega)⟩;obtain⟨n,rfl,q⟩:=iY rfl c;have s:n≤8:=by split at q<;>omega
    refine⟨40+n,aq,up2 (up 32 w (up 8 l (mr c))) aq,?_⟩;refine bF Tryz.func212 Tryz.ntmps212 (rs:=[.tmp 2]) a9 ?_;simp[go_sem,k,x,i,p,d8,o,IntKind.bits,G]
    split;rename_i b2 a;have f:jd[g]?=some b2:=a;rw[c]at f;cases f;have t:IntKind.i64.wrap (40+(n:Int))=40+(n:Int):=z _ aq aq;exact aa a9 (by simp only[y n aq,t]);rename_i a;exact iZ rfl m a
  ·have i:(65536:Int)≤(j:Int):=aq;have u:Int.fdiv (j:Int) 65536=((j/65536:Nat):Int):=gn j 65536;have C:j/65536<65536:=aq;generalize v:j/65536=e at *;by_cases H:e<256
   ·have p:¬(256:Int)≤(e:Int):=aq;have o:IntKind.u8.wrap (e:Int)=(e:Int):=by rw[LJ];omega
    have m:e<256:=aq;obtain⟨b,c⟩:∃b,jd[e]?=some b:=⟨_,cm (by simp[jd];omega)⟩;obtain⟨n,rfl,q⟩:=iY rfl c;have s:n≤8:=by split at q<;>omega
    refine⟨48+n,aq,up2 (up 32 w (up 16 v (mr c))) aq,?_⟩;refine bF Tryz.func212 Tryz.ntmps212 (rs:=[.tmp 2]) a9 ?_;simp[go_sem,k,x,i,u,p,o,IntKind.bits,B]
    split;rename_i b2 a;have f:jd[e]?=some b2:=a;rw[c]at f;cases f;have t:IntKind.i64.wrap (48+(n:Int))=48+(n:Int):=z _ aq aq;exact aa a9 (by simp only[y n aq,t]);rename_i a;exact iZ rfl m a
   ·have p:(256:Int)≤(e:Int):=aq;have d8:Int.fdiv (e:Int) 256=((e/256:Nat):Int):=gn e 256;have F:e/256<256:=aq;generalize l:e/256=g at *;have o:IntKind.u8.wrap (g:Int)=(g:Int):=by rw[LJ];omega
    have m:g<256:=aq;obtain⟨b,c⟩:∃b,jd[g]?=some b:=⟨_,cm (by simp[jd];omega)⟩;obtain⟨n,rfl,q⟩:=iY rfl c;have s:n≤8:=by split at q<;>omega
    refine⟨56+n,aq,up2 (up 32 w (up 16 v (up 8 l (mr c)))) aq,?_⟩;refine bF Tryz.func212 Tryz.ntmps212 (rs:=[.tmp 2]) a9 ?_;simp[go_sem,k,x,i,u,p,d8,o,IntKind.bits,B,D]
    split;rename_i b2 a;have f:jd[g]?=some b2:=a;rw[c]at f;cases f;have t:IntKind.i64.wrap (56+(n:Int))=56+(n:Int):=z _ aq aq;exact aa a9 (by simp only[y n aq,t]);rename_i a;exact iZ rfl m a
theorem T9(x:Int)(a:dZ x):∃n:Nat,n≤64∧x<2 ^ n∧au Tryz.prog 212 [.d (.int .u64 x)] (fun r=>r=.d (.int .i64 (n:Int))):=by
 obtain⟨X,rfl⟩:=Int.eq_ofNat_of_zero_le a.1;obtain⟨n,b,c,e⟩:=T8 X (by have:=a.2;omega);exact⟨n,b,by exact_mod_cast c,e⟩
def BW(N:Int→Nat)(a:List Int):Nat→Nat
 |0=>0
 |k+1=>if gI a k=0 then BW N a k else 64*k+N (gI a k)
theorem I1{N:Int→Nat}{a:List Int}(h:∀k,N (gI a k)≤64):∀k,BW N a k≤64*k
 |0=>cR _
 |k+1=>by
  have b:=I1 h k;have c:=h k;unfold BW;split<;>omega
theorem Ye{N:Int→Nat}{a:List Int}(r:Wn 4 a)(h:∀k,gI a k<2 ^ N (gI a k)):V a<2 ^ BW N a 4:=by
 obtain⟨c,d,e,b,rfl,v,w,x,u⟩:=kp r;have s:=h 0;have t:=h 1;have k2:=h 2;have k3:=h 3;have j:gI [c,d,e,b] 0=c:=rfl;have o:gI [c,d,e,b] 1=d:=rfl;have i:gI [c,d,e,b] 2=e:=rfl;have l:gI [c,d,e,b] 3=b:=rfl;rw[j]at s;rw[o]at t;rw[i]at k2;rw[l]at k3;have p:∀n m:Nat,(2:Int) ^ (n+m)=2 ^ n*2 ^ m:=fun n m=>Int.pow_add 2 n m;simp only[BW,j,o,i,l,V4];unfold dZ at *;by_cases z3:b=0;rw[if_pos z3];by_cases z2:e=0;rw[if_pos z2];by_cases f:d=0;rw[if_pos f];by_cases g:c=0;rw[if_pos g];subst g f z2 z3;decide;rw[if_neg g,p];subst f z2 z3;generalize(2:Int) ^ N c=q at *;simp;omega;rw[if_neg f,p];subst z2 z3;generalize(2:Int) ^ N d=q at *;simp;omega;rw[if_neg z2,p];subst z3;generalize(2:Int) ^ N e=q at *;simp;omega;rw[if_neg z3,p];generalize(2:Int) ^ N b=q at *;simp;omega
theorem BX(a:List Int)(c:Wn 4 a):∃n:Nat,n≤256∧V a<2 ^ n∧au Tryz.prog 182 [.agg (cI a)] (fun r=>r=.d (.int .i64 (n:Int))):=by
 obtain⟨N,h⟩:=pick (α:=Int) (β:=Nat) (A:=fun x=>dZ x) (B:=fun x n=>n≤64∧x<2 ^ n∧au Tryz.prog 212 [.d (.int .u64 x)] (fun r=>r=.d (.int .i64 (n:Int)))) T9;have m:∀k,N (gI a k)≤64:=fun k=>(h _ (dG c)).1;have i:=I1 m;have o:=c.1;refine⟨BW N a 4,i 4,Ye c (fun k=>(h _ (dG c)).2.1),?_⟩;refine bF Tryz.func182 Tryz.ntmps182 (rs:=[.tmp 2]) (aS a) ?_;generalize v:BW N a 4=T;simp[go_sem,o]
 refine av (fun k:Nat=>⟨[(1,.ptr 0 0 0 1),(3,.d (.int .i64 (Td k)))],[(0,⟨96,4,[cI a]⟩)],500⟩)
  (fun k=>k≤4∧BW N a k=T) (fun k=>k) 4 ⟨aq,v⟩ (by
   simp[az,ai,fv,lk,AV.low,AV.low1,Td]
   exact cE _ _) ?_
 rintro k⟨t,b⟩
 match k,t,b with
 |0,_,b =>
  simp[go_sem,VJ,ah];exact aa a9 (by rw[←b];rfl)
 | k+1,t,b =>
  have p:=dG (k:=k) c;have e:=ko (l:=a) (k:=k) aq;have f:(k:Int)<4:=aq;unfold BW at b;have q:=(h _ p).1;have hc:=(h _ p).2.2;by_cases g:gI a k=0
  ·rw[if_pos g]at b;have w:IntKind.i64.wrap ((k:Int)-1)=Td k:=by
    cases k with
    |zero=>rw[IntWalk.i64_in _ aq];rfl
    |succ j=>rw[IntWalk.i64_in _ aq];simp[Td]
   simp[go_sem,Oi,e,f,g,w]
   first|refine am k ⟨aq,b⟩ aq ?_
   simp[az,ai,fv,lk,AV.low,AV.low1];exact cE _ _
  ·rw[if_neg g]at b;have u:IntKind.i64.wrap (64*(k:Int))=64*(k:Int):=IntWalk.i64_in _ aq;generalize y:N (gI a k)=n at *;have s:IntKind.i64.wrap (64*(k:Int)+(n:Int))=64*(k:Int)+(n:Int):=IntWalk.i64_in _ aq;simp[go_sem,Oi,e,f,g,u]
   first|refine ag hc a9 ?_
   simp[go_sem,s,ah];exact aa a9 (by rw[←b];first|rfl|simp[s])
theorem I2(a b:List Int)(x:Wn 4 a)(B:Wn 4 b):∃r,Wn 4 r∧V r=(V a-V b)%115792089237316195423570985008687907853269984665640564039457584007908834671663∧W2 210 a b r:=by
 obtain⟨L,t,E,v⟩:=i6 a x;obtain⟨I,u,F,s⟩:=i6 b B;obtain⟨d,c,p,hc,U,C⟩:=sX L I t u;obtain⟨q,c2,l,o,D,H⟩:=qh d BU p EL;have P:V BU=115792089237316195423570985008687907853269984665640564039457584007908834671663:=by simp[V,BU]
 rw[P]at D;have T:=lO p;have Q:=lO l;have N:=hc.1;have O:=hc.2;have M:=o.1;have S:=o.2;unfold W1 at v s;have h:=x.1;have g:=B.1;have e:=p.1;have j:=l.1;have z:List.drop 4 (cI zI)=[]:=be rfl;by_cases w:c=0
 ·refine⟨d,p,by subst w;omega,?_⟩;unfold W2;refine bF Tryz.func210 Tryz.ntmps210 (rs:=[.cell 4 96]) (aN a b) ?_;simp[go_sem,h,g];refine dE [0,2] [1,3,4,8,9] [0,2,5,6,7,10] (.alt (bt 1 (.alt (bt 3 (.alt (.step 4 [5,6,7] true (bt 8 (.step 9 [10] true .done))) (bt 8 (.step 4 [5,6,7] true (.step 9 [10] true .done))))) (bt 8 (bt 3 (.step 4 [5,6,7] true (.step 9 [10] true .done)))))) (bt 8 (bt 1 (bt 3 (.step 4 [5,6,7] true (.step 9 [10] true .done)))))) ⟨[(4,.ptr 64 0 0 1),(5,.ptr 352 0 0 1),(6,.d (.int .u64 c))],[(352,⟨96,4,[cI d]⟩),(64,⟨96,4,[cI zI]⟩)],9000⟩ (k:=11) ?h3 ?hq
  case h3 =>
   intro G m;have i:∀f:Fr,(fv 4 f=.ptr 64 0 0 1∧fv 5 f=.ptr 352 0 0 1∧fv 6 f=.d (.int .u64 c))→G f [(352,⟨96,4,[cI d]⟩),(64,⟨96,4,[cI zI]⟩),(32,⟨96,4,[cI b]⟩),(0,⟨96,4,[cI a]⟩)]:=by
    rintro f⟨y,A,J⟩;exact m _ _ qC
   simp[go_sem,h,g,ae h,ae g,dI]
   repeat' first|exact i _ ⟨rfl,rfl,rfl⟩|(refine i _ ?_;simp[fv,lk];done)|refine ag v (aS _) ?_|refine ag s (aS _) ?_|refine ag C (aN _ _) ?_|apply And.intro|simp[go_sem,e,dI]
  case hq =>
   simp[go_sem,w,e,ae e,z,ah];exact eC rfl
 ·have K:c=1:=aq;refine⟨q,l,by subst K;omega,?_⟩;unfold W2;refine bF Tryz.func210 Tryz.ntmps210 (rs:=[.cell 4 96]) (aN a b) ?_;simp[go_sem,h,g];refine dE [0,2] [1,3,4,8,9] [0,2,5,6,7,10] (.alt (bt 1 (.alt (bt 3 (.alt (.step 4 [5,6,7] true (bt 8 (.step 9 [10] true .done))) (bt 8 (.step 4 [5,6,7] true (.step 9 [10] true .done))))) (bt 8 (bt 3 (.step 4 [5,6,7] true (.step 9 [10] true .done)))))) (bt 8 (bt 1 (bt 3 (.step 4 [5,6,7] true (.step 9 [10] true .done)))))) ⟨[(4,.ptr 64 0 0 1),(5,.ptr 352 0 0 1),(6,.d (.int .u64 c))],[(352,⟨96,4,[cI d]⟩),(64,⟨96,4,[cI zI]⟩)],9000⟩ (k:=11) ?h3 ?hq
  case h3 =>
   intro G m;have i:∀f:Fr,(fv 4 f=.ptr 64 0 0 1∧fv 5 f=.ptr 352 0 0 1∧fv 6 f=.d (.int .u64 c))→G f [(352,⟨96,4,[cI d]⟩),(64,⟨96,4,[cI zI]⟩),(32,⟨96,4,[cI b]⟩),(0,⟨96,4,[cI a]⟩)]:=by
    rintro f⟨y,A,J⟩;exact m _ _ qC
   simp[go_sem,h,g,ae h,ae g,dI]
   repeat' first|exact i _ ⟨rfl,rfl,rfl⟩|(refine i _ ?_;simp[fv,lk];done)|refine ag v (aS _) ?_|refine ag s (aS _) ?_|refine ag C (aN _ _) ?_|apply And.intro|simp[go_sem,e,dI]
  case hq =>
   simp[go_sem,w];refine dE [0] [1,2,5,6] [0,3,4] (bt 1 (.step 2 [3,4] true (.alt (bt 5 (a_ [6])) (a_ [6,5])))) ⟨[(4,.ptr 64 0 0 1),(5,.ptr 352 0 0 1)],[(352,⟨96,4,[cI q]⟩),(64,⟨96,4,[cI zI]⟩)],9000⟩ (k:=7) ?h3 ?hq
   case h3 =>
    intro G m;have i:∀f:Fr,(fv 4 f=.ptr 64 0 0 1∧fv 5 f=.ptr 352 0 0 1)→G f [(352,⟨96,4,[cI q]⟩),(64,⟨96,4,[cI zI]⟩)]:=by
     rintro f⟨y,A⟩;exact m _ _ qC
    simp[go_sem,e,ae e]
    repeat' first|exact i _ ⟨rfl,rfl⟩|(refine i _ ?_;simp[fv,lk];done)|refine ag lc aw ?_|refine ag H (aN _ _) ?_|apply And.intro|simp[go_sem,e,j,be e,dI]
   case hq =>
    simp[go_sem,j,ae j,z,ah];exact eC rfl
theorem Ub(a:List Int)(e:Wn 4 a):∃r,Wn 4 r∧V r=(0-V a)%115792089237316195423570985008687907853269984665640564039457584007908834671663∧W1 218 a r:=by
 obtain⟨r,f,g,d⟩:=I2 zI a kR e;unfold W2 at d;have b:=e.1;have c:=f.1;have h:List.drop 4 (cI zI)=[]:=be rfl;refine⟨r,f,g,?_⟩;unfold W1;refine bF Tryz.func218 Tryz.ntmps218 (rs:=[.cell 2 96]) (aS a) ?_;simp[go_sem,b,ae b];refine ag d (aN zI a) ?_;simp[go_sem,c,ae c,ah];exact eC rfl
theorem abh:∃M:List Int×List Int→List Int,∀x,(Wn 4 x.1∧Wn 4 x.2)→Wn 4 (M x)∧V (M x)=(V x.1*V x.2)%115792089237316195423570985008687907853269984665640564039457584007908834671663∧au Tryz.prog 209 [.agg (cI x.1),.agg (cI x.2)] (fun r=>r=.agg (cI (M x))) :=
 pick (α:=List Int×List Int) (β:=List Int) (A:=fun x=>Wn 4 x.1∧Wn 4 x.2) (B:=fun x y=>Wn 4 y∧V y=(V x.1*V x.2)%115792089237316195423570985008687907853269984665640564039457584007908834671663∧au Tryz.prog 209 [.agg (cI x.1),.agg (cI x.2)] (fun r=>r=.agg (cI y))) (fun x a=>by
  obtain⟨r,b,c,d⟩:=BV x.1 x.2 a.1 a.2
  exact⟨r,b,c,d⟩)
def dq(i:Nat):Nat:=i/64
def rq(i:Nat):Nat:=i%64
def BZ(n:List Int)(i:Nat):Prop:=Go.bits .and .u64 (Int.fdiv (gI n (dq i)) (2 ^ rq i)) 1=0
theorem B5(z:Int)(a:0≤z)(b:z<18446744073709551616):Go.bits .and .u64 z 1=z%2:=by
 obtain⟨n,rfl⟩:=Int.eq_ofNat_of_zero_le a;have h:=bits_and_u64_nat n 1 aq aq;rw[Nat.and_one_is_mod,Int.natCast_emod]at h;exact h
theorem O7{n:List Int}(g:Wn 4 n){j:Nat}(hj:j<4):(((V n).toNat/2 ^ (64*j)%2 ^ 64:Nat):Int)=gI n j:=by
 obtain⟨a,b,c,d,rfl,i,k,l,h⟩:=kp g;unfold dZ at *;have e:=V4 a b c d;obtain⟨N,f⟩:∃N:Nat,V [a,b,c,d]=(N:Int):=⟨(V [a,b,c,d]).toNat,by rw[e];omega⟩;rw[f];rw[f]at e
 match j,hj with
 |0,_=>show _=a;rw[Int.toNat_natCast];omega
 |1,_=>show _=b;rw[Int.toNat_natCast];omega
 |2,_=>show _=c;rw[Int.toNat_natCast];omega
 |3,_=>show _=d;rw[Int.toNat_natCast];omega
theorem VV{n:List Int}(c:Wn 4 n){k:Nat}(p:k<256):(BZ n k→(V n).toNat/2 ^ k%2=0)∧(¬BZ n k→(V n).toNat/2 ^ k%2=1):=by
 have f:=O7 c (j:=k/64) aq;have o:=dG (k:=k/64) c;generalize(V n).toNat=N at *;have e:BZ n k↔N/2 ^ k%2=0:=by
  unfold BZ;have d:dq k=k/64:=rfl;have i:rq k=k%64:=rfl;rw[d,i,←f];have g:Int.fdiv (((N/2 ^ (64*(k/64))%2 ^ 64:Nat)):Int) (2 ^ (k%64))=((N/2 ^ (64*(k/64))%2 ^ 64/2 ^ (k%64):Nat):Int):=by
   rw[Int.fdiv_eq_ediv_of_nonneg _ (Int.le_of_lt (Int.pow_pos aq))]
   exact_mod_cast rfl
  have b:N/2 ^ (64*(k/64))%2 ^ 64/2 ^ (k%64)<18446744073709551616:=Nat.lt_of_le_of_lt (Nat.div_le_self _ _) (Nat.mod_lt _ (by decide));rw[g,B5 _ (Int.natCast_nonneg _) (Int.lt_of_lt_of_le (Int.ofNat_lt.2 b) (Int.le_of_eq rfl))];have l:(N/2 ^ (64*(k/64))%2 ^ 64/2 ^ (k%64))%2=N/2 ^ k%2:=by
   have a:(N/2 ^ (64*(k/64))%2 ^ 64).testBit (k%64)=N.testBit k:=by
    rw[Nat.testBit_mod_two_pow,←Nat.shiftRight_eq_div_pow,Nat.testBit_shiftRight];have:k%64<64:=Nat.mod_lt _ aq;rw[decide_eq_true this,Bool.true_and];congr 1;omega
   rw[Nat.testBit_eq_decide_div_mod_eq,Nat.testBit_eq_decide_div_mod_eq]at a;have m:=decide_eq_decide.1 a;have:=Nat.mod_two_eq_zero_or_one (N/2 ^ (64*(k/64))%2 ^ 64/2 ^ (k%64));have:=Nat.mod_two_eq_zero_or_one (N/2 ^ k);omega
  omega
 refine⟨e.1,fun h=>?_⟩;have:=Nat.mod_two_eq_zero_or_one (N/2 ^ k);rcases this with a|a;exact absurd (e.2 a) h;exact a
open Classical in
noncomputable def stpW(M:List Int×List Int→List Int)(n:List Int)(k:Nat)(s:List Int×List Int):List Int×List Int :=
 (if BZ n k then s.1 else M (s.1,s.2),M (s.2,s.2))
theorem O8(a n:List Int)(U:Wn 4 a)(H:Wn 4 n):∃r,Wn 4 r∧V r=V a ^ (V n).toNat%115792089237316195423570985008687907853269984665640564039457584007908834671663∧W2 215 a n r:=by
 obtain⟨M,o⟩:=abh;obtain⟨b,v,I,Y⟩:=i6 a U;obtain⟨L,hL,vL,f2⟩:=BX n H;unfold W1 at Y;have Q:∀k,Wn 4 (ga (stpW M n) ([1,0,0,0],b) k).1∧Wn 4 (ga (stpW M n) ([1,0,0,0],b) k).2:=j5 (P:=fun _(s:List Int×List Int)=>Wn 4 s.1∧Wn 4 s.2) ⟨kS ⟨aq,aq⟩,v⟩ fun k s i=>by
  unfold stpW;refine⟨?_,(o (s.2,s.2) ⟨i.2,i.2⟩).1⟩;dsimp only;split;exact i.1;exact(o (s.1,s.2) i).1
 have hV:∀k,k≤256→V (ga (stpW M n) ([1,0,0,0],b) k).1=V a ^ ((V n).toNat%2 ^ k)%115792089237316195423570985008687907853269984665640564039457584007908834671663∧V (ga (stpW M n) ([1,0,0,0],b) k).2=V a ^ (2 ^ k)%115792089237316195423570985008687907853269984665640564039457584007908834671663:=by
  intro k
  induction k with
  |zero =>
   intro _;refine⟨?_,?_⟩;show V [1,0,0,0]=_;rw[Nat.pow_zero,Nat.mod_one,Int.pow_zero];simp[V];show V b=_;rw[I,Nat.pow_zero,Int.pow_succ,Int.pow_zero,Int.one_mul]
  | succ k ih =>
   intro hk;obtain⟨E,i2⟩:=ih aq;have i:=Q k;have bv:=VV H (k:=k) aq;have x:=(o ((ga (stpW M n) ([1,0,0,0],b) k).2,(ga (stpW M n) ([1,0,0,0],b) k).2) ⟨i.2,i.2⟩).2.1;have F:=(o ((ga (stpW M n) ([1,0,0,0],b) k).1,(ga (stpW M n) ([1,0,0,0],b) k).2) i).2.1;rw[ga];generalize ga (stpW M n) ([1,0,0,0],b) k=s at *;dsimp only at F x;have O:V (stpW M n k s).2=V a ^ (2 ^ (k+1))%115792089237316195423570985008687907853269984665640564039457584007908834671663:=by
    show V (M (s.2,s.2))=_;rw[x,i2,←Int.mul_emod,←Int.pow_add,Nat.pow_succ,Nat.mul_two]
   refine⟨?_,O⟩;rw[Nat.mod_pow_succ];unfold stpW;dsimp only;by_cases c:BZ n k;rw[if_pos c,E,bv.1 c,Nat.mul_zero,Nat.add_zero];rw[if_neg c,F,E,i2,bv.2 c,Nat.mul_one,Int.pow_add,←Int.mul_emod]
 have u:(V n).toNat%2 ^ L=(V n).toNat:=Nat.mod_eq_of_lt (by
  have h0:=(lO H).1;have:(((V n).toNat:Nat):Int)<((2 ^ L:Nat):Int):=by rw[Int.toNat_of_nonneg h0];exact_mod_cast vL
  exact_mod_cast this)
 refine⟨(ga (stpW M n) ([1,0,0,0],b) L).1,(Q L).1,by rw[(hV L hL).1,u],?_⟩;unfold W2;refine bF Tryz.func215 Tryz.ntmps215 (rs:=[.cell 4 96]) (aN a n) ?_;have j:=U.1;have m:=H.1;have J:=v.1;have hz:List.drop 4 (cI zI)=[]:=be rfl;simp[go_sem,j,m];generalize C:ga (stpW M n) ([1,0,0,0],b)=S at *;have T:S 0=([1,0,0,0],b):=by rw[←C];rfl
 refine dE [1] [0,2,3,4,5,6] [1] (.alt (bt 0 (.alt (bx 2 (.alt (a_ [3,4,5,6]) (a_ [4,3,5,6]))) (.alt (bt 3 (.alt (a_ [2,4,5,6]) (bt 4 (a_ [2,5,6])))) (bt 4 (.alt (a_ [2,3,5,6]) (bt 3 (a_ [2,5,6]))))))) (.alt (bt 3 (.alt (bt 0 (.alt (a_ [2,4,5,6]) (bt 4 (a_ [2,5,6])))) (bt 4 (bt 0 (a_ [2,5,6]))))) (bt 4 (.alt (bt 0 (.alt (a_ [2,3,5,6]) (bt 3 (a_ [2,5,6])))) (bt 3 (bt 0 (a_ [2,5,6]))))))) ⟨[(3,.ptr 32 0 0 1),(4,.ptr 64 0 0 1),(5,.ptr 192 0 0 1),(6,.ptr 224 0 0 1)],[(224,⟨96,4,[cI b]⟩),(192,⟨96,4,[cI [1,0,0,0]]⟩),(64,⟨96,4,[cI zI]⟩),(32,⟨96,4,[cI n]⟩)],9000⟩ (k:=7) ?h3 ?hq
 case h3 =>
  intro G hG;have X:∀(t:Fr)(p:Hp),(fv 3 t=.ptr 32 0 0 1∧fv 4 t=.ptr 64 0 0 1∧fv 5 t=.ptr 192 0 0 1∧fv 6 t=.ptr 224 0 0 1∧lk 224 p=some ⟨96,4,[cI b]⟩∧lk 192 p=some ⟨96,4,[cI [1,0,0,0]]⟩∧lk 64 p=some ⟨96,4,[cI zI]⟩∧lk 32 p=some ⟨96,4,[cI n]⟩)→G t p:=by
   rintro t p⟨q0,q1,q2,q3,q4,q5,q6,q7⟩;exact hG _ _ qC
  simp[go_sem,j,ae j,dI]
  repeat' first|exact X _ _ ⟨rfl,rfl,rfl,rfl,rfl,rfl,rfl,rfl⟩|(refine X _ _ ?_;simp[fv];done)|refine ag (fP 1) a9 ?_|refine ag Y (aS _) ?_|apply And.intro|simp[go_sem,J,dI]
 case hq =>
  simp[go_sem,m,ae m];refine ag f2 (aS _) ?_;simp[go_sem]
  refine av (fun k:Nat=>⟨[(3,.ptr 32 0 0 1),(4,.ptr 64 0 0 1),(5,.ptr 192 0 0 1),(6,.ptr 224 0 0 1),(12,.d (.int .i64 (L:Int))),(13,.d (.int .i64 (k:Int)))],[(224,⟨96,4,[cI (S k).2]⟩),(192,⟨96,4,[cI (S k).1]⟩),(64,⟨96,4,[cI zI]⟩),(32,⟨96,4,[cI n]⟩)],20000⟩)
   (fun k=>k≤L) (fun k=>L-k) 0 aq (by
    rw[T];simp[az,ai,fv,lk,AV.low,AV.low1]
    and_intros<;>first|rfl|exact cE _ _) ?_
  intro k hk;obtain⟨B,g⟩:=Q k;have q:=B.1;have f:=g.1;have W:=ay (k:=k) aq;simp only[go_sem,Nat.reduceEqDiff,Nat.reduceAdd,Nat.reduceLT,↓reduceIte];by_cases Z:k<L
  ·refine⟨fun h=>?_,fun h=>absurd (by exact_mod_cast Z) h⟩;have e:S (k+1)=stpW M n k (S k):=by rw[←C];rfl
   have ac:dq k=k/64:=rfl;have ad:rq k=k%64:=rfl;have D:=ko (l:=n) (k:=dq k) aq;have N:IntKind.i64.wrap ((k:Int)/64)=(dq k:Int):=by rw[IntWalk.i64_in _ aq];omega
   have ab:IntKind.i64.wrap ((k:Int).tdiv 64)=(dq k:Int):=N;have O:(k:Int)%64=(rq k:Int):=aq;have w:(k:Int).tmod 64=(rq k:Int):=O;have E:(dq k:Int)<4:=aq;obtain⟨F,_,x⟩:=o ((S k).2,(S k).2) ⟨g,g⟩;obtain⟨m3,_,m4⟩:=o ((S k).1,(S k).2) ⟨B,g⟩;have l3:=F.1;have l4:=m3.1;have aa:rq k<64:=aq;have A:min (rq k) 64=rq k:=aq;unfold stpW at e;by_cases c:BZ n k
   ·rw[if_pos c]at e;unfold BZ at c;simp[go_sem,D,w,N,E,A,c,IntKind.bits,f,ae f]
    first|refine ag x (aN _ _) ?_
    generalize M ((S k).2,(S k).2)=z at *;simp[go_sem,l3,f,be f,W]
    first|refine am (k+1) aq aq ?_
    rw[e];simp[az,ai,fv,lk,AV.low,AV.low1];and_intros<;>exact cE _ _
   ·rw[if_neg c]at e;unfold BZ at c;simp[go_sem,D,w,N,E,A,c,IntKind.bits,q,f,ae q,ae f]
    first|refine ag m4 (aN _ _) ?_
    generalize M ((S k).1,(S k).2)=y at *;simp[go_sem,l4,q,f,ae f,be q]
    first|refine ag x (aN _ _) ?_
    generalize M ((S k).2,(S k).2)=z at *;simp[go_sem,l3,f,be f,W]
    first|refine am (k+1) aq aq ?_
    rw[e];simp[az,ai,fv,lk,AV.low,AV.low1];and_intros<;>exact cE _ _
  ·refine⟨fun h=>absurd (by exact_mod_cast h) Z,fun h=>?_⟩;have K:k=L:=aq;subst K;simp[go_sem,q,ae q,hz];exact eC rfl
theorem orR{x y:Int}(b:dZ x)(a:dZ y):dZ (Go.bits .or .u64 x y):=by
 obtain⟨X,rfl⟩:=Int.eq_ofNat_of_zero_le b.1;obtain⟨Y,rfl⟩:=Int.eq_ofNat_of_zero_le a.1;have c:=b.2;have d:=a.2;rw[Tc X Y aq aq];have:=Nat.or_lt_two_pow (x:=X) (y:=Y) (n:=64) aq aq;exact⟨Int.natCast_nonneg _,aq⟩
theorem fdR{x:Int}(a:dZ x):dZ (Int.fdiv x 4):=by
 obtain⟨b,c⟩:=a;rw[Int.fdiv_eq_ediv_of_nonneg _ aq];exact⟨aq,aq⟩
theorem Uc(a:List Int)(h:Wn 4 a):∃r,Wn 4 r∧V r=V a ^ 115792089237316195423570985008687907853269984665640564039457584007908834671661%115792089237316195423570985008687907853269984665640564039457584007908834671663∧W1 213 a r:=by
 obtain⟨n,c,f,hc,k,m⟩:=sX BU [2,0,0,0] EL (kS ⟨aq,aq⟩);obtain⟨r,i,j,g⟩:=O8 a n h f;have p:V BU=115792089237316195423570985008687907853269984665640564039457584007908834671663:=by simp[V,BU]
 have l:V [2,0,0,0]=2:=by simp[V]
 rw[p,l]at k;have s:=lO f;have b2:=hc.1;have b3:=hc.2;have o:(V n).toNat=115792089237316195423570985008687907853269984665640564039457584007908834671661:=aq;rw[o]at j;unfold W2 at g;have b:=h.1;have e:=f.1;have d:=i.1;have q:List.drop 4 (cI zI)=[]:=be rfl;refine⟨r,i,j,?_⟩;unfold W1;refine bF Tryz.func213 Tryz.ntmps213 (rs:=[.cell 2 96]) (aS a) ?_;simp[go_sem,b];refine ag lc aw ?_;simp[go_sem];refine ag (fP 2) a9 ?_;simp[go_sem];refine ag m (aN _ _) ?_;simp[go_sem,b,e,ae b,ae e];refine ag g (aN _ _) ?_;simp[go_sem,d,ae d,ah];exact eC rfl
def hiS(x:Int):Int:=IntKind.u64.wrap (x*4611686018427387904)
def EN(a:List Int)(k:Nat)(s:List Int):List Int :=
 if k<3 then s.set k (Go.bits .or .u64 (Int.fdiv (gI a k) 4) (hiS (gI a (pl k 1))))else s.set k (Int.fdiv (gI a k) 4)
theorem O9(x y:Int)(d:0≤x)(c:x<18446744073709551616):Go.bits .or .u64 (Int.fdiv x 4) (hiS y)=x/4+4611686018427387904*(y%4):=by
 rw[Int.fdiv_eq_ediv_of_nonneg _ aq];unfold hiS;rw[BR];obtain⟨X,a⟩:∃X:Nat,x/4=(X:Int):=⟨(x/4).toNat,aq⟩;obtain⟨Y,b⟩:∃Y:Nat,y%4=(Y:Int):=⟨(y%4).toNat,aq⟩;have e:y*4611686018427387904%18446744073709551616=((Y*2 ^ 62:Nat):Int):=aq;rw[e,a,Tc X (Y*2 ^ 62) aq aq,b,Nat.or_comm,←Nat.shiftLeft_eq,←Nat.shiftLeft_add_eq_or_of_lt (show X<2 ^ 62 by omega),Nat.shiftLeft_eq];omega
theorem Yf{a:List Int}(j:Wn 4 a):V (ga (EN a) zI 4)=V a/4:=by
 obtain⟨f,b,c,d,rfl,g,h,i,w⟩:=kp j;have o:gI [f,b,c,d] 0=f:=rfl;have v:gI [f,b,c,d] 1=b:=rfl;have l:gI [f,b,c,d] 2=c:=rfl;have t:gI [f,b,c,d] 3=d:=rfl;have k:gI [f,b,c,d] (pl 0 1)=b:=rfl;have u:gI [f,b,c,d] (pl 1 1)=c:=rfl;have m:gI [f,b,c,d] (pl 2 1)=d:=rfl;have e:∀p q r s:Int,List.set (List.set (List.set (List.set zI 0 p) 1 q) 2 r) 3 s=[p,q,r,s]:=fun _ _ _ _=>rfl;unfold dZ at *;simp only[ga,EN,o,v,l,t,k,u,m];rw[if_neg (show ¬((3:Nat)<3)by omega),if_pos (show(2:Nat)<3 by omega),if_pos (show(1:Nat)<3 by omega),if_pos (show(0:Nat)<3 by omega),O9 f b g.1 g.2,O9 b c h.1 h.2,O9 c d i.1 i.2,e,V4,V4,Int.fdiv_eq_ediv_of_nonneg _ aq];omega
theorem Ud(a:List Int)(o:Wn 4 a):∃r,Wn 4 r∧V r=V a/4∧au Tryz.prog 216 [.agg (cI a),.d (.int .i64 2)] (fun x=>x=.agg (cI r)):=by
 have E:∀k,Wn 4 (ga (EN a) zI k):=j5 (P:=fun _(s:List Int)=>Wn 4 s) kR fun k s B=>by
  unfold EN;split;exact rI B (orR (fdR (dG o)) (TS _));exact rI B (fdR (dG o))
 refine⟨ga (EN a) zI 4,E 4,Yf o,?_⟩;refine bF Tryz.func216 Tryz.ntmps216 (rs:=[.cell 4 96]) (by intro v D;simp at D;rcases D with rfl|rfl;exact fO _;trivial) ?_;have z:=o.1;generalize m:ga (EN a) zI=S at *;have K:IntKind.i64.wrap 0=0:=IntWalk.i64_in _ aq;have I:List.drop 4 (cI zI)=[]:=be rfl;simp[go_sem,z,K]
 refine av (fun k:Nat=>⟨[(2,.ptr 0 0 0 1),(4,.ptr 32 0 0 1),(5,.ptr 192 0 0 1),(6,.d (.int .i64 0)),(7,.d (.int .i64 2)),(8,.d (.int .i64 (k:Int)))],[(192,⟨96,4,[cI (S k)]⟩),(32,⟨96,4,[cI zI]⟩),(0,⟨96,4,[cI a]⟩)],1000⟩)
  (fun k=>k≤4) (fun k=>4-k) 0 aq (by
   rw[←m];simp[az,ai,fv,lk,AV.low,AV.low1,ga]
   first|(and_intros<;>first|rfl|exact cE _ _)) ?_
 intro k L;have y:=E k;have b:=y.1;have H:=ay (k:=k) aq;have A:IntKind.i64.wrap 62=62:=IntWalk.i64_in _ aq;simp only[go_sem,Nat.reduceEqDiff,Nat.reduceAdd,Nat.reduceLT,↓reduceIte];by_cases j:k<4
 ·refine⟨fun h=>?_,fun h=>absurd (by exact_mod_cast j) h⟩;have i:=ko (l:=a) (k:=k) aq;have e:(k:Int)<4:=aq;have c:S (k+1)=EN a k (S k):=by rw[←m];rfl
  have J:IntKind.i64.wrap ((k:Int)-0)=(k:Int):=IntWalk.i64_in _ aq;have g:IntKind.i64.wrap (k:Int)=(k:Int):=IntWalk.i64_in _ aq;unfold EN at c;have f:pl k 1=k+1:=rfl;have p:IntKind.i64.wrap ((k:Int)+1)=(pl k 1:Int):=by rw[f];exact H
  by_cases C:k<3
  ·rw[if_pos C]at c;have w:=ko (l:=a) (k:=pl k 1) aq;have i3:(pl k 1:Int)<4:=aq;have u:pl k 1<4:=aq;have F:(S k)[k]?=some (gI (S k) k):=ko aq;have t:((S k).set k (Int.fdiv (gI a k) 4))[k]?=some (Int.fdiv (gI a k) 4):=by rw[List.getElem?_set_self aq]
   simp[go_sem,i,b,e,g,pg,p,i3,IntKind.bits];refine⟨j,?_⟩;refine cz [0,1,2,3,4,5,6,7,8,9,10,11,12,13] [(14,[])] 0 (k:=15) ?_;intro G q;simp[go_sem,w,b,e,g,pg,p,i3,IntKind.bits,t,A,List.length_set]
   first|refine⟨j,q _ _ ?_⟩|refine q _ _ ?_|refine⟨aq,q _ _ ?_⟩
   clear q G;simp[go_sem,p];refine am (k+1) aq aq ?_;rw[c];simp[az,ai,fv,lk,AV.low,AV.low1,f,hiS]
   first|(and_intros<;>exact cE _ _)
  ·rw[if_neg C]at c;have i3:¬(pl k 1:Int)<4:=aq;have u:¬pl k 1<4:=aq;simp[go_sem,i,b,e,g,pg,p,i3,IntKind.bits]
   first|refine⟨j,am (k+1) aq aq ?_⟩|refine am (k+1) aq aq ?_
   rw[c];simp[az,ai,fv,lk,AV.low,AV.low1,f]
   first|(and_intros<;>exact cE _ _)
 ·refine⟨fun h=>absurd (by exact_mod_cast h) j,fun h=>?_⟩;have e:k=4:=aq;subst e;simp[go_sem,b,ae b,I];exact eC rfl
theorem jD(l:List Int):cy .u64 (cI l)=some l:=by
 induction l with
 |nil=>rfl
 |cons x r ih=>simp only[cI,List.map_cons]at ih⊢;simp[cy,ih]
theorem qi{Q:AV→Prop}{st:St}{a:List Int}{b:Bool}(hq:Q (.tup [.agg (cI a),.d (.bool b)])):dC Q (.tup [.agg (cI a),.d (.bool b)]) st :=
 aa (by
  intro c hc;simp at hc;rcases hc with rfl|rfl;exact .inr ⟨_,rfl,j6 _⟩
  exact .inl trivial) hq
theorem I3(a:List Int)(c:Int):∀v,v∈[AV.agg (cI a),AV.d (.int .i64 c)]→v.deep:=by
 intro v b;simp at b;rcases b with rfl|rfl;exact fO _;trivial
theorem Pe(a:List Int)(L:Wn 4 a):∃(r:List Int)(i:Bool),Wn 4 r∧(i=true↔(V a ^ 28948022309329048855892746252171976963317496166410141009864396001977208667916%115792089237316195423570985008687907853269984665640564039457584007908834671663)*(V a ^ 28948022309329048855892746252171976963317496166410141009864396001977208667916%115792089237316195423570985008687907853269984665640564039457584007908834671663)%115792089237316195423570985008687907853269984665640564039457584007908834671663=V a%115792089237316195423570985008687907853269984665640564039457584007908834671663)∧(i=true→V r=if V a ^ 28948022309329048855892746252171976963317496166410141009864396001977208667916%115792089237316195423570985008687907853269984665640564039457584007908834671663%2=0 then V a ^ 28948022309329048855892746252171976963317496166410141009864396001977208667916%115792089237316195423570985008687907853269984665640564039457584007908834671663 else(0-V a ^ 28948022309329048855892746252171976963317496166410141009864396001977208667916%115792089237316195423570985008687907853269984665640564039457584007908834671663)%115792089237316195423570985008687907853269984665640564039457584007908834671663)∧(i=false→r=zI)∧au Tryz.prog 189 [.agg (cI a)] (fun x=>x=.tup [.agg (cI r),.d (.bool i)]):=by
 obtain⟨n0,c,v,hc,N,f1⟩:=qh BU [1,0,0,0] EL (kS ⟨aq,aq⟩);obtain⟨n,hn,vn,f2⟩:=Ud n0 v;obtain⟨r,s,I,Z⟩:=O8 a n L hn;obtain⟨m,Y,vm,W⟩:=BV r r s s;obtain⟨D,z,K,X⟩:=i6 a L;obtain⟨q,hq,vq,T⟩:=Ub r s;have vp:V BU=115792089237316195423570985008687907853269984665640564039457584007908834671663:=by simp[V,BU]
 have v1:V [1,0,0,0]=1:=by simp[V]
 rw[vp,v1]at N;have b1:=lO v;have b2:=hc.1;have b3:=hc.2;have vN:(V n).toNat=28948022309329048855892746252171976963317496166410141009864396001977208667916:=aq;rw[vN]at I;have u:m=D↔(V a ^ 28948022309329048855892746252171976963317496166410141009864396001977208667916%115792089237316195423570985008687907853269984665640564039457584007908834671663)*(V a ^ 28948022309329048855892746252171976963317496166410141009864396001977208667916%115792089237316195423570985008687907853269984665640564039457584007908834671663)%115792089237316195423570985008687907853269984665640564039457584007908834671663=V a%115792089237316195423570985008687907853269984665640564039457584007908834671663:=by
  rw[←I,←vm,←K];exact⟨fun h=>by rw[h],fun h=>VT Y z h⟩
 have t:=dG (k:=0) s;have p:Go.bits .and .u64 (gI r 0) 1=0↔V r%2=0:=by
  rw[B5 _ t.1 t.2];obtain⟨r0,r1,r2,r3,e,_⟩:=kp s;rw[e,V4];show r0%2=0↔_;omega
 rw[←I]at u;unfold W1 at X T;unfold W2 at Z W;have f:=L.1;have w:=v.1;have b:=s.1;have Q:=Y.1;have M:=z.1;have C:=hq.1;have O:List.drop 4 (cI zI)=[]:=be rfl;have S:=ko (l:=r) (k:=0) aq;have E:(cI r).head?=some (.d (.int .u64 (gI r 0))):=by
  rw[List.head?_eq_getElem?,G1,S];rfl
 have F:∀(x:List Int)(i:Bool),Wn 4 x→(m≠D→x=zI∧i=false)→(m=D→i=true∧x=(if Go.bits .and .u64 (gI r 0) 1=0 then r else q))→au Tryz.prog 189 [.agg (cI a)] (fun y=>y=.tup [.agg (cI x),.d (.bool i)]):=by
  intro x i hx J A;refine bF Tryz.func189 Tryz.ntmps189 (rs:=[.cell 2 96,.tmp 3]) (aS a) ?_;simp[go_sem,f];refine ag lc aw ?_;simp[go_sem];refine ag (fP 1) a9 ?_;simp[go_sem];refine ag f1 (aN _ _) ?_;simp[go_sem,w];refine dE [0,1] [2,3,4,5] [0,1] (.alt (bt 2 (.alt (a_ [3,4,5]) (bt 4 (a_ [3,5])))) (bt 4 (bt 2 (a_ [3,5])))) ⟨[(1,.ptr 0 0 0 1),(2,.ptr 32 0 0 1),(6,.ptr 512 0 0 1)],[(512,⟨96,4,[cI r]⟩),(32,⟨96,4,[cI zI]⟩),(0,⟨96,4,[cI a]⟩)],9000⟩ (k:=6) ?h3 ?hq
  case h3 =>
   intro G P;have U:∀(H:Fr)(B:Hp),(fv 1 H=.ptr 0 0 0 1∧fv 2 H=.ptr 32 0 0 1∧fv 6 H=.ptr 512 0 0 1∧lk 512 B=some ⟨96,4,[cI r]⟩∧lk 32 B=some ⟨96,4,[cI zI]⟩∧lk 0 B=some ⟨96,4,[cI a]⟩)→G H B:=by
    rintro H B⟨q0,q1,q2,q3,q4,q5⟩;exact P _ _ qC
   simp[go_sem,f,ae f,w,ae w,dI]
   repeat' first|exact U _ _ ⟨rfl,rfl,rfl,rfl,rfl,rfl⟩|(refine U _ _ ?_;simp[fv];done)|refine ag f2 (I3 _ _) ?_|refine ag Z (aN _ _) ?_|apply And.intro|simp[go_sem,b,dI]
  case hq =>
   simp[go_sem];refine cz [0,1,3] [(2,[]),(4,[5])] 2 (k:=6) ?_;intro G P;simp[go_sem,b,ae b,f,ae f];refine ag W (aN _ _) ?_;simp[go_sem];refine ag X (aS _) ?_;simp[go_sem,jD,Q,M];refine P _ _ ?_;by_cases g:m=D
   ·obtain⟨rfl,j⟩:=A g;by_cases o:Go.bits .and .u64 (gI r 0) 1=0
    ·rw[if_pos o]at j;subst j;simp[go_sem,g,E,o,b,ae b,O,ah];exact qi rfl
    ·rw[if_neg o]at j;subst j;simp[go_sem,g,E,o,b,ae b];refine ag T (aS _) ?_;simp[go_sem,C,b,ae C,be b,O,ah];exact qi rfl
   ·obtain⟨rfl,rfl⟩:=J g;simp[go_sem,g,O,ah];exact qi (a:=zI) rfl
 rw[←I];by_cases g:m=D
 ·refine⟨if Go.bits .and .u64 (gI r 0) 1=0 then r else q,true,?_,⟨fun _=>u.1 g,fun _=>rfl⟩,fun _=>?_,fun h=>(Bool.noConfusion h),F _ _ ?_ (fun h=>absurd g h) (fun _=>⟨rfl,rfl⟩)⟩
  split;exact s;exact hq;by_cases o:V r%2=0;rw[if_pos (p.2 o),if_pos o];rw[if_neg (fun h=>o (p.1 h)),if_neg o,vq];split;exact s;exact hq
 ·exact⟨zI,false,kR,⟨fun h=>(Bool.noConfusion h),fun h=>absurd (u.2 h) g⟩,fun h=>(Bool.noConfusion h),fun _=>rfl,F _ _ kR (fun _=>⟨rfl,rfl⟩) (fun h=>absurd h g)⟩
end Go.Proofs.YtmfnimjnneflnaaGreat
namespace Go.Ec
class CR (R:Type) where
 ad:R→R→R
 mu:R→R→R
 ic:Int→R
 ad_as:∀a b c,ad (ad a b) c=ad a (ad b c)
 ad_co:∀a b,ad a b=ad b a
 mu_as:∀a b c,mu (mu a b) c=mu a (mu b c)
 mu_co:∀a b,mu a b=mu b a
 di:∀a b c,mu (ad a b) c=ad (mu a c) (mu b c)
 ic_ad:∀m n,ic (m+n)=ad (ic m) (ic n)
 ic_mu:∀m n,ic (m*n)=mu (ic m) (ic n)
 ze:∀a,ad (ic 0) a=a
 on:∀a,mu (ic 1) a=a
 zm:∀a,mu (ic 0) a=ic 0
open CR
section
variable {R:Type} [CR R]
theorem di'(a b c:R):mu c (ad a b)=ad (mu c a) (mu c b):=by rw[mu_co c,di,mu_co a,mu_co b]
theorem K1(a:R):ad a (ic 0)=a:=by rw[ad_co,ze]
theorem zm'(a:R):mu a (ic 0)=ic 0:=by rw[mu_co,zm]
theorem QW(a:R):mu a (ic 1)=a:=by rw[mu_co,on]
theorem ad4(a b c d:R):ad (ad a b) (ad c d)=ad (ad a c) (ad b d):=by
 rw[ad_as,←ad_as b,ad_co b c,ad_as c,←ad_as]
theorem mu4(a b c d:R):mu (mu a b) (mu c d)=mu (mu a c) (mu b d):=by
 rw[mu_as,←mu_as b,mu_co b c,mu_as c,←mu_as]
def pw(x:R):Nat→R
 |0=>ic 1
 |k+1=>mu (pw x k) x
theorem VW(x:R)(a:Nat):∀b,pw x (a+b)=mu (pw x a) (pw x b)
 |0=>(QW _).symm
 |b+1=>by rw[←Nat.add_assoc,pw,VW x a b,pw,mu_as]
abbrev Mo:=Int×Nat×Nat×Nat
def tJ(x y z:R)(m:Mo):R:=mu (ic m.1) (mu (pw x m.2.1) (mu (pw y m.2.2.1) (pw z m.2.2.2)))
def ev(x y z:R):List Mo→R
 |[]=>ic 0
 |m::l=>ad (tJ x y z m) (ev x y z l)
theorem B6(x y z:R)(q:List Mo):∀p,ev x y z (p++q)=ad (ev x y z p) (ev x y z q)
 |[]=>(ze _).symm
 |m::l=>by rw[List.cons_append,ev,B6 x y z q l,ev,ad_as]
def mm(m k:Mo):Mo:=(m.1*k.1,m.2.1+k.2.1,m.2.2.1+k.2.2.1,m.2.2.2+k.2.2.2)
theorem Yg(x y z:R)(m k:Mo):tJ x y z (mm m k)=mu (tJ x y z m) (tJ x y z k):=by
 simp only[tJ,mm,ic_mu,VW];rw[mu4 (ic m.1) _ (ic k.1) _];congr 1;rw[mu4 (pw x _) _ (pw x _) _];congr 1;rw[mu4]
def pm(p q:List Mo):List Mo:=p.flatMap fun m=>q.map (mm m)
theorem Pg(x y z:R)(m:Mo):∀q,ev x y z (q.map (mm m))=mu (tJ x y z m) (ev x y z q)
 |[]=>(zm' _).symm
 |k::l=>by rw[List.map_cons,ev,ev,Pg x y z m l,Yg,di']
theorem Ph(x y z:R)(q:List Mo):∀p,ev x y z (pm p q)=mu (ev x y z p) (ev x y z q)
 |[]=>(zm _).symm
 |m::l=>by
  have:pm (m::l) q=q.map (mm m)++pm l q:=by simp[pm]
  rw[this,B6,Pg,Ph x y z q l,ev,di]
def nr:List Mo→Nat
 |[]=>0
 |m::l=>m.1.natAbs+nr l
theorem G4(q:List Mo):∀p,nr (p++q)=nr p+nr q
 |[]=>(Nat.zero_add _).symm
 |m::l=>by rw[List.cons_append,nr,G4 q l,nr,Nat.add_assoc]
theorem Pi(m:Mo):∀q,nr (q.map (mm m))=m.1.natAbs*nr q
 |[]=>rfl
 |k::l=>by rw[List.map_cons,nr,nr,Pi m l,Nat.mul_add,mm,Int.natAbs_mul]
theorem Pj(q:List Mo):∀p,nr (pm p q)=nr p*nr q
 |[]=>by simp[pm,nr]
 |m::l=>by
  have:pm (m::l) q=q.map (mm m)++pm l q:=by simp[pm]
  rw[this,G4,Pi,Pj q l,nr,Nat.add_mul]
def co(D E:Nat):List Mo→Nat→Int
 |[],_=>0
 |m::l,k=>(if m.2.1+D*(m.2.2.1+E*m.2.2.2)=k then m.1 else 0)+co D E l k
theorem VX(D E k:Nat):∀l,(co D E l k).natAbs≤nr l
 |[]=>by simp[co]
 |m::l=>by
  have:=VX D E k l;rw[co,nr];split<;>omega
def su(f:Nat→R):Nat→R
 |0=>ic 0
 |k+1=>ad (su f k) (f k)
theorem VY(f g:Nat→R):∀n,su (fun k=>ad (f k) (g k)) n=ad (su f n) (su g n)
 |0=>(ze _).symm
 |n+1=>by rw[su,VY f g n,su,su,ad4]
theorem Ue{f:Nat→R}:∀n,(∀k,k<n→f k=ic 0)→su f n=ic 0
 |0,_=>rfl
 |n+1,h=>by rw[su,Ue n fun k a=>h k aq,h n aq,ze]
theorem Pl{f:Nat→R}{j:Nat}:∀n,j<n→(∀k,k≠j→f k=ic 0)→su f n=f j
 |0,h,_=>by omega
 |n+1,h,hz=>by
  rw[su];by_cases e:j=n;subst e;rw[Ue j fun k b=>hz k aq,ze];rw[Pl n aq hz,hz n (fun a=>e a.symm),K1]
theorem I4{f g:Nat→R}(n:Nat)(h:∀k,f k=g k):su f n=su g n:=by
 have:f=g:=funext h;rw[this]
def mon(D E:Nat)(x y z:R)(k:Nat):R:=mu (pw x (k%D)) (mu (pw y (k/D%E)) (pw z (k/D/E)))
theorem VZ{D E:Nat}(f:0<D)(b:0<E)(x y z:R)(N:Nat):∀l:List Mo,(∀m,m∈l→m.2.1<D∧m.2.2.1<E∧m.2.1+D*(m.2.2.1+E*m.2.2.2)<N)→ev x y z l=su (fun k=>mu (ic (co D E l k)) (mon D E x y z k)) N
 |[],_=>by
  rw[Ue];rfl;intro k _;rw[co,zm]
 | m :: l,h=>by
  obtain⟨c,d,o⟩:=h m aw;rw[ev,VZ f b x y z N l (fun k a=>h k (by simp[a]))];have r:(m.2.1+D*(m.2.2.1+E*m.2.2.2))%D=m.2.1:=by rw[Nat.add_mul_mod_self_left,Nat.mod_eq_of_lt c]
  have p:(m.2.1+D*(m.2.2.1+E*m.2.2.2))/D=m.2.2.1+E*m.2.2.2:=by rw[Nat.add_mul_div_left _ _ f,Nat.div_eq_of_lt c,Nat.zero_add]
  have g:(m.2.2.1+E*m.2.2.2)%E=m.2.2.1:=by rw[Nat.add_mul_mod_self_left,Nat.mod_eq_of_lt d]
  have i:(m.2.2.1+E*m.2.2.2)/E=m.2.2.2:=by rw[Nat.add_mul_div_left _ _ b,Nat.div_eq_of_lt d,Nat.zero_add]
  have q:tJ x y z m=su (fun k=>mu (ic (if m.2.1+D*(m.2.2.1+E*m.2.2.2)=k then m.1 else 0)) (mon D E x y z k)) N:=by
   rw[Pl (j:=m.2.1+D*(m.2.2.1+E*m.2.2.2)) N o (fun k a=>by rw[if_neg (fun e=>a e.symm),zm])];rw[if_pos rfl,mon,p,r,g,i,tJ]
  rw[q,←VY];refine I4 N fun k=>?_;rw[co,ic_ad,di]
end
instance crI:CR Int where
 ad:=(·+·)
 mu:=(·*·)
 ic:=id
 ad_as:=Int.add_assoc
 ad_co:=Int.add_comm
 mu_as:=Int.mul_assoc
 mu_co:=Int.mul_comm
 di:=Int.add_mul
 ic_ad:=fun _ _=>rfl
 ic_mu:=fun _ _=>rfl
 ze:=Int.zero_add
 on:=Int.one_mul
 zm:=Int.zero_mul
theorem rJ(x:Int):∀k,pw x k=x ^ k
 |0=>(Int.pow_zero x).symm
 |k+1=>by rw[pw,rJ x k,Int.pow_succ];rfl
theorem Pm(K:Int)(c:Nat→Int)(B:Nat)(d:∀k,(c k).natAbs≤B)(e:(B:Int)<K):∀(N s:Nat),su (R:=Int) (fun k=>c (k+s)*K ^ k) N=0→∀k,k<N→c (k+s)=0
 |0,_,_,k,h=>by omega
 | N+1,s,h,k,hk=>by
  have split:∀M,su (R:=Int) (fun k=>c (k+s)*K ^ k) (M+1)=c s+K*su (R:=Int) (fun k=>c (k+(s+1))*K ^ k) M:=by
   intro M
   induction M with
   |zero=>simp[su,CR.ad,CR.ic]
   |succ M ih =>
    rw[su,ih,su];show _+_+_=_+K*(_+_);have:M+1+s=M+(s+1):=aq;rw[this,Int.mul_add,Int.pow_succ,Int.add_assoc];congr 2;rw[Int.mul_comm (K ^ M) K,←Int.mul_assoc,Int.mul_comm (c _) K,Int.mul_assoc]
  rw[split]at h;have g:c s=0:=by
   have l:=d s;have f:K∣c s:=⟨- su (R:=Int) (fun k=>c (k+(s+1))*K ^ k) N,by rw[Int.mul_neg];omega⟩;rcases Int.natAbs_dvd_natAbs.2 f with ⟨t,j⟩;rcases Nat.eq_zero_or_pos t with rfl|a;omega;have:K.natAbs≤K.natAbs*t:=Nat.le_mul_of_pos_right _ a;omega
  cases k with
  |zero=>simpa using g
  | succ k =>
   have b:K≠0:=aq;have i:su (R:=Int) (fun k=>c (k+(s+1))*K ^ k) N=0:=by
    have:K*su (R:=Int) (fun k=>c (k+(s+1))*K ^ k) N=0:=aq;rcases Int.mul_eq_zero.1 this with h|h;exact absurd h b;exact h
   have:=Pm K c B d e N (s+1) i k aq;rw[←this];congr 1;omega
theorem Uf(K:Int)(D E k:Nat):mon (R:=Int) D E K (K ^ D) (K ^ (D*E)) k=K ^ k:=by
 show pw K _*(pw (K ^ D) _*pw (K ^ (D*E)) _)=_;rw[rJ,rJ,rJ,←Int.pow_mul,←Int.pow_mul,←Int.pow_add,←Int.pow_add];congr 1;have a:=Nat.div_add_mod k D;have b:=Nat.div_add_mod (k/D) E;have c:D*(k/D%E)+D*E*(k/D/E)=D*(k/D):=by
  rw[Nat.mul_assoc,←Nat.mul_add];congr 1;omega
 omega
theorem EO(D E:Nat):∀l:List Mo,∃N,∀m,m∈l→m.2.1+D*(m.2.2.1+E*m.2.2.2)<N
 |[]=>⟨0,fun m h=>by simp at h⟩
 |a::l=>by
  obtain⟨N,h⟩:=EO D E l;refine⟨max N (a.2.1+D*(a.2.2.1+E*a.2.2.2)+1),fun m b=>?_⟩;rcases et.1 b with rfl|b;omega;have:=h m b;omega
theorem Ug{R:Type}[CR R]{D E:Nat}{K:Int}{l:List Mo}(j:0<D)(c:0<E)(b:∀m,m∈l→m.2.1<D∧m.2.2.1<E)(e:(nr l:Int)<K)(h:ev (R:=Int) K (K ^ D) (K ^ (D*E)) l=0)(x y z:R):ev x y z l=ic 0:=by
 obtain⟨N,g⟩:=EO D E l;have d:∀m,m∈l→m.2.1<D∧m.2.2.1<E∧m.2.1+D*(m.2.2.1+E*m.2.2.2)<N:=fun m a=>⟨(b m a).1,(b m a).2,g m a⟩;rw[VZ j c _ _ _ N l d]at h⊢;have i:su (R:=Int) (fun k=>co D E l (k+0)*K ^ k) N=0:=by
  rw[←h];refine I4 N fun k=>?_;rw[Uf];rfl
 have f:=Pm K (co D E l) (nr l) (fun k=>VX D E k l) e N 0 i;refine Ue N fun k o=>?_;have:=f k o;rw[Nat.add_zero]at this;rw[this,zm]
end Go.Ec
namespace Go.Ec
open CR
structure Al(A:Type) where
 add:A→A→A
 mul:A→A→A
 con:Int→A
 isz:A→Bool
structure Al.Snd{A R:Type}[CR R](o:Al A)(ok:A→Prop)(e:A→R):Prop where
 add_ok:∀{a b},ok a→ok b→ok (o.add a b)
 mul_ok:∀{a b},ok a→ok b→ok (o.mul a b)
 con_ok:∀n,ok (o.con n)
 add_ev:∀{a b},ok a→ok b→e (o.add a b)=ad (e a) (e b)
 mul_ev:∀{a b},ok a→ok b→e (o.mul a b)=mu (e a) (e b)
 con_ev:∀n,e (o.con n)=ic n
 isz_ev:∀{a},ok a→o.isz a=true→e a=ic 0
def Al.sq{A:Type}(o:Al A)(c:A):Al (A×A) where
 add p q:=(o.add p.1 q.1,o.add p.2 q.2)
 mul p q:=(o.add (o.mul p.1 q.1) (o.mul (o.mul p.2 q.2) c),o.add (o.mul p.1 q.2) (o.mul p.2 q.1))
 con n:=(o.con n,o.con 0)
 isz p:=o.isz p.1&&o.isz p.2
theorem Al.Snd.sq{A R:Type}[CR R]{o:Al A}{d:A→Prop}{e:A→R}(h:o.Snd d e){c:A}(hc:d c){y:R}(g:mu y y=e c) :
  (o.sq c).Snd (fun p=>d p.1∧d p.2) (fun p=>ad (e p.1) (mu (e p.2) y)) where
 add_ok:=fun a b=>⟨h.add_ok a.1 b.1,h.add_ok a.2 b.2⟩
 mul_ok:=fun a b=>⟨h.add_ok (h.mul_ok a.1 b.1) (h.mul_ok (h.mul_ok a.2 b.2) hc),h.add_ok (h.mul_ok a.1 b.2) (h.mul_ok a.2 b.1)⟩
 con_ok:=fun n=>⟨h.con_ok n,h.con_ok 0⟩
 add_ev:=fun{a b}p q=>by
  show ad (e (o.add a.1 b.1)) (mu (e (o.add a.2 b.2)) y)=_;rw[h.add_ev p.1 q.1,h.add_ev p.2 q.2,di,ad4]
 mul_ev:=fun{a b}p q=>by
  show ad (e (o.add (o.mul a.1 b.1) (o.mul (o.mul a.2 b.2) c))) (mu (e (o.add (o.mul a.1 b.2) (o.mul a.2 b.1))) y)=_;rw[h.add_ev (h.mul_ok p.1 q.1) (h.mul_ok (h.mul_ok p.2 q.2) hc),h.add_ev (h.mul_ok p.1 q.2) (h.mul_ok p.2 q.1),h.mul_ev p.1 q.1,h.mul_ev (h.mul_ok p.2 q.2) hc,h.mul_ev p.2 q.2,h.mul_ev p.1 q.2,h.mul_ev p.2 q.1,←g];rw[di (e a.1),di' (e b.1),di' (e b.1),di (mu (e a.1) (e b.2)),mu4 (e a.2) y (e b.2) y,ad4,mu_as (e a.1),mu_as (e a.2) (e b.1),mu_co (e b.1) y,←mu_as (e a.2) y,ad_co (mu (mu (e a.2) (e b.2)) (mu y y))]
 con_ev:=fun n=>by
  show ad (e (o.con n)) (mu (e (o.con 0)) y)=_;rw[h.con_ev,h.con_ev,zm,K1]
 isz_ev:=fun{a}p q=>by
  have f:(o.isz a.1&&o.isz a.2)=true:=q;rw[Bool.and_eq_true]at f;show ad (e a.1) (mu (e a.2) y)=_;rw[h.isz_ev p.1 f.1,h.isz_ev p.2 f.2,zm,ze]
structure Pv where
 g:List Mo
 v:Int
 n:Nat
 a:Nat
 b:Nat
def Pv.z:Pv:=⟨[],0,0,0,0⟩
def I5(K:Int)(D E:Nat):Al Pv where
 add p q:=⟨p.g++q.g,p.v+q.v,p.n+q.n,max p.a q.a,max p.b q.b⟩
 mul p q:=bif p.n.beq 0||q.n.beq 0 then⟨pm p.g q.g,0,0,0,0⟩else⟨pm p.g q.g,p.v*q.v,p.n*q.n,p.a+q.a,p.b+q.b⟩
 con n:=⟨[(n,0,0,0)],n,n.natAbs,0,0⟩
 isz p:=p.n.beq 0||(decide (p.v=0)&&decide ((p.n:Int)<K)&&Nat.blt p.a D&&Nat.blt p.b E)
def okP(K:Int)(D E:Nat)(p:Pv):Prop:=(p.n=0→p.v=0)∧p.v=ev (R:=Int) K (K ^ D) (K ^ (D*E)) p.g∧nr p.g≤p.n∧(p.n=0∨∀m,m∈p.g→m.1≠0→m.2.1≤p.a∧m.2.2.1≤p.b)
theorem B7{R:Type}[CR R](x y z:R):∀l,nr l=0→ev x y z l=ic 0
 |[],_=>rfl
 |m::l,h=>by
  rw[nr]at h;have a:m.1=0:=aq;rw[ev,B7 x y z l aq,tJ,a,zm,ze]
theorem qj{R:Type}[CR R](x y z:R):∀l,ev x y z (l.filter fun m=>m.1 != 0)=ev x y z l
 |[]=>rfl
 |m::l=>by
  by_cases h:m.1=0;rw[List.filter_cons_of_neg (by simp[h]),qj x y z l,ev,tJ,h,zm,ze];rw[List.filter_cons_of_pos (by simp[h]),ev,qj x y z l,ev]
theorem uv:∀l:List Mo,nr (l.filter fun m=>m.1 != 0)=nr l
 |[]=>rfl
 |m::l=>by
  by_cases h:m.1=0;rw[List.filter_cons_of_neg (by simp[h]),uv l,nr,h];simp;rw[List.filter_cons_of_pos (by simp[h]),nr,uv l,nr]
theorem G5:∀(l:List Mo)(m:Mo),m∈l→nr l=0→m.1=0
 |k::l,m,a,h=>by
  rw[nr]at h;rcases et.1 a with rfl|a;omega;exact G5 l m a aq
theorem ad7{R:Type}[CR R](K:Int)(D E:Nat)(V:0<D)(J:0<E)(x y z:R):(I5 K D E).Snd (okP K D E) (fun p=>ev x y z p.g) where
 add_ok:=fun{p q}hp hq=>by
  obtain⟨r,o,C,l⟩:=hp;obtain⟨A,F,I,B⟩:=hq;refine⟨fun h=>?_,?_,?_,?_⟩;have d:p.n+q.n=0:=h;show p.v+q.v=0;rw[r aq,A aq];rfl;show p.v+q.v=_;rw[o,F];exact(B6 _ _ _ _ _).symm;show nr (p.g++q.g)≤p.n+q.n;rw[G4];omega;refine .inr fun m c f=>?_;show m.2.1≤max p.a q.a∧m.2.2.1≤max p.b q.b;rcases cL.1 c with c|c;rcases l with h|h;exact absurd (G5 _ m c aq) f;have:=h m c f;omega;rcases B with h|h;exact absurd (G5 _ m c aq) f;have:=h m c f;omega
 mul_ok:=fun{p q}hp hq=>by
  obtain⟨r,o,C,l⟩:=hp;obtain⟨A,F,I,B⟩:=hq;have H:p.v*q.v=ev (R:=Int) K (K ^ D) (K ^ (D*E)) (pm p.g q.g):=by rw[o,F];exact(Ph _ _ _ _ _).symm
  by_cases k:p.n=0∨q.n=0;have e:(I5 K D E).mul p q=⟨pm p.g q.g,0,0,0,0⟩:=by
   show(bif p.n.beq 0||q.n.beq 0 then _ else _)=_;have:(p.n.beq 0||q.n.beq 0)=true:=by rw[Bool.or_eq_true];exact k.imp (fun h=>by rw[h];rfl) (fun h=>by rw[h];rfl)
   rw[this];rfl
  rw[e];have W:nr (pm p.g q.g)=0:=by
   rw[Pj];rcases k with h|h;rw[show nr p.g=0 by omega,Nat.zero_mul];rw[show nr q.g=0 by omega,Nat.mul_zero]
  refine⟨fun _=>rfl,?_,?_,.inl rfl⟩;show 0=_;rw[←H];rcases k with h|h;rw[r h,Int.zero_mul];rw[A h,Int.mul_zero];show nr (pm p.g q.g)≤0;rw[W];exact cR _;have j:p.n≠0:=fun h=>k (.inl h);have u:q.n≠0:=fun h=>k (.inr h);have e:(I5 K D E).mul p q=⟨pm p.g q.g,p.v*q.v,p.n*q.n,p.a+q.a,p.b+q.b⟩:=by
   show(bif p.n.beq 0||q.n.beq 0 then _ else _)=_;have:(p.n.beq 0||q.n.beq 0)=false:=by
    rw[Bool.or_eq_false_iff];exact⟨Bool.eq_false_iff.2 fun h=>j (Nat.eq_of_beq_eq_true h),Bool.eq_false_iff.2 fun h=>u (Nat.eq_of_beq_eq_true h)⟩
   rw[this];rfl
  rw[e];refine⟨fun h=>?_,H,?_,.inr fun m c f=>?_⟩;rcases Nat.mul_eq_zero.1 h with h|h;exact absurd h j;exact absurd h u;show nr (pm p.g q.g)≤p.n*q.n;rw[Pj];exact Nat.mul_le_mul C I;show m.2.1≤p.a+q.a∧m.2.2.1≤p.b+q.b;obtain⟨s,L,T⟩:=List.mem_flatMap.1 c;obtain⟨t,S,rfl⟩:=List.mem_map.1 T;have i:s.1*t.1≠0:=f;have w:s.1≠0:=fun h=>i (by rw[h,Int.zero_mul]);have G:t.1≠0:=fun h=>i (by rw[h,Int.mul_zero]);have X:=(l.resolve_left j) s L w;have Y:=(B.resolve_left u) t S G;show s.2.1+t.2.1≤_∧s.2.2.1+t.2.2.1≤_;omega
 con_ok:=fun n=>by
  refine⟨fun h=>?_,?_,?_,.inr fun m c _=>?_⟩;have d:n.natAbs=0:=h;show n=0;omega;show n=n*(1*(1*1))+0;simp;show n.natAbs+0≤n.natAbs;omega;have:m=(n,0,0,0):=by simpa[I5]using c
  subst this;exact⟨cR _,cR _⟩
 add_ev:=fun{p q}_ _=>B6 _ _ _ _ _
 mul_ev:=fun{p q}_ _=>by
  show ev x y z (Pv.g (bif p.n.beq 0||q.n.beq 0 then _ else _))=_;cases p.n.beq 0||q.n.beq 0<;>exact Ph _ _ _ _ _
 con_ev:=fun n=>by
  show ad (mu (ic n) (mu (ic 1) (mu (ic 1) (ic 1)))) (ic 0)=ic n;rw[QW,QW,QW,K1]
 isz_ev:=fun{p}hp h=>by
  obtain⟨r,o,C,l⟩:=hp;have d:(p.n.beq 0||(decide (p.v=0)&&decide ((p.n:Int)<K)&&Nat.blt p.a D&&Nat.blt p.b E))=true:=h;rw[Bool.or_eq_true]at d;rcases d with d|d;exact B7 x y z _ (by have:=Nat.eq_of_beq_eq_true d;omega);simp only[Bool.and_eq_true,decide_eq_true_eq]at d;obtain⟨⟨⟨j,u⟩,P⟩,Q⟩:=d;have U:p.a<D:=Nat.le_of_ble_eq_true P;have N:p.b<E:=Nat.le_of_ble_eq_true Q;rcases l with h|h;exact B7 x y z _ aq;show ev x y z p.g=_;rw[←qj];refine Ug (K:=K) V J (fun m c=>?_) ?_ ?_ x y z;obtain⟨M,O⟩:=List.mem_filter.1 c;have:=h m M (by simpa using O);omega;rw[uv];omega;rw[qj,←o,j]
inductive In where
 |add (i j:Nat)
 |sub (i j:Nat)
 |mul (i j:Nat)
 |con (n:Int)
def stp{A:Type}(o:Al A)(l:List A):In→A
 | .add i j=>o.add (l.getD i (o.con 0)) (l.getD j (o.con 0))
 | .sub i j=>o.add (l.getD i (o.con 0)) (o.mul (o.con (-1)) (l.getD j (o.con 0)))
 | .mul i j=>o.mul (l.getD i (o.con 0)) (l.getD j (o.con 0))
 | .con n=>o.con n
def run{A:Type}(o:Al A):List In→List A→List A
 |[],l=>l
 |i::r,l=>run o r (stp o l i::l)
def G6(R:Type)[CR R]:Al R:=⟨ad,mu,ic,fun _=>false⟩
theorem EP{A B:Type}(f:A→B)(l:List A)(i:Nat)(d:A)(a:B)(h:f d=a):(l.map f).getD i a=f (l.getD i d):=by
 rw[cS,cS,c_];cases l[i]?<;>simp[h]
theorem I6{A:Type}{b:A→Prop}{l:List A}(h:∀a,a∈l→b a){d:A}(c:b d)(i:Nat):b (l.getD i d):=by
 rw[cS];cases e:l[i]? with
 |none=>exact c
 |some a=>exact h a (cr e)
theorem Pn{A R:Type}[CR R]{o:Al A}{c:A→Prop}{e:A→R}(h:o.Snd c e):∀(p:List In)(l:List A),(∀a,a∈l→c a)→(∀a,a∈run o p l→c a)∧run (G6 R) p (l.map e)=(run o p l).map e
 |[],l,hl=>⟨hl,rfl⟩
 | i :: r,l,hl=>by
  have g:∀k,c (l.getD k (o.con 0)):=fun k=>I6 hl (h.con_ok 0) k;have b:∀k,(l.map e).getD k (ic 0)=e (l.getD k (o.con 0)):=fun k=>EP e l k _ _ (h.con_ev 0);have f:c (stp o l i)∧stp (G6 R) (l.map e) i=e (stp o l i):=by
   cases i with
   |add i j=>exact⟨h.add_ok (g i) (g j),by show ad ((l.map e).getD i (ic 0)) ((l.map e).getD j (ic 0))=e (o.add _ _);rw[h.add_ev (g i) (g j),b,b]⟩
   |sub i j=>exact⟨h.add_ok (g i) (h.mul_ok (h.con_ok _) (g j)),by show ad ((l.map e).getD i (ic 0)) (mu (ic (-1)) ((l.map e).getD j (ic 0)))=e (o.add _ (o.mul (o.con (-1)) _));rw[h.add_ev (g i) (h.mul_ok (h.con_ok _) (g j)),h.mul_ev (h.con_ok _) (g j),h.con_ev,b,b]⟩
   |mul i j=>exact⟨h.mul_ok (g i) (g j),by show mu ((l.map e).getD i (ic 0)) ((l.map e).getD j (ic 0))=e (o.mul _ _);rw[h.mul_ev (g i) (g j),b,b]⟩
   |con n=>exact⟨h.con_ok n,by show ic n=e (o.con n);rw[h.con_ev]⟩
  obtain⟨m,q⟩:=Pn h r (stp o l i::l) (fun a d=>by
   rcases et.1 d with rfl|d;exact f.1
   exact hl a d)
  refine⟨m,?_⟩;rw[run,run,←q,List.map_cons,f.2]
def alY(K:Int)(D E:Nat):Al (((Pv×Pv)×(Pv×Pv))×((Pv×Pv)×(Pv×Pv))) :=
 let o:=I5 K D E
 let c1:Pv:=⟨[(1,3,0,0),(7,0,0,0)],K ^ 3+7,8,3,0⟩
 let c2:Pv:=⟨[(1,0,3,0),(7,0,0,0)],(K ^ D) ^ 3+7,8,0,3⟩
 let c3:Pv:=⟨[(1,0,0,3),(7,0,0,0)],(K ^ (D*E)) ^ 3+7,8,0,0⟩
 ((o.sq c1).sq (c2,o.con 0)).sq ((c3,o.con 0),(o.con 0,o.con 0))
def six(K:Int)(D E:Nat):List (((Pv×Pv)×(Pv×Pv))×((Pv×Pv)×(Pv×Pv))) :=
 let o:=I5 K D E
 let z:=o.con 0
 let i:=o.con 1
 [((((⟨[(1,1,0,0)],K,1,1,0⟩:Pv),z),(z,z)),((z,z),(z,z))),
  ((((⟨[(1,0,1,0)],K ^ D,1,0,1⟩:Pv),z),(z,z)),((z,z),(z,z))),
  ((((⟨[(1,0,0,1)],K ^ (D*E),1,0,0⟩:Pv),z),(z,z)),((z,z),(z,z))),
  (((z,i),(z,z)),((z,z),(z,z))),
  (((z,z),(i,z)),((z,z),(z,z))),
  (((z,z),(z,z)),((i,z),(z,z)))]
def K2(K:Int)(D E:Nat)(p:List In):Bool:=(alY K D E).isz ((run (alY K D E) p (six K D E)).getD 0 ((alY K D E).con 0))
def cu{R:Type}[CR R](x:R):R:=ad (mu x (mu x x)) (ic 7)
theorem gA{R:Type}[CR R](K:Int)(D E:Nat)(Y:0<D)(N:0<E)(p:List In)(h:K2 K D E p=true)(x1 e f i j s:R)(T:mu i i=cu x1)(V:mu j j=cu e)(h3:mu s s=cu f) :
  (run (G6 R) p [x1,e,f,i,j,s]).getD 0 (ic 0)=ic 0:=by
 have t:=ad7 (R:=R) K D E Y N x1 e f;have d:=t.con_ok 0;have x:=t.con_ok 1;have A:=t.con_ev 0;have M:=t.con_ev 1;have one:∀(a b c:Nat)(v:Int)(k l:Nat),v=ev (R:=Int) K (K ^ D) (K ^ (D*E)) [(1,a,b,c)]→a≤k→b≤l→okP K D E ⟨[(1,a,b,c)],v,1,k,l⟩:=by
  intro a b c v k l B r H;refine⟨fun h=>by simp at h,B,by simp[nr],.inr fun m I _=>?_⟩;have o:m=(1,a,b,c):=by simpa using I
  subst o;exact⟨r,H⟩
 have q:∀(a b c:Nat)(v:Int)(k l:Nat),v=ev (R:=Int) K (K ^ D) (K ^ (D*E)) [(1,a,b,c),(7,0,0,0)]→a≤k→b≤l→okP K D E ⟨[(1,a,b,c),(7,0,0,0)],v,8,k,l⟩:=by
  intro a b c v k l B r H;refine⟨fun h=>by simp at h,B,by simp[nr],.inr fun m I _=>?_⟩;have o:m=(1,a,b,c)∨m=(7,0,0,0):=by simpa using I
  rcases o with rfl|rfl;exact⟨r,H⟩;exact⟨Nat.zero_le _,Nat.zero_le _⟩
 have J:=q 3 0 0 (K ^ 3+7) 3 0 (by simp[ev,tJ,rJ,ic,mu,ad]) aq aq;have w:=q 0 3 0 ((K ^ D) ^ 3+7) 0 3 (by simp[ev,tJ,rJ,ic,mu,ad]) aq aq;have G:=q 0 0 3 ((K ^ (D*E)) ^ 3+7) 0 0 (by simp[ev,tJ,rJ,ic,mu,ad]) aq aq;have U:=t.sq (c:=⟨[(1,3,0,0),(7,0,0,0)],K ^ 3+7,8,3,0⟩) J (y:=i) (by
  rw[T];show cu x1=ad (tJ x1 e f (1,3,0,0)) (ad (tJ x1 e f (7,0,0,0)) (ic 0));simp only[tJ,pw,on,QW,K1,cu];rw[mu_as])
 have L:=U.sq (c:=(⟨[(1,0,3,0),(7,0,0,0)],(K ^ D) ^ 3+7,8,0,3⟩,(I5 K D E).con 0)) ⟨w,d⟩ (y:=j) (by
  rw[V];show cu e=ad (ad (tJ x1 e f (1,0,3,0)) (ad (tJ x1 e f (7,0,0,0)) (ic 0))) (mu (ev x1 e f ((I5 K D E).con 0).g) i);rw[A,zm,K1];simp only[tJ,pw,on,QW,K1,cu];rw[mu_as])
 have u:=L.sq (c:=((⟨[(1,0,0,3),(7,0,0,0)],(K ^ (D*E)) ^ 3+7,8,0,0⟩,(I5 K D E).con 0),((I5 K D E).con 0,(I5 K D E).con 0))) ⟨⟨G,d⟩,d,d⟩ (y:=s) (by
  rw[h3];show cu f=ad (ad (ad (tJ x1 e f (1,0,0,3)) (ad (tJ x1 e f (7,0,0,0)) (ic 0))) (mu (ev x1 e f ((I5 K D E).con 0).g) i)) (mu (ad (ev x1 e f ((I5 K D E).con 0).g) (mu (ev x1 e f ((I5 K D E).con 0).g) i)) j);rw[A,zm,K1,ze,zm,K1];simp only[tJ,pw,on,QW,K1,cu];rw[mu_as])
 have Q:=one 1 0 0 K 1 0 (by simp[ev,tJ,pw,ic,mu,ad]) aq aq;have W:=one 0 1 0 (K ^ D) 0 1 (by simp[ev,tJ,pw,ic,mu,ad]) aq aq;have P:=one 0 0 1 (K ^ (D*E)) 0 0 (by simp[ev,tJ,pw,ic,mu,ad]) aq aq;obtain⟨X,S⟩:=Pn u p (six K D E) (by
  intro a r;simp only[six,et,List.not_mem_nil,or_false]at r;rcases r with rfl|rfl|rfl|rfl|rfl|rfl;exact⟨⟨⟨Q,d⟩,d,d⟩,⟨d,d⟩,d,d⟩;exact⟨⟨⟨W,d⟩,d,d⟩,⟨d,d⟩,d,d⟩;exact⟨⟨⟨P,d⟩,d,d⟩,⟨d,d⟩,d,d⟩;exact⟨⟨⟨d,x⟩,d,d⟩,⟨d,d⟩,d,d⟩;exact⟨⟨⟨d,d⟩,x,d⟩,⟨d,d⟩,d,d⟩
  exact⟨⟨⟨d,d⟩,d,d⟩,⟨x,d⟩,d,d⟩)
 have C:ev x1 e f [(1,1,0,0)]=x1:=by simp only[ev,tJ,pw,on,QW,K1]
 have F:ev x1 e f [(1,0,1,0)]=e:=by simp only[ev,tJ,pw,on,QW,K1]
 have z:ev x1 e f [(1,0,0,1)]=f:=by simp only[ev,tJ,pw,on,K1]
 have O:(six K D E).map (fun p=>ad (ad (ad (ev x1 e f p.1.1.1.g) (mu (ev x1 e f p.1.1.2.g) i)) (mu (ad (ev x1 e f p.1.2.1.g) (mu (ev x1 e f p.1.2.2.g) i)) j)) (mu (ad (ad (ev x1 e f p.2.1.1.g) (mu (ev x1 e f p.2.1.2.g) i)) (mu (ad (ev x1 e f p.2.2.1.g) (mu (ev x1 e f p.2.2.2.g) i)) j)) s))=[x1,e,f,i,j,s]:=by
  simp only[six,List.map_cons,List.map_nil,A,M,C,F,z,zm,ze,K1,on]
 rw[←O,S,EP _ _ _ ((alY K D E).con 0) (ic 0) (u.con_ev 0)];exact u.isz_ev (I6 X (u.con_ok 0) 0) h
end Go.Ec
namespace Go.Ec
open CR
def LN(n:Nat)[h:NeZero n](c:Int):Fin n:=⟨(c%(n:Int)).toNat,by
 have:=Int.emod_lt_of_pos c (b:=(n:Int)) (by have:=h.out;omega);have:=Int.emod_nonneg c (b:=(n:Int)) (by have:=h.out;omega)
 omega⟩
theorem pj(n:Nat)[h:NeZero n](c:Int):(((LN n c).val:Nat):Int)=c%(n:Int):=by
 have:=Int.emod_nonneg c (b:=(n:Int)) (by have:=h.out;omega);show(((c%(n:Int)).toNat:Nat):Int)=_;omega
theorem nV{n:Nat}{a b:Fin n}(h:((a.val:Nat):Int)=((b.val:Nat):Int)):a=b:=Fin.ext aq
instance crF(n:Nat)[h:NeZero n]:CR (Fin n) where
 ad:=(·+·)
 mu:=(·*·)
 ic:=LN n
 ad_as:=by intros;grobner
 ad_co:=by intros;grobner
 mu_as:=by intros;grobner
 mu_co:=by intros;grobner
 di:=by intros;grobner
 ic_ad:=fun a b=>nV (by
  rw[pj,Fin.val_add,Int.natCast_emod,Int.natCast_add,pj,pj,←Int.add_emod])
 ic_mu:=fun a b=>nV (by
  rw[pj,Fin.val_mul,Int.natCast_emod,Int.natCast_mul,pj,pj,←Int.mul_emod])
 ze:=fun a=>nV (by
  rw[Fin.val_add,Int.natCast_emod,Int.natCast_add,pj];have:=a.isLt
  rw[Int.zero_emod,Int.zero_add,Int.emod_eq_of_lt aq aq])
 on:=fun a=>nV (by
  rw[Fin.val_mul,Int.natCast_emod,Int.natCast_mul,pj];have:=a.isLt
  rw[Int.mul_emod,Int.emod_emod,←Int.mul_emod,Int.one_mul,Int.emod_eq_of_lt aq aq])
 zm:=fun a=>nV (by
  rw[Fin.val_mul,Int.natCast_emod,Int.natCast_mul,pj,Int.zero_emod,Int.zero_mul,Int.zero_emod])
variable {n:Nat} [NeZero n]
theorem jE(k:Nat):(LN n (k:Int))=Fin.ofNat n k:=nV (by
 rw[pj];show _=((k%n:Nat):Int);rw[Int.natCast_emod])
theorem ic0:(ic 0:Fin n)=0:=jE 0
theorem icm(c:Int):(ic (-c):Fin n)=- ic c:=by
 have h:ad (ic (-c)) (ic c)=(ic 0:Fin n):=by rw[←ic_ad];congr 1;omega
 have d:(ic (-c):Fin n)+ic c=0:=by rw[←ic0];exact h
 generalize(ic (-c):Fin n)=a at *;generalize(ic c:Fin n)=b at *
 grobner
end Go.Ec
namespace Go.Ec
open CR
def dB{R:Type}[CR R](u v:R×R×R):R×R×R :=
 let xy:=ad (mu u.1 v.2.1) (mu v.1 u.2.1)
 let yz:=ad (mu u.2.1 v.2.2) (mu v.2.1 u.2.2)
 let xz:=ad (mu u.1 v.2.2) (mu v.1 u.2.2)
 let yy:=mu u.2.1 v.2.1
 let zz:=mu u.2.2 v.2.2
 let xx:=mu u.1 v.1
 let d:=ad yy (mu (ic (-1)) (mu (ic 21) zz))
 let e:=ad yy (mu (ic 21) zz)
 (ad (mu xy d) (mu (ic (-1)) (mu (ic 21) (mu yz xz))),ad (mu e d) (mu (ic 63) (mu xx xz)),ad (mu yz e) (mu (ic 3) (mu xx xy)))
def Yh:List In:=.con 1::.mul 1 5::.mul 3 5::.add 1 0::.mul 7 3::.mul 9 4::.add 1 0::.mul 7 6::.mul 9 7::.add 1 0::.mul 13 14::.mul 10 10::.mul 12 13::.con 21::.mul 0 2::.sub 4 0::.add 5 1::.mul 13 1::.mul 11 8::.mul 5 0::.sub 2 0::.mul 4 5::.mul 9 12::.con 63::.mul 0 1::.add 3 0::.mul 19 9::.mul 14 23::.con 3::.mul 0 1::.add 3 0::.mul 10 36::.mul 34 6::.add 1 0::.mul 8 33::.mul 40 4::.add 1 0::.mul 16 36::.mul 40 7::.add 1 0::.mul 14 45::.mul 10 40::.mul 21 44::.mul 29 1::.sub 3 0::.add 4 1::.mul 12 1::.mul 10 7::.mul 34 0::.sub 2 0::.mul 4 5::.mul 8 11::.mul 28 0::.add 2 0::.mul 17 8::.mul 12 21::.mul 27 0::.add 2 0::.mul 59 63::.mul 61 63::.add 1 0::.mul 66 60::.add 56 0::.mul 65 62::.add 55 0::.mul 69 70::.mul 67 68::.sub 1 52::.add 2 53::.mul 8 1::.mul 7 5::.mul 57 0::.sub 2 0::.mul 4 5::.mul 7 9::.mul 51 0::.add 2 0::.mul 14 8::.mul 11 17::.mul 50 0::.add 2 0::.mul 81 4::.mul 9 85::.add 1 0::.mul 87 3::.mul 8 84::.add 1 0::.mul 87 6::.mul 15 87::.add 1 0::.mul 93 13::.mul 90 10::.mul 92 19::.mul 79 1::.sub 3 0::.add 4 1::.mul 12 1::.mul 10 7::.mul 84 0::.sub 2 0::.mul 4 5::.mul 8 11::.mul 78 0::.add 2 0::.mul 17 8::.mul 12 21::.mul 77 0::.add 2 0::.mul 58 0::.mul 51 9::.sub 1 0::[]
theorem abl:K2 (2 ^ 200) 16 20 Yh=true:=by kernel_rfl
theorem abm{R:Type}[CR R](x1 f d b c a:R)(g:mu b b=cu x1)(i:mu c c=cu f)(h3:mu a a=cu d):(ad (mu (dB (dB (x1,b,ic 1) (f,c,ic 1)) (d,a,ic 1)).1 (dB (x1,b,ic 1) (dB (f,c,ic 1) (d,a,ic 1))).2.2) (mu (ic (-1)) (mu (dB (dB (x1,b,ic 1) (f,c,ic 1)) (d,a,ic 1)).2.2 (dB (x1,b,ic 1) (dB (f,c,ic 1) (d,a,ic 1))).1)))=ic 0:=by
 have h:=gA (2 ^ 200) 16 20 aq aq Yh abl x1 f d b c a g i h3;have e:(run (G6 R) Yh [x1,f,d,b,c,a]).getD 0 (ic 0)=(ad (mu (dB (dB (x1,b,ic 1) (f,c,ic 1)) (d,a,ic 1)).1 (dB (x1,b,ic 1) (dB (f,c,ic 1) (d,a,ic 1))).2.2) (mu (ic (-1)) (mu (dB (dB (x1,b,ic 1) (f,c,ic 1)) (d,a,ic 1)).2.2 (dB (x1,b,ic 1) (dB (f,c,ic 1) (d,a,ic 1))).1))):=by kernel_rfl
 rw[e]at h;exact h
def Yi:List In:=.con 1::.mul 1 5::.mul 3 5::.add 1 0::.mul 7 3::.mul 9 4::.add 1 0::.mul 7 6::.mul 9 7::.add 1 0::.mul 13 14::.mul 10 10::.mul 12 13::.con 21::.mul 0 2::.sub 4 0::.add 5 1::.mul 13 1::.mul 11 8::.mul 5 0::.sub 2 0::.mul 4 5::.mul 9 12::.con 63::.mul 0 1::.add 3 0::.mul 19 9::.mul 14 23::.con 3::.mul 0 1::.add 3 0::.mul 10 36::.mul 34 6::.add 1 0::.mul 8 33::.mul 40 4::.add 1 0::.mul 16 36::.mul 40 7::.add 1 0::.mul 14 45::.mul 10 40::.mul 21 44::.mul 29 1::.sub 3 0::.add 4 1::.mul 12 1::.mul 10 7::.mul 34 0::.sub 2 0::.mul 4 5::.mul 8 11::.mul 28 0::.add 2 0::.mul 17 8::.mul 12 21::.mul 27 0::.add 2 0::.mul 59 63::.mul 61 63::.add 1 0::.mul 66 60::.add 56 0::.mul 65 62::.add 55 0::.mul 69 70::.mul 67 68::.sub 1 52::.add 2 53::.mul 8 1::.mul 7 5::.mul 57 0::.sub 2 0::.mul 4 5::.mul 7 9::.mul 51 0::.add 2 0::.mul 14 8::.mul 11 17::.mul 50 0::.add 2 0::.mul 81 4::.mul 9 85::.add 1 0::.mul 87 3::.mul 8 84::.add 1 0::.mul 87 6::.mul 15 87::.add 1 0::.mul 93 13::.mul 90 10::.mul 92 19::.mul 79 1::.sub 3 0::.add 4 1::.mul 12 1::.mul 10 7::.mul 84 0::.sub 2 0::.mul 4 5::.mul 8 11::.mul 78 0::.add 2 0::.mul 17 8::.mul 12 21::.mul 77 0::.add 2 0::.mul 54 0::.mul 51 5::.sub 1 0::[]
theorem abn:K2 (2 ^ 200) 16 20 Yi=true:=by kernel_rfl
theorem abo{R:Type}[CR R](x1 f d b c a:R)(g:mu b b=cu x1)(i:mu c c=cu f)(h3:mu a a=cu d):(ad (mu (dB (dB (x1,b,ic 1) (f,c,ic 1)) (d,a,ic 1)).2.1 (dB (x1,b,ic 1) (dB (f,c,ic 1) (d,a,ic 1))).2.2) (mu (ic (-1)) (mu (dB (dB (x1,b,ic 1) (f,c,ic 1)) (d,a,ic 1)).2.2 (dB (x1,b,ic 1) (dB (f,c,ic 1) (d,a,ic 1))).2.1)))=ic 0:=by
 have h:=gA (2 ^ 200) 16 20 aq aq Yi abn x1 f d b c a g i h3;have e:(run (G6 R) Yi [x1,f,d,b,c,a]).getD 0 (ic 0)=(ad (mu (dB (dB (x1,b,ic 1) (f,c,ic 1)) (d,a,ic 1)).2.1 (dB (x1,b,ic 1) (dB (f,c,ic 1) (d,a,ic 1))).2.2) (mu (ic (-1)) (mu (dB (dB (x1,b,ic 1) (f,c,ic 1)) (d,a,ic 1)).2.2 (dB (x1,b,ic 1) (dB (f,c,ic 1) (d,a,ic 1))).2.1))):=by kernel_rfl
 rw[e]at h;exact h
def Yj:List In:=.con 1::.mul 1 5::.mul 3 5::.add 1 0::.mul 7 3::.mul 9 4::.add 1 0::.mul 7 6::.mul 9 7::.add 1 0::.mul 13 14::.mul 10 10::.mul 12 13::.con 21::.mul 0 2::.sub 4 0::.add 5 1::.mul 13 1::.mul 11 8::.mul 5 0::.sub 2 0::.mul 4 5::.mul 9 12::.con 63::.mul 0 1::.add 3 0::.mul 19 9::.mul 14 23::.con 3::.mul 0 1::.add 3 0::.mul 5 0::.mul 6 0::.mul 12 12::.mul 13 0::.mul 4 4::.mul 5 0::.con 7::.mul 0 1::.add 4 0::.sub 7 0::[]
theorem abp:K2 (2 ^ 200) 16 20 Yj=true:=by kernel_rfl
theorem abq{R:Type}[CR R](x1 c f a b d:R)(g:mu a a=cu x1)(i:mu b b=cu c)(h3:mu d d=cu f):(ad (mu (dB (x1,a,ic 1) (c,b,ic 1)).2.1 (mu (dB (x1,a,ic 1) (c,b,ic 1)).2.1 (dB (x1,a,ic 1) (c,b,ic 1)).2.2)) (mu (ic (-1)) (ad (mu (dB (x1,a,ic 1) (c,b,ic 1)).1 (mu (dB (x1,a,ic 1) (c,b,ic 1)).1 (dB (x1,a,ic 1) (c,b,ic 1)).1)) (mu (ic 7) (mu (dB (x1,a,ic 1) (c,b,ic 1)).2.2 (mu (dB (x1,a,ic 1) (c,b,ic 1)).2.2 (dB (x1,a,ic 1) (c,b,ic 1)).2.2))))))=ic 0:=by
 have h:=gA (2 ^ 200) 16 20 aq aq Yj abp x1 c f a b d g i h3;have e:(run (G6 R) Yj [x1,c,f,a,b,d]).getD 0 (ic 0)=(ad (mu (dB (x1,a,ic 1) (c,b,ic 1)).2.1 (mu (dB (x1,a,ic 1) (c,b,ic 1)).2.1 (dB (x1,a,ic 1) (c,b,ic 1)).2.2)) (mu (ic (-1)) (ad (mu (dB (x1,a,ic 1) (c,b,ic 1)).1 (mu (dB (x1,a,ic 1) (c,b,ic 1)).1 (dB (x1,a,ic 1) (c,b,ic 1)).1)) (mu (ic 7) (mu (dB (x1,a,ic 1) (c,b,ic 1)).2.2 (mu (dB (x1,a,ic 1) (c,b,ic 1)).2.2 (dB (x1,a,ic 1) (c,b,ic 1)).2.2)))))):=by kernel_rfl
 rw[e]at h;exact h
def Yk:List In:=.con 1::.mul 1 5::.mul 3 5::.add 1 0::.mul 7 3::.mul 9 4::.add 1 0::.mul 7 6::.mul 9 7::.add 1 0::.mul 13 14::.mul 10 10::.mul 12 13::.con 21::.mul 0 2::.sub 4 0::.add 5 1::.mul 13 1::.mul 11 8::.mul 5 0::.sub 2 0::.mul 4 5::.mul 9 12::.con 63::.mul 0 1::.add 3 0::.mul 19 9::.mul 14 23::.con 3::.mul 0 1::.add 3 0::.sub 32 31::.sub 36 35::.mul 1 1::.mul 13 0::.mul 2 2::.add 36 37::.mul 0 3::.sub 2 0::.mul 0 8::.sub 5 0::[]
theorem abr:K2 (2 ^ 200) 16 20 Yk=true:=by kernel_rfl
theorem abt{R:Type}[CR R](x1 a f b c d:R)(g:mu b b=cu x1)(i:mu c c=cu a)(h3:mu d d=cu f):(ad (mu (dB (x1,b,ic 1) (a,c,ic 1)).1 (mu (ad a (mu (ic (-1)) x1)) (ad a (mu (ic (-1)) x1)))) (mu (ic (-1)) (mu (ad (mu (ad c (mu (ic (-1)) b)) (ad c (mu (ic (-1)) b))) (mu (ic (-1)) (mu (ad x1 a) (mu (ad a (mu (ic (-1)) x1)) (ad a (mu (ic (-1)) x1)))))) (dB (x1,b,ic 1) (a,c,ic 1)).2.2)))=ic 0:=by
 have h:=gA (2 ^ 200) 16 20 aq aq Yk abr x1 a f b c d g i h3;have e:(run (G6 R) Yk [x1,a,f,b,c,d]).getD 0 (ic 0)=(ad (mu (dB (x1,b,ic 1) (a,c,ic 1)).1 (mu (ad a (mu (ic (-1)) x1)) (ad a (mu (ic (-1)) x1)))) (mu (ic (-1)) (mu (ad (mu (ad c (mu (ic (-1)) b)) (ad c (mu (ic (-1)) b))) (mu (ic (-1)) (mu (ad x1 a) (mu (ad a (mu (ic (-1)) x1)) (ad a (mu (ic (-1)) x1)))))) (dB (x1,b,ic 1) (a,c,ic 1)).2.2))):=by kernel_rfl
 rw[e]at h;exact h
def Yl:List In:=.con 1::.mul 1 5::.mul 3 5::.add 1 0::.mul 7 3::.mul 9 4::.add 1 0::.mul 7 6::.mul 9 7::.add 1 0::.mul 13 14::.mul 10 10::.mul 12 13::.con 21::.mul 0 2::.sub 4 0::.add 5 1::.mul 13 1::.mul 11 8::.mul 5 0::.sub 2 0::.mul 4 5::.mul 9 12::.con 63::.mul 0 1::.add 3 0::.mul 19 9::.mul 14 23::.con 3::.mul 0 1::.add 3 0::.sub 32 31::.sub 36 35::.mul 0 0::.add 34 35::.mul 3 3::.mul 1 0::.sub 3 0::.mul 6 2::.mul 13 0::.mul 40 4::.sub 0 3::.mul 9 0::.mul 46 4::.sub 1 0::.mul 0 14::.sub 6 0::[]
theorem abu:K2 (2 ^ 200) 16 20 Yl=true:=by kernel_rfl
theorem abv{R:Type}[CR R](x1 a f b c d:R)(g:mu b b=cu x1)(i:mu c c=cu a)(h3:mu d d=cu f):(ad (mu (dB (x1,b,ic 1) (a,c,ic 1)).2.1 (mu (ad a (mu (ic (-1)) x1)) (mu (ad a (mu (ic (-1)) x1)) (ad a (mu (ic (-1)) x1))))) (mu (ic (-1)) (mu (ad (mu (ad c (mu (ic (-1)) b)) (ad (mu x1 (mu (ad a (mu (ic (-1)) x1)) (ad a (mu (ic (-1)) x1)))) (mu (ic (-1)) (ad (mu (ad c (mu (ic (-1)) b)) (ad c (mu (ic (-1)) b))) (mu (ic (-1)) (mu (ad x1 a) (mu (ad a (mu (ic (-1)) x1)) (ad a (mu (ic (-1)) x1))))))))) (mu (ic (-1)) (mu b (mu (ad a (mu (ic (-1)) x1)) (mu (ad a (mu (ic (-1)) x1)) (ad a (mu (ic (-1)) x1))))))) (dB (x1,b,ic 1) (a,c,ic 1)).2.2)))=ic 0:=by
 have h:=gA (2 ^ 200) 16 20 aq aq Yl abu x1 a f b c d g i h3;have e:(run (G6 R) Yl [x1,a,f,b,c,d]).getD 0 (ic 0)=(ad (mu (dB (x1,b,ic 1) (a,c,ic 1)).2.1 (mu (ad a (mu (ic (-1)) x1)) (mu (ad a (mu (ic (-1)) x1)) (ad a (mu (ic (-1)) x1))))) (mu (ic (-1)) (mu (ad (mu (ad c (mu (ic (-1)) b)) (ad (mu x1 (mu (ad a (mu (ic (-1)) x1)) (ad a (mu (ic (-1)) x1)))) (mu (ic (-1)) (ad (mu (ad c (mu (ic (-1)) b)) (ad c (mu (ic (-1)) b))) (mu (ic (-1)) (mu (ad x1 a) (mu (ad a (mu (ic (-1)) x1)) (ad a (mu (ic (-1)) x1))))))))) (mu (ic (-1)) (mu b (mu (ad a (mu (ic (-1)) x1)) (mu (ad a (mu (ic (-1)) x1)) (ad a (mu (ic (-1)) x1))))))) (dB (x1,b,ic 1) (a,c,ic 1)).2.2))):=by kernel_rfl
 rw[e]at h;exact h
def Ym:List In:=.con 1::.mul 1 4::.add 0 0::.mul 6 2::.add 0 0::.mul 5 4::.add 0 0::.mul 10 10::.mul 7 7::.mul 9 9::.con 21::.mul 0 2::.sub 4 0::.add 5 1::.mul 11 1::.mul 10 8::.mul 5 0::.sub 2 0::.mul 4 5::.mul 9 12::.con 63::.mul 0 1::.add 3 0::.mul 18 9::.mul 14 21::.con 3::.mul 0 1::.add 3 0::.mul 2 18::.con 4::.mul 0 22::.mul 13 0::.mul 3 3::.mul 33 25::.con 8::.mul 0 1::.sub 3 0::.mul 0 9::.sub 6 0::[]
theorem abw:K2 (2 ^ 200) 16 20 Ym=true:=by kernel_rfl
theorem abx{R:Type}[CR R](x1 f d a c b:R)(g:mu a a=cu x1)(i:mu c c=cu f)(h3:mu b b=cu d):(ad (mu (dB (x1,a,ic 1) (x1,a,ic 1)).1 (mu (ic 4) (mu a a))) (mu (ic (-1)) (mu (ad (mu (mu (ic 3) (mu x1 x1)) (mu (ic 3) (mu x1 x1))) (mu (ic (-1)) (mu (ic 8) (mu x1 (mu a a))))) (dB (x1,a,ic 1) (x1,a,ic 1)).2.2)))=ic 0:=by
 have h:=gA (2 ^ 200) 16 20 aq aq Ym abw x1 f d a c b g i h3;have e:(run (G6 R) Ym [x1,f,d,a,c,b]).getD 0 (ic 0)=(ad (mu (dB (x1,a,ic 1) (x1,a,ic 1)).1 (mu (ic 4) (mu a a))) (mu (ic (-1)) (mu (ad (mu (mu (ic 3) (mu x1 x1)) (mu (ic 3) (mu x1 x1))) (mu (ic (-1)) (mu (ic 8) (mu x1 (mu a a))))) (dB (x1,a,ic 1) (x1,a,ic 1)).2.2))):=by kernel_rfl
 rw[e]at h;exact h
def Yn:List In:=.con 1::.mul 1 4::.add 0 0::.mul 6 2::.add 0 0::.mul 5 4::.add 0 0::.mul 10 10::.mul 7 7::.mul 9 9::.con 21::.mul 0 2::.sub 4 0::.add 5 1::.mul 11 1::.mul 10 8::.mul 5 0::.sub 2 0::.mul 4 5::.mul 9 12::.con 63::.mul 0 1::.add 3 0::.mul 18 9::.mul 14 21::.con 3::.mul 0 1::.add 3 0::.mul 2 18::.mul 32 21::.con 8::.mul 0 1::.mul 9 0::.mul 33 25::.con 12::.mul 0 1::.mul 7 7::.sub 1 0::.mul 9 0::.mul 31 31::.mul 9 0::.sub 2 0::.mul 0 14::.sub 10 0::[]
theorem aby:K2 (2 ^ 200) 16 20 Yn=true:=by kernel_rfl
theorem abz{R:Type}[CR R](x1 f d a c b:R)(g:mu a a=cu x1)(i:mu c c=cu f)(h3:mu b b=cu d):(ad (mu (dB (x1,a,ic 1) (x1,a,ic 1)).2.1 (mu (ic 8) (mu a (mu a a)))) (mu (ic (-1)) (mu (ad (mu (mu (ic 3) (mu x1 x1)) (ad (mu (ic 12) (mu x1 (mu a a))) (mu (ic (-1)) (mu (mu (ic 3) (mu x1 x1)) (mu (ic 3) (mu x1 x1)))))) (mu (ic (-1)) (mu (ic 8) (mu (mu a a) (mu a a))))) (dB (x1,a,ic 1) (x1,a,ic 1)).2.2)))=ic 0:=by
 have h:=gA (2 ^ 200) 16 20 aq aq Yn aby x1 f d a c b g i h3;have e:(run (G6 R) Yn [x1,f,d,a,c,b]).getD 0 (ic 0)=(ad (mu (dB (x1,a,ic 1) (x1,a,ic 1)).2.1 (mu (ic 8) (mu a (mu a a)))) (mu (ic (-1)) (mu (ad (mu (mu (ic 3) (mu x1 x1)) (ad (mu (ic 12) (mu x1 (mu a a))) (mu (ic (-1)) (mu (mu (ic 3) (mu x1 x1)) (mu (ic 3) (mu x1 x1)))))) (mu (ic (-1)) (mu (ic 8) (mu (mu a a) (mu a a))))) (dB (x1,a,ic 1) (x1,a,ic 1)).2.2))):=by kernel_rfl
 rw[e]at h;exact h
def Yo:List In:=.con 1::.mul 1 4::.add 0 0::.mul 6 2::.add 0 0::.mul 5 4::.add 0 0::.mul 10 10::.mul 7 7::.mul 9 9::.con 21::.mul 0 2::.sub 4 0::.add 5 1::.mul 11 1::.mul 10 8::.mul 5 0::.sub 2 0::.mul 4 5::.mul 9 12::.con 63::.mul 0 1::.add 3 0::.mul 18 9::.mul 14 21::.con 3::.mul 0 1::.add 3 0::.mul 31 20::.con 8::.mul 0 1::.sub 3 0::[]
theorem abA:K2 (2 ^ 200) 16 20 Yo=true:=by kernel_rfl
theorem abB{R:Type}[CR R](x1 f d a c b:R)(g:mu a a=cu x1)(i:mu c c=cu f)(h3:mu b b=cu d):(ad (dB (x1,a,ic 1) (x1,a,ic 1)).2.2 (mu (ic (-1)) (mu (ic 8) (mu a (mu a a)))))=ic 0:=by
 have h:=gA (2 ^ 200) 16 20 aq aq Yo abA x1 f d a c b g i h3;have e:(run (G6 R) Yo [x1,f,d,a,c,b]).getD 0 (ic 0)=(ad (dB (x1,a,ic 1) (x1,a,ic 1)).2.2 (mu (ic (-1)) (mu (ic 8) (mu a (mu a a))))):=by kernel_rfl
 rw[e]at h;exact h
def Yp:List In:=.con 1::.mul 1 5::.mul 3 5::.add 1 0::.mul 7 3::.mul 9 4::.add 1 0::.mul 7 6::.mul 9 7::.add 1 0::.mul 13 14::.mul 10 10::.mul 12 13::.con 21::.mul 0 2::.sub 4 0::.add 5 1::.mul 13 1::.mul 11 8::.mul 5 0::.sub 2 0::.mul 4 5::.mul 9 12::.con 63::.mul 0 1::.add 3 0::.mul 19 9::.mul 14 23::.con 3::.mul 0 1::.add 3 0::.sub 31 32::.add 35 36::.mul 0 0::.add 34 35::.mul 3 3::.mul 1 0::.sub 3 0::.mul 38 2::.sub 0 1::.mul 7 0::.mul 9 5::.mul 45 0::.sub 2 0::.add 13 0::[]
theorem abC:K2 (2 ^ 200) 16 20 Yp=true:=by kernel_rfl
theorem abD{R:Type}[CR R](x1 a f b c d:R)(g:mu b b=cu x1)(i:mu c c=cu a)(h3:mu d d=cu f):(ad (dB (x1,b,ic 1) (a,c,ic 1)).2.2 (ad (mu (ad b c) (ad (mu x1 (mu (ad x1 (mu (ic (-1)) a)) (ad x1 (mu (ic (-1)) a)))) (mu (ic (-1)) (ad (mu (ad b c) (ad b c)) (mu (ic (-1)) (mu (ad x1 a) (mu (ad x1 (mu (ic (-1)) a)) (ad x1 (mu (ic (-1)) a))))))))) (mu (ic (-1)) (mu b (mu (ad x1 (mu (ic (-1)) a)) (mu (ad x1 (mu (ic (-1)) a)) (ad x1 (mu (ic (-1)) a))))))))=ic 0:=by
 have h:=gA (2 ^ 200) 16 20 aq aq Yp abC x1 a f b c d g i h3;have e:(run (G6 R) Yp [x1,a,f,b,c,d]).getD 0 (ic 0)=(ad (dB (x1,b,ic 1) (a,c,ic 1)).2.2 (ad (mu (ad b c) (ad (mu x1 (mu (ad x1 (mu (ic (-1)) a)) (ad x1 (mu (ic (-1)) a)))) (mu (ic (-1)) (ad (mu (ad b c) (ad b c)) (mu (ic (-1)) (mu (ad x1 a) (mu (ad x1 (mu (ic (-1)) a)) (ad x1 (mu (ic (-1)) a))))))))) (mu (ic (-1)) (mu b (mu (ad x1 (mu (ic (-1)) a)) (mu (ad x1 (mu (ic (-1)) a)) (ad x1 (mu (ic (-1)) a)))))))):=by kernel_rfl
 rw[e]at h;exact h
def Yq:List In:=.con 1::.sub 1 2::.add 5 6::.mul 0 0::.add 4 5::.mul 3 3::.mul 1 0::.sub 3 0::.mul 8 2::.sub 0 1::.mul 7 0::.mul 9 5::.mul 15 0::.sub 2 0::.mul 6 6::.mul 7 0::.mul 4 4::.con 7::.mul 0 1::.add 3 0::.mul 6 6::.sub 1 0::[]
theorem abE:K2 (2 ^ 200) 16 20 Yq=true:=by kernel_rfl
theorem abG{R:Type}[CR R](x1 a f b c d:R)(g:mu b b=cu x1)(i:mu c c=cu a)(h3:mu d d=cu f):(ad (ad (mu (ad (mu (ad b c) (ad b c)) (mu (ic (-1)) (mu (ad x1 a) (mu (ad x1 (mu (ic (-1)) a)) (ad x1 (mu (ic (-1)) a)))))) (mu (ad (mu (ad b c) (ad b c)) (mu (ic (-1)) (mu (ad x1 a) (mu (ad x1 (mu (ic (-1)) a)) (ad x1 (mu (ic (-1)) a)))))) (ad (mu (ad b c) (ad b c)) (mu (ic (-1)) (mu (ad x1 a) (mu (ad x1 (mu (ic (-1)) a)) (ad x1 (mu (ic (-1)) a)))))))) (mu (ic 7) (mu (mu (ad x1 (mu (ic (-1)) a)) (mu (ad x1 (mu (ic (-1)) a)) (ad x1 (mu (ic (-1)) a)))) (mu (ad x1 (mu (ic (-1)) a)) (mu (ad x1 (mu (ic (-1)) a)) (ad x1 (mu (ic (-1)) a))))))) (mu (ic (-1)) (mu (ad (mu (ad b c) (ad (mu x1 (mu (ad x1 (mu (ic (-1)) a)) (ad x1 (mu (ic (-1)) a)))) (mu (ic (-1)) (ad (mu (ad b c) (ad b c)) (mu (ic (-1)) (mu (ad x1 a) (mu (ad x1 (mu (ic (-1)) a)) (ad x1 (mu (ic (-1)) a))))))))) (mu (ic (-1)) (mu b (mu (ad x1 (mu (ic (-1)) a)) (mu (ad x1 (mu (ic (-1)) a)) (ad x1 (mu (ic (-1)) a))))))) (ad (mu (ad b c) (ad (mu x1 (mu (ad x1 (mu (ic (-1)) a)) (ad x1 (mu (ic (-1)) a)))) (mu (ic (-1)) (ad (mu (ad b c) (ad b c)) (mu (ic (-1)) (mu (ad x1 a) (mu (ad x1 (mu (ic (-1)) a)) (ad x1 (mu (ic (-1)) a))))))))) (mu (ic (-1)) (mu b (mu (ad x1 (mu (ic (-1)) a)) (mu (ad x1 (mu (ic (-1)) a)) (ad x1 (mu (ic (-1)) a))))))))))=ic 0:=by
 have h:=gA (2 ^ 200) 16 20 aq aq Yq abE x1 a f b c d g i h3;have e:(run (G6 R) Yq [x1,a,f,b,c,d]).getD 0 (ic 0)=(ad (ad (mu (ad (mu (ad b c) (ad b c)) (mu (ic (-1)) (mu (ad x1 a) (mu (ad x1 (mu (ic (-1)) a)) (ad x1 (mu (ic (-1)) a)))))) (mu (ad (mu (ad b c) (ad b c)) (mu (ic (-1)) (mu (ad x1 a) (mu (ad x1 (mu (ic (-1)) a)) (ad x1 (mu (ic (-1)) a)))))) (ad (mu (ad b c) (ad b c)) (mu (ic (-1)) (mu (ad x1 a) (mu (ad x1 (mu (ic (-1)) a)) (ad x1 (mu (ic (-1)) a)))))))) (mu (ic 7) (mu (mu (ad x1 (mu (ic (-1)) a)) (mu (ad x1 (mu (ic (-1)) a)) (ad x1 (mu (ic (-1)) a)))) (mu (ad x1 (mu (ic (-1)) a)) (mu (ad x1 (mu (ic (-1)) a)) (ad x1 (mu (ic (-1)) a))))))) (mu (ic (-1)) (mu (ad (mu (ad b c) (ad (mu x1 (mu (ad x1 (mu (ic (-1)) a)) (ad x1 (mu (ic (-1)) a)))) (mu (ic (-1)) (ad (mu (ad b c) (ad b c)) (mu (ic (-1)) (mu (ad x1 a) (mu (ad x1 (mu (ic (-1)) a)) (ad x1 (mu (ic (-1)) a))))))))) (mu (ic (-1)) (mu b (mu (ad x1 (mu (ic (-1)) a)) (mu (ad x1 (mu (ic (-1)) a)) (ad x1 (mu (ic (-1)) a))))))) (ad (mu (ad b c) (ad (mu x1 (mu (ad x1 (mu (ic (-1)) a)) (ad x1 (mu (ic (-1)) a)))) (mu (ic (-1)) (ad (mu (ad b c) (ad b c)) (mu (ic (-1)) (mu (ad x1 a) (mu (ad x1 (mu (ic (-1)) a)) (ad x1 (mu (ic (-1)) a))))))))) (mu (ic (-1)) (mu b (mu (ad x1 (mu (ic (-1)) a)) (mu (ad x1 (mu (ic (-1)) a)) (ad x1 (mu (ic (-1)) a)))))))))):=by kernel_rfl
 rw[e]at h;exact h
def Yr:List In:=.con 1::.mul 1 1::.con 3::.mul 0 1::.con (-1)::.mul 8 0::.mul 6 0::.mul 7 10::.add 1 0::.mul 12 8::.mul 4 9::.add 1 0::.mul 12 11::.add 0 0::.mul 17 8::.mul 14 14::.con 21::.mul 0 1::.sub 3 0::.add 4 1::.mul 11 1::.mul 9 7::.mul 5 0::.sub 2 0::.mul 4 5::.mul 23 11::.con 63::.mul 0 1::.add 3 0::.mul 17 9::.mul 28 21::.mul 28 0::.add 2 0::.mul 36 36::.mul 34 0::.con 12::.mul 0 1::.mul 33 33::.sub 1 0::.mul 35 0::.mul 6 6::.con 8::.mul 0 1::.sub 3 0::.sub 15 0::[]
theorem abH:K2 (2 ^ 200) 16 20 Yr=true:=by kernel_rfl
theorem abI{R:Type}[CR R](x1 f d a c b:R)(g:mu a a=cu x1)(i:mu c c=cu f)(h3:mu b b=cu d):(ad (dB (x1,a,ic 1) (x1,mu a (ic (-1)),ic 1)).2.1 (mu (ic (-1)) (ad (mu (mu (ic 3) (mu x1 x1)) (ad (mu (ic 12) (mu x1 (mu a a))) (mu (ic (-1)) (mu (mu (ic 3) (mu x1 x1)) (mu (ic 3) (mu x1 x1)))))) (mu (ic (-1)) (mu (ic 8) (mu (mu a a) (mu a a)))))))=ic 0:=by
 have h:=gA (2 ^ 200) 16 20 aq aq Yr abH x1 f d a c b g i h3;have e:(run (G6 R) Yr [x1,f,d,a,c,b]).getD 0 (ic 0)=(ad (dB (x1,a,ic 1) (x1,mu a (ic (-1)),ic 1)).2.1 (mu (ic (-1)) (ad (mu (mu (ic 3) (mu x1 x1)) (ad (mu (ic 12) (mu x1 (mu a a))) (mu (ic (-1)) (mu (mu (ic 3) (mu x1 x1)) (mu (ic 3) (mu x1 x1)))))) (mu (ic (-1)) (mu (ic 8) (mu (mu a a) (mu a a))))))):=by kernel_rfl
 rw[e]at h;exact h
def Ys:List In:=.con 1::.mul 1 1::.con 3::.mul 0 1::.mul 0 0::.mul 8 8::.mul 6 0::.con 8::.mul 0 1::.sub 4 0::.con 12::.mul 0 4::.sub 0 7::.mul 9 0::.mul 8 8::.mul 7 0::.sub 2 0::.con 4::.mul 0 12::.mul 9 9::.mul 10 0::.mul 2 2::.mul 3 0::.con 7::.mul 0 1::.add 4 0::.mul 9 9::.sub 1 0::[]
theorem abJ:K2 (2 ^ 200) 16 20 Ys=true:=by kernel_rfl
theorem abK{R:Type}[CR R](x1 f d a c b:R)(g:mu a a=cu x1)(i:mu c c=cu f)(h3:mu b b=cu d):(ad (ad (mu (ad (mu (mu (ic 3) (mu x1 x1)) (mu (ic 3) (mu x1 x1))) (mu (ic (-1)) (mu (ic 8) (mu x1 (mu a a))))) (mu (ad (mu (mu (ic 3) (mu x1 x1)) (mu (ic 3) (mu x1 x1))) (mu (ic (-1)) (mu (ic 8) (mu x1 (mu a a))))) (ad (mu (mu (ic 3) (mu x1 x1)) (mu (ic 3) (mu x1 x1))) (mu (ic (-1)) (mu (ic 8) (mu x1 (mu a a))))))) (mu (ic 7) (mu (mu (ic 4) (mu a a)) (mu (mu (ic 4) (mu a a)) (mu (ic 4) (mu a a)))))) (mu (ic (-1)) (mu (ad (mu (mu (ic 3) (mu x1 x1)) (ad (mu (ic 12) (mu x1 (mu a a))) (mu (ic (-1)) (mu (mu (ic 3) (mu x1 x1)) (mu (ic 3) (mu x1 x1)))))) (mu (ic (-1)) (mu (ic 8) (mu (mu a a) (mu a a))))) (ad (mu (mu (ic 3) (mu x1 x1)) (ad (mu (ic 12) (mu x1 (mu a a))) (mu (ic (-1)) (mu (mu (ic 3) (mu x1 x1)) (mu (ic 3) (mu x1 x1)))))) (mu (ic (-1)) (mu (ic 8) (mu (mu a a) (mu a a))))))))=ic 0:=by
 have h:=gA (2 ^ 200) 16 20 aq aq Ys abJ x1 f d a c b g i h3;have e:(run (G6 R) Ys [x1,f,d,a,c,b]).getD 0 (ic 0)=(ad (ad (mu (ad (mu (mu (ic 3) (mu x1 x1)) (mu (ic 3) (mu x1 x1))) (mu (ic (-1)) (mu (ic 8) (mu x1 (mu a a))))) (mu (ad (mu (mu (ic 3) (mu x1 x1)) (mu (ic 3) (mu x1 x1))) (mu (ic (-1)) (mu (ic 8) (mu x1 (mu a a))))) (ad (mu (mu (ic 3) (mu x1 x1)) (mu (ic 3) (mu x1 x1))) (mu (ic (-1)) (mu (ic 8) (mu x1 (mu a a))))))) (mu (ic 7) (mu (mu (ic 4) (mu a a)) (mu (mu (ic 4) (mu a a)) (mu (ic 4) (mu a a)))))) (mu (ic (-1)) (mu (ad (mu (mu (ic 3) (mu x1 x1)) (ad (mu (ic 12) (mu x1 (mu a a))) (mu (ic (-1)) (mu (mu (ic 3) (mu x1 x1)) (mu (ic 3) (mu x1 x1)))))) (mu (ic (-1)) (mu (ic 8) (mu (mu a a) (mu a a))))) (ad (mu (mu (ic 3) (mu x1 x1)) (ad (mu (ic 12) (mu x1 (mu a a))) (mu (ic (-1)) (mu (mu (ic 3) (mu x1 x1)) (mu (ic 3) (mu x1 x1)))))) (mu (ic (-1)) (mu (ic 8) (mu (mu a a) (mu a a)))))))):=by kernel_rfl
 rw[e]at h;exact h
end Go.Ec
namespace Go.Ec
open CR
section
variable {n:Nat} [NeZero n]
theorem G7(a b:Fin n):ad a b=a+b:=rfl
theorem FK(a b:Fin n):mu a b=a*b:=rfl
theorem G8:(ic 0:Fin n)=0:=jE 0
theorem Po:(ic 1:Fin n)=1:=jE 1
theorem qG:(ic (-1):Fin n)=-1:=by rw[icm,Po]
theorem QX:(ic 3:Fin n)=3:=jE 3
theorem ic4:(ic 4:Fin n)=4:=jE 4
theorem ic7:(ic 7:Fin n)=7:=jE 7
theorem ic8:(ic 8:Fin n)=8:=jE 8
theorem abL:(ic 12:Fin n)=12:=jE 12
theorem EQ:(ic 21:Fin n)=21:=jE 21
theorem G9:(ic 63:Fin n)=63:=jE 63
structure Fd(n:Nat)[NeZero n] where
 inv:Fin n→Fin n
 hinv:∀a:Fin n,a≠0→a*inv a=1
 inv0:inv 0=0
 one:(1:Fin n)≠0
 two:(2:Fin n)≠0
 cub:∀x:Fin n,x*x*x+7≠0
theorem Fd.nzd(f:Fd n){a b:Fin n}(h:a*b=0):a=0∨b=0:=by
 by_cases c:a=0;exact .inl c;have:=f.hinv a c;refine .inr ?_;generalize f.inv a=i at *
 grobner
theorem Fd.mul_ne(f:Fd n){a b:Fin n}(c:a≠0)(d:b≠0):a*b≠0:=fun h=>(f.nzd h).elim c d
theorem Fd.eight(f:Fd n):(8:Fin n)≠0:=by
 have e:(8:Fin n)=2*(2*2):=by grobner
 rw[e];exact f.mul_ne f.two (f.mul_ne f.two f.two)
theorem Fd.four(f:Fd n):(4:Fin n)≠0:=by
 have e:(4:Fin n)=2*2:=by grobner
 rw[e];exact f.mul_ne f.two f.two
abbrev Pt(n:Nat):=Option (Fin n×Fin n)
def kL:Pt n→Prop
 |none=>True
 |some p=>p.2*p.2=p.1*p.1*p.1+7
theorem cF{x y:Fin n}(h:kL (some (x,y))):mu y y=cu x:=by
 have a:y*y=x*x*x+7:=h;show y*y=x*(x*x)+ic 7;rw[ic7];grobner
theorem Fd.y_ne(f:Fd n){x y:Fin n}(h:kL (some (x,y))):y≠0:=by
 intro a;have b:y*y=x*x*x+7:=h;rw[a]at b;exact f.cub x (by grobner)
abbrev B8(n:Nat):=Fin n×Fin n×Fin n
def pr:Pt n→B8 n
 |none=>(ic 0,ic 1,ic 0)
 |some p=>(p.1,p.2,ic 1)
def nm(f:Fd n)(t:B8 n):Pt n:=if t.2.2=0 then none else some (t.1*f.inv t.2.2,t.2.1*f.inv t.2.2)
def sum(f:Fd n)(P Q:Pt n):Pt n:=nm f (dB (pr P) (pr Q))
def sc(k:Fin n)(t:B8 n):B8 n:=(k*t.1,k*t.2.1,k*t.2.2)
def nz(t:B8 n):Prop:=¬(t.1=0∧t.2.1=0∧t.2.2=0)
def hc(t:B8 n):Prop:=t.2.1*(t.2.1*t.2.2)=t.1*(t.1*t.1)+7*(t.2.2*(t.2.2*t.2.2))
theorem Ha(k l:Fin n)(u v:B8 n):dB (sc k u) (sc l v)=sc (k*k*(l*l)) (dB u v):=by
 obtain⟨a,b,c⟩:=u;obtain⟨d,e,g⟩:=v;simp only[dB,sc,G7,FK,qG,EQ,G9,QX];refine Prod.ext ?_ (Prod.ext ?_ ?_);dsimp only;grobner;dsimp only;grobner;dsimp only;grobner
theorem ER(u v:B8 n):dB u v=dB v u:=by
 obtain⟨a,b,c⟩:=u;obtain⟨d,e,g⟩:=v;simp only[dB,G7,FK,qG,EQ,G9,QX];refine Prod.ext ?_ (Prod.ext ?_ ?_);dsimp only;grobner;dsimp only;grobner;dsimp only;grobner
theorem x7(f:Fd n)(P Q:Pt n):sum f P Q=sum f Q P:=by rw[sum,sum,ER]
theorem abM(f:Fd n){t:B8 n}(e:hc t)(g:nz t):∃k,k≠0∧t=sc k (pr (nm f t)):=by
 obtain⟨x,y,z⟩:=t;by_cases a:z=0;have b:x=0:=by
  have:x*(x*x)=0:=by
   have d:y*(y*z)=x*(x*x)+7*(z*(z*z)):=e;rw[a]at d;grobner
  rcases f.nzd this with h|h;exact h;exact(f.nzd h).elim id id
 refine⟨y,fun c=>g ⟨b,c,a⟩,?_⟩;simp only[nm,pr,sc,G8,Po,b,a];refine Prod.ext ?_ (Prod.ext ?_ ?_);dsimp only;grobner;dsimp only;grobner;dsimp only;grobner;refine⟨z,a,?_⟩;have j:=f.hinv z a;simp only[nm,if_neg a,pr,sc,Po];generalize f.inv z=i at *;refine Prod.ext ?_ (Prod.ext ?_ ?_);dsimp only;grobner;dsimp only;grobner;dsimp only;grobner
theorem abN(f:Fd n){t:B8 n}(c:hc t):kL (nm f t):=by
 obtain⟨x,y,z⟩:=t;by_cases a:z=0;simp[nm,a,kL];have d:=f.hinv z a;have b:y*(y*z)=x*(x*x)+7*(z*(z*z)):=c;simp only[nm,if_neg a,kL];generalize f.inv z=i at *;have e:(y*(y*z))*(i*i*i)=(x*(x*x)+7*(z*(z*z)))*(i*i*i):=by rw[b]
 grobner
theorem Yt(f:Fd n){A B:Pt n}(g:(pr A).1*(pr B).2.2=(pr A).2.2*(pr B).1)(c:(pr A).2.1*(pr B).2.2=(pr A).2.2*(pr B).2.1):A=B:=by
 cases A with
 | none=>cases B with
  |none=>rfl
  |some b =>
   simp only[pr,G8,Po]at c;exact absurd (by grobner) f.one
 | some a=>cases B with
  |none =>
   simp only[pr,G8,Po]at c;exact absurd (by grobner) f.one
  |some b =>
   obtain⟨x,y⟩:=a;obtain⟨i,h⟩:=b;simp only[pr,Po]at g c;have e:x=i:=by grobner
   have d:y=h:=by grobner
   rw[e,d]
theorem iC(f:Fd n){Q:Pt n}(h:kL Q):sum f none Q=Q:=by
 cases Q with
 |none =>
  have e:(dB (pr (none:Pt n)) (pr none)).2.2=0:=by simp only[dB,pr,G7,FK,G8,Po,qG,EQ,G9,QX];grobner
  rw[sum,nm,if_pos e]
 | some q =>
  obtain⟨x,y⟩:=q;have a:=f.y_ne h;have d:=f.hinv y a;have e:dB (pr (none:Pt n)) (pr (some (x,y)))=(x*y,y*y,y):=by
   simp only[dB,pr,G7,FK,G8,Po,qG,EQ,G9,QX];refine Prod.ext ?_ (Prod.ext ?_ ?_);dsimp only;grobner;dsimp only;grobner;dsimp only;grobner
  rw[sum,nm,e,if_neg a];generalize f.inv y=i at *;have c:x*y*i=x:=by grobner
  have b:y*y*i=y:=by grobner
  simp only[c,b]
theorem lQ(f:Fd n){Q:Pt n}(h:kL Q):sum f Q none=Q:=by rw[x7,iC f h]
theorem Pq(x1 a b c:Fin n)(d:kL (some (x1,a)))(e:kL (some (b,c))):hc (dB (x1,a,ic 1) (b,c,ic 1)):=by
 have h:=abq x1 b x1 a c a (cF d) (cF e) (cF d);simp only[G7,FK,qG,G8,ic7]at h;show _=_;generalize dB (x1,a,ic 1) (b,c,ic 1)=t at *
 grobner
theorem ad9{g w:Fin n}(k:g*(g*g)+7*(w*w*w)+-1*(0*0)=0):g*(g*g)+7*(w*w*w)=0:=by grobner
theorem aea{g w i:Fin n}(a:w*i=1)(b:g*(g*g)+7*(w*w*w)=0):g*i*(g*i)*(g*i)+7=0:=by
 have c:w*w*w*(i*i*i)=1:=by
  have:w*w*w*(i*i*i)=(w*i)*(w*i)*(w*i):=by grobner
  rw[this,a];grobner
 have d:(g*(g*g)+7*(w*w*w))*(i*i*i)=0:=by rw[b];grobner
 grobner
theorem Px(f:Fd n)(x1 c e j:Fin n)(l:kL (some (x1,c)))(p:kL (some (e,j))):nz (dB (x1,c,ic 1) (e,j,ic 1)):=by
 rintro⟨F,A,v⟩;by_cases u:x1=e;subst u;have m:(c-j)*(c+j)=0:=by
  have a:c*c=x1*x1*x1+7:=l;have b:j*j=x1*x1*x1+7:=p
  grobner
 rcases f.nzd m with m|m;have o:j=c:=by grobner
 subst o;have h:=abB x1 x1 x1 j j j (cF l) (cF l) (cF l);simp only[G7,FK,qG,G8,ic8]at h;rw[v]at h;have m:=f.y_ne l;exact f.mul_ne f.eight (f.mul_ne m (f.mul_ne m m)) (by grobner);have o:j=-c:=by grobner
 subst o;have h:=abI x1 x1 x1 c c c (cF l) (cF l) (cF l);have B:mu c (ic (-1))=-c:=by rw[qG,FK];grobner
 rw[B]at h;have k:=abK x1 x1 x1 c c c (cF l) (cF l) (cF l);simp only[G7,FK,qG,G8,QX,ic4,ic7,ic8,abL]at h k;rw[A]at h;have m:=f.y_ne l;have z:=f.mul_ne f.four (f.mul_ne m m);have q:=f.hinv _ z;generalize f.inv (4*(c*c))=i at *;generalize y:3*(x1*x1)*(3*(x1*x1))+-1*(8*(x1*(c*c)))=g at *;generalize G:3*(x1*x1)*(12*(x1*(c*c))+-1*(3*(x1*x1)*(3*(x1*x1))))+-1*(8*(c*c*(c*c)))=kk at *;generalize 4*(c*c)=w at *;have s:kk=0:=by grobner
 rw[s]at k;refine f.cub (g*i) ?_;have p:(g*(g*g)+7*(w*(w*w)))*(i*i*i)=0:=by
  have:g*(g*g)+7*(w*(w*w))=0:=by grobner
  rw[this];grobner
 have D:w*w*w*(i*i*i)=1:=by
  have:w*w*w*(i*i*i)=(w*i)*(w*i)*(w*i):=by grobner
  rw[this,q];grobner
 grobner
 ·have h:=abD x1 e x1 c j c (cF l) (cF p) (cF l);have k:=abG x1 e x1 c j c (cF l) (cF p) (cF l);simp only[G7,FK,qG,G8,ic7]at h k;rw[v]at h;have x:x1+-1*e≠0:=fun h=>u (by grobner);have C:=f.mul_ne x x;have q:=f.hinv _ C;generalize f.inv ((x1+-1*e)*(x1+-1*e))=i at *;generalize E:(c+j)*(x1*((x1+-1*e)*(x1+-1*e))+-1*((c+j)*(c+j)+-1*((x1+e)*((x1+-1*e)*(x1+-1*e)))))+-1*(c*((x1+-1*e)*((x1+-1*e)*(x1+-1*e))))=N at *;generalize y:(c+j)*(c+j)+-1*((x1+e)*((x1+-1*e)*(x1+-1*e)))=g at *;have r:N=0:=by grobner
  rw[r]at k;have t:(x1+-1*e)*((x1+-1*e)*(x1+-1*e))*((x1+-1*e)*((x1+-1*e)*(x1+-1*e)))=((x1+-1*e)*(x1+-1*e))*((x1+-1*e)*(x1+-1*e))*((x1+-1*e)*(x1+-1*e)):=by
   generalize x1+-1*e=d at *
   grobner
  rw[t]at k;generalize(x1+-1*e)*(x1+-1*e)=w at *;exact f.cub (g*i) (aea q (ad9 k))
theorem Yu(f:Fd n)(x1 a b c:Fin n)(d:kL (some (x1,a)))(e:kL (some (b,c))):∃k,k≠0∧dB (x1,a,ic 1) (b,c,ic 1)=sc k (pr (sum f (some (x1,a)) (some (b,c)))) :=
 abM f (Pq x1 a b c d e) (Px f x1 a b c d e)
theorem rK(f:Fd n){P Q:Pt n}(a:kL P)(b:kL Q):kL (sum f P Q):=by
 cases P with
 |none=>rw[iC f b];exact b
 |some p=>cases Q with
  |none=>rw[lQ f a];exact a
  |some q=>exact abN f (Pq _ _ _ _ a b)
theorem x8(f:Fd n){P Q:Pt n}(c:kL P)(b:kL Q):∃k,k≠0∧dB (pr P) (pr Q)=sc k (pr (sum f P Q)):=by
 have one:∀t:B8 n,sc 1 t=t:=fun t=>by
  simp only[sc];refine Prod.ext ?_ (Prod.ext ?_ ?_);dsimp only;grobner;dsimp only;grobner;dsimp only;grobner
 have a:∀{Q:Pt n},kL Q→∃k,k≠0∧dB (pr none) (pr Q)=sc k (pr Q):=by
  intro Q b;cases Q with
  |none =>
   refine⟨1,f.one,?_⟩;simp only[dB,pr,sc,G7,FK,G8,Po,qG,EQ,G9,QX];refine Prod.ext ?_ (Prod.ext ?_ ?_);dsimp only;grobner;dsimp only;grobner;dsimp only;grobner
  |some q =>
   obtain⟨x,y⟩:=q;refine⟨y,f.y_ne b,?_⟩;simp only[dB,pr,sc,G7,FK,G8,Po,qG,EQ,G9,QX];refine Prod.ext ?_ (Prod.ext ?_ ?_);dsimp only;grobner;dsimp only;grobner;dsimp only;grobner
 cases P with
 |none=>rw[iC f b];exact a b
 |some p=>cases Q with
  |none=>rw[lQ f c,ER];exact a c
  |some q=>exact Yu f _ _ _ _ c b
theorem Py(k l:Fin n)(t:B8 n):sc k (sc l t)=sc (k*l) t:=by
 simp only[sc];refine Prod.ext ?_ (Prod.ext ?_ ?_);dsimp only;grobner;dsimp only;grobner;dsimp only;grobner
theorem i7(f:Fd n){P Q R:Pt n}(u:kL P)(k:kL Q)(s:kL R):sum f (sum f P Q) R=sum f P (sum f Q R):=by
 have y:=rK f u k;have x:=rK f k s;have one:∀t:B8 n,sc 1 t=t:=fun t=>by
  simp only[sc];refine Prod.ext ?_ (Prod.ext ?_ ?_);dsimp only;grobner;dsimp only;grobner;dsimp only;grobner
 cases P with
 |none=>rw[iC f k,iC f x]
 | some p=>cases Q with
  |none=>rw[lQ f u,iC f s]
  | some q=>cases R with
   |none=>rw[lQ f y,lQ f k]
   | some r =>
    obtain⟨i,c⟩:=p;obtain⟨d,j⟩:=q;obtain⟨e,g⟩:=r;obtain⟨o,z,U⟩:=x8 f u k;obtain⟨k2,D,S⟩:=x8 f y s;obtain⟨k3,w,L⟩:=x8 f k s;obtain⟨k4,H,M⟩:=x8 f u x;have I:=abm i d e c j g (cF u) (cF k) (cF s);have J:=abo i d e c j g (cF u) (cF k) (cF s);have O:dB (dB (i,c,ic 1) (d,j,ic 1)) (e,g,ic 1)=sc (o*o*(1*1)*k2) (pr (sum f (sum f (some (i,c)) (some (d,j))) (some (e,g)))):=by
     have C:dB (i,c,ic 1) (d,j,ic 1)=sc o (pr (sum f (some (i,c)) (some (d,j)))):=U;have F:dB (pr (sum f (some (i,c)) (some (d,j)))) (e,g,ic 1)=sc k2 (pr (sum f (sum f (some (i,c)) (some (d,j))) (some (e,g)))):=S;rw[C,show((e,g,ic 1):B8 n)=sc 1 (e,g,ic 1)from(one _).symm,Ha,F,Py]
    have N:dB (i,c,ic 1) (dB (d,j,ic 1) (e,g,ic 1))=sc (1*1*(k3*k3)*k4) (pr (sum f (some (i,c)) (sum f (some (d,j)) (some (e,g))))):=by
     have E:dB (d,j,ic 1) (e,g,ic 1)=sc k3 (pr (sum f (some (d,j)) (some (e,g)))):=L;have G:dB (i,c,ic 1) (pr (sum f (some (d,j)) (some (e,g))))=sc k4 (pr (sum f (some (i,c)) (sum f (some (d,j)) (some (e,g))))):=M;rw[E,show((i,c,ic 1):B8 n)=sc 1 (i,c,ic 1)from(one _).symm,Ha,G,Py]
    have K:o*o*(1*1)*k2≠0:=f.mul_ne (f.mul_ne (f.mul_ne z z) (f.mul_ne f.one f.one)) D;have T:1*1*(k3*k3)*k4≠0:=f.mul_ne (f.mul_ne (f.mul_ne f.one f.one) (f.mul_ne w w)) H;rw[O,N]at I J;generalize o*o*(1*1)*k2=l at *;generalize 1*1*(k3*k3)*k4=m at *;generalize sum f (sum f (some (i,c)) (some (d,j))) (some (e,g))=A at *;generalize sum f (some (i,c)) (sum f (some (d,j)) (some (e,g)))=B at *;simp only[sc,G7,FK,qG,G8]at I J;have v:=f.mul_ne K T;refine Yt f ?_ ?_;have:l*m*((pr A).1*(pr B).2.2-(pr A).2.2*(pr B).1)=0:=by
     generalize pr A=a at *;generalize pr B=b at *
     grobner
    rcases f.nzd this with h|h;exact absurd h v;generalize pr A=a at *;generalize pr B=b at *
    grobner
    ·have:l*m*((pr A).2.1*(pr B).2.2-(pr A).2.2*(pr B).2.1)=0:=by
      generalize pr A=a at *;generalize pr B=b at *
      grobner
     rcases f.nzd this with h|h;exact absurd h v;generalize pr A=a at *;generalize pr B=b at *
     grobner
end
end Go.Ec
namespace Go.Ec
open CR
section
variable {n:Nat} [NeZero n]
theorem Uh{c g T x S:Fin n}(k:T*c-g*S=0)(a:x*c=g):c*(T-x*S)=0:=by
 have:c*(T-x*S)=(T*c-g*S)+(g-x*c)*S:=by grobner
 rw[this,k,a];grobner
theorem x9{a b:Fin n}(h:a-b=0):a=b:=by grobner
theorem aeb{x x1 a y m:Fin n}(c:x*(4*(a*a))=m*m-8*(x1*(a*a)))(b:y*(2*a)=m*(x1-x)-a*(2*a)):y*(8*(a*(a*a)))=m*(12*(x1*(a*a))-m*m)-8*(a*a*(a*a)):=by
 have d:y*(8*(a*(a*a)))=(y*(2*a))*(4*(a*a)):=by clear c b;grobner
 have e:(m*(x1-x)-a*(2*a))*(4*(a*a))=m*(x1*(4*(a*a))-x*(4*(a*a)))-8*(a*a*(a*a)):=by clear c b d;grobner
 rw[d,b,e,c];clear c b d e
 grobner
theorem aec{x x1 a y d e g:Fin n}(c:x*(d*d)=g)(b:y*d=e*(x1-x)-a*d):y*(d*(d*d))=e*(x1*(d*d)-g)-a*(d*(d*d)):=by
 have f:y*(d*(d*d))=(y*d)*(d*d):=by clear c b;grobner
 have h:(e*(x1-x)-a*d)*(d*d)=e*(x1*(d*d)-x*(d*d))-a*(d*(d*d)):=by clear c b f;grobner
 rw[f,b,h,c]
theorem Pz(f:Fd n){x1 c d g:Fin n}(l:kL (some (x1,c)))(m:kL (some (d,g))){x y:Fin n}(j:(dB (x1,c,ic 1) (d,g,ic 1)).1=x*(dB (x1,c,ic 1) (d,g,ic 1)).2.2)(k:(dB (x1,c,ic 1) (d,g,ic 1)).2.1=y*(dB (x1,c,ic 1) (d,g,ic 1)).2.2):sum f (some (x1,c)) (some (d,g))=some (x,y):=by
 have o:=Px f x1 c d g l m;have e:sum f (some (x1,c)) (some (d,g))=nm f (dB (x1,c,ic 1) (d,g,ic 1)):=rfl;rw[e];generalize dB (x1,c,ic 1) (d,g,ic 1)=t at *;obtain⟨X,Y,Z⟩:=t;dsimp only at j k;have h:Z≠0:=fun h=>o ⟨by dsimp only;rw[j,h];grobner,by dsimp only;rw[k,h];grobner,h⟩;have p:=f.hinv Z h;rw[nm,if_neg h];generalize f.inv Z=i at *;have a:X*i=x:=by grobner
 have b:Y*i=y:=by grobner
 dsimp only;rw[a,b]
theorem K3(f:Fd n){x1 d c e:Fin n}(i:kL (some (x1,d)))(k:kL (some (c,e)))(g:c-x1≠0){x y:Fin n}
  (m:x*((c-x1)*(c-x1))=(e-d)*(e-d)-(x1+c)*((c-x1)*(c-x1)))
  (o:y*(c-x1)=(e-d)*(x1-x)-d*(c-x1)):sum f (some (x1,d)) (some (c,e))=some (x,y):=by
 have j:=abt x1 c x1 d e d (cF i) (cF k) (cF i);have l:=abv x1 c x1 d e d (cF i) (cF k) (cF i);simp only[G7,FK,qG,G8]at j l;have p:∀a b:Fin n,a+-1*b=a-b:=fun a b=>by grobner
 simp only[p]at j l;refine Pz f i k ?_ ?_;rcases f.nzd (Uh j m)with h|h;exact absurd h (f.mul_ne g g);exact x9 h;rcases f.nzd (Uh l (aec m o))with h|h;exact absurd h (f.mul_ne g (f.mul_ne g g));exact x9 h
theorem He(f:Fd n){x1 c:Fin n}(e:kL (some (x1,c))){x y:Fin n}
  (j:x*(4*(c*c))=3*(x1*x1)*(3*(x1*x1))-8*(x1*(c*c)))
  (k:y*(2*c)=3*(x1*x1)*(x1-x)-c*(2*c)):sum f (some (x1,c)) (some (x1,c))=some (x,y):=by
 have d:=f.y_ne e;have g:=abx x1 x1 x1 c c c (cF e) (cF e) (cF e);have i:=abz x1 x1 x1 c c c (cF e) (cF e) (cF e);simp only[G7,FK,qG,G8,QX,ic4,ic8,abL]at g i;have l:∀a b:Fin n,a+-1*b=a-b:=fun a b=>by grobner
 simp only[l]at g i;refine Pz f e e ?_ ?_;rcases f.nzd (Uh g j)with h|h;exact absurd h (f.mul_ne f.four (f.mul_ne d d));exact x9 h;rcases f.nzd (Uh i (aeb j k))with h|h;exact absurd h (f.mul_ne f.eight (f.mul_ne d (f.mul_ne d d)));exact x9 h
theorem Ui(f:Fd n){x y:Fin n}(a:kL (some (x,y))):sum f (some (x,y)) (some (x,-y))=none:=by
 have:(dB (x,y,ic 1) (x,-y,ic 1)).2.2=0:=by
  simp only[dB,G7,FK,Po,qG,EQ,QX];grobner
 show nm f (dB (x,y,ic 1) (x,-y,ic 1))=none;rw[nm,if_pos this]
def ng:Pt n→Pt n
 |none=>none
 |some p=>some (p.1,-p.2)
def mp(f:Fd n):Nat→Pt n→Pt n
 |0,_=>none
 |k+1,P=>sum f (mp f k P) P
theorem qN(f:Fd n){P:Pt n}(h:kL P):∀k,kL (mp f k P)
 |0=>trivial
 |k+1=>rK f (qN f h k) h
theorem Hf(f:Fd n){P:Pt n}(h:kL P)(a:Nat):∀b,mp f (a+b) P=sum f (mp f a P) (mp f b P)
 |0=>(lQ f (qN f h a)).symm
 |b+1=>by rw[←Nat.add_assoc,mp,Hf f h a b,mp,i7 f (qN f h a) (qN f h b) h]
theorem Hg(f:Fd n){P:Pt n}(h:kL P)(a:Nat):mp f (2*a) P=sum f (mp f a P) (mp f a P):=by rw[Nat.two_mul,Hf f h]
theorem abO(f:Fd n){A B C D:Pt n}(d:kL A)(a:kL B)(b:kL C)(c:kL D):sum f (sum f A B) (sum f C D)=sum f (sum f A C) (sum f B D):=by
 rw[i7 f d a (rK f b c),←i7 f a b c,x7 f B C,i7 f b a c,←i7 f d b (rK f a c)]
def sY(f:Fd n)(x y z:Fin n):Pt n:=if z=0 then none else some (x*(f.inv z*f.inv z),y*(f.inv z*f.inv z*f.inv z))
theorem ES(f:Fd n)(x y:Fin n):sY f x y 0=none:=by simp[sY]
theorem B9(f:Fd n){x y z a b:Fin n}(hz:z≠0)(h:x=a*(z*z))(e:y=b*(z*z*z)):sY f x y z=some (a,b):=by
 have c:=f.hinv z hz;rw[sY,if_neg hz];generalize f.inv z=i at *;have g:x*(i*i)=a:=by
  have:x*(i*i)=a*((z*i)*(z*i)):=by rw[h];grobner
  rw[this,c];grobner
 have d:y*(i*i*i)=b:=by
  have:y*(i*i*i)=b*((z*i)*(z*i)*(z*i)):=by rw[e];grobner
  rw[this,c];grobner
 rw[g,d]
theorem Hh(f:Fd n)(x y:Fin n){z:Fin n}(hz:z≠0):∃a b,x=a*(z*z)∧y=b*(z*z*z)∧sY f x y z=some (a,b):=by
 have e:=f.hinv z hz;have d:x=x*(f.inv z*f.inv z)*(z*z):=by
  have:x*(f.inv z*f.inv z)*(z*z)=x*((z*f.inv z)*(z*f.inv z)):=by grobner
  rw[this,e];grobner
 have c:y=y*(f.inv z*f.inv z*f.inv z)*(z*z*z):=by
  have:y*(f.inv z*f.inv z*f.inv z)*(z*z*z)=y*((z*f.inv z)*(z*f.inv z)*(z*f.inv z)):=by grobner
  rw[this,e];grobner
 exact⟨_,_,d,c,B9 f hz d c⟩
theorem Yv(f:Fd n){a b:Fin n}(k:kL (some (a,b))):∃x y,x*(4*(b*b))=3*(a*a)*(3*(a*a))-8*(a*(b*b))∧y*(2*b)=3*(a*a)*(a-x)-b*(2*b)∧sum f (some (a,b)) (some (a,b))=some (x,y):=by
 have h:=f.y_ne k;have d:=f.hinv _ (f.mul_ne f.four (f.mul_ne h h));have i2:=f.hinv _ (f.mul_ne f.two h);have e:(3*(a*a)*(3*(a*a))-8*(a*(b*b)))*f.inv (4*(b*b))*(4*(b*b))=3*(a*a)*(3*(a*a))-8*(a*(b*b)):=by
  generalize 3*(a*a)*(3*(a*a))-8*(a*(b*b))=g at *;generalize f.inv (4*(b*b))=i at *;generalize 4*(b*b)=c at *;have:g*i*c=g*(c*i):=by clear d i2;grobner
  rw[this,d];clear d i2 this;grobner
 have j:∀g:Fin n,g*f.inv (2*b)*(2*b)=g:=by
  intro g;generalize f.inv (2*b)=i at *;generalize 2*b=c at *;have:g*i*c=g*(c*i):=by clear d i2 e;grobner
  rw[this,i2];clear d i2 this e;grobner
 exact⟨_,_,e,j _,He f k e (j _)⟩
theorem aed{a b z x y:Fin n}(e:x*(4*(b*b))=3*(a*a)*(3*(a*a))-8*(a*(b*b)))(c:y*(2*b)=3*(a*a)*(a-x)-b*(2*b)) :
  3*(a*(z*z)*(a*(z*z)))*(3*(a*(z*z)*(a*(z*z))))-2*(4*(a*(z*z)*(b*(z*z*z)*(b*(z*z*z)))))=x*(2*(b*(z*z*z)*z)*(2*(b*(z*z*z)*z))) ∧
  3*(a*(z*z)*(a*(z*z)))*(4*(a*(z*z)*(b*(z*z*z)*(b*(z*z*z))))-x*(2*(b*(z*z*z)*z)*(2*(b*(z*z*z)*z))))-8*(b*(z*z*z)*(b*(z*z*z))*(b*(z*z*z)*(b*(z*z*z))))=y*(2*(b*(z*z*z)*z)*(2*(b*(z*z*z)*z))*(2*(b*(z*z*z)*z))):=by
 refine⟨?_,?_⟩;have d:x*(2*(b*(z*z*z)*z)*(2*(b*(z*z*z)*z)))=(x*(4*(b*b)))*(z*z*z*z*(z*z*z*z)):=by clear e c;grobner
 rw[d,e];clear e c d
 grobner
 ·have d:y*(2*(b*(z*z*z)*z)*(2*(b*(z*z*z)*z))*(2*(b*(z*z*z)*z)))=(y*(2*b))*(4*(b*b))*(z*z*z*z*(z*z*z*z)*(z*z*z*z)):=by clear e c;grobner
  rw[d,c];clear e c d
  grobner
theorem ya(f:Fd n){x y z:Fin n}(hz:z≠0)(d:kL (sY f x y z)) :
  2*(y*z)≠0∧y≠0∧sY f (3*(x*x)*(3*(x*x))-2*(4*(x*(y*y)))) (3*(x*x)*(4*(x*(y*y))-(3*(x*x)*(3*(x*x))-2*(4*(x*(y*y)))))-8*(y*y*(y*y))) (2*(y*z))=sum f (sY f x y z) (sY f x y z):=by
 obtain⟨a,b,j,g,e⟩:=Hh f x y hz;rw[e]at d⊢;have o:=f.y_ne d;have c:y≠0:=by
  rw[g];exact f.mul_ne o (f.mul_ne (f.mul_ne hz hz) hz)
 have h:2*(y*z)≠0:=f.mul_ne f.two (f.mul_ne c hz);refine⟨h,c,?_⟩;obtain⟨X,Y,l,m,k⟩:=Yv f d;obtain⟨i,p⟩:=aed (z:=z) l m;rw[k];subst j g;exact B9 f h i (by rw[i];exact p)
theorem PD(f:Fd n){x1 b a d:Fin n}(k:kL (some (x1,b)))(l:kL (some (a,d)))(h:a-x1≠0):∃x y,x*((a-x1)*(a-x1))=(d-b)*(d-b)-(x1+a)*((a-x1)*(a-x1))∧y*(a-x1)=(d-b)*(x1-x)-b*(a-x1)∧sum f (some (x1,b)) (some (a,d))=some (x,y):=by
 have i2:=f.hinv _ h;have e:∀g:Fin n,g*f.inv (a-x1)*(a-x1)=g:=by
  intro g;generalize f.inv (a-x1)=i at *;generalize a-x1=c at *;have:g*i*c=g*(c*i):=by clear i2;grobner
  rw[this,i2];clear i2 this;grobner
 have j:∀g:Fin n,g*(f.inv (a-x1)*f.inv (a-x1))*((a-x1)*(a-x1))=g:=by
  intro g;generalize f.inv (a-x1)=i at *;generalize a-x1=c at *;have:g*(i*i)*(c*c)=g*((c*i)*(c*i)):=by clear i2 e;grobner
  rw[this,i2];clear i2 this e;grobner
 exact⟨_,_,j _,e _,K3 f k l h (j _) (e _)⟩
theorem aee{a b a' b' z z' x y:Fin n}(i:x*((a'-a)*(a'-a))=(b'-b)*(b'-b)-(a+a')*((a'-a)*(a'-a)))(j:y*(a'-a)=(b'-b)*(a-x)-b*(a'-a)){p u2 q s h r:Fin n}
  (c:p=a*(z*z)*(z'*z')) (e:u2=a'*(z'*z')*(z*z)) (d:q=b*(z*z*z)*(z'*z'*z')) (f:s=b'*(z'*z'*z')*(z*z*z)) (l:h=u2-p) (m:r=s-q) :
  r*r-h*h*h-2*(p*(h*h))=x*(h*(z*z')*(h*(z*z')))∧r*(p*(h*h)-x*(h*(z*z')*(h*(z*z'))))-q*(h*h*h)=y*(h*(z*z')*(h*(z*z'))*(h*(z*z'))):=by
 have g:h=(a'-a)*(z*z*(z'*z')):=by rw[l,c,e];clear i j;grobner
 have k:r=(b'-b)*(z*z*z*(z'*z'*z')):=by rw[m,d,f];clear i j g;grobner
 refine⟨?_,?_⟩;have o:x*(h*(z*z')*(h*(z*z')))=(x*((a'-a)*(a'-a)))*(z*z*z*(z'*z'*z')*(z*z*z*(z'*z'*z'))):=by rw[g];clear i j g k l m c e d f;grobner
 rw[o,i,g,k,c];clear i j o g k l m c e d f
 grobner
 ·have o:y*(h*(z*z')*(h*(z*z'))*(h*(z*z')))=(y*(a'-a))*((a'-a)*(a'-a))*(z*z*z*(z'*z'*z')*(z*z*z*(z'*z'*z'))*(z*z*z*(z'*z'*z'))):=by rw[g];clear i j g k l m c e d f;grobner
  rw[o,j,g,k,c,d];clear i j o g k l m c e d f
  grobner
theorem PE(f:Fd n){x y z D F z' G u2 M P h r:Fin n}(hz:z≠0)(m:z'≠0)(p:kL (sY f x y z))(c:kL (sY f D F z'))
  (k:G=x*(z'*z')) (g:u2=D*(z*z)) (j:M=y*(z'*z'*z')) (l:P=F*(z*z*z)) (A:h=u2-G) (B:r=P-M) :
  (h≠0→sY f (r*r-h*h*h-2*(G*(h*h))) (r*(G*(h*h)-(r*r-h*h*h-2*(G*(h*h))))-M*(h*h*h)) (h*(z*z'))=sum f (sY f x y z) (sY f D F z')) ∧
  (h=0→r=0→sY f x y z=sY f D F z')∧(h=0→r≠0→sum f (sY f x y z) (sY f D F z')=none):=by
 obtain⟨a,b,u,v,e⟩:=Hh f x y hz;obtain⟨s,o,i,d,w⟩:=Hh f D F m;rw[e]at p⊢;rw[w]at c⊢;rw[u]at k;rw[i]at g;rw[v]at j;rw[d]at l;have t:h=(s-a)*(z*z*(z'*z')):=by rw[A,k,g];clear u v i d e w p c;grobner
 have C:r=(o-b)*(z*z*z*(z'*z'*z')):=by rw[B,j,l];clear u v i d e w p c t;grobner
 have I:=f.mul_ne (f.mul_ne hz hz) (f.mul_ne m m);have H:=f.mul_ne (f.mul_ne (f.mul_ne hz hz) hz) (f.mul_ne (f.mul_ne m m) m);refine⟨fun E=>?_,fun E O=>?_,fun E O=>?_⟩;have V:s-a≠0:=fun q=>E (by rw[t,q];clear u v i d e w p c t C k g j l A B;grobner);obtain⟨X,Y,W,Z,T⟩:=PD f p c V;obtain⟨S,a2⟩:=aee (z:=z) (z':=z') W Z k g j l A B;rw[T];exact B9 f (f.mul_ne E (f.mul_ne hz m)) S (by rw[S];exact a2);have N:s-a=0:=(f.nzd (t.symm.trans E)).resolve_right I;have L:o-b=0:=(f.nzd (C.symm.trans O)).resolve_right H;rw[x9 N,x9 L];have N:s-a=0:=(f.nzd (t.symm.trans E)).resolve_right I;have L:o-b≠0:=fun q=>O (by rw[C,q];clear u v i d e w p c t C k g j l A B;grobner);have U:=x9 N;subst U;have J:b*b=s*s*s+7:=p;have K:o*o=s*s*s+7:=c;have Q:(o-b)*(o+b)=0:=by
  have:(o-b)*(o+b)=o*o-b*b:=by clear u v i d e w p c t C k g j l A B J K;grobner
  rw[this,J,K];clear u v i d e w p c t C k g j l A B J K this;grobner
 have h4:o+b=0:=(f.nzd Q).resolve_left L;have h5:o=-b:=by clear u v i d e w p c t C k g j l A B J K Q;grobner
 rw[h5];exact Ui f p
end
end Go.Ec
namespace Go.Ec
def Prm(r:Nat):Prop:=2≤r∧∀d,d∣r→d=1∨d=r
theorem Prm.cop{r a:Nat}(h:Prm r)(c:¬r∣a):Nat.Coprime r a:=by
 have b:=Nat.gcd_dvd_left r a;rcases h.2 _ b with e|e;exact e;exact absurd (e▸Nat.gcd_dvd_right r a) c
theorem Prm.mul{r a b:Nat}(h:Prm r)(d:r∣a*b):r∣a∨r∣b:=by
 by_cases c:r∣a;exact .inl c;exact .inr ((h.cop c).dvd_of_dvd_mul_left d)
theorem PG:∀(k n:Nat),n≤k→2≤n→∃r,Prm r∧r∣n
 |0,n,h1,h2=>by omega
 | k+1,n,h1,h2=>by
  by_cases h:∃d,d∣n∧d≠1∧d≠n;obtain⟨d,a,j,m⟩:=h;have b:0<n:=aq;have i:=Nat.le_of_dvd b a;have o:d≠0:=fun e=>by subst e;have:=Nat.eq_zero_of_zero_dvd a;omega
  obtain⟨r,l,c⟩:=PG k d aq aq;exact⟨r,l,Nat.dvd_trans c a⟩;refine⟨n,⟨h2,fun d a=>?_⟩,Nat.dvd_refl n⟩;by_cases g:d=1;exact .inl g;by_cases f:d=n;exact .inr f;exact absurd ⟨d,a,g,f⟩ h
def ch:Nat→Nat→Nat
 |_,0=>1
 |0,_+1=>0
 |n+1,k+1=>ch n k+ch n (k+1)
theorem I7:∀n k,n<k→ch n k=0
 |0,k+1,_=>rfl
 |n+1,k+1,h=>by rw[ch,I7 n k aq,I7 n (k+1) aq]
theorem I8:∀n,ch n n=1
 |0=>rfl
 |n+1=>by rw[ch,I8 n,I7 n (n+1) aq]
theorem Cb:∀n k,(k+1)*ch (n+1) (k+1)=(n+1)*ch n k
 |0,0=>rfl
 |0,k+1=>by simp[ch]
 |n+1,0=>by
  have h:=Cb n 0;have e:ch (n+2) 1=ch (n+1) 0+ch (n+1) 1:=rfl;have f:ch (n+1) 0=1:=rfl;have b:ch n 0=1:=by cases n<;>rfl
  rw[f]at e;rw[b]at h;rw[Nat.zero_add,Nat.one_mul,Nat.mul_one]at h;show 1*ch (n+2) 1=(n+1+1)*1;omega
 |n+1,k+1=>by
  have c:=Cb n k;have d:=Cb n (k+1);have e:ch (n+2) (k+2)=ch (n+1) (k+1)+ch (n+1) (k+2):=rfl;have a:ch (n+1) (k+1)=ch n k+ch n (k+1):=rfl;show(k+2)*ch (n+2) (k+2)=(n+2)*ch (n+1) (k+1);rw[e,Nat.mul_add,show(k+2)*ch (n+1) (k+2)=(n+1)*ch n (k+1)from d];have:(k+2)*ch (n+1) (k+1)=(k+1)*ch (n+1) (k+1)+ch (n+1) (k+1):=by rw[show k+2=(k+1)+1 from rfl,Nat.add_mul,Nat.one_mul]
  rw[this,c,a,show n+2=(n+1)+1 from rfl,Nat.add_mul (n+1) 1,Nat.one_mul,Nat.mul_add];omega
def sm(f:Nat→Nat):Nat→Nat
 |0=>0
 |k+1=>sm f k+f k
theorem sZ(f:Nat→Nat):∀k,sm f (k+1)=f 0+sm (fun j=>f (j+1)) k
 |0=>by simp[sm]
 |k+1=>by rw[sm,sZ f k,sm];omega
theorem PH(f g:Nat→Nat):∀k,sm (fun j=>f j+g j) k=sm f k+sm g k
 |0=>rfl
 |k+1=>by rw[sm,PH f g k,sm,sm];omega
theorem PI(c:Nat)(f:Nat→Nat):∀k,sm (fun j=>f j*c) k=sm f k*c
 |0=>by simp[sm]
 |k+1=>by rw[sm,PI c f k,sm,Nat.add_mul]
theorem I9{f g:Nat→Nat}:∀k,(∀j,j<k→f j=g j)→sm f k=sm g k
 |0,_=>rfl
 |k+1,h=>by rw[sm,sm,I9 k fun j a=>h j aq,h k aq]
theorem V0(a:Nat):∀n,(a+1) ^ n=sm (fun k=>ch n k*a ^ k) (n+1)
 |0=>by simp[sm,ch]
 | n+1=>by
  rw[Nat.pow_succ,V0 a n];rw[sZ (fun k=>ch (n+1) k*a ^ k) (n+1)];have b:sm (fun j=>ch (n+1) (j+1)*a ^ (j+1)) (n+1)=sm (fun j=>ch n j*a ^ j*a) (n+1)+sm (fun j=>ch n (j+1)*a ^ (j+1)) (n+1):=by
   rw[←PH];refine I9 _ fun j _=>?_;show(ch n j+ch n (j+1))*a ^ (j+1)=_;rw[Nat.add_mul,Nat.pow_succ,Nat.mul_assoc]
  rw[b,PI];have c:sm (fun j=>ch n (j+1)*a ^ (j+1)) (n+1)+ch (n+1) 0*a ^ 0=sm (fun k=>ch n k*a ^ k) (n+1):=by
   rw[sZ (fun k=>ch n k*a ^ k) n,sm,I7 n (n+1) aq];have:ch n 0=1:=by cases n<;>rfl
   simp only[this,ch,Nat.zero_mul,Nat.add_zero];omega
  rw[Nat.mul_add,Nat.mul_one];omega
theorem PK(r:Nat)(f:Nat→Nat):∀k,(∀j,j<k→r∣f j)→r∣sm f k
 |0,_=>Nat.dvd_zero r
 |k+1,h=>Nat.dvd_add (PK r f k fun j a=>h j aq) (h k aq)
theorem Yw{r k:Nat}(h:Prm r)(d:0<k)(e:k<r):r∣ch r k:=by
 obtain⟨k,rfl⟩:∃j,k=j+1:=⟨k-1,aq⟩;obtain⟨s,rfl⟩:∃j,r=j+1:=⟨r-1,aq⟩;have c:=Cb s k;have b:(s+1)∣(k+1)*ch (s+1) (k+1):=⟨_,c⟩;rcases h.mul b with a|a;have:=Nat.le_of_dvd aq a;omega;exact a
theorem Ja{r:Nat}(h:Prm r):∀a,a ^ r%r=a%r
 |0=>by rw[Nat.zero_pow (by have:=h.1;omega)]
 |a+1=>by
  obtain⟨s,rfl⟩:∃j,r=j+1:=⟨r-1,by have:=h.1;omega⟩;have d:=Ja h a;rw[V0,sm,I8,Nat.one_mul,sZ];have b:ch (s+1) 0*a ^ 0=1:=by simp[ch]
  obtain⟨t,c⟩:=PK (s+1) (fun j=>ch (s+1) (j+1)*a ^ (j+1)) s fun j e=>Nat.dvd_trans (Yw h aq aq) ⟨_,rfl⟩;rw[b,c];have:(1+(s+1)*t+a ^ (s+1))=(a ^ (s+1)+1)+(s+1)*t:=aq;rw[this,Nat.add_mul_mod_self_left,Nat.add_mod,d,←Nat.add_mod]
theorem Hi{r:Nat}(h:Prm r){a:Nat}(f:¬r∣a):a ^ (r-1)%r=1:=by
 have m:=h.1;have k:=Ja h a;obtain⟨s,rfl⟩:∃j,r=j+1:=⟨r-1,aq⟩;rw[Nat.add_sub_cancel];by_cases g:a=0;subst g;exact absurd (Nat.dvd_zero _) f;have o:0<a ^ s:=Nat.pow_pos aq;have e:∀b c:Nat,c≤b→b%(s+1)=c%(s+1)→(s+1)∣b-c:=fun b c l h=>by
  have q:=Nat.div_add_mod b (s+1);have m:=Nat.div_add_mod c (s+1);refine⟨b/(s+1)-c/(s+1),?_⟩;rw[Nat.mul_sub];omega
 have i:(s+1)∣a*(a ^ s-1):=by
  rw[Nat.mul_sub,Nat.mul_one,Nat.mul_comm,←Nat.pow_succ];exact e _ _ (Nat.le_self_pow aq a) k
 rcases h.mul i with d|d;exact absurd d f;obtain⟨t,p⟩:=d;have:a ^ s=1+(s+1)*t:=aq;rw[this,Nat.add_mul_mod_self_left,Nat.mod_eq_of_lt aq]
theorem bez:∀(k a b:Nat),a+b≤k→0<a→0<b→Nat.gcd a b=1→∃s t,a*s=1+b*t
 |0,a,b,h,ha,hb,_=>by omega
 | k+1,a,b,h,ha,hb,hg=>by
  by_cases d:b=1;subst d;exact⟨1,a-1,aq⟩;by_cases c:a=1;subst c;exact⟨1,0,aq⟩;rcases Nat.lt_trichotomy a b with f|f|f;obtain⟨s,t,e⟩:=bez k a (b-a) aq ha aq (by rw[Nat.gcd_sub_self_right aq];exact hg);refine⟨s+t,t,?_⟩;have:b*t=(b-a)*t+a*t:=by rw[←Nat.add_mul];congr 1;omega
  rw[Nat.mul_add,e,this,Nat.add_assoc];subst f;rw[Nat.gcd_self]at hg;omega;obtain⟨s,t,e⟩:=bez k (a-b) b aq aq hb (by rw[Nat.gcd_sub_self_left aq];exact hg);refine⟨s,t+s,?_⟩;have:a*s=(a-b)*s+b*s:=by rw[←Nat.add_mul];congr 1;omega
  rw[this,e,Nat.mul_add,Nat.add_assoc]
theorem yb{b r:Nat}(a:2≤r)(h:b%r=1):∀t,b ^ t%r=1
 |0=>by rw[Nat.pow_zero,Nat.mod_eq_of_lt aq]
 |t+1=>by rw[Nat.pow_succ,Nat.mul_mod,yb a h t,h,Nat.mul_one,Nat.mod_eq_of_lt aq]
theorem abP{N q R a:Nat}(hq:Prm q)(v:N=q*R+1)(m:a ^ (q*R)%N=1)(o:Nat.gcd (a ^ R%N-1) N=1)(p:a ^ R%N≠0){r:Nat}(k:Prm r)(j:r∣N):q∣r-1:=by
 by_cases h:q∣r-1;exact h;exfalso;have b:=k.1;have hc:=hq.cop h;obtain⟨s,t,d⟩:=bez _ q (r-1) (cR _) (by have:=hq.1;omega) aq hc;have mm:∀x,x%N%r=x%r:=fun x=>Nat.mod_mod_of_dvd x j;have g:a ^ (q*R)%r=1:=by rw[←mm,m,Nat.mod_eq_of_lt aq]
 have e:¬r∣a ^ R:=by
  intro ⟨c,hc⟩;rw[Nat.mul_comm,Nat.pow_mul,Nat.pow_mod,hc,Nat.mul_mod_right,Nat.zero_pow (by have:=hq.1;omega)]at g;rw[Nat.zero_mod]at g;omega
 have f:=Hi k e;have i:(a ^ R) ^ (q*s)%r=1:=by
  rw[←Nat.pow_mul,←Nat.mul_assoc,Nat.mul_comm R q,Nat.pow_mul];exact yb b g s
 rw[d,Nat.pow_add,Nat.pow_one,Nat.pow_mul,Nat.mul_mod,yb b f t,Nat.mul_one,Nat.mod_mod]at i;have u:(a ^ R%N)%r=1:=by rw[mm];exact i
 have l:r∣a ^ R%N-1:=by
  have:=Nat.div_add_mod (a ^ R%N) r;exact⟨a ^ R%N/r,aq⟩
 have:=Nat.dvd_gcd l j;rw[o]at this;have:=Nat.le_of_dvd aq this;omega
theorem abQ{N F:Nat}(p:2≤N)(y:N<F*F)(h:∀r,Prm r→r∣N→F∣r-1):Prm N:=by
 refine⟨p,fun d m=>?_⟩;by_cases o:d=1;exact .inl o;by_cases s:d=N;exact .inr s;exfalso;obtain⟨e,c⟩:=m;have k:d≠0:=fun q=>by subst q;simp at c;omega
 have j:e≠0:=fun q=>by subst q;simp at c;omega
 have t:e≠1:=fun q=>by subst q;simp at c;omega
 have a:∀x,x∣N→2≤x→F<x:=by
  intro x i f;obtain⟨r,g,b⟩:=PG x x (cR _) f;have l:=h r g (Nat.dvd_trans b i);have v:=Nat.le_of_dvd (by have:=g.1;omega) l;have w:=Nat.le_of_dvd aq b;have:=g.1;omega
 have u:=a d ⟨e,c⟩ aq;have b2:=a e ⟨d,by rw[Nat.mul_comm];exact c⟩ aq;have:F*F≤d*e:=Nat.mul_le_mul aq aq;omega
theorem aeg{q F m:Nat}(hq:Prm q)(a:q∣m)(b:F∣m)(h:¬q∣F):F*q∣m:=by
 obtain⟨c,hc⟩:=b;rw[hc]at a;rcases hq.mul a with f|⟨e,d⟩;exact absurd f h;exact⟨e,by rw[hc,d,Nat.mul_assoc]⟩
def vj{α:Type}(n:Nat)(k:Nat→α):α:=Nat.rec (k 0) (fun m _=>k (m+1)) n
theorem lw{α:Type}(n:Nat)(k:Nat→α):vj n k=k n:=by cases n<;>rfl
def Yx(N:Nat):Nat→Nat→Nat→Nat→Nat
 |0,_,_,acc=>acc
 |f+1,a,e,acc=>bif e.beq 0 then acc else vj (a*a%N) fun d=>vj (e/2) fun b=>vj (bif (e%2).beq 1 then acc*a%N else acc) fun c=>Yx N f d b c
theorem uw(N:Nat):∀(f a e b:Nat),e<2 ^ f→b%N=b→Yx N f a e b=b*a ^ e%N
 |0,a,e,b,h,hm=>by
  have:e=0:=aq;subst this;rw[Yx,Nat.pow_zero,Nat.mul_one,hm]
 | f+1,a,e,b,h,hm=>by
  rw[Yx];by_cases i:e=0;subst i;show b=_;rw[Nat.pow_zero,Nat.mul_one,hm];have d:e.beq 0=false:=Bool.eq_false_iff.2 fun q=>i (Nat.eq_of_beq_eq_true q);rw[d,cond_false,lw,lw,lw];have j:e/2<2 ^ f:=by rw[Nat.pow_succ]at h;omega
  have c:(a*a%N) ^ (e/2)%N=a ^ (2*(e/2))%N:=by rw[←Nat.pow_mod,Nat.pow_mul,Nat.pow_two]
  rcases Nat.mod_two_eq_zero_or_one e with g|g;have d:(e%2).beq 1=false:=by rw[g];rfl
  rw[d,cond_false,uw N f _ _ _ j hm,Nat.mul_mod,c,←Nat.mul_mod,show 2*(e/2)=e by omega];have d:(e%2).beq 1=true:=by rw[g];rfl
  rw[d,cond_true,uw N f _ _ _ j (Nat.mod_mod _ _),Nat.mul_mod,c,Nat.mod_mod,←Nat.mul_mod,Nat.mul_assoc,Nat.mul_comm a,←Nat.pow_succ,Nat.succ_eq_add_one,show 2*(e/2)+1=e by omega]
def tri(N:Nat):Nat→Nat→Bool
 |0,d=>Nat.blt N (d*d)
 |f+1,d=>bif Nat.blt N (d*d)then true else bif (N%d).beq 0 then false else vj (d+1) fun a=>tri N f a
theorem PL(N:Nat):∀f d,tri N f d=true→(∀x,2≤x→x<d→¬x∣N)→∀x,2≤x→x*x≤N→¬x∣N
 |0,d,h,hd,x,h2,hx=>hd x h2 (by
  have g:Nat.blt N (d*d)=true:=h;have:=Nat.le_of_ble_eq_true g;rcases Nat.lt_or_ge x d with q|q;exact q
  have:=Nat.mul_le_mul q q;omega)
 | f+1,d,h,hd,x,h2,hx=>by
  rw[tri]at h;cases c:Nat.blt N (d*d)with
  |true =>
   refine hd x h2 ?_;have:=Nat.le_of_ble_eq_true c;rcases Nat.lt_or_ge x d with q|q;exact q;have:=Nat.mul_le_mul q q;omega
  | false =>
   rw[c,cond_false]at h;cases a:(N%d).beq 0 with
   |true=>rw[a,cond_true]at h;cases h
   | false =>
    rw[a,cond_false,lw]at h;refine PL N f (d+1) h (fun y e i=>?_) x h2 hx;rcases Nat.lt_or_ge y d with q|q;exact hd y e q;have:y=d:=aq;subst this;intro b;have:N%y=0:=Nat.mod_eq_zero_of_dvd b;rw[this]at a;cases a
theorem Cc{N:Nat}(f:Nat)(m:2≤N)(h:tri N f 2=true):Prm N:=by
 have b:=PL N f 2 h (fun x c g=>aq);refine⟨m,fun d i=>?_⟩;by_cases c:d=1;exact .inl c;by_cases g:d=N;exact .inr g;exfalso;obtain⟨e,a⟩:=i;have l:d≠0:=fun q=>by subst q;simp at a;omega
 have j:e≠0:=fun q=>by subst q;simp at a;omega
 have k:e≠1:=fun q=>by subst q;simp at a;omega
 rcases Nat.le_total d e with q|q;exact b d aq (by rw[a];exact Nat.mul_le_mul_left _ q) ⟨e,a⟩;exact b e aq (by rw[a];exact d_ _ q) ⟨d,by rw[Nat.mul_comm];exact a⟩
def pkB(N:Nat):List (Nat×Nat)→Bool
 |[]=>true
 |p::l=>vj ((N-1)/p.1) fun R=>(p.1*R+1).beq N&&(Yx N 300 p.2 (N-1) 1).beq 1&&(vj (Yx N 300 p.2 R 1) fun b=>!b.beq 0&&(Nat.gcd (b-1) N).beq 1)&&pkB N l
def ZM(l:List (Nat×Nat)):Nat:=l.foldr (fun p a=>a*p.1) 1
def Uj:List (Nat×Nat)→Bool
 |[]=>true
 |p::l=>!((ZM l%p.1).beq 0)&&Uj l
theorem V1{N:Nat}(v:2≤N)(j:N<2 ^ 300):∀l:List (Nat×Nat),(∀p,p∈l→Prm p.1)→pkB N l=true→Uj l=true→∀r,Prm r→r∣N→ZM l∣r-1
 |[],_,_,_,r,_,_=>Nat.one_dvd _
 |p::l,hp,h,hdi,r,hr,hd=>by
  rw[pkB,lw,lw]at h;simp only[Bool.and_eq_true]at h;obtain⟨⟨⟨g,d⟩,f,c⟩,s⟩:=h;have g:=Nat.eq_of_beq_eq_true g;have d:=Nat.eq_of_beq_eq_true d;have c:=Nat.eq_of_beq_eq_true c;have i:1%N=1:=Nat.mod_eq_of_lt aq;rw[uw N 300 _ _ _ aq i,Nat.one_mul]at d;have u:(N-1)/p.1≤N-1:=Nat.div_le_self _ _;rw[uw N 300 _ _ _ aq i,Nat.one_mul]at f c;have b:(!((ZM l%p.1).beq 0)&&Uj l)=true:=hdi;rw[Bool.and_eq_true]at b;have e:N-1=p.1*((N-1)/p.1):=aq;have o:=abP (N:=N) (q:=p.1) (R:=(N-1)/p.1) (a:=p.2) (hp p aw) g.symm (by rw[←e];exact d) c (fun q=>by rw[q]at f;cases f) hr hd;refine aeg (hp p aw) o (V1 v j l (fun x k=>hp x (by simp[k])) s b.2 r hr hd) fun t=>?_;have m:ZM l%p.1=0:=Nat.mod_eq_zero_of_dvd t;rw[m]at b
  cases b.1
theorem Hj{N:Nat}(l:List (Nat×Nat))(a:2≤N)(d:N<2 ^ 300)(hp:∀p,p∈l→Prm p.1)(h:pkB N l=true)(b:Uj l=true)(c:N<ZM l*ZM l):Prm N :=
 abQ a c (V1 a d l hp h b)
end Go.Ec
namespace Go.Ec
theorem aeh:Prm 107590001:=Cc 10377 aq (by kernel_rfl)
theorem aei:Prm 7240687:=Cc 2695 aq (by kernel_rfl)
theorem aej:Prm 96557:=Cc 315 aq (by kernel_rfl)
theorem aek:Prm 255515944373312847190720520512484175977:=Hj ((107590001,2)::(7240687,2)::(96557,2)::[]) aq aq (fun p a=>by
 simp only[et,List.not_mem_nil,or_false]at a;rcases a with rfl|rfl|rfl;exact aeh;exact aei;exact aej
 ) (by kernel_rfl) (by kernel_rfl) (Nat.le_of_ble_eq_true (by kernel_rfl))
theorem ael:Prm 205115282021455665897114700593932402728804164701536103180137503955397371:=Hj ((255515944373312847190720520512484175977,2)::[]) aq aq (fun p a=>by
 simp only[et,List.not_mem_nil,or_false]at a
 subst a;exact aek) (by kernel_rfl) (by kernel_rfl) (Nat.le_of_ble_eq_true (by kernel_rfl))
theorem aem:Prm 115792089237316195423570985008687907853269984665640564039457584007908834671663:=Hj ((205115282021455665897114700593932402728804164701536103180137503955397371,2)::[]) aq aq (fun p a=>by
 simp only[et,List.not_mem_nil,or_false]at a
 subst a;exact ael) (by kernel_rfl) (by kernel_rfl) (Nat.le_of_ble_eq_true (by kernel_rfl))
theorem Uk:Prm 115792089237316195423570985008687907853269984665640564039457584007908834671663:=aem
end Go.Ec
namespace Go.Ec
section
theorem vC{n:Nat}(a b:Fin n):(a*b).val=a.val*b.val%n:=Fin.val_mul a b
theorem K4{n:Nat}(a b:Fin n):(a+b).val=(a.val+b.val)%n:=Fin.val_add a b
variable {n:Nat} [hz:NeZero n]
def aen(hp:Prm n)(h8:8≤n)(h3:3*((n-1)/3)=n-1)(hc:(n-7) ^ ((n-1)/3)%n≠1):Fd n where
 inv a:=⟨a.val ^ (n-2)%n,Nat.mod_lt _ aq⟩
 hinv:=fun a ha=>by
  have hv:a.val≠0:=fun h=>ha (Fin.ext (by rw[h];rfl));have hd:¬n∣a.val:=fun h=>by have:=Nat.le_of_dvd aq h;have:=a.isLt;omega
  have hf:=Hi hp hd;refine Fin.ext ?_;rw[vC];show a.val*(a.val ^ (n-2)%n)%n=1%n;rw[Nat.mul_mod,Nat.mod_mod,←Nat.mul_mod,Nat.mul_comm,←Nat.pow_succ,show(n-2).succ=n-1 by omega,hf,Nat.mod_eq_of_lt aq]
 inv0:=by
  refine Fin.ext ?_;show(0%n) ^ (n-2)%n=0%n;rw[Nat.zero_mod,Nat.zero_pow aq,Nat.zero_mod]
 one:=fun h=>by
  have:=congrArg Fin.val h;have h':1%n=0%n:=this;rw[Nat.mod_eq_of_lt aq,Nat.zero_mod]at h';omega
 two:=fun h=>by
  have:=congrArg Fin.val h;have h':2%n=0%n:=this;rw[Nat.mod_eq_of_lt aq,Nat.zero_mod]at h';omega
 cub:=fun x h=>by
  have hv:=congrArg Fin.val h;rw[K4,vC,vC]at hv;have hv':(x.val*x.val%n*x.val%n+7%n)%n=0%n:=hv;rw[Nat.zero_mod,←Nat.add_mod,Nat.add_mod,Nat.mod_mul_mod,←Nat.add_mod]at hv';have hd:n∣x.val*x.val*x.val+7:=Nat.dvd_of_mod_eq_zero hv'
  have hx:¬n∣x.val:=fun q=>by
   have hq:n∣x.val*x.val*x.val:=Nat.dvd_trans q ⟨x.val*x.val,by rw[Nat.mul_assoc]⟩;have:=(Nat.dvd_add_right hq).1 hd;have:=Nat.le_of_dvd aq this;omega
  have e:x.val*x.val*x.val%n=n-7:=by
   obtain⟨t,ht⟩:=hd;have ht0:t≠0:=fun q=>by subst q;omega
   obtain⟨s,rfl⟩:∃s,t=s+1:=⟨t-1,aq⟩;have:x.val*x.val*x.val=(n-7)+n*s:=by rw[Nat.mul_add]at ht;omega
   rw[this,Nat.add_mul_mod_self_left,Nat.mod_eq_of_lt aq]
  apply hc;have p3:x.val*x.val*x.val=x.val ^ 3:=by rw[Nat.pow_succ,Nat.pow_succ,Nat.pow_one]
  rw[←e,p3,←Nat.pow_mod,←Nat.pow_mul,h3];exact Hi hp hx
end
def pP:Nat:=115792089237316195423570985008687907853269984665640564039457584007908834671663
theorem yc:pP=115792089237316195423570985008687907853269984665640564039457584007908834671663:=rfl
theorem Yy:Prm pP:=Uk
theorem Yz:(pP-7) ^ ((pP-1)/3)%pP≠1:=by
 have h:=uw pP 300 (pP-7) ((pP-1)/3) 1 (by rw[yc];omega) (Nat.mod_eq_of_lt (Nat.le_of_ble_eq_true (by kernel_rfl)));rw[Nat.one_mul]at h;rw[←h];exact Nat.ne_of_beq_eq_false (by kernel_rfl)
theorem YA:8≤pP:=Nat.le_of_ble_eq_true (by kernel_rfl)
instance pP_nz:NeZero pP:=⟨fun h=>by have:=YA;omega⟩
theorem aeo:3*((pP-1)/3)=pP-1:=Nat.eq_of_beq_eq_true (by kernel_rfl)
attribute [irreducible] pP
abbrev F:=Fin pP
noncomputable def fd:Fd pP:=aen Yy YA aeo Yz
end Go.Ec
namespace Go.Proofs.YtmfnimjnneflnaaGreat
open Go.Am Go.Sha Go.Ec
abbrev pZ:Int:=115792089237316195423570985008687907853269984665640564039457584007908834671663
theorem iO:(pP:Int)=pZ:=by rw[yc];rfl
def FV(l:List Int):F:=LN pP (V l)
theorem eN(l:List Int):(((FV l).val:Nat):Int)=V l%pZ:=by unfold FV;rw[pj,iO]
theorem s5{a b:F}(h:((a.val:Nat):Int)=((b.val:Nat):Int)):a=b:=nV h
theorem PM{a b:List Int}(c:Wn 4 a)(d:Wn 4 b)(f:V a<pZ)(g:V b<pZ)(h:FV a=FV b):a=b:=by
 have e:=congrArg (fun x:F=>((x.val:Nat):Int)) h;simp only[eN]at e;have:=(lO c).1;have:=(lO d).1;rw[Int.emod_eq_of_lt aq f,Int.emod_eq_of_lt aq g]at e;exact VT c d e
theorem YB{r a b:List Int}(h:V r=(V a*V b)%pZ):V r<pZ∧FV r=FV a*FV b:=by
 refine⟨by rw[h];exact Int.emod_lt_of_pos _ (by decide),s5 ?_⟩;rw[eN,vC,Int.natCast_emod,Int.natCast_mul,eN,eN,iO,h,Int.emod_emod,←Int.mul_emod]
theorem YC{r a b:List Int}(h:V r=(V a+V b)%pZ):V r<pZ∧FV r=FV a+FV b:=by
 refine⟨by rw[h];exact Int.emod_lt_of_pos _ (by decide),s5 ?_⟩;rw[eN,K4,Int.natCast_emod,Int.natCast_add,eN,eN,iO,h,Int.emod_emod,←Int.add_emod]
theorem K5{a b c:F}(h:c+b=a):c=a-b:=by grobner
theorem YD{r a b:List Int}(h:V r=(V a-V b)%pZ):V r<pZ∧FV r=FV a-FV b:=by
 refine⟨by rw[h];exact Int.emod_lt_of_pos _ (by decide),K5 (s5 ?_)⟩;rw[K4,Int.natCast_emod,Int.natCast_add,eN,eN,eN,iO,h,Int.emod_emod,←Int.add_emod];congr 1;omega
theorem Cd:FV zI=0:=by
 refine s5 ?_;rw[eN];have:V zI=0:=by simp[V,zI]
 rw[this];rfl
theorem nW{a:List Int}(d:Wn 4 a)(h:V a<pZ):FV a=0↔a=zI:=by
 have e:V zI=0:=by simp[V,zI]
 have b:V zI<pZ:=by rw[e];decide
 exact⟨fun c=>PM d kR h b (by rw[c,Cd]),fun c=>by rw[c,Cd]⟩
theorem Hk(k:Nat)(a:(k:Int)<18446744073709551616):FV [(k:Int),0,0,0]=Fin.ofNat pP k:=by
 have:V [(k:Int),0,0,0]=(k:Int):=by simp[V]
 unfold FV;rw[this];exact jE k
theorem YE{r a:List Int}{k:Nat}(b:k=pP-2)(h:V r=V a ^ k%pZ):V r<pZ∧FV r=fd.inv (FV a):=by
 refine⟨by rw[h];exact Int.emod_lt_of_pos _ (by decide),s5 ?_⟩;have e:fd.inv (FV a)=⟨(FV a).val ^ (pP-2)%pP,Nat.mod_lt _ (by have:=YA;omega)⟩:=rfl;rw[e,←b];show _=((((FV a).val ^ k%pP:Nat)):Int);rw[eN,h,Int.emod_emod,Int.natCast_emod,Int.natCast_pow,eN,iO];have pm:∀(x m:Int)(k:Nat),x ^ k%m=(x%m) ^ k%m:=by
  intro x m k
  induction k with
  |zero=>rw[Int.pow_zero,Int.pow_zero]
  |succ k ih=>rw[Int.pow_succ,Int.pow_succ,Int.mul_emod,ih,Int.mul_emod ((x%m) ^ k),Int.emod_emod]
 exact pm _ _ _
theorem iD(a b:List Int)(e:Wn 4 a)(f:Wn 4 b):∃r,Wn 4 r∧(V r<pZ∧FV r=FV a*FV b)∧W2 209 a b r:=by
 obtain⟨r,c,d,g⟩:=BV a b e f;exact⟨r,c,YB d,g⟩
theorem abR(a b:List Int)(e:Wn 4 a)(f:Wn 4 b):∃r,Wn 4 r∧(V r<pZ∧FV r=FV a+FV b)∧W2 219 a b r:=by
 obtain⟨r,c,d,g⟩:=TW a b e f;exact⟨r,c,YC d,g⟩
theorem s6(a b:List Int)(e:Wn 4 a)(f:Wn 4 b):∃r,Wn 4 r∧(V r<pZ∧FV r=FV a-FV b)∧W2 210 a b r:=by
 obtain⟨r,c,d,g⟩:=I2 a b e f;exact⟨r,c,YD d,g⟩
theorem abS(a:List Int)(d:Wn 4 a):∃r,Wn 4 r∧(V r<pZ∧FV r=fd.inv (FV a))∧W1 213 a r:=by
 obtain⟨r,b,c,e⟩:=Uc a d;exact⟨r,b,YE (by rw[yc]) c,e⟩
def PV(x y:List Int)(b:Bool):Pt pP:=if b then none else some (FV x,FV y)
def kC(x y:List Int)(b:Bool):Prop:=(b=true∧x=zI∧y=zI)∨(b=false∧V x<pZ∧V y<pZ∧FV y*FV y=FV x*FV x*FV x+7)
theorem s7{x y:List Int}{b:Bool}(h:kC x y b):kL (PV x y b):=by
 rcases h with ⟨rfl,_,_⟩|⟨rfl,_,_,h⟩;trivial;exact h
theorem yd:kC zI zI true:=.inl ⟨rfl,rfl,rfl⟩
theorem PN:PV zI zI true=none:=rfl
noncomputable def JV(x y z:List Int):Pt pP:=sY fd (FV x) (FV y) (FV z)
def uy(x y z:List Int):Prop:=(V x<pZ∧V y<pZ∧V z<pZ)∧kL (JV x y z)
end Go.Proofs.YtmfnimjnneflnaaGreat
