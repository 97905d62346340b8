/-
 Part 14 of what the claim rests on.
-/
import Derived.Test.YtmfnimjnneflnaaGreatD5
import Derived.Test.YtmfnimjnneflnaaGreatD6
import Derived.Test.YtmfnimjnneflnaaGreatD9
import Derived.Test.YtmfnimjnneflnaaGreatD10
import Derived.Test.YtmfnimjnneflnaaGreatD11
import Derived.Test.YtmfnimjnneflnaaGreatD12
set_option linter.unusedVariables false
set_option linter.unusedSimpArgs false
set_option maxRecDepth 100000
set_option maxHeartbeats 16000000
namespace Go.Proofs.YtmfnimjnneflnaaGreat
open Go.Am Go.Sha
end Go.Proofs.YtmfnimjnneflnaaGreat
namespace Go.Sha
open Go.Proofs.YtmfnimjnneflnaaGreat Go.Am
structure CsF where
 t:Tn
 n:Int
 coins:List (Nat×List Nat)
 inner:List Nat
 path:List (List Nat)
 script:List Nat
 start:List (List Nat)
 annex:List Nat
 bud:Int
end Go.Sha
namespace Go.Proofs.YtmfnimjnneflnaaGreat
open Go.Am Go.Sha
theorem aaX{inner:List Nat}(hi:inner.length=32)(a b:AV):(ar inner a b).length=34:=by simp[ar,aj,hi]
end Go.Proofs.YtmfnimjnneflnaaGreat
namespace Go.Sha
open Go.Proofs.YtmfnimjnneflnaaGreat Go.Am
theorem xu(c:Nat)(r:List Nat):iY (c::r)=if 0<c∧c≤75 then some (c,1)else if c=76 then(match r with|a::_=>some (a,2) | []=>none)else if c=77 then(match r with|a::b::_=>some (a+256*b,3)|_=>none)else some (0,1):=rfl
theorem tC{t:List Nat}(h:t.length≤65535):eF (cN t)=some t:=by
 have g:∀x:List Nat,x.length≤65535→eF (gr x)=some x:=fun x i=>by
  unfold eF gr;rw[if_pos];simp only;split;omega;split<;>omega
 match t with
 |[]=>rfl
 | [c] =>
  rw[show cN [c]=if 1≤c∧c≤16 then(80+c,[])else if c=129 then(79,[])else gr [c]from rfl]
  split
  ·rename_i hc;have f:¬ 80+c≤77:=aq;have e:¬ 80+c=79:=aq;have d:80<80+c∧80+c≤96:=aq;show(if 80+c≤77 then some []else if 80+c=79 then some [129]else if 80<80+c∧80+c≤96 then some [80+c-80]else none)=_;rw[if_neg f,if_neg e,if_pos d,Nat.add_sub_cancel_left]
  ·split;rename_i hc;subst hc;rfl;exact g [c] aw
 |a::b::r=>exact g _ h
theorem SG{t:List Nat}:(cN t).1≤96:=by
 have g:∀x:List Nat,(gr x).1≤96:=fun x=>by
  unfold gr;simp only;split;omega;split<;>omega
 unfold cN;split;split;simp only;omega;split;simp only;omega;exact g _;exact g _
theorem zr{t:List Nat}(x:Rx)(r:Rn)(h:t.length≤65535)(hi:iZ r=0):lN x (cN t) r=dZ t r:=by
 have a:=tC h;have d:=SG (t:=t);have b:rQ (cN t)=true:=by unfold rQ;rw[a];simp
 have c:ny (cN t).1 r=none:=by
  unfold ny;rw[if_neg aq,if_neg aq,if_neg aq]
 unfold lN;rw[a,c,if_neg aw,b];simp[hi]
theorem Ig{a:Nat}(x:Rx)(r:Rn)(h:og a=true)(d:104<a)(hi:iZ r=0):lN x (a,[]) r=OV x a r:=by
 have b:eF (a,[])=none:=by
  unfold eF;rw[if_neg (by simp only;omega),if_neg (by simp only;omega),if_neg (by simp only;omega)]
 have c:ny a r=none:=by
  unfold ny;rw[if_neg aq,if_neg aq,if_neg aq]
 unfold lN;rw[b];simp only[c,h];simp[hi]
theorem D3{s rest:List Nat}{a:Nat}{w:Wd}(r:w.2.length≤65535)(c:(dF w).2=true)(f:s.drop a=(dF w).1++rest):lr s a=some (w,a+(dF w).1.length):=by
 obtain⟨d,b⟩:=w;have g:∀(n h:Nat)(pre:List Nat),iY (s.drop a)=some (n,h)→s.drop a=pre++(b++rest)→pre.length=h→b.length=n→(s.drop a).headD 0=d→lr s a=some ((d,b),a+h+n):=by
  intro n h pre o l m q p;unfold lr;rw[o];simp only;rw[if_neg (by rw[l];simp only[b_];omega),p];have:((s.drop a).drop h).take n=b:=by
   rw[l,←m,List.drop_left,←q,List.take_left]
  rw[this]
 unfold dF at c f⊢;by_cases i:0<d∧d≤75;rw[if_pos i]at c f⊢;simp only[decide_eq_true_eq]at c;have e:s.drop a=d::(b++rest):=f;have:=g d 1 [d] (by rw[e,xu,if_pos i]) e rfl c (by rw[e];rfl);rw[this];simp only[List.length_cons];congr 2;omega;rw [if_neg i] at c f ⊢;by_cases c2:d=76;subst c2;rw[if_pos rfl]at c f⊢;simp only[decide_eq_true_eq]at c;have k:t8 b.length=b.length:=TM aq;have e:s.drop a=[76,b.length]++(b++rest):=by rw[f];simp[k]
 have:=g b.length 2 [76,b.length] (by rw[e];rfl) e rfl rfl (by rw[e];rfl);rw[this];simp only[List.length_cons];congr 2;omega;rw[if_neg c2]at c f⊢;by_cases c3:d=77;subst c3;rw[if_pos rfl]at c f⊢;simp only[decide_eq_true_eq]at c;have e:s.drop a=[77,t8 b.length,t8 (ej 8 b.length)]++(b++rest):=by rw[f];simp
 have k:t8 b.length+256*t8 (ej 8 b.length)=b.length:=by
  unfold t8 ej;simp only[Nat.reducePow];omega
 have:=g b.length 3 [77,t8 b.length,t8 (ej 8 b.length)] (by rw[e];show some (t8 b.length+256*t8 (ej 8 b.length),3)=_;rw[k]) e rfl rfl (by rw[e];rfl);rw[this];simp only[List.length_cons];congr 2;omega;rw[if_neg c3]at c f⊢;simp only[decide_eq_true_eq]at c;have j:b=[]:=List.eq_nil_of_length_eq_zero c;subst j;have e:s.drop a=[d]++([]++rest):=by rw[f];simp
 have:=g 0 1 [d] (by rw[e,List.cons_append,xu,if_neg i,if_neg c2,if_neg c3]) e rfl rfl (by rw[e];rfl);rw[this];rfl
end Go.Sha
namespace Go.Sha
open Go.Proofs.YtmfnimjnneflnaaGreat Go.Am
end Go.Sha
namespace Go.Proofs.YtmfnimjnneflnaaGreat
open Go.Am Go.Sha
structure CsOk(c:CsF):Prop where
 t:Sm c.t
 cc:Ul c.coins
 cb:∀o,o∈c.coins→bytes o.2∧o.1<18446744073709551616
 ob:∀o,o∈c.t.outs→bytes o.2
 i:c.inner.length=32
 ib:bytes c.inner
 s:c.script.length≤1000
 p:∀p,p∈c.path→p.length=32
 pl:c.path.length≤1000
 a:c.annex.length≤1000
 b:kq c.bud
theorem JE{s rest:List Nat}{a:Nat}{w:Wd}(c:w.2.length≤65535)(d:(dF w).2=true)(b:s.drop a=(dF w).1++rest):lr s a=some (w,a+(dF w).1.length):=D3 c d b
theorem SH(F:RnF)(x:Rx)(E:RnE F x)(a:Nat)(b:a=173∨a=187)(r:Rn)(J:List Bool)(h:StOk r.main r.alt)(hc:r.cl.length≤100000)(e:kq r.bud) :
  fH Tryz.prog 3 (a8 (nB F)) 172 ⟨r,J,0⟩ [.ptr 0 0 0 1,.d (.int .u8 (a:Int))] (fun v g=>g=⟨OV x a r,J,0⟩):=by
 refine aB Tryz.func172 (by kernel_rfl) rfl Tryz.ntmps172 (rs:=[]) rfl (fD rfl) (by decide) ?_;have c:=jb (F:=F) E.hi;have q:=c.2.2;obtain⟨i,p,l,j⟩:=E.sq;obtain⟨o,k⟩:=E.tg;rcases b with rfl|rfl
 ·have f:OV x 173 r=AD x 173 r:=rfl;rw[f];simp[go_sem];refine bw (Pp:=[]) c (RS F x E 173 aq r J 0 h e) (List.nil_append _).symm aq aw (by simp[AV.renL,AV.ren]) ?_;rintro v g ρ rfl m;rw[cf];generalize AD x 173 r=r';simp only[a8,cC,cB,id];simp[go_sem,ai];exact aP rfl rfl rfl
 ·have f:OV x 187 r=AE x r:=rfl;rw[f];simp[go_sem];refine bw (Pp:=[]) c (RX F x E r J h hc) (List.nil_append _).symm aq aw (by simp[AV.renL,AV.ren]) ?_;rintro v g ρ rfl m;rw[cf];generalize AE x r=r';simp only[a8,cC,cB,id];simp[go_sem,ai];exact aP rfl rfl rfl
theorem XB{r:Rn}{k:Nat}(h:RnOk r k)(x:Rx)(c:∀s o0 o1 bk,(x.trg s o0 o1 bk).1.length≤2)(a:Nat)(b:a=173∨a=187):RnOk (OV x a r) (k+1):=by
 rcases b with rfl|rfl;exact nt (qH h (aaR h.st h.bd x 173)) aq;exact Xl h x c
theorem Ih{r:Rn}{k:Nat}(h:RnOk r k)(x:Rx)(d:∀s o0 o1 bk,(x.trg s o0 o1 bk).1.length≤2)(w:Wd)(g:w.1<256)(e:bytes w.2)(f:eF w=none→w.1=173∨w.1=187):RnOk (lN x w r) (k+1):=by
 unfold lN;split;exact nt (qH h (nc h.st h.bd 10)) aq;cases a:ny w.1 r with
 |some r'=>exact Xm h a
 | none =>
  simp only;split;exact nt h aq;cases c:eF w with
  |none=>exact XB h x d w.1 (f c)
  |some b =>
   simp only;split;exact nt (qH h (DW h.st h.bd (wS e g c))) aq;exact nt (qH h (nc h.st h.bd 11)) aq
theorem XC(F:RnF)(x:Rx)(E:RnE F x)(w:Wd)(L:w.1<256)(V:bytes w.2)(M:w.2.length≤50000)(r:Rn)(J:List Bool)(k:Nat)(G:RnOk r k)(af:k≤10000)(Y:eF w=none→w.1=173∨w.1=187) :
  fH Tryz.prog 3 (a8 (nB F)) 140 ⟨r,J,0⟩ [.ptr 0 0 0 1,.agg (xT w)] (fun v o=>∃J',o=⟨lN x w r,J',0⟩):=by
 refine aB Tryz.func140 (by kernel_rfl) rfl Tryz.ntmps140 (rs:=[]) rfl (fD rfl) (by decide) ?_;have j:=jb (F:=F) E.hi;have C:=j.2.2;have ab:=G.br;have ac:=G.cl;have R:=wR w L aq;have S:=Q0 w.1 L;have z:=Jm w L V M;have h:=M7 j w.1 L r J 0 G.st aq;have A:∀v,v∈[AV.agg (xT w)]→v.deep:=by
  intro v u;simp at u;subst u;exact kW w
 obtain⟨a,c⟩:=w;simp only[xT]at *;have e:∀(N:Nat),5≤N→∀p,p∈[((4:Nat),(⟨42,2,[[.d (.int .u8 (a:Int)),.d (nb c)]]⟩:Blk))]→p.1<N∧3≤p.1:=by
  intro N hN p m;simp at m;subst m;exact⟨by show 4<N;omega,by show 3≤4;omega⟩
 simp[go_sem];refine ag R A ?_;have P:M3 (eF (a,c))=.tup [.d (nb ((eF (a,c)).getD [])),.d (.bool (eF (a,c)).isSome)]:=by cases eF (a,c)<;>rfl
 rw[P];simp[go_sem];refine ag S a9 ?_;by_cases B:(!og a&&(eF (a,c)).isNone)=true
 ·have u:lN x (a,c) r=aH 10 r:=if_pos B;rw[u];have Q:og a=false:=by simp at B;exact B.1
  have T:eF (a,c)=none:=by simp at B;exact B.2
  simp[go_sem,Q,T];refine bw (Pp:=[(4,⟨42,2,[[.d (.int .u8 (a:Int)),.d (nb c)]]⟩)]) j (cK j r J 0 10) rfl aq (e _ aq) (by simp[AV.renL,AV.ren]) ?_;rintro v o ρ rfl q;rw[cf];generalize aH 10 r=r';simp only[a8,cC,cB,id];simp[go_sem,ai];exact⟨_,⟨J,rfl⟩,aP rfl rfl rfl⟩
 ·have D:(og a=true∧(eF (a,c)).isSome=true)∨(og a=true∧eF (a,c)=none)∨(og a=false∧(eF (a,c)).isSome=true):=by
   cases Z:og a;cases X:eF (a,c);rw[Z,X]at B;simp at B;exact .inr (.inr ⟨rfl,rfl⟩);cases X:eF (a,c);exact .inr (.inl ⟨rfl,rfl⟩);exact .inl ⟨rfl,rfl⟩
  have y:lN x (a,c) r=(match ny a r with
    |some r'=>r'
    |none=>if 0<iZ r then r else match eF (a,c)with
     |some b=>if rQ (a,c)then dZ b r else aH 11 r
     |none=>OV x a r):=if_neg B
  cases U:ny a r with
  |some r1 =>
   have u:lN x (a,c) r=r1:=(by rw[y,U]);rw[u];rw[U]at h;rcases D with ⟨i,m⟩|⟨i,m⟩|⟨i,m⟩
   ·simp[go_sem,i,m];refine bw (Pp:=[(4,⟨42,2,[[.d (.int .u8 (a:Int)),.d (nb c)]]⟩)]) j h (by first|rfl|simp[cf,a8,cC,cB]) aq (e _ aq) (by simp[AV.renL,AV.ren]) ?_;rintro v o ρ ⟨rfl,g,rfl⟩ q;simp[go_sem,AV.ren];rw[cf];exact⟨_,⟨g,rfl⟩,aP rfl rfl rfl⟩
   ·simp[go_sem,i,m];refine bw (Pp:=[(4,⟨42,2,[[.d (.int .u8 (a:Int)),.d (nb c)]]⟩)]) j h (by first|rfl|simp[cf,a8,cC,cB]) aq (e _ aq) (by simp[AV.renL,AV.ren]) ?_;rintro v o ρ ⟨rfl,g,rfl⟩ q;simp[go_sem,AV.ren];rw[cf];exact⟨_,⟨g,rfl⟩,aP rfl rfl rfl⟩
   ·simp[go_sem,i,m];refine bw (Pp:=[(4,⟨42,2,[[.d (.int .u8 (a:Int)),.d (nb c)]]⟩)]) j h (by first|rfl|simp[cf,a8,cC,cB]) aq (e _ aq) (by simp[AV.renL,AV.ren]) ?_;rintro v o ρ ⟨rfl,g,rfl⟩ q;simp[go_sem,AV.ren];rw[cf];exact⟨_,⟨g,rfl⟩,aP rfl rfl rfl⟩
  | none =>
   rw[U]at y h;by_cases t:0<iZ r
   ·have u:lN x (a,c) r=r:=by rw[y];exact if_pos t
    rw[u];have W:(0:Int)<(iZ r:Int):=aq;rcases D with ⟨i,m⟩|⟨i,m⟩|⟨i,m⟩
    ·simp[go_sem,i,m];refine bw (Pp:=[(4,⟨42,2,[[.d (.int .u8 (a:Int)),.d (nb c)]]⟩)]) j h (by first|rfl|simp[cf,a8,cC,cB]) aq (e _ aq) (by simp[AV.renL,AV.ren]) ?_;rintro v o ρ ⟨rfl,g,rfl⟩ q;rw[cf];simp only[a8,cC,cB,id];simp[go_sem,AV.ren,C,t];exact⟨_,⟨g,rfl⟩,aP rfl rfl rfl⟩
    ·simp[go_sem,i,m];refine bw (Pp:=[(4,⟨42,2,[[.d (.int .u8 (a:Int)),.d (nb c)]]⟩)]) j h (by first|rfl|simp[cf,a8,cC,cB]) aq (e _ aq) (by simp[AV.renL,AV.ren]) ?_;rintro v o ρ ⟨rfl,g,rfl⟩ q;rw[cf];simp only[a8,cC,cB,id];simp[go_sem,AV.ren,C,t];exact⟨_,⟨g,rfl⟩,aP rfl rfl rfl⟩
    ·simp[go_sem,i,m];refine bw (Pp:=[(4,⟨42,2,[[.d (.int .u8 (a:Int)),.d (nb c)]]⟩)]) j h (by first|rfl|simp[cf,a8,cC,cB]) aq (e _ aq) (by simp[AV.renL,AV.ren]) ?_;rintro v o ρ ⟨rfl,g,rfl⟩ q;rw[cf];simp only[a8,cC,cB,id];simp[go_sem,AV.ren,C,t];exact⟨_,⟨g,rfl⟩,aP rfl rfl rfl⟩
   ·have f:iZ r=0:=aq;have I:og a=true∨og a=false:=by cases og a;exact .inr rfl;exact .inl rfl
    cases l:eF (a,c)with
    |none =>
     have i:og a=true:=by rcases D with ⟨i,m⟩|⟨i,m⟩|⟨i,m⟩<;>first|exact i|(rw[l]at m;simp at m)
     have u:lN x (a,c) r=OV x a r:=by rw[y,l];exact if_neg t
     rw[u];simp[go_sem,i,l];refine bw (Pp:=[(4,⟨42,2,[[.d (.int .u8 (a:Int)),.d (nb c)]]⟩)]) j h (by first|rfl|simp[cf,a8,cC,cB]) aq (e _ aq) (by simp[AV.renL,AV.ren]) ?_;rintro v o ρ ⟨rfl,g,rfl⟩ q;rw[cf];simp only[a8,cC,cB,id];simp[go_sem,AV.ren,C,f];refine bw (Pp:=[(4,⟨42,2,[[.d (.int .u8 (a:Int)),.d (nb c)]]⟩)]) (s:=⟨r,g,0⟩) j (SH F x E a (Y l) r g G.st aq G.bd) (by simp[cf,a8,cC,cB,f]) aq (e _ aq) (by simp[AV.renL,AV.ren]) ?_;rintro v o ρ rfl q;rw[cf];generalize OV x a r=r';simp only[a8,cC,cB,id];simp[go_sem,ai];exact⟨_,⟨g,rfl⟩,aP rfl rfl rfl⟩
    | some b =>
     have H:=HA l;simp only at H;by_cases K:rQ (a,c)=true
     ·have u:lN x (a,c) r=dZ b r:=by rw[y,l];exact(if_neg t).trans (if_pos K)
      rw[u];rw[K]at z;rcases I with i|i
      ·simp[go_sem,i,l];refine bw (Pp:=[(4,⟨42,2,[[.d (.int .u8 (a:Int)),.d (nb c)]]⟩)]) j h (by first|rfl|simp[cf,a8,cC,cB]) aq (e _ aq) (by simp[AV.renL,AV.ren]) ?_;rintro v o ρ ⟨rfl,g,rfl⟩ q;rw[cf];simp only[a8,cC,cB,id];simp[go_sem,AV.ren,C,f];refine ag z A ?_;simp[go_sem];refine bw (Pp:=[(4,⟨42,2,[[.d (.int .u8 (a:Int)),.d (nb c)]]⟩)]) (s:=⟨r,g,0⟩) j (qA j r g 0 G.st b aq) (by simp[cf,a8,cC,cB,f]) aq (e _ aq) (by simp[AV.renL,AV.ren]) ?_;rintro v o ρ rfl q;rw[cf];generalize dZ b r=r';simp only[a8,cC,cB,id];simp[go_sem,ai];exact⟨_,⟨g,rfl⟩,aP rfl rfl rfl⟩
      ·simp[go_sem,i,l];refine bw (Pp:=[(4,⟨42,2,[[.d (.int .u8 (a:Int)),.d (nb c)]]⟩)]) j h (by first|rfl|simp[cf,a8,cC,cB]) aq (e _ aq) (by simp[AV.renL,AV.ren]) ?_;rintro v o ρ ⟨rfl,g,rfl⟩ q;rw[cf];simp only[a8,cC,cB,id];simp[go_sem,AV.ren,C,f];refine ag z A ?_;simp[go_sem];refine bw (Pp:=[(4,⟨42,2,[[.d (.int .u8 (a:Int)),.d (nb c)]]⟩)]) (s:=⟨r,g,0⟩) j (qA j r g 0 G.st b aq) (by simp[cf,a8,cC,cB,f]) aq (e _ aq) (by simp[AV.renL,AV.ren]) ?_;rintro v o ρ rfl q;rw[cf];generalize dZ b r=r';simp only[a8,cC,cB,id];simp[go_sem,ai];exact⟨_,⟨g,rfl⟩,aP rfl rfl rfl⟩
     ·have O:rQ (a,c)=false:=(by simpa using K);have u:lN x (a,c) r=aH 11 r:=by rw[y,l];exact(if_neg t).trans (if_neg K)
      rw[u];rw[O]at z;rcases I with i|i
      ·simp[go_sem,i,l];refine bw (Pp:=[(4,⟨42,2,[[.d (.int .u8 (a:Int)),.d (nb c)]]⟩)]) j h (by first|rfl|simp[cf,a8,cC,cB]) aq (e _ aq) (by simp[AV.renL,AV.ren]) ?_;rintro v o ρ ⟨rfl,g,rfl⟩ q;rw[cf];simp only[a8,cC,cB,id];simp[go_sem,AV.ren,C,f];refine ag z A ?_;simp[go_sem];refine bw (Pp:=[(4,⟨42,2,[[.d (.int .u8 (a:Int)),.d (nb c)]]⟩)]) (s:=⟨r,g,0⟩) j (cK j r g 0 11) (by simp[cf,a8,cC,cB,f]) aq (e _ aq) (by simp[AV.renL,AV.ren]) ?_;rintro v o ρ rfl q;rw[cf];generalize aH 11 r=r';simp only[a8,cC,cB,id];simp[go_sem,ai];exact⟨_,⟨g,rfl⟩,aP rfl rfl rfl⟩
      ·simp[go_sem,i,l];refine bw (Pp:=[(4,⟨42,2,[[.d (.int .u8 (a:Int)),.d (nb c)]]⟩)]) j h (by first|rfl|simp[cf,a8,cC,cB]) aq (e _ aq) (by simp[AV.renL,AV.ren]) ?_;rintro v o ρ ⟨rfl,g,rfl⟩ q;rw[cf];simp only[a8,cC,cB,id];simp[go_sem,AV.ren,C,f];refine ag z A ?_;simp[go_sem];refine bw (Pp:=[(4,⟨42,2,[[.d (.int .u8 (a:Int)),.d (nb c)]]⟩)]) (s:=⟨r,g,0⟩) j (cK j r g 0 11) (by simp[cf,a8,cC,cB,f]) aq (e _ aq) (by simp[AV.renL,AV.ren]) ?_;rintro v o ρ rfl q;rw[cf];generalize aH 11 r=r';simp only[a8,cC,cB,id];simp[go_sem,ai];exact⟨_,⟨g,rfl⟩,aP rfl rfl rfl⟩
def XD(s:bL):Nat→Nat→Prop
 |0,_=>True
 |k+1,a=>∀w b,lr s a=some (w,b)→(eF w=none→w.1=173∨w.1=187)∧XD s k b
theorem Ii{s:bL}:∀(f:Nat)(d:List Wd)(a:Nat),(∀w,w∈d→(w.2.length≤65535∧(dF w).2=true)∧(eF w=none→w.1=173∨w.1=187))→s.drop a=aQ d→XD s f a
 |0,_,_,_,_=>trivial
 |f+1,[],a,_,c=>by
  intro w b h;have c:s.drop a=[]:=c;unfold lr at h;rw[c]at h;cases h
 | f+1,w :: d,a,hw,c=>by
  intro k b h;obtain⟨⟨g,e⟩,j⟩:=hw w aw;have hc:aQ (w::d)=(dF w).1++aQ d:=by
   rw[←rH e];simp[aQ]
  rw[hc]at c;rw[JE g e c]at h;simp only[Option.some.injEq,Prod.mk.injEq]at h;obtain⟨rfl,rfl⟩:=h;exact⟨j,Ii f d _ (fun y i=>hw y (by simp[i])) (by rw[←List.drop_drop,c,List.drop_left])⟩
theorem SI(F:RnF)(x:Rx)(E:RnE F x)(C:bytes F.script)(S:F.script.length≤1000)(V:∀s o0 o1 bk,(x.trg s o0 o1 bk).1.length≤2)(r:Rn)(J:List Bool)(Y:RnOk r 0)(I:XD F.script (F.script.length+1) 0) :
  fH Tryz.prog 3 (a8 (nB F)) 98 ⟨r,J,0⟩ [.ptr 0 0 0 1] (fun v H=>∃c,H=⟨nA x F.script (F.script.length+1) 0 r,c,0⟩):=by
 refine aB Tryz.func98 (by kernel_rfl) rfl Tryz.ntmps98 (rs:=[]) rfl (fD rfl) (by decide) ?_;have o:=jb (F:=F) E.hi;have hl:=o.2.2;have q:∀l:List AV,(nB F++l)[39]?=some (.d (.ro 1 (F.script.map fun(b:Nat)=>[.int .u8 (b:Int)]))):=fun l=>by
  unfold nB ar;rw[cA,dn (by simp[eS])];simp only[eS,List.length_cons,List.length_nil,cA];rw[dn (by rw[aj,E.hi];omega),aj,E.hi];rfl
 generalize Z:nA x F.script (F.script.length+1) 0 r=W;simp[go_sem]
 have A:∀(G:Fr)(m:Hp)(R a:Nat)(i:Rn)(c:List Bool),(fv 0 G=.ptr 0 0 0 1∧fv 2 G=.d (.int .i64 (a:Int)))→(∀p,p∈kg 3 (a8 (nB F)) ⟨i,c,0⟩ id→lk p.1 m=some p.2) →
   av ⟨G,m,R⟩ ⟨[(0,.ptr 0 0 0 1),(2,.d (.int .i64 (a:Int)))],kg 3 (a8 (nB F)) ⟨i,c,0⟩ id,9000⟩:=by
  rintro G m R a i c⟨X,q1⟩h2;refine⟨?_,rnW o (fD rfl) h2,.inr (by show 64≤9000;omega)⟩;intro p B;simp only[d_,List.mem_nil_iff,or_false]at B;rcases B with rfl|rfl;exact⟨.inl X.symm,by simp[AV.low,AV.low1]⟩;exact⟨.inl q1.symm,by simp[AV.low,AV.low1]⟩
 refine au (fun u:Nat×Nat×Rn×List Bool=>⟨[(0,.ptr 0 0 0 1),(2,.d (.int .i64 (u.1:Int)))],kg 3 (a8 (nB F)) ⟨u.2.2.1,u.2.2.2,0⟩ id,9000⟩)
  (fun u=>u.1≤F.script.length∧F.script.length+1≤u.2.1+u.1∧RnOk u.2.2.1 u.1∧nA x F.script u.2.1 u.1 u.2.2.1=W∧XD F.script u.2.1 u.1) (fun u=>F.script.length-u.1) (0,F.script.length+1,r,J) ⟨aq,by show _≤F.script.length+1+0;omega,Y,Z,I⟩
  (A _ _ _ 0 r J (by simp[fv,lk]) (zh rfl rfl rfl)) ?_
 rintro⟨a,f,i,c⟩⟨U,hf,L,k,N⟩;simp only at U hf L k N;obtain⟨f,rfl⟩:∃f',f=f'+1:=⟨f-1,aq⟩;rw[nA]at k;simp only;by_cases g:a<F.script.length
 ·have j:(a:Int)<(F.script.length:Int):=aq;rw[cf];simp only[a8,cC,cB,id];simp[go_sem,g,j,q];refine bw (Pp:=[]) (s:=⟨i,c,0⟩) o (gn o i c 0) (by simp[cf,a8,cC,cB]) aq aw (by simp[AV.renL,AV.ren]) ?_;rintro v H ρ ⟨rfl,rfl⟩ P;by_cases y:i.e=0
  ·rw[if_pos ⟨g,y⟩]at k;have M:=M1 F.script a C aq g;rw[cf];simp only[a8,cC,cB,id];simp[go_sem,AV.ren,y,q];refine ag M a9 ?_
   cases D:lr F.script a with
   |none =>
    rw[D]at k;subst k;simp[go_sem,MZ,xT];refine bw (Pp:=[(9736,⟨42,2,[[.d (.int .u8 0),.d (nb [])]]⟩)]) (s:=⟨i,c,0⟩) o (cK o i c 0 2) (by simp[cf,a8,cC,cB,y]) aq (by intro p m;simp at m;subst m;simp) (by simp[AV.renL,AV.ren]) ?_;rintro v H ρ rfl P;rw[cf];generalize aH 2 i=r2;simp only[a8,cC,cB,id];simp[go_sem,ai];exact⟨_,⟨c,rfl⟩,aP rfl rfl rfl⟩
   |some p =>
    obtain⟨w,b⟩:=p;rw[D]at k;obtain⟨n1,n2,Q,O,n5⟩:=H9 C g D;have t:=N w b D;have z:=XC F x E w Q O aq i c a L aq t.1;have K:=nt (Ih L x V w Q O t.1) (show a+1≤b by omega);simp only[xT]at z;simp[go_sem,MZ,xT];refine bw (Pp:=[(9736,⟨42,2,[[.d (.int .u8 (w.1:Int)),.d (nb w.2)]]⟩)]) (s:=⟨i,c,0⟩) o z (by simp[cf,a8,cC,cB,y]) aq (by intro p m;simp at m;subst m;simp) (fun ρ=>rfl) ?_;rintro v H ρ ⟨T,rfl⟩ P;simp[go_sem];refine am (b,f,lN x w i,T) ⟨n2,by show _≤f+b;omega,K,k,t.2⟩ (by show F.script.length-b<F.script.length-a;omega) (A _ _ _ b _ _ (by simp[fv,lk]) (zh rfl rfl rfl))
  ·rw[if_neg (fun h=>y h.2)]at k;subst k;simp[go_sem,AV.ren,y];rw[cf];exact⟨_,⟨c,rfl⟩,aP rfl rfl rfl⟩
 ·rw[if_neg (fun h=>g h.1)]at k;subst k;have j:¬(a:Int)<(F.script.length:Int):=aq;rw[cf];simp only[a8,cC,cB,id];simp[go_sem,g,j,q];exact⟨_,⟨c,rfl⟩,aP rfl rfl rfl⟩
theorem Ol(x:Rx)(d:∀s o0 o1 bk,(x.trg s o0 o1 bk).1.length≤2){s:bL}(e:bytes s):∀(f a:Nat)(r:Rn),XD s f a→RnOk r a→∃k,RnOk (nA x s f a r) k
 |0,a,r,_,h=>⟨a,h⟩
 | f+1,a,r,ho,h=>by
  rw[nA];split;rename_i hc;cases c:lr s a with
  |none=>exact⟨a,qH h (nc h.st h.bd 2)⟩
  |some p =>
   obtain⟨w,b⟩:=p;obtain⟨m,l,g,i,j⟩:=H9 e hc.1 c;exact Ol x d e f b _ (ho w b c).2 (nt (Ih h x d w g i (ho w b c).1) aq)
  ·exact⟨a,h⟩
theorem aaY(F:RnF)(x:Rx)(a:List bL)(bud:Int)(ht:Sm F.t)(hc:F.coins.length≤1000)(hi:F.inner.length=32)(Q:bytes F.script)(J:StOk a [])(X:kq bud)
  (E:cp F.t (F.n:Int) F.coins=0→F.script.length≤1000→RnE F x) (hx:∀s o0 o1 bk,(x.trg s o0 o1 bk).1.length≤2) (K:XD F.script (F.script.length+1) 0) :
  ap Tryz.prog 53 [.agg (eS F.t (F.n:Int) F.coins),cF F.inner F.path F.script,.d (.ro 1 (a.map bP)),.d (nb F.annex),.d (.int .i64 bud)] (fun v=>v=Jw F x a bud):=by
 have r:=mj F.t (F.n:Int) F.coins ht hc;have c:(ar F.inner (AV.d (bS F.path)) (AV.d (nb F.script))).length=34:=by simp[ar,aj,hi]
 have u:List.take 34 (ar F.inner (AV.d (bS F.path)) (AV.d (nb F.script)))=ar F.inner (AV.d (bS F.path)) (AV.d (nb F.script)):=cx (by rw[c];omega);have O:(ar F.inner (AV.d (bS F.path)) (AV.d (nb F.script)))[33]?=some (.d (.ro 1 (F.script.map fun(b:Nat)=>[.int .u8 (b:Int)]))):=by
  unfold ar;rw[dn (by rw[aj,hi];omega),aj,hi];rfl
 have z:∀v,v∈[AV.agg (eS F.t (F.n:Int) F.coins)]→v.deep:=by simp[AV.deep,AV.deep1,eS]
 simp only[eS]at r z;by_cases T:1000<F.script.length
 ·have H:Jw F x a bud=.tup [.d (.ro 2 []),.d (.int .i64 1)]:=if_pos (.inr T);rw[H];have C:(1000:Int)<(F.script.length:Int):=aq;refine bz Tryz.func53 Tryz.ntmps53 (rs:=[.tmp 10,.tmp 11]) (xk F a bud) ?_;simp[go_sem,cF,eS,c,u];refine ag r z ?_;rcases zk F.t (F.n:Int) F.coins with h|h
  ·simp[go_sem,h,O,T,C,ai];exact ew (cs':=[.d (.ro 2 []),.d (.int .i64 1)]) (ay (ao (.nil 2)) (ay (aM trivial) bO)) rfl a9 rfl
  ·simp[go_sem,h,ai];exact ew (cs':=[.d (.ro 2 []),.d (.int .i64 1)]) (ay (ao (.nil 2)) (ay (aM trivial) bO)) rfl a9 rfl
 ·rcases zk F.t (F.n:Int) F.coins with h|h
  ·have H:Jw F x a bud=.tup [.d (.ro 2 ((Do x F.script a bud).1.map eQ)),.d (.int .i64 (Do x F.script a bud).2)]:=if_neg (by rw[h];simp;omega);rw[H];have E:=E h aq;rw[h]at r;have C:¬(1000:Int)<(F.script.length:Int):=aq;refine mh Tryz.func53 (by kernel_rfl) rfl Tryz.ntmps53 (rs:=[.tmp 10,.tmp 11]) rfl (fD rfl) (xk F a bud) ?_;refine bQ (aD ?_);simp[go_sem,cF,eS,c,u];simp only[fN];refine bQ (aD ?_);simp[go_sem,c,u];refine ag r z ?_;simp[go_sem,O,T,C];simp only[fN];refine bQ (aD ?_);have V:∀l,List.take 35 (ar F.inner (AV.d (bS F.path)) (AV.d (nb F.script))++l)=ar F.inner (AV.d (bS F.path)) (AV.d (nb F.script))++List.take 1 l:=aaT c 1;have S:∀l,List.take 39 (ar F.inner (AV.d (bS F.path)) (AV.d (nb F.script))++l)=ar F.inner (AV.d (bS F.path)) (AV.d (nb F.script))++List.take 5 l:=aaT c 5;have W:∀l,List.drop 35 (ar F.inner (AV.d (bS F.path)) (AV.d (nb F.script))++l)=List.drop 1 l:=Xn c 1;have Y:∀l,List.drop 37 (ar F.inner (AV.d (bS F.path)) (AV.d (nb F.script))++l)=List.drop 3 l:=Xn c 3;have U:∀l,List.drop 40 (ar F.inner (AV.d (bS F.path)) (AV.d (nb F.script))++l)=List.drop 6 l:=Xn c 6;simp[go_sem,c,u,ado,N5,N6,V,S,W,Y,U];simp only[fN];have o:=jb (F:=F) hi;refine nS (st':=⟨[(12,.ptr 640 0 0 1)],[(640,⟨158,48,[nB F++[.d (.ro 1 (a.map bP)),.nil,.nil,.d (.int .i64 0),.d (.int .i64 bud),.nil,.d (.int .i64 0)]]⟩),(1640,⟨4,1,[]⟩),(2640,⟨55,2,[]⟩)],9000⟩) (aV ⟨by simp[ah,fv,lk,AV.low,AV.low1],?_,aw⟩) ?_
   intro p hp;simp only[d_,List.mem_nil_iff,or_false]at hp;rcases hp with rfl|rfl|rfl;refine⟨.inl (by simp[lk,nB,eS]),by show 640<9000;omega,?_⟩;intro q D v R;simp only[d_,List.mem_nil_iff,or_false]at D;subst D;rcases cD.1 R with h|h;exact o.2.1 v h _;simp only[d_,List.mem_nil_iff,or_false]at h;rcases h with rfl|rfl|rfl|rfl|rfl|rfl|rfl<;>trivial;exact⟨.inr ⟨by show 704≤1640;omega,rfl⟩,by show 1640<9000;omega,by intro q D;simp at D⟩;exact⟨.inr ⟨by show 704≤2640;omega,rfl⟩,by show 2640<9000;omega,by intro q D;simp at D⟩;refine nS (st':=⟨[(12,.ptr 640 0 0 1)],kg 3 (a8 (nB F)) ⟨⟨a,[],[],bud,[],0⟩,[],0⟩ fR,9000⟩) ?_ ?_
   ·refine yM (st:=⟨_,_,9000⟩) (L:=640) (b:=⟨158,48,[nB F++[.d (.ro 1 (a.map bP)),.nil,.nil,.d (.int .i64 0),.d (.int .i64 bud),.nil,.d (.int .i64 0)]]⟩) (es':=[cC (nB F) ⟨⟨a,[],[],bud,[],0⟩,[],0⟩ fR]) rfl aw rfl ?_;intro i y y' Z h2
    match i with
    | 0 =>
     simp only[List.getElem?_cons_zero,Option.some.injEq]at Z h2;subst Z h2;refine⟨by simp[cC,cB],fun j v v' g f=>?_⟩;unfold cC cB at f;by_cases hj:j<41;rw[List.getElem?_append_left (by rw[o.2.2];exact hj)]at g f;rw[g]at f;exact .inl (Option.some.inj f).symm
     ·rw[dn (by rw[o.2.2];omega),o.2.2]at g f;generalize j-41=k at g f
      match k,g,f with
      |0,g,f=>cases g;cases f;exact .inl rfl
      |1,g,f=>cases g;cases f;exact .inr (.inr ⟨rfl,1,rfl⟩)
      |2,g,f=>cases g;cases f;exact .inr (.inl ⟨rfl,1640,by show 1640<9000;omega,rfl⟩)
      |3,g,f=>cases g;cases f;exact .inl rfl
      |4,g,f=>cases g;cases f;exact .inl rfl
      |5,g,f=>cases g;cases f;exact .inr (.inl ⟨rfl,2640,by show 2640<9000;omega,rfl⟩)
      |6,g,f=>cases g;cases f;exact .inl rfl
      |k+7,g,f=>cases g
    |i+1=>simp at Z
   refine aD ?_;have M:=Dk a [] (by have:=J.m;omega) aw;have I:=cK o ⟨a,[],[],bud,[],0⟩ [] 0 (fG a []);have w:RnOk ⟨a,[],[],bud,[],0⟩ 0:=⟨J,X,aw,aw⟩;have B:=qH w (nc w.st w.bd (fG a []));rw[Xp];simp only[a8,cC,cB,id,pE]at *;simp[go_sem,o.2.2];refine ag M (by intro v R;simp at R;subst R;exact iW a []) ?_;simp[go_sem];have A:Do x F.script a bud=(if(s9 (nA x F.script (F.script.length+1) 0 (aH (fG a []) ⟨a,[],[],bud,[],0⟩))).e=0 then((s9 (nA x F.script (F.script.length+1) 0 (aH (fG a []) ⟨a,[],[],bud,[],0⟩))).cl,0)else([],(s9 (nA x F.script (F.script.length+1) 0 (aH (fG a []) ⟨a,[],[],bud,[],0⟩))).e)):=rfl;rw[A];clear A H;refine Ia o I (by simp[Xp,a8,cC,cB]) aq (by simp[AV.renL,AV.ren]) ?_;rintro v s' ρ rfl;clear I M;generalize aH (fG a []) ⟨a,[],[],bud,[],0⟩=r1 at *;simp[go_sem];refine Ia o (SI F x E Q aq hx r1 [] B K) rfl aq (fun ρ=>rfl) ?_;rintro v s' ρ ⟨J',rfl⟩;obtain⟨k,N⟩:=Ol x hx Q (F.script.length+1) 0 r1 K B;generalize nA x F.script (F.script.length+1) 0 r1=r2 at *;simp[go_sem];refine Ia o (aaS o r2 J' 0 N.st) rfl aq (fun ρ=>rfl) ?_;rintro v s' ρ rfl;generalize s9 r2=r3 at *;simp[go_sem];refine Ia o (gn o r3 J' 0) rfl aq (fun ρ=>rfl) ?_;rintro v s' ρ ⟨rfl,rfl⟩;rw[Xp];simp only[a8,cC,cB];by_cases P:r3.e=0
   ·rw[if_pos P];simp[go_sem,AV.ren,P,o.2.2,ai];exact ew (cs':=[.d (.ro 2 (r3.cl.map eQ)),.d (.int .i64 0)]) (ay (ao (RQ (id:=2640) (ty:=55) (by simp[lk,JW]) trivial)) (ay (aM trivial) bO)) rfl a9 rfl
   ·rw[if_neg P];simp[go_sem,AV.ren,P];refine cG [0,1,2,3,4,5] [] 0 (k:=6) ?_;intro G hG;simp[go_sem,AV.ren,P,o.2.2];refine hG _ _ ?_;clear hG G;simp[go_sem,ai];exact ew (cs':=[.d (.ro 2 []),.d (.int .i64 r3.e)]) (ay (ao (.nil 2)) (ay (aM trivial) bO)) rfl a9 rfl
  ·have H:Jw F x a bud=.tup [.d (.ro 2 []),.d (.int .i64 1)]:=if_pos (.inl (by rw[h];omega));rw[H];rw[h]at r;refine bz Tryz.func53 Tryz.ntmps53 (rs:=[.tmp 10,.tmp 11]) (xk F a bud) ?_;simp[go_sem,cF,eS,c,u];refine ag r z ?_;simp[go_sem,ai];exact ew (cs':=[.d (.ro 2 []),.d (.int .i64 1)]) (ay (ao (.nil 2)) (ay (aM trivial) bO)) rfl a9 rfl
def eV(t:List Nat)(d:Int):List Wd:=cN t::fy d
theorem D4(t:List Nat)(d:Int)(f:t.length=32):qf [t] (aQ (fy d))=(aQ (eV t d),0):=by
 have h:=jm d;have c:=CO [t] [] (by intro x a;simp at a;subst a;omega);have e:aQ (Af [t])++aQ (fy d)=aQ (eV t d):=by simp[aQ,Af,eV]
 have g:(aQ (Af [t])).length≤35:=by
  have:=kz (Af [t]) 32 (by
   intro w b;simp[Af]at b;subst b;have:=fC t
   omega)
  simpa[Af]using this
 unfold qf;rw[c];simp only[List.nil_append];rw[if_neg (by simp only[b_];omega),e]
theorem sy(inner a:List Nat)(d:Int)(trig t:List Nat):∀v,v∈[AV.agg (bB inner a d trig),.agg (cb t)]→v.deep:=by
 intro v b;simp at b;rcases b with rfl|rfl;exact kS _ _ _ _;exact aW _
theorem tG(inner a:List Nat)(d:Int)(trig:List Nat)(n:Nat):∀c,c∈bB inner a d trig→AV.low1 n c:=by
 rw[←sY];intro c hc;obtain⟨x,_,rfl⟩:=List.mem_map.1 hc;trivial
theorem xY(inner f:List Nat)(d:Int)(trig t:List Nat)(hi:inner.length=32)(j:trig.length=32)(a:t.length=32)(m:bytes t)(z:-9223372036854775808≤d)(D:d<9223372036854775808) :
  ap Tryz.prog 74 [.agg (bB inner f d trig),.agg (cb t)] (fun r=>r=.tup [.d (nb (aQ (eV t d))),.d (.int .i64 0)]):=by
 refine mh Tryz.func74 (by kernel_rfl) rfl Tryz.ntmps74 (rs:=[.tmp 4,.tmp 5]) rfl (fD rfl) (sy _ _ _ _ _) ?_;have u:=dK hi j f d;refine bQ (aD ?_);simp[go_sem,u,bq hi j,aj,a,al a];simp only[fN];refine nS (st':=⟨[(2,.ptr 0 0 0 1),(3,.rop (cd t))],[(0,⟨76,66,[bB inner f d trig]⟩)],9000⟩) (rj [32] [(3,.rop (cd t))] ?_ ?_) ?_
 intro p g;simp only[d_,List.mem_nil_iff,or_false]at g;subst g;exact .ptr aw rfl rfl rfl (by rw[List.drop_zero,←cQ];exact jg _);simp[av,ah,fv,lk,aN,AV.low,AV.low1];exact tG _ _ _ _ _;refine aD ?_;simp[go_sem]
 have o:List.map (fun c=>[c]) (List.take 32 (cd t))=t.map fun(b:Nat)=>[DV.int .u8 (b:Int)]:=by
  rw[cx (by simp[bV,a])];simp[cd]
 have y:=C5 inner f d trig hi j z D;have s:=vU [t] (aQ (fy d)) aw (by intro x q;simp at q;subst q;exact⟨aq,m⟩) (by have:=jm d;omega);rw[D4 t d a]at s;generalize aQ (fy d)=W at *;generalize aQ (eV t d)=Y at *;refine cO [0,2] [1,3,4] [0,2,5,6,7,8] (.alt (bt 1 (bt 3 (.step 4 [5,6,7,8] true .done))) (bt 3 (bt 1 (.step 4 [5,6,7,8] true .done)))) ⟨[(4,.d (nb Y)),(5,.d (.int .i64 0))],[],20000⟩ (k:=9) ?h3 ?hq
 case h3 =>
  intro G v;have A:∀(l:Fr)(g:Hp),(fv 4 l=.d (nb Y)∧fv 5 l=.d (.int .i64 0))→G l g:=by
   rintro l g⟨w,C⟩;refine v _ _ (aV ⟨?_,aw,aw⟩);simp[ah,AV.low,AV.low1,w,C]
  have B:∀g,lk 9032 g=some ⟨31,1,[[.d (nb t)]]⟩→fx g (fun i=>i∈[9032]) (.own 9032 0 1 1) (.d (.ro 1 ([t].map bP))):=fun g h=>ao (eu (ty:=31) (e:=1) (es:=[t].map bP) (by simp[h,bP,nb]) aw rfl (by simp[bP]));simp[go_sem,bV,a,o,u,bq hi j];refine⟨?_,?_⟩
  all_goals
   refine ag y (de _ _ _ _) ?_;simp[go_sem];refine bn [9032] s rfl (ak (.one (B _ (by simp[lk,nb]))) (ak (.deep a9) aC)) ?_;simp[go_sem,aN];refine A _ _ ?_;simp[fv,lk]
 case hq =>
  simp[go_sem,ai];exact ae a9 rfl
theorem sA(inner:List Nat)(xs:List (List Nat))(E:Lf→Int):eE inner xs E=.tup [.nil,.d (.int .i64 1)]∨∃es,eE inner xs E=.tup [.d (.ro 34 es),.d (.int .i64 0)]:=by
 unfold eE;split;exact .inl rfl;exact .inr ⟨_,rfl⟩
def px(inner a:List Nat)(d:Int)(trig:List Nat)(E:Lf→Int):AV :=
 if 0≤d∧d≤65535∧a.length≤1000 then eE inner [aQ (fZ a),aQ (cH trig d)] E else .tup [.nil,.d (.int .i64 1)]
theorem ox(a:List Nat):(aQ (fZ a)).length≤70:=by
 have c:=nR a;have:=kz (fZ a) 32 (by
  intro w b;simp[fZ]at b;rcases b with rfl|rfl;have:=fC (pG a);omega
  simp)
 simpa[fZ]using this
theorem tH{t:List Nat}(d:Int)(b:t.length=32):(aQ (eV t d)).length≤175:=by
 have c:=iT d;have:=kz (eV t d) 32 (by
  intro w a;simp[eV,fy]at a;rcases a with rfl|rfl|rfl|rfl|rfl;have:=fC t;omega;have:=fC (aU d);omega
  all_goals simp)
 simpa[eV,fy]using this
theorem mA{trig:List Nat}(d:Int)(b:trig.length=32):(aQ (cH trig d)).length≤255:=by
 have c:=jm d;have:=kz (cH trig d) 48 (by
  intro w a;simp[cH]at a;rcases a with rfl|rfl|rfl|rfl|rfl;have:=fC trig;omega;simp;have:=fC (aQ (fy d));omega
  all_goals simp)
 simpa[cH]using this
theorem qJ(inner a:List Nat)(d:Int)(trig:List Nat)(hi:inner.length=32)(b:trig.length=32)(q:bytes trig)(p:-9223372036854775808≤d)(t:d<9223372036854775808)(O:Lf→List Nat)(E:Lf→Int)
  (c:∀l,l∈lL (bp [aQ (fZ a),aQ (cH trig d)]) [aQ (fZ a),aQ (cH trig d)]→ap Tryz.prog 46 [.agg (ar inner (.d (bS l.1)) (.d (nb l.2)))] (fun r=>r=.tup [.d (nb (O l)),.d (.int .i64 (E l))])) :
  ap Tryz.prog 30 [.agg (bB inner a d trig)] (fun r=>r=px inner a d trig E):=by
 refine bz Tryz.func30 Tryz.ntmps30 (rs:=[.tmp 2,.tmp 3]) (de _ _ _ _) ?_;have j:=dK hi b a d;unfold px;simp[go_sem,j,bq hi b];refine ag (VS inner a d trig hi b) (de _ _ _ _) ?_;by_cases f:0≤d∧d≤65535∧a.length≤1000
 ·rw[if_pos f];have h:=C0 inner [aQ (fZ a),aQ (cH trig d)] hi (by
   intro x m;simp at m;rcases m with rfl|rfl;have:=ox a;omega
   have:=mA d b;omega) ek O E c
  have s:=rO inner a d trig hi b aq;have o:=tX inner a d trig hi b q p t;simp only[decide_eq_true f];generalize aQ (fZ a)=x at *;generalize aQ (cH trig d)=y at *;have i:=sA inner [x,y] E;generalize eE inner [x,y] E=PV at *;simp[go_sem];refine cG [0,1,2,4] [(3,[]),(5,[]),(6,[]),(7,[8,9,10,11])] 4 (k:=12) ?_;intro G g;simp[go_sem,j,bq hi b,C4 hi];refine ag s (de _ _ _ _) ?_;simp[go_sem,j,bq hi b];refine ag o (de _ _ _ _) ?_;simp[go_sem];refine bn [384] h rfl (ak (.deep (aW _)) (ak (.one (ao (eu (ty:=31) (e:=1) (es:=[x,y].map lg) (by simp[lk,lg,nb]) aw rfl (by simp[lg])))) aC)) ?_;rcases i with rfl|⟨es,rfl⟩
  ·simp[go_sem,aN];refine g _ _ ?_;clear g G;simp[go_sem,ai];exact ae a9 rfl
  ·simp[go_sem,aN];refine g _ _ ?_;clear g G;simp[go_sem,ai];exact ae a9 rfl
 ·rw[if_neg f];simp only[decide_eq_false f];simp[go_sem,ai];exact ae a9 rfl
def Yi(v:AV):Bool:=match v with
 | .tup [.d _,_]=>true
 |_=>false
def erV(v:AV):AV:=match v with
 | .tup [_,e]=>e
 |_=>v
theorem zu(inner a:List Nat)(d:Int)(trig:List Nat)(hi:inner.length=32)(b:trig.length=32)(V:AV)(e:V=.tup [.nil,.d (.int .i64 1)]∨∃es,V=.tup [.d (.ro 34 es),.d (.int .i64 0)])
  (hp:ap Tryz.prog 30 [.agg (bB inner a d trig)] (fun r=>r=V)) :
  ap Tryz.prog 73 [.agg (bB inner a d trig)] (fun r=>r=erV V):=by
 refine bz Tryz.func73 Tryz.ntmps73 (rs:=[.tmp 2]) (de _ _ _ _) ?_;have c:=dK hi b a d;rcases e with rfl|⟨es,rfl⟩
 ·simp[go_sem,c,bq hi b];refine ag hp (de _ _ _ _) ?_;simp[go_sem,ai];exact ae a9 rfl
 ·simp[go_sem,c,bq hi b];refine ag hp (de _ _ _ _) ?_;simp[go_sem,ai];exact ae a9 rfl
theorem t7(inner a:List Nat)(d:Int)(trig t:List Nat)(hi:inner.length=32)(c:trig.length=32)(b:t.length=32)(o:bytes t)(u:-9223372036854775808≤d)(z:d<9223372036854775808)(V:AV)(s:V=.tup [.nil,.d (.int .i64 1)]∨a.length≤1000∧∃es,V=.tup [.d (.ro 34 es),.d (.int .i64 0)])
  (hp:ap Tryz.prog 30 [.agg (bB inner a d trig)] (fun r=>r=V)) (O:Lf→List Nat) (E:Lf→Int)
  (f:∀l,l∈lL (bp [aQ (fZ a),aQ (eV t d)]) [aQ (fZ a),aQ (eV t d)]→ap Tryz.prog 46 [.agg (ar inner (.d (bS l.1)) (.d (nb l.2)))] (fun r=>r=.tup [.d (nb (O l)),.d (.int .i64 (E l))])) :
  ap Tryz.prog 31 [.agg (bB inner a d trig),.agg (cb t)] (fun r=>r=if Yi V then eE inner [aQ (fZ a),aQ (eV t d)] E else .tup [.nil,.d (.int .i64 1)]):=by
 refine bz Tryz.func31 Tryz.ntmps31 (rs:=[.tmp 4,.tmp 5]) (sy _ _ _ _ _) ?_;have g:=dK hi c a d;have hc:=zu inner a d trig hi c V (s.imp id (fun h=>h.2)) hp;have p:=xY inner a d trig t hi c b o u z;rcases s with rfl|⟨v,es,rfl⟩
 ·simp[go_sem,g,bq hi c,aj,b,al b];refine ag hc (de _ _ _ _) ?_;simp[go_sem,erV,Yi,ai];exact ae a9 rfl
 ·have j:=C0 inner [aQ (fZ a),aQ (eV t d)] hi (by
   intro x q;simp at q;rcases q with rfl|rfl;have:=ox a;omega
   have:=tH d b;omega) ek O E f
  have w:=rO inner a d trig hi c aq;generalize aQ (fZ a)=x at *;generalize aQ (eV t d)=y at *;have m:=sA inner [x,y] E;generalize eE inner [x,y] E=PV at *;simp[go_sem,g,bq hi c,aj,b,al b];refine ag hc (de _ _ _ _) ?_;simp[go_sem,erV,Yi,g,bq hi c,aj,b,al b];refine ag p (sy _ _ _ _ _) ?_;simp[go_sem];refine cG [0,1,2,4] [(3,[]),(5,[]),(6,[7,8,9,10])] 3 (k:=11) ?_;intro G i;simp[go_sem,g,bq hi c,C4 hi];refine ag w (de _ _ _ _) ?_;simp[go_sem,g,bq hi c];refine bn [768] j rfl (ak (.deep (aW _)) (ak (.one (ao (eu (ty:=31) (e:=1) (es:=[x,y].map lg) (by simp[lk,lg,nb]) aw rfl (by simp[lg])))) aC)) ?_;rcases m with rfl|⟨es,rfl⟩
  ·simp[go_sem,aN];refine i _ _ ?_;clear i G;simp[go_sem,ai];exact ae a9 rfl
  ·simp[go_sem,aN];refine i _ _ ?_;clear i G;simp[go_sem,ai];exact ae a9 rfl
def ua:Nat→Row→iU→List (List Nat)→Prop
 |_,[],_,_=>True
 |s,p::r,f,xs=>bytes p.1∧(∀j x,s≤j→j<s+p.2→xs[j]?=some x→jd (f j) (db x)=p.1)∧ua (s+p.2) r f xs
theorem zw:∀(r:Row)(s:Nat)(f g:iU)(xs:List (List Nat)),(∀j,s≤j→f j=g j)→ua s r f xs→ua s r g xs
 |[],_,_,_,_,_,_=>trivial
 |p::r,s,f,g,xs,h,hg=>⟨hg.1,fun j x a c b=>by rw[←h j a];exact hg.2.1 j x a c b,zw r (s+p.2) f g xs (fun j d=>h j aq) hg.2.2⟩
theorem mC{first k:Nat}{h:List Nat}{f:iU}{j:Nat}(hj:j<first∨first+k≤j):cy first k h f j=f j:=by
 unfold cy;rw[if_neg aq]
theorem Ij{first k:Nat}{h:List Nat}{f:iU}{j:Nat}(a:first≤j)(b:j<first+k):cy first k h f j=f j++[h]:=by
 unfold cy;rw[if_pos ⟨a,b⟩]
theorem xw:∀(q:Row)(s:Nat)(g:iU)(j:Nat),j<s→fF s q g j=g j
 |[],_,_,_,_=>rfl
 |[a],_,_,_,_=>rfl
 |a::b::r,s,g,j,h=>by
  rw[fF,xw r _ _ _ aq,mC aq,mC aq]
theorem zx(q:List (List Nat))(p h:List Nat):jd (q++[p]) h=cq (jd q h) p:=by simp[jd]
theorem xZ(a b:List Nat):bytes (cq a b):=ik _
theorem D5(x:List Nat):bytes (db x):=ik _
theorem xA:∀(q:Row)(s:Nat)(g:iU)(xs:List (List Nat)),ua s q g xs→ua s (dG q) (fF s q g) xs
 |[],_,_,_,h=>h
 |[a],_,_,_,h=>h
 | a :: b :: r,s,g,xs,h=>by
  obtain⟨f,i,o,k,l⟩:=h;rw[dG,fF];refine⟨xZ _ _,fun j x d m e=>?_,?_⟩;simp only at m;rw[xw _ _ _ _ aq];by_cases c:j<s+a.2;rw[mC (.inl c),Ij d c,zx,i j x d c e];rw[Ij aq aq,mC (.inr aq),zx,k j x aq aq e];exact Ae o f;simp only;rw[←Nat.add_assoc];exact xA r _ _ xs (zw r _ g _ xs (fun j c=>by rw[mC (.inr c),mC (.inr aq)]) l)
theorem ub:∀(n:Nat)(q:Row)(g:iU)(xs:List (List Nat)),ua 0 q g xs→ua 0 (dP n q g).1 (dP n q g).2 xs
 |0,q,g,xs,h=>h
 |n+1,q,g,xs,h=>by
  rw[dP];split;exact ub n _ _ xs (xA q 0 g xs h);exact h
theorem uc:∀(n:Nat)(q:Row)(g:iU),gJ (dP n q g).1=gJ q
 |0,q,g=>rfl
 |n+1,q,g=>by
  rw[dP];split;rw[uc n,qk];rfl
theorem ud:∀(n:Nat)(q:Row)(g:iU),q.length≤n+1→(dP n q g).1.length≤1
 |0,q,g,h=>h
 |n+1,q,g,h=>by
  rw[dP];split;refine ud n _ _ ?_;have:=nV q;omega;rename_i a;show q.length≤1;omega
theorem zy:∀(pre xs:List (List Nat)),ua pre.length (fj xs) (fun _=>[]) (pre++xs)
 |pre,[]=>trivial
 | pre,x :: r=>by
  refine⟨D5 x,fun j y c b a=>?_,?_⟩;have:j=pre.length:=by simp only at b;omega
  subst this;rw[dn (cL _),Nat.sub_self]at a;simp only[List.getElem?_cons_zero,Option.some.injEq]at a;subst a;rfl;have:=zy (pre++[x]) r;simpa[fj]using this
theorem D6(xs:List (List Nat))(f:xs.length≤8):∃h,∀l,l∈lL (bp xs) xs→jd l.1 (db l.2)=h:=by
 have g:=ub 7 (fj xs) (fun _=>[]) xs (by simpa using zy [] xs);have t:=uc 7 (fj xs) (fun _=>[]);have s:=ud 7 (fj xs) (fun _=>[]) (by simp[fj];omega);rw[qm]at t;have d:bp xs=(dP 7 (fj xs) fun _=>[]).2:=rfl;rw[d];generalize dP 7 (fj xs) (fun _=>[])=RF at *;obtain⟨R,F⟩:=RF;simp only at g t s⊢
 match R,s,t,g with
 |[],_,t,_ =>
  refine⟨[],fun l c=>?_⟩;have:xs=[]:=List.eq_nil_of_length_eq_zero (by simpa[gJ]using t.symm);subst this;simp[lL]at c
 |[p],_,t,g =>
  refine⟨p.1,fun l c=>?_⟩;simp only[lL,List.mem_mapIdx]at c;obtain⟨j,e,rfl⟩:=c;exact g.2.1 j _ (Nat.zero_le _) (by simp[gJ]at t;omega) (cm e)
 |a::b::r,s,_,_=>simp at s
theorem py:∀(n:Nat)(q:Row)(g:iU)(B:Nat),(∀j,(g j).length≤B)→∀j,((dP n q g).2 j).length≤B+n
 |0,q,g,B,h=>h
 | n+1,q,g,B,h=>by
  rw[dP];split
  ·intro j;have d:∀(r:Row)(s:Nat)(f:iU),(∀j,(f j).length≤if j<s then B+1 else B)→∀j,(fF s r f j).length≤B+1:=by
    intro r
    induction r using dG.induct with
    |case1 a b r ih =>
     intro s f c;exact ih _ _ (rK (rK c (cL _)) (cL _))
    | case2 r hr =>
     intro s f c j;have:=c j;have e:fF s r f=f:=by
      match r,hr with
      |[],_=>rfl
      |[a],_=>rfl
      |a::b::r,hr=>exact absurd rfl (hr a b r)
     rw[e];split at this<;>omega
   have:=py n (dG q) (fF 0 q g) (B+1) (d q 0 g (fun j=>by have:=h j;simp;exact this)) j;omega
  ·intro j;have:=h j;show(g j).length≤_;omega
theorem sB:∀(n:Nat)(q:Row)(g:iU),(∀p,p∈q→p.1.length=32)→TR g→TR (dP n q g).2
 |0,q,g,_,h=>h
 | n+1,q,g,hq,h=>by
  rw[dP];split
  ·refine sB n _ _ (uC q hq) ?_;have e:∀(r:Row)(s:Nat)(f:iU),(∀p,p∈r→p.1.length=32)→TR f→TR (fF s r f):=by
    intro r
    induction r using dG.induct with
    |case1 a b r ih =>
     intro s f c d;exact ih _ _ (fun p i=>c p (by simp[i])) (uE (uE d (c b aw)) (c a aw))
    |case2 r c =>
     intro s f _ d
     match r,c with
     |[],_=>exact d
     |[a],_=>exact d
     |a::b::r,c=>exact absurd rfl (c a b r)
   exact e q 0 g hq h
  ·exact h
open Go.Am Go.Sha Go.Ec
theorem Be:∀{a b:List Nat},a.length=b.length→bytes a→bytes b→eo a=eo b→a=b
 |[],[],_,_,_,_=>rfl
 |[],y::s,h,_,_,_=>by simp at h
 |x::r,[],h,_,_,_=>by simp at h
 | x :: r,y :: s,h,ha,hb,he=>by
  have e:r.length=s.length:=by simpa using h
  rw[xf,xf,e]at he;have i:eo r<256 ^ s.length:=by
   have:=uP r (fun z c=>ha z (cS _ c)) 0;rw[Nat.zero_add,Nat.one_mul,e]at this;exact this
  have k:eo s<256 ^ s.length:=by
   have:=uP s (fun z c=>hb z (cS _ c)) 0;rw[Nat.zero_add,Nat.one_mul]at this;exact this
  generalize 256 ^ s.length=P at *;have d:x=y:=by
   have f:=congrArg (·/P) he;have g:∀u v:Nat,v<P→(u*P+v)/P=u:=fun u v j=>by
    rw[Nat.mul_comm,Nat.mul_add_div aq,Nat.div_eq_of_lt j,Nat.add_zero]
   simp only[g _ _ i,g _ _ k]at f;exact f
  subst d;rw[Be e (fun z c=>ha z (cS _ c)) (fun z c=>hb z (cS _ c)) aq]
theorem Gu{n t:Nat}{k f:List Nat}{o i:Bool}{e r:Int}(v:k.length=32)(B:bytes k)(m:f.length=32)(l:bytes f)(h:DT n t k o e)(q:DT n t f i r):k=f∧o=i∧e=r:=by
 rcases h with ⟨a,rfl,rfl,rfl⟩|⟨a,rfl,x,y,g,u,p⟩;rcases q with ⟨_,rfl,rfl,rfl⟩|⟨b,_,A,s,c,_,_⟩;exact⟨rfl,rfl,rfl⟩;rcases a with a|a;exact absurd b a;rw[a]at c;cases c;rcases q with ⟨b,_,_,_⟩|⟨_,rfl,A,s,c,j,d⟩;rcases b with b|b;exact absurd a b;rw[b]at g;cases g;have e:=Option.some.inj (g.symm.trans c);injection e with z w;subst z w;refine⟨Be (by rw[v,m]) B l (by rw[u,j]),?_,rfl⟩;cases o<;>cases i
 rfl;exact absurd (p.2 (d.1 rfl)) (by decide);exact absurd (d.2 (p.1 rfl)) (by decide);rfl
theorem Bf{f:iU}{xs:List (List Nat)}{l:Lf}(h:l∈lL f xs):∃j:Nat,l.1=f j∧l.2∈xs:=by
 simp only[lL,List.mem_mapIdx]at h;obtain⟨j,a,rfl⟩:=h;exact⟨j,rfl,List.getElem_mem _⟩
def XE(inner:List Nat)(l:Lf)(O:List Nat)(e:Int):Prop:=(e=0∧∃k o,k.length=32∧bytes k∧O=81::32::k∧sf inner l.1 l.2 k o 0)∨(e=1∧O=[])
theorem SJ(inner:List Nat)(xs:List (List Nat))(hi:inner.length=32)(a:bytes inner)(h:∀x,x∈xs→x.length≤100000)(l:Lf)(u:l∈lL (bp xs) xs) :
  ∃p:List Nat×Int,XE inner l p.1 p.2∧ap Tryz.prog 46 [.agg (ar inner (.d (bS l.1)) (.d (nb l.2)))] (fun r=>r=.tup [.d (nb p.1),.d (.int .i64 p.2)]):=by
 obtain⟨j,f,t⟩:=Bf u;have s:∀p,p∈l.1→p.length=32:=by
  rw[f];exact sB 7 (fj xs) (fun _=>[]) (rJ xs) (fun j p m=>by simp at m) j
 have v:l.1.length≤1000:=by
  rw[f];have:=py 7 (fj xs) (fun _=>[]) 0 (fun _=>by simp) j;show((dP 7 (fj xs) fun _=>[]).2 j).length≤1000;omega
 obtain⟨k,o,e,b,c,q,g,_,i⟩:=pn inner l.1 l.2 hi a s v (h _ t);rcases q with rfl|rfl;exact⟨(81::32::k,0),.inl ⟨rfl,k,o,b,c,rfl,i⟩,jr hi b g⟩;exact⟨([],1),.inr ⟨rfl,rfl⟩,tw hi b g⟩
theorem abx(inner:List Nat)(xs:List (List Nat))(hi:inner.length=32)(a:bytes inner)(f:∀x,x∈xs→x.length≤100000) :
  ∃(O:Lf→List Nat)(E:Lf→Int),∀l,l∈lL (bp xs) xs→XE inner l (O l) (E l)∧ap Tryz.prog 46 [.agg (ar inner (.d (bS l.1)) (.d (nb l.2)))] (fun r=>r=.tup [.d (nb (O l)),.d (.int .i64 (E l))]):=by
 obtain⟨F,c⟩:=Classical.axiomOfChoice (r:=fun(l:Lf)(p:List Nat×Int)=>l∈lL (bp xs) xs→XE inner l p.1 p.2∧ap Tryz.prog 46 [.agg (ar inner (.d (bS l.1)) (.d (nb l.2)))] (fun r=>r=.tup [.d (nb p.1),.d (.int .i64 p.2)])) (fun l=>by
  by_cases h:l∈lL (bp xs) xs;obtain⟨p,e⟩:=SJ inner xs hi a f l h;exact⟨p,fun _=>e⟩
  exact⟨([],0),fun b=>absurd b h⟩)
 exact⟨fun l=>(F l).1,fun l=>(F l).2,c⟩
end Go.Proofs.YtmfnimjnneflnaaGreat
namespace Go.Ec
open CR
section
variable {n:Nat} [NeZero n]
abbrev N3:=Nat×Nat×Nat
def JF(p:Nat)(u v:N3):N3 :=
 uj (u.1*v.2.1+v.1*u.2.1) fun b=>uj (u.2.1*v.2.2+v.2.1*u.2.2) fun g=>uj (u.1*v.2.2+v.1*u.2.2) fun c =>
 uj (u.2.1*v.2.1%p) fun f=>uj (u.2.2*v.2.2*21%p) fun h=>uj (u.1*v.1) fun a =>
 uj (f+(p-h)) fun d=>uj (f+h) fun e =>
 uj ((b*d+(p-21*(g*c)%p))%p) fun X=>uj ((e*d+63*(a*c))%p) fun Y=>uj ((g*e+3*(a*b))%p) fun Z=>(X,Y,Z)
def D7(n:Nat)[NeZero n](u:N3):yZ n:=(Fin.ofNat n u.1,Fin.ofNat n u.2.1,Fin.ofNat n u.2.2)
theorem uS(a b:Nat):Fin.ofNat n (a+b)=Fin.ofNat n a+Fin.ofNat n b:=Fin.ext (by rw[Fin.val_add];show(a+b)%n=(a%n+b%n)%n;rw[←Nat.add_mod])
theorem Bg(a b:Nat):Fin.ofNat n (a*b)=Fin.ofNat n a*Fin.ofNat n b:=Fin.ext (by rw[Fin.val_mul];show a*b%n=(a%n)*(b%n)%n;rw[←Nat.mul_mod])
theorem Bh(a:Nat):Fin.ofNat n (a%n)=Fin.ofNat n a:=Fin.ext (by show a%n%n=a%n;rw[Nat.mod_mod])
theorem Bi{a:Nat}(h:a≤n):Fin.ofNat n (n-a)=- Fin.ofNat n a:=by
 have e:Fin.ofNat n (n-a)+Fin.ofNat n a=0:=by
  rw[←uS,Nat.sub_add_cancel h];exact Fin.ext (by show n%n=0%n;rw[Nat.mod_self,Nat.zero_mod])
 generalize Fin.ofNat n (n-a)=x at *;generalize Fin.ofNat n a=y at *
 grobner
theorem Om(hp:0<n)(u v:N3):D7 n (JF n u v)=dk (D7 n u) (D7 n v):=by
 obtain⟨a,b,c⟩:=u;obtain⟨d,e,f⟩:=v;simp only[JF,kN,D7,dk,FX,Ez,pK,DF,FZ,OX];have i:c*f*21%n≤n:=Nat.le_of_lt (Nat.mod_lt _ hp);have j:∀z,z%n≤n:=fun z=>Nat.le_of_lt (Nat.mod_lt _ hp);have g:Fin.ofNat n 21=(21:Fin n):=rfl;have h:Fin.ofNat n 63=(63:Fin n):=rfl;have k3:Fin.ofNat n 3=(3:Fin n):=rfl;refine Prod.ext ?_ (Prod.ext ?_ ?_);dsimp only;simp only[Bh,uS,Bg,Bi i,Bi (j _),g]
 grobner
 ·dsimp only;simp only[Bh,uS,Bg,Bi i,g,h]
  grobner
 ·dsimp only;simp only[Bh,uS,Bg,g,k3]
  grobner
def Bz(f:Fd n)(t:yZ n)(P:Pt n):Prop:=∃k,k≠0∧t=sc k (pr P)
theorem Ik(f:Fd n){s t:yZ n}{P Q:Pt n}(h:gz P)(i:gz Q)(c:Bz f s P)(g:Bz f t Q):Bz f (dk s t) (sum f P Q):=by
 obtain⟨k,b,rfl⟩:=c;obtain⟨l,a,rfl⟩:=g;obtain⟨m,d,e⟩:=wV f h i;exact⟨k*k*(l*l)*m,f.mul_ne (f.mul_ne (f.mul_ne b b) (f.mul_ne a a)) d,by rw[F2,e,Nz]⟩
def JG(p:Nat)(g:N3):Nat→Nat→N3→N3
 |0,_,acc=>acc
 |j+1,k,acc=>bif (k/2 ^ j%2).beq 1 then JG p g j k (JF p (JF p acc acc) g)else JG p g j k (JF p acc acc)
theorem sC(f:Fd n)(hp:0<n){g:N3}{P:Pt n}(b:gz P)(c:Bz f (D7 n g) P)(k:Nat):∀(j:Nat)(a:N3),Bz f (D7 n a) (mp f (k/2 ^ j) P)→Bz f (D7 n (JG n g j k a)) (mp f k P)
 |0,a,h=>by rw[Nat.pow_zero,Nat.div_one]at h;exact h
 | j+1,a,h=>by
  have e:k/2 ^ j=2*(k/2 ^ (j+1))+k/2 ^ j%2:=by rw[Nat.pow_succ,←Nat.div_div_eq_div_mul];omega
  have d:=ki f b (k/2 ^ (j+1));have l:Bz f (D7 n (JF n a a)) (mp f (2*(k/2 ^ (j+1))) P):=by
   rw[Om hp,F4 f b];exact Ik f d d h h
  rw[JG];cases i:(k/2 ^ j%2).beq 1 with
  |true =>
   rw[cond_true];refine sC f hp b c k j _ ?_;have m:=Nat.eq_of_beq_eq_true i;rw[e,m,mp,Om hp];exact Ik f (ki f b _) b l c
  | false =>
   rw[cond_false];refine sC f hp b c k j _ ?_;have o:k/2 ^ j%2=0:=by
    have:=Nat.ne_of_beq_eq_false i;omega
   rw[e,o,Nat.add_zero];exact l
theorem On(f:Fd n){t:yZ n}{P:Pt n}(h:Bz f t P)(hz:t.2.2=0):P=none:=by
 obtain⟨k,a,rfl⟩:=h;cases P with
 |none=>rfl
 |some p =>
  have:k*ic 1=0:=hz;rw[JX]at this;exact absurd (by grobner) a
theorem Oo(f:Fd n){t:yZ n}{P:Pt n}(h:Bz f t P)(hz:t.2.2≠0):P≠none:=by
 rintro rfl;obtain⟨k,a,rfl⟩:=h;refine hz ?_;show k*ic 0=0;rw[FY]
 grobner
end
end Go.Ec
namespace Go.Sha
def EF{α:Type}:Nat→S8→List Nat→(S8→α)→α
 |0,s,_,C=>C s
 |n+1,s,b,C=>LM s (b.take 64) fun a=>EF n a (b.drop 64) C
theorem Um{α:Type}:∀(n:Nat)(s:S8)(b:List Nat)(C:S8→α),b.length=64*n→EF n s b C=C (E s b).1
 |0,s,b,C,h=>by rw[qd aq];rfl
 |n+1,s,b,C,h=>by rw[EF,LN,Um n _ _ C (by rw[et];omega),←sU aq]
theorem j7(b:List Nat)(n:Nat)(h:(Go.Proofs.YtmfnimjnneflnaaGreat.lastOf b b.length).length=64*n):CH (Go.Proofs.YtmfnimjnneflnaaGreat.lastOf b b.length) (fun l=>EF n H0 l IP)=b7 b:=by
 rw[vK,Um n _ _ _ h,LO b.length b.length H0 b (cL _)];rfl
def dRe:List Nat:=(53::61::94::253::190::113::247::57::66::161::185::17::45::254::199::124::103::226::249::163::120::195::190::87::55::214::250::73::198::85::133::208::[])
def aa0:List Nat:=(86::97::117::108::116::82::101::99::111::118::101::114::121::[])
theorem XF:b7 (aa0)=dRe:=by
 rw[←j7 (aa0) 1 (by kernel_rfl)]
 kernel_rfl
def Gv:List Nat:=(174::234::143::220::66::8::152::49::5::115::75::88::8::29::30::38::56::211::95::28::181::64::8::212::211::87::202::3::190::120::233::238::[])
def aa1:List Nat:=(84::97::112::76::101::97::102::[])
theorem XG:b7 (aa1)=Gv:=by
 rw[←j7 (aa1) 1 (by kernel_rfl)]
 kernel_rfl
def SK:List Nat:=(25::65::161::242::229::110::185::95::162::169::241::148::190::92::1::247::33::111::51::237::130::176::145::70::52::144::208::91::245::22::160::21::[])
def aa2:List Nat:=(84::97::112::66::114::97::110::99::104::[])
theorem Oq:b7 (aa2)=SK:=by
 rw[←j7 (aa2) 1 (by kernel_rfl)]
 kernel_rfl
def SL:List Nat:=(232::15::225::99::156::156::160::80::227::175::27::57::193::67::198::62::66::156::188::235::21::217::64::251::181::197::161::244::175::87::197::233::[])
def aa3:List Nat:=(84::97::112::84::119::101::97::107::[])
theorem Ot:b7 (aa3)=SL:=by
 rw[←j7 (aa3) 1 (by kernel_rfl)]
 kernel_rfl
def dR0:List Nat:=(189::152::121::193::58::236::75::153::122::243::17::30::133::43::55::145::168::204::221::212::128::76::17::134::159::142::251::34::161::5::209::59::[])
theorem XH:b7 (dRe++(dRe++(0::[])))=dR0:=by
 rw[←j7 (dRe++(dRe++(0::[]))) 2 (by kernel_rfl)]
 kernel_rfl
def Yj:List Nat:=(32::189::152::121::193::58::236::75::153::122::243::17::30::133::43::55::145::168::204::221::212::128::76::17::134::159::142::251::34::161::5::209::59::188::[])
def Ou:List Nat:=(32::0::0::0::0::0::0::0::0::0::0::0::0::0::0::0::0::0::0::0::0::0::0::0::0::0::0::0::0::0::0::0::0::173::4::83::178::117::179::81::187::[])
def x4:List Nat:=(32::9::0::0::0::0::0::0::0::0::0::0::0::0::0::0::0::0::0::0::0::0::0::0::0::0::0::0::0::0::0::0::0::83::178::117::179::[])
def bG:List Nat:=(121::190::102::126::249::220::187::172::85::160::98::149::206::135::11::7::2::155::252::219::45::206::40::217::89::242::129::91::22::248::23::152::[])
def dX:List Nat:=(251::255::171::80::118::245::250::144::87::15::24::166::210::84::52::117::148::127::52::144::68::199::31::12::209::106::209::21::214::95::92::182::[])
theorem aa4:b7 (Gv++(Gv++(192::34::Yj)))=dX:=by
 rw[←j7 (Gv++(Gv++(192::34::Yj))) 2 (by kernel_rfl)]
 kernel_rfl
def SN:List Nat:=(19::6::206::238::128::236::162::250::80::202::182::106::0::179::158::213::127::57::234::176::91::142::57::191::101::17::44::135::204::198::249::4::[])
theorem XI:b7 (Gv++(Gv++(192::41::Ou)))=SN:=by
 rw[←j7 (Gv++(Gv++(192::41::Ou))) 2 (by kernel_rfl)]
 kernel_rfl
def SQ:List Nat:=(171::174::215::172::224::121::165::87::203::160::248::177::70::224::77::193::3::205::50::173::167::234::209::141::7::74::140::29::143::83::189::46::[])
theorem XJ:b7 (Gv++(Gv++(192::37::x4)))=SQ:=by
 rw[←j7 (Gv++(Gv++(192::37::x4))) 2 (by kernel_rfl)]
 kernel_rfl
def dB1:List Nat:=(89::211::248::89::95::4::123::31::133::170::29::17::173::17::123::176::22::143::236::70::146::10::251::25::227::240::180::5::62::146::169::246::[])
theorem XK:b7 (SK++(SK++(SN++dX)))=dB1:=by
 rw[←j7 (SK++(SK++(SN++dX))) 3 (by kernel_rfl)]
 kernel_rfl
def dT1:List Nat:=(20::212::211::23::126::240::124::59::195::144::104::231::190::253::191::133::168::75::233::181::62::195::202::75::34::216::7::68::160::102::148::182::[])
theorem XL:b7 (SL++(SL++(bG++dB1)))=dT1:=by
 rw[←j7 (SL++(SL++(bG++dB1))) 3 (by kernel_rfl)]
 kernel_rfl
def dB2:List Nat:=(143::143::109::45::225::67::67::97::216::90::193::220::57::140::111::162::227::169::253::128::179::169::249::191::164::187::92::79::147::129::79::95::[])
theorem XM:b7 (SK++(SK++(SQ++dX)))=dB2:=by
 rw[←j7 (SK++(SK++(SQ++dX))) 3 (by kernel_rfl)]
 kernel_rfl
def dT2:List Nat:=(9::214::53::3::89::7::10::110::242::225::59::183::117::47::204::209::59::63::101::133::12::199::183::84::40::106::18::30::18::189::131::84::[])
theorem XN:b7 (SL++(SL++(bG++dB2)))=dT2:=by
 rw[←j7 (SL++(SL++(bG++dB2))) 3 (by kernel_rfl)]
 kernel_rfl
end Go.Sha
namespace Go.Proofs.YtmfnimjnneflnaaGreat
open Go.Am Go.Sha Go.Ec
theorem Gw:eo bG=55066263022277343669578718895168534326250603453777594175500187360389116729240:=by kernel_rfl
theorem Il(c e p:Nat):(c:Int) ^ e%(p:Int)=((c ^ e%p:Nat):Int):=by rw[Int.natCast_emod,Int.natCast_pow]
def bC:Nat:=32748224938747404814623910738487752935528512903530129802856995983256684603122
def bY:Nat:=32670510020758816978083085130507043184471273380659243275938904335757337482424
def bE:Nat:=28948022309329048855892746252171976963317496166410141009864396001977208667916
theorem D8:jY (eo bG)=(bC:Int):=by rw[Gw];kernel_rfl
theorem D9:gW (eo bG)=(bY:Int):=by
 have e:gW (eo bG)=jY (eo bG) ^ bE%(pP:Int):=by rw[ef];rfl
 have h:=ti pP 300 bC bE 1 (fD (by kernel_rfl)) (Nat.mod_eq_of_lt (fD (by kernel_rfl)));have a:WP pP 300 bC bE 1=bY:=by kernel_rfl
 rw[e,D8,Il];rw[a,Nat.one_mul]at h;rw[←h]
theorem JH:lR (eo bG):=by
 refine⟨?_,?_⟩;rw[Gw];omega;rw[D9,D8];kernel_rfl
theorem JI:liftPt (eo bG)=PV gX gY false:=by
 have b:V gX=((eo bG:Nat):Int):=by rw[Gw];kernel_rfl
 have c:V gY=((bY:Nat):Int):=by kernel_rfl
 have a:((bY:Nat):Int)%2=0:=by kernel_rfl
 show some (Ey pP ((eo bG:Nat):Int),Ey pP (if gW (eo bG)%2=0 then gW (eo bG)else _))=some (Ey pP (V gX),Ey pP (V gY));rw[b,c,D9,if_pos a]
theorem sD:(1:F)≠0:=fun h=>absurd (congrArg Fin.val h) (by
 show ¬ 1%pP=0%pP;rw[Nat.zero_mod,Nat.mod_eq_of_lt (by rw[mX];omega)]
 omega)
theorem Ea(k:Nat)(i:k<2 ^ 256)(h:(JG pP (55066263022277343669578718895168534326250603453777594175500187360389116729240,bY,1) 256 k (0,1,0)).2.2%pP≠0):mp fd k (PV gX gY false)≠none:=by
 have a:=lA pe;have e:FV gX=Fin.ofNat pP 55066263022277343669578718895168534326250603453777594175500187360389116729240:=by
  refine nq ?_;rw[dT,←ef]
  kernel_rfl
 have f:FV gY=Fin.ofNat pP bY:=by
  refine nq ?_;rw[dT,←ef]
  kernel_rfl
 have g:Bz fd (D7 pP (55066263022277343669578718895168534326250603453777594175500187360389116729240,bY,1)) (PV gX gY false):=by
  refine⟨1,sD,?_⟩;show _=sc 1 (FV gX,FV gY,CR.ic 1);rw[e,f];simp only[sc,D7,Fin.one_mul];rfl
 have c:Bz fd (D7 pP (0,1,0)) (mp fd (k/2 ^ 256) (PV gX gY false)):=by
  rw[Nat.div_eq_of_lt i];refine⟨1,sD,?_⟩;show _=sc 1 (CR.ic 0,CR.ic 1,CR.ic 0);simp only[sc,D7,Fin.one_mul];rfl
 have d:=sC fd (by rw[mX];omega) a g k 256 (0,1,0) c;refine Oo fd d ?_;intro b;refine h ?_;exact congrArg Fin.val b
theorem XO:mp fd 9422285451324570057901192470951034667041824789260974292028693021899629171895 (PV gX gY false)≠none:=Ea _ (fD (by kernel_rfl)) (Nat.ne_of_beq_eq_false (by kernel_rfl))
theorem XP:mp fd 4449286791923882000517327537479225864197293264887270585588255640113699980117 (PV gX gY false)≠none:=Ea _ (fD (by kernel_rfl)) (Nat.ne_of_beq_eq_false (by kernel_rfl))
structure LfK(inner:List Nat)(l:Lf)(x k:List Nat)(o:Bool):Prop where
 s:l.2=x
 p:∀p,p∈l.1→p.length=32
 pl:l.1.length≤8
 xl:x.length≤1000
 kl:k.length=32
 kb:bytes k
 t:ap Tryz.prog 92 [cF inner l.1 l.2] (fun r=>r=.tup [.agg (cb k),.d (.bool o),.d (.int .i64 0)])
def zA:AV:=.tup [.nil,.d (.int .i64 1)]
def xB(inner:List Nat)(a b:Lf):AV:=.tup [.d (.ro 34 [dY inner a,dY inner b]),.d (.int .i64 0)]
theorem tJ(inner X Y:List Nat)(hi:inner.length=32)(x:bytes inner)(P:X.length≤1000)(G:Y.length≤1000) :
  ∃(O:Lf→List Nat)(E:Lf→Int),(∀l,l∈lL (bp [X,Y]) [X,Y]→ap Tryz.prog 46 [.agg (ar inner (.d (bS l.1)) (.d (nb l.2)))] (fun r=>r=.tup [.d (nb (O l)),.d (.int .i64 (E l))])) ∧
   (eE inner [X,Y] E=zA∨∃l0 l1 k o0 o1,eE inner [X,Y] E=xB inner l0 l1∧LfK inner l0 X k o0∧LfK inner l1 Y k o1):=by
 have g:∀l,l∈lL (bp [X,Y]) [X,Y]→(∀p,p∈l.1→p.length=32)∧l.1.length≤7∧l.2.length≤1000:=by
  intro l i;obtain⟨j,q,c⟩:=Bf i;refine⟨?_,?_,?_⟩;rw[q];exact sB 7 (fj [X,Y]) (fun _=>[]) (rJ [X,Y]) (fun j p g=>by simp at g) j
  rw[q];have:=py 7 (fj [X,Y]) (fun _=>[]) 0 (fun _=>by simp) j;show((dP 7 (fj [X,Y]) fun _=>[]).2 j).length≤7;omega
  simp only[d_,List.mem_nil_iff,or_false]at c;rcases c with c|c<;>rw[c]<;>assumption
 obtain⟨F,w⟩:=Classical.axiomOfChoice (r:=fun(l:Lf)(p:List Nat×Bool×Int)=>l∈lL (bp [X,Y]) [X,Y]→p.1.length=32∧bytes p.1∧E1 p.2.2∧ap Tryz.prog 92 [cF inner l.1 l.2] (fun r=>r=.tup [.agg (cb p.1),.d (.bool p.2.1),.d (.int .i64 p.2.2)])∧sf inner l.1 l.2 p.1 p.2.1 p.2.2) (fun l=>by
  by_cases h:l∈lL (bp [X,Y]) [X,Y];obtain⟨q,c,R⟩:=g l h;obtain⟨k,o,e,y,z,L,N,_,J⟩:=pn inner l.1 l.2 hi x q aq aq;exact⟨(k,o,e),fun _=>⟨y,z,L,N,J⟩⟩
  exact⟨([],false,0),fun I=>absurd I h⟩)
 have m:(bp [X,Y] 0,X)∈lL (bp [X,Y]) [X,Y]:=by simp[lL]
 have u:(bp [X,Y] 1,Y)∈lL (bp [X,Y]) [X,Y]:=by simp[lL]
 refine⟨fun l=>if(F l).2.2=0 then 81::32::(F l).1 else[],fun l=>(F l).2.2,fun l i=>?_,?_⟩;obtain⟨b,v,f,a,A⟩:=w l i;simp only;rcases f with f|f;rw[f]at a⊢;rw[if_pos rfl];exact jr hi b a;rw[f]at a⊢;rw[if_neg aq];exact tw hi b a;by_cases s:rL (fun l=>(F l).2.2) (lL (bp [X,Y]) [X,Y])=true;exact .inl (if_pos (.inr (.inr s)));refine .inr ?_;have C:∀l,l∈lL (bp [X,Y]) [X,Y]→(F l).2.2=0:=by
  intro l i;simp only[rL,List.any_eq_true,Bool.not_eq_true',decide_eq_false_iff_not,not_exists,not_and,Classical.not_not]at s;exact s l i
 obtain⟨b,v,_,a,A⟩:=w _ m;obtain⟨H,b2,_,b4,b5⟩:=w _ u;obtain⟨K,Q,S⟩:=g _ m;obtain⟨M,U,T⟩:=g _ u;rw[C _ m]at a A;rw[C _ u]at b4 b5;obtain⟨h,B⟩:=D6 [X,Y] aw;have y:(F (bp [X,Y] 0,X)).1=(F (bp [X,Y] 1,Y)).1:=by
  rcases A with ⟨_,e,_⟩|⟨_,t⟩;cases e;rcases b5 with ⟨_,e,_⟩|⟨_,D⟩;cases e;rw[B _ m]at t;rw[B _ u]at D;exact(Gu b v H b2 t D).1
 refine⟨(bp [X,Y] 0,X),(bp [X,Y] 1,Y),(F (bp [X,Y] 0,X)).1,(F (bp [X,Y] 0,X)).2.1,(F (bp [X,Y] 1,Y)).2.1,?_,⟨rfl,K,aq,P,b,v,a⟩,⟨rfl,M,aq,G,b,v,?_⟩⟩;unfold eE;rw[if_neg (by
  rintro(h|h|h);simp at h;simp at h
  exact s h)]
 rfl;rw[y];exact b4
end Go.Proofs.YtmfnimjnneflnaaGreat
namespace Go.Sha
open Go.Proofs.YtmfnimjnneflnaaGreat Go.Am
theorem pz(t:List Nat)(h:t.length≤65535):(cN t).2.length≤65535:=by
 have:=fC t;omega
theorem Ov{x:Rx}{s rest:List Nat}{f a:Nat}{r:Rn}{w:Wd}(g:r.e=0)(d:w.2.length≤65535)(i:(dF w).2=true)(b:s.drop a=(dF w).1++rest) :
  nA x s (f+1) a r=nA x s f (a+(dF w).1.length) (lN x w r)∧s.drop (a+(dF w).1.length)=rest:=by
 have h:=D3 d i b;have j:0<(dF w).1.length:=by
  unfold dF;split;exact Nat.succ_pos _;split;exact Nat.succ_pos _;split;exact Nat.succ_pos _;exact Nat.succ_pos _
 have c:a<s.length:=by
  have:=congrArg List.length b;rw[et,b_]at this;omega
 refine⟨?_,?_⟩;rw[nA,if_pos ⟨c,g⟩,h];rw[←List.drop_drop,b,List.drop_left]
theorem Eb{x:Rx}{s:List Nat}{a:Nat}{r:Rn}(h:r.e≠0∨s.drop a=[]):∀f,nA x s f a r=r
 |0=>rfl
 |f+1=>by
  rw[nA,if_neg];rintro⟨c,b⟩;rcases h with h|h;exact h b;have:=congrArg List.length h;rw[et,List.length_nil]at this;omega
theorem Im{x:Rx}{s:List Nat}:∀(b:List Wd)(f a:Nat)(r:Rn),(∀w,w∈b→w.2.length≤65535∧(dF w).2=true)→s.drop a=aQ b→b.length≤f→nA x s f a r=b.foldl (fun r w=>if r.e=0 then lN x w r else r) r
 |[],f,a,r,_,hd,_=>Eb (.inr hd) f
 |w::b,0,a,r,_,_,hf=>by simp at hf
 | w :: b,f+1,a,r,hw,hd,hf=>by
  obtain⟨i,h⟩:=hw w aw;have hc:aQ (w::b)=(dF w).1++aQ b:=by
   rw[←rH h];simp[aQ]
  rw[hc]at hd;rw[List.foldl_cons];by_cases c:r.e=0;obtain⟨e,d⟩:=Ov (x:=x) (f:=f) (r:=r) c i h hd;rw[e,Im b f _ _ (fun w g=>hw w (by simp[g])) d (by simpa using hf),if_pos c]
  ·rw[Eb (.inl c),if_neg c];clear hw hd hf hc
   induction b with
   |nil=>rfl
   |cons w b ih=>rw[List.foldl_cons,if_neg c];exact ih
def aa7(r:Rn):List (Int×Int)×Int:=if(s9 r).e=0 then((s9 r).cl,0)else([],(s9 r).e)
theorem JJ{x:Rx}(b:List Wd)(a:List (List Nat))(bud:Int)(f:∀w,w∈b→w.2.length≤65535∧(dF w).2=true)(c:fG a []=0)(g:b.length≤(aQ b).length+1) :
  Do x (aQ b) a bud=aa7 (b.foldl (fun r w=>if r.e=0 then lN x w r else r) ⟨a,[],[],bud,[],0⟩):=by
 have d:aH (fG a []) ⟨a,[],[],bud,[],0⟩=⟨a,[],[],bud,[],0⟩:=by
  rw[c];rfl
 unfold Do;rw[d,Im b _ 0 _ f (List.drop_zero ..) g];rfl
theorem chk_ok{l:List (List Nat)}(h:∀x,x∈l→x.length≤520)(c:l.length≤100):fG l []=0:=by
 unfold fG;have a:(l.all fun x=>decide (x.length≤520))=true:=d7.2 fun x b=>decide_eq_true (h x b);rw[a];simp[c]
theorem Bj{b:bL}{m:List bL}{bud:Int}{cl:List (Int×Int)}(h:∀x,x∈m++[b]→x.length≤520)(a:m.length≤99):dZ b ⟨m,[],[],bud,cl,0⟩=⟨m++[b],[],[],bud,cl,0⟩:=by
 unfold dZ;rw[if_pos rfl,if_pos (chk_ok h (by simp only[b_,List.length_cons,List.length_nil];omega))]
theorem mD(m:List bL)(b:bL)(bud:Int)(cl:List (Int×Int)):bA ⟨m++[b],[],[],bud,cl,0⟩=(b,⟨m,[],[],bud,cl,0⟩):=by
 unfold bA;rw[if_pos rfl,if_neg aw];simp only[List.getLastD_concat,List.dropLast_concat]
end Go.Sha
namespace Go.Proofs.YtmfnimjnneflnaaGreat
open Go.Am Go.Sha
theorem jZ:∀n:Nat,n<64→(aU (n:Int)).length≤1:=by decide
theorem Ox{n m:Nat}(h:n<64)(a:1≤m):lM m (aU (n:Int))=some (n:Int):=QE aq aq (by have:=jZ n h;omega)
theorem aa8:og 173=true∧og 187=true:=by decide
theorem Oy(x:Rx)(r:Rn)(hi:iZ r=0):lN x (81,[]) r=dZ [1] r:=by
 have b:eF (81,[])=some [1]:=rfl;have c:ny 81 r=none:=rfl;have a:rQ (81,[])=true:=by decide
 unfold lN;rw[b];simp only[c,a];simp[hi]
theorem sE{k:Nat}(a:1≤k)(m:List bL){n:Nat}(h:n<64)(bud:Int):eJ k ⟨m++[aU (n:Int)],[],[],bud,[],0⟩=((n:Int),⟨m,[],[],bud,[],0⟩):=by
 unfold eJ;rw[mD];simp only[↓reduceIte,Ox h a]
theorem SR{x:Rx}{trig sig t:List Nat}{d o0 o1 bk:Nat}{L:List (Int×Int)}(l:trig.length=32)(f:bytes trig)(u:sig.length=64)(c:t.length=32)(o:o0<64)(p:o1<64)(r:bk<64)
  (e:x.sg trig sig x.msg=true) (A:x.trg (aQ (eV t (d:Int))) (o0:Int) (o1:Int) (bk:Int)=(L,0)) :
  Do x (aQ (cH trig (d:Int))) [aU (bk:Int),aU (o1:Int),aU (o0:Int),t,sig] 1000=(L,0):=by
 have K:=jZ o0 o;have I:=jZ o1 p;have J:=jZ bk r;have M:=jm (d:Int);have v:=D4 t (d:Int) c;rw[JJ (cH trig (d:Int)) _ _ (by
  intro w i;refine⟨?_,(rM (d:Int) l f w i).2⟩;simp only[cH,d_,List.mem_nil_iff,or_false]at i;rcases i with rfl|rfl|rfl|rfl|rfl;exact pz _ aq;exact Nat.zero_le _;exact pz _ aq;exact Nat.zero_le _
  exact Nat.zero_le _) (Go.Sha.chk_ok (by
  intro y a;simp only[d_,List.mem_nil_iff,or_false]at a
  rcases a with rfl|rfl|rfl|rfl|rfl<;>omega) aw) (by
  simp only[cH,aQ,List.map_cons,List.map_nil,List.flatten_cons,b_,List.length_cons,List.length_nil,IV]
  omega)]
 have sub:∀(m:List bL)(y:bL),y∈m→(∀z,z∈m→z.length≤520)→y.length≤520:=fun m y h g=>g y h;simp only[cH,List.foldl_cons,List.foldl_nil,↓reduceIte];rw[zr x _ aq rfl,Bj (by
  intro y a;simp only[cD,d_,List.mem_nil_iff,or_false]at a
  rcases a with (rfl|rfl|rfl|rfl|rfl)|rfl<;>omega) aw,if_pos rfl,Ig x _ aa8.1 aq rfl]
 have G:OV x 173 ⟨[aU (bk:Int),aU (o1:Int),aU (o0:Int),t,sig]++[trig],[],[],1000,[],0⟩=⟨[aU (bk:Int),aU (o1:Int),aU (o0:Int),t],[],[],950,[],0⟩:=by
  show AD x 173 _=_;unfold AD;rw[mD];simp only[show ¬(173:Nat)=172 by omega,if_false,if_true];rw[show([aU (bk:Int),aU (o1:Int),aU (o0:Int),t,sig]:List bL)=[aU (bk:Int),aU (o1:Int),aU (o0:Int),t]++[sig]from rfl,mD];unfold fO;simp only[u,l,e];rfl
 rw[G,if_pos rfl,zr x _ aq rfl,Bj (by
  intro y a;simp only[cD,d_,List.mem_nil_iff,or_false]at a
  rcases a with (rfl|rfl|rfl|rfl)|rfl<;>omega) aw,if_pos rfl,Oy x _ rfl,Bj (by
  intro y a;simp only[cD,d_,List.mem_nil_iff,or_false]at a
  rcases a with ((rfl|rfl|rfl|rfl)|rfl)|rfl<;>first|omega|decide) aw,if_pos rfl,Ig x _ aa8.2 aq rfl]
 show aa7 (AE x ⟨[aU (bk:Int),aU (o1:Int),aU (o0:Int),t]++[aQ (fy (d:Int))]++[[1]],[],[],950,[],0⟩)=_;have F:eJ 4 ⟨[aU (bk:Int),aU (o1:Int),aU (o0:Int),t]++[aQ (fy (d:Int))]++[[1]],[],[],950,[],0⟩=((1:Int),⟨[aU (bk:Int),aU (o1:Int),aU (o0:Int),t]++[aQ (fy (d:Int))],[],[],950,[],0⟩) :=
  sE (k:=4) aq _ (n:=1) aq 950
 have E:iq 1 ⟨[aU (bk:Int),aU (o1:Int),aU (o0:Int),t],[],[],950,[],0⟩=([t],⟨[aU (bk:Int),aU (o1:Int),aU (o0:Int)],[],[],950,[],0⟩):=by
  have s:¬((1:Int)<0∨(([aU (bk:Int),aU (o1:Int),aU (o0:Int),t]:List bL).length:Int)<1):=by simp
  unfold iq;simp only[if_neg s,if_true];rw[show(1:Int).toNat=0+1 from rfl];unfold da;simp only;rw[show([aU (bk:Int),aU (o1:Int),aU (o0:Int),t]:List bL)=[aU (bk:Int),aU (o1:Int),aU (o0:Int)]++[t]from rfl,mD];rfl
 have C:eJ 4 ⟨[aU (bk:Int),aU (o1:Int),aU (o0:Int)],[],[],950,[],0⟩=((o0:Int),⟨[aU (bk:Int),aU (o1:Int)],[],[],950,[],0⟩):=sE (k:=4) aq [aU (bk:Int),aU (o1:Int)] o 950;have D:eJ 4 ⟨[aU (bk:Int),aU (o1:Int)],[],[],950,[],0⟩=((o1:Int),⟨[aU (bk:Int)],[],[],950,[],0⟩):=sE (k:=4) aq [aU (bk:Int)] p 950;have B:eJ 8 ⟨[aU (bk:Int)],[],[],950,[],0⟩=((bk:Int),⟨[],[],[],950,[],0⟩):=sE (k:=8) aq [] r 950;unfold AE;rw[F];simp only;rw[mD];simp only[E,C,D,B,v,A,↓reduceIte];unfold Dn;simp only[↓reduceIte];have H:∀q:List (Int×Int),aH 0 ⟨[],[],[],950,q,0⟩=⟨[],[],[],950,q,0⟩:=fun _=>rfl;have j:=Bj (b:=lh true) (m:=[]) (bud:=950) (cl:=[]++L) (by simp[lh]) aw;simp only[List.nil_append]at j⊢;rw[show({ aH 0 ⟨[],[],[],950,[],0⟩with cl:=L }:Rn)=⟨[],[],[],950,L,0⟩from rfl,j];rfl
open Go.Am Go.Sha Go.Ec
theorem aa9(X Y:List Nat):bp [X,Y] 1=[db X]:=by simp[bp,fj,dP,fF,cy,dG]
theorem XQ{l:List Nat}:∀{r:List Nat},cd l=cd r→l=r:=by
 induction l with
 |nil=>intro r h;cases r with
  |nil=>rfl
  |cons a r=>simp[cd]at h
 | cons a l ih=>intro r h;cases r with
  |nil=>simp[cd]at h
  |cons b r =>
   simp only[cd,List.map_cons,List.cons.injEq,DV.int.injEq,true_and]at h;rw[ih h.2,show a=b by omega]
theorem XR{l:List (List Nat)}{h:List Nat}(e:bS l=bS [h]):l=[h]:=by
 unfold bS at e;rw[DV.ro.injEq]at e;have e:=e.2
 match l,e with
 |[],e=>simp at e
 |[a],e=>simp at e;rw[XQ e]
 |_::_::_,e=>simp at e
theorem Ed{inner X Y:List Nat}{E:Lf→Int}{f a:Lf}(h:eE inner [X,Y] E=xB inner f a):a.1=[db X]:=by
 unfold eE at h;split at h;simp[xB]at h;have e:lL (bp [X,Y]) [X,Y]=[(bp [X,Y] 0,X),(bp [X,Y] 1,Y)]:=by simp[lL]
 rw[e,aa9]at h;simp only[xB,List.map_cons,List.map_nil,AV.tup.injEq,List.cons.injEq,AV.d.injEq,DV.ro.injEq,and_true,true_and]at h;have c:=h.2;unfold dY at c;have b:=List.append_cancel_left c;simp only[List.cons.injEq]at b;exact XR b.1.symm
def XS(inner a:List Nat)(d:Int)(trig:List Nat)(V:AV):Prop:=V=zA∨(0≤d∧d≤65535∧a.length≤1000)∧∃l0 l1 k o0 o1,V=xB inner l0 l1∧LfK inner l0 (aQ (fZ a)) k o0∧LfK inner l1 (aQ (cH trig d)) k o1∧l1.1=[db (aQ (fZ a))]
theorem Gx(inner a:List Nat)(d:Int)(trig:List Nat)(hi:inner.length=32)(c:bytes inner)(e:trig.length=32)(p:bytes trig)(m:-9223372036854775808≤d)(s:d<9223372036854775808) :
  ∃V,XS inner a d trig V∧ap Tryz.prog 30 [.agg (bB inner a d trig)] (fun r=>r=V):=by
 obtain⟨O,E,j,l⟩:=tJ inner (aQ (fZ a)) (aQ (cH trig d)) hi c (by have:=ox a;omega) (by have:=mA d e;omega);refine⟨px inner a d trig E,?_,qJ inner a d trig hi e p m s O E j⟩;unfold px;by_cases b:0≤d∧d≤65535∧a.length≤1000;rw[if_pos b];rcases l with h|⟨o,i,k,g,f,h,t,q⟩;exact .inl h;exact .inr ⟨b,o,i,k,g,f,h,t,q,Ed h⟩;rw[if_neg b];exact .inl rfl
theorem Ee{inner a:List Nat}{d:Int}{trig:List Nat}{V:AV}(h:XS inner a d trig V):V=.tup [.nil,.d (.int .i64 1)]∨a.length≤1000∧∃es,V=.tup [.d (.ro 34 es),.d (.int .i64 0)]:=by
 rcases h with h|⟨h,f,g,k,c,b,e,_⟩;exact .inl h;exact .inr ⟨h.2.2,_,e⟩
def ads(inner a:List Nat)(d:Int)(t:List Nat)(W:AV):Prop:=W=zA∨∃l0 l1 k o0 o1,W=xB inner l0 l1∧LfK inner l0 (aQ (fZ a)) k o0∧LfK inner l1 (aQ (eV t d)) k o1∧l1.1=[db (aQ (fZ a))]
theorem Ef(inner a:List Nat)(d:Int)(trig t:List Nat)(hi:inner.length=32)(e:bytes inner)(m:trig.length=32)(b:t.length=32)(c:bytes t)(q:-9223372036854775808≤d)(v:d<9223372036854775808)(V:AV)(g:XS inner a d trig V)
  (hp:ap Tryz.prog 30 [.agg (bB inner a d trig)] (fun r=>r=V)) :
  ∃W,ads inner a d t W∧ap Tryz.prog 31 [.agg (bB inner a d trig),.agg (cb t)] (fun r=>r=W):=by
 obtain⟨O,E,o,p⟩:=tJ inner (aQ (fZ a)) (aQ (eV t d)) hi e (by have:=ox a;omega) (by have:=tH d b;omega);have f:=t7 inner a d trig t hi m b c q v V (Ee g) hp O E o;refine⟨_,?_,f⟩;rcases Ee g with rfl|⟨_,x,rfl⟩;exact .inl rfl;rcases p with h|⟨s,l,k,j,i,h,w,u⟩;refine .inl ?_;simp only[Yi,↓reduceIte];exact h;refine .inr ⟨s,l,k,j,i,?_,w,u,Ed h⟩;simp only[Yi,↓reduceIte];exact h
def coR(o:Nat×List Nat):List AV:=[.d (.int .u64 (o.1:Int)),.d (nb o.2)]
theorem Io(l:List (Nat×List Nat)):l.map coR=(l.map eO).map fun r=>r.map AV.d:=by
 rw[List.map_map];rfl
theorem Eg{hp:Hp}{I:Nat→Prop}{id n:Nat}{l:List (Nat×List Nat)}(b:lk id hp=some ⟨57,2,l.map coR⟩)(c:I id)(d:l.length=n):SnapD hp I (.own id 0 n n) (.ro 2 (l.map eO)) :=
 eu (es:=l.map eO) (by rw[b,Io]) c (by simp[d]) (fun r a=>by
  rw[List.mem_map]at a;obtain⟨w,_,rfl⟩:=a
  rfl)
theorem Oz{hp:Hp}{I:Nat→Prop}(t:Tn)(n:Int)(coins:List (Nat×List Nat)){a b:AV}(c:fx hp I a (.d (.ro 35 (t.ins.map eI))))(e:fx hp I b (.d (.ro 2 (coins.map eO)))) :
  qZ hp I [.d (.int .u32 (t.ver:Int)),a,.d (.ro 2 (t.outs.map eO)),.d (.int .u32 (t.lock:Int)),.d (.int .i64 n),b] (eS t n coins) :=
 ⟨rfl,ay (aM trivial) (ay c (ay (aM trivial) (ay (aM trivial) (ay (aM trivial) (ay e bO)))))⟩
theorem SS(t:Tn)(n:Int)(coins:List (Nat×List Nat))(b:Bool):(AV.tup [.agg (eS t n coins),.d (.bool b)]).deep:=by
 intro c hc;simp only[d_,List.mem_nil_iff,or_false]at hc;rcases hc with rfl|rfl;refine .inr ⟨_,rfl,fun x a=>?_⟩;have:=ow t n coins _ (List.mem_singleton.2 rfl);exact this x a;exact .inl trivial
theorem SU{st:St}{t:Tn}{n:Int}{coins:List (Nat×List Nat)}{a b:AV}{o:Bool}(f:fx st.hp (fun _=>True) a (.d (.ro 35 (t.ins.map eI))))(g:fx st.hp (fun _=>True) b (.d (.ro 2 (coins.map eO)))) :
  dm (fun r=>r=.tup [.agg (eS t n coins),.d (.bool o)]) (.tup [.agg [.d (.int .u32 (t.ver:Int)),a,.d (.ro 2 (t.outs.map eO)),.d (.int .u32 (t.lock:Int)),.d (.int .i64 n),b],.d (.bool o)]) st:=by
 refine⟨_,.tup (cs':=[.agg (eS t n coins),.d (.bool o)]) rfl fun i c h hc e=>?_,SS t n coins o,rfl⟩
 match i,hc,e with
 |0,hc,e=>simp at hc e;subst hc e;exact .inr ⟨_,_,rfl,rfl,Oz t n coins f g⟩
 |1,hc,e=>simp at hc e;subst hc e;exact .inl (aM trivial)
 |n+2,hc,_=>simp at hc
theorem uf(t:Tn)(n:Nat)(coins:List (Nat×List Nat))(inner:List Nat)(b c:Lf)(v:Nat):∀y,y∈[AV.agg (eS t (n:Int) coins),.d (.ro 34 [dY inner b,dY inner c]),.d (.int .u64 (v:Int))]→y.deep:=by
 intro y a;simp only[d_,List.mem_nil_iff,or_false]at a;rcases a with rfl|rfl|rfl;exact ow t (n:Int) coins _ aw;trivial;trivial
theorem JK(t:Tn)(n:Nat)(coins:List (Nat×List Nat))(inner:List Nat)(a k:Lf)(O:List Nat)(e:Int)(v:Nat)(hi:inner.length=32)(p:n<coins.length)(hc:coins.length≤1000)
  (m:ap Tryz.prog 46 [cF inner a.1 a.2] (fun r=>r=.tup [.d (nb O),.d (.int .i64 e)])) :
  ap Tryz.prog 32 [.agg (eS t (n:Int) coins),.d (.ro 34 [dY inner a,dY inner k]),.d (.int .u64 (v:Int))] (fun r=>r=.tup [.agg (eS t (n:Int) (coins.set n (v,O))),.d (.bool (decide (e=0)))]):=by
 refine bz Tryz.func32 Tryz.ntmps32 (rs:=[.cell 6 28,.tmp 7]) (uf t n coins inner a k v) ?_;have c:=ku hi a;have q:=oV inner a;have h:(ar inner (.d (bS a.1)) (.d (nb a.2))).length=34:=jk hi _ _;have g:=jl hi (.d (bS a.1)) (.d (nb a.2));have j:=mP inner (bS a.1) (nb a.2);unfold cF at m;obtain⟨C,i⟩:∃C,C=coins.set n (v,O):=⟨_,rfl⟩;rw[←i];simp[go_sem,eS,c,q,h,g];refine ag m j ?_;have b:=cm p;generalize coins[n]=o at b;simp[go_sem,b];refine⟨aq,p,?_⟩
 have f:(List.map ((fun r=>List.map AV.d r)∘eO) coins).set n [AV.d (.int .u64 (v:Int)),.d (nb O)]=C.map coR:=by
  rw[i,List.map_set];rfl
 simp only[eO,List.map_cons,List.map_nil,List.drop_succ_cons,List.drop_zero,List.length_cons,List.length_nil,f];refine⟨aq,?_⟩;refine SU (coins:=C) (aM trivial) (ao ?_);exact Eg (l:=C) rfl trivial (by rw[i,List.length_set])
def Bl(P:List (Int×Int)×Int):AV:=.tup [.d (.ro 2 (P.1.map eQ)),.d (.bool (decide (P.2=0)))]
theorem xC(t:Tn)(n:Nat)(coins:List (Nat×List Nat))(w:List (List Nat)):∀y,y∈[AV.agg (eS t (n:Int) coins),.d (.ro 1 (w.map bP))]→y.deep:=by
 intro y a;simp only[d_,List.mem_nil_iff,or_false]at a;rcases a with rfl|rfl;exact ow t (n:Int) coins _ aw;trivial
theorem SV(t:Tn)(n:Nat)(coins:List (Nat×List Nat)):∀N,∀v,v∈eS t (n:Int) coins→v.low1 N:=by
 intro N v a;simp[eS]at a;rcases a with rfl|rfl|rfl|rfl|rfl|rfl<;>trivial
theorem Gy (t:Tn) (n:Nat) (coins:List (Nat × List Nat)) (inner:List Nat) (l:Lf) (x k:List Nat) (o:Bool) (v:Nat) (things:List (List Nat)) (P:List (Int × Int) × Int) (hi:inner.length=32) (i:LfK inner l x k o) (H:coins[n]?=some (v,81 :: 32 :: k)) (V:things.length≤100)
    (a:ap Tryz.prog 53 [.agg (eS t (n:Int) coins),cF inner l.1 l.2,.d (.ro 1 (things.map bP)),.d (nb []),.d (.int .i64 1000)] (fun r=>r=.tup [.d (.ro 2 (P.1.map eQ)),.d (.int .i64 P.2)])) :
    ap Tryz.prog 34 [.agg (eS t (n:Int) coins),.d (.ro 1 ((things++[l.2,gy o inner l.1]).map bP))] (fun r=>r=Bl P):=by
  refine bz Tryz.func34 Tryz.ntmps34 (rs:=[.tmp 4,.tmp 5]) (xC t n coins _) ?_;have f:=i.kl;have K:=LL k f;have w:=Og hi i.p i.pl (by rw[i.s];exact i.xl) f f i.t;rw[if_pos rfl]at w;have u:∀y,y∈[AV.d (nb (gy o inner l.1)),.d (nb l.2),.agg (cb k)]→y.deep:=by
    intro y j;simp only[d_,List.mem_nil_iff,or_false]at j;rcases j with rfl|rfl|rfl
    · trivial
    · trivial
    · exact aW _
  have T:(eS t (n:Int) coins).length=6:=rfl;have m:List.take 6 (eS t (n:Int) coins)=eS t (n:Int) coins:=rfl;have L:(eS t (n:Int) coins)[4]?=some (.d (.int .i64 (n:Int))):=rfl;have N:(eS t (n:Int) coins)[5]?=some (.d (.ro 2 (coins.map eO))):=rfl;have Y:∀h:4<(eS t (n:Int) coins).length,(eS t (n:Int) coins)[4]'h=_:=fun h=>(List.getElem_of_getElem? L).2;have l5:∀h:5<(eS t (n:Int) coins).length,(eS t (n:Int) coins)[5]'h=_:=fun h=>(List.getElem_of_getElem? N).2;have A:n<coins.length:=(ci.1 H).1;have D:∀h:n<coins.length,coins[n]'h=(v,81::32::k):=fun h=>(List.getElem_of_getElem? H).2;have J:eO (v,81::32::k)=[.int .u64 (v:Int),nb (81::32::k)]:=rfl;generalize hs:l.2=s at *;generalize hc:gy o inner l.1=c at *;generalize Z:l.1=ps at *;have e:(things++[s,c]).length=things.length+2:=by simp
  have w1:IntKind.i64.wrap ((things.length:Int)+2-1)=((things.length+1:Nat):Int):=by rw[IntWalk.i64_in _ aq];omega
  have R:IntKind.i64.wrap ((things.length:Int)+2-2)=((things.length:Nat):Int):=by rw[IntWalk.i64_in _ aq];omega
  have O:IntKind.i64.wrap (things.length:Int)=(things.length:Int):=IntWalk.i64_in _ aq;have n1:((things.length:Int)+1).toNat=things.length+1:=aq;have q1:¬(things.length:Int)+2<2:=aq;have k1:(things++[s,c])[things.length+1]?=some c:=by simp
  have k2:(things++[s,c])[things.length]?=some s:=by simp
  have m1:∀h:things.length+1<(things++[s,c]).length,(things++[s,c])[things.length+1]'h=c:=fun h=>(List.getElem_of_getElem? k1).2;have W:∀h:things.length<(things++[s,c]).length,(things++[s,c])[things.length]'h=s:=fun h=>(List.getElem_of_getElem? k2).2;have X:List.take things.length (things++[s,c])=things:=by rw[List.take_left]
  have E:∀y,y∈[AV.agg (eS t (n:Int) coins),cF inner ps s,.d (.ro 1 (things.map bP)),.d (nb []),.d (.int .i64 1000)]→y.deep:=by
    intro y j;simp only[d_,List.mem_nil_iff,or_false]at j;rcases j with rfl|rfl|rfl|rfl|rfl
    · exact ow t (n:Int) coins _ aw
    · exact c6 inner ps s _ (List.mem_singleton.2 rfl)
    · trivial
    · trivial
    · trivial
  unfold cF at a E;have I:=SV t n coins;have B:=ow t (n:Int) coins _ (List.mem_singleton.2 rfl);have C:=iw inner (bS ps) (nb s);generalize ab:things++[s,c]=WW at *;generalize hS:eS t (n:Int) coins=S at *;have b:List.take 34 (ar inner (.d (bS ps)) (.d (nb s)))=ar inner (.d (bS ps)) (.d (nb s)):=cx (by rw[aaX hi];omega);have M:(ar z32 .nil .nil).length=34:=rfl;have U:List.drop 34 (ar z32 .nil .nil)=[]:=rfl;have g:=aaX hi (.d (bS ps)) (.d (nb s));simp[go_sem,T,m,e,q1,L,N,Y,l5,H,D,A,J];refine ag K a9 ?_;simp[go_sem,aj,f,al f,bK];refine cO [0,1,2,3,4,5,6,7,8,9,10] [11,15,16,17] [0,1,2,3,4,5,6,7,8,9,10,12,13,14] (.alt (.step 11 [12,13,14] true (bt 15 (bt 16 (a_ [17])))) (bt 15 (.step 11 [12,13,14] true (bt 16 (a_ [17]))))) ⟨[(1,.d (.ro 1 (WW.map bP))),(2,.ptr 0 0 0 1),(6,.d (.int .i64 ((things.length:Int)+2))),(8,.d (.bool true)),(9,.ptr 1184 0 0 1),(10,.d (.int .i64 0))],[(1184,⟨33,34,[ar inner (.d (bS ps)) (.d (nb s))]⟩),(0,⟨28,6,[S]⟩)],9000⟩ (k:=18) ?h3 ?hq
  case h3 =>
    intro G z;simp (config := { maxSteps := 3000000 }) [go_sem,e,w1,R,O,n1,m1,W,bP,aj,f,al f]
    repeat' first
      |apply And.intro
      |omega
      | (refine ag w u ?_
         simp (config := { maxSteps := 3000000 }) [go_sem,M,U,g,b])
      | (refine z _ _ (aV ⟨by simp [ah,fv,lk,AV.low,AV.low1,nb],?_,aw⟩)
         intro p Q;simp only[d_,List.mem_nil_iff,or_false]at Q;rcases Q with rfl|rfl
         · refine ⟨.inl (by simp [lk,M,U,g,b]),by show 1184<9000;omega,?_⟩
           intro r q v F;simp only[d_,List.mem_nil_iff,or_false]at q;subst q;exact dN 9000 inner (.d (bS ps)) (.d (nb s)) trivial trivial v F
         · refine ⟨.inl (by simp [lk]),by show 0<9000;omega,?_⟩
           intro r q v F;simp only[d_,List.mem_nil_iff,or_false]at q;subst q
           exact I 9000 v F)
  case hq =>
    simp[go_sem];refine cG [0,1,2,3,4,5] [(6,[7,8,9,10,11])] 1 (k:=12) ?_;intro G z;simp[go_sem,T,m,g,b,R,O,e];refine⟨aq,?_⟩;rw[←List.map_take,X];refine bn [] a rfl (ak (.deep B) (ak (.deep C) (ak (.deep trivial) (ak (.one (ao (.nil 1))) (ak (.deep trivial) aC))))) ?_;simp[go_sem,aN];refine z _ _ ?_;clear z G;simp[go_sem,ai];exact ae (by simp[Bl,AV.deep,AV.deep1]) rfl
end Go.Proofs.YtmfnimjnneflnaaGreat
