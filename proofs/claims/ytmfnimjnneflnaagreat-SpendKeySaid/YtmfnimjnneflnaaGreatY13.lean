/-
 Part 14 of what the claim rests on.
-/
import Derived.Test.YtmfnimjnneflnaaGreatY5
import Derived.Test.YtmfnimjnneflnaaGreatY9
import Derived.Test.YtmfnimjnneflnaaGreatY10
import Derived.Test.YtmfnimjnneflnaaGreatY12
set_option linter.unusedVariables false
set_option linter.unusedSimpArgs false
set_option maxRecDepth 100000
set_option maxHeartbeats 16000000
namespace Go.Proofs.YtmfnimjnneflnaaGreat
open Go.Am Go.Sha
end Go.Proofs.YtmfnimjnneflnaaGreat
namespace Go.Sha
open Go.Proofs.YtmfnimjnneflnaaGreat Go.Am
structure CsF where
 t:Tn
 n:Int
 coins:List (Nat×List Nat)
 inner:List Nat
 path:List (List Nat)
 script:List Nat
 start:List (List Nat)
 annex:List Nat
 bud:Int
end Go.Sha
namespace Go.Proofs.YtmfnimjnneflnaaGreat
open Go.Am Go.Sha
end Go.Proofs.YtmfnimjnneflnaaGreat
namespace Go.Sha
open Go.Proofs.YtmfnimjnneflnaaGreat Go.Am
end Go.Sha
namespace Go.Sha
open Go.Proofs.YtmfnimjnneflnaaGreat Go.Am
end Go.Sha
namespace Go.Proofs.YtmfnimjnneflnaaGreat
open Go.Am Go.Sha
structure CsOk(c:CsF):Prop where
 t:Sm c.t
 cc:IU c.coins
 cb:∀o,o∈c.coins→bytes o.2∧o.1<18446744073709551616
 ob:∀o,o∈c.t.outs→bytes o.2
 i:c.inner.length=32
 ib:bytes c.inner
 s:c.script.length≤1000
 p:∀p,p∈c.path→p.length=32
 pl:c.path.length≤1000
 a:c.annex.length≤1000
 b:Ii c.bud
end Go.Proofs.YtmfnimjnneflnaaGreat
namespace Go.Ec
open CR
section
variable {n:Nat} [NeZero n]
abbrev N3:=Nat×Nat×Nat
def ym(p:Nat)(u v:N3):N3 :=
 pp (u.1*v.2.1+v.1*u.2.1) fun xy=>pp (u.2.1*v.2.2+v.2.1*u.2.2) fun yz=>pp (u.1*v.2.2+v.1*u.2.2) fun xz =>
 pp (u.2.1*v.2.1%p) fun yy=>pp (u.2.2*v.2.2*21%p) fun zz=>pp (u.1*v.1) fun xx =>
 pp (yy+(p-zz)) fun d=>pp (yy+zz) fun e =>
 pp ((xy*d+(p-21*(yz*xz)%p))%p) fun X=>pp ((e*d+63*(xx*xz))%p) fun Y=>pp ((yz*e+3*(xx*xy))%p) fun Z=>(X,Y,Z)
def yn(n:Nat)[NeZero n](u:N3):qB n:=(Fin.ofNat n u.1,Fin.ofNat n u.2.1,Fin.ofNat n u.2.2)
theorem mH(a b:Nat):Fin.ofNat n (a+b)=Fin.ofNat n a+Fin.ofNat n b:=Fin.ext (by rw[Fin.val_add];show(a+b)%n=(a%n+b%n)%n;rw[←Nat.add_mod])
theorem qM(a b:Nat):Fin.ofNat n (a*b)=Fin.ofNat n a*Fin.ofNat n b:=Fin.ext (by rw[Fin.val_mul];show a*b%n=(a%n)*(b%n)%n;rw[←Nat.mul_mod])
theorem qN(a:Nat):Fin.ofNat n (a%n)=Fin.ofNat n a:=Fin.ext (by show a%n%n=a%n;rw[Nat.mod_mod])
theorem qO{a:Nat}(h:a≤n):Fin.ofNat n (n-a)=- Fin.ofNat n a:=by
 have e:Fin.ofNat n (n-a)+Fin.ofNat n a=0:=by
  rw[←mH,Nat.sub_add_cancel h];exact Fin.ext (by show n%n=0%n;rw[Nat.mod_self,Nat.zero_mod])
 generalize Fin.ofNat n (n-a)=x at *;generalize Fin.ofNat n a=y at *
 grobner
theorem BC(hp:0<n)(u v:N3):yn n (ym n u v)=bJ (yn n u) (yn n v):=by
 obtain⟨a,b,c⟩:=u;obtain⟨d,e,f⟩:=v;simp only[ym,jk,yn,bJ,uw,s9,jS,sG,uy,B6];have l1:c*f*21%n≤n:=Nat.le_of_lt (Nat.mod_lt _ hp);have l2:∀z,z%n≤n:=fun z=>Nat.le_of_lt (Nat.mod_lt _ hp);have k21:Fin.ofNat n 21=(21:Fin n):=rfl;have k63:Fin.ofNat n 63=(63:Fin n):=rfl;have k3:Fin.ofNat n 3=(3:Fin n):=rfl;refine Prod.ext ?_ (Prod.ext ?_ ?_)
 ·dsimp only;simp only[qN,mH,qM,qO l1,qO (l2 _),k21]
  grobner
 ·dsimp only;simp only[qN,mH,qM,qO l1,k21,k63]
  grobner
 ·dsimp only;simp only[qN,mH,qM,k21,k3]
  grobner
def uL(f:Fd n)(t:qB n)(P:Pt n):Prop:=∃k,k≠0∧t=sc k (pr P)
theorem wI(f:Fd n){s t:qB n}{P Q:Pt n}(hP:dL P)(hQ:dL Q)(hs:uL f s P)(ht:uL f t Q):uL f (bJ s t) (sum f P Q):=by
 obtain⟨k,hk,rfl⟩:=hs;obtain⟨l,hl,rfl⟩:=ht;obtain⟨m,hm,e⟩:=nG f hP hQ;exact⟨k*k*(l*l)*m,f.mul_ne (f.mul_ne (f.mul_ne hk hk) (f.mul_ne hl hl)) hm,by rw[uz,e,A3]⟩
def BD(p:Nat)(g:N3):Nat→Nat→N3→N3
 |0,_,acc=>acc
 |j+1,k,acc=>bif (k/2 ^ j%2).beq 1 then BD p g j k (ym p (ym p acc acc) g)else BD p g j k (ym p acc acc)
theorem nU(f:Fd n)(hp:0<n){g:N3}{P:Pt n}(hP:dL P)(hg:uL f (yn n g) P)(k:Nat):∀(j:Nat)(acc:N3),uL f (yn n acc) (mp f (k/2 ^ j) P)→uL f (yn n (BD n g j k acc)) (mp f k P)
 |0,acc,h=>by rw[Nat.pow_zero,Nat.div_one]at h;exact h
 | j+1,acc,h=>by
  have hd:k/2 ^ j=2*(k/2 ^ (j+1))+k/2 ^ j%2:=by rw[Nat.pow_succ,←Nat.div_div_eq_div_mul];omega
  have o1:=fQ f hP (k/2 ^ (j+1))
  have h2:uL f (yn n (ym n acc acc)) (mp f (2*(k/2 ^ (j+1))) P):=by
   rw[BC hp,uB f hP];exact wI f o1 o1 h h
  rw[BD]
  cases hb:(k/2 ^ j%2).beq 1 with
  |true =>
   rw[cond_true];refine nU f hp hP hg k j _ ?_;have h1:=Nat.eq_of_beq_eq_true hb;rw[hd,h1,mp,BC hp];exact wI f (fQ f hP _) hP h2 hg
  | false =>
   rw[cond_false];refine nU f hp hP hg k j _ ?_
   have h0:k/2 ^ j%2=0:=by
    have:=Nat.ne_of_beq_eq_false hb;omega
   rw[hd,h0,Nat.add_zero];exact h2
theorem BE(f:Fd n){t:qB n}{P:Pt n}(h:uL f t P)(hz:t.2.2=0):P=none:=by
 obtain⟨k,hk,rfl⟩:=h
 cases P with
 |none=>rfl
 |some p =>
  have:k*ic 1=0:=hz;rw[yB]at this;exact absurd (by grobner) hk
end
end Go.Ec
namespace Go.Sha
end Go.Sha
namespace Go.Proofs.YtmfnimjnneflnaaGreat
open Go.Am Go.Sha Go.Ec
theorem EK(c e p:Nat):(c:Int) ^ e%(p:Int)=((c ^ e%p:Nat):Int):=by rw[Int.natCast_emod,Int.natCast_pow]
def bY:Nat:=32670510020758816978083085130507043184471273380659243275938904335757337482424
theorem sU:(1:F)≠0:=fun h=>absurd (congrArg Fin.val h) (by
 show ¬ 1%pP=0%pP;rw[Nat.zero_mod,Nat.mod_eq_of_lt (by rw[jv];omega)]
 omega)
def nN:Nat:=115792089237316195423570985008687907852837564279074904382605163141518161494337
theorem qP:nN=115792089237316195423570985008687907852837564279074904382605163141518161494337:=rfl
theorem Ir:Prm nN:=Es
abbrev gP:Pt pP:=PV gX gY false
theorem fR:dL gP:=jP qI
theorem EL(k:Nat)(hk:k<2 ^ 256):uL fd (yn pP (BD pP (55066263022277343669578718895168534326250603453777594175500187360389116729240,bY,1) 256 k (0,1,0))) (mp fd k gP):=by
 have e1:FV gX=Fin.ofNat pP 55066263022277343669578718895168534326250603453777594175500187360389116729240:=by
  refine jW ?_;rw[cv,←de]
  kernel_rfl
 have e2:FV gY=Fin.ofNat pP bY:=by
  refine jW ?_;rw[cv,←de]
  kernel_rfl
 have hg:uL fd (yn pP (55066263022277343669578718895168534326250603453777594175500187360389116729240,bY,1)) gP:=by
  refine⟨1,sU,?_⟩;show _=sc 1 (FV gX,FV gY,CR.ic 1);rw[e1,e2];simp only[sc,yn,Fin.one_mul];rfl
 have h0:uL fd (yn pP (0,1,0)) (mp fd (k/2 ^ 256) gP):=by
  rw[Nat.div_eq_of_lt hk];refine⟨1,sU,?_⟩;show _=sc 1 (CR.ic 0,CR.ic 1,CR.ic 0);simp only[sc,yn,Fin.one_mul];rfl
 exact nU fd (by rw[jv];omega) fR hg k 256 (0,1,0) h0
theorem LD{a:Nat}(h:a%pP=0):(Fin.ofNat pP a:F)=0:=Fin.ext (by
 show a%pP=0%pP
 rw[h,Nat.zero_mod])
theorem nV:mp fd nN gP=none :=
 BE fd (EL nN (qb (by kernel_rfl))) (LD (Nat.eq_of_beq_eq_true (by kernel_rfl)))
theorem Is(t:Nat):mp fd (nN*t) gP=none:=by rw[qC fd fR,nV,mD]
theorem It(a:Nat):mp fd (a%nN) gP=mp fd a gP:=by
 have e:mp fd (nN*(a/nN)+a%nN) gP=mp fd (a%nN) gP:=by
  rw[js fd fR,Is,cf fd (fQ fd fR _)]
 rw[←e,Nat.div_add_mod]
theorem LF:gP≠none:=fun h=>by cases h
theorem EM{d:Nat}(h0:0<d)(h1:d<nN):mp fd d gP≠none:=by
 intro h
 have hc:Nat.gcd d nN=1:=by
  have:=Prm.cop Ir (a:=d) (fun q=>by have:=Nat.le_of_dvd h0 q;omega);rw[Nat.gcd_comm];exact this
 obtain⟨s,t,e⟩:=LV (d+nN) d nN (cL _) h0 (by rw[qP];omega) hc;have e1:mp fd (d*s) gP=none:=by rw[qC fd fR,h,mD]
 rw[e,js fd fR,Is,HU fd fR,dT fd fR]at e1;exact LF e1
theorem EN{A B C:Pt pP}(hA:dL A)(hB:dL B)(hC:dL C)(h:sum fd A C=sum fd B C):A=B:=by
 have e:∀{X:Pt pP},dL X→sum fd (sum fd X C) (ng C)=X:=fun hX=>by
  rw[dF fd hX hC (FG hC),A5 fd hC,dT fd hX]
 rw[←e hA,h,e hB]
theorem Iu{d:Nat}(h:d≤nN):mp fd (nN-d) gP=ng (mp fd d gP):=by
 have h1:=fQ fd fR d;refine EN (fQ fd fR _) (FG h1) h1 ?_;rw[←js fd fR,Nat.sub_add_cancel h,nV,kV,A5 fd h1]
theorem EO(k e d:Nat)(he:e<nN):sum fd (mp fd ((k+e*d)%nN) gP) (mp fd ((nN-e)%nN) (mp fd d gP))=mp fd k gP:=by
 have hk:=fQ fd fR k;rw[It,←qC fd fR,←js fd fR];by_cases h0:e=0
 ·subst h0;rw[Nat.sub_zero,Nat.mod_self,Nat.zero_mul,Nat.mul_zero,Nat.add_zero]
 ·rw[Nat.mod_eq_of_lt aq]
  have e1:k+e*d+d*(nN-e)=nN*d+k:=by
   rw[Nat.mul_sub,Nat.mul_comm e d,Nat.mul_comm nN d];have:d*e≤d*nN:=Nat.mul_le_mul_left d aq;omega
  rw[e1,js fd fR,Is,cf fd hk]
end Go.Proofs.YtmfnimjnneflnaaGreat
namespace Go.Ec
def rE:Nat:=28948022309329048855892746252171976963317496166410141009864396001977208667916
theorem Pg:4*rE=(pP-1)+2:=by rw[jv];unfold rE;rfl
theorem EP{y:Nat}(h0:0<y)(h1:y<pP):(((y*y%pP) ^ rE%pP)*((y*y%pP) ^ rE%pP))%pP=y*y%pP:=by
 have hf:y ^ (pP-1)%pP=1:=qF qG (fun q=>by have:=Nat.le_of_dvd h0 q;omega);rw[←Nat.pow_mod,←Nat.mul_mod,←Nat.pow_add,←Nat.pow_two,←Nat.pow_mul];have e:2*(rE+rE)=(pP-1)+2:=by rw[←Pg];omega
 rw[e,Nat.pow_add,Nat.mul_mod,hf,Nat.one_mul,Nat.mod_mod,Nat.pow_two]
theorem EQ{y r:Nat}(h0:0<y)(h1:y<pP)(hr:r<pP)(h:r*r%pP=y*y%pP):r=y∨r=pP-y:=by
 have hd:((pP:Nat):Int)∣((r:Int)-y)*((r:Int)+y):=by
  have e:((r:Int)-y)*((r:Int)+y)=(r:Int)*r-(y:Int)*y:=by
   rw[Int.sub_mul,Int.mul_add,Int.mul_add,Int.mul_comm (y:Int) r];omega
  rw[e];refine Int.dvd_of_emod_eq_zero ?_
  have h':((r:Int)*r)%(pP:Int)=((y:Int)*y)%(pP:Int):=by
   have:=congrArg (fun n:Nat=>(n:Int)) h
   simpa[Int.natCast_emod,Int.natCast_mul]using this
  rw[Int.sub_emod,h',Int.sub_self,Int.zero_emod]
 by_cases hle:y≤r
 ·have hn:pP∣(r-y)*(r+y):=by
   have e:(((r-y)*(r+y):Nat):Int)=((r:Int)-y)*((r:Int)+y):=by
    rw[Int.natCast_mul,Int.natCast_add,Int.ofNat_sub hle]
   exact Int.natCast_dvd_natCast.1 (by rw[e];exact hd)
  rcases qG.mul hn with q|q
  ·left;rcases Nat.eq_zero_or_pos (r-y)with z|z
   ·omega
   ·have:=Nat.le_of_dvd z q;omega
  ·right;obtain⟨k,hk⟩:=q
   have h3:k<2:=by
    by_cases h2:k<2
    ·exact h2
    ·exfalso;have:pP*2≤pP*k:=Nat.mul_le_mul_left _ aq;omega
   have:k=0∨k=1:=aq;rcases this with rfl|rfl<;>omega
 ·have hn:pP∣(y-r)*(r+y):=by
   have e:(((y-r)*(r+y):Nat):Int)=-(((r:Int)-y)*((r:Int)+y)):=by
    rw[Int.natCast_mul,Int.natCast_add,Int.ofNat_sub aq,←Int.neg_mul,Int.neg_sub]
   exact Int.natCast_dvd_natCast.1 (by rw[e];exact Int.dvd_neg.2 hd)
  rcases qG.mul hn with q|q
  ·have:=Nat.le_of_dvd aq q;omega
  ·right;obtain⟨k,hk⟩:=q
   have h3:k<2:=by
    by_cases h2:k<2
    ·exact h2
    ·exfalso;have:pP*2≤pP*k:=Nat.mul_le_mul_left _ aq;omega
   have:k=0∨k=1:=aq;rcases this with rfl|rfl<;>omega
end Go.Ec
namespace Go.Proofs.YtmfnimjnneflnaaGreat
open Go.Am Go.Sha Go.Ec
theorem qQ(x:F):yA pP ((x.val:Nat):Int)=x:=jW (by
 rw[iV,Int.emod_eq_of_lt aq (by have:=x.isLt;omega)])
theorem BF:pP%2=1:=Nat.eq_of_beq_eq_true (by kernel_rfl)
theorem BG{x y:F}(h:dL (some (x,y))):gq x.val=((y.val*y.val%pP:Nat):Int):=by
 have h':y*y=x*x*x+7:=h;have e:=congrArg Fin.val h';rw[Fin.val_mul,Fin.val_add,Fin.val_mul,Fin.val_mul]at e;have e7:((7:F).val)=7:=(N7 7).trans (Nat.mod_eq_of_lt (by rw[jv];omega));rw[e7,Nat.mod_mul_mod,Nat.mod_add_mod]at e;rw[e];unfold gq;rw[Int.natCast_emod,de]
 push_cast
 rfl
theorem uM{x y:F}(h:dL (some (x,y)))(he:y.val%2=0):km x.val∧liftPt x.val=some (x,y):=by
 have hy:y≠0:=fd.y_ne h
 have hy0:0<y.val:=by
  rcases Nat.eq_zero_or_pos y.val with q|q
  ·exact absurd (Fin.ext (by rw[q];rfl)) hy
  ·exact q
 have hc:=BG h
 have hr:fK x.val=(((y.val*y.val%pP) ^ rE%pP:Nat):Int):=by
  have e:fK x.val=gq x.val ^ rE%(pP:Int):=by rw[de];rfl
  rw[e,hc,EK]
 have hs:=EP hy0 y.isLt;have hrl:(y.val*y.val%pP) ^ rE%pP<pP:=Nat.mod_lt _ (by rw[jv];omega);generalize(y.val*y.val%pP) ^ rE%pP=r at *;have hx:=x.isLt;refine⟨⟨?_,?_⟩,?_⟩
 ·have:=de;show((x.val:Nat):Int)<pZ;omega
 ·show fK x.val*fK x.val%pZ=gq x.val%pZ;rw[hr,hc,←de,←Int.natCast_mul,←Int.natCast_emod,←Int.natCast_emod,hs,Nat.mod_mod]
 ·show some (yA pP ((x.val:Nat):Int),yA pP (if fK x.val%2=0 then fK x.val else(0-fK x.val)%pZ))=some (x,y);rw[qQ,hr];have hyl:=y.isLt;have hp2:=BF
  have e2:yA pP (if(r:Int)%2=0 then(r:Int)else(0-(r:Int))%pZ)=y:=by
   rcases EQ hy0 hyl hrl hs with q|q
   ·rw[if_pos aq,q,qQ]
   ·rw[if_neg aq]
    have e:(0-(r:Int))%pZ=((y.val:Nat):Int):=by
     rw[←de,q,Int.ofNat_sub aq];have e1:(0:Int)-((pP:Int)-(y.val:Int))=(y.val:Int)+(pP:Int)*(-1):=aq;rw[e1,Int.add_mul_emod_self_left,Int.emod_eq_of_lt aq aq]
    rw[e,qQ]
  rw[e2]
open Go.Am Go.Sha
def ER(ann:List Nat):Nat:=if ann=[]then 0 else 1
def li(t:Tn)(n:Nat)(coins:List (Nat×List Nat))(ann:List Nat):List Nat :=
 [0,0]++le t.ver 4++le t.lock 4++bO (t.ins.map ko).flatten++bO (coins.map nS).flatten++bO (coins.map oI).flatten++bO (t.ins.map nR).flatten++bO (t.outs.map dS).flatten++[ER ann]++le n 4++EH ann
theorem wJ (t:Tn) (n:Int) (coins:List (Nat × List Nat)) (ann:List Nat) (ht:Sm t) (hc:IU coins) (hal:ann.length≤1000) (c0:aU t n coins=0) :
    au Tryz.prog 43 [.agg (eS t n coins),.d (nb []),.d (nb ann)] (fun r=>r=.tup [.agg (cb (hJ cK (li t n.toNat coins ann))),.d (.int .i64 0)]):=by
  refine bu Tryz.func43 Tryz.ntmps43 (rs:=[.cell 6 29,.tmp 7]) (Iq t n coins [] ann) ?_;have hck:=jL t n coins ht (by have:=hc.1;omega);have hd1:=lh t n coins
  · rw [c0] at hck
    have hn:0≤n∧n<coins.length:=by
      unfold aU at c0
      split at c0
      · cases c0
      · rename_i hx
        simp only[not_or,Int.not_lt,Int.not_le]at hx;exact⟨hx.2.2.1,hx.2.2.2.1⟩
    obtain⟨m,rfl⟩:∃m:Nat,n=(m:Int):=⟨n.toNat,aq⟩;rw[Int.toNat_natCast];obtain⟨hv,hlk,hi,ho⟩:=ht.1;have p1:=Bz t ht;have p2:=Bw coins hc.1 hc.2;have hmsg:li t m coins ann=[0,0]++le t.ver 4++le t.lock 4++bO (t.ins.map ko).flatten++bO (coins.map nS).flatten++bO (coins.map oI).flatten++bO (t.ins.map nR).flatten++bO (t.outs.map dS).flatten++[ER ann]++le m 4++EH ann:=rfl;generalize li t m coins ann=M at *;have l1:=bk (t.ins.map ko).flatten;have l2:=bk (t.ins.map nR).flatten;have l3:=bk (t.outs.map dS).flatten;have l4:=bk (coins.map nS).flatten;have l5:=bk (coins.map oI).flatten;generalize bO (t.ins.map ko).flatten=a at *;generalize bO (t.ins.map nR).flatten=b at *;generalize bO (t.outs.map dS).flatten=c at *;generalize bO (coins.map nS).flatten=x at *;generalize bO (coins.map oI).flatten=y at *;have hT:=qL t;simp only[eT,eS]at hT hck hd1 p1;have hL:(cb a++cb b++cb c).length=96:=by simp[ap,l1,l2,l3]
    have hT2:List.take 96 (cb a++cb b++cb c)=cb a++cb b++cb c:=cx aq;have hE:cb (a++(b++c))=cb a++cb b++cb c:=by rw[nT,nT,cA]
    rw[hE]at p1;simp[go_sem,eS];refine ae hck hd1 ?_;simp[go_sem,nb];refine gK [512] (eV [0,0] t.ver aw hv) rfl (ai (.one (az (bo (L:=[0,0]) rfl rfl aw))) (ai (.deep a9) aG)) (fun ρ=>by simp[AV.renL,AV.ren]) ?_;rintro r hp'⟨I,rfl,h0⟩;refine⟨[(I,0)],by simp[fB,gw],?_⟩;generalize hA1:[0,0]++le t.ver 4=A1 at *;have hA1l:A1.length=6:=by rw[←hA1];simp[aE]
    simp[go_sem,bG,bE,h0,Blk.ren,aT,bV,AV.renL,AV.ren,bF,aO];clear h0 hp';refine gK [640] (eV A1 t.lock aq hlk) rfl (ai (.one (az (bo rfl rfl aw))) (ai (.deep a9) aG)) (fun ρ=>by simp[AV.renL,AV.ren]) ?_;rintro r hp'⟨I,rfl,h0⟩;refine⟨[(I,0)],by simp[fB,gw],?_⟩;generalize hA2:A1++le t.lock 4=A2 at *;have hA2l:A2.length=10:=by rw[←hA2];simp[aE,hA1l]
    simp[go_sem,bG,bE,h0,Blk.ren,aT,bV,AV.renL,AV.ren,bF,aO];clear h0 hp';have r0:List.take 32 (cb a++cb b++cb c)=cb a:=by rw[cA,←l1,←ap a,List.take_left]
    have r1:List.take 32 (List.drop 32 (cb a++cb b++cb c))=cb b:=by rw[cA,show List.drop 32 (cb a++(cb b++cb c))=cb b++cb c by rw[←l1,←ap a,List.drop_left],←l2,←ap b,List.take_left]
    have r2:List.take 32 (List.drop 64 (cb a++cb b++cb c))=cb c:=by
      rw[show List.drop 64 (cb a++cb b++cb c)=cb c by rw[show 64=(cb a++cb b).length by simp[ap,l1,l2],List.drop_left]];exact aA l3
    generalize hR:cb a++cb b++cb c=R at *;refine ae p1 hT ?_;simp[go_sem,hL,hT2,sT,ap,lQ];refine ae p2 a9 ?_;simp[go_sem,ap,l1,l2,l3,l4,l5,aA l4,aA l5,aV,hL,r0,r1,r2,pE];rw[uK (A:=cb a) (n:=32) (m:=64) (by rw[ap,l1]) aq,←cA (cb a) (cb x),lg (A:=cb a++cb x) (n:=64) (m:=96) (by simp[ap,l1,l4]) aq,lg (A:=cb a++cb x++cb y) (n:=96) (m:=128) (by simp[ap,l1,l4,l5]) aq,lg (A:=cb a++cb x++cb y++cb b) (n:=128) (m:=160) (by simp[ap,l1,l4,l5,l2]) aq,uJ,List.append_nil];have hF:=fun k hk=>LC (a:=a) (b:=x) (c:=y) (d:=b) (e:=c) k hk l1 l4 l5 l2 l3;have hG:cb a++cb x++cb y++cb b++cb c=cb (a++x++y++b++c):=by simp[nT]
    have hGl:(a++x++y++b++c).length=160:=by simp[l1,l4,l5,l2,l3]
    rw[hG]at hF⊢
    have hW:∀k,k<5→([a,x,y,b,c].getD k []).length=32:=by
      intro k hk
      match k,hk with
      |0,_=>exact l1
      |1,_=>exact l4
      |2,_=>exact l5
      |3,_=>exact l2
      |4,_=>exact l3
    have hS:∀k,k<5→([a,x,y,b,c].take (k+1)).flatten=([a,x,y,b,c].take k).flatten++[a,x,y,b,c].getD k []:=by
      intro k hk
      match k,hk with
      |0,_=>simp
      |1,_=>simp
      |2,_=>simp
      |3,_=>simp
      |4,_=>simp
    have hfin:A2++a++x++y++b++c=A2++([a,x,y,b,c].take 5).flatten:=by simp
    rw[hfin]at hmsg;clear hfin;generalize a++x++y++b++c=G at *;generalize[a,x,y,b,c]=HS at *
    refine am (fun u:Nat×List Nat=>⟨[(1,.d (nb [])),(2,.d (nb ann)),(3,.ptr 0 0 0 1),(6,.ptr 32 0 0 1),(8,.own 832 0 u.2.length u.2.length),(57,.agg (cb G)),(58,.d (.int .i64 (u.1:Int)))],
        [(832,⟨5,1,rb u.2⟩),(32,⟨29,32,[cb z32]⟩),(0,⟨28,6,[eS t m coins]⟩)],3000⟩)
      (fun u=>u.1≤5∧u.2.length=10+32*u.1∧u.2=A2++(HS.take u.1).flatten) (fun u=>5-u.1) (0,A2) ⟨aw,by simp;omega,aw⟩ (by
        simp[ak,ah,fv,lk,AV.low,AV.low1,nb,eS]
        exact⟨aC _ _,aK _ _,aC _ _⟩) ?_
    rintro⟨k,B⟩⟨hk,hBl,hB⟩;simp only at hk hBl hB;simp only[eS];simp only[go_sem,Nat.reduceEqDiff,Nat.reduceAdd,Nat.reduceLT,↓reduceIte,Nat.reduceMul];refine⟨fun hlt=>?_,fun hlt=>?_⟩
    · have hk5:k<5:=aq
      have hw:=hW k hk5;have hs:=hS k hk5;have hf:=hF k hk5;have w3:=al (k:=k) aq;have g1:32≤G.length-k*32:=aq;generalize HS.getD k []=w at *;have hx:=(io hw).trans (dk w);simp[go_sem]at hx;simp[go_sem,hk5,hf,g1,ap,hw,aV,hx,aN,lG,w3];refine⟨aq,aq,?_⟩;refine aj (k+1,B++w) ⟨by simp only;omega,by simp only[b_,hw];omega,by simp only;rw[hs,hB,cA]⟩ (by simp only;omega) ?_;simp[ak,ah,fv,lk,AV.low,AV.low1,nb,eS,hw];exact⟨aC _ _,aK _ _,aC _ _⟩
    · have hk5:k=5:=aq
      subst hk5;rw[←hB]at hmsg;have wn:IntKind.u32.wrap (m:Int)=(m:Int):=by rw[DK];have:=hc.1;omega
      have hn8:m<4294967296:=by have:=hc.1;omega
      by_cases han:ann=[]
      · subst han
        have ha1:ER []=0:=rfl;have ha2:EH []=[]:=rfl;rw[ha1,ha2,List.append_nil]at hmsg;simp[go_sem,nb];have hB1l:(B++[0]).length=B.length+1:=by simp
        have hB2l:(B++[0]++le m 4).length=B.length+5:=by simp[aE]
        generalize hB2:B++[0]++le m 4=B2 at *;refine c7 [0,1] [2,3,4,5,6,7,8] [0,1] (.alt (bt 2 (.alt (a_ [3,4,5,6,7,8]) (bt 4 (.alt (a_ [3,5,6,7,8]) (bt 5 (.alt (a_ [3,6,7,8]) (bt 6 (a_ [3,7,8])))))))) (bt 4 (.alt (bt 2 (.alt (a_ [3,5,6,7,8]) (bt 5 (.alt (a_ [3,6,7,8]) (bt 6 (a_ [3,7,8])))))) (bt 5 (.alt (bt 2 (.alt (a_ [3,6,7,8]) (bt 6 (a_ [3,7,8])))) (bt 6 (bt 2 (a_ [3,7,8])))))))) ⟨[(1,.d (nb [])),(2,.d (nb [])),(3,.ptr 0 0 0 1),(6,.ptr 32 0 0 1),(8,.own 3480 0 B2.length B2.length)],[(3480,⟨5,1,rb B2⟩),(32,⟨29,32,[cb z32]⟩)],6000⟩ (k:=9) ?h3 ?hq
        case h3 =>
          intro G hG
          have hW:∀(fr:Fr)(hp:Hp),(fv 1 fr=.d (nb [])∧fv 2 fr=.d (nb [])∧fv 3 fr=.ptr 0 0 0 1∧fv 6 fr=.ptr 32 0 0 1∧fv 8 fr=.own 3480 0 B2.length B2.length∧lk 3480 hp=some ⟨5,1,rb B2⟩∧lk 32 hp=some ⟨29,32,[cb z32]⟩)→G fr hp:=by
            rintro fr hp⟨q0,q1,q2,q3,q4,q5,q6⟩;refine hG _ _ (bf ⟨?_,?_,aw⟩)
            · simp[ah,AV.low,AV.low1,q0,q1,q2,q3,q4,nb]
            · simp [q5,q6]
              exact⟨aK _ _,aC _ _⟩
          have hrb:rb B++[[AV.d (DV.int IntKind.u8 0)]]=rb (B++[0]):=by simp[rb]
          have hp:=eV (B++[0]) m (by rw[hB1l];omega) hn8;rw[hB2]at hp;simp[go_sem,wn,aN,hrb]
          repeat' apply And.intro
          all_goals first
            |omega
            | (refine gK [832] hp rfl (ai (.one (az (bo hB1l rfl aw))) (ai (.deep a9) aG)) (fun ρ=>by simp [AV.renL,AV.ren]) ?_
               rintro r hp'⟨I,rfl,h0⟩;refine⟨[(I,0)],by simp[fB,gw],?_⟩;simp[go_sem,bG,bE,h0,Blk.ren,aT,bV,AV.renL,AV.ren,bF,aO];refine hW _ _ ?_
               simp[fv,lk,nb])
        case hq =>
          have hMl:M.length≤1000:=by rw[hmsg];omega
          simp[go_sem,nb,aN,←hmsg];refine cE [3480] (lH cK _ rfl M (by simp[cK]) aq) rfl (ai (.deep a9) (ai (.one (az (bo rfl rfl aw))) aG)) ?_;have hR:=bk (bO cK++(bO cK++M));have hR':(hJ cK M).length=32:=hR;generalize hJ cK M=S at *;simp[go_sem,aO,hR',ap,aA hR',aV,ar]
          exact ag (by
            intro c hc;simp only[d_,List.mem_nil_iff,or_false]at hc;rcases hc with rfl|rfl
            · exact .inr ⟨_,rfl,cj _⟩
            · exact .inl trivial) rfl
      · have hal0:¬ ann.length=0:=fun h=>han (List.length_eq_zero_iff.1 h)
        have hali:(0:Int)<(ann.length:Int):=aq;have halp:0<ann.length:=aq;have ha1:ER ann=1:=if_neg han;have ha2:EH ann=bO (a8 ann):=if_neg han;have hb3:bits BinOp.or IntKind.u8 0 1=1:=by decide
        rw[ha1,ha2]at hmsg;have hpb:=fG [] ann aw aq;have hsm:=pn (a8 ann) (by have:=gp ann;omega);have hql:=bk (a8 ann);rw[show[]++(ao ann.length++ann)=a8 ann from rfl]at hpb;generalize bO (a8 ann)=Q at *;generalize a8 ann=BA at *;simp[go_sem,nb,hali,halp];have hB1l:(B++[1]).length=B.length+1:=by simp
        have hB2l:(B++[1]++le m 4).length=B.length+5:=by simp[aE]
        generalize hB2:B++[1]++le m 4=B2 at *;refine c7 [0,1] [2,3,4,5,6,7,8] [0,1] (.alt (bt 2 (.alt (a_ [3,4,5,6,7,8]) (bt 4 (.alt (a_ [3,5,6,7,8]) (bt 5 (.alt (a_ [3,6,7,8]) (bt 6 (a_ [3,7,8])))))))) (bt 4 (.alt (bt 2 (.alt (a_ [3,5,6,7,8]) (bt 5 (.alt (a_ [3,6,7,8]) (bt 6 (a_ [3,7,8])))))) (bt 5 (.alt (bt 2 (.alt (a_ [3,6,7,8]) (bt 6 (a_ [3,7,8])))) (bt 6 (bt 2 (a_ [3,7,8])))))))) ⟨[(1,.d (nb [])),(2,.d (nb ann)),(3,.ptr 0 0 0 1),(6,.ptr 32 0 0 1),(8,.own 3576 0 B2.length B2.length)],[(3576,⟨5,1,rb B2⟩),(32,⟨29,32,[cb z32]⟩)],6000⟩ (k:=9) ?h3 ?hq
        case h3 =>
          intro G hG
          have hW:∀(fr:Fr)(hp:Hp),(fv 1 fr=.d (nb [])∧fv 2 fr=.d (nb ann)∧fv 3 fr=.ptr 0 0 0 1∧fv 6 fr=.ptr 32 0 0 1∧fv 8 fr=.own 3576 0 B2.length B2.length∧lk 3576 hp=some ⟨5,1,rb B2⟩∧lk 32 hp=some ⟨29,32,[cb z32]⟩)→G fr hp:=by
            rintro fr hp⟨q0,q1,q2,q3,q4,q5,q6⟩;refine hG _ _ (bf ⟨?_,?_,aw⟩)
            · simp[ah,AV.low,AV.low1,q0,q1,q2,q3,q4,nb]
            · simp [q5,q6]
              exact⟨aK _ _,aC _ _⟩
          have hrb:rb B++[[AV.d (DV.int IntKind.u8 1)]]=rb (B++[1]):=by simp[rb]
          have hp:=eV (B++[1]) m (by rw[hB1l];omega) hn8;rw[hB2]at hp;simp[go_sem,wn,hb3,aN,hrb]
          repeat' apply And.intro
          all_goals first
            |omega
            | (refine gK [832] hp rfl (ai (.one (az (bo hB1l rfl aw))) (ai (.deep a9) aG)) (fun ρ=>by simp [AV.renL,AV.ren]) ?_
               rintro r hp'⟨I,rfl,h0⟩;refine⟨[(I,0)],by simp[fB,gw],?_⟩;simp[go_sem,bG,bE,h0,Blk.ren,aT,bV,AV.renL,AV.ren,bF,aO];refine hW _ _ ?_
               simp[fv,lk,nb])
        case hq =>
          simp[go_sem,nb,hali,halp];refine cE [] hpb rfl (ai (.one (az (.nil 1))) (ai (.deep a9) aG)) ?_;simp[go_sem,aO];refine ae hsm a9 ?_;have hx:=(io hql).trans (dk Q);simp[go_sem]at hx;simp[go_sem,nb,hql,ap,aA hql,aV,hx,aN,lG];have hMl:M.length≤1000:=by rw[hmsg,b_];omega
          refine⟨aq,?_⟩;refine cE [3576] (lH cK _ rfl M (by simp[cK]) aq) rfl (ai (.deep a9) (ai (.one (az (bo (L:=M) (by rw[hmsg,b_,hql]) (by rw[hmsg];rfl) aw))) aG)) ?_;have hR:=bk (bO cK++(bO cK++M));have hR':(hJ cK M).length=32:=hR;generalize hJ cK M=S at *;simp[go_sem,aO,hR',ap,aA hR',aV,ar]
          exact ag (by
            intro c hc;simp only[d_,List.mem_nil_iff,or_false]at hc;rcases hc with rfl|rfl
            · exact .inr ⟨_,rfl,cj _⟩
            · exact .inl trivial) rfl
end Go.Proofs.YtmfnimjnneflnaaGreat
namespace Go.Sha
open Go.Proofs.YtmfnimjnneflnaaGreat Go.Am
def gr(s:List Nat):List Nat×Bool:=if s.length=34∧s[0]?=some 81∧s[1]?=some 32 then(s.drop 2,true)else(z32,false)
def gu(s:List Nat):Nat:=if s=[81,2,78,115]then 1 else if(gr s).2=true then 2 else 0
end Go.Sha
namespace Go.Proofs.YtmfnimjnneflnaaGreat
open Go.Am Go.Sha
theorem sV(s:List Nat):(gr s).1.length=32:=by
 unfold gr
 split
 ·rename_i h;rw[et,h.1]
 ·rfl
theorem nW(k:List Nat)(b:Bool):(AV.tup [.agg (cb k),.d (.bool b)]).deep:=by
 intro c hc;simp only[d_,List.mem_nil_iff,or_false]at hc;rcases hc with rfl|rfl
 ·exact .inr ⟨_,rfl,cj _⟩
 ·exact .inl trivial
theorem wK(s:List Nat)(hl:s.length≤100000):au Tryz.prog 76 [.d (nb s)] (fun r=>r=.tup [.agg (cb (gr s).1),.d (.bool (gr s).2)]):=by
 by_cases h1:s.length=34
 case neg =>
  have hv:gr s=(z32,false):=by unfold gr;rw[if_neg (fun q=>h1 q.1)]
  have i1:¬(s.length:Int)=34:=aq;rw[hv];refine bu Tryz.func76 Tryz.ntmps76 (rs:=[.cell 2 29,.tmp 3]) a9 ?_;simp[go_sem,nb,h1,i1,ap,mz,aV,ar];exact ag (nW z32 false) rfl
 match s,h1 with
 | a :: b :: r,h1 =>
  have hr:r.length=32:=by simpa using h1
  by_cases h2:a=81
  ·by_cases h3:b=32
   ·subst h2 h3;have hv:gr (81::32::r)=(r,true):=by unfold gr;rw[if_pos ⟨h1,rfl,rfl⟩];rfl
    rw[hv];exact Aq r hr
   ·have hv:gr (a::b::r)=(z32,false):=by unfold gr;rw[if_neg (fun q=>h3 (by simpa using q.2.2))]
    have i3:¬(b:Int)=32:=aq;rw[hv];refine bu Tryz.func76 Tryz.ntmps76 (rs:=[.cell 2 29,.tmp 3]) a9 ?_;simp[go_sem,nb,hr,h2,h3,i3,ap,mz,aV,ar];exact ag (nW z32 false) rfl
  ·have hv:gr (a::b::r)=(z32,false):=by unfold gr;rw[if_neg (fun q=>h2 (by simpa using q.2.1))]
   have i2:¬(a:Int)=81:=aq;rw[hv];refine bu Tryz.func76 Tryz.ntmps76 (rs:=[.cell 2 29,.tmp 3]) a9 ?_;simp[go_sem,nb,hr,h2,i2,ap,mz,aV,ar];exact ag (nW z32 false) rfl
theorem ES(s:List Nat)(hb:bytes s):au Tryz.prog 120 [.d (nb s)] (fun r=>r=.d (.bool (decide (s=[81,2,78,115])))):=by
 refine bu Tryz.func120 Tryz.ntmps120 (rs:=[.tmp 2]) a9 ?_;simp[go_sem];refine cE [64] (AB s [81,2,78,115] hb (fun x hx=>by simp at hx;omega)) rfl (ai (.deep trivial) (ai (.one (az (bo (L:=[81,2,78,115]) rfl rfl aw))) aG)) ?_;simp[go_sem,ar];exact ag (v:=.d (.bool (decide (s=[81,2,78,115])))) trivial rfl
theorem wL(s:List Nat)(hb:bytes s)(hl:s.length≤100000):au Tryz.prog 78 [.d (nb s)] (fun r=>r=.d (.int .i64 (gu s:Int))):=by
 refine bu Tryz.func78 Tryz.ntmps78 (rs:=[.tmp 2]) a9 ?_;have hk:=wK s hl;have hkl:=sV s;unfold gu;generalize gr s=K at *;obtain⟨k,o⟩:=K;simp only at hk hkl;simp[go_sem];refine ae (ES s hb) a9 ?_;by_cases h1:s=[81,2,78,115]
 ·simp[go_sem,h1,ar];exact ag (v:=.d (.int .i64 1)) trivial rfl
 ·simp[go_sem,h1];refine ae hk a9 ?_
  cases o
  ·simp[go_sem,h1,ap,hkl,aA hkl,aV,ar];exact ag (v:=.d (.int .i64 0)) trivial rfl
  ·simp[go_sem,h1,ap,hkl,aA hkl,aV,ar];exact ag (v:=.d (.int .i64 2)) trivial rfl
end Go.Proofs.YtmfnimjnneflnaaGreat
namespace Go.Sha
def lR(ws:List (List Nat)):List (List Nat):=if 2≤ws.length∧(ws.getLastD []).head?=some 80 then ws.dropLast else ws
end Go.Sha
namespace Go.Proofs.YtmfnimjnneflnaaGreat
open Go.Am Go.Sha
theorem iD(b:List Nat)(hl:b.length≤100000000000):au Tryz.prog 155 [.d (nb b)] (fun r=>r=.d (nb b)):=by
 refine bu Tryz.func155 Tryz.ntmps155 (rs:=[.tmp 2]) a9 ?_;simp only[go_sem,nb,Nat.reduceEqDiff,Nat.reduceAdd,Nat.reduceLT,↓reduceIte];intro t hb
 cases t with
 |true =>
  have h0:b=[]:=List.eq_nil_of_length_eq_zero (by simpa using hb rfl);subst h0;simp[go_sem,ar];exact mY (az (.nil 1)) a9 rfl
 |false =>
  simp[go_sem,dk,aN,ar];refine⟨aq,?_⟩;exact mY (az (bo rfl rfl trivial)) a9 rfl
def lS(ws:List (List Nat)):List Nat:=if 2≤ws.length∧(ws.getLastD []).head?=some 80 then ws.getLastD []else[]
/-- The loop behind: what is left is copied. -/
theorem BH(ws:List (List Nat))(hn:ws.length≤1000)(hw:∀x,x∈ws→x.length≤100000) :
  au Tryz.prog 122 [.d (.ro 1 (ws.map bp))] (fun r=>r=.tup [.d (.ro 1 ((lR ws).map bp)),.d (nb (lS ws))]):=by
 refine bu Tryz.func122 Tryz.ntmps122 (rs:=[.tmp 2,.tmp 3]) a9 ?_;by_cases hc:2≤ws.length∧(ws.getLastD []).head?=some 80
 ·have hA:lR ws=ws.dropLast:=if_pos hc;have hX:lS ws=ws.getLastD []:=if_pos hc;rw[hA,hX];obtain⟨h2,h80⟩:=hc
  have hlast:ws[ws.length-1]?=some (ws.getLastD []):=by
   rw[List.getLastD_eq_getLast?,←List.getLast?_eq_getElem?]
   cases hq:ws.getLast? with
   |none=>rw[List.getLast?_eq_none_iff]at hq;subst hq;simp at h2
   |some x=>rfl
  have hxl:=hw _ (cr hlast);have hdl:ws.dropLast=ws.take (ws.length-1):=List.dropLast_eq_take;rw[hdl];generalize ws.getLastD []=x at *
  obtain⟨r,hr⟩:∃r,x=80::r:=by
   cases x with
   |nil=>simp at h80
   |cons a r=>simp at h80;subst h80;exact⟨r,rfl⟩
  have h2':(2:Int)≤(ws.length:Int):=aq;have w1:IntKind.i64.wrap ((ws.length:Int)-1)=((ws.length-1:Nat):Int):=by rw[IntWalk.i64_in _ aq];omega
  have hcl:=iD x aq;have hx0:0<x.length:=by rw[hr];simp
  have hx0':(0:Int)<(x.length:Int):=aq;have hx00:x[0]?=some 80:=by rw[hr];rfl
  have hx0g:∀h:0<x.length,x[0]=80:=fun h=>(ci.1 hx00).2;have hxs:∀y,y∈ws.take (ws.length-1)→y.length≤100000000000:=fun y hy=>by have:=hw y (List.mem_of_mem_take hy);omega
  have hxn:(ws.take (ws.length-1)).length≤1000:=by rw[List.length_take];omega
  have htk:(ws.map bp).take (ws.length-1)=(ws.take (ws.length-1)).map bp:=(List.map_take).symm;have hle:ws.length-1≤ws.length:=aq;have hle':((ws.length-1:Nat):Int)≤(ws.length:Int):=aq;simp[go_sem,h2,h2',w1,hlast,bp,nb,hx0,hx0',hx00,hx0g];refine cQ [0,1,2,3,4,5,6,7,8] [(9,[10,11])] 1 (k:=12) ?_;intro G hG;simp[go_sem,w1,hlast,hle,hle'];refine ae hcl a9 ?_;simp[go_sem];refine hG _ _ ?_;clear hG G;simp[go_sem];rw[←List.map_take];have hlx:(ws.take (ws.length-1)).length=ws.length-1:=by rw[List.length_take];omega
  generalize ws.take (ws.length-1)=xs at *
  refine am (fun k:Nat=>⟨[(5,.d (nb x)),(7,.own 5000 0 k k),(44,.d (.ro 1 (xs.map bp))),(45,.d (.int .i64 (xs.length:Int))),(46,.d (.int .i64 (k:Int)))],[(5000,⟨31,1,(xs.take k).map fun x=>[AV.d (nb x)]⟩)],6000⟩)
   (fun k=>k≤xs.length) (fun k=>xs.length-k) 0 aq (by
    simp[ak,ah,fv,lk,AV.low,AV.low1,bp,nb];omega) ?_
  intro k hk;simp only[go_sem,Nat.reduceEqDiff,Nat.reduceAdd,Nat.reduceLT,↓reduceIte,Nat.reduceMul];refine⟨fun h=>?_,fun h=>?_⟩
  ·obtain⟨y,hy1,hd⟩:=aL (l:=xs) (k:=k) aq;have w3:=al (k:=k) aq;have hyc:=iD y (hxs y (cr hy1));have hms:=eE (f:=fun x=>[AV.d (nb x)]) hy1;have hmk:min k xs.length=k:=aq;simp[go_sem,hy1,bp,hmk];refine ae hyc a9 ?_;rw[List.map_take,List.map_take]at hms;simp[go_sem,w3,hmk,hms];refine⟨aq,?_⟩;refine aj (k+1) aq aq ?_;simp[ak,ah,fv,lk,AV.low,AV.low1,bp,nb];intro r hr;obtain⟨x',_,rfl⟩:=List.mem_map.1 (List.mem_of_mem_take hr);intro v hv;simp at hv;subst hv;trivial
  ·have hk2:k=xs.length:=aq;subst hk2;simp[go_sem,ar];exact il (aI (az (fA (ty:=31) (e:=1) (es:=xs.map bp) (by simp[lk,bp]) trivial aw (by intro r hr;obtain⟨x',_,rfl⟩:=List.mem_map.1 hr;rfl))) (aI (bR trivial) dE)) rfl a9 rfl
 ·have hA:lR ws=ws:=if_neg hc;have hX:lS ws=[]:=if_neg hc;rw[hA,hX];have hxs:∀y,y∈ws→y.length≤100000000000:=fun y hy=>by have:=hw y hy;omega
  have hxn:ws.length≤1000:=hn;generalize hgo:ws=xs at *;by_cases h2:2≤xs.length
  ·have h2':(2:Int)≤(xs.length:Int):=aq;have w1:IntKind.i64.wrap ((xs.length:Int)-1)=((xs.length-1:Nat):Int):=by rw[IntWalk.i64_in _ aq];omega
   obtain⟨x,hlast⟩:∃x,xs[xs.length-1]?=some x:=⟨_,cm aq⟩;have hgl:xs.getLastD []=x:=by rw[List.getLastD_eq_getLast?,List.getLast?_eq_getElem?,hlast];rfl
   cases x with
   | nil =>
    simp[go_sem,h2,h2',w1,hlast,bp,nb]
    refine am (fun k:Nat=>⟨[(5,.nil),(7,.own 5000 0 k k),(44,.d (.ro 1 (xs.map bp))),(45,.d (.int .i64 (xs.length:Int))),(46,.d (.int .i64 (k:Int)))],[(5000,⟨31,1,(xs.take k).map fun x=>[AV.d (nb x)]⟩)],6000⟩)
     (fun k=>k≤xs.length) (fun k=>xs.length-k) 0 aq (by
      simp[ak,ah,fv,lk,AV.low,AV.low1,bp,nb,hxn]) ?_
    intro k hk;simp only[go_sem,Nat.reduceEqDiff,Nat.reduceAdd,Nat.reduceLT,↓reduceIte,Nat.reduceMul];refine⟨fun h=>?_,fun h=>?_⟩
    ·obtain⟨y,hy1,hd⟩:=aL (l:=xs) (k:=k) aq;have w3:=al (k:=k) aq;have hyc:=iD y (hxs y (cr hy1));have hms:=eE (f:=fun x=>[AV.d (nb x)]) hy1;have hmk:min k xs.length=k:=aq;simp[go_sem,hy1,bp,hmk];refine ae hyc a9 ?_;rw[List.map_take,List.map_take]at hms;simp[go_sem,w3,hmk,hms];refine⟨aq,?_⟩;refine aj (k+1) aq aq ?_;simp[ak,ah,fv,lk,AV.low,AV.low1,bp,nb];intro r hr;obtain⟨x',_,rfl⟩:=List.mem_map.1 (List.mem_of_mem_take hr);intro v hv;simp at hv;subst hv;trivial
    ·have hk2:k=xs.length:=aq;subst hk2;simp[go_sem,ar];exact il (aI (az (fA (ty:=31) (e:=1) (es:=xs.map bp) (by simp[lk,bp]) trivial aw (by intro r hr;obtain⟨x',_,rfl⟩:=List.mem_map.1 hr;rfl))) (aI (az (.nil 1)) dE)) rfl a9 rfl
   | cons c r =>
    have hc80:¬c=80:=fun e=>hc ⟨h2,by rw[hgl,e];rfl⟩;have hc80':¬(c:Int)=80:=aq;simp[go_sem,h2,h2',w1,hlast,bp,nb,hc80,hc80']
    refine am (fun k:Nat=>⟨[(5,.nil),(7,.own 5000 0 k k),(44,.d (.ro 1 (xs.map bp))),(45,.d (.int .i64 (xs.length:Int))),(46,.d (.int .i64 (k:Int)))],[(5000,⟨31,1,(xs.take k).map fun x=>[AV.d (nb x)]⟩)],6000⟩)
     (fun k=>k≤xs.length) (fun k=>xs.length-k) 0 aq (by
      simp[ak,ah,fv,lk,AV.low,AV.low1,bp,nb,hxn]) ?_
    intro k hk;simp only[go_sem,Nat.reduceEqDiff,Nat.reduceAdd,Nat.reduceLT,↓reduceIte,Nat.reduceMul];refine⟨fun h=>?_,fun h=>?_⟩
    ·obtain⟨y,hy1,hd⟩:=aL (l:=xs) (k:=k) aq;have w3:=al (k:=k) aq;have hyc:=iD y (hxs y (cr hy1));have hms:=eE (f:=fun x=>[AV.d (nb x)]) hy1;have hmk:min k xs.length=k:=aq;simp[go_sem,hy1,bp,hmk];refine ae hyc a9 ?_;rw[List.map_take,List.map_take]at hms;simp[go_sem,w3,hmk,hms];refine⟨aq,?_⟩;refine aj (k+1) aq aq ?_;simp[ak,ah,fv,lk,AV.low,AV.low1,bp,nb];intro r hr;obtain⟨x',_,rfl⟩:=List.mem_map.1 (List.mem_of_mem_take hr);intro v hv;simp at hv;subst hv;trivial
    ·have hk2:k=xs.length:=aq;subst hk2;simp[go_sem,ar];exact il (aI (az (fA (ty:=31) (e:=1) (es:=xs.map bp) (by simp[lk,bp]) trivial aw (by intro r hr;obtain⟨x',_,rfl⟩:=List.mem_map.1 hr;rfl))) (aI (az (.nil 1)) dE)) rfl a9 rfl
  ·have h2':¬(2:Int)≤(xs.length:Int):=aq;simp[go_sem,h2,h2']
   refine am (fun k:Nat=>⟨[(5,.nil),(7,.own 5000 0 k k),(44,.d (.ro 1 (xs.map bp))),(45,.d (.int .i64 (xs.length:Int))),(46,.d (.int .i64 (k:Int)))],[(5000,⟨31,1,(xs.take k).map fun x=>[AV.d (nb x)]⟩)],6000⟩)
    (fun k=>k≤xs.length) (fun k=>xs.length-k) 0 aq (by
     simp[ak,ah,fv,lk,AV.low,AV.low1,bp,nb,hxn]) ?_
   intro k hk;simp only[go_sem,Nat.reduceEqDiff,Nat.reduceAdd,Nat.reduceLT,↓reduceIte,Nat.reduceMul];refine⟨fun h=>?_,fun h=>?_⟩
   ·obtain⟨y,hy1,hd⟩:=aL (l:=xs) (k:=k) aq;have w3:=al (k:=k) aq;have hyc:=iD y (hxs y (cr hy1));have hms:=eE (f:=fun x=>[AV.d (nb x)]) hy1;have hmk:min k xs.length=k:=aq;simp[go_sem,hy1,bp,hmk];refine ae hyc a9 ?_;rw[List.map_take,List.map_take]at hms;simp[go_sem,w3,hmk,hms];refine⟨aq,?_⟩;refine aj (k+1) aq aq ?_;simp[ak,ah,fv,lk,AV.low,AV.low1,bp,nb];intro r hr;obtain⟨x',_,rfl⟩:=List.mem_map.1 (List.mem_of_mem_take hr);intro v hv;simp at hv;subst hv;trivial
   ·have hk2:k=xs.length:=aq;subst hk2;simp[go_sem,ar];exact il (aI (az (fA (ty:=31) (e:=1) (es:=xs.map bp) (by simp[lk,bp]) trivial aw (by intro r hr;obtain⟨x',_,rfl⟩:=List.mem_map.1 hr;rfl))) (aI (az (.nil 1)) dE)) rfl a9 rfl
theorem wM(t:Tn)(n:Int)(coins:List (Nat×List Nat))(key sig ann:List Nat):∀v,v∈[AV.agg (eS t n coins),.agg (cb key),.d (nb sig),.d (nb ann)]→v.deep:=by
 intro v hv;simp only[d_,List.mem_nil_iff,or_false]at hv;rcases hv with rfl|rfl|rfl|rfl
 ·exact lh t n coins _ aw
 ·exact cj _
 ·trivial
 ·trivial
theorem qR(t:Tn)(n:Int)(coins:List (Nat×List Nat)):List.take 6 (eS t n coins)=eS t n coins:=rfl
theorem uN(t:Tn)(n:Int)(coins:List (Nat×List Nat)):(eS t n coins).length=6:=rfl
theorem ET(t:Tn)(n:Nat)(coins:List (Nat×List Nat)):∀N,∀v,v∈eS t (n:Int) coins→v.low1 N:=by
 intro N v hv;simp[eS]at hv;rcases hv with rfl|rfl|rfl|rfl|rfl|rfl<;>trivial
theorem wO(k:List Nat)(e:Int):(AV.tup [.agg (cb k),.d (.int .i64 e)]).flat:=by
 intro c hc;simp only[d_,List.mem_nil_iff,or_false]at hc;rcases hc with rfl|rfl
 ·refine .inr ⟨_,rfl,?_⟩;intro x hx;simp only[cb,List.mem_map]at hx;obtain⟨y,_,rfl⟩:=hx
  trivial
 ·exact .inl trivial
theorem BI(t:Tn)(n:Int)(coins:List (Nat×List Nat))(key sig ann q:List Nat)(o:Bool)(hk:key.length=32)(q1:q.length=32)
  (hm:au Tryz.prog 43 [.agg (eS t n coins),.d (nb []),.d (nb ann)] (fun r=>r=.tup [.agg (cb q),.d (.int .i64 0)]))
  (hv:au Tryz.prog 156 [.agg (cb key),.d (nb q),.d (nb sig)] (fun v=>v=.d (.bool o))) :
  au Tryz.prog 123 [.agg (eS t n coins),.agg (cb key),.d (nb sig),.d (nb ann)] (fun r=>r=.d (.int .i64 (if o then 0 else 20))):=by
 refine bu Tryz.func123 Tryz.ntmps123 (rs:=[.tmp 8]) (wM t n coins key sig ann) ?_;have hl:=uN t n coins;have htk:=qR t n coins;have hd1:=lh t n coins _ (List.mem_singleton.2 rfl);have hx1:=io q1;rw[dk]at hx1;generalize eS t n coins=S at *;simp[go_sem,hl,htk,ap,hk];refine fg hm rfl (ai (.deep hd1) (ai (.one (az (.nil 1))) (ai (.deep trivial) aG))) (wO q 0) ?_;simp[go_sem]at hx1;simp[go_sem,ap,q1,aA q1,aV];refine cQ [0,1,2,3,4,5] [(6,[7,8])] 1 (k:=9) ?_;intro G hG;simp[go_sem,ap,hk,aA hk,q1];refine fg hv rfl (ai (.deep (cj _)) (ai (.one (az (im rfl trivial q1))) (ai (.deep trivial) aG))) trivial ?_
 cases o
 ·simp[go_sem];refine hG _ _ ?_;clear hG G;simp[go_sem,ar];exact ag (v:=.d (.int .i64 20)) trivial rfl
 ·simp[go_sem];refine hG _ _ ?_;clear hG G;simp[go_sem,ar];exact ag (v:=.d (.int .i64 0)) trivial rfl
def dG(p:List (Int×Int)×Int):AV:=.tup [.d (.ro 2 (p.1.map bT)),.d (.int .i64 p.2)]
theorem iR{Q:AV→Prop}{st:St}{e:Int}(hq:Q (dG ([],e))):eH Q (.tup [.nil,.d (.int .i64 e)]) st :=
 il (cs':=[.d (.ro 2 []),.d (.int .i64 e)]) (aI (az (.nil 2)) (aI (bR trivial) dE)) rfl a9 hq
theorem EU(p:List (Int×Int)×Int):(dG p).deep:=by simp[dG,AV.deep,AV.deep1]
theorem wP(t:Tn)(n:Int)(coins:List (Nat×List Nat))(key:List Nat):∀v,v∈[AV.agg (eS t n coins),.agg (cb key)]→v.deep:=by
 intro v hv;simp only[d_,List.mem_nil_iff,or_false]at hv;rcases hv with rfl|rfl
 ·exact lh t n coins _ aw
 ·exact cj _
structure SpOk(t:Tn)(coins:List (Nat×List Nat)):Prop where
 sm:Sm t
 cc:IU coins
 cb:∀o,o∈coins→bytes o.2
 ob:∀o,o∈t.outs→bytes o.2
 wb:∀i,i∈t.ins→∀x,x∈i.wit→bytes x
theorem uO(t:Tn)(n:Nat)(coins:List (Nat×List Nat))(key:List Nat)(h:SpOk t coins)(hk:key.length=32)(hn:n<t.ins.length)(x X:List Nat)(e:Int)(i:Ip)(hii:t.ins[n]?=some i)(hW:lR i.wit=[x])(hX:lS i.wit=X)
  (he:au Tryz.prog 123 [.agg (eS t (n:Int) coins),.agg (cb key),.d (nb x),.d (nb X)] (fun r=>r=.d (.int .i64 e))) :
  au Tryz.prog 80 [.agg (eS t (n:Int) coins),.agg (cb key)] (fun r=>r=dG ([],e)):=by
 have hi:=cm hn;have hii2:t.ins[n]=i:=(List.getElem_of_getElem? hii).2;have hio:=h.sm.1.2.2.1 _ (List.getElem_mem hn);have hiw:=h.sm.2.2.2.2 _ (List.getElem_mem hn);have hib:=h.wb _ (List.getElem_mem hn);rw[hii2]at hi hio hiw hib;clear hii2 hii;have hAn:=BH i.wit (by have:=hiw.1;omega) (fun x hx=>by have:=hiw.2 x hx;omega);have h35:(eI i)[35]?=some (.ro 1 (i.wit.map bp))∨True:=.inr trivial;have hl:=uN t (n:Int) coins;have htk:=qR t (n:Int) coins;have e1:(eS t (n:Int) coins)[1]?=some (.d (.ro 35 (t.ins.map eI))):=rfl;have e4:(eS t (n:Int) coins)[4]?=some (.d (.int .i64 (n:Int))):=rfl;have l1:∀h:1<(eS t (n:Int) coins).length,(eS t (n:Int) coins)[1]'h=_:=fun h=>(List.getElem_of_getElem? e1).2;have l4:∀h:4<(eS t (n:Int) coins).length,(eS t (n:Int) coins)[4]'h=_:=fun h=>(List.getElem_of_getElem? e4).2
 have h34:(eI i)[34]?=some (.ro 1 (i.wit.map bp)):=by
  unfold eI;rw[dn (by rw[da,hio.1];omega),da,hio.1];rfl
 have hinl:n<t.ins.length:=hn;have hkd:=wM t (n:Int) coins key x X;rw[hW,hX]at hAn;refine bu Tryz.func80 Tryz.ntmps80 (rs:=[.tmp 4,.tmp 5]) (wP t n coins key) ?_;generalize hS:eS t (n:Int) coins=S at *;simp[go_sem,hl,htk,e1,e4,l1,l4,hi,h34,ap,hk];refine ae hAn a9 ?_;simp[go_sem,hl,htk];refine cQ [0,1,2,3,4,5] [(6,[7,8])] 1 (k:=9) ?_;intro G hG;simp[go_sem,hl,htk,ap,hk,aA hk,bp];refine ae he hkd ?_;simp[go_sem];refine hG _ _ ?_;clear hG G;simp[go_sem,ar];exact iR rfl
theorem uP{s:List Nat}(h:bytes s):bytes (gr s).1:=by
 unfold gr
 split
 ·exact fun y hy=>h y (List.mem_of_mem_drop hy)
 ·intro y hy;have:y=0:=by simpa[z32]using hy
  omega
theorem sW(s:List Nat):gu s=1∨(gu s=2∧(gr s).2=true)∨gu s=0:=by
 unfold gu
 split
 ·exact .inl rfl
 ·split
  ·rename_i h;exact .inr (.inl ⟨rfl,h⟩)
  ·exact .inr (.inr rfl)
theorem wQ(t:Tn)(n:Nat)(coins:List (Nat×List Nat))(h:SpOk t coins)(p:List (Int×Int)×Int)
  (p3:∀o,aU t (n:Int) coins=0→coins[n]?=some o→gu o.2=2→au Tryz.prog 80 [.agg (eS t (n:Int) coins),.agg (cb (gr o.2).1)] (fun r=>r=dG p)) :
  ∃p':List (Int×Int)×Int,(p'=p∨p'.1=[])∧(∀(o:Nat×List Nat)(i:Ip),aU t (n:Int) coins=0→coins[n]?=some o→t.ins[n]?=some i→(gu o.2=1→p'=([],if i.wit=[]then 0 else 27))∧(gu o.2=0→p'=([],28)))∧(∀o,aU t (n:Int) coins=0→coins[n]?=some o→gu o.2=2→p'=p)∧au Tryz.prog 41 [.agg (eS t (n:Int) coins)] (fun r=>r=dG p'):=by
 have hck:=jL t (n:Int) coins h.sm (by have:=h.cc.1;omega);have hd1:=lh t (n:Int) coins;have hl:=uN t (n:Int) coins;have htk:=qR t (n:Int) coins;rcases yl t (n:Int) coins with c0|c0
 case inr =>
  refine⟨([],1),.inr rfl,fun o i q=>absurd q (by rw[c0];omega),fun o q=>absurd q (by rw[c0];omega),?_⟩;rw[c0]at hck;refine bu Tryz.func41 Tryz.ntmps41 (rs:=[.tmp 2,.tmp 3]) hd1 ?_;generalize eS t (n:Int) coins=S at *;simp[go_sem,hl,htk];refine ae hck hd1 ?_;simp[go_sem,ar];exact iR rfl
 rw[c0]at hck
 have hcx:coins.length=t.ins.length∧n<coins.length:=by
  unfold aU at c0
  split at c0
  ·cases c0
  ·rename_i hq;simp only[not_or,Int.not_lt,Int.not_le,ne_eq,Classical.not_not]at hq;exact⟨hq.2.1,by have:=hq.2.2.2.1;omega⟩
 have hn:n<t.ins.length:=aq;have hi:=cm hn;have hio:=h.sm.1.2.2.1 _ (List.getElem_mem hn);have ho:=cm hcx.2;have hob:=h.cb _ (List.getElem_mem hcx.2);have hol:=(h.cc.2 _ (List.getElem_mem hcx.2)).2;generalize t.ins[n]=i at *;generalize coins[n]=o at *;have hog:∀hh:n<coins.length,coins[n]'hh=o:=fun hh=>(List.getElem_of_getElem? ho).2;have hig:∀hh:n<t.ins.length,t.ins[n]'hh=i:=fun hh=>(List.getElem_of_getElem? hi).2;have e1:(eS t (n:Int) coins)[1]?=some (.d (.ro 35 (t.ins.map eI))):=rfl;have e4:(eS t (n:Int) coins)[4]?=some (.d (.int .i64 (n:Int))):=rfl;have e5:(eS t (n:Int) coins)[5]?=some (.d (.ro 2 (coins.map eO))):=rfl;have l1:∀h:1<(eS t (n:Int) coins).length,(eS t (n:Int) coins)[1]'h=_:=fun h=>(List.getElem_of_getElem? e1).2;have l4:∀h:4<(eS t (n:Int) coins).length,(eS t (n:Int) coins)[4]'h=_:=fun h=>(List.getElem_of_getElem? e4).2;have l5:∀h:5<(eS t (n:Int) coins).length,(eS t (n:Int) coins)[5]'h=_:=fun h=>(List.getElem_of_getElem? e5).2
 have h34:(eI i)[34]?=some (.ro 1 (i.wit.map bp)):=by
  unfold eI;rw[dn (by rw[da,hio.1];omega),da,hio.1];rfl
 have hkf:=wL o.2 hob aq;have hks:=wK o.2 aq;have hkl:=sV o.2;have hkb:=uP hob;have p3:=p3 o c0 ho;have hud:=wP t n coins (gr o.2).1;have hcn:n<coins.length:=hcx.2;rcases sW o.2 with k1|⟨k2,k3⟩|k0
 ·rw[k1]at hkf;by_cases hw:i.wit=[]
  ·refine⟨([],0),.inr rfl,fun o' i' _ ho' hi'=>by
    rw[ho]at ho';rw[hi]at hi';cases ho';cases hi'
    exact⟨fun _=>by rw[if_pos hw],fun q=>absurd q (by rw[k1];omega)⟩,fun o' _ ho' q=>absurd q (by rw[ho]at ho';cases ho';omega),?_⟩
   refine bu Tryz.func41 Tryz.ntmps41 (rs:=[.tmp 2,.tmp 3]) hd1 ?_;generalize eS t (n:Int) coins=S at *;simp[go_sem,hl,htk];refine ae hck hd1 ?_;simp[go_sem,hl,htk,e5,e4,l5,l4,ho,hog,hcn,eO];refine ae hkf a9 ?_;simp[go_sem,hl,e1,e4,l1,l4,hi,hig,hn,h34,hw,ar];exact iR rfl
  ·have hw0:¬i.wit.length=0:=fun q=>hw (List.length_eq_zero_iff.1 q);have hw1:0<i.wit.length:=aq;have hw2:(0:Int)<(i.wit.length:Int):=aq
   refine⟨([],27),.inr rfl,fun o' i' _ ho' hi'=>by
    rw[ho]at ho';rw[hi]at hi';cases ho';cases hi'
    exact⟨fun _=>by rw[if_neg hw],fun q=>absurd q (by rw[k1];omega)⟩,fun o' _ ho' q=>absurd q (by rw[ho]at ho';cases ho';omega),?_⟩
   refine bu Tryz.func41 Tryz.ntmps41 (rs:=[.tmp 2,.tmp 3]) hd1 ?_;generalize eS t (n:Int) coins=S at *;simp[go_sem,hl,htk];refine ae hck hd1 ?_;simp[go_sem,hl,htk,e5,e4,l5,l4,ho,hog,hcn,eO];refine ae hkf a9 ?_;simp[go_sem,hl,e1,e4,l1,l4,hi,hig,hn,h34,hw0,hw1,hw2,ar];exact iR rfl
 ·rw[k2]at hkf;rw[k3]at hks;have p3:=p3 k2
  refine⟨p,.inl rfl,fun o' i' _ ho' hi'=>by
   rw[ho]at ho';cases ho'
   exact⟨fun q=>absurd q (by rw[k2];omega),fun q=>absurd q (by rw[k2];omega)⟩,fun _ _ _ _=>rfl,?_⟩
  refine bu Tryz.func41 Tryz.ntmps41 (rs:=[.tmp 2,.tmp 3]) hd1 ?_;generalize eS t (n:Int) coins=S at *;generalize(gr o.2).1=K at *;simp[go_sem,hl,htk];refine ae hck hd1 ?_;simp[go_sem,hl,htk,e5,e4,l5,l4,ho,hog,hcn,eO];refine ae hkf a9 ?_;simp[go_sem];refine ae hks a9 ?_;simp[go_sem,hl,htk,ap,hkl,aA hkl,aV];refine ae p3 hud ?_;unfold dG;simp[go_sem,ar];exact ag (EU p) rfl
 ·rw[k0]at hkf
  refine⟨([],28),.inr rfl,fun o' i' _ ho' hi'=>by
   rw[ho]at ho';cases ho'
   exact⟨fun q=>absurd q (by rw[k0];omega),fun _=>rfl⟩,fun o' _ ho' q=>absurd q (by rw[ho]at ho';cases ho';omega),?_⟩
  refine bu Tryz.func41 Tryz.ntmps41 (rs:=[.tmp 2,.tmp 3]) hd1 ?_;generalize eS t (n:Int) coins=S at *;simp[go_sem,hl,htk];refine ae hck hd1 ?_;simp[go_sem,hl,htk,e5,e4,l5,l4,ho,hog,hcn,eO];refine ae hkf a9 ?_;simp[go_sem,ar];exact iR rfl
end Go.Proofs.YtmfnimjnneflnaaGreat
namespace Go.Sha
def sX(V:Nat→List (Int×Int)×Int):Nat→Nat→List (Int×Int)→List (Int×Int)×Int
 |0,_,all=>(all,0)
 |k+1,i,all=>if(V i).2=0 then sX V k (i+1) (all++(V i).1)else([],(V i).2)
end Go.Sha
namespace Go.Proofs.YtmfnimjnneflnaaGreat
open Go.Am Go.Sha
theorem qS(t:Tn)(coins:List (Nat×List Nat)):∀v,v∈[AV.agg (eT t),.d (.ro 2 (coins.map eO))]→v.deep:=by simp[AV.deep,AV.deep1,eT]
def mI(t:Tn)(coins:List (Nat×List Nat))(V:Nat→List (Int×Int)×Int):List (Int×Int)×Int:=if aU t 0 coins≠0 then([],1)else sX V t.ins.length 0 []
theorem lj(t:Tn)(n:Int)(coins:List (Nat×List Nat)):eS t n coins=[.d (.int .u32 (t.ver:Int)),.d (.ro 35 (t.ins.map eI)),.d (.ro 2 (t.outs.map eO)),.d (.int .u32 (t.lock:Int)),.d (.int .i64 n),.d (.ro 2 (coins.map eO))]:=rfl
theorem BJ{hp:Hp}{I:Nat→Prop}{id n:Nat}{l:List (Int×Int)}(hb:lk id hp=some ⟨55,2,l.map LO⟩)(hI:I id)(hn:l.length=n):SnapD hp I (.own id 0 n n) (.ro 2 (l.map bT)) :=
 fA (es:=l.map bT) (by rw[hb,List.map_map];rfl) hI (by simp[hn]) (fun r hr=>by
  rw[List.mem_map]at hr;obtain⟨w,_,rfl⟩:=hr
  rfl)
theorem yo(t:Tn)(coins:List (Nat×List Nat))(V:Nat→List (Int×Int)×Int)(h:SpOk t coins)(hV:∀n:Nat,au Tryz.prog 41 [.agg (eS t (n:Int) coins)] (fun r=>r=dG (V n)))(hL:∀n,(V n).1.length≤2000) :
  au Tryz.prog 39 [.agg (eT t),.d (.ro 2 (coins.map eO))] (fun r=>r=dG (mI t coins V)):=by
 refine bu Tryz.func39 Tryz.ntmps39 (rs:=[.tmp 4,.tmp 5]) (qS t coins) ?_;have hck:=jL t 0 coins h.sm (by have:=h.cc.1;omega);have hd1:=lh t 0 coins;have h6:=h.sm.2.1;unfold mI;by_cases c0:aU t 0 coins=0
 case neg =>
  rw[if_pos c0];generalize aU t 0 coins=ck at *;simp only[lj]at hck hd1;simp[go_sem,eT];refine ae hck hd1 ?_;simp[go_sem,c0,ar];exact iR rfl
 rw[if_neg (fun q=>q c0)];rw[c0]at hck;generalize hR:sX V t.ins.length 0 []=R;simp only[lj]at hck hd1;simp[go_sem,eT];refine ae hck hd1 ?_;simp[go_sem]
 refine am (fun u:Nat×List (Int×Int)=>⟨[(2,.ptr 0 0 0 1),(6,.ptr 192 0 0 1),(7,.own 4000 0 u.2.length u.2.length),(19,.d (.int .i64 (t.ins.length:Int))),(20,.d (.int .i64 (u.1:Int)))],
   [(4000,⟨55,2,u.2.map LO⟩),(192,⟨28,6,[eS t ((u.1-1:Nat):Int) coins]⟩),(0,⟨26,4,[eT t]⟩)],5000⟩)
  (fun u=>u.1≤t.ins.length∧u.2.length≤2000*u.1∧sX V (t.ins.length-u.1) u.1 u.2=R) (fun u=>t.ins.length-u.1) (0,[]) ⟨aw,aw,hR⟩ (by
   simp[ak,ah,fv,lk,AV.low,AV.low1,eS,eT]) ?_
 rintro⟨k,all⟩⟨hk,ha,hR⟩;simp only at hk ha hR;simp only[lj,eT];simp[go_sem];refine⟨fun hkl=>?_,fun hkl=>?_⟩
 ·obtain⟨m,hm⟩:∃m,t.ins.length-k=m+1:=⟨t.ins.length-k-1,aq⟩;rw[hm]at hR;unfold sX at hR;have hv:=hV k;have hvl:=hL k;have hvd:=lh t (k:Int) coins;have w3:=al (k:=k) aq;simp only[lj]at hv hvd;generalize V k=p at *;obtain⟨l,e⟩:=p;simp only at hR hvl;unfold dG at hv;refine ae hv hvd ?_;by_cases he:e=0
  ·subst he;rw[if_pos rfl]at hR;have hm2:List.map ((fun r=>List.map AV.d r)∘bT) l=l.map LO:=rfl;simp[go_sem,hm2,w3];refine⟨aq,?_⟩;refine aj (k+1,all++l) ⟨by simp only;omega,by simp only[b_];omega,by simp only;rw[show t.ins.length-(k+1)=m by omega];exact hR⟩ (by simp only;omega) ?_;simp[ak,ah,fv,lk,AV.low,AV.low1,eS,eT];rintro r(⟨a,b,_,rfl⟩|⟨a,b,_,rfl⟩)v hv<;>simp[LO]at hv<;>rcases hv with rfl|rfl<;>trivial
  ·rw[if_neg he]at hR;subst hR;simp[go_sem,he,ar];exact iR rfl
 ·have hke:k=t.ins.length:=aq;subst hke;rw[Nat.sub_self]at hR;unfold sX at hR;subst hR;simp[go_sem,ar];exact il (aI (az (BJ (l:=all) rfl trivial rfl)) (aI (bR trivial) dE)) rfl a9 rfl
def EV(o:Nat×List Nat):Int×List Nat:=((o.1:Int),o.2)
theorem BK(l:List (Nat×List Nat)):l.map eO=(l.map EV).map lI:=by
 rw[List.map_map];rfl
def EW(t:Tn)(q:List (Int×Int)×Int):Int:=if q.2=0 then jl (t.outs.map EV) q.1 else q.2
theorem Iw(t:Tn)(coins:List (Nat×List Nat))(q:List (Int×Int)×Int)(hq:q.1.length≤100000)(ho:t.outs.length≤6)
  (hc:au Tryz.prog 39 [.agg (eT t),.d (.ro 2 (coins.map eO))] (fun r=>r=dG q)) :
  au Tryz.prog 40 [.agg (eT t),.d (.ro 2 (coins.map eO))] (fun r=>r=.d (.int .i64 (EW t q))):=by
 refine bu Tryz.func40 Tryz.ntmps40 (rs:=[.tmp 4]) (qS t coins) ?_;have hcd:=qS t coins;obtain⟨l,e⟩:=q;have hs:=xM (t.outs.map EV) l (by simp only at hq;omega) (by simp;omega);rw[←BK]at hs;unfold dG at hc;simp only at hc;simp only[eT]at hc hcd;unfold EW;generalize jl (t.outs.map EV) l=S at *;simp[go_sem,eT];refine ae hc hcd ?_;by_cases he:e=0
 ·simp[go_sem,he];refine ae hs a9 ?_;simp[go_sem,ar];exact ag (v:=.d (.int .i64 S)) trivial rfl
 ·simp[go_sem,he,ar];exact ag (v:=.d (.int .i64 e)) trivial rfl
end Go.Proofs.YtmfnimjnneflnaaGreat
namespace Go.Sha
open Go.Proofs.YtmfnimjnneflnaaGreat Go.Am
def Ph:List AV:=[.d (.int .u32 0),.nil,.nil,.d (.int .u32 0),.d (.int .i64 0),.nil]++(Ap z32 .nil .nil++[.nil,.nil,.d (.int .i64 0)])
end Go.Sha
namespace Go.Proofs.YtmfnimjnneflnaaGreat
open Go.Am Go.Sha
theorem uQ{hp:Hp}{I:Nat→Prop}{c:List AV}{d:List DV}(h2:CellsR hp I c d):∀b:List DV,CellsR hp I (b.map .d++c) (b++d)
 |[]=>h2
 |y::r=>.cons (.d y) (uQ h2 r)
theorem LG:ek Tryz.prog 36=some Ph:=by kernel_rfl
attribute [go_sem] LG
end Go.Proofs.YtmfnimjnneflnaaGreat
namespace Go.Sha
open Go.Proofs.YtmfnimjnneflnaaGreat Go.Am
def lT:List Nat:=[81,2,78,115]
def tQ(w:List (List Nat)):Tn:=⟨0,[⟨z32,0,0,w⟩],[],0⟩
end Go.Sha
namespace Go.Proofs.YtmfnimjnneflnaaGreat
open Go.Am Go.Sha
theorem qT(t:Tn)(o:Nat×List Nat)(i:Ip)(e:Int)(h:SpOk t [o])(hi:t.ins=[i])(ho:t.outs=[])(c0:aU t 0 [o]=0)(hk:(gu o.2=1∧e=if i.wit=[]then 0 else 27)∨(gu o.2=0∧e=28)) :
  au Tryz.prog 40 [.agg (eT t),.d (.ro 2 ([o].map eO))] (fun r=>r=.d (.int .i64 e)):=by
 obtain⟨V,hV⟩:=Classical.axiomOfChoice (fun n:Nat=>wQ t n [o] h ([],0) (fun o' _ ho' k2=>by
  have:o'=o:=by simpa using cr ho'
  subst this
  rcases hk with ⟨q,_⟩|⟨q,_⟩<;>omega))
 have hvl:∀n,(V n).1.length≤2000:=fun n=>by
  rcases(hV n).1 with q|q<;>rw[q]<;>exact Nat.zero_le _
 have hv0:V 0=([],e):=by
  obtain⟨_,k,_,_⟩:=hV 0;obtain⟨k1,k2⟩:=k o i c0 rfl (by rw[hi];rfl);rcases hk with ⟨q,rfl⟩|⟨q,rfl⟩
  ·exact k1 q
  ·exact k2 q
 have hcl:=yo t [o] V h (fun n=>(hV n).2.2.2) hvl
 have hq:mI t [o] V=([],e):=by
  unfold mI;rw[if_neg (by rw[c0];omega),hi];show sX V 1 0 []=_;unfold sX;rw[hv0];simp only
  split
  ·rename_i he;subst he;rfl
  ·rfl
 rw[hq]at hcl;have:=Iw t [o] ([],e) (Nat.zero_le _) (by rw[ho];simp) hcl
 have ha:EW t ([],e)=e:=by
  unfold EW;simp only
  split
  ·rename_i he;subst he;rw[ho];rfl
  ·rfl
 rw[ha]at this;exact this
theorem BL(w:List (List Nat))(s:List Nat)(hw:Fo w)(hwb:∀x,x∈w→bytes x)(hs:s.length≤100)(hsb:bytes s):SpOk (tQ w) [(0,s)] where
 sm:=⟨⟨by show 0<4294967296;omega,by show 0<4294967296;omega,fun i hi=>by
  have:i=⟨z32,0,0,w⟩:=by simpa[tQ]using hi
  subst this
  exact⟨rfl,by show 0<4294967296;omega,by show 0<4294967296;omega⟩,fun o ho=>(by cases ho)⟩,by show 1≤6;omega,by show 0≤6;omega,fun o ho=>(by cases ho),fun i hi=>by
  have:i=⟨z32,0,0,w⟩:=by simpa[tQ]using hi
  subst this
  exact hw⟩
 cc:=⟨by show 1≤8;omega,fun o ho=>by
  have:o=(0,s):=by simpa using ho
  subst this
  exact⟨by show 0<_;omega,by show s.length≤1100;omega⟩⟩
 cb:=fun o ho=>by
  have:o=(0,s):=by simpa using ho
  subst this;exact hsb
 ob:=fun o ho=>(by cases ho)
 wb:=fun i hi=>by
  have:i=⟨z32,0,0,w⟩:=by simpa[tQ]using hi
  subst this;exact hwb
theorem BM:bytes lT:=fun x hx=>by simp[lT]at hx;omega
theorem Ix:au Tryz.prog 40 [.agg (eT (tQ [])),.d (.ro 2 ([(0,lT)].map eO))] (fun r=>r=.d (.int .i64 0)) :=
 qT (tQ []) (0,lT) ⟨z32,0,0,[]⟩ 0 (BL [] lT ⟨aw,aw⟩ aw (by decide) BM) rfl rfl (by decide) (.inl ⟨by decide,rfl⟩)
theorem Iy:au Tryz.prog 40 [.agg (eT (tQ [])),.d (.ro 2 ([(0,[])].map eO))] (fun r=>r=.d (.int .i64 28)) :=
 qT (tQ []) (0,[]) ⟨z32,0,0,[]⟩ 28 (BL [] [] ⟨aw,aw⟩ aw (by decide) (by intro x hx;cases hx)) rfl rfl (by decide) (.inr ⟨by decide,rfl⟩)
theorem Iz:au Tryz.prog 40 [.agg (eT (tQ [[1]])),.d (.ro 2 ([(0,lT)].map eO))] (fun r=>r=.d (.int .i64 27)) :=
 qT (tQ [[1]]) (0,lT) ⟨z32,0,0,[[1]]⟩ 27 (BL [[1]] lT ⟨aw,aw⟩ (by intro x hx y hy;simp at hx;subst hx;simp at hy;omega) (by decide) BM) rfl rfl (by decide) (.inl ⟨by decide,rfl⟩)
theorem gv:au Tryz.prog 38 [] (fun r=>r=.d (.bool true)):=by
 refine bu Tryz.func38 Tryz.ntmps38 (rs:=[.tmp 0]) aw ?_;have sc:∀(hp:Hp),lk 32 hp=some ⟨5,1,rb lT⟩→SnapD hp (fun _=>True) (.own 32 0 4 4) (nb lT):=fun hp hb=>bo (L:=lT) rfl hb trivial
 have tx:∀(hp:Hp)(id:Nat),lk id hp=some ⟨68,35,[cb z32++[AV.d (.int .u32 0),AV.d (.int .u32 0),.nil]]⟩ →
   Snap hp (fun _=>True) (.agg [.d (.int .u32 0),.own id 0 1 1,.nil,.d (.int .u32 0)]) (.agg (eT (tQ []))):=fun hp id hb =>
  .agg ⟨rfl,aI (bR trivial) (aI (az (gj (rows:=[cb z32++[AV.d (.int .u32 0),AV.d (.int .u32 0),.nil]]) hb trivial rfl (RowsR.cons (uQ (d:=[.ro 1 []]) (.cons (.nil 1) .nil) (cd z32++[.int .u32 0,.int .u32 0])) .nil) rfl (by intro r hr;simp[tQ]at hr;subst hr;rfl)))
   (aI (az (.nil 2)) (aI (bR trivial) dE)))⟩
 simp[go_sem];refine fg Ix rfl (ai (tx _ _ rfl) (ai (.one (az (gj (rows:=[[.d (.int .u64 0),.own 32 0 4 4]]) rfl trivial rfl (RowsR.cons (.cons (.d _) (.cons (sc _ rfl) .nil)) .nil) rfl (by intro r hr;simp at hr;subst hr;rfl)))) aG)) trivial ?_;simp[go_sem];refine fg Iy rfl (ai (tx _ _ rfl) (ai (.one (az (gj (rows:=[[.d (.int .u64 0),.nil]]) rfl trivial rfl (RowsR.cons (.cons (.d _) (.cons (.nil 1) .nil)) .nil) rfl (by intro r hr;simp at hr;subst hr;rfl)))) aG)) trivial ?_;have e34:∀X:AV,List.take 34 (cb z32++[AV.d (.int .u32 0),AV.d (.int .u32 0),AV.nil])++X::List.drop 35 (cb z32++[AV.d (.int .u32 0),AV.d (.int .u32 0),AV.nil])=cb z32++[AV.d (.int .u32 0),AV.d (.int .u32 0),X]:=fun X=>rfl;have hkd:=wL lT BM (by decide);rw[show gu lT=1 by decide]at hkd
 have tx3:∀(hp:Hp),lk 704 hp=some ⟨68,35,[cb z32++[AV.d (.int .u32 0),AV.d (.int .u32 0),.own 640 0 1 1]]⟩→lk 640 hp=some ⟨31,1,[[.own 608 0 1 1]]⟩→lk 608 hp=some ⟨5,1,[[.d (.int .u8 1)]]⟩ →
   Snap hp (fun _=>True) (.agg [.d (.int .u32 0),.own 704 0 1 1,.nil,.d (.int .u32 0)]) (.agg (eT (tQ [[1]]))):=fun hp hb hc hd =>
  .agg ⟨rfl,aI (bR trivial) (aI (az (gj (rows:=[cb z32++[AV.d (.int .u32 0),AV.d (.int .u32 0),.own 640 0 1 1]]) hb trivial rfl
    (RowsR.cons (uQ (d:=[.ro 1 [[nb [1]]]]) (.cons (gj (rows:=[[.own 608 0 1 1]]) hc trivial rfl (RowsR.cons (.cons (bo (L:=[1]) rfl hd trivial) .nil) .nil) rfl (by intro r hr;simp at hr;subst hr;rfl)) .nil) (cd z32++[.int .u32 0,.int .u32 0])) .nil) rfl (by intro r hr;simp[tQ]at hr;subst hr;rfl)))
   (aI (az (.nil 2)) (aI (bR trivial) dE)))⟩
 simp[go_sem,e34];refine fg hkd rfl (ai (.one (az (sc _ rfl))) aG) trivial ?_;simp[go_sem];refine fg Iz rfl (ai (tx3 _ rfl rfl rfl) (ai (.one (az (gj (rows:=[[.d (.int .u64 0),.own 32 0 4 4]]) rfl trivial rfl (RowsR.cons (.cons (.d _) (.cons (sc _ rfl) .nil)) .nil) rfl (by intro r hr;simp at hr;subst hr;rfl)))) aG)) trivial ?_;simp[go_sem,ar];exact ag (v:=.d (.bool true)) trivial rfl
end Go.Proofs.YtmfnimjnneflnaaGreat
