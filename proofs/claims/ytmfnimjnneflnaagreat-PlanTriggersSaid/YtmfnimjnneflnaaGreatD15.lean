/-
 Part 16 of what the claim rests on.
-/
import Derived.Test.YtmfnimjnneflnaaGreatD5
import Derived.Test.YtmfnimjnneflnaaGreatD9
import Derived.Test.YtmfnimjnneflnaaGreatD10
import Derived.Test.YtmfnimjnneflnaaGreatD11
import Derived.Test.YtmfnimjnneflnaaGreatD13
import Derived.Test.YtmfnimjnneflnaaGreatD14
set_option linter.unusedVariables false
set_option linter.unusedSimpArgs false
set_option maxRecDepth 100000
set_option maxHeartbeats 16000000
namespace Go.Proofs.YtmfnimjnneflnaaGreat
open Go.Am Go.Sha Go.Ec
def nN:Nat:=115792089237316195423570985008687907852837564279074904382605163141518161494337
theorem Bo:nN=115792089237316195423570985008687907852837564279074904382605163141518161494337:=rfl
theorem XW:Prm nN:=RB
abbrev gP:Pt pP:=PV gX gY false
theorem kj:gz gP:=lA pe
theorem S9(k:Nat)(e:k<2 ^ 256):Bz fd (D7 pP (JG pP (55066263022277343669578718895168534326250603453777594175500187360389116729240,bY,1) 256 k (0,1,0))) (mp fd k gP):=by
 have b:FV gX=Fin.ofNat pP 55066263022277343669578718895168534326250603453777594175500187360389116729240:=by
  refine nq ?_;rw[dT,←ef]
  kernel_rfl
 have c:FV gY=Fin.ofNat pP bY:=by
  refine nq ?_;rw[dT,←ef]
  kernel_rfl
 have d:Bz fd (D7 pP (55066263022277343669578718895168534326250603453777594175500187360389116729240,bY,1)) gP:=by
  refine⟨1,sD,?_⟩;show _=sc 1 (FV gX,FV gY,CR.ic 1);rw[b,c];simp only[sc,D7,Fin.one_mul];rfl
 have a:Bz fd (D7 pP (0,1,0)) (mp fd (k/2 ^ 256) gP):=by
  rw[Nat.div_eq_of_lt e];refine⟨1,sD,?_⟩;show _=sc 1 (CR.ic 0,CR.ic 1,CR.ic 0);simp only[sc,D7,Fin.one_mul];rfl
 exact sC fd (by rw[mX];omega) kj d k 256 (0,1,0) a
theorem abe{a:Nat}(h:a%pP=0):(Fin.ofNat pP a:F)=0:=Fin.ext (by
 show a%pP=0%pP
 rw[h,Nat.zero_mod])
theorem xG:mp fd nN gP=none :=
 On fd (S9 nN (fD (by kernel_rfl))) (abe (Nat.eq_of_beq_eq_true (by kernel_rfl)))
theorem XX(t:Nat):mp fd (nN*t) gP=none:=by rw[AX fd kj,xG,uM]
theorem XY(a:Nat):mp fd (a%nN) gP=mp fd a gP:=by
 have e:mp fd (nN*(a/nN)+a%nN) gP=mp fd (a%nN) gP:=by
  rw[mV fd kj,XX,d0 fd (ki fd kj _)]
 rw[←e,Nat.div_add_mod]
theorem abf:gP≠none:=fun h=>by cases h
theorem Ta{d:Nat}(b:0<d)(f:d<nN):mp fd d gP≠none:=by
 intro h;have hc:Nat.gcd d nN=1:=by
  have:=Prm.cop XW (a:=d) (fun q=>by have:=Nat.le_of_dvd b q;omega);rw[Nat.gcd_comm];exact this
 obtain⟨s,t,e⟩:=bez (d+nN) d nN (cL _) b (by rw[Bo];omega) hc;have c:mp fd (d*s) gP=none:=by rw[AX fd kj,h,uM]
 rw[e,mV fd kj,XX,WM fd kj,gU fd kj]at c;exact abf c
theorem Tc{A B C:Pt pP}(c:gz A)(d:gz B)(a:gz C)(h:sum fd A C=sum fd B C):A=B:=by
 have e:∀{X:Pt pP},gz X→sum fd (sum fd X C) (ng C)=X:=fun b=>by
  rw[gp fd b a (Uh a),NB fd a,gU fd b]
 rw[←e c,h,e d]
theorem XZ{d:Nat}(h:d≤nN):mp fd (nN-d) gP=ng (mp fd d gP):=by
 have a:=ki fd kj d;refine Tc (ki fd kj _) (Uh a) a ?_;rw[←mV fd kj,Nat.sub_add_cancel h,xG,rU,NB fd a]
theorem Td(k e d:Nat)(f:e<nN):sum fd (mp fd ((k+e*d)%nN) gP) (mp fd ((nN-e)%nN) (mp fd d gP))=mp fd k gP:=by
 have c:=ki fd kj k;rw[XY,←AX fd kj,←mV fd kj];by_cases a:e=0;subst a;rw[Nat.sub_zero,Nat.mod_self,Nat.zero_mul,Nat.mul_zero,Nat.add_zero];rw[Nat.mod_eq_of_lt aq];have b:k+e*d+d*(nN-e)=nN*d+k:=by
  rw[Nat.mul_sub,Nat.mul_comm e d,Nat.mul_comm nN d];have:d*e≤d*nN:=Nat.mul_le_mul_left d aq;omega
 rw[b,mV fd kj,XX,d0 fd c]
end Go.Proofs.YtmfnimjnneflnaaGreat
namespace Go.Ec
def rE:Nat:=28948022309329048855892746252171976963317496166410141009864396001977208667916
theorem rE4:4*rE=(pP-1)+2:=by rw[mX];unfold rE;rfl
theorem Tf{y:Nat}(b:0<y)(c:y<pP):(((y*y%pP) ^ rE%pP)*((y*y%pP) ^ rE%pP))%pP=y*y%pP:=by
 have a:y ^ (pP-1)%pP=1:=A0 A3 (fun q=>by have:=Nat.le_of_dvd b q;omega);rw[←Nat.pow_mod,←Nat.mul_mod,←Nat.pow_add,←Nat.pow_two,←Nat.pow_mul];have e:2*(rE+rE)=(pP-1)+2:=by rw[←rE4];omega
 rw[e,Nat.pow_add,Nat.mul_mod,a,Nat.one_mul,Nat.mod_mod,Nat.pow_two]
theorem Ti{y r:Nat}(j:0<y)(l:y<pP)(m:r<pP)(h:r*r%pP=y*y%pP):r=y∨r=pP-y:=by
 have d:((pP:Nat):Int)∣((r:Int)-y)*((r:Int)+y):=by
  have e:((r:Int)-y)*((r:Int)+y)=(r:Int)*r-(y:Int)*y:=by
   rw[Int.sub_mul,Int.mul_add,Int.mul_add,Int.mul_comm (y:Int) r];omega
  rw[e];refine Int.dvd_of_emod_eq_zero ?_;have i:((r:Int)*r)%(pP:Int)=((y:Int)*y)%(pP:Int):=by
   have:=congrArg (fun n:Nat=>(n:Int)) h;simpa[Int.natCast_emod,Int.natCast_mul]using this
  rw[Int.sub_emod,i,Int.sub_self,Int.zero_emod]
 by_cases b:y≤r;have a:pP∣(r-y)*(r+y):=by
  have e:(((r-y)*(r+y):Nat):Int)=((r:Int)-y)*((r:Int)+y):=by
   rw[Int.natCast_mul,Int.natCast_add,Int.ofNat_sub b]
  exact Int.natCast_dvd_natCast.1 (by rw[e];exact d)
 rcases A3.mul a with q|q;left;rcases Nat.eq_zero_or_pos (r-y)with z|z;omega;have:=Nat.le_of_dvd z q;omega;right;obtain⟨k,g⟩:=q;have f:k<2:=by
  by_cases c:k<2;exact c;exfalso;have:pP*2≤pP*k:=Nat.mul_le_mul_left _ aq;omega
 have:k=0∨k=1:=aq;rcases this with rfl|rfl<;>omega;have a:pP∣(y-r)*(r+y):=by
  have e:(((y-r)*(r+y):Nat):Int)=-(((r:Int)-y)*((r:Int)+y)):=by
   rw[Int.natCast_mul,Int.natCast_add,Int.ofNat_sub aq,←Int.neg_mul,Int.neg_sub]
  exact Int.natCast_dvd_natCast.1 (by rw[e];exact Int.dvd_neg.2 d)
 rcases A3.mul a with q|q;have:=Nat.le_of_dvd aq q;omega;right;obtain⟨k,g⟩:=q;have f:k<2:=by
  by_cases c:k<2;exact c;exfalso;have:pP*2≤pP*k:=Nat.mul_le_mul_left _ aq;omega
 have:k=0∨k=1:=aq;rcases this with rfl|rfl<;>omega
end Go.Ec
namespace Go.Proofs.YtmfnimjnneflnaaGreat
open Go.Am Go.Sha Go.Ec
theorem Bq(x:F):Ey pP ((x.val:Nat):Int)=x:=nq (by
 rw[np,Int.emod_eq_of_lt aq (by have:=x.isLt;omega)])
theorem OK:pP%2=1:=Nat.eq_of_beq_eq_true (by kernel_rfl)
theorem OL{x y:F}(h:gz (some (x,y))):jY x.val=((y.val*y.val%pP:Nat):Int):=by
 have a:y*y=x*x*x+7:=h;have e:=congrArg Fin.val a;rw[Fin.val_mul,Fin.val_add,Fin.val_mul,Fin.val_mul]at e;have b:((7:F).val)=7:=(ade 7).trans (Nat.mod_eq_of_lt (by rw[mX];omega));rw[b,Nat.mod_mul_mod,Nat.mod_add_mod]at e;rw[e];unfold jY;rw[Int.natCast_emod,ef]
 push_cast
 rfl
theorem GB{x y:F}(h:gz (some (x,y)))(m:y.val%2=0):lR x.val∧liftPt x.val=some (x,y):=by
 have j:y≠0:=fd.y_ne h;have a:0<y.val:=by
  rcases Nat.eq_zero_or_pos y.val with q|q;exact absurd (Fin.ext (by rw[q];rfl)) j;exact q
 have hc:=OL h;have f:gW x.val=(((y.val*y.val%pP) ^ rE%pP:Nat):Int):=by
  have e:gW x.val=jY x.val ^ rE%(pP:Int):=by rw[ef];rfl
  rw[e,hc,Il]
 have d:=Tf a y.isLt;have c:(y.val*y.val%pP) ^ rE%pP<pP:=Nat.mod_lt _ (by rw[mX];omega);generalize(y.val*y.val%pP) ^ rE%pP=r at *;have l:=x.isLt;refine⟨⟨?_,?_⟩,?_⟩;have:=ef;show((x.val:Nat):Int)<pZ;omega;show gW x.val*gW x.val%pZ=jY x.val%pZ;rw[f,hc,←ef,←Int.natCast_mul,←Int.natCast_emod,←Int.natCast_emod,d,Nat.mod_mod]
 ·show some (Ey pP ((x.val:Nat):Int),Ey pP (if gW x.val%2=0 then gW x.val else(0-gW x.val)%pZ))=some (x,y);rw[Bq,f];have b:=y.isLt;have g:=OK
  have i:Ey pP (if(r:Int)%2=0 then(r:Int)else(0-(r:Int))%pZ)=y:=by
   rcases Ti a b c d with q|q;rw[if_pos aq,q,Bq];rw[if_neg aq];have e:(0-(r:Int))%pZ=((y.val:Nat):Int):=by
    rw[←ef,q,Int.ofNat_sub aq];have k:(0:Int)-((pP:Int)-(y.val:Int))=(y.val:Int)+(pP:Int)*(-1):=aq;rw[k,Int.add_mul_emod_self_left,Int.emod_eq_of_lt aq aq]
   rw[e,Bq]
  rw[i]
abbrev nZ:Int:=115792089237316195423570985008687907852837564279074904382605163141518161494337
theorem X0:V F9=nZ:=by simp[V,F9]
theorem ni(a:List Int)(l:Wn 4 a):∃r:List Int,Wn 4 r∧V r=V a%nZ∧ap Tryz.prog 124 [.agg (cI a)] (fun v=>v=.agg (cI r)):=by
 obtain⟨s,c,m,hc,t,u⟩:=lu a F9 l y5;have b:=l.1;have e:=m.1;have i:List.drop 4 (cI zI)=[]:=aG rfl;rw[X0]at t;have y:=eC l;have D:=eC m;refine⟨if c=0 then s else a,by split<;>assumption,?_,?_⟩
 obtain⟨z,c2⟩:=hc;unfold nZ at *;split;rename_i h;subst h;omega;omega;refine bz Tryz.func124 Tryz.ntmps124 (rs:=[.cell 2 96]) (aF a) ?_;simp[go_sem,b,aa b];refine cO [0] [1,2,6,7] [0,3,4,5,8] (.alt (bt 1 (.alt (.step 2 [3,4,5] true (bt 6 (.step 7 [8] true .done))) (bt 6 (.step 2 [3,4,5] true (.step 7 [8] true .done))))) (bt 6 (bt 1 (.step 2 [3,4,5] true (.step 7 [8] true .done))))) ⟨[(1,.ptr 0 0 0 1),(2,.ptr 32 0 0 1),(3,.ptr 256 0 0 1),(4,.d (.int .u64 c))],[(256,⟨96,4,[cI s]⟩),(32,⟨96,4,[cI zI]⟩),(0,⟨96,4,[cI a]⟩)],9000⟩ (k:=9) ?h3 ?hq
 case h3 =>
  intro G q;have n:∀(g:Fr)(f:Hp),(fv 1 g=.ptr 0 0 0 1∧fv 2 g=.ptr 32 0 0 1∧fv 3 g=.ptr 256 0 0 1∧fv 4 g=.d (.int .u64 c)∧lk 256 f=some ⟨96,4,[cI s]⟩∧lk 32 f=some ⟨96,4,[cI zI]⟩∧lk 0 f=some ⟨96,4,[cI a]⟩)→G g f:=by
   rintro g f⟨x,E,F,C,B,w,A⟩;refine q _ _ (aV ?_);simp only[av,ah];refine⟨fun p f=>?_,fun p f=>?_,aw⟩;simp only[d_,List.mem_nil_iff,or_false]at f;rcases f with rfl|rfl|rfl|rfl<;>exact⟨.inl (Eq.symm (by assumption)),by simp[AV.low,AV.low1]⟩
   ·simp only[d_,List.mem_nil_iff,or_false]at f;rcases f with rfl|rfl|rfl<;>exact⟨.inl (by assumption),aw,by intro r o;simp only[d_,List.mem_nil_iff,or_false]at o;subst o;first|exact aR _ _|exact aE _ _|exact eU _ _ _ _⟩
  simp[go_sem,b,e,aa b,aa e,i,cZ]
  repeat' first|exact n _ _ ⟨rfl,rfl,rfl,rfl,rfl,rfl,rfl⟩|(refine n _ _ ?_;simp[fv,lk];done)|refine ag kY aw ?_|refine ag u (aI _ _) ?_|apply And.intro|simp[go_sem,b,e,aa b,aa e,i,cZ]
 case hq =>
  by_cases j:c=0
  ·rw[if_pos j];simp[go_sem,j,e,aa e,i,ai];exact cY rfl
  ·rw[if_neg j];simp[go_sem,j,b,aa b,i,ai];exact cY rfl
theorem OM(a:List Int)(m:Wn 4 a):∃r:List Int,Wn 4 r∧V r=(nZ-V a%nZ)%nZ∧ap Tryz.prog 128 [.agg (cI a)] (fun v=>v=.agg (cI r)):=by
 obtain⟨b,o,F,z⟩:=ni a m;obtain⟨s,c,j,hc,t,y⟩:=lu F9 b y5 o;obtain⟨r,h,w,x⟩:=ni s j;have e:=m.1;have u:=o.1;have d:=j.1;have g:=h.1;have l:List.drop 4 (cI zI)=[]:=aG rfl;refine⟨r,h,?_,?_⟩;rw[X0]at t;have D:=eC j;obtain⟨B,c2⟩:=hc;rw[w];unfold nZ at *;omega;refine bz Tryz.func128 Tryz.ntmps128 (rs:=[.cell 2 96]) (aF a) ?_;simp[go_sem,e,aa e];refine cO [1] [0,2,3,7,8] [1,4,5,6,9] (.alt (bt 0 (.alt (bt 2 (.alt (.step 3 [4,5,6] true (bt 7 (.step 8 [9] true .done))) (bt 7 (.step 3 [4,5,6] true (.step 8 [9] true .done))))) (bt 7 (bt 2 (.step 3 [4,5,6] true (.step 8 [9] true .done)))))) (bt 7 (bt 0 (bt 2 (.step 3 [4,5,6] true (.step 8 [9] true .done)))))) ⟨[(2,.ptr 32 0 0 1),(3,.ptr 288 0 0 1)],[(288,⟨96,4,[cI s]⟩),(32,⟨96,4,[cI zI]⟩)],9000⟩ (k:=10) ?h3 ?hq
 case h3 =>
  intro G q;have n:∀(i:Fr)(f:Hp),(fv 2 i=.ptr 32 0 0 1∧fv 3 i=.ptr 288 0 0 1∧lk 288 f=some ⟨96,4,[cI s]⟩∧lk 32 f=some ⟨96,4,[cI zI]⟩)→G i f:=by
   rintro i f⟨A,E,H,C⟩;refine q _ _ (aV ?_);simp only[av,ah];refine⟨fun p f=>?_,fun p f=>?_,aw⟩;simp only[d_,List.mem_nil_iff,or_false]at f;rcases f with rfl|rfl<;>exact⟨.inl (Eq.symm (by assumption)),by simp[AV.low,AV.low1]⟩
   ·simp only[d_,List.mem_nil_iff,or_false]at f;rcases f with rfl|rfl<;>exact⟨.inl (by assumption),aw,by intro r h;simp only[d_,List.mem_nil_iff,or_false]at h;subst h;first|exact aR _ _|exact aE _ _|exact eU _ _ _ _⟩
  simp[go_sem,e,d,aa e,aa d,l,cZ]
  repeat' first|exact n _ _ ⟨rfl,rfl,rfl,rfl⟩|(refine n _ _ ?_;simp[fv,lk];done)|refine ag kY aw ?_|refine ag z (aF _) ?_|refine ag y (aI _ _) ?_|apply And.intro|simp[go_sem,e,d,aa e,aa d,l,cZ]
 case hq =>
  simp[go_sem,d,aa d];refine ag x (aF _) ?_;simp[go_sem,g,aa g,l,ai];exact cY rfl
theorem Tj(b:List Nat)(d:b.length=32)(e:bytes b):∃r:List Int,Wn 4 r∧V r=(eo b:Int)%nZ∧ap Tryz.prog 135 [.agg (cb b)] (fun v=>v=.agg (cI r)):=by
 obtain⟨a,f,i,l⟩:=r7 b d e;obtain⟨r,g,n,h⟩:=ni a f;have m:=f.1;have c:=g.1;have k:List.drop 4 (cI zI)=[]:=aG rfl;have j:List.drop 32 (cb b)=[]:=fg d;refine⟨r,g,by rw[n,i],?_⟩;refine bz Tryz.func135 Tryz.ntmps135 (rs:=[.cell 2 96]) (cv b) ?_;simp[go_sem,aj,d,al d,j];refine ag l (cv _) ?_;simp[go_sem];refine ag h (aF _) ?_;simp[go_sem,c,aa c,k,ai];exact cY rfl
theorem Is:∃r:List Int,Wn 4 r∧V r=115792089237316195423570985008687907853269984665640564039457584007913129639936-nZ∧ap Tryz.prog 132 [] (fun v=>v=.agg (cI r)):=by
 obtain⟨s,c,b,hc,f,d⟩:=lu zI F9 iu y5;have a:=b.1;have g:List.drop 4 (cI zI)=[]:=aG rfl;refine⟨s,b,?_,?_⟩;have e:V zI=0:=by simp[V,zI]
 rw[X0,e]at f;have i:=eC b;obtain⟨h,c2⟩:=hc;unfold nZ at *;omega;refine bz Tryz.func132 Tryz.ntmps132 (rs:=[.cell 0 96]) aw ?_;simp[go_sem];refine ag kY aw ?_;simp[go_sem];refine ag d (aI zI F9) ?_;simp[go_sem,a,aa a,g,ai];exact cY rfl
theorem X1(a b:List Int)(H:Wn 4 a)(J:Wn 4 b):∃r:List Int,Wn 4 r∧V r=(V a+V b)%nZ∧ap Tryz.prog 86 [.agg (cI a),.agg (cI b)] (fun v=>v=.agg (cI r)):=by
 obtain⟨W,y,U,f1⟩:=ni a H;obtain⟨P,w,ac,f2⟩:=ni b J;obtain⟨s,c,z,hc,vc,f3⟩:=jE W P y w;obtain⟨v,K,vv,f4⟩:=Is;obtain⟨E,c2,n,D,Z,N⟩:=jE s v z K;obtain⟨r,o,T,X⟩:=ni s z;obtain⟨Y,F,C,R⟩:=ni E n;have i:=H.1;have j:=J.1;have I:=y.1;have L:=w.1;have e:=z.1;have g:=n.1;have x:=o.1;have m:=F.1;have t:=K.1;have q:List.drop 4 (cI zI)=[]:=aG rfl;have ls:=eC z;have Q:=eC n;obtain⟨c1,O⟩:=hc;obtain⟨c3,ab⟩:=D;refine⟨if c=0 then r else Y,by split<;>assumption,?_,?_⟩
 unfold nZ at *;split;rename_i h;subst h;rw[T];omega;rw[C];omega;refine bz Tryz.func86 Tryz.ntmps86 (rs:=[.cell 4 96]) (aI a b) ?_;simp[go_sem,i,j,aa i,aa j];refine cO [0,2] [1,3,4,8,9] [0,2,5,6,7,10] (.alt (bt 1 (.alt (bt 3 (.alt (.step 4 [5,6,7] true (bt 8 (.step 9 [10] true .done))) (bt 8 (.step 4 [5,6,7] true (.step 9 [10] true .done))))) (bt 8 (bt 3 (.step 4 [5,6,7] true (.step 9 [10] true .done)))))) (bt 8 (bt 1 (bt 3 (.step 4 [5,6,7] true (.step 9 [10] true .done)))))) ⟨[(4,.ptr 64 0 0 1),(5,.ptr 352 0 0 1),(6,.d (.int .u64 c))],[(352,⟨96,4,[cI s]⟩),(64,⟨96,4,[cI zI]⟩)],9000⟩ (k:=11) ?h3 ?hq
 case h3 =>
  intro G B;have u:∀(l:Fr)(f:Hp),(fv 4 l=.ptr 64 0 0 1∧fv 5 l=.ptr 352 0 0 1∧fv 6 l=.d (.int .u64 c)∧lk 352 f=some ⟨96,4,[cI s]⟩∧lk 64 f=some ⟨96,4,[cI zI]⟩)→G l f:=by
   rintro l f⟨S,q1,q2,M,q4⟩;refine B _ _ (aV ?_);simp only[av,ah];refine⟨fun p f=>?_,fun p f=>?_,aw⟩;simp only[d_,List.mem_nil_iff,or_false]at f;rcases f with rfl|rfl|rfl<;>exact⟨.inl (Eq.symm (by assumption)),by simp[AV.low,AV.low1]⟩
   ·simp only[d_,List.mem_nil_iff,or_false]at f;rcases f with rfl|rfl<;>exact⟨.inl (by assumption),aw,by intro r o;simp only[d_,List.mem_nil_iff,or_false]at o;subst o;first|exact aR _ _|exact aE _ _|exact eU _ _ _ _⟩
  simp[go_sem,i,j,e,aa i,aa j,aa e,q,cZ]
  repeat' first|exact u _ _ ⟨rfl,rfl,rfl,rfl,rfl⟩|(refine u _ _ ?_;simp[fv,lk];done)|refine ag f1 (aF _) ?_|refine ag f2 (aF _) ?_|refine ag f3 (aI _ _) ?_|apply And.intro|simp[go_sem,i,j,e,aa i,aa j,aa e,q,cZ]
 case hq =>
  by_cases A:c=0
  ·rw[if_pos A];simp[go_sem,A,e,aa e];refine ag X (aF _) ?_;simp[go_sem,x,aa x,q,ai];exact cY rfl
  ·rw[if_neg A];simp[go_sem,A];refine cO [0] [1,2,5,6] [0,3,4] (bt 1 (.step 2 [3,4] true (.alt (bt 5 (a_ [6])) (a_ [6,5])))) ⟨[(4,.ptr 64 0 0 1),(5,.ptr 352 0 0 1)],[(352,⟨96,4,[cI E]⟩),(64,⟨96,4,[cI zI]⟩)],9000⟩ (k:=7) ?h3 ?hq
   case h3 =>
    intro G B;have u:∀(l:Fr)(f:Hp),(fv 4 l=.ptr 64 0 0 1∧fv 5 l=.ptr 352 0 0 1∧lk 352 f=some ⟨96,4,[cI E]⟩∧lk 64 f=some ⟨96,4,[cI zI]⟩)→G l f:=by
     rintro l f⟨S,q1,q2,M⟩;refine B _ _ (aV ?_);simp only[av,ah];refine⟨fun p f=>?_,fun p f=>?_,aw⟩;simp only[d_,List.mem_nil_iff,or_false]at f;rcases f with rfl|rfl<;>exact⟨.inl (Eq.symm (by assumption)),by simp[AV.low,AV.low1]⟩
     ·simp only[d_,List.mem_nil_iff,or_false]at f;rcases f with rfl|rfl<;>exact⟨.inl (by assumption),aw,by intro r o;simp only[d_,List.mem_nil_iff,or_false]at o;subst o;first|exact aR _ _|exact aE _ _|exact eU _ _ _ _⟩
    simp[go_sem,e,g,t,aa e,aa g,q,aG e,cZ]
    repeat' first|exact u _ _ ⟨rfl,rfl,rfl,rfl⟩|(refine u _ _ ?_;simp[fv,lk];done)|refine ag f4 aw ?_|refine ag N (aI _ _) ?_|apply And.intro|simp[go_sem,e,g,t,aa e,aa g,q,aG e,cZ]
   case hq =>
    simp[go_sem,g,aa g];refine ag R (aF _) ?_;simp[go_sem,m,aa m,q,ai];exact cY rfl
def Ep(x:Int):List Int:=[x%18446744073709551616,x/18446744073709551616%18446744073709551616,x/340282366920938463463374607431768211456%18446744073709551616,x/6277101735386680763835789423207666416102355444464034512896]
theorem X2{x:Int}(h:0≤x)(a:x<115792089237316195423570985008687907853269984665640564039457584007913129639936):V (Ep x)=x:=by
 unfold Ep;rw[V4];omega
theorem X3(x:Int):Wn 4 (Ep (x%nZ)):=⟨rfl,by
 have b:=Int.emod_nonneg x (show nZ≠0 by unfold nZ;omega);have c:=Int.emod_lt_of_pos x (show(0:Int)<nZ by unfold nZ;omega);unfold nZ at *;intro y a;simp only[Ep,d_,List.mem_nil_iff,or_false]at a
 rcases a with rfl|rfl|rfl|rfl<;>exact⟨aq,aq⟩⟩
theorem X4{d hi e c su a b c2:Int}(j:0≤d∧d<115792089237316195423570985008687907853269984665640564039457584007913129639936)(g:0≤hi∧hi<115792089237316195423570985008687907853269984665640564039457584007913129639936)(h:0≤e∧e<115792089237316195423570985008687907853269984665640564039457584007913129639936)(k:0≤c∧c<115792089237316195423570985008687907853269984665640564039457584007913129639936)(i:0≤su∧su<115792089237316195423570985008687907853269984665640564039457584007913129639936)(f:0≤a∧a<115792089237316195423570985008687907853269984665640564039457584007913129639936)(o:0≤b)(q:b≤1)(h3:0≤c2)(p:c2≤1)
  (l:e+115792089237316195423570985008687907853269984665640564039457584007913129639936*c=hi*(115792089237316195423570985008687907853269984665640564039457584007913129639936-nZ)) (n:su+115792089237316195423570985008687907853269984665640564039457584007913129639936*b=d+e) (m:a+115792089237316195423570985008687907853269984665640564039457584007913129639936*c2=c+b):su+115792089237316195423570985008687907853269984665640564039457584007913129639936*a=d+115792089237316195423570985008687907853269984665640564039457584007913129639936*hi-nZ*hi:=by
 unfold nZ at *;have:hi*(115792089237316195423570985008687907853269984665640564039457584007913129639936-115792089237316195423570985008687907852837564279074904382605163141518161494337)=hi*432420386565659656852420866394968145599:=by congr 1
 rw[this]at l;have hc:c2=0:=aq;subst hc;omega
theorem X5(a b:List Int)(ha:Wn 4 a)(hb:Wn 4 b):∃r:List Int,Wn 4 r∧V r=(V a*V b)%nZ∧ap Tryz.prog 87 [.agg (cI a),.agg (cI b)] (fun v=>v=.agg (cI r)):=by
 obtain⟨l0,h0,P,O,v0,f1⟩:=AM a b ha hb;obtain⟨ov,E,Z,f2⟩:=Is;have K:Wn 4 (Ep ((V a*V b)%nZ)):=X3 _;have J:V (Ep ((V a*V b)%nZ))=(V a*V b)%nZ:=X2 (Int.emod_nonneg _ (by unfold nZ;omega)) (by have:=Int.emod_lt_of_pos (V a*V b) (show(0:Int)<nZ by unfold nZ;omega);unfold nZ at *;omega);refine⟨Ep ((V a*V b)%nZ),K,J,?_⟩;have I:=ha.1;have N:=hb.1;have w:=P.1;have x:=O.1;have j:=E.1;have z:List.drop 4 (cI zI)=[]:=aG rfl;have zl:zI.length=4:=rfl;refine bz Tryz.func87 Tryz.ntmps87 (rs:=[.cell 4 96]) (aI a b) ?_;simp[go_sem,I,N,aa I,aa N];refine ag f1 (aI _ _) ?_;simp[go_sem,w,x,aa w,aa x,z]
 refine au (fun u:List Int×List Int=>⟨[(4,.ptr 64 0 0 1),(5,.ptr 288 0 0 1),(6,.ptr 320 0 0 1)],[(288,⟨96,4,[cI u.1]⟩),(320,⟨96,4,[cI u.2]⟩),(64,⟨96,4,[cI zI]⟩)],1000⟩)
  (fun u=>Wn 4 u.1∧Wn 4 u.2∧(V u.1+115792089237316195423570985008687907853269984665640564039457584007913129639936*V u.2)%nZ=(V a*V b)%nZ) (fun u=>(V u.1+115792089237316195423570985008687907853269984665640564039457584007913129639936*V u.2).toNat) (l0,h0) ⟨P,O,by rw[v0]⟩ (by
   simp[av,ah,fv,lk,AV.low,AV.low1]
   first|exact⟨aR _ _,rfl,aR _ _⟩|exact⟨aR _ _,aR _ _,rfl,aR _ _⟩) ?_
 rintro⟨T,D⟩⟨n,l,S⟩;simp only at n l S;have f:=n.1;have c:=l.1;obtain⟨Y,W,A,B,H,f3⟩:=AM D ov l E;obtain⟨su,R,t,C,X,f4⟩:=jE T Y n A;obtain⟨hh,c2,s,Q,M,f5⟩:=jE W [R,0,0,0] B (jF (acK C));have f6:=eR R;have g:=A.1;have d:=B.1;have h:=t.1;have i:=s.1;obtain⟨r,y,vr,f7⟩:=ni T n;have U:V [R,0,0,0]=R:=by simp[V]
 rw[Z]at H;rw[U]at M;have o:=X4 (eC n) (eC l) (eC A) (eC B) (eC t) (eC s) C.1 C.2 Q.1 Q.2 H X M;simp[go_sem,c,aa c,fM];refine⟨c,rfl,fun af=>?_,fun ac=>?_⟩
 ·have aA:0<V D:=by
   have h1:=(eC l).1;have h2:V D≠0:=fun q=>af (Dv l iu (by rw[q];simp[V,zI]));omega
  refine cO [0] [1,2,6,7,8,9] [0,3,4,5] (.alt (bt 1 (.alt (.step 2 [3,4,5] true (.alt (bt 6 (bt 7 (bt 8 (a_ [9])))) (bt 7 (bt 6 (bt 8 (a_ [9])))))) (.alt (bt 6 (.alt (.step 2 [3,4,5] true (bt 7 (bt 8 (a_ [9])))) (bt 7 (.step 2 [3,4,5] true (bt 8 (a_ [9])))))) (bt 7 (.alt (.step 2 [3,4,5] true (bt 6 (bt 8 (a_ [9])))) (bt 6 (.step 2 [3,4,5] true (bt 8 (a_ [9]))))))))) (.alt (bt 6 (.alt (bt 1 (.alt (.step 2 [3,4,5] true (bt 7 (bt 8 (a_ [9])))) (bt 7 (.step 2 [3,4,5] true (bt 8 (a_ [9])))))) (bt 7 (bt 1 (.step 2 [3,4,5] true (bt 8 (a_ [9]))))))) (bt 7 (.alt (bt 1 (.alt (.step 2 [3,4,5] true (bt 6 (bt 8 (a_ [9])))) (bt 6 (.step 2 [3,4,5] true (bt 8 (a_ [9])))))) (bt 6 (bt 1 (.step 2 [3,4,5] true (bt 8 (a_ [9]))))))))) ⟨[(4,.ptr 64 0 0 1),(5,.ptr 288 0 0 1),(6,.ptr 320 0 0 1),(7,.ptr 1288 0 0 1),(8,.ptr 1320 0 0 1)],[(1288,⟨96,4,[cI Y]⟩),(1320,⟨96,4,[cI W]⟩),(288,⟨96,4,[cI T]⟩),(320,⟨96,4,[cI D]⟩),(64,⟨96,4,[cI zI]⟩)],9000⟩ (k:=10) ?h3 ?hq
  case h3 =>
   intro G hG;have L:∀(m:Fr)(e:Hp),(fv 4 m=.ptr 64 0 0 1∧fv 5 m=.ptr 288 0 0 1∧fv 6 m=.ptr 320 0 0 1∧fv 7 m=.ptr 1288 0 0 1∧fv 8 m=.ptr 1320 0 0 1∧lk 1288 e=some ⟨96,4,[cI Y]⟩∧lk 1320 e=some ⟨96,4,[cI W]⟩∧lk 288 e=some ⟨96,4,[cI T]⟩∧lk 320 e=some ⟨96,4,[cI D]⟩∧lk 64 e=some ⟨96,4,[cI zI]⟩)→G m e:=by
    rintro m e⟨q0,q1,q2,q3,q4,q5,q6,q7,q8,q9⟩;refine hG _ _ (aV ?_);simp only[av,ah];refine⟨fun p e=>?_,fun p e=>?_,aw⟩;simp only[d_,List.mem_nil_iff,or_false]at e;rcases e with rfl|rfl|rfl|rfl|rfl<;>exact⟨.inl (Eq.symm (by assumption)),by simp[AV.low,AV.low1]⟩
    ·simp only[d_,List.mem_nil_iff,or_false]at e;rcases e with rfl|rfl|rfl|rfl|rfl<;>exact⟨.inl (by assumption),aw,by intro r y;simp only[d_,List.mem_nil_iff,or_false]at y;subst y;first|exact aR _ _|exact aE _ _|exact eU _ _ _ _⟩
   simp[go_sem,c,j,g,d,aa c,aa j,aa g,aa d,z,cZ]
   repeat' first|exact L _ _ ⟨rfl,rfl,rfl,rfl,rfl,rfl,rfl,rfl,rfl,rfl⟩|(refine L _ _ ?_;simp[fv,lk];done)|refine ag f2 aw ?_|refine ag f3 (aI _ _) ?_|apply And.intro|simp[go_sem,c,j,g,d,aa c,aa j,aa g,aa d,z,cZ]
  case hq =>
   simp[go_sem,f,g,aa f,aa g];refine ag f4 (aI _ _) ?_;simp[go_sem,h,aa h,z,aG f];refine⟨aq,?_⟩;refine cO [0,1] [2,3,6,7] [0,1,4,5] (bt 2 (.step 3 [4,5] true (.alt (bt 6 (a_ [7])) (a_ [7,6])))) ⟨[(4,.ptr 64 0 0 1),(5,.ptr 288 0 0 1),(6,.ptr 320 0 0 1)],[(288,⟨96,4,[cI su]⟩),(320,⟨96,4,[cI hh]⟩),(64,⟨96,4,[cI zI]⟩)],9000⟩ (k:=8) ?h3 ?hq
   case h3 =>
    intro G hG;have L:∀(m:Fr)(e:Hp),(fv 4 m=.ptr 64 0 0 1∧fv 5 m=.ptr 288 0 0 1∧fv 6 m=.ptr 320 0 0 1∧lk 288 e=some ⟨96,4,[cI su]⟩∧lk 320 e=some ⟨96,4,[cI hh]⟩∧lk 64 e=some ⟨96,4,[cI zI]⟩)→G m e:=by
     rintro m e⟨q0,q1,q2,q3,q4,q5⟩;refine hG _ _ (aV ?_);simp only[av,ah];refine⟨fun p e=>?_,fun p e=>?_,aw⟩;simp only[d_,List.mem_nil_iff,or_false]at e;rcases e with rfl|rfl|rfl<;>exact⟨.inl (Eq.symm (by assumption)),by simp[AV.low,AV.low1]⟩
     ·simp only[d_,List.mem_nil_iff,or_false]at e;rcases e with rfl|rfl|rfl<;>exact⟨.inl (by assumption),aw,by intro r y;simp only[d_,List.mem_nil_iff,or_false]at y;subst y;first|exact aR _ _|exact aE _ _|exact eU _ _ _ _⟩
    simp[go_sem,d,i,h,aa d,aa i,aa h,z,aG c,aG f,cZ]
    repeat' first|exact L _ _ ⟨rfl,rfl,rfl,rfl,rfl,rfl⟩|(refine L _ _ ?_;simp[fv,lk];done)|omega|refine ag f6 a9 ?_|refine ag f5 (aI _ _) ?_|apply And.intro|simp[go_sem,d,i,h,aa d,aa i,aa h,z,aG c,aG f,cZ]
   case hq =>
    simp[go_sem];refine am (su,hh) ⟨t,s,?_⟩ ?_ ?_
    rw[o,Int.sub_mul_emod_self_left];exact S;have h1:=(eC n).1;have h2:=(eC t).1;have h3:=(eC s).1;simp only;rw[o];unfold nZ;omega
    ·simp[av,ah,fv,lk,AV.low,AV.low1]
     first|exact⟨aR _ _,aR _ _,aR _ _⟩|exact⟨aR _ _,aR _ _,rfl,aR _ _⟩
 ·have an:V D=0:=by rw[ac];simp[V,zI]
  rw[an,Int.mul_zero,Int.add_zero]at S;have ab:r=Ep ((V a*V b)%nZ):=Dv y K (by rw[vr,S,J]);have F:=y.1;simp[go_sem,f,aa f];refine ag f7 (aF _) ?_;simp[go_sem,F,aa F,z,ai];exact cY (by rw[ab])
theorem X6:V zI=0:=by simp[V,zI]
theorem X7(k x y:List Int)(c:Bool)(n:Wn 4 k)(m:Wn 4 x)(l:Wn 4 y)(hp:jq x y c):∃(u v:List Int)(q:Bool),Wn 4 u∧Wn 4 v∧jq u v q∧PV u v q=mp fd (V k).toNat (PV x y c)∧ap Tryz.prog 125 [.agg (cI k),.agg (cP x y c)] (fun r=>r=.agg (cP u v q)):=by
 obtain⟨u,v,q,o,p,t,z⟩:=uR k zI x y zI zI c true n iu m l iu iu;obtain⟨A,s⟩:=t hp tj;refine⟨u,v,q,o,p,A,?_,?_⟩;rw[s,X6,Ju,uM,gU fd (ki fd (lA hp) _)];refine bz Tryz.func125 Tryz.ntmps125 (rs:=[.cell 4 189]) (by intro w f;simp at f;rcases f with rfl|rfl;exact cM _;exact dL _ _ _) ?_;have a:=n.1;have b:(cP x y c).length=9:=bR m.1 l.1 c;have d:List.take 9 (cP x y c)=cP x y c:=cx (by rw[b];omega);have e:(cP u v q).length=9:=bR o.1 p.1 q;have g:List.take 9 (cP u v q)=cP u v q:=cx (by rw[e];omega);have i:(cP zI zI false).length=9:=rfl;have h:List.drop 9 (cP zI zI false)=[]:=rfl;simp[go_sem,a,aa a,b,d];refine cG [0,1,2] [(3,[]),(4,[]),(5,[])] 1 (k:=6) ?_;intro G j;simp[go_sem,a,aa a,b,d];refine ag jG aw ?_;simp[go_sem,a,aa a,b,d];refine ag z (by intro w f;simp at f;rcases f with rfl|rfl|rfl|rfl;exact cM _;exact dL _ _ _;exact cM zI;exact dL zI zI true) ?_;simp[go_sem,e,g,i,h];refine j _ _ ?_;clear j G;simp[go_sem,e,g,i,h,ai];exact ae (dL _ _ _) rfl
theorem xH(r:List Int)(k:List Nat)(e:Int):(AV.tup [.agg (cI r),.agg (cb k),.d (.int .i64 e)]).deep:=by
 intro c hc;simp at hc;rcases hc with rfl|rfl|rfl;exact .inr ⟨_,rfl,i7 _⟩;exact .inr ⟨_,rfl,aW _⟩;exact .inl trivial
def X8(r:List Int)(k:List Nat):Prop:=0<V r∧V r<nZ∧∃x y:F,mp fd (V r).toNat gP=some (x,y)∧y.val%2=0∧eo k=x.val
theorem Tm{y:F}(h:0<y.val):(-y).val=pP-y.val:=by
 have:(-y).val=(pP-y.val)%pP:=rfl;rw[this,Nat.mod_eq_of_lt aq]
theorem xI(a:List Int)(ha:Wn 4 a):∃(r:List Int)(k:List Nat)(e:Int),Wn 4 r∧k.length=32∧bytes k∧((e=1∧V a%nZ=0)∨(e=0∧X8 r k))∧ap Tryz.prog 81 [.agg (cI a)] (fun v=>v=.tup [.agg (cI r),.agg (cb k),.d (.int .i64 e)]):=by
 obtain⟨d,L,vd,f1⟩:=ni a ha;have x:=ha.1;have b:=L.1;have t:List.drop 4 (cI zI)=[]:=aG rfl;have B:List.drop 32 (cb z32)=[]:=rfl;have b1:=(eC L).1;have b2:V d<nZ:=by rw[vd];unfold nZ;omega
 by_cases s:d=zI
 ·refine⟨zI,z32,1,iu,rfl,fun y hy=>by simp[z32]at hy;omega,.inl ⟨rfl,by rw[←vd,s,X6]⟩,?_⟩;refine bz Tryz.func81 Tryz.ntmps81 (rs:=[.cell 2 96,.cell 3 29,.tmp 4]) (aF a) ?_;simp[go_sem,x,aa x];refine ag f1 (aF _) ?_;simp[go_sem,b,aa b,t,fM,B,ai];refine⟨b,rfl,fun N=>?_,fun O=>absurd s O⟩;rw[s];exact ae (xH zI z32 1) rfl
 have H:0<V d:=by
  have h2:V d≠0:=fun q=>s (Dv L iu (by rw[q,X6]));omega
 have ab:(V d).toNat<nN:=by rw[Bo];unfold nZ at b2;omega
 have M:0<(V d).toNat:=aq;obtain⟨u,v,q,F,P,K,pv,f2⟩:=X7 d gX gY false L RH RI pe;obtain⟨o,ho,f3⟩:=uO u v q F P;obtain⟨k,f,ac,kv,f4⟩:=pg u v q F P;obtain⟨m,hm,vm,f5⟩:=OM d L;have C:=ho K;have D:=kv K;have hq:q=false:=by
  cases q with
  |false=>rfl
  |true=>exact absurd (pv.symm.trans rfl) (Ta M ab)
 subst hq;have E:V u<pZ∧V v<pZ:=by
  rcases K with ⟨q,_⟩|⟨_,S,R,_⟩;cases q;exact⟨S,R⟩
 have Y:mp fd (V d).toNat gP=some (FV u,FV v):=pv.symm;have af:gz (some (FV u,FV v)):=lA K;have W:=zg F E.1;have e2:=zg P E.2;have j:=hm.1;have aA:=(eC P).1;have aD:=(eC F).1;have i:(cP u v false).length=9:=bR F.1 P.1 false;have l:List.take 9 (cP u v false)=cP u v false:=cx (by rw[i];omega);have I:(cP zI zI false).length=9:=rfl;have Q:List.drop 9 (cP zI zI false)=[]:=rfl;refine⟨if o then d else m,k,0,by split<;>assumption,f,ac,.inr ⟨rfl,?_⟩,?_⟩
 cases o with
 |true =>
  have:=(C.1 rfl).2;exact⟨H,b2,FV u,FV v,Y,aq,by rw[D,W]⟩
 | false =>
  have an:V v%2≠0:=fun h=>by
   have:=C.2 ⟨rfl,h⟩;cases this
  have U:0<(FV v).val:=aq;have h2:=OK;have hl:=(FV v).isLt;have X:V d%nZ=V d:=Int.emod_eq_of_lt b1 b2;have Z:V m=nZ-V d:=by rw[vm,X];exact Int.emod_eq_of_lt aq aq
  have T:(V m).toNat=nN-(V d).toNat:=by rw[Z,Bo];unfold nZ;omega
  refine⟨by simp only[Bool.false_eq_true,↓reduceIte];omega,by simp only[Bool.false_eq_true,↓reduceIte];omega,FV u,-FV v,?_,?_,by rw[D,W]⟩;simp only[Bool.false_eq_true,↓reduceIte];rw[T,XZ aq,Y];rfl;rw[Tm U];omega
 clear K kv D ho C Y af W e2 pv;refine bz Tryz.func81 Tryz.ntmps81 (rs:=[.cell 2 96,.cell 3 29,.tmp 4]) (aF a) ?_;simp[go_sem,x,aa x];refine ag f1 (aF _) ?_;simp[go_sem,b,aa b,t,fM,B];refine⟨b,rfl,fun N=>absurd N s,fun O=>?_⟩;refine cO [0] [1,2,3,4] [0] (.alt (bt 1 (.alt (a_ [2,3,4]) (bt 3 (a_ [2,4])))) (bt 3 (bt 1 (a_ [2,4])))) ⟨[(2,.ptr 32 0 0 1),(3,.ptr 64 0 0 1),(5,.ptr 192 0 0 1),(6,.ptr 448 0 0 1)],[(448,⟨189,9,[cP u v false]⟩),(192,⟨96,4,[cI d]⟩),(64,⟨29,32,[cb z32]⟩),(32,⟨96,4,[cI zI]⟩)],9000⟩ (k:=5) ?h3 ?hq
 case h3 =>
  intro G J;have z:∀(g:Fr)(c:Hp),(fv 2 g=.ptr 32 0 0 1∧fv 3 g=.ptr 64 0 0 1∧fv 5 g=.ptr 192 0 0 1∧fv 6 g=.ptr 448 0 0 1∧lk 448 c=some ⟨189,9,[cP u v false]⟩∧lk 192 c=some ⟨96,4,[cI d]⟩∧lk 64 c=some ⟨29,32,[cb z32]⟩∧lk 32 c=some ⟨96,4,[cI zI]⟩)→G g c:=by
   rintro g c⟨q0,S,R,q3,q4,q5,q6,q7⟩;refine J _ _ (aV ?_);simp only[av,ah];refine⟨fun p c=>?_,fun p c=>?_,aw⟩;simp only[d_,List.mem_nil_iff,or_false]at c;rcases c with rfl|rfl|rfl|rfl<;>exact⟨.inl (Eq.symm (by assumption)),by simp[AV.low,AV.low1]⟩
   ·simp only[d_,List.mem_nil_iff,or_false]at c;rcases c with rfl|rfl|rfl|rfl<;>exact⟨.inl (by assumption),aw,by intro r A;simp only[d_,List.mem_nil_iff,or_false]at A;subst A;first|exact aR _ _|exact aE _ _|exact eU _ _ _ _⟩
  simp[go_sem,b,aa b,i,l,t,B,I,Q,cZ]
  repeat' first|exact z _ _ ⟨rfl,rfl,rfl,rfl,rfl,rfl,rfl,rfl⟩|(refine z _ _ ?_;simp[fv,lk];done)|refine ag rZ aw ?_|refine ag f2 (by intro w n;simp at n;rcases n with rfl|rfl<;>first|exact cM _|exact dL _ _ _) ?_|apply And.intro|simp[go_sem,b,aa b,i,l,t,B,I,Q,cZ]
 case hq =>
  simp[go_sem,i,l];refine ag f3 (by intro w n;simp at n;subst n;exact dL _ _ _) ?_
  cases o with
  | true =>
   simp[go_sem];refine cO [0,1] [2,3,4] [0,1,5] (bt 2 (bx 3 (.step 4 [5] false .done))) ⟨[(2,.ptr 32 0 0 1),(3,.ptr 64 0 0 1),(4,.d (.int .i64 0))],[(64,⟨29,32,[cb k]⟩),(32,⟨96,4,[cI d]⟩)],9000⟩ (k:=6) ?h3 ?hq
   case h3 =>
    intro G J;have z:∀(g:Fr)(c:Hp),(fv 2 g=.ptr 32 0 0 1∧fv 3 g=.ptr 64 0 0 1∧fv 4 g=.d (.int .i64 0)∧lk 64 c=some ⟨29,32,[cb k]⟩∧lk 32 c=some ⟨96,4,[cI d]⟩)→G g c:=by
     rintro g c⟨q0,S,R,q3,q4⟩;refine J _ _ (aV ?_);simp only[av,ah];refine⟨fun p c=>?_,fun p c=>?_,aw⟩;simp only[d_,List.mem_nil_iff,or_false]at c;rcases c with rfl|rfl|rfl<;>exact⟨.inl (Eq.symm (by assumption)),by simp[AV.low,AV.low1]⟩
     ·simp only[d_,List.mem_nil_iff,or_false]at c;rcases c with rfl|rfl<;>exact⟨.inl (by assumption),aw,by intro r A;simp only[d_,List.mem_nil_iff,or_false]at A;subst A;first|exact aR _ _|exact aE _ _|exact eU _ _ _ _⟩
    simp[go_sem,b,aa b,i,l,t,B,aj,f,al f,cZ]
    repeat' first|exact z _ _ ⟨rfl,rfl,rfl,rfl,rfl⟩|(refine z _ _ ?_;simp[fv,lk];done)|refine ag f4 (by intro w n;simp at n;subst n;exact dL _ _ _) ?_|apply And.intro|simp[go_sem,b,aa b,i,l,t,B,aj,f,al f,cZ]
   case hq =>
    simp[go_sem,b,aa b,aj,f,al f,ai];exact ae (xH _ _ _) rfl
  | false =>
   simp[go_sem,b,aa b];refine ag f5 (aF _) ?_;simp[go_sem,j,aa j,t,aG b];refine⟨aq,?_⟩;refine cO [0,1] [2,3,4] [0,1,5] (bt 2 (bx 3 (.step 4 [5] false .done))) ⟨[(2,.ptr 32 0 0 1),(3,.ptr 64 0 0 1),(4,.d (.int .i64 0))],[(64,⟨29,32,[cb k]⟩),(32,⟨96,4,[cI m]⟩)],9000⟩ (k:=6) ?h3 ?hq
   case h3 =>
    intro G J;have z:∀(g:Fr)(c:Hp),(fv 2 g=.ptr 32 0 0 1∧fv 3 g=.ptr 64 0 0 1∧fv 4 g=.d (.int .i64 0)∧lk 64 c=some ⟨29,32,[cb k]⟩∧lk 32 c=some ⟨96,4,[cI m]⟩)→G g c:=by
     rintro g c⟨q0,S,R,q3,q4⟩;refine J _ _ (aV ?_);simp only[av,ah];refine⟨fun p c=>?_,fun p c=>?_,aw⟩;simp only[d_,List.mem_nil_iff,or_false]at c;rcases c with rfl|rfl|rfl<;>exact⟨.inl (Eq.symm (by assumption)),by simp[AV.low,AV.low1]⟩
     ·simp only[d_,List.mem_nil_iff,or_false]at c;rcases c with rfl|rfl<;>exact⟨.inl (by assumption),aw,by intro r A;simp only[d_,List.mem_nil_iff,or_false]at A;subst A;first|exact aR _ _|exact aE _ _|exact eU _ _ _ _⟩
    simp[go_sem,j,aa j,i,l,t,B,aj,f,al f,cZ]
    repeat' first|exact z _ _ ⟨rfl,rfl,rfl,rfl,rfl⟩|(refine z _ _ ?_;simp[fv,lk];done)|refine ag f4 (by intro w n;simp at n;subst n;exact dL _ _ _) ?_|apply And.intro|simp[go_sem,j,aa j,i,l,t,B,aj,f,al f,cZ]
   case hq =>
    simp[go_sem,j,aa j,aj,f,al f,ai];exact ae (xH _ _ _) rfl
theorem abg(a r:List Int)(k:List Nat)(e:Int)(i:Wn 4 a)(m:Wn 4 r)(h:k.length=32)(f:ap Tryz.prog 81 [.agg (cI a)] (fun v=>v=.tup [.agg (cI r),.agg (cb k),.d (.int .i64 e)])) :
  ap Tryz.prog 42 [.agg (cI a)] (fun v=>v=.tup [.agg (cb k),.d (.int .i64 e)]):=by
 have g:=i.1;have b:=m.1;have l:List.drop 4 (cI zI)=[]:=aG rfl;have j:List.drop 32 (cb z32)=[]:=rfl;refine bz Tryz.func42 Tryz.ntmps42 (rs:=[.cell 2 29,.tmp 3]) (aF a) ?_;simp[go_sem,g,aa g];refine ag f (aF _) ?_;simp[go_sem,b,aa b,l,j,aj,h,al h,ai]
 exact ae (by
  intro c hc;simp at hc;rcases hc with rfl|rfl;exact .inr ⟨_,rfl,aW _⟩
  exact .inl trivial) rfl
theorem X9(a b c:List Nat)(f:a.length=32)(g:b.length=32)(hc:c.length≤1000):∃r:List Int,Wn 4 r∧V r=(eo (eH lC (a++b++c)):Int)%nZ∧ap Tryz.prog 88 [.agg (cb a),.agg (cb b),.d (nb c)] (fun v=>v=.agg (cI r)):=by
 obtain⟨r,h,m,l⟩:=Tj (eH lC (a++b++c)) (tp _ _).1 (tp _ _).2;have e:=h.1;have o:List.drop 4 (cI zI)=[]:=aG rfl;refine⟨r,h,m,?_⟩;refine bz Tryz.func88 Tryz.ntmps88 (rs:=[.cell 6 96]) (by intro v j;simp at j;rcases j with rfl|rfl|rfl;exact dc _;exact dc _;trivial) ?_;have n:(a++b++c).length≤2000:=by simp;omega
 simp[go_sem,aj,f,g,al f,al g];refine cG [0,1,2] [(3,[]),(4,[]),(5,[]),(6,[]),(7,[])] 0 (k:=8) ?_;intro G i;simp[go_sem,aj,f,g];refine bn [0,32,192] (xm a b c _ rfl f g aq) rfl (ak (.one (ao (j5 (rows:=[[.sub 0 0 0 1 32 32 1],[.sub 32 0 0 1 32 32 1],[.d (nb c)]]) rfl aw rfl (RowsR.cons (.cons (dE rfl aw f) .nil) (RowsR.cons (.cons (dE rfl aw g) .nil) (RowsR.cons (.cons (.d _) .nil) .nil))) rfl (by intro r h;simp at h;rcases h with rfl|rfl|rfl<;>rfl)))) aC) ?_;generalize a++b++c=d at *;simp[go_sem,aN];refine ag (gk lC (.str [66,73,80,48,51,52,48,47,99,104,97,108,108,101,110,103,101]) rfl d (by simp[lC]) aq) a9 ?_;simp[go_sem];refine ag l (cv _) ?_;simp[go_sem,e];refine i _ _ ?_;clear i G;simp[go_sem,e,aa e,ai];exact cY rfl
theorem ON(a b:List Int)(m:List Nat):∀v,v∈[AV.agg (cI a),.agg (cI b),.d (nb m)]→v.deep:=by
 intro v c;simp at c;rcases c with rfl|rfl|rfl;exact cM _;exact cM _;trivial
theorem Es(a b c:List Nat):∀v,v∈[AV.agg (cb a),.agg (cb b),.d (nb c)]→v.deep:=by
 intro v e;simp at e;rcases e with rfl|rfl|rfl;exact dc _;exact dc _;trivial
theorem Ya(a n r q:List Int)(k R g:List Nat)(L:Wn 4 a)(P:Wn 4 n)(m:Wn 4 r)(hq:Wn 4 q)(o:k.length=32)(h:R.length=32)(I:g.length≤1000)(U:ap Tryz.prog 81 [.agg (cI a)] (fun v=>v=.tup [.agg (cI r),.agg (cb k),.d (.int .i64 0)]))(T:ap Tryz.prog 81 [.agg (cI n)] (fun v=>v=.tup [.agg (cI q),.agg (cb R),.d (.int .i64 0)])) :
  ∃(S:List Nat)(ch:List Int),S.length=32∧bytes S∧Wn 4 ch∧V ch=(eo (eH lC (R++k++g)):Int)%nZ∧(eo S:Int)=(V q+V ch*V r)%nZ∧ap Tryz.prog 88 [.agg (cb R),.agg (cb k),.d (nb g)] (fun v=>v=.agg (cI ch)) ∧
   ap Tryz.prog 44 [.agg (cI a),.agg (cI n),.d (nb g)] (fun v=>v=.tup [.d (nb (R++S)),.d (.int .i64 0)]):=by
 obtain⟨ch,t,B,H⟩:=X9 R k g h o I;obtain⟨p,f,M,Q⟩:=X5 ch r t m;obtain⟨s,z,J,K⟩:=X1 q p hq f;obtain⟨S,u,D,N,O⟩:=y7 s z;have C:=(eC z).1;refine⟨S,ch,u,D,t,B,?_,H,?_⟩;rw[N,Int.toNat_of_nonneg C,J,M,Int.add_emod,Int.emod_emod_of_dvd _ (Int.dvd_refl _),←Int.add_emod];have w:=L.1;have l:=P.1;have c:=m.1;have e:=hq.1;have b:=t.1;have i:=f.1;have j:=z.1;have E:List.drop 4 (cI zI)=[]:=aG rfl;have y:List.drop 32 (cb z32)=[]:=rfl;refine bz Tryz.func44 Tryz.ntmps44 (rs:=[.tmp 6,.tmp 7]) (ON _ _ _) ?_;simp[go_sem,w,l,aa w,aa l];refine ag U (aF _) ?_;simp[go_sem,c,aa c,E,y,aj,o,al o,l,aa l];refine ag T (aF _) ?_;simp[go_sem,e,aa e,E,y,aj,h,al h];refine cO [0,1,2,3,5] [4,6,7,8,9,10] [0,1,2,3,5] (.alt (bt 4 (.alt (bt 6 (.alt (bx 7 (.alt (a_ [8,9,10]) (a_ [9,8,10]))) (bt 9 (a_ [7,8,10])))) (bt 9 (bt 6 (a_ [7,8,10]))))) (bt 9 (bt 4 (bt 6 (a_ [7,8,10]))))) ⟨[(12,.ptr 768 0 0 1),(13,.ptr 1248 0 0 1)],[(1248,⟨29,32,[cb S]⟩),(768,⟨29,32,[cb R]⟩)],9000⟩ (k:=11) ?h3 ?hq
 case h3 =>
  intro G A;have F:∀(x:Fr)(f:Hp),(fv 12 x=.ptr 768 0 0 1∧fv 13 x=.ptr 1248 0 0 1∧lk 1248 f=some ⟨29,32,[cb S]⟩∧lk 768 f=some ⟨29,32,[cb R]⟩)→G x f:=by
   rintro x f⟨W,Y,Z,X⟩;refine A _ _ (aV ?_);simp only[av,ah];refine⟨fun p f=>?_,fun p f=>?_,aw⟩;simp only[d_,List.mem_nil_iff,or_false]at f;rcases f with rfl|rfl<;>exact⟨.inl (Eq.symm (by assumption)),by simp[AV.low,AV.low1]⟩
   ·simp only[d_,List.mem_nil_iff,or_false]at f;rcases f with rfl|rfl<;>exact⟨.inl (by assumption),aw,by intro r m;simp only[d_,List.mem_nil_iff,or_false]at m;subst m;first|exact aR _ _|exact aE _ _|exact eU _ _ _ _⟩
  simp[go_sem,c,e,b,i,j,aa c,aa e,aa b,aa i,aa j,aj,h,o,u,al h,al o,al u,y,cZ]
  repeat' first|exact F _ _ ⟨rfl,rfl,rfl,rfl⟩|(refine F _ _ ?_;simp[fv,lk];done)|refine ag H (Es _ _ _) ?_|refine ag Q (aI _ _) ?_|refine ag K (aI _ _) ?_|refine ag O (aF _) ?_|apply And.intro|simp[go_sem,c,e,b,i,j,aa c,aa e,aa b,aa i,aa j,aj,h,o,u,al h,al o,al u,y,cZ]
 case hq =>
  refine cO [0,1] [2,3] [0,1,4,5] (bx 2 (.step 3 [4,5] false .done)) ⟨[(6,.d (nb (R++S))),(7,.d (.int .i64 0))],[],20000⟩ (k:=6) ?h3 ?hq
  case h3 =>
   intro G A;simp[go_sem,aj,h,u];refine bn [768,1248,9064] (y9 R S h aq) rfl (ak (.one (ao (j5 (rows:=[[.sub 768 0 0 1 32 32 1],[.sub 1248 0 0 1 32 32 1]]) rfl aw rfl (RowsR.cons (.cons (dE rfl aw h) .nil) (RowsR.cons (.cons (dE rfl aw u) .nil) .nil)) rfl (by intro r m;simp at m;rcases m with rfl|rfl<;>rfl)))) aC) ?_;simp[go_sem,aN];refine A _ _ (aV ⟨by simp[ah,fv,lk,AV.low,AV.low1,nb],aw,aw⟩)
  case hq =>
   simp only[fN];simp[go_sem,ai];exact ae a9 rfl
theorem OO(key z R S:List Nat)(E:key.length=32)(aJ:bytes key)(j:R.length=32)(a5:bytes R)(L:S.length=32)(a4:bytes S)(hm:z.length≤1000)(hl:lR (eo key))(hs:eo S<115792089237316195423570985008687907852837564279074904382605163141518161494337)(ch:List Int)(ac:Wn 4 ch)
  (f3:ap Tryz.prog 88 [.agg (cb R),.agg (cb key),.d (nb z)] (fun v=>v=.agg (cI ch))) (x y:F)
  (hQ:sum fd (mp fd (eo S) gP) (mp fd ((nZ-V ch%nZ)%nZ).toNat (liftPt (eo key)))=some (x,y)) (bb:y.val%2=0) (M:eo R=x.val) :
  ap Tryz.prog 156 [.agg (cb key),.d (nb z),.d (nb (R++S))] (fun v=>v=.d (.bool true)):=by
 obtain⟨x1,Y,c,ok,hx,hy,C,f1⟩:=xe key E aJ;cases ok with
 |false=>exact absurd hl (H2 C)
 |true =>
 obtain⟨_,_,t,H⟩:=HZ C;obtain⟨s,bh,O,P,f2⟩:=xc S L a4;obtain⟨N,vs⟩:=P.1 hs;subst N;obtain⟨ng,Q,a3,f4⟩:=OM ch ac;obtain⟨u,v,q,X,f,J,f5⟩:=uR s ng gX gY x1 Y false c O Q RH RI hx hy;obtain⟨n,T⟩:=J pe t;obtain⟨o,ho,f6⟩:=uO u v q X f;obtain⟨B,hB,aA,vB,f7⟩:=pg u v q X f;have D:PV u v q=some (x,y):=by
  rw[T,vs,a3,H];exact hQ
 have hq:q=false:=by
  cases q with
  |false=>rfl
  |true=>cases D
 subst hq;have A:FV u=x∧FV v=y:=by
  have h:some (FV u,FV v)=some (x,y):=D;simpa using h
 have K:V u<pZ∧V v<pZ:=by
  rcases n with ⟨q,_⟩|⟨_,q1,q2,_⟩;cases q;exact⟨q1,q2⟩
 have W:=zg X K.1;have e2:=zg f K.2;have ba:=(eC f).1;have an:o=true:=(ho n).2 ⟨rfl,by rw[A.2]at e2;omega⟩;have af:B=R:=Be aq aA a5 (by rw[vB n,W,A.1,M]);subst an af;clear D T J t H C vB ho P hQ n A W e2 M;have zd:List.drop 32 (cb key)=[]:=fg E;have I:z32.length=32:=rfl;have a7:List.drop 32 (cb z32)=[]:=rfl;have hz:List.drop 4 (cI zI)=[]:=aG rfl;have aD:=hx.1;have a6:=hy.1;have m:(cP x1 Y c).length=9:=bR aD a6 c;have w:List.take 9 (cP x1 Y c)=cP x1 Y c:=cx (by rw[m];omega);have a:=O.1;have e:=Q.1;have g:(cP u v false).length=9:=bR X.1 f.1 false;have l:List.take 9 (cP u v false)=cP u v false:=cx (by rw[g];omega);have ab:(B++S).length=64:=by simp[j,L]
 have U:((B++S).length:Int)=64:=aq;have W:List.take 32 ((B++S).map fun(b:Nat)=>[DV.int .u8 (b:Int)])=B.map fun(b:Nat)=>[DV.int .u8 (b:Int)]:=by rw[←List.map_take,List.take_append_of_le_length aq,cx aq]
 have e2:List.drop 32 ((B++S).map fun(b:Nat)=>[DV.int .u8 (b:Int)])=S.map fun(b:Nat)=>[DV.int .u8 (b:Int)]:=by rw[←List.map_drop,List.drop_append_of_le_length aq,c_ aq,List.nil_append]
 have e3:List.take 64 ((B++S).map fun(b:Nat)=>[DV.int .u8 (b:Int)])=(B++S).map fun(b:Nat)=>[DV.int .u8 (b:Int)]:=cx (by simp[j,L]);generalize B++S=sig at *;refine bz Tryz.func156 Tryz.ntmps156 (rs:=[.tmp 6]) (ou _ _ _) ?_;simp[go_sem,aj,E,al E,zd];refine ag f1 (cv _) ?_;simp[go_sem,m,w,nb,ab,U,W,e2,e3,xn,cQ,al j,al L,aj,j,L,I,a7];refine ag f2 (cv _) ?_;simp[go_sem,a,aa a,hz,aj,E,j,al E,al j];refine ag f3 (Es _ _ _) ?_;simp[go_sem];refine ag f4 (aF _) ?_;simp[go_sem,e,aa e,hz];refine cO [0,2,3] [1,4,5,6] [0,2,3] (.alt (bt 1 (.alt (a_ [4,5,6]) (bt 5 (a_ [4,6])))) (bt 5 (bt 1 (a_ [4,6])))) ⟨[(9,.ptr 672 0 0 1),(12,.ptr 1536 0 0 1)],[(1536,⟨189,9,[cP u v false]⟩),(672,⟨29,32,[cb B]⟩)],9000⟩ (k:=7) ?h3 ?hq
 case h3 =>
  intro G Z;have hW:∀(fr:Fr)(i:Hp),(fv 9 fr=.ptr 672 0 0 1∧fv 12 fr=.ptr 1536 0 0 1∧lk 1536 i=some ⟨189,9,[cP u v false]⟩∧lk 672 i=some ⟨29,32,[cb B]⟩)→G fr i:=by
   rintro fr i⟨q0,q1,q2,q3⟩;refine Z _ _ (aV ?_);simp only[av,ah];refine⟨fun p i=>?_,fun p i=>?_,aw⟩;simp only[d_,List.mem_nil_iff,or_false]at i;rcases i with rfl|rfl<;>exact⟨.inl (Eq.symm (by assumption)),by simp[AV.low,AV.low1]⟩
   ·simp only[d_,List.mem_nil_iff,or_false]at i;rcases i with rfl|rfl<;>exact⟨.inl (by assumption),aw,by intro r hr;simp only[d_,List.mem_nil_iff,or_false]at hr;subst hr;first|exact aR _ _|exact aE _ _|exact eU _ _ _ _⟩
  simp[go_sem,a,e,aa a,aa e,m,w,g,l,cZ]
  repeat' first|exact hW _ _ ⟨rfl,rfl,rfl,rfl⟩|(refine hW _ _ ?_;simp[fv,lk];done)|refine ag rZ aw ?_|refine ag f5 (by intro v f;simp at f;rcases f with rfl|rfl|rfl|rfl<;>first|exact cM _|exact dL _ _ _) ?_|apply And.intro|simp[go_sem,a,e,aa a,aa e,m,w,g,l,cZ]
 case hq =>
  simp[go_sem];refine cG [0] [(1,[2,3,5]),(4,[6,7,8])] 2 (k:=9) ?_;intro G Z;simp[go_sem,g,l];refine ag f6 (by intro v f;simp at f;subst f;exact dL _ _ _) ?_;simp[go_sem,g,l,aj,j,al j];refine ag f7 (by intro v f;simp at f;subst f;exact dL _ _ _) ?_;simp[go_sem,aj,j,al j,hB,xo];refine Z _ _ ?_;clear Z G;simp[go_sem,ai];exact ae trivial rfl
theorem Yb{r q ch:List Int}{k R S:List Nat}(l:X8 r k)(n:X8 q R)(a:0≤V ch∧V ch<nZ)(d:(eo S:Int)=(V q+V ch*V r)%nZ) :
  lR (eo k)∧eo S<115792089237316195423570985008687907852837564279074904382605163141518161494337∧∃x y:F,sum fd (mp fd (eo S) gP) (mp fd ((nZ-V ch%nZ)%nZ).toNat (liftPt (eo k)))=some (x,y)∧y.val%2=0∧eo R=x.val:=by
 obtain⟨s,t,x,y,e,i,f⟩:=l;obtain⟨p,b2,u,v,b3,b4,b5⟩:=n;have c:gz (some (x,y)):=by rw[←e];exact ki fd kj _
 obtain⟨h,j⟩:=GB c i;have b:(nN:Int)=nZ:=by rw[Bo];rfl
 refine⟨by rw[f];exact h,?_,u,v,?_,b4,b5⟩;have:=Int.emod_lt_of_pos (V q+V ch*V r) (show(0:Int)<nZ by unfold nZ;omega);rw[←d]at this;unfold nZ at this;omega;have m:V ch%nZ=V ch:=Int.emod_eq_of_lt a.1 a.2;have o:eo S=((V q).toNat+(V ch).toNat*(V r).toNat)%nN:=by
  apply Int.ofNat_inj.1;rw[d,Int.natCast_emod,Int.natCast_add,Int.natCast_mul,b,Int.toNat_of_nonneg aq,Int.toNat_of_nonneg a.1,Int.toNat_of_nonneg aq]
 have g:((nZ-V ch%nZ)%nZ).toNat=(nN-(V ch).toNat)%nN:=by
  apply Int.ofNat_inj.1;rw[m,Int.toNat_of_nonneg (Int.emod_nonneg _ (by unfold nZ;omega)),Int.natCast_emod,Int.ofNat_sub (by have:=a.2;rw[←b]at this;omega),b,Int.toNat_of_nonneg a.1]
 rw[o,g,f,j,←e,Td _ _ _ (by have:=a.2;rw[←b]at this;omega),b3]
open Go.Am Go.Sha
theorem To(inner b:List Nat)(d:Int)(trig:List Nat)(t:Tn)(n:Int)(coins:List (Nat×List Nat))(a:List Int):∀v,v∈[AV.agg (bB inner b d trig),.agg (eS t n coins),.agg (cI a)]→v.deep:=by
 intro v c;simp only[d_,List.mem_nil_iff,or_false]at c;rcases c with rfl|rfl|rfl;exact kS _ _ _ _;exact ow t n coins _ aw;exact cM _
theorem uT(t:Tn)(n:Int)(coins:List (Nat×List Nat)):∀N,∀v,v∈eS t n coins→v.low1 N:=by
 intro N v a;simp[eS]at a;rcases a with rfl|rfl|rfl|rfl|rfl|rfl<;>trivial
theorem abh(z:Int)(a:0≤z)(b:z<18446744073709551616):Go.bits .and .u64 z 63=z%64:=by
 obtain⟨n,rfl⟩:=Int.eq_ofNat_of_zero_le a;have h:=bits_and_u64_nat n 63 aq aq;rw[show(63:Nat)=2 ^ 6-1 from rfl,Nat.and_two_pow_sub_one_eq_mod]at h;rw[show(63:Int)=((2 ^ 6-1:Nat):Int)from rfl,h];omega
theorem OP:Wn 4 [5,0,0,0]:=⟨rfl,by intro y a;simp at a;rcases a with rfl|rfl<;>exact⟨aq,aq⟩⟩
theorem OQ{inner trig key:List Nat}(hi:inner.length=32)(c:trig.length=32)(a:List Nat)(d:Int):List.take 34 (bB inner a d trig)++(cb key++List.drop 66 (bB inner a d trig))=bB inner a d key:=by
 have e:(cb inner).length=32:=by rw[aj,hi]
 have b:List.drop 66 (bB inner a d trig)=[]:=c_ (by rw[dK hi c];omega);rw[b,List.append_nil];unfold bB;rw[List.take_append,e,cx aq,cA];rfl
theorem Br (inner rec trig:List Nat) (d:Int) (t:Tn) (n:Int) (coins:List (Nat × List Nat)) (sec:List Int) (hi:inner.length=32) (hib:bytes inner) (ht:trig.length=32) (h1:-9223372036854775808≤d) (h2:d<9223372036854775808) (hok:t.ok) (hob:∀ o,o ∈ t.outs→bytes o.2) (hcb:∀ o,o ∈ coins→o.1<18446744073709551616∧bytes o.2) (hsec:Wn 4 sec) :
    ap Tryz.prog 12 [.agg (bB inner rec d trig),.agg (eS t n coins),.agg (cI sec)] (fun r=>r=.d (.bool true)):=by
  refine mh Tryz.func12 (by kernel_rfl) rfl Tryz.ntmps12 (rs:=[.tmp 6]) rfl (fD rfl) (To inner rec d trig t n coins sec) ?_;obtain⟨r,key,e,hr,hkl,hkb,hcase,fst⟩:=xI sec hsec;have fkey:=abg sec r key e hsec hr hkl fst;have hl0:=dK hi ht rec d;have hl:=dK hi hkl rec d;have hpt:=bq hi hkl rec d;have h32:=rN hi rec d key;have h32g:=sX hi rec d key;have hpd:=de inner rec d key;have hplow:=fun N=>tG inner rec d key N;have hsl:(eS t n coins).length=6:=rfl;have htk:List.take 6 (eS t n coins)=eS t n coins:=rfl;have hcl:=hsec.1;have hct:=aa hcl;have hkt:=al hkl;have hSm:=Jf t n coins hok;have hSd:=ow t n coins;refine bQ (aD ?_);simp[go_sem,hl0,hsl,hcl];simp only[fN];refine bQ (aD ?_);simp[go_sem,hcl,hct];refine ag fkey (aF _) ?_;simp[go_sem,aj,hkl,hkt,bK];simp only[fN];refine bQ (aD ?_);simp[go_sem,aj,hkl,hkt,hl0];simp only[fN];rw[OQ hi ht];refine nS (st':=⟨[(3,.ptr 0 0 0 1),(4,.ptr 32 0 0 1),(5,.ptr 64 0 0 1),(8,.d (.int .i64 e))],[(0,⟨76,66,[bB inner rec d key]⟩),(32,⟨28,6,[eS t n coins]⟩),(64,⟨96,4,[cI sec]⟩)],1000⟩) (aV ?_) ?_
  · simp [av,ah,fv,lk,AV.low,AV.low1]
    exact⟨hplow _,uT _ _ _ _,aR _ _⟩
  by_cases hrl:rec.length≤600
  case neg =>
    have i1:(600:Int)<(rec.length:Int):=aq;generalize bB inner rec d key=PC at *;generalize eS t n coins=S at *;refine aD ?_;simp[go_sem,hl,hpt,h32,h32g,hsl,htk,nb,i1];refine ag fw aw ?_;simp[go_sem,ai];exact ae (v:=.d (.bool true)) trivial rfl
  have i1:¬(600:Int)<(rec.length:Int):=aq;cases hs:wO t coins with
  | false =>
    rw[hs]at hSm;generalize bB inner rec d key=PC at *;generalize eS t n coins=S at *;refine aD ?_;simp[go_sem,hl,hpt,h32,h32g,hsl,htk,nb,i1];refine ag hSm hSd ?_;simp[go_sem];refine ag fw aw ?_;simp[go_sem,ai];exact ae (v:=.d (.bool true)) trivial rfl
  |true =>
  rw[hs]at hSm;have hS:Sm t∧Ul coins:=by
    simp only[wO,Bool.and_eq_true,decide_eq_true_eq,cX,d7]at hs;exact⟨ZI hok hs.1,⟨hs.2.1,fun o ho=>⟨(hcb o ho).1,hs.2.2 o ho⟩⟩⟩
  obtain⟨hk,hcc⟩:=hS;have hCk:=FH t n coins hk (by have:=hcc.1;omega);by_cases c0:cp t n coins=0
  case neg =>
    generalize cp t n coins=ck at *;generalize bB inner rec d key=PC at *;generalize eS t n coins=S at *;refine aD ?_;simp[go_sem,hl,hpt,h32,h32g,hsl,htk,nb,i1];refine ag hSm hSd ?_;simp[go_sem,hsl,htk];refine ag hCk hSd ?_;simp[go_sem,c0];refine ag fw aw ?_;simp[go_sem,ai];exact ae (v:=.d (.bool true)) trivial rfl
  rw[c0]at hCk;rcases hcase with ⟨rfl,_⟩|⟨rfl,hst⟩
  · generalize bB inner rec d key=PC at *
    generalize eS t n coins=S at *;refine aD ?_;simp[go_sem,hl,hpt,h32,h32g,hsl,htk,nb,i1];refine ag hSm hSd ?_;simp[go_sem,hsl,htk];refine ag hCk hSd ?_;simp[go_sem];refine ag fw aw ?_;simp[go_sem,ai];exact ae (v:=.d (.bool true)) trivial rfl
  have s2:(eS t n coins)[2]?=some (.d (.ro 2 (t.outs.map eO))):=rfl;have s2g:∀h:2<(eS t n coins).length,(eS t n coins)[2]'h=_:=fun h=>(List.getElem_of_getElem? s2).2;by_cases ho4:t.outs.length≤4
  case neg =>
    have i4:(4:Int)<(t.outs.length:Int):=aq;generalize bB inner rec d key=PC at *;generalize eS t n coins=S at *;refine aD ?_;simp[go_sem,hl,hpt,h32,h32g,hsl,htk,nb,i1];refine ag hSm hSd ?_;simp[go_sem,hsl,htk];refine ag hCk hSd ?_;simp[go_sem,hsl,s2,s2g,i4];refine ag fw aw ?_;simp[go_sem,ai];exact ae (v:=.d (.bool true)) trivial rfl
  have i4:¬(4:Int)<(t.outs.length:Int):=aq;obtain⟨s0,s1,g0,g1,r0,r1⟩:∃a b:Int,(cI sec)[0]?=some (.d (.int .u64 a))∧(cI sec)[1]?=some (.d (.int .u64 b))∧dQ a∧dQ b:=by
    match sec,hcl with
    |[a,b,c,d'],_=>exact⟨a,b,rfl,rfl,hsec.2 a aw,hsec.2 b aw⟩
  have g0g:∀h:0<(cI sec).length,(cI sec)[0]'h=_:=fun h=>(List.getElem_of_getElem? g0).2;have g0h:(cI sec).head?=some (.d (.int .u64 s0)):=by rw[List.head?_eq_getElem?];exact g0
  have g1g:∀h:1<(cI sec).length,(cI sec)[1]'h=_:=fun h=>(List.getElem_of_getElem? g1).2;have hcI:(cI sec).length=4:=by simp[cI,hcl]
  have w8:IntKind.u8.wrap s0=((s0%256).toNat:Int):=by simp[IntKind.wrap,IntKind.bits,IntKind.signed];omega
  have b8:(s0%256).toNat<256:=aq;generalize(s0%256).toNat=b at *;obtain⟨V,hV,fV⟩:=Gx inner rec d key hi hib hkl hkb h1 h2;have hT1:(1::b::List.replicate 30 0).length=32:=by simp
  have hT1b:bytes (1::b::List.replicate 30 0):=by
    intro y hy;simp at hy;rcases hy with rfl|rfl|rfl<;>omega
  obtain⟨W,hW,fW⟩:=Ef inner rec d key (1::b::List.replicate 30 0) hi hib hkl hT1 hT1b h1 h2 V hV fV;have htwo:=sy inner rec d key (1::b::List.replicate 30 0);have hSg:True:=trivial;generalize hPC:bB inner rec d key=PC at *;refine bQ (aD ?_);simp[go_sem,hl,hpt,h32,h32g,hsl,htk,nb,i1];refine ag hSm hSd ?_;simp[go_sem,hsl,htk];refine ag hCk hSd ?_;simp[go_sem,hsl,s2,s2g,i4];simp only[fN];have hT1e:AV.d (.int .u8 1)::AV.d (.int .u8 (b:Int))::(List.drop 2 (cb z32)++List.drop 32 (cb z32))=cb (1::b::List.replicate 30 0):=rfl;generalize hT1g:(1::b::List.replicate 30 0:List Nat)=T1 at *
  -- the leaves
  refine bQ (aD ?_);simp[go_sem,hl,hpt];refine ag fV hpd ?_;rcases hV with rfl|⟨hd,a0,a1,ka,oa,oa1,rfl,hA,hA1,hAp⟩
  · simp [go_sem,zA]
    simp only[fN];refine bQ (aD ?_);simp[go_sem,hcI,g0h,w8];simp only[fN];rw[hT1e];refine bQ (aD ?_);simp[go_sem,hl,hpt,aj,hT1,al hT1];refine ag fW htwo ?_;rcases hW with rfl|⟨b0,b1,kb,ob,ob1,rfl,hB,hB1,hBp⟩
    all_goals
      simp[go_sem,zA,xB];simp only[fN];refine bQ (aD ?_);simp[go_sem];refine ag fw aw ?_;simp[go_sem,ai];exact ae (v:=.d (.bool true)) trivial rfl
  simp[go_sem,xB];simp only[fN];refine bQ (aD ?_);simp[go_sem,hcI,g0h,w8];simp only[fN];rw[hT1e];refine bQ (aD ?_);simp[go_sem,hl,hpt,aj,hT1,al hT1];refine ag fW htwo ?_;rcases hW with rfl|⟨b0,b1,kb,ob,ob1,rfl,hB,hB1,hBp⟩
  · simp [go_sem,zA]
    simp only[fN];refine bQ (aD ?_);simp[go_sem];refine ag fw aw ?_;simp[go_sem,ai];exact ae (v:=.d (.bool true)) trivial rfl
  simp[go_sem,xB];simp only[fN];refine bQ (aD ?_);simp[go_sem];simp only[fN];refine bQ (aD ?_);simp[go_sem];simp only[fN];refine bQ (aD ?_);simp[go_sem,hcI,g1,g1g];simp only[fN];obtain⟨bk,hbk,hbk64⟩:∃bk:Nat,Go.bits .and .u64 s1 63=(bk:Int)∧bk<64:=⟨(s1%64).toNat,by rw[abh s1 r1.1 r1.2];omega,aq⟩;rw[hbk];have hlI:=hplow;refine nS (st':=⟨[(3,.ptr 0 0 0 1),(4,.ptr 32 0 0 1),(5,.ptr 64 0 0 1),(9,.d (.ro 34 [dY inner a0,dY inner a1])),(11,.ptr 2152 0 0 1),(12,.d (.ro 34 [dY inner b0,dY inner b1])),(14,.d (.int .u64 (bk:Int)))],[(0,⟨76,66,[PC]⟩),(32,⟨28,6,[eS t n coins]⟩),(64,⟨96,4,[cI sec]⟩),(2152,⟨29,32,[cb T1]⟩)],4000⟩) (aV ?_) ?_
  · simp [av,ah,fv,lk,AV.low,AV.low1]
    exact⟨hplow _,uT _ _ _ _,aR _ _,aE _ _⟩
  obtain⟨m,rfl⟩:∃m:Nat,n=(m:Int):=⟨n.toNat,by
    unfold cp at c0;split at c0
    · cases c0
    · rename_i hq
      simp only[not_or,Int.not_lt,Int.not_le,ne_eq,Classical.not_not]at hq
      omega⟩
  have hml:m<coins.length:=by
    unfold cp at c0;split at c0
    · cases c0
    · rename_i hq
      simp only[not_or,Int.not_lt,Int.not_le,ne_eq,Classical.not_not]at hq;omega
  have oA:=jr hi hA.kl hA.t;have oB:=jr hi hB.kl hB.t;have sfA:=JK t m coins inner a0 a1 _ 0 64 hi hml (by have:=hcc.1;omega) oA;have sdA:=uf t m coins inner a0 a1 64;have mB:=oV inner b0;have eB:=ku hi b0;have llB:(ar inner (.d (bS b0.1)) (.d (nb b0.2))).length=34:=jk hi _ _;have ltB:=jl hi (.d (bS b0.1)) (.d (nb b0.2));have dB:=mP inner (bS b0.1) (nb b0.2);unfold cF at oB;obtain⟨C,hC⟩:∃C,C=coins.set m (64,81::32::ka):=⟨_,rfl⟩;rw[←hC]at sfA;have x6:(eS t (m:Int) C).length=6:=rfl;have xt6:List.take 6 (eS t (m:Int) C)=eS t (m:Int) C:=rfl;refine bQ (aD ?_);simp[go_sem,hsl,htk];refine ag sfA sdA ?_;simp[go_sem,x6,xt6];simp only[fN];refine bQ (aD ?_);simp[go_sem,mB,eB,llB,ltB];refine ag oB dB ?_;simp[go_sem];simp only[fN];refine bQ (aD ?_);simp[go_sem,eS];simp only[fN];refine⟨aq,?_⟩;refine bQ (aD ?_);simp[go_sem];simp only[fN];have hCm:C[m]?=some (64,81::32::ka):=by rw[hC,List.getElem?_set_self hml]
  have hCl:m<C.length:=by rw[hC,List.length_set];exact hml
  have hCg:∀h:m<C.length,C[m]'h=(64,81::32::ka):=fun h=>(List.getElem_of_getElem? hCm).2;have w64:IntKind.u64.wrap (64-(bk:Int))=64-(bk:Int):=by simp[IntKind.wrap,IntKind.bits,IntKind.signed];omega
  refine bQ (aD ?_);have hkO:eO (64,81::32::ka)=[.int .u64 64,nb (81::32::ka)]:=rfl;simp[go_sem,w64,hCm,hCg,hkO];refine⟨aq,?_⟩;simp only[fN];refine bQ (aD ?_);simp[go_sem];simp only[fN]
  -- the outputs,two more
  obtain⟨v0,hv0,hv64⟩:∃v0:Nat,64-(bk:Int)=(v0:Int)∧v0≤64:=⟨64-bk,aq,aq⟩;obtain⟨T2,hT2⟩:∃T2:Tn,T2=⟨t.ver,t.ins,t.outs++[(v0,81::32::kb),(bk,81::32::ka)],t.lock⟩:=⟨_,rfl⟩;have hrows:List.map ((fun r=>List.map AV.d r)∘eO) t.outs++[[AV.d (.int .u64 (v0:Int)),AV.d (nb (81::32::kb))],[AV.d (.int .u64 (bk:Int)),AV.d (nb (81::32::ka))]]=T2.outs.map coR:=by
    rw[hT2,List.map_append,Io];simp only[List.map_map];rfl
  have hT2l:T2.outs.length=t.outs.length+2:=by rw[hT2];simp
  have hKa:(81::32::ka).length≤600:=by simp[hA.kl]
  have hKb:(81::32::kb).length≤600:=by simp[hB.kl]
  have hT2s:Sm T2:=by
    subst hT2;obtain⟨⟨a1',a2',a3',a4'⟩,q1,q2,q3,q4⟩:=hk;refine⟨⟨a1',a2',a3',fun o ho=>?_⟩,q1,by rw[hT2l];omega,fun o ho=>?_,q4⟩
    · rcases cD.1 ho with h | h
      · exact a4' o h
      · simp only [d_,List.mem_nil_iff,or_false] at h
        rcases h with rfl|rfl
        · show v0<_;omega
        · show bk<_;omega
    · rcases cD.1 ho with h | h
      · exact q3 o h
      · simp only [d_,List.mem_nil_iff,or_false] at h
        rcases h with rfl|rfl
        · exact hKb
        · exact hKa
  have hT2b:∀o,o∈T2.outs→bytes o.2:=by
    subst hT2;intro o ho;rcases cD.1 ho with h|h
    · exact hob o h
    · simp only [d_,List.mem_nil_iff,or_false] at h
      rcases h with rfl|rfl
      · exact pA hB.kb
      · exact pA hA.kb
  have hCo:Ul C:=by rw[hC];exact S3 hcc aq aq
  have hCb:∀o,o∈C→bytes o.2:=by rw[hC];exact JO (fun o ho=>(hcb o ho).2) (pA hA.kb)
  have hv:T2.ver=t.ver∧T2.ins=t.ins∧T2.lock=t.lock:=by rw[hT2];exact⟨rfl,rfl,rfl⟩
  have hcell:∀(hp:Hp),lk 4576 hp=some ⟨57,2,T2.outs.map coR⟩ →
      ∀(a:Nat)(x x':List AV),[[AV.d (.int .u32 (t.ver:Int)),.d (.ro 35 (t.ins.map eI)),AV.own 4576 0 (t.outs.length+2) (t.outs.length+2),.d (.int .u32 (t.lock:Int)),.d (.int .i64 (m:Int)),.d (.ro 2 (C.map eO))]][a]?=some x→[eS T2 (m:Int) C][a]?=some x'→x'.length=x.length∧∀(j:Nat)(v v':AV),x[j]?=some v→x'[j]?=some v'→Me hp [4576] v v':=by
    intro hp hb a x x' hx hx';cases a with
    |succ a=>simp at hx
    | zero =>
      simp at hx hx';subst hx hx';refine⟨rfl,fun j v v' h1 h2=>?_⟩
      match j,h1,h2 with
      |0,h1,h2=>simp[eS,hv.1]at h1 h2;subst h1 h2;exact .inl rfl
      |1,h1,h2=>simp[eS,hv.2.1]at h1 h2;subst h1 h2;exact .inl rfl
      |2,h1,h2=>simp[eS]at h1 h2;subst h1 h2;exact .inr ⟨_,rfl,Eg hb aw hT2l⟩
      |3,h1,h2=>simp[eS,hv.2.2]at h1 h2;subst h1 h2;exact .inl rfl
      |4,h1,h2=>simp[eS]at h1 h2;subst h1 h2;exact .inl rfl
      |5,h1,h2=>simp[eS]at h1 h2;subst h1 h2;exact .inl rfl
      |j+6,h1,_=>simp at h1
  rw[hv0,hrows];refine nS (st':=⟨[(3,.ptr 0 0 0 1),(5,.ptr 64 0 0 1),(11,.ptr 2152 0 0 1),(14,.d (.int .u64 (bk:Int))),(15,.ptr 4192 0 0 1),(16,.d (.bool true)),(18,.d (.int .i64 0)),(20,.d (.int .i64 (t.outs.length:Int)))],[(4192,⟨28,6,[eS T2 (m:Int) C]⟩),(0,⟨76,66,[PC]⟩),(64,⟨96,4,[cI sec]⟩),(2152,⟨29,32,[cb T1]⟩)],9000⟩) (Wk.trans (Fo (L:=4192) (es':=[eS T2 (m:Int) C]) [4576] aw rfl aw rfl (hcell _ rfl)) (aV ?_)) ?_
  · simp [av,ah,fv,lk,AV.low,AV.low1,aN,bJ]
    exact⟨uT _ _ _ _,hplow _,aR _ _,aE _ _⟩
  have y6:(eS T2 (m:Int) C).length=6:=rfl;have yt6:List.take 6 (eS T2 (m:Int) C)=eS T2 (m:Int) C:=rfl;have yd:=ow T2 (m:Int) C;have hCk2:=mj T2 (m:Int) C hT2s (by have:=hCo.1;omega);by_cases c2:cp T2 (m:Int) C=0
  case neg =>
    generalize cp T2 (m:Int) C=ck at *;generalize eS T2 (m:Int) C=S2 at *;refine aD ?_;simp[go_sem,y6,yt6];refine ag hCk2 yd ?_;simp[go_sem,c2];refine ag fw aw ?_;simp[go_sem,ai];exact ae (v:=.d (.bool true)) trivial rfl
  rw[c2]at hCk2
  -- the message and its signature
  obtain⟨D,rfl⟩:∃D:Nat,d=(D:Int):=⟨d.toNat,aq⟩;obtain⟨q,hql,hqb,fmsg⟩:=Su T2 (m:Int) C (db (aQ (cH key (D:Int)))) [] hT2s hCo (kt _) aw c2;have fV':=fV;rw[←hPC]at fV';have fck:=zu inner rec (D:Int) key hi hkl (xB inner a0 a1) (.inr ⟨_,rfl⟩) fV';have fpm:=S5 inner rec (D:Int) key T2 (m:Int) C q hi hkl hkb h1 h2 hql fck fmsg;have dpm:=Eo inner rec (D:Int) key T2 (m:Int) C;obtain⟨qn,Rr,e2,hqn,hRr,hRb,hcase2,fst2⟩:=xI [5,0,0,0] OP;rcases hcase2 with ⟨_,h0⟩|⟨rfl,hst2⟩
  · simp [V] at h0
    unfold nZ at h0;omega
  obtain⟨Sg,ch,hSl,hSb,hch,vch,vS,f3,fsign⟩:=Ya sec [5,0,0,0] r qn key Rr q hsec OP hr hqn hkl hRr aq fst fst2;have hchb:0≤V ch∧V ch<nZ:=by
    rw[vch];exact⟨Int.emod_nonneg _ (by unfold nZ;omega),Int.emod_lt_of_pos _ (by unfold nZ;omega)⟩
  obtain⟨lo,hsn,x,y,hQ,hy2,hxR⟩:=Yb hst hst2 hchb vS;have fver:=OO key q Rr Sg hkl hkb hRr hRb hSl hSb aq lo hsn ch hch f3 x y hQ hy2 hxR;have hsig:(Rr++Sg).length=64:=by simp[hRr,hSl]
  have hsigb:bytes (Rr++Sg):=fun z hz=>(cD.1 hz).elim (hRb z) (hSb z);clear f3 hQ hxR hy2 vS;generalize Rr++Sg=sig at *;have hH:TrH inner rec key T1 D T2 m C a0 a1 b1 ka kb q sig oa1 ob1 t.outs.length bk:={
    il:=hi
    ib:=hib
    kl:=hkl
    kb:=hkb
    tl:=hT1
    tb:=hT1b
    dl:=aq
    sm:=hT2s
    cc:=hCo
    cby:=hCb
    ob:=hT2b
    L1:=hA1
    B1:=hB1
    pa:=hAp.trans hBp.symm
    at':=hCm
    oj:=⟨v0,by subst hT2;simp⟩
    ok:=⟨bk,by subst hT2;simp⟩
    j1:=aq
    bk:=hbk64
    ck:=c2
    ql:=hql
    qb:=hqb
    sl:=hsig
    sb:=hsigb
    ms:=fmsg
    vf:=fver }
  obtain⟨w,ftr,fsp⟩:=S4 hH fV';have dtr:=Em inner rec (D:Int) key sig T1 (t.outs.length:Int) ((t.outs.length+1:Nat):Int) (bk:Int);have dsp:=xC T2 m C w;rw[hPC]at fpm dpm ftr dtr;have hq32:=al hql;clear hH;have hS2l:=uT T2 (m:Int) C;have e1:((t.outs.length+1:Nat):Int)=(t.outs.length:Int)+1:=aq;have w1:IntKind.i64.wrap ((t.outs.length:Int)+1)=(t.outs.length:Int)+1:=IntWalk.i64_in _ aq;have wb:IntKind.i64.wrap (bk:Int)=(bk:Int):=IntWalk.i64_in _ aq;rw[e1]at ftr dtr fsp;generalize eS T2 (m:Int) C=S2 at *;refine bQ (aD ?_);simp[go_sem,y6,yt6];refine ag hCk2 yd ?_;simp[go_sem];simp only[fN];refine bQ (aD ?_);simp[go_sem,hl,hpt,y6,yt6];refine ag fpm dpm ?_;simp[go_sem,aj,hql,hq32,bK];simp only[fN];refine bQ (aD ?_);refine cO [0,1,2] [3,5,6] [0,1,2,4,7,8] (.step 3 [4] false (.alt (.step 5 [7] false (.step 6 [8] false .done)) (bx 6 (.step 5 [7,8] false .done)))) ⟨[(3,.ptr 0 0 0 1),(11,.ptr 2152 0 0 1),(14,.d (.int .u64 (bk:Int))),(15,.ptr 4192 0 0 1),(16,.d (.bool true)),(18,.d (.int .i64 0)),(20,.d (.int .i64 (t.outs.length:Int))),(22,.d (.int .i64 0)),(23,.d (nb sig)),(24,.d (.int .i64 0))],[(4192,⟨28,6,[S2]⟩),(0,⟨76,66,[PC]⟩),(2152,⟨29,32,[cb T1]⟩)],12000⟩ (k:=9) ?h3 ?hq
  case h3 =>
    intro G hG;simp[go_sem,hcI,hct,aj,hql]
    repeat' first
      |apply And.intro
      | (refine bn [9288] fsign rfl (ak (.deep (cM _)) (ak (.deep (cM [5,0,0,0])) (ak (.one (ao (dE rfl aw hql))) aC))) ?_
         simp[go_sem,aN])
      | (refine hG _ _ (aV ⟨by simp [ah,fv,lk,AV.low,AV.low1],?_,aw⟩)
         intro p hp;simp only[d_,List.mem_nil_iff,or_false]at hp;rcases hp with rfl|rfl|rfl
         · refine ⟨.inl (by simp [lk]),by show 4192<12000;omega,?_⟩
           intro r hr v hv;simp only[d_,List.mem_nil_iff,or_false]at hr;subst hr;exact hS2l _ v hv
         · refine ⟨.inl (by simp [lk]),by show 0<12000;omega,?_⟩
           intro r hr v hv;simp only[d_,List.mem_nil_iff,or_false]at hr;subst hr;exact hplow _ v hv
         · refine ⟨.inl (by simp [lk]),by show 2152<12000;omega,?_⟩
           intro r hr v hv;simp only[d_,List.mem_nil_iff,or_false]at hr;subst hr
           exact aE _ _ v hv)
  case hq =>
    simp only[fN];refine bQ (aD ?_);simp[go_sem,hl,hpt,aj,hT1,al hT1,w1,wb];refine ag ftr dtr ?_;simp[go_sem];simp only[fN];refine bQ (aD ?_);simp[go_sem,y6,yt6];refine ag fsp dsp ?_;simp[go_sem,Bl];simp only[fN];refine bQ (aD ?_);simp[go_sem];simp only[fN];refine aD ?_;simp[go_sem];refine ag fw aw ?_;simp[go_sem,eQ,ksQ,egQ,L1.k,w1,w64,ai];exact ae (v:=.d (.bool true)) trivial rfl
theorem OR{n:Nat}:∀(m:Nat){c:List DV},B6 (jh Tryz.prog (n+1)) Tryz.prog.cellsOf (List.replicate m 53) c→∃l:List Int,c.map .d=cI l∧Wn m l
 |0,c,h=>⟨[],by simpa[B6,cI]using h,rfl,fun _ h=>by simp at h⟩
 | m+1,c,h=>by
  rw[List.replicate_succ]at h;obtain⟨a,b,rfl,_,g,j⟩:=h;simp only[jh,Tryz.underlying53]at g;obtain⟨x,rfl,i⟩:=g;obtain⟨l,o,p,k⟩:=OR m j;have f:0≤x∧x<18446744073709551616:=by simp[IntKind.has,IntKind.min,IntKind.max,IntKind.signed,IntKind.bits]at i;omega
  refine⟨x::l,?_,by simp[p],fun y e=>?_⟩;rw[List.map_append,o];rfl;rcases d_.1 e with rfl|e;exact f;exact k y e
theorem OS{n:Nat}{a:AV}(h:rm Tryz.prog (n+2) 96 a):∃l:List Int,a=.agg (cI l)∧Wn 4 l:=by
 unfold rm at h;simp only[Tryz.underlying96]at h;obtain⟨d,rfl,h⟩:=h;rw[jh]at h;simp only[Tryz.underlying96]at h;obtain⟨l,b,c⟩:=OR 4 h;exact⟨l,by rw[b],c⟩
end Go.Proofs.YtmfnimjnneflnaaGreat
