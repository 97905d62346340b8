/-
 Part 11 of what the claim rests on.
-/
import Derived.Test.YtmfnimjnneflnaaGreatX8
import Derived.Test.YtmfnimjnneflnaaGreatX9
set_option linter.unusedVariables false
set_option linter.unusedSimpArgs false
set_option maxRecDepth 100000
set_option maxHeartbeats 16000000
namespace Go.Proofs.YtmfnimjnneflnaaGreat
open Go.Am Go.Sha Go.Ec
theorem ET(x:Int):∀v,v∈[AV.d (.int .u64 x)]→v.deep:=by
 intro v a;simp at a;subst a;trivial
theorem V2{a:List Int}(b:Wn 4 a):(a.map Int.toNat).length=4∧cI a=cW (a.map Int.toNat):=by
 refine⟨by simp[b.1],?_⟩;unfold cI cW;rw[List.map_map];refine List.map_congr_left fun x c=>?_;have:=(b.2 x c).1;simp only[Function.comp_apply];rw[Int.toNat_of_nonneg this]
theorem aep{a b:List Int}(d:Wn 4 a)(c:Wn 4 b):Ep (a.map Int.toNat) (b.map Int.toNat) 4<0↔V a<V b:=by
 obtain⟨j,i,n,k,rfl,p,s,m,r⟩:=kp d;obtain⟨o,q,b2,b3,rfl,l,t,k2,k3⟩:=kp c;unfold dZ at *;rw[V4,V4];have e:∀w x y z:Nat,[w,x,y,z].getD 0 0=w:=fun _ _ _ _=>rfl;have f:∀w x y z:Nat,[w,x,y,z].getD 1 0=x:=fun _ _ _ _=>rfl;have h:∀w x y z:Nat,[w,x,y,z].getD 2 0=y:=fun _ _ _ _=>rfl;have g:∀w x y z:Nat,[w,x,y,z].getD 3 0=z:=fun _ _ _ _=>rfl;simp only[List.map_cons,List.map_nil,Ep,e,f,h,g]
 repeat' split
 all_goals omega
theorem Jb(a b:List Int)(f:Wn 4 a)(e:Wn 4 b):∃c:Int,(c<0↔V a<V b)∧au Tryz.prog 206 [.agg (cI a),.agg (cI b)] (fun r=>r=.d (.int .i64 c)):=by
 obtain⟨g,h⟩:=V2 f;obtain⟨j,i⟩:=V2 e;rw[h,i];exact⟨_,aep f e,XT _ _ g j⟩
theorem pn(a:List Int)(d:Wn 4 a):∃r,Wn 4 r∧(V r<pZ∧FV r=FV a*FV a)∧W1 208 a r:=by
 obtain⟨r,f,g,e⟩:=iD a a d d;unfold W2 at e;have c:=d.1;have b:=f.1;have h:List.drop 4 (cI zI)=[]:=be rfl;refine⟨r,f,g,?_⟩;unfold W1;refine bF Tryz.func208 Tryz.ntmps208 (rs:=[.cell 2 96]) (aS a) ?_;simp[go_sem,c,ae c];refine ag e (aN _ _) ?_;simp[go_sem,b,ae b,ah];exact eC rfl
theorem EU(a:List Int)(g:Wn 4 a):∃r,Wn 4 r∧(V r<pZ∧FV r=FV a*FV a*FV a+7)∧W1 190 a r:=by
 obtain⟨s,x,v,h⟩:=pn a g;obtain⟨m,y,o,l⟩:=iD s a x g;obtain⟨r,e,j,n⟩:=abR m [7,0,0,0] y (kS ⟨aq,aq⟩);have q:FV [7,0,0,0]=7:=Hk 7 aq;rw[q,o.2,v.2]at j;unfold W1 at h;unfold W2 at l n;have d:=g.1;have c:=e.1;have z:List.drop 4 (cI zI)=[]:=be rfl;refine⟨r,e,j,?_⟩;unfold W1;refine bF Tryz.func190 Tryz.ntmps190 (rs:=[.cell 2 96]) (aS a) ?_;simp[go_sem,d];refine dE [0,2] [1,3,4,5,6] [0,2] (bt 1 (a_ [3,4,5,6])) ⟨[(2,.ptr 32 0 0 1)],[(32,⟨96,4,[cI r]⟩)],9000⟩ (k:=7) ?h3 ?hq
 case h3 =>
  intro G u;have i:∀(f:Fr)(b:Hp),(fv 2 f=.ptr 32 0 0 1∧lk 32 b=some ⟨96,4,[cI r]⟩)→G f b:=by
   rintro f b⟨w,t⟩;refine u _ _ (b7 ?_);simp only[az,ai];refine⟨fun p b=>?_,fun p b=>?_,aw⟩;simp only[et,List.mem_nil_iff,or_false]at b;subst b;exact⟨.inl w.symm,by simp[AV.low,AV.low1]⟩;simp only[et,List.mem_nil_iff,or_false]at b;subst b;exact⟨.inl t,aw,by intro r e;simp only[et,List.mem_nil_iff,or_false]at e;subst e;exact cE _ _⟩
  simp[go_sem,d,ae d]
  repeat' first|exact i _ _ ⟨rfl,rfl⟩|(refine i _ _ ?_;simp[fv];done)|refine ag h (aS _) ?_|refine ag l (aN _ _) ?_|refine ag n (aN _ _) ?_|refine ag (fP 7) (ET _) ?_|apply And.intro|simp[go_sem,c,dI]
 case hq =>
  simp[go_sem,c,ae c,ah];exact eC rfl
theorem ye(a:List Int)(g:Wn 4 a):∃b:Bool,(b=true↔V a<pZ)∧au Tryz.prog 188 [.agg (cI a)] (fun r=>r=.d (.bool b)):=by
 obtain⟨c,f,h⟩:=Jb a BU g EL;have j:V BU=pZ:=by simp[V,BU]
 rw[j]at f;have e:=g.1;refine⟨decide (c<0),by rw[decide_eq_true_iff];exact f,?_⟩;refine bF Tryz.func188 Tryz.ntmps188 (rs:=[.tmp 2]) (aS a) ?_;simp[go_sem,e];refine cz [0] [(1,[]),(2,[3,4])] 2 (k:=5) ?_;intro G i;simp[go_sem,e,ae e];refine ag lc aw ?_;simp[go_sem];refine ag h (aN _ _) ?_;simp[go_sem,dI];refine i _ _ ?_;simp[go_sem,ah];exact aa a9 rfl
def cP(x y:List Int)(b:Bool):List AV:=cI x++(cI y++[.d (.bool b)])
theorem cK{x y:List Int}(c:x.length=4)(a:y.length=4)(b:Bool):(cP x y b).length=9:=by simp[cP,fF,c,a]
theorem dH{x y:List Int}(c:x.length=4)(a:y.length=4)(b:Bool):(cP x y b).take 9=cP x y b:=cx (by rw[cK c a];omega)
theorem qk{x y:List Int}(c:x.length=4)(a:y.length=4)(b:Bool):(cP x y b).drop 9=[]:=dg (by rw[cK c a];omega)
theorem YF{x y:List Int}(a:x.length=4)(b:Bool):(cP x y b).take 4=cI x:=by
 unfold cP;rw[List.take_append_of_le_length (by rw[fF];omega),ae a]
theorem abT{x y:List Int}(c:x.length=4)(a:y.length=4)(b:Bool):((cP x y b).drop 4).take 4=cI y:=by
 unfold cP;rw[List.drop_append_of_le_length (by rw[fF];omega),be c,List.nil_append,List.take_append_of_le_length (by rw[fF];omega),ae a]
theorem EV{x y:List Int}(c:x.length=4)(a:y.length=4)(b:Bool):(cP x y b)[8]?=some (.d (.bool b)):=by
 unfold cP;rw[dz (by rw[fF];omega),dz (by simp only[fF];omega)];simp[fF,c,a]
theorem Hl{x y:List Int}(c:x.length=4)(a:y.length=4)(b:Bool)(h:8<(cP x y b).length):(cP x y b)[8]=.d (.bool b):=(ci.1 (EV c a b)).2
theorem kT(x y:List Int)(b:Bool):(AV.agg (cP x y b)).deep:=by
 intro v a;unfold cP at a;rcases cL.1 a with a|a;exact j6 _ v a;rcases cL.1 a with a|a;exact j6 _ v a;simp at a;subst a;trivial
theorem d5(x y:List Int)(b:Bool):∀v,v∈[AV.agg (cP x y b)]→v.deep:=by
 intro v a;simp at a;subst a;exact kT _ _ _
theorem nX(n:Nat)(x y:List Int)(b:Bool):∀v,v∈cP x y b→v.low1 n:=by
 intro v a;unfold cP at a;rcases cL.1 a with a|a;exact cE _ _ v a;rcases cL.1 a with a|a;exact cE _ _ v a;simp at a;subst a;trivial
theorem rL{Q:AV→Prop}{st:St}{x y:List Int}{b:Bool}(hq:Q (.agg (cP x y b))):dC Q (.agg (cP x y b)) st:=aa (kT _ _ _) hq
theorem zzP:fQ Tryz.prog 189=some (cP zI zI false):=by kernel_rfl
attribute [go_sem] zzP
theorem kU:au Tryz.prog 160 [] (fun r=>r=.agg (cP zI zI true)):=by
 refine bF Tryz.func160 Tryz.ntmps160 (rs:=[.cell 0 189]) a9 ?_;simp[go_sem,cP,cI,zI,ah];exact rL (x:=zI) (y:=zI) (b:=true) rfl
def lP(x y:List Int)(b:Bool):List L1:=x.map (L1.i .u64)++(y.map (L1.i .u64)++[L1.b b])
theorem PO:∀(x:List Int)(r:List AV),fu (cI x++r)=(fu r).map (x.map (L1.i .u64)++·)
 |[],r=>by simp[cI]
 |a::l,r=>by
  have b:=PO l r;show fu (.d (.int .u64 a)::(cI l++r))=_;have e:fu (.d (.int .u64 a)::(cI l++r))=(fu (cI l++r)).map (L1.i .u64 a::·):=rfl;rw[e,b,Option.map_map];rfl
theorem Jc(x y:List Int)(b:Bool):fu (cP x y b)=some (lP x y b):=by
 unfold cP;rw[PO,PO];rfl
theorem ksP:eE Tryz.prog 8 189=some (List.replicate 8 (some .u64)++[none]):=by kernel_rfl
theorem PP{x y:List Int}(j:x.length=4)(i:y.length=4)(b:Bool):eE Tryz.prog 8 189=some ((lP x y b).map L1.k):=by
 rw[ksP]
 match x,y,j,i with
 |[a,b,c,d],[e,f,g,h],_,_=>rfl
theorem egP:Tryz.prog.eqGuardType Tryz.prog.depth 189=false:=by kernel_rfl
theorem abU(x y:List Int)(b:Bool)(J:Wn 4 x)(D:Wn 4 y):∃c:Bool,(c=true↔kC x y b)∧au Tryz.prog 186 [.agg (cP x y b)] (fun r=>r=.d (.bool c)):=by
 have j:=J.1;have l:=D.1;cases b
 ·obtain⟨F,A,p⟩:=ye x J;obtain⟨b2,q,K⟩:=ye y D;obtain⟨s,M,E,N⟩:=pn y D;obtain⟨r,O,z,L⟩:=EU x J;unfold W1 at N L;have B:=M.1;have o:=O.1;have n:∀c:Bool,(cP x y c).take 4=cI x:=YF j;have C:∀c:Bool,((cP x y c).drop 4).take 4=cI y:=abT j l;have t:(F&&(b2&&decide (s=r)))=true↔kC x y false:=by
   rw[Bool.and_eq_true,Bool.and_eq_true,decide_eq_true_iff,A,q];refine⟨fun⟨I,w,H⟩=>.inr ⟨rfl,I,w,by rw[←E.2,H,z.2]⟩,fun h=>?_⟩;rcases h with ⟨h,_⟩|⟨_,I,w,H⟩;cases h;exact⟨I,w,PM M O E.1 z.1 (by rw[E.2,z.2,H])⟩
  refine⟨F&&(b2&&decide (s=r)),t,?_⟩;refine bF Tryz.func186 Tryz.ntmps186 (rs:=[.tmp 2]) (d5 _ _ _) ?_;simp[go_sem,cK j l,Hl j l]
  cases F
  ·skip;refine cz [0,1] [(2,[3,4,5]),(6,[7,8,9,10,12,13]),(11,[]),(14,[15,16,17])] 4 (k:=18) ?_;intro G m;simp[go_sem,cK j l,n];refine ag p (aS _) ?_;simp[go_sem,dI];refine m _ _ ?_;simp[go_sem,ah];exact aa a9 rfl
  ·cases b2
   ·skip;refine cz [0,1] [(2,[3,4,5]),(6,[7,8,9,10,12,13]),(11,[]),(14,[15,16,17])] 4 (k:=18) ?_;intro G m;simp[go_sem,cK j l,n];refine ag p (aS _) ?_;simp[go_sem,cK j l,C,dI];refine ag K (aS _) ?_;simp[go_sem,dI];refine m _ _ ?_;simp[go_sem,ah];exact aa a9 rfl
   ·skip;refine cz [0,1] [(2,[3,4,5]),(6,[7,8,9,10,12,13]),(11,[]),(14,[15,16,17])] 4 (k:=18) ?_;intro G m;simp[go_sem,cK j l,n];refine ag p (aS _) ?_;simp[go_sem,cK j l,C,dI];refine ag K (aS _) ?_;simp[go_sem,cK j l,n,C,dI];refine ag N (aS _) ?_;simp[go_sem,dI];refine ag L (aS _) ?_;simp[go_sem,jD,B,o,dI];refine m _ _ ?_;simp[go_sem,ah];exact aa a9 rfl
 ·have t:decide (lP x y true=lP zI zI true)=true↔kC x y true:=by
   rw[decide_eq_true_iff];refine⟨fun h=>.inl ⟨rfl,?_⟩,fun h=>?_⟩
   ·match x,y,j,l with
    |[a,b,c,d],[e,f,g,i],_,_ =>
     simp[lP,zI]at h;obtain⟨rfl,rfl,rfl,rfl,rfl,rfl,rfl,rfl⟩:=h;exact⟨rfl,rfl⟩
   ·rcases h with ⟨_,rfl,rfl⟩|⟨h,_⟩;rfl;cases h
  refine⟨decide (lP x y true=lP zI zI true),t,?_⟩;refine bF Tryz.func186 Tryz.ntmps186 (rs:=[.tmp 2]) (d5 _ _ _) ?_;simp[go_sem,cK j l,Hl j l];refine cz [0] [(1,[2,3])] 1 (k:=4) ?_;intro G m;simp[go_sem,cK j l,dH j l];refine ag kU aw ?_;have P:=PP j l true;have k2:=PP (x:=zI) (y:=zI) rfl rfl true;have Q:=Jc x y true;have R:=Jc zI zI true;generalize lP x y true=u at *;generalize lP zI zI true=v at *;simp[go_sem,Q,R,dI]
  first|refine⟨P,k2,m _ _ ?_⟩|refine⟨P,m _ _ ?_⟩
  simp[go_sem,ah];exact aa a9 rfl
theorem s8(x y:List Int)(b:Bool)(g:Wn 4 x)(e:Wn 4 y):∃(u v:List Int)(c:Bool),Wn 4 u∧Wn 4 v∧(kC u v c∧(kC x y b→u=x∧v=y∧c=b)∧(¬kC x y b→u=zI∧v=zI∧c=true))∧au Tryz.prog 161 [.agg (cP x y b)] (fun r=>r=.agg (cP u v c)):=by
 obtain⟨o,f,i⟩:=abU x y b g e;have d:=g.1;have a:=e.1;have m:(cP zI zI false).drop 9=[]:=qk rfl rfl _;have j:(cP zI zI true).length=9:=rfl;have k:(cP zI zI true).take 9=cP zI zI true:=dH rfl rfl _;have l:(cP zI zI false).length=9:=rfl;cases o
 ·refine⟨zI,zI,true,kR,kR,⟨yd,fun h=>absurd (f.2 h) (by decide),fun _=>⟨rfl,rfl,rfl⟩⟩,?_⟩;refine bF Tryz.func161 Tryz.ntmps161 (rs:=[.cell 2 189]) (d5 _ _ _) ?_;simp[go_sem,cK d a,dH d a];refine ag i (d5 _ _ _) ?_;simp[go_sem];refine ag kU aw ?_;simp[go_sem,j,k,ah];exact rL rfl
 ·refine⟨x,y,b,g,e,⟨f.1 rfl,fun _=>⟨rfl,rfl,rfl⟩,fun h=>absurd (f.1 rfl) h⟩,?_⟩;refine bF Tryz.func161 Tryz.ntmps161 (rs:=[.cell 2 189]) (d5 _ _ _) ?_;simp[go_sem,cK d a,dH d a];refine ag i (d5 _ _ _) ?_;simp[go_sem,cK d a,dH d a,ah];exact rL rfl
def cV(x y z:List Int):List AV:=cI x++(cI y++cI z)
theorem eP{x y z:List Int}(b:x.length=4)(a:y.length=4)(hz:z.length=4):(cV x y z).length=12:=by simp[cV,fF,b,a,hz]
theorem dN{x y z:List Int}(b:x.length=4)(a:y.length=4)(hz:z.length=4):(cV x y z).take 12=cV x y z:=cx (by rw[eP b a hz];omega)
theorem my{x y z:List Int}(b:x.length=4)(a:y.length=4)(hz:z.length=4):(cV x y z).drop 12=[]:=dg (by rw[eP b a hz];omega)
theorem Ul{x y z:List Int}(a:x.length=4):(cV x y z).take 4=cI x:=by
 unfold cV;rw[List.take_append_of_le_length (by rw[fF];omega),ae a]
theorem Um{x y z:List Int}(b:x.length=4)(a:y.length=4):((cV x y z).drop 4).take 4=cI y:=by
 unfold cV;rw[List.drop_append_of_le_length (by rw[fF];omega),be b,List.nil_append,List.take_append_of_le_length (by rw[fF];omega),ae a]
theorem PQ{x y z:List Int}(b:x.length=4)(a:y.length=4)(hz:z.length=4):((cV x y z).drop 8).take 4=cI z:=by
 have e:cV x y z=(cI x++cI y)++cI z:=by simp[cV]
 rw[e,List.drop_append_of_le_length (by simp[fF,b,a]),dg (by simp[fF,b,a]),List.nil_append,ae hz]
theorem we(x y z:List Int):(AV.agg (cV x y z)).deep:=by
 intro v a;unfold cV at a;rcases cL.1 a with a|a;exact j6 _ v a;rcases cL.1 a with a|a;exact j6 _ v a;exact j6 _ v a
theorem gB(x y z:List Int):∀v,v∈[AV.agg (cV x y z)]→v.deep:=by
 intro v a;simp at a;subst a;exact we _ _ _
theorem uz(n:Nat)(x y z:List Int):∀v,v∈cV x y z→v.low1 n:=by
 intro v a;unfold cV at a;rcases cL.1 a with a|a;exact cE _ _ v a;rcases cL.1 a with a|a;exact cE _ _ v a;exact cE _ _ v a
theorem mL{Q:AV→Prop}{st:St}{x y z:List Int}(hq:Q (.agg (cV x y z))):dC Q (.agg (cV x y z)) st:=aa (we _ _ _) hq
theorem zzV:fQ Tryz.prog 243=some (cV zI zI zI):=by kernel_rfl
attribute [go_sem] zzV
def lV:List Int:=[1,0,0,0]
theorem Hm:Wn 4 lV:=kS ⟨aq,aq⟩
theorem qm(x y z:List Int)(g:Wn 4 x)(f:Wn 4 y)(hz:Wn 4 z):au Tryz.prog 207 [.agg (cV x y z)] (fun r=>r=.d (.bool (decide (z=zI)))):=by
 have c:=g.1;have b:=f.1;have a:=hz.1;refine bF Tryz.func207 Tryz.ntmps207 (rs:=[.tmp 2]) (gB _ _ _) ?_;have e:cy .u64 [AV.d (.int .u64 0),AV.d (.int .u64 0),AV.d (.int .u64 0),AV.d (.int .u64 0)]=some zI:=jD zI;simp[go_sem,eP c b a,PQ c b a,jD,e,a,ah];exact aa a9 rfl
theorem PR:V lV=1:=by simp[V,lV]
theorem YG:FV lV=1:=Hk 1 aq
theorem abV:JV lV lV zI=none:=by
 show sY fd (FV lV) (FV lV) (FV zI)=none;rw[Cd];exact ES fd _ _
theorem abW:uy lV lV zI:=by
 have a:V zI=0:=by simp[V,zI]
 refine⟨⟨by rw[PR];decide,by rw[PR];decide,by rw[a];decide⟩,by rw[abV];trivial⟩
theorem PS:(1:F)≠0:=fd.one
theorem aeq(a:F):a=a*(1*1):=by grobner
theorem abX(a:F):a=a*(1*1*1):=by grobner
theorem YH(x y:List Int):JV x y lV=some (FV x,FV y):=by
 show sY fd (FV x) (FV y) (FV lV)=_;rw[YG];exact B9 fd PS (aeq _) (abX _)
theorem Un{x y:List Int}(h:kC x y false):uy x y lV∧JV x y lV=PV x y false:=by
 have e:JV x y lV=PV x y false:=YH x y;have a:=s7 h;rcases h with ⟨h,_⟩|⟨_,b,c,_⟩;cases h;exact⟨⟨⟨b,c,by rw[PR];decide⟩,by rw[e];exact a⟩,e⟩
theorem mkV{x y:List Int}(j:x.length=4)(i:y.length=4):List.take 8 (cI x++(cI y++List.drop 8 (cI x++[AV.d (.int .u64 0),AV.d (.int .u64 0),AV.d (.int .u64 0),AV.d (.int .u64 0),AV.d (.int .u64 0),AV.d (.int .u64 0),AV.d (.int .u64 0),AV.d (.int .u64 0)])))++(cI [1,0,0,0]++List.drop 12 (cI x++(cI y++List.drop 8 (cI x++[AV.d (.int .u64 0),AV.d (.int .u64 0),AV.d (.int .u64 0),AV.d (.int .u64 0),AV.d (.int .u64 0),AV.d (.int .u64 0),AV.d (.int .u64 0),AV.d (.int .u64 0)]))))=cV x y lV:=by
 match x,y,j,i with
 |[a,b,c,d],[e,f,g,h],_,_=>rfl
theorem po(x y:List Int)(b:Bool)(g:Wn 4 x)(f:Wn 4 y):∃(u v w:List Int),Wn 4 u∧Wn 4 v∧Wn 4 w∧(kC x y b→uy u v w∧JV u v w=PV x y b)∧au Tryz.prog 180 [.agg (cP x y b)] (fun r=>r=.agg (cV u v w)):=by
 have a:=g.1;have d:=f.1;cases b
 ·refine⟨x,y,lV,g,f,Hm,Un,?_⟩;refine bF Tryz.func180 Tryz.ntmps180 (rs:=[.cell 2 243]) (d5 _ _ _) ?_;have h:∀c:Bool,(cP x y c).take 4=cI x:=YF a;have i:∀c:Bool,((cP x y c).drop 4).take 4=cI y:=abT a d;simp[go_sem,cK a d,Hl a d];refine cz [0,1,2,3] [(4,[5]),(6,[])] 1 (k:=7) ?_;intro G j;simp[go_sem,cK a d,h,i];refine ag (fP 1) (ET _) ?_;simp[go_sem,a,d];rw[mkV a d];refine j _ _ ?_;have e:lV.length=4:=rfl;simp[go_sem,eP a d e,dN a d e,ah];exact mL rfl
 ·refine⟨lV,lV,zI,Hm,Hm,kR,fun _=>⟨abW,abV⟩,?_⟩;refine bF Tryz.func180 Tryz.ntmps180 (rs:=[.cell 2 243]) (d5 _ _ _) ?_;simp[go_sem,cK a d,Hl a d];refine ag (fP 1) (ET _) ?_;simp[go_sem];refine ag (fP 1) (ET _) ?_;simp[go_sem,ah];exact mL (x:=lV) (y:=lV) (z:=zI) rfl
theorem nY(c:Int)(a:List Int):∀v,v∈[AV.d (.int .u64 c),AV.agg (cI a)]→v.deep:=by
 intro v b;simp at b;rcases b with rfl|rfl;trivial;exact fO _
theorem nj(n:Int)(a:List Int)(o:dZ n)(i:Wn 4 a):∃r,Wn 4 r∧(V r<pZ∧FV r=FV [n,0,0,0]*FV a)∧au Tryz.prog 211 [.d (.int .u64 n),.agg (cI a)] (fun x=>x=.agg (cI r)):=by
 obtain⟨r,j,l,g⟩:=iD [n,0,0,0] a (kS o) i;unfold W2 at g;have c:=i.1;have b:=j.1;have s:List.drop 4 (cI zI)=[]:=be rfl;refine⟨r,j,l,?_⟩;refine bF Tryz.func211 Tryz.ntmps211 (rs:=[.cell 4 96]) (nY _ _) ?_;simp[go_sem,c];refine dE [0,2] [1,3,4] [0,2] (bt 1 (a_ [3,4])) ⟨[(4,.ptr 32 0 0 1)],[(32,⟨96,4,[cI r]⟩)],9000⟩ (k:=5) ?h3 ?hq
 case h3 =>
  intro G m;have h:∀(e:Fr)(f:Hp),(fv 4 e=.ptr 32 0 0 1∧lk 32 f=some ⟨96,4,[cI r]⟩)→G e f:=by
   rintro e f⟨q,p⟩;exact m _ _ qC
  simp[go_sem,c,ae c]
  repeat' first|exact h _ _ ⟨rfl,rfl⟩|(refine h _ _ ?_;simp[fv];done)|refine ag (fP n) (ET _) ?_|refine ag g (aN _ _) ?_|apply And.intro|simp[go_sem,b,dI]
 case hq =>
  simp[go_sem,b,ae b,ah];exact eC rfl
theorem mk8{x y:List Int}(j:x.length=4)(i:y.length=4):List.take 8 (cI x++(cI y++List.drop 8 (cI x++[AV.d (.int .u64 0),AV.d (.int .u64 0),AV.d (.int .u64 0),AV.d (.int .u64 0),AV.d (.int .u64 0),AV.d (.int .u64 0),AV.d (.int .u64 0),AV.d (.int .u64 0)])))=cI x++cI y:=by
 match x,y,j,i with
 |[a,b,c,d],[e,f,g,h],_,_=>rfl
theorem abY{x y:List Int}(j:x.length=4)(i:y.length=4):List.drop 12 (cI x++(cI y++List.drop 8 (cI x++[AV.d (.int .u64 0),AV.d (.int .u64 0),AV.d (.int .u64 0),AV.d (.int .u64 0),AV.d (.int .u64 0),AV.d (.int .u64 0),AV.d (.int .u64 0),AV.d (.int .u64 0)])))=[]:=by
 match x,y,j,i with
 |[a,b,c,d],[e,f,g,h],_,_=>rfl
theorem yf(x y z:List Int)(hx:Wn 4 x)(hy:Wn 4 y)(hz:Wn 4 z):∃(u v w:List Int),Wn 4 u∧Wn 4 v∧Wn 4 w∧(uy x y z→uy u v w∧JV u v w=sum fd (JV x y z) (JV x y z))∧au Tryz.prog 183 [.agg (cV x y z)] (fun r=>r=.agg (cV u v w)):=by
 obtain⟨B,h1,g1,f1⟩:=pn y hy;obtain⟨m1,h2,g2,f2⟩:=iD x B hx h1;obtain⟨s,h3,g3,f3⟩:=nj 4 m1 ⟨aq,aq⟩ h2;obtain⟨x2,h4,g4,f4⟩:=pn x hx;obtain⟨m,h5,g5,f5⟩:=nj 3 x2 ⟨aq,aq⟩ h4;obtain⟨m2,h6,g6,f6⟩:=pn m h5;obtain⟨s2,h7,g7,f7⟩:=nj 2 s ⟨aq,aq⟩ h3;obtain⟨X,h8,g8,f8⟩:=s6 m2 s2 h6 h7;obtain⟨d,h9,g9,f9⟩:=s6 s X h3 h8;obtain⟨e,F,ao,O⟩:=iD m d h5 h9;obtain⟨y4,C,ai,I⟩:=pn B h1;obtain⟨y8,V,an,aj⟩:=nj 8 y4 ⟨aq,aq⟩ C;obtain⟨Y,aa,P,ad⟩:=s6 e y8 F V;obtain⟨yz,R,ak,M⟩:=iD y z hy hz;obtain⟨Z,U,ab,ap⟩:=nj 2 yz ⟨aq,aq⟩ R;obtain⟨wu,wv,ww,W,H,ac,al,D⟩:=po zI zI true kR kR;unfold W1 at f1 f4 f6 I;unfold W2 at f2 f8 f9 O ad M;have l1:=h1.1;have l2:=h2.1;have J:=h3.1;have l4:=h4.1;have T:=h5.1;have l6:=h6.1;have l7:=h7.1;have j:=h8.1;have l9:=h9.1;have aB:=F.1;have az:=C.1;have av:=V.1;have c:=aa.1;have aA:=R.1;have n:=U.1;have S:=W.1;have N:=H.1;have af:=ac.1;have i:=hx.1;have f:=hy.1;have l:=hz.1;have z4:List.drop 4 (cI zI)=[]:=be rfl;have o:=eP i f l;have vt:=dN i f l;have v1:(cV x y z).take 4=cI x:=Ul i;have v2:=Um (z:=z) i f;have v3:=PQ i f l;have iz:cy .u64 [AV.d (.int .u64 0),AV.d (.int .u64 0),AV.d (.int .u64 0),AV.d (.int .u64 0)]=some zI:=jD zI;have f0:=qm x y z hx hy hz;have wd:(cV zI zI zI).drop 12=[]:=my rfl rfl rfl;have wl:(cV zI zI zI).length=12:=rfl;have ul:=eP S N af;have ut:=dN S N af;by_cases A:z=zI∨y=zI
 ·have vv:uy x y z→uy wu wv ww∧JV wu wv ww=sum fd (JV x y z) (JV x y z):=by
   intro t;obtain⟨k1,k2⟩:=al yd;rcases A with q|q;have e:JV x y z=none:=by rw[q];show sY fd _ _ (FV zI)=none;rw[Cd];exact ES fd _ _
   exact⟨k1,by rw[k2,e,PN];exact(iC fd (Q:=none) True.intro).symm⟩;by_cases g:z=zI;have e:JV x y z=none:=by rw[g];show sY fd _ _ (FV zI)=none;rw[Cd];exact ES fd _ _
   exact⟨k1,by rw[k2,e,PN];exact(iC fd (Q:=none) True.intro).symm⟩;have p:FV z≠0:=fun h=>g ((nW hz t.1.2.2).1 h);exact absurd (by rw[q,Cd]) (ya fd p t.2).2.1
  refine⟨wu,wv,ww,W,H,ac,vv,?_⟩;refine bF Tryz.func183 Tryz.ntmps183 (rs:=[.cell 2 243]) (gB _ _ _) ?_;simp[go_sem,o,vt];refine ag f0 (gB _ _ _) ?_;by_cases g:z=zI
  ·simp[go_sem,g];refine ag kU aw ?_;simp[go_sem];refine ag D (d5 _ _ _) ?_;simp[go_sem,ul,ut,ah];exact mL rfl
  ·have E:y=zI:=A.resolve_left g;simp[go_sem,g,v2,o,jD,iz,f];refine⟨fun _=>?_,fun h=>absurd E h⟩;refine ag kU aw ?_;simp[go_sem];refine ag D (d5 _ _ _) ?_;simp[go_sem,ul,ut,ah];exact mL rfl
 ·have g:z≠zI:=fun h=>A (.inl h);have E:y≠zI:=fun h=>A (.inr h);have vv:uy x y z→uy X Y Z∧JV X Y Z=sum fd (JV x y z) (JV x y z):=by
   intro t;have p:FV z≠0:=fun h=>g ((nW hz t.1.2.2).1 h);obtain⟨_,_,e⟩:=ya fd p t.2;have n2:FV [2,0,0,0]=2:=Hk 2 aq;have n3:FV [3,0,0,0]=3:=Hk 3 aq;have n4:FV [4,0,0,0]=4:=Hk 4 aq;have n8:FV [8,0,0,0]=8:=Hk 8 aq;have eX:FV X=3*(FV x*FV x)*(3*(FV x*FV x))-2*(4*(FV x*(FV y*FV y))):=by
    rw[g8.2,g6.2,g5.2,g4.2,g7.2,g3.2,g2.2,g1.2,n2,n3,n4]
   have eY:FV Y=3*(FV x*FV x)*(4*(FV x*(FV y*FV y))-(3*(FV x*FV x)*(3*(FV x*FV x))-2*(4*(FV x*(FV y*FV y)))))-8*(FV y*FV y*(FV y*FV y)):=by
    rw[P.2,ao.2,g9.2,eX,g5.2,g4.2,g3.2,g2.2,an.2,ai.2,g1.2,n3,n4,n8]
   have eZ:FV Z=2*(FV y*FV z):=by rw[ab.2,ak.2,n2]
   have e2:JV X Y Z=sum fd (JV x y z) (JV x y z):=by
    show sY fd (FV X) (FV Y) (FV Z)=_;rw[eX,eY,eZ];exact e
   exact⟨⟨⟨g8.1,P.1,ab.1⟩,by rw[e2];exact rK fd t.2 t.2⟩,e2⟩
  refine⟨X,Y,Z,h8,aa,U,vv,?_⟩;refine bF Tryz.func183 Tryz.ntmps183 (rs:=[.cell 2 243]) (gB _ _ _) ?_;simp[go_sem,o,vt];refine ag f0 (gB _ _ _) ?_;simp[go_sem,g,E,v2,o,jD,iz,f];refine ag f1 (aS _) ?_;simp[go_sem,l1,ae l1,v1,o];refine ag f2 (aN _ _) ?_;simp[go_sem];refine ag f3 (nY _ _) ?_;simp[go_sem,J,v1,o];refine ag f4 (aS _) ?_;simp[go_sem];refine ag f5 (nY _ _) ?_;simp[go_sem,T];refine dE [0,2] [1,3,4,5,6] [0,2] (.alt (bt 1 (.alt (bx 3 (.alt (a_ [4,5,6]) (a_ [5,4,6]))) (bt 5 (a_ [3,4,6])))) (bt 5 (bt 1 (a_ [3,4,6])))) ⟨[(1,.ptr 0 0 0 1),(2,.ptr 32 0 0 1),(3,.ptr 416 0 0 1),(4,.ptr 640 0 0 1),(5,.ptr 832 0 0 1),(6,.ptr 1056 0 0 1)],[(1056,⟨96,4,[cI X]⟩),(832,⟨96,4,[cI m]⟩),(640,⟨96,4,[cI s]⟩),(416,⟨96,4,[cI B]⟩),(32,⟨243,12,[cV zI zI zI]⟩),(0,⟨243,12,[cV x y z]⟩)],9000⟩ (k:=7) ?h3 ?hq
  case h3 =>
   intro G L;have K:∀(b:Fr)(a:Hp),(fv 1 b=.ptr 0 0 0 1∧fv 2 b=.ptr 32 0 0 1∧fv 3 b=.ptr 416 0 0 1∧fv 4 b=.ptr 640 0 0 1∧fv 5 b=.ptr 832 0 0 1∧fv 6 b=.ptr 1056 0 0 1∧lk 1056 a=some ⟨96,4,[cI X]⟩∧lk 832 a=some ⟨96,4,[cI m]⟩∧lk 640 a=some ⟨96,4,[cI s]⟩∧lk 416 a=some ⟨96,4,[cI B]⟩∧lk 32 a=some ⟨243,12,[cV zI zI zI]⟩∧lk 0 a=some ⟨243,12,[cV x y z]⟩)→G b a:=by
    rintro b a⟨A,g,E,q3,q4,q5,q6,q7,q8,q9,ar,am⟩;exact L _ _ qC
   simp[go_sem,J,T,ae J,ae T,dI]
   repeat' first|exact K _ _ ⟨rfl,rfl,rfl,rfl,rfl,rfl,rfl,rfl,rfl,rfl,rfl,rfl⟩|(refine K _ _ ?_;simp[fv];done)|refine ag f6 (aS _) ?_|refine ag f7 (nY _ _) ?_|refine ag f8 (aN _ _) ?_|apply And.intro|simp[go_sem,j,dI]
  case hq =>
   simp[go_sem];refine dE [0,1,2,5] [3,4,6,7,8,9,10] [0,1,2,5] (.alt (bt 3 (.alt (bt 4 (.alt (bx 6 (.alt (bx 7 (.alt (a_ [8,9,10]) (a_ [9,8,10]))) (a_ [9,7,8,10]))) (bt 9 (a_ [6,7,8,10])))) (bt 9 (bt 4 (a_ [6,7,8,10]))))) (bt 9 (bt 3 (bt 4 (a_ [6,7,8,10]))))) ⟨[(1,.ptr 0 0 0 1),(2,.ptr 32 0 0 1),(3,.ptr 416 0 0 1),(4,.ptr 640 0 0 1),(5,.ptr 832 0 0 1),(6,.ptr 1056 0 0 1),(7,.ptr 9288 0 0 1)],[(9288,⟨96,4,[cI Y]⟩),(1056,⟨96,4,[cI X]⟩),(832,⟨96,4,[cI m]⟩),(640,⟨96,4,[cI s]⟩),(416,⟨96,4,[cI B]⟩),(32,⟨243,12,[cV zI zI zI]⟩),(0,⟨243,12,[cV x y z]⟩)],20000⟩ (k:=11) ?h3 ?hq
   case h3 =>
    intro G L;have K:∀(b:Fr)(a:Hp),(fv 1 b=.ptr 0 0 0 1∧fv 2 b=.ptr 32 0 0 1∧fv 3 b=.ptr 416 0 0 1∧fv 4 b=.ptr 640 0 0 1∧fv 5 b=.ptr 832 0 0 1∧fv 6 b=.ptr 1056 0 0 1∧fv 7 b=.ptr 9288 0 0 1∧lk 9288 a=some ⟨96,4,[cI Y]⟩∧lk 1056 a=some ⟨96,4,[cI X]⟩∧lk 832 a=some ⟨96,4,[cI m]⟩∧lk 640 a=some ⟨96,4,[cI s]⟩∧lk 416 a=some ⟨96,4,[cI B]⟩∧lk 32 a=some ⟨243,12,[cV zI zI zI]⟩∧lk 0 a=some ⟨243,12,[cV x y z]⟩)→G b a:=by
     rintro b a⟨A,g,E,q3,q4,q5,q6,q7,q8,q9,ar,am,ax,ay⟩;exact L _ _ qC
    simp[go_sem,l1,J,T,j,ae l1,ae J,ae T,ae j,dI]
    repeat' first|exact K _ _ ⟨rfl,rfl,rfl,rfl,rfl,rfl,rfl,rfl,rfl,rfl,rfl,rfl,rfl,rfl⟩|(refine K _ _ ?_;simp[fv];done)|refine ag f9 (aN _ _) ?_|refine ag O (aN _ _) ?_|refine ag I (aS _) ?_|refine ag aj (nY _ _) ?_|refine ag ad (aN _ _) ?_|apply And.intro|simp[go_sem,c,dI]
   case hq =>
    simp only[go_sem];refine cz [0,1,2,3,4,5] [(6,[]),(7,[8]),(9,[])] 2 (k:=10) ?_;intro G L;simp[go_sem,j,c,ae j,ae c,v2,v3,o];refine ag M (aN _ _) ?_;simp[go_sem];refine ag ap (nY _ _) ?_;have ev:cI X++(cI Y++cI Z)=cV X Y Z:=rfl;have xl:=eP j c n;have xt:=dN j c n;simp[go_sem,j,c,n,wl,wd,mk8 j c,abY j c,ev,xl,dI];refine L _ _ ?_;simp[go_sem,xl,xt,ah];exact mL rfl
theorem mkP{x y:List Int}(j:x.length=4)(i:y.length=4):cI x++(cI y++List.drop 8 (cI x++[AV.d (.int .u64 0),AV.d (.int .u64 0),AV.d (.int .u64 0),AV.d (.int .u64 0),AV.d (.bool false)]))=cP x y false:=by
 match x,y,j,i with
 |[a,b,c,d],[e,f,g,h],_,_=>rfl
theorem PT(x y z:List Int)(B:Wn 4 x)(w:Wn 4 y)(hz:Wn 4 z):∃(u v:List Int)(c:Bool),Wn 4 u∧Wn 4 v∧(uy x y z→kC u v c∧PV u v c=JV x y z)∧au Tryz.prog 185 [.agg (cV x y z)] (fun r=>r=.agg (cP u v c)):=by
 obtain⟨i,A,Z,C⟩:=abS z hz;obtain⟨i2,q,g2,H⟩:=pn i A;obtain⟨X,K,M,N⟩:=iD x i2 B q;obtain⟨i3,Q,S,J⟩:=iD i2 i q A;obtain⟨Y,E,O,D⟩:=iD y i3 w Q;unfold W1 at C H;unfold W2 at N J D;have g:=A.1;have s:=q.1;have l:=K.1;have j:=E.1;have a:=B.1;have b:=w.1;have d:=hz.1;have z4:List.drop 4 (cI zI)=[]:=be rfl;have m:=eP a b d;have F:=dN a b d;have R:(cV x y z).take 4=cI x:=Ul a;have v2:=Um (z:=z) a b;have W:=PQ a b d;have I:=qm x y z B w hz;have zd:(cP zI zI false).drop 9=[]:=qk rfl rfl _;have P:(cP zI zI true).length=9:=rfl;have V:(cP zI zI true).take 9=cP zI zI true:=dH rfl rfl _;have aa:(cP zI zI false).length=9:=rfl;by_cases n:z=zI
 ·have p:uy x y z→kC zI zI true∧PV zI zI true=JV x y z:=by
   intro _;refine⟨yd,?_⟩;rw[n,PN];show none=sY fd _ _ (FV zI);rw[Cd];exact(ES fd _ _).symm
  refine⟨zI,zI,true,kR,kR,p,?_⟩;refine bF Tryz.func185 Tryz.ntmps185 (rs:=[.cell 2 189]) (gB _ _ _) ?_;simp[go_sem,m,F];refine ag I (gB _ _ _) ?_;simp[go_sem,n];refine ag kU aw ?_;simp[go_sem,P,V,ah];exact rL rfl
 ·have p:uy x y z→kC X Y false∧PV X Y false=JV x y z:=by
   intro L;have t:FV z≠0:=fun h=>n ((nW hz L.1.2.2).1 h);have e:PV X Y false=JV x y z:=by
    show some (FV X,FV Y)=sY fd (FV x) (FV y) (FV z);rw[sY,if_neg t,M.2,O.2,S.2,g2.2,Z.2]
   have U:kL (PV X Y false):=by rw[e];exact L.2
   exact⟨.inr ⟨rfl,M.1,O.1,U⟩,e⟩
  refine⟨X,Y,false,K,E,p,?_⟩;refine bF Tryz.func185 Tryz.ntmps185 (rs:=[.cell 2 189]) (gB _ _ _) ?_;simp[go_sem,m,F];refine ag I (gB _ _ _) ?_;simp[go_sem,n,W,m];refine ag C (aS _) ?_;simp[go_sem,g,ae g];refine ag H (aS _) ?_;simp[go_sem,s];refine cz [0,1,2,4,5,6,7] [(3,[]),(8,[]),(9,[10]),(11,[])] 3 (k:=12) ?_;intro G T;simp[go_sem,g,s,ae g,ae s,R,v2,m];refine ag N (aN _ _) ?_;simp[go_sem];refine ag J (aN _ _) ?_;simp[go_sem];refine ag D (aN _ _) ?_;have f:=cK l j false;have o:=dH l j false;have mp:=mkP l j;simp[go_sem,l,j,mp,f,dI];refine T _ _ ?_;simp[go_sem,f,o,ah];exact rL rfl
theorem YI(n:List Int)(k:Nat)(m:Wn 4 n)(p:k<256):∃b:Bool,(b=true↔(V n).toNat/2 ^ k%2=1)∧au Tryz.prog 184 [.agg (cI n),.d (.int .i64 (k:Int))] (fun r=>r=.d (.bool b)):=by
 have a:=m.1;have v:dq k=k/64:=rfl;have q:rq k=k%64:=rfl;have e:=ko (l:=n) (k:=dq k) aq;have j:IntKind.i64.wrap ((k:Int)/64)=(dq k:Int):=by rw[IntWalk.i64_in _ aq];omega
 have u:IntKind.i64.wrap ((k:Int).tdiv 64)=(dq k:Int):=j;have s:(k:Int)%64=(rq k:Int):=aq;have f:(k:Int).tmod 64=(rq k:Int):=s;have w:(dq k:Int)<4:=aq;have g:rq k<64:=aq;have c:min (rq k) 64=rq k:=aq;have i:=VV m p;have o:(!decide (Go.bits .and .u64 (Int.fdiv (gI n (dq k)) (2 ^ rq k)) 1=0))=true↔(V n).toNat/2 ^ k%2=1:=by
  rw[Bool.not_eq_true',decide_eq_false_iff_not];refine⟨fun h=>i.2 h,fun h t=>?_⟩;have:=i.1 t;omega
 refine⟨!decide (Go.bits .and .u64 (Int.fdiv (gI n (dq k)) (2 ^ rq k)) 1=0),o,?_⟩;refine bF Tryz.func184 Tryz.ntmps184 (rs:=[.tmp 4]) (I3 _ _) ?_;simp[go_sem,a,e,f,j,w,c,IntKind.bits,ah];exact aa a9 rfl
theorem Jd(x y:List Int)(b:Bool)(z:Wn 4 x)(s:Wn 4 y):∃o:Bool,(kC x y b→(o=true↔b=false∧V y%2=0))∧au Tryz.prog 127 [.agg (cP x y b)] (fun r=>r=.d (.bool o)):=by
 obtain⟨u,v,c,B,l,A,q⟩:=s8 x y b z s;have f:=z.1;have a:=s.1;have g:=B.1;have i:=l.1;have t:(cP x y b).drop 9=[]:=qk f a _;have D:(cP u v false)[4]?=some (.d (.int .u64 (gI v 0))):=by
  unfold cP;rw[dz (by rw[fF];omega),fF,g,List.getElem?_append_left (by rw[fF];omega),G1,ko aq];rfl
 have n:∀h,(cP u v false)[4]'h=.d (.int .u64 (gI v 0)):=fun h=>(ci.1 D).2;cases c
 ·have j:Go.bits .and .u64 (gI v 0) 1=0↔V v%2=0:=by
   have w:=dG (k:=0) l;rw[B5 _ w.1 w.2];obtain⟨E,G,F,H,e,_⟩:=kp l;rw[e,V4];show E%2=0↔_;omega
  have ev:kC x y b→(decide (Go.bits .and .u64 (gI v 0) 1=0)=true↔b=false∧V y%2=0):=by
   intro p;obtain⟨_,C,m⟩:=A.2.1 p;rw[decide_eq_true_iff,j,C];exact⟨fun h=>⟨m.symm,h⟩,fun h=>h.2⟩
  refine⟨decide (Go.bits .and .u64 (gI v 0) 1=0),ev,?_⟩;refine bF Tryz.func127 Tryz.ntmps127 (rs:=[.tmp 2]) (d5 _ _ _) ?_;simp[go_sem,cK f a,dH f a];refine ag q (d5 _ _ _) ?_;simp[go_sem,cK f a,cK g i,t,Hl g i,n,ah];exact aa a9 rfl
 ·have ev:kC x y b→(false=true↔b=false∧V y%2=0):=by
   intro p;obtain⟨_,_,m⟩:=A.2.1 p;rw[←m];exact⟨fun h=>Bool.noConfusion h,fun h=>Bool.noConfusion h.1⟩
  refine⟨false,ev,?_⟩;refine bF Tryz.func127 Tryz.ntmps127 (rs:=[.tmp 2]) (d5 _ _ _) ?_;simp[go_sem,cK f a,dH f a];refine ag q (d5 _ _ _) ?_;simp[go_sem,cK f a,cK g i,t,Hl g i,ah];exact aa a9 rfl
def gX:List Int:=[6481385041966929816,188021827762530521,6170039885052185351,8772561819708210092]
theorem abZ:Wn 4 gX:=⟨rfl,by intro y a;simp[gX]at a;rcases a with rfl|rfl|rfl|rfl<;>exact⟨aq,aq⟩⟩
def gY:List Int:=[11261198710074299576,18237243440184513561,6747795201694173352,5204712524664259685]
theorem ab0:Wn 4 gY:=⟨rfl,by intro y a;simp[gY]at a;rcases a with rfl|rfl|rfl|rfl<;>exact⟨aq,aq⟩⟩
def Uo:List Int:=[13822214165235122497,13451932020343611451,18446744073709551614,18446744073709551615]
theorem PU:Wn 4 Uo:=⟨rfl,by intro y a;simp[Uo]at a;rcases a with rfl|rfl|rfl|rfl<;>exact⟨aq,aq⟩⟩
theorem s9:au Tryz.prog 158 [] (fun r=>r=.agg (cI Uo)):=by
 refine bF Tryz.func158 Tryz.ntmps158 (rs:=[.cell 0 96]) a9 ?_;simp[go_sem,cI,ah];exact eC (a:=Uo) rfl
theorem Ce:kC gX gY false:=by
 have b:V gX=55066263022277343669578718895168534326250603453777594175500187360389116729240:=by simp[V,gX]
 have a:V gY=32670510020758816978083085130507043184471273380659243275938904335757337482424:=by simp[V,gY]
 refine .inr ⟨rfl,by rw[b];decide,by rw[a];decide,s5 ?_⟩;have c:(((7:F).val:Nat):Int)=7%pZ:=by
  show((7%pP:Nat):Int)=_;rw[Int.natCast_emod,iO];rfl
 rw[vC,K4,vC,vC,Int.natCast_emod,Int.natCast_mul,Int.natCast_emod,Int.natCast_add,Int.natCast_emod,Int.natCast_mul,Int.natCast_emod,Int.natCast_mul,eN,eN,c,iO,b,a];decide
theorem Cf:au Tryz.prog 126 [] (fun r=>r=.agg (cP gX gY false)):=by
 refine bF Tryz.func126 Tryz.ntmps126 (rs:=[.cell 0 189]) a9 ?_;simp[go_sem,cP,cI,ah];exact rL (x:=gX) (y:=gY) (b:=false) rfl
theorem wh:∀(l:List Nat),(∀x,x∈l→x<256)→∀a,l.foldl (fun a x=>a*256+x) a<(a+1)*256 ^ l.length
 |[],_,a=>by simp
 |x::r,h,a=>by
  have e:=wh r (fun y b=>h y (by simp[b])) (a*256+x);have f:=h x aw;rw[List.foldl_cons,List.length_cons,Nat.pow_succ];have d:(a*256+x+1)*256 ^ r.length≤((a+1)*256)*256 ^ r.length:=d_ _ aq;have c:(a+1)*256*256 ^ r.length=(a+1)*(256 ^ r.length*256):=by rw[Nat.mul_assoc,Nat.mul_comm 256]
  omega
theorem GB{l:List Nat}(h:∀x,x∈l→x<256)(a:l.length≤8):gh l<18446744073709551616:=by
 have c:=wh l h 0;have d:256 ^ l.length≤256 ^ 8:=Nat.pow_le_pow_right aq a;have b:(256:Nat) ^ 8=18446744073709551616:=by decide
 unfold gh;omega
theorem wj(a b:List Nat):gh (a++b)=gh a*256 ^ b.length+gh b:=by
 have d:∀(l:List Nat)(c:Nat),l.foldl (fun a x=>a*256+x) c=c*256 ^ l.length+l.foldl (fun a x=>a*256+x) 0:=by
  intro l
  induction l with
  |nil=>intro c;simp
  | cons x r ih =>
   intro c;rw[List.foldl_cons,List.foldl_cons,ih,ih (0*256+x),List.length_cons,Nat.pow_succ];have:(c*256+x)*256 ^ r.length=c*(256 ^ r.length*256)+(0*256+x)*256 ^ r.length:=by
    rw[Nat.add_mul,Nat.mul_assoc,Nat.mul_comm 256,Nat.zero_mul,Nat.zero_add]
   omega
 unfold gh;rw[List.foldl_append,d]
theorem YJ{b:List Nat}(h:b.length=32):V ((yN b 32).map fun(x:Nat)=>(x:Int))=(gh b:Int):=by
 have e:b=Go.Sha.part b 32 3++(Go.Sha.part b 32 2++(Go.Sha.part b 32 1++Go.Sha.part b 32 0)):=by
  unfold Go.Sha.part;have a:b.take 32=b:=cx aq;rw[a];have d:(b.drop (8*(3-0))).take 8=b.drop 24:=cx (by rw[e_];omega);have g:(b.drop (8*(3-1))).take 8++b.drop 24=b.drop 16:=by
   have:b.drop 24=(b.drop 16).drop 8:=by rw[List.drop_drop]
   rw[this];exact List.take_append_drop 8 _
  have f:(b.drop (8*(3-2))).take 8++b.drop 16=b.drop 8:=by
   have:b.drop 16=(b.drop 8).drop 8:=by rw[List.drop_drop]
   rw[this];exact List.take_append_drop 8 _
  rw[d,g,f];exact(List.take_append_drop 8 b).symm
 have c:∀j,j<4→(Go.Sha.part b 32 j).length=8:=by
  intro j i;unfold Go.Sha.part;rw[List.length_take,e_,List.length_take];omega
 have m:yN b 32=[gh (Go.Sha.part b 32 0),gh (Go.Sha.part b 32 1),gh (Go.Sha.part b 32 2),gh (Go.Sha.part b 32 3)]:=rfl;have k:gh b=((gh (Go.Sha.part b 32 3)*256 ^ 8+gh (Go.Sha.part b 32 2))*256 ^ 8+gh (Go.Sha.part b 32 1))*256 ^ 8+gh (Go.Sha.part b 32 0):=by
  conv=>lhs;rw[e]
  rw[←cD,←cD,wj,c 0 aq,wj,c 1 aq,wj,c 2 aq]
 rw[m,k];simp only[List.map_cons,List.map_nil,V4];generalize gh (Go.Sha.part b 32 0)=p0;generalize gh (Go.Sha.part b 32 1)=p1;generalize gh (Go.Sha.part b 32 2)=p2;generalize gh (Go.Sha.part b 32 3)=p3;omega
theorem yg(b:List Nat)(g:b.length=32)(c:bytes b):∃a:List Int,Wn 4 a∧V a=(gh b:Int)∧au Tryz.prog 164 [.agg (cb b)] (fun r=>r=.agg (cI a)):=by
 refine⟨(yN b 32).map fun(x:Nat)=>(x:Int),⟨by simp[yN],fun x d=>?_⟩,YJ g,?_⟩;rw[List.mem_map]at d;obtain⟨y,f,rfl⟩:=d;unfold yN at f;rw[List.mem_map]at f;obtain⟨j,_,rfl⟩:=f;have:=GB (l:=Go.Sha.part b 32 j) (fun x d=>c x (List.mem_of_mem_take (List.mem_of_mem_drop (List.mem_of_mem_take d)))) (by unfold Go.Sha.part;rw[List.length_take];omega);exact⟨Int.natCast_nonneg _,aq⟩;have e:cI ((yN b 32).map fun(x:Nat)=>(x:Int))=cW (yN b 32):=by unfold cI cW;rw[List.map_map];rfl
 rw[e];exact Tf b g c
theorem dc(b:List Nat):∀v,v∈[AV.agg (cb b)]→v.deep:=by
 intro v a;simp at a;subst a;exact dV _
theorem EW(b:List Nat)(f:b.length=32)(m:bytes b):∃(r:List Int)(i:Bool),Wn 4 r∧((gh b<115792089237316195423570985008687907852837564279074904382605163141518161494337→i=true∧V r=(gh b:Int))∧(¬gh b<115792089237316195423570985008687907852837564279074904382605163141518161494337→i=false∧r=zI))∧au Tryz.prog 178 [.agg (cb b)] (fun x=>x=.tup [.agg (cI r),.d (.bool i)]):=by
 obtain⟨a,l,q,n⟩:=yg b f m;obtain⟨c,g,o⟩:=Jb a Uo l PU;have s:V Uo=115792089237316195423570985008687907852837564279074904382605163141518161494337:=by simp[V,Uo]
 rw[s,q]at g;have e:=l.1;have u:List.drop 4 (cI zI)=[]:=be rfl;have t:List.drop 32 (cb b)=[]:=gK f;by_cases p:0≤c
 ·refine⟨zI,false,kR,⟨fun h=>absurd (g.2 aq) aq,fun _=>⟨rfl,rfl⟩⟩,?_⟩;refine bF Tryz.func178 Tryz.ntmps178 (rs:=[.cell 2 96,.tmp 3]) (dc b) ?_;simp[go_sem,ak,f,al f];refine ag n (dc _) ?_;simp[go_sem,e];refine cz [0] [(1,[]),(2,[3])] 2 (k:=4) ?_;intro G j;simp[go_sem,e,ae e];refine ag s9 aw ?_;simp[go_sem];refine ag o (aN _ _) ?_;simp[go_sem,dI];refine j _ _ ?_;simp[go_sem,p,ah];exact qi (a:=zI) rfl
 ·refine⟨a,true,l,⟨fun _=>⟨rfl,q⟩,fun h=>absurd (g.1 aq) aq⟩,?_⟩;refine bF Tryz.func178 Tryz.ntmps178 (rs:=[.cell 2 96,.tmp 3]) (dc b) ?_;simp[go_sem,ak,f,al f];refine ag n (dc _) ?_;simp[go_sem,e];refine cz [0] [(1,[]),(2,[3])] 2 (k:=4) ?_;intro G j;simp[go_sem,e,ae e];refine ag s9 aw ?_;simp[go_sem];refine ag o (aN _ _) ?_;simp[go_sem,dI];refine j _ _ ?_;simp[go_sem,p,e,ae e,ah];exact qi rfl
theorem Ci{Q:AV→Prop}{st:St}{x y:List Int}{c b:Bool}(hq:Q (.tup [.agg (cP x y c),.d (.bool b)])):dC Q (.tup [.agg (cP x y c),.d (.bool b)]) st :=
 aa (by
  intro c hc;simp at hc;rcases hc with rfl|rfl;exact .inr ⟨_,rfl,kT _ _ _⟩
  exact .inl trivial) hq
def nk(n:Nat):Int:=((n:Int)*n*n+7)%115792089237316195423570985008687907853269984665640564039457584007908834671663
def mz(n:Nat):Int:=nk n ^ 28948022309329048855892746252171976963317496166410141009864396001977208667916%115792089237316195423570985008687907853269984665640564039457584007908834671663
def rM(n:Nat):Prop:=(n:Int)<115792089237316195423570985008687907853269984665640564039457584007908834671663∧mz n*mz n%115792089237316195423570985008687907853269984665640564039457584007908834671663=nk n%115792089237316195423570985008687907853269984665640564039457584007908834671663
def PW(n:Nat)(x y:List Int)(c a:Bool):Prop :=
 (¬rM n∧a=false∧c=true∧x=zI∧y=zI)∨(rM n∧a=true∧c=false∧V x=n∧V y=if mz n%2=0 then mz n else(0-mz n)%115792089237316195423570985008687907853269984665640564039457584007908834671663)
theorem Up{r a:List Int}{n:Nat}(f:Wn 4 r)(d:V a=n)(b:V r<pZ∧FV r=FV a*FV a*FV a+7):V r=nk n:=by
 have e:=congrArg (fun x:F=>((x.val:Nat):Int)) b.2;simp only[eN]at e;have g:(((7:F).val:Nat):Int)=7%pZ:=by
  show((7%pP:Nat):Int)=_;rw[Int.natCast_emod,iO];rfl
 have c:=(lO f).1;rw[Int.emod_eq_of_lt c b.1]at e;rw[e,K4,vC,vC,Int.natCast_emod,Int.natCast_add,Int.natCast_emod,Int.natCast_mul,Int.natCast_emod,Int.natCast_mul,eN,g,iO,d];unfold nk;show _=((n:Int)*n*n+7)%pZ;rw[←Int.mul_emod (n:Int) n,←Int.mul_emod ((n:Int)*n) n,←Int.add_emod]
theorem EX(b:List Nat)(g:b.length=32)(v:bytes b):∃(x y:List Int)(c i:Bool),Wn 4 x∧Wn 4 y∧(PW (gh b) x y c i)∧au Tryz.prog 165 [.agg (cb b)] (fun r=>r=.tup [.agg (cP x y c),.d (.bool i)]):=by
 obtain⟨a,j,p,k⟩:=yg b g v;obtain⟨o,n,m⟩:=ye a j;obtain⟨r,D,E,u⟩:=EU a j;obtain⟨y,i,A,s,z,F,B⟩:=Pe r D;have t:V r=nk (gh b):=Up D p E;rw[p]at n;rw[t]at s z;unfold W1 at u;have e:=j.1;have f:=A.1;have J:List.drop 4 (cI zI)=[]:=be rfl;have I:List.drop 32 (cb b)=[]:=gK g;have H:(cP zI zI false).drop 9=[]:=qk rfl rfl _;have w:(cP zI zI true).length=9:=rfl;have C:(cP zI zI true).take 9=cP zI zI true:=dH rfl rfl _;have G:(cP zI zI false).length=9:=rfl;cases o
 ·refine⟨zI,zI,true,false,kR,kR,.inl ⟨fun h=>absurd (n.2 h.1) (by decide),rfl,rfl,rfl,rfl⟩,?_⟩;refine bF Tryz.func165 Tryz.ntmps165 (rs:=[.cell 2 189,.tmp 3]) (dc b) ?_;simp[go_sem,ak,g,al g];refine ag k (dc _) ?_;simp[go_sem,e,ae e];refine ag m (aS _) ?_;simp[go_sem];refine ag kU aw ?_;simp[go_sem,w,C,ah];exact Ci rfl
 ·cases i
  ·refine⟨zI,zI,true,false,kR,kR,.inl ⟨fun h=>absurd (s.2 h.2) (by decide),rfl,rfl,rfl,rfl⟩,?_⟩;refine bF Tryz.func165 Tryz.ntmps165 (rs:=[.cell 2 189,.tmp 3]) (dc b) ?_;simp[go_sem,ak,g,al g];refine ag k (dc _) ?_;simp[go_sem,e,ae e];refine ag m (aS _) ?_;simp[go_sem,e,ae e];refine ag u (aS _) ?_;simp[go_sem];refine ag B (aS _) ?_;simp[go_sem,f];refine ag kU aw ?_;simp[go_sem,w,C,ah];exact Ci rfl
  ·refine⟨a,y,false,true,j,A,.inr ⟨⟨n.1 rfl,s.1 rfl⟩,rfl,rfl,p,z rfl⟩,?_⟩;refine bF Tryz.func165 Tryz.ntmps165 (rs:=[.cell 2 189,.tmp 3]) (dc b) ?_;simp[go_sem,ak,g,al g];refine ag k (dc _) ?_;simp[go_sem,e,ae e];refine ag m (aS _) ?_;simp[go_sem,e,ae e];refine ag u (aS _) ?_;simp[go_sem];refine ag B (aS _) ?_;have mp:=mkP e f;have q:=cK e f false;have l:=dH e f false;simp[go_sem,e,f,ae e,ae f,mp,q,l,ah];exact Ci rfl
def d8(i:Nat):Nat:=i/8
def r8(i:Nat):Nat:=8*(i%8)
def YK(a:List Int)(k:Nat):Nat:=(IntKind.u8.wrap (Int.fdiv (gI a (d8 k)) (2 ^ r8 k))).toNat
def QY(a:List Int)(k:Nat)(l:List Nat):List Nat:=l.set (31-k) (YK a k)
theorem PX(a:List Int)(k:Nat):IntKind.u8.wrap (Int.fdiv (gI a (d8 k)) (2 ^ r8 k))=((YK a k:Nat):Int):=by
 unfold YK;have:IntKind.u8.wrap (Int.fdiv (gI a (d8 k)) (2 ^ r8 k))=(Int.fdiv (gI a (d8 k)) (2 ^ r8 k))%256:=by simp[IntKind.wrap,IntKind.bits,IntKind.signed]
 rw[this];omega
theorem YL(a:List Int)(k:Nat):YK a k<256:=by
 have h:=PX a k;have:IntKind.u8.wrap (Int.fdiv (gI a (d8 k)) (2 ^ r8 k))=(Int.fdiv (gI a (d8 k)) (2 ^ r8 k))%256:=by simp[IntKind.wrap,IntKind.bits,IntKind.signed]
 rw[this]at h;omega
theorem Hn(a:List Int):∀k,(ga (QY a) z32 k).length=32∧bytes (ga (QY a) z32 k) :=
 j5 (P:=fun _ l=>l.length=32∧bytes l) ⟨rfl,fun x b=>by simp[z32]at b;omega⟩ fun k l c=>by
  refine⟨by unfold QY;rw[List.length_set];exact c.1,fun x b=>?_⟩;rcases List.mem_or_eq_of_mem_set b with b|rfl;exact c.2 x b;exact YL _ _
theorem ab1{a:List Int}(g:Wn 4 a){k:Nat}(o:k<32):YK a k=(V a).toNat/256 ^ k%256:=by
 have l:=O7 g (j:=k/8) aq;have d:=PX a k;have f:IntKind.u8.wrap (Int.fdiv (gI a (d8 k)) (2 ^ r8 k))=(Int.fdiv (gI a (d8 k)) (2 ^ r8 k))%256:=by simp[IntKind.wrap,IntKind.bits,IntKind.signed]
 have i:d8 k=k/8:=rfl;have h:r8 k=8*(k%8):=rfl;rw[f,i,h,←l,Int.fdiv_eq_ediv_of_nonneg _ (Int.le_of_lt (Int.pow_pos aq))]at d;generalize(V a).toNat=N at *;have n:YK a k=N/2 ^ (64*(k/8))%2 ^ 64/2 ^ (8*(k%8))%256:=by
  have e:∀(z s:Nat),(((z/2 ^ s%256:Nat)):Int)=(z:Int)/2 ^ s%256:=fun z s=>by rw[Int.natCast_emod,Int.natCast_ediv,Int.natCast_pow];rfl
  exact(Int.ofNat_inj.1 ((e _ _).trans d)).symm
 rw[n];have c:(2:Nat) ^ 64=2 ^ (8*(k%8))*2 ^ (64-8*(k%8)):=by rw[←Nat.pow_add];congr 1;omega
 have m:(256:Nat)∣2 ^ (64-8*(k%8)):=⟨2 ^ (56-8*(k%8)),by rw[show(256:Nat)=2 ^ 8 from rfl,←Nat.pow_add];congr 1;omega⟩;have b:(256:Nat) ^ k=2 ^ (64*(k/8))*2 ^ (8*(k%8)):=by
  rw[show(256:Nat)=2 ^ 8 from rfl,←Nat.pow_mul,←Nat.pow_add];congr 1;omega
 rw[c,Nat.mod_mul_right_div_self,Nat.mod_mod_of_dvd _ m,Nat.div_div_eq_div_mul,←b]
def Ho(a:List Int):Nat→List Nat
 |0=>[]
 |k+1=>YK a k::Ho a k
theorem EY(a:List Int):∀k,(Ho a k).length=k
 |0=>rfl
 |k+1=>by rw[Ho,List.length_cons,EY a k]
theorem yh(x:Nat)(l:List Nat):gh (x::l)=x*256 ^ l.length+gh l:=by
 have:=wj [x] l;have e:gh [x]=x:=by simp[gh]
 rw[e]at this;exact this
theorem PY{a:List Int}(b:Wn 4 a):∀k,k≤32→gh (Ho a k)=(V a).toNat%256 ^ k
 |0,_=>by rw[Ho,Nat.pow_zero,Nat.mod_one];rfl
 |k+1,h=>by
  rw[Ho,yh,EY,PY b k aq,ab1 b aq,Nat.mod_pow_succ,Nat.mul_comm,Nat.add_comm]
theorem Je(a:List Int):∀k,k≤32→ga (QY a) z32 k=List.replicate (32-k) 0++Ho a k
 |0,_=>rfl
 |k+1,h=>by
  rw[ga,Je a k aq];unfold QY;have e:32-k=(31-k)+1:=aq;have b:32-(k+1)=31-k:=aq;rw[e,b,List.replicate_succ',cD,List.set_append_right _ _ aw,List.length_replicate,Nat.sub_self];rfl
theorem ab2{a:List Int}(b:Wn 4 a):gh (ga (QY a) z32 32)=(V a).toNat:=by
 rw[Je a 32 aq,Nat.sub_self,List.replicate_zero,List.nil_append,PY b 32 aq];have h:=lO b;exact Nat.mod_eq_of_lt (by
  have:(256:Nat) ^ 32=115792089237316195423570985008687907853269984665640564039457584007913129639936:=by decide
  omega)
theorem K6(a:List Int)(q:Wn 4 a):∃b:List Nat,b.length=32∧bytes b∧gh b=(V a).toNat∧au Tryz.prog 85 [.agg (cI a)] (fun r=>r=.agg (cb b)):=by
 refine⟨ga (QY a) z32 32,(Hn a 32).1,(Hn a 32).2,ab2 q,?_⟩;refine bF Tryz.func85 Tryz.ntmps85 (rs:=[.cell 2 29]) (aS a) ?_;have n:=q.1;simp[go_sem,n];generalize e:ga (QY a) z32=S at *;have s:=Hn a;rw[e]at s
 refine av (fun k:Nat=>⟨[(1,.ptr 0 0 0 1),(2,.ptr 32 0 0 1),(3,.ptr 64 0 0 1),(5,.d (.int .i64 (k:Int)))],[(64,⟨29,32,[cb (S k)]⟩),(32,⟨29,32,[cb z32]⟩),(0,⟨96,4,[cI a]⟩)],20000⟩)
  (fun k=>k≤32) (fun k=>32-k) 0 aq (by
   rw[←e];simp[az,ai,fv,lk,AV.low,AV.low1,ga]
   and_intros<;>first|rfl|exact cE _ _|exact aJ _ _) ?_
 intro k D;obtain⟨c,u⟩:=s k;have z:=ay (k:=k) aq;simp only[go_sem,Nat.reduceEqDiff,Nat.reduceAdd,Nat.reduceLT,↓reduceIte];by_cases o:k<32
 ·refine⟨fun h=>?_,fun h=>absurd (by exact_mod_cast o) h⟩;have i:S (k+1)=QY a k (S k):=by rw[←e];rfl
  have B:d8 k=k/8:=rfl;have w:r8 k=8*(k%8):=rfl;have g:=ko (l:=a) (k:=d8 k) aq;have t:IntKind.i64.wrap ((k:Int)/8)=(d8 k:Int):=by rw[IntWalk.i64_in _ aq];omega
  have A:IntKind.i64.wrap ((k:Int).tdiv 8)=(d8 k:Int):=t;have x:IntKind.i64.wrap (8*((k:Int)%8))=(r8 k:Int):=by rw[IntWalk.i64_in _ aq];omega
  have j:IntKind.i64.wrap (8*((k:Int).tmod 8))=(r8 k:Int):=x;have v:IntKind.i64.wrap (31-(k:Int))=((31-k:Nat):Int):=by rw[IntWalk.i64_in _ aq];omega
  have C:(d8 k:Int)<4:=aq;have p:r8 k<64:=aq;have f:min (r8 k) 64=r8 k:=aq;have i3:((31-k:Nat):Int)<32:=aq;have y:31-k<32:=aq;simp[go_sem,g,j,t,v,C,i3,y,f,IntKind.bits,PX,Gj,ak,c,z];refine am (k+1) aq aq ?_;rw[i];simp[az,ai,fv,lk,AV.low,AV.low1,QY];and_intros<;>first|rfl|exact cE _ _|exact aJ _ _
 ·refine⟨fun h=>absurd (by exact_mod_cast h) o,fun h=>?_⟩;have m:k=32:=aq;subst m;simp[go_sem,ak,c,al c,gK (l:=z32) rfl];exact aa (dV _) rfl
theorem YM{Q:AV→Prop}{st:St}{b:List Nat}(hq:Q (.agg (cb b))):dC Q (.agg (cb b)) st:=aa (dV _) hq
theorem Ag(x y:List Int)(c:Bool)(k:Wn 4 x)(j:Wn 4 y):∃b:List Nat,b.length=32∧bytes b∧(kC x y c→gh b=(V x).toNat)∧au Tryz.prog 129 [.agg (cP x y c)] (fun r=>r=.agg (cb b)):=by
 obtain⟨u,v,d,g,n,t,l⟩:=s8 x y c k j;obtain⟨b,i,f,p,o⟩:=K6 u g;refine⟨b,i,f,fun h=>by rw[p,(t.2.1 h).1],?_⟩;refine bF Tryz.func129 Tryz.ntmps129 (rs:=[.cell 2 29]) (d5 _ _ _) ?_;have e:=k.1;have a:=j.1;have m:=cK g.1 n.1 d;have q:=YF (y:=v) g.1 d;have s:List.drop 32 (cb z32)=[]:=gK rfl;simp[go_sem,cK e a,dH e a];refine ag l (d5 _ _ _) ?_;simp[go_sem,m,q];refine ag o (aS _) ?_;simp[go_sem,ak,i,al i,s,ah];exact YM rfl
def jnV(a b:List Nat):Nat→AV
 |0=>.nil
 |1=>.own 1192 0 a.length a.length
 |_=>.own 1192 0 (a++b).length (a++b).length
def jnH(a b:List Nat):Nat→Hp
 |0=>[]
 |1=>[(1192,⟨5,1,rb a⟩)]
 |_=>[(1192,⟨5,1,rb (a++b)⟩)]
def Ur:Nat→Nat
 |0=>1000
 |_=>2000
theorem K7(a b:List Nat)(l:a.length=32)(j:b.length≤1000000):au Tryz.prog 89 [.d (.ro 1 [[nb a],[nb b]])] (fun r=>r=.d (nb (a++b))):=by
 refine bF Tryz.func89 Tryz.ntmps89 (rs:=[.tmp 2]) a9 ?_;simp[go_sem]
 refine av (fun k:Nat=>⟨[(3,jnV a b k),(6,.d (.ro 1 [[nb a],[nb b]])),(7,.d (.int .i64 2)),(8,.d (.int .i64 (k:Int)))],jnH a b k,Ur k⟩)
  (fun k=>k≤2) (fun k=>2-k) 0 aq (by simp[az,ai,fv,lk,AV.low,AV.low1,jnV,jnH,Ur]) ?_
 intro k f;simp only[go_sem,Nat.reduceEqDiff,Nat.reduceLT,↓reduceIte]
 match k,f with
 |0,_ =>
  refine⟨fun _=>?_,fun h=>absurd (by decide) h⟩;simp[go_sem,jnV,jnH,Ur,nb,dk];refine⟨by rw[aH];omega,?_⟩;have e:IntKind.i64.wrap 1=1:=by decide
  refine am 1 aq aq ?_;simp[az,ai,fv,lk,AV.low,AV.low1,aH,e];exact aU _ _
 |1,_ =>
  refine⟨fun _=>?_,fun h=>absurd (by decide) h⟩;simp[go_sem,jnV,jnH,Ur,nb,dk,aH];refine⟨aq,?_⟩;have e:IntKind.i64.wrap 2=2:=by decide
  have i:rb (a++b)=rb a++rb b:=by simp[rb]
  refine am 2 aq aq ?_;simp[az,ai,fv,lk,AV.low,AV.low1,e,i];intro r g;exact g.elim (aU _ _ r) (aU _ _ r)
 |2,_ =>
  refine⟨fun h=>absurd h (by decide),fun _=>?_⟩;simp[go_sem,jnV,jnH];have c:a.length+b.length=(a++b).length:=by rw[b_]
  rw[c];exact jM rfl (by simp[nb])
theorem ab5(x y:List Int):JV x y zI=none:=by
 show sY fd _ _ (FV zI)=none;rw[Cd];exact ES fd _ _
theorem rN(x y z b c z':List Int):∀v,v∈[AV.agg (cV x y z),AV.agg (cV b c z')]→v.deep:=by
 intro v a;simp at a;rcases a with rfl|rfl;exact we _ _ _;exact we _ _ _
theorem Jf (x y z c f z':List Int) (hx:Wn 4 x) (hy:Wn 4 y) (hz:Wn 4 z) (V:Wn 4 c) (Q:Wn 4 f) (t:Wn 4 z'):∃ (u v w:List Int),Wn 4 u∧Wn 4 v∧Wn 4 w∧(uy x y z→uy c f z'→uy u v w∧JV u v w=sum fd (JV x y z) (JV c f z'))∧au Tryz.prog 181 [.agg (cV x y z),.agg (cV c f z')] (fun r=>r=.agg (cV u v w)):=by
 obtain⟨C,h1,g1,f1⟩:=pn z hz;obtain⟨E,h2,g2,f2⟩:=pn z' t;obtain⟨H,h4,g4,f4⟩:=iD x E hx h2;obtain⟨u2,h5,g5,f5⟩:=iD c C V h1;obtain⟨bj,h6,g6,f6⟩:=iD E z' h2 t;obtain⟨P,h7,g7,f7⟩:=iD y bj hy h6;obtain⟨bp,h8,g8,f8⟩:=iD C z h1 hz;obtain⟨s2,h9,g9,f9⟩:=iD f bp Q h8;obtain⟨h,I,av,aG⟩:=s6 u2 H h5 h4;obtain⟨r,W,aW,aF⟩:=s6 s2 P h9 h7;obtain⟨hh,ao,aj,bc⟩:=pn h I;obtain⟨h3,am,aK,aP⟩:=iD hh h ao I;obtain⟨v,an,a8,aZ⟩:=iD H hh h4 ao;obtain⟨rr,a4,bl,ax⟩:=pn r W;obtain⟨d1,aD,bv,aA⟩:=s6 rr h3 a4 am;obtain⟨w2,aT,bB,bo⟩:=nj 2 v ⟨aq,aq⟩ an;obtain⟨X,ap,aJ,aY⟩:=s6 d1 w2 aD aT;obtain⟨e1,a0,bh,ar⟩:=s6 v X an ap;obtain⟨e2,a',bi,aC⟩:=iD r e1 W a0;obtain⟨e3,a3,bn,a1⟩:=iD P h3 h7 am;obtain⟨Y,aB,aX,a2⟩:=s6 e2 e3 a' a3;obtain⟨zz,bb,bk,aE⟩:=iD z z' hz t;obtain⟨Z,aI,aO,aR⟩:=iD h zz I bb;obtain⟨wu,wv,ww,aM,az,aV,bg,bA⟩:=po zI zI true kR kR;obtain⟨du,dv,dw,aH,ba,ay,br,bu⟩:=yf x y z hx hy hz;unfold W1 at f1 f2 bc ax;unfold W2 at f4 f5 f6 f7 f8 f9 aG aF aP aZ aA aY a2 ar aC aR a1 aE;have l1:=h1.1;have l2:=h2.1;have l4:=h4.1;have l5:=h5.1;have l6:=h6.1;have l7:=h7.1;have l8:=h8.1;have l9:=h9.1;have j:=I.1;have i:=W.1;have S:=ao.1;have N:=am.1;have M:=an.1;have bK:=a4.1;have bE:=aD.1;have n:=ap.1;have q:=aB.1;have bH:=aT.1;have bC:=a0.1;have bM:=a'.1;have ai:=aI.1;have bI:=a3.1;have bJ:=bb.1;have a6:=aM.1;have a7:=az.1;have aL:=aV.1;have aU:=aH.1;have aQ:=ba.1;have a5:=ay.1;have L:=hx.1;have R:=hy.1;have af:=hz.1;have s:=V.1;have B:=Q.1;have J:=t.1;have z4:List.drop 4 (cI zI)=[]:=be rfl;have U:=eP L R af;have vt:=dN L R af;have v1:(cV x y z).take 4=cI x:=Ul L;have v2:=Um (z:=z) L R;have v3:=PQ L R af;have m:=eP s B J;have ad:=dN s B J;have bq:(cV c f z').take 4=cI c:=Ul s;have bs:=Um (z:=z') s B;have ak:=PQ s B J;have iz:cy .u64 [AV.d (.int .u64 0),AV.d (.int .u64 0),AV.d (.int .u64 0),AV.d (.int .u64 0)]=some zI:=jD zI;have f0:=qm x y z hx hy hz;have bd:=qm c f z' V Q t;have wd:(cV zI zI zI).drop 12=[]:=my rfl rfl rfl;have wl:(cV zI zI zI).length=12:=rfl;have ul:=eP a6 a7 aL;have ut:=dN a6 a7 aL;have bf:=eP aU aQ a5;have bw:=dN aU aQ a5;by_cases K:z=zI
 ·have vv:uy x y z→uy c f z'→uy c f z'∧JV c f z'=sum fd (JV x y z) (JV c f z'):=by
   intro _ g;refine⟨g,?_⟩;rw[K,ab5,iC fd g.2]
  refine⟨c,f,z',V,Q,t,vv,?_⟩;refine bF Tryz.func181 Tryz.ntmps181 (rs:=[.cell 4 243]) (rN _ _ _ _ _ _) ?_;simp[go_sem,U,vt,m];refine ag f0 (gB _ _ _) ?_;simp[go_sem,K,m,ad,ah];exact mL rfl
 by_cases O:z'=zI
 ·have vv:uy x y z→uy c f z'→uy x y z∧JV x y z=sum fd (JV x y z) (JV c f z'):=by
   intro F _;refine⟨F,?_⟩;rw[O,ab5,lQ fd F.2]
  refine⟨x,y,z,hx,hy,hz,vv,?_⟩;refine bF Tryz.func181 Tryz.ntmps181 (rs:=[.cell 4 243]) (rN _ _ _ _ _ _) ?_;simp[go_sem,U,vt,m];refine ag f0 (gB _ _ _) ?_;simp[go_sem,K,m,ad];refine ag bd (gB _ _ _) ?_;simp[go_sem,O,U,vt,ah];exact mL rfl
 have ab:uy x y z→uy c f z'→(FV h≠0→JV X Y Z=sum fd (JV x y z) (JV c f z'))∧(FV h=0→FV r=0→JV x y z=JV c f z')∧(FV h=0→FV r≠0→sum fd (JV x y z) (JV c f z')=none):=by
  intro F g;have bz:FV z≠0:=fun h=>K ((nW hz F.1.2.2).1 h);have a9:FV z'≠0:=fun h=>O ((nW t g.1.2.2).1 h);have k1:FV H=FV x*(FV z'*FV z'):=by rw[g4.2,g2.2]
  have k2:FV u2=FV c*(FV z*FV z):=by rw[g5.2,g1.2]
  have k3:FV P=FV y*(FV z'*FV z'*FV z'):=by rw[g7.2,g6.2,g2.2]
  have k4:FV s2=FV f*(FV z*FV z*FV z):=by rw[g9.2,g8.2,g1.2]
  obtain⟨j1,j2,j3⟩:=PE fd bz a9 F.2 g.2 k1 k2 k3 k4 av.2 aW.2;refine⟨fun bm=>?_,j2,j3⟩;have n2:FV [2,0,0,0]=2:=Hk 2 aq;have eX:FV X=FV r*FV r-FV h*FV h*FV h-2*(FV H*(FV h*FV h)):=by
   rw[aJ.2,bv.2,bl.2,aK.2,aj.2,bB.2,a8.2,aj.2,n2]
  have eY:FV Y=FV r*(FV H*(FV h*FV h)-(FV r*FV r-FV h*FV h*FV h-2*(FV H*(FV h*FV h))))-FV P*(FV h*FV h*FV h):=by
   rw[aX.2,bi.2,bh.2,eX,bn.2,a8.2,aK.2,aj.2]
  have eZ:FV Z=FV h*(FV z*FV z'):=by rw[aO.2,bk.2]
  show sY fd (FV X) (FV Y) (FV Z)=_;rw[eX,eY,eZ];exact j1 bm
 obtain⟨Ua,Va,Wa,hU,hV,p,vv,e1,e2,e3⟩:∃(Ua Va Wa:List Int),Wn 4 Ua∧Wn 4 Va∧Wn 4 Wa∧(uy x y z→uy c f z'→uy Ua Va Wa∧JV Ua Va Wa=sum fd (JV x y z) (JV c f z'))∧(h=zI→r=zI→(du=Ua∧dv=Va∧dw=Wa))∧(h=zI→r≠zI→(wu=Ua∧wv=Va∧ww=Wa))∧(h≠zI→(X=Ua∧Y=Va∧Z=Wa)):=by
  have fz:∀{l:List Int},l=zI→FV l=0:=fun h=>by rw[h,Cd]
  by_cases o:h=zI;by_cases A:r=zI;refine⟨du,dv,dw,aH,ba,ay,fun F g=>?_,fun _ _=>⟨rfl,rfl,rfl⟩,fun _ h=>absurd A h,fun h=>absurd o h⟩;obtain⟨m1,m2⟩:=br F;refine⟨m1,?_⟩;rw[m2,←(ab F g).2.1 (fz o) (fz A)];refine⟨wu,wv,ww,aM,az,aV,fun F g=>?_,fun _ h=>absurd h A,fun _ _=>⟨rfl,rfl,rfl⟩,fun h=>absurd o h⟩;obtain⟨m1,m2⟩:=bg yd;refine⟨m1,?_⟩;rw[m2,PN,(ab F g).2.2 (fz o) (fun h=>A ((nW W aW.1).1 h))];refine⟨X,Y,Z,ap,aB,aI,fun F g=>?_,fun h=>absurd h o,fun h=>absurd h o,fun _=>⟨rfl,rfl,rfl⟩⟩;have e:=(ab F g).1 (fun h=>o ((nW I av.1).1 h));exact⟨⟨⟨aJ.1,aX.1,aO.1⟩,by rw[e];exact rK fd F.2 g.2⟩,e⟩
 refine⟨Ua,Va,Wa,hU,hV,p,vv,?_⟩;refine bF Tryz.func181 Tryz.ntmps181 (rs:=[.cell 4 243]) (rN _ _ _ _ _ _) ?_;simp[go_sem,U,vt,m];refine ag f0 (gB _ _ _) ?_;simp[go_sem,K,m,ad];refine ag bd (gB _ _ _) ?_;simp[go_sem,O];refine dE [0,1,3,4] [2,5,6,7,8,9] [0,1,3,4] (.alt (bt 2 (.alt (bx 5 (.alt (a_ [6,7,8,9]) (a_ [7,6,8,9]))) (.alt (bt 6 (.alt (a_ [5,7,8,9]) (bt 7 (a_ [5,8,9])))) (bt 7 (.alt (a_ [5,6,8,9]) (bt 6 (a_ [5,8,9]))))))) (.alt (bt 6 (.alt (bt 2 (.alt (a_ [5,7,8,9]) (bt 7 (a_ [5,8,9])))) (bt 7 (bt 2 (a_ [5,8,9]))))) (bt 7 (.alt (bt 2 (.alt (a_ [5,6,8,9]) (bt 6 (a_ [5,8,9])))) (bt 6 (bt 2 (a_ [5,8,9]))))))) ⟨[(2,.ptr 0 0 0 1),(3,.ptr 32 0 0 1),(4,.ptr 64 0 0 1),(5,.ptr 480 0 0 1),(6,.ptr 512 0 0 1)],[(512,⟨96,4,[cI E]⟩),(480,⟨96,4,[cI C]⟩),(64,⟨243,12,[cV zI zI zI]⟩),(32,⟨243,12,[cV c f z']⟩),(0,⟨243,12,[cV x y z]⟩)],9000⟩ (k:=10) ?h3 ?hq
 case h3 =>
  intro G D;have p:∀(b:Fr)(a:Hp),(fv 2 b=.ptr 0 0 0 1∧fv 3 b=.ptr 32 0 0 1∧fv 4 b=.ptr 64 0 0 1∧fv 5 b=.ptr 480 0 0 1∧fv 6 b=.ptr 512 0 0 1∧lk 512 a=some ⟨96,4,[cI E]⟩∧lk 480 a=some ⟨96,4,[cI C]⟩∧lk 64 a=some ⟨243,12,[cV zI zI zI]⟩∧lk 32 a=some ⟨243,12,[cV c f z']⟩∧lk 0 a=some ⟨243,12,[cV x y z]⟩)→G b a:=by
   rintro b a⟨q0,K,O,o,A,q5,q6,q7,q8,q9⟩;exact D _ _ qC
  simp[go_sem,v3,ak,U,m,dI]
  repeat' first|exact p _ _ ⟨rfl,rfl,rfl,rfl,rfl,rfl,rfl,rfl,rfl,rfl⟩|(refine p _ _ ?_;simp[fv];done)|refine ag f1 (aS _) ?_|refine ag f2 (aS _) ?_|apply And.intro|simp[go_sem,l1,l2,dI]
 case hq =>
  simp[go_sem];refine dE [0,1,2,4,5,6] [3,7,8,9,10,11] [0,1,2,4,5,6] (.alt (bt 3 (.alt (bx 7 (.alt (a_ [8,9,10,11]) (a_ [9,8,10,11]))) (.alt (bt 8 (.alt (a_ [7,9,10,11]) (bt 9 (a_ [7,10,11])))) (bt 9 (.alt (a_ [7,8,10,11]) (bt 8 (a_ [7,10,11]))))))) (.alt (bt 8 (.alt (bt 3 (.alt (a_ [7,9,10,11]) (bt 9 (a_ [7,10,11])))) (bt 9 (bt 3 (a_ [7,10,11]))))) (bt 9 (.alt (bt 3 (.alt (a_ [7,8,10,11]) (bt 8 (a_ [7,10,11])))) (bt 8 (bt 3 (a_ [7,10,11]))))))) ⟨[(2,.ptr 0 0 0 1),(3,.ptr 32 0 0 1),(4,.ptr 64 0 0 1),(5,.ptr 480 0 0 1),(6,.ptr 512 0 0 1),(7,.ptr 9256 0 0 1),(8,.ptr 9288 0 0 1)],[(9288,⟨96,4,[cI u2]⟩),(9256,⟨96,4,[cI H]⟩),(512,⟨96,4,[cI E]⟩),(480,⟨96,4,[cI C]⟩),(64,⟨243,12,[cV zI zI zI]⟩),(32,⟨243,12,[cV c f z']⟩),(0,⟨243,12,[cV x y z]⟩)],20000⟩ (k:=12) ?h3 ?hq
  case h3 =>
   intro G D;have p:∀(b:Fr)(a:Hp),(fv 2 b=.ptr 0 0 0 1∧fv 3 b=.ptr 32 0 0 1∧fv 4 b=.ptr 64 0 0 1∧fv 5 b=.ptr 480 0 0 1∧fv 6 b=.ptr 512 0 0 1∧fv 7 b=.ptr 9256 0 0 1∧fv 8 b=.ptr 9288 0 0 1∧lk 9288 a=some ⟨96,4,[cI u2]⟩∧lk 9256 a=some ⟨96,4,[cI H]⟩∧lk 512 a=some ⟨96,4,[cI E]⟩∧lk 480 a=some ⟨96,4,[cI C]⟩∧lk 64 a=some ⟨243,12,[cV zI zI zI]⟩∧lk 32 a=some ⟨243,12,[cV c f z']⟩∧lk 0 a=some ⟨243,12,[cV x y z]⟩)→G b a:=by
    rintro b a⟨q0,K,O,o,A,q5,q6,q7,q8,q9,aa,T,ac,al⟩;exact D _ _ qC
   simp[go_sem,l1,l2,ae l1,ae l2,v1,bq,U,m,dI]
   repeat' first|exact p _ _ ⟨rfl,rfl,rfl,rfl,rfl,rfl,rfl,rfl,rfl,rfl,rfl,rfl,rfl,rfl⟩|(refine p _ _ ?_;simp[fv];done)|refine ag f4 (aN _ _) ?_|refine ag f5 (aN _ _) ?_|apply And.intro|simp[go_sem,l4,l5,dI]
  case hq =>
   simp[go_sem];refine dE [0,1,2,3,4,7,8,9,10,11] [5,6,12,13,14,15,16,17] [0,1,2,3,4,7,8,9,10,11] (.alt (bt 5 (.alt (bt 6 (.alt (bt 12 (.alt (bx 13 (.alt (a_ [14,15,16,17]) (a_ [15,14,16,17]))) (.alt (bt 14 (.alt (a_ [13,15,16,17]) (bt 15 (a_ [13,16,17])))) (bt 15 (.alt (a_ [13,14,16,17]) (bt 14 (a_ [13,16,17]))))))) (.alt (bt 14 (.alt (bt 12 (.alt (a_ [13,15,16,17]) (bt 15 (a_ [13,16,17])))) (bt 15 (bt 12 (a_ [13,16,17]))))) (bt 15 (.alt (bt 12 (.alt (a_ [13,14,16,17]) (bt 14 (a_ [13,16,17])))) (bt 14 (bt 12 (a_ [13,16,17])))))))) (.alt (bt 14 (.alt (bt 6 (.alt (bt 12 (.alt (a_ [13,15,16,17]) (bt 15 (a_ [13,16,17])))) (bt 15 (bt 12 (a_ [13,16,17]))))) (bt 15 (bt 6 (bt 12 (a_ [13,16,17])))))) (bt 15 (.alt (bt 6 (.alt (bt 12 (.alt (a_ [13,14,16,17]) (bt 14 (a_ [13,16,17])))) (bt 14 (bt 12 (a_ [13,16,17]))))) (bt 14 (bt 6 (bt 12 (a_ [13,16,17]))))))))) (.alt (bt 14 (.alt (bt 5 (.alt (bt 6 (.alt (bt 12 (.alt (a_ [13,15,16,17]) (bt 15 (a_ [13,16,17])))) (bt 15 (bt 12 (a_ [13,16,17]))))) (bt 15 (bt 6 (bt 12 (a_ [13,16,17])))))) (bt 15 (bt 5 (bt 6 (bt 12 (a_ [13,16,17]))))))) (bt 15 (.alt (bt 5 (.alt (bt 6 (.alt (bt 12 (.alt (a_ [13,14,16,17]) (bt 14 (a_ [13,16,17])))) (bt 14 (bt 12 (a_ [13,16,17]))))) (bt 14 (bt 6 (bt 12 (a_ [13,16,17])))))) (bt 14 (bt 5 (bt 6 (bt 12 (a_ [13,16,17]))))))))) ⟨[(2,.ptr 0 0 0 1),(3,.ptr 32 0 0 1),(4,.ptr 64 0 0 1),(7,.ptr 9256 0 0 1),(8,.ptr 9288 0 0 1),(9,.ptr 20448 0 0 1),(10,.ptr 20480 0 0 1)],[(20480,⟨96,4,[cI s2]⟩),(20448,⟨96,4,[cI P]⟩),(9288,⟨96,4,[cI u2]⟩),(9256,⟨96,4,[cI H]⟩),(64,⟨243,12,[cV zI zI zI]⟩),(32,⟨243,12,[cV c f z']⟩),(0,⟨243,12,[cV x y z]⟩)],30000⟩ (k:=18) ?h3 ?hq
   case h3 =>
    intro G D;have p:∀(b:Fr)(a:Hp),(fv 2 b=.ptr 0 0 0 1∧fv 3 b=.ptr 32 0 0 1∧fv 4 b=.ptr 64 0 0 1∧fv 7 b=.ptr 9256 0 0 1∧fv 8 b=.ptr 9288 0 0 1∧fv 9 b=.ptr 20448 0 0 1∧fv 10 b=.ptr 20480 0 0 1∧lk 20480 a=some ⟨96,4,[cI s2]⟩∧lk 20448 a=some ⟨96,4,[cI P]⟩∧lk 9288 a=some ⟨96,4,[cI u2]⟩∧lk 9256 a=some ⟨96,4,[cI H]⟩∧lk 64 a=some ⟨243,12,[cV zI zI zI]⟩∧lk 32 a=some ⟨243,12,[cV c f z']⟩∧lk 0 a=some ⟨243,12,[cV x y z]⟩)→G b a:=by
     rintro b a⟨q0,K,O,o,A,q5,q6,q7,q8,q9,aa,T,ac,al⟩;exact D _ _ qC
    simp[go_sem,l1,l2,ae l1,ae l2,v2,bs,v3,ak,U,m,dI]
    repeat' first|exact p _ _ ⟨rfl,rfl,rfl,rfl,rfl,rfl,rfl,rfl,rfl,rfl,rfl,rfl,rfl,rfl⟩|(refine p _ _ ?_;simp[fv];done)|refine ag f6 (aN _ _) ?_|refine ag f7 (aN _ _) ?_|refine ag f8 (aN _ _) ?_|refine ag f9 (aN _ _) ?_|apply And.intro|simp[go_sem,l7,l9,dI]
   case hq =>
    simp[go_sem];refine dE [0,1,3,4] [2,5,6,7,8,9] [0,1,3,4] (.alt (bt 2 (.alt (bx 5 (.alt (a_ [6,7,8,9]) (a_ [7,6,8,9]))) (.alt (bt 6 (.alt (a_ [5,7,8,9]) (bt 7 (a_ [5,8,9])))) (bt 7 (.alt (a_ [5,6,8,9]) (bt 6 (a_ [5,8,9]))))))) (.alt (bt 6 (.alt (bt 2 (.alt (a_ [5,7,8,9]) (bt 7 (a_ [5,8,9])))) (bt 7 (bt 2 (a_ [5,8,9]))))) (bt 7 (.alt (bt 2 (.alt (a_ [5,6,8,9]) (bt 6 (a_ [5,8,9])))) (bt 6 (bt 2 (a_ [5,8,9]))))))) ⟨[(2,.ptr 0 0 0 1),(3,.ptr 32 0 0 1),(4,.ptr 64 0 0 1),(7,.ptr 9256 0 0 1),(9,.ptr 20448 0 0 1),(11,.ptr 30192 0 0 1),(12,.ptr 30224 0 0 1)],[(30224,⟨96,4,[cI r]⟩),(30192,⟨96,4,[cI h]⟩),(20448,⟨96,4,[cI P]⟩),(9256,⟨96,4,[cI H]⟩),(64,⟨243,12,[cV zI zI zI]⟩),(32,⟨243,12,[cV c f z']⟩),(0,⟨243,12,[cV x y z]⟩)],40000⟩ (k:=10) ?h3 ?hq
    case h3 =>
     intro G D;have p:∀(b:Fr)(a:Hp),(fv 2 b=.ptr 0 0 0 1∧fv 3 b=.ptr 32 0 0 1∧fv 4 b=.ptr 64 0 0 1∧fv 7 b=.ptr 9256 0 0 1∧fv 9 b=.ptr 20448 0 0 1∧fv 11 b=.ptr 30192 0 0 1∧fv 12 b=.ptr 30224 0 0 1∧lk 30224 a=some ⟨96,4,[cI r]⟩∧lk 30192 a=some ⟨96,4,[cI h]⟩∧lk 20448 a=some ⟨96,4,[cI P]⟩∧lk 9256 a=some ⟨96,4,[cI H]⟩∧lk 64 a=some ⟨243,12,[cV zI zI zI]⟩∧lk 32 a=some ⟨243,12,[cV c f z']⟩∧lk 0 a=some ⟨243,12,[cV x y z]⟩)→G b a:=by
      rintro b a⟨q0,K,O,o,A,q5,q6,q7,q8,q9,aa,T,ac,al⟩;exact D _ _ qC
     simp[go_sem,l4,l5,l7,l9,ae l4,ae l5,ae l7,ae l9,dI]
     repeat' first|exact p _ _ ⟨rfl,rfl,rfl,rfl,rfl,rfl,rfl,rfl,rfl,rfl,rfl,rfl,rfl,rfl⟩|(refine p _ _ ?_;simp[fv];done)|refine ag aG (aN _ _) ?_|refine ag aF (aN _ _) ?_|apply And.intro|simp[go_sem,j,i,dI]
    case hq =>
     by_cases o:h=zI
     ·by_cases A:r=zI
      ·obtain⟨rfl,rfl,rfl⟩:=e1 o A;simp[go_sem,j,i,jD,iz,ae j,ae i];refine⟨fun _=>⟨fun _=>?_,fun h=>absurd A h⟩,fun h=>absurd o h⟩;simp[go_sem,U,vt];refine ag bu (gB _ _ _) ?_;simp[go_sem,bf,bw,wd,wl,ah];exact mL rfl
      ·obtain⟨rfl,rfl,rfl⟩:=e2 o A;simp[go_sem,j,i,jD,iz,ae j,ae i];refine⟨fun _=>⟨fun h=>absurd h A,fun _=>?_⟩,fun h=>absurd o h⟩;refine ag kU aw ?_;simp[go_sem];refine ag bA (d5 _ _ _) ?_;simp[go_sem,ul,ut,wd,wl,ah];exact mL rfl
     obtain⟨rfl,rfl,rfl⟩:=e3 o;simp[go_sem,j,i,jD,iz,ae j,ae i];refine⟨fun h=>absurd h o,fun _=>?_⟩;refine ag bc (aS _) ?_;simp[go_sem,j,S,ae j,ae S];refine ag aP (aN _ _) ?_;simp[go_sem,l4,S,N,ae l4,ae S];refine ag aZ (aN _ _) ?_;simp[go_sem,M];refine dE [0,2,4] [1,3,5,6,7,8] [0,2,4] (.alt (bt 1 (.alt (bt 3 (.alt (bx 5 (.alt (a_ [6,7,8]) (a_ [7,6,8]))) (bt 7 (a_ [5,6,8])))) (bt 7 (bt 3 (a_ [5,6,8]))))) (bt 7 (bt 1 (bt 3 (a_ [5,6,8]))))) ⟨[(2,.ptr 0 0 0 1),(3,.ptr 32 0 0 1),(4,.ptr 64 0 0 1),(9,.ptr 20448 0 0 1),(11,.ptr 30192 0 0 1),(12,.ptr 30224 0 0 1),(14,.ptr 40320 0 0 1),(15,.ptr 40480 0 0 1),(16,.ptr 40768 0 0 1)],[(40768,⟨96,4,[cI X]⟩),(40480,⟨96,4,[cI v]⟩),(40320,⟨96,4,[cI h3]⟩),(30224,⟨96,4,[cI r]⟩),(30192,⟨96,4,[cI h]⟩),(20448,⟨96,4,[cI P]⟩),(64,⟨243,12,[cV zI zI zI]⟩),(32,⟨243,12,[cV c f z']⟩),(0,⟨243,12,[cV x y z]⟩)],50000⟩ (k:=9) ?h3 ?hq
     case h3 =>
      intro G D;have p:∀(b:Fr)(a:Hp),(fv 2 b=.ptr 0 0 0 1∧fv 3 b=.ptr 32 0 0 1∧fv 4 b=.ptr 64 0 0 1∧fv 9 b=.ptr 20448 0 0 1∧fv 11 b=.ptr 30192 0 0 1∧fv 12 b=.ptr 30224 0 0 1∧fv 14 b=.ptr 40320 0 0 1∧fv 15 b=.ptr 40480 0 0 1∧fv 16 b=.ptr 40768 0 0 1∧lk 40768 a=some ⟨96,4,[cI X]⟩∧lk 40480 a=some ⟨96,4,[cI v]⟩∧lk 40320 a=some ⟨96,4,[cI h3]⟩∧lk 30224 a=some ⟨96,4,[cI r]⟩∧lk 30192 a=some ⟨96,4,[cI h]⟩∧lk 20448 a=some ⟨96,4,[cI P]⟩∧lk 64 a=some ⟨243,12,[cV zI zI zI]⟩∧lk 32 a=some ⟨243,12,[cV c f z']⟩∧lk 0 a=some ⟨243,12,[cV x y z]⟩)→G b a:=by
       rintro b a⟨q0,K,O,o,A,q5,q6,q7,q8,q9,aa,T,ac,al,bD,bG,bN,bL⟩;exact D _ _ qC
      simp[go_sem,i,N,M,ae i,ae N,ae M,dI]
      repeat' first|exact p _ _ ⟨rfl,rfl,rfl,rfl,rfl,rfl,rfl,rfl,rfl,rfl,rfl,rfl,rfl,rfl,rfl,rfl,rfl,rfl⟩|(refine p _ _ ?_;simp[fv];done)|refine ag ax (aS _) ?_|refine ag aA (aN _ _) ?_|refine ag bo (nY _ _) ?_|refine ag aY (aN _ _) ?_|apply And.intro|simp[go_sem,n,dI]
     case hq =>
      simp[go_sem];refine dE [0,1,2,5,6] [3,4,7,8,9,10] [0,1,2,5,6] (.alt (bt 3 (.alt (bt 4 (.alt (bx 7 (.alt (a_ [8,9,10]) (a_ [9,8,10]))) (bt 9 (a_ [7,8,10])))) (bt 9 (bt 4 (a_ [7,8,10]))))) (bt 9 (bt 3 (bt 4 (a_ [7,8,10]))))) ⟨[(2,.ptr 0 0 0 1),(3,.ptr 32 0 0 1),(4,.ptr 64 0 0 1),(11,.ptr 30192 0 0 1),(16,.ptr 40768 0 0 1),(17,.ptr 50288 0 0 1)],[(50288,⟨96,4,[cI Y]⟩),(40768,⟨96,4,[cI X]⟩),(30192,⟨96,4,[cI h]⟩),(64,⟨243,12,[cV zI zI zI]⟩),(32,⟨243,12,[cV c f z']⟩),(0,⟨243,12,[cV x y z]⟩)],60000⟩ (k:=11) ?h3 ?hq
      case h3 =>
       intro G D;have p:∀(b:Fr)(a:Hp),(fv 2 b=.ptr 0 0 0 1∧fv 3 b=.ptr 32 0 0 1∧fv 4 b=.ptr 64 0 0 1∧fv 11 b=.ptr 30192 0 0 1∧fv 16 b=.ptr 40768 0 0 1∧fv 17 b=.ptr 50288 0 0 1∧lk 50288 a=some ⟨96,4,[cI Y]⟩∧lk 40768 a=some ⟨96,4,[cI X]⟩∧lk 30192 a=some ⟨96,4,[cI h]⟩∧lk 64 a=some ⟨243,12,[cV zI zI zI]⟩∧lk 32 a=some ⟨243,12,[cV c f z']⟩∧lk 0 a=some ⟨243,12,[cV x y z]⟩)→G b a:=by
        rintro b a⟨q0,K,O,o,A,q5,q6,q7,q8,q9,aa,T⟩;exact D _ _ qC
       simp[go_sem,l7,i,N,M,n,ae l7,ae i,ae N,ae M,ae n,dI]
       repeat' first|exact p _ _ ⟨rfl,rfl,rfl,rfl,rfl,rfl,rfl,rfl,rfl,rfl,rfl,rfl⟩|(refine p _ _ ?_;simp[fv];done)|refine ag ar (aN _ _) ?_|refine ag aC (aN _ _) ?_|refine ag a1 (aN _ _) ?_|refine ag a2 (aN _ _) ?_|apply And.intro|simp[go_sem,q,dI]
      case hq =>
       simp only[go_sem];refine cz [0,1,2,3,4,5,6] [(7,[]),(8,[9]),(10,[])] 2 (k:=11) ?_;intro G D;simp[go_sem,n,q,j,ae n,ae q,ae j,v3,ak,U,m];refine ag aE (aN _ _) ?_;simp[go_sem];refine ag aR (aN _ _) ?_;have ev:cI X++(cI Y++cI Z)=cV X Y Z:=rfl;have xl:=eP n q ai;have xt:=dN n q ai;simp[go_sem,n,q,ai,wl,wd,mk8 n q,abY n q,ev,xl,dI];refine D _ _ ?_;simp[go_sem,xl,xt,ah];exact mL rfl
abbrev T3:=List Int×List Int×List Int
def W3(s:T3):Prop:=Wn 4 s.1∧Wn 4 s.2.1∧Wn 4 s.2.2
def yi(s:T3):Prop:=uy s.1 s.2.1 s.2.2
noncomputable def JV3(s:T3):Pt pP:=JV s.1 s.2.1 s.2.2
theorem aer:∃D:T3→T3,∀s,W3 s→W3 (D s)∧(yi s→yi (D s)∧JV3 (D s)=sum fd (JV3 s) (JV3 s))∧au Tryz.prog 183 [.agg (cV s.1 s.2.1 s.2.2)] (fun r=>r=.agg (cV (D s).1 (D s).2.1 (D s).2.2)) :=
 pick (α:=T3) (β:=T3) (A:=W3) (B:=fun s t=>W3 t∧(yi s→yi t∧JV3 t=sum fd (JV3 s) (JV3 s))∧au Tryz.prog 183 [.agg (cV s.1 s.2.1 s.2.2)] (fun r=>r=.agg (cV t.1 t.2.1 t.2.2))) (fun s a=>by
  obtain⟨u,v,w,e,f,d,b,c⟩:=yf s.1 s.2.1 s.2.2 a.1 a.2.1 a.2.2
  exact⟨(u,v,w),⟨e,f,d⟩,b,c⟩)
theorem ab6:∃D:T3×T3→T3,∀s,(W3 s.1∧W3 s.2)→W3 (D s)∧(yi s.1→yi s.2→yi (D s)∧JV3 (D s)=sum fd (JV3 s.1) (JV3 s.2))∧au Tryz.prog 181 [.agg (cV s.1.1 s.1.2.1 s.1.2.2),.agg (cV s.2.1 s.2.2.1 s.2.2.2)] (fun r=>r=.agg (cV (D s).1 (D s).2.1 (D s).2.2)) :=
 pick (α:=T3×T3) (β:=T3) (A:=fun s=>W3 s.1∧W3 s.2) (B:=fun s t=>W3 t∧(yi s.1→yi s.2→yi t∧JV3 t=sum fd (JV3 s.1) (JV3 s.2))∧au Tryz.prog 181 [.agg (cV s.1.1 s.1.2.1 s.1.2.2),.agg (cV s.2.1 s.2.2.1 s.2.2.2)] (fun r=>r=.agg (cV t.1 t.2.1 t.2.2))) (fun s a=>by
  obtain⟨u,v,w,e,f,d,b,c⟩:=Jf s.1.1 s.1.2.1 s.1.2.2 s.2.1 s.2.2.1 s.2.2.2 a.1.1 a.1.2.1 a.1.2.2 a.2.1 a.2.2.1 a.2.2.2
  exact⟨(u,v,w),⟨e,f,d⟩,b,c⟩)
theorem aes:∃D:List Int×Nat→Bool,∀s,(Wn 4 s.1∧s.2<256)→(D s=true↔(V s.1).toNat/2 ^ s.2%2=1)∧au Tryz.prog 184 [.agg (cI s.1),.d (.int .i64 (s.2:Int))] (fun r=>r=.d (.bool (D s))) :=
 pick (α:=List Int×Nat) (β:=Bool) (A:=fun s=>Wn 4 s.1∧s.2<256) (B:=fun s t=>(t=true↔(V s.1).toNat/2 ^ s.2%2=1)∧au Tryz.prog 184 [.agg (cI s.1),.d (.int .i64 (s.2:Int))] (fun r=>r=.d (.bool t))) (fun s a=>YI s.1 s.2 a.1 a.2)
def Cj(D:T3→T3)(A:T3×T3→T3)(B:List Int×Nat→Bool)(a b:List Int)(M:Nat)(one d c:T3)(k:Nat)(s:T3):T3 :=
 if B (a,M-1-k)then(if B (b,M-1-k)then A (D s,c)else A (D s,one))else(if B (b,M-1-k)then A (D s,d)else D s)
theorem K8{P Q:Pt pP}(c:kL P)(d:kL Q)(a b:Nat) :
  sum fd (sum fd (mp fd a P) (mp fd b Q)) (sum fd (mp fd a P) (mp fd b Q))=sum fd (mp fd (2*a) P) (mp fd (2*b) Q) ∧
  sum fd (sum fd (mp fd (2*a) P) (mp fd (2*b) Q)) P=sum fd (mp fd (2*a+1) P) (mp fd (2*b) Q) ∧
  sum fd (sum fd (mp fd (2*a) P) (mp fd (2*b) Q)) Q=sum fd (mp fd (2*a) P) (mp fd (2*b+1) Q) ∧
  sum fd (sum fd (mp fd (2*a) P) (mp fd (2*b) Q)) (sum fd P Q)=sum fd (mp fd (2*a+1) P) (mp fd (2*b+1) Q):=by
 have f:=qN fd c a;have g:=qN fd d b;have e:=qN fd c (2*a);have b2:=qN fd d (2*b);refine⟨?_,?_,?_,?_⟩;rw[abO fd f g f g,Hg fd c,Hg fd d];rw[mp,i7 fd e b2 c,x7 fd (mp fd (2*b) Q) P,←i7 fd e c b2];rw[mp,i7 fd e b2 d];rw[mp,mp,abO fd e b2 c d]
theorem Ah(N M k:Nat)(h:k<M):N/2 ^ (M-(k+1))=2*(N/2 ^ (M-k))+N/2 ^ (M-1-k)%2:=by
 have e:M-k=(M-1-k)+1:=aq;have a:M-(k+1)=M-1-k:=aq;rw[e,a,Nat.pow_succ,←Nat.div_div_eq_div_mul];omega
theorem Hq(a b:List Int)(x y e f:List Int)(c g:Bool):∀v,v∈[AV.agg (cI a),AV.agg (cP x y c),AV.agg (cI b),AV.agg (cP e f g)]→v.deep:=by
 intro v d;simp at d;rcases d with rfl|rfl|rfl|rfl;exact fO _;exact kT _ _ _;exact fO _;exact kT _ _ _
theorem EZ(n:List Int)(m:Int):∀v,v∈[AV.agg (cI n),AV.d (.int .i64 m)]→v.deep:=by
 intro v a;simp at a;rcases a with rfl|rfl;exact fO _;trivial
theorem Jg(a b x y x' y':List Int)(c c':Bool)(ha:Wn 4 a)(hb:Wn 4 b)(hx:Wn 4 x)(hy:Wn 4 y)(aF:Wn 4 x')(ay:Wn 4 y'):∃(u v:List Int)(o:Bool),Wn 4 u∧Wn 4 v∧(kC x y c→kC x' y' c'→kC u v o∧PV u v o=sum fd (mp fd (V a).toNat (PV x y c)) (mp fd (V b).toNat (PV x' y' c')))∧au Tryz.prog 159 [.agg (cI a),.agg (cP x y c),.agg (cI b),.agg (cP x' y' c')] (fun r=>r=.agg (cP u v o)):=by
 obtain⟨D,hD⟩:=aer;obtain⟨A,T⟩:=ab6;obtain⟨B,hB⟩:=aes;obtain⟨p1,p2,p3,aZ,aP,aL,t1⟩:=s8 x y c hx hy;obtain⟨p,t,j,aa,W,N,a3,g1⟩:=po p1 p2 p3 aZ aP;obtain⟨r1,r2,r3,aJ,aM,aX,t2⟩:=s8 x' y' c' aF ay;obtain⟨u2,q,l,X,U,Y,a0,g2⟩:=po r1 r2 r3 aJ aM;obtain⟨u3,F,E,ao,an,ar,aK,f3⟩:=Jf p t j u2 q l aa W N X U Y;obtain⟨u4,v4,w4,ap,al,ak,aV,f4⟩:=po zI zI true kR kR;obtain⟨La,a7,aY,f5⟩:=BX a ha;obtain⟨Lb,a5,aO,f6⟩:=BX b hb;obtain⟨M,hM⟩:∃M,M=max La Lb:=⟨_,rfl⟩;have a8:M≤256:=aq;have I:W3 (p,t,j):=⟨aa,W,N⟩;have H:W3 (u2,q,l):=⟨X,U,Y⟩;have C:W3 (u3,F,E):=⟨ao,an,ar⟩;have hS:∀k,W3 (ga (Cj D A B a b M (p,t,j) (u2,q,l) (u3,F,E)) (u4,v4,w4) k):=j5 (P:=fun _ s=>W3 s) ⟨ap,al,ak⟩ fun k s hs=>by
  have hd:=(hD s hs).1;unfold Cj;split;split;exact(T _ ⟨hd,C⟩).1;exact(T _ ⟨hd,I⟩).1;split;exact(T _ ⟨hd,H⟩).1;exact hd
 obtain⟨u,v,o,hu,hv,vp,f7⟩:=PT _ _ _ (hS M).1 (hS M).2.1 (hS M).2.2;have vv:kC x y c→kC x' y' c'→kC u v o∧PV u v o=sum fd (mp fd (V a).toNat (PV x y c)) (mp fd (V b).toNat (PV x' y' c')):=by
  intro i1 i2;obtain⟨q1,q2,q3⟩:=aL.2.1 i1;obtain⟨q4,q5,q6⟩:=aX.2.1 i2;subst q1 q2 q3 q4 q5 q6;have o1:=s7 i1;have o2:=s7 i2;obtain⟨j1,e1⟩:=a3 i1;obtain⟨j2,e2⟩:=a0 i2;obtain⟨j3,e3⟩:=aK j1 j2;obtain⟨j4,e4⟩:=aV yd;have ad:∀(w:List Int)(L:Nat),Wn 4 w→V w<2 ^ L→L≤M→(V w).toNat/2 ^ M=0:=by
   intro w L hw hL aT;have h0:=(lO hw).1;have h1:(((V w).toNat:Nat):Int)<((2 ^ L:Nat):Int):=by rw[Int.toNat_of_nonneg h0];exact_mod_cast hL
   have h2:(V w).toNat<2 ^ L:=by exact_mod_cast h1
   exact Nat.div_eq_of_lt (Nat.lt_of_lt_of_le h2 (Nat.pow_le_pow_right aq aT))
  have aA:∀k,k≤M→yi (ga (Cj D A B a b M (p,t,j) (u2,q,l) (u3,F,E)) (u4,v4,w4) k)∧JV3 (ga (Cj D A B a b M (p,t,j) (u2,q,l) (u3,F,E)) (u4,v4,w4) k)=sum fd (mp fd ((V a).toNat/2 ^ (M-k)) (PV p1 p2 p3)) (mp fd ((V b).toNat/2 ^ (M-k)) (PV r1 r2 r3)):=by
   intro k
   induction k with
   |zero =>
    intro _;refine⟨j4,?_⟩;rw[Nat.sub_zero,ad a La ha aY aq,ad b Lb hb aO aq];show JV u4 v4 w4=_;rw[e4,PN];exact(iC fd (Q:=none) True.intro).symm
   | succ k ih =>
    intro hk;obtain⟨i3,i4⟩:=ih aq;have hs:=hS k;rw[ga];generalize ga (Cj D A B a b M (p,t,j) (u2,q,l) (u3,F,E)) (u4,v4,w4) k=s at *;obtain⟨m,d2,_⟩:=hD s hs;obtain⟨d3,d4⟩:=d2 i3;have ba:=(hB (a,M-1-k) ⟨ha,aq⟩).1;have bb:=(hB (b,M-1-k) ⟨hb,aq⟩).1;obtain⟨s1,s2,s3,s4⟩:=K8 o1 o2 ((V a).toNat/2 ^ (M-k)) ((V b).toNat/2 ^ (M-k));rw[i4,s1]at d4;rw[Ah _ M k aq,Ah (V b).toNat M k aq];dsimp only at ba bb;have m2:∀n:Nat,n%2=0∨n%2=1:=Nat.mod_two_eq_zero_or_one;unfold Cj;cases i:B (a,M-1-k);have za:(V a).toNat/2 ^ (M-1-k)%2=0:=(m2 _).resolve_right (fun h=>by rw[ba.2 h]at i;cases i);rw[za,Nat.add_zero]
    cases f:B (b,M-1-k);have zb:(V b).toNat/2 ^ (M-1-k)%2=0:=(m2 _).resolve_right (fun h=>by rw[bb.2 h]at f;cases f);rw[zb,Nat.add_zero];exact⟨d3,d4⟩
    rw[bb.1 f];obtain⟨k1,k2,_⟩:=T (D s,(u2,q,l)) ⟨m,H⟩;obtain⟨k3,k4⟩:=k2 d3 j2;refine⟨k3,?_⟩;show JV3 (A (D s,(u2,q,l)))=_;rw[k4,d4,←s3];show sum fd _ (JV u2 q l)=_;rw[e2];rw[ba.1 i];cases f:B (b,M-1-k);have zb:(V b).toNat/2 ^ (M-1-k)%2=0:=(m2 _).resolve_right (fun h=>by rw[bb.2 h]at f;cases f);rw[zb,Nat.add_zero (2*((V b).toNat/2 ^ (M-k)))];obtain⟨k1,k2,_⟩:=T (D s,(p,t,j)) ⟨m,I⟩;obtain⟨k3,k4⟩:=k2 d3 j1;refine⟨k3,?_⟩;show JV3 (A (D s,(p,t,j)))=_;rw[k4,d4,←s2];show sum fd _ (JV p t j)=_;rw[e1]
    rw[bb.1 f];obtain⟨k1,k2,_⟩:=T (D s,(u3,F,E)) ⟨m,C⟩;obtain⟨k3,k4⟩:=k2 d3 j3;refine⟨k3,?_⟩;show JV3 (A (D s,(u3,F,E)))=_;rw[k4,d4,←s4];show sum fd _ (JV u3 F E)=_;rw[e3,e1,e2]
  obtain⟨z1,z2⟩:=aA M (cR _);obtain⟨z3,z4⟩:=vp z1;refine⟨z3,?_⟩;rw[z4];show JV3 _=_;rw[z2,Nat.sub_self,Nat.pow_zero,Nat.div_one,Nat.div_one]
 refine⟨u,v,o,hu,hv,vv,?_⟩;refine bF Tryz.func159 Tryz.ntmps159 (rs:=[.cell 8 189]) (Hq _ _ _ _ _ _ _ _) ?_;have J:=ha.1;have K:=hb.1;have aC:=hx.1;have aB:=hy.1;have ac:=aF.1;have ab:=ay.1;have z4:List.drop 4 (cI zI)=[]:=be rfl;have aG:=cK aC aB c;have aW:=dH aC aB c;have aE:=cK ac ab c';have aQ:=dH ac ab c';have aj:=eP aa.1 W.1 N.1;have aI:=dN aa.1 W.1 N.1;have af:=eP X.1 U.1 Y.1;have aH:=dN X.1 U.1 Y.1;have ax:=eP ao.1 an.1 ar.1;have aN:=dN ao.1 an.1 ar.1;have aR:=eP ap.1 al.1 ak.1;have a4:=dN ap.1 al.1 ak.1;have wd:(cV zI zI zI).drop 12=[]:=my rfl rfl rfl;have wl:(cV zI zI zI).length=12:=rfl;have pd:(cP zI zI false).drop 9=[]:=qk rfl rfl _;have pl:(cP zI zI false).length=9:=rfl;simp[go_sem,J,K,aG,aE];refine dE [0,3] [1,2,4,5,6,7,8,9] [0,3] (.alt (bt 1 (.alt (bt 2 (.alt (bx 4 (.alt (bx 5 (.alt (a_ [6,7,8,9]) (a_ [7,6,8,9]))) (.alt (bx 6 (.alt (a_ [5,7,8,9]) (a_ [7,5,8,9]))) (bx 7 (.alt (a_ [5,6,8,9]) (a_ [6,5,8,9])))))) (.alt (bt 6 (.alt (bx 4 (.alt (a_ [5,7,8,9]) (a_ [7,5,8,9]))) (bt 7 (a_ [4,5,8,9])))) (bt 7 (.alt (bx 4 (.alt (a_ [5,6,8,9]) (a_ [6,5,8,9]))) (bt 6 (a_ [4,5,8,9]))))))) (.alt (bt 6 (.alt (bt 2 (.alt (bx 4 (.alt (a_ [5,7,8,9]) (a_ [7,5,8,9]))) (bt 7 (a_ [4,5,8,9])))) (bt 7 (bt 2 (a_ [4,5,8,9]))))) (bt 7 (.alt (bt 2 (.alt (bx 4 (.alt (a_ [5,6,8,9]) (a_ [6,5,8,9]))) (bt 6 (a_ [4,5,8,9])))) (bt 6 (bt 2 (a_ [4,5,8,9])))))))) (.alt (bt 6 (.alt (bt 1 (.alt (bt 2 (.alt (bx 4 (.alt (a_ [5,7,8,9]) (a_ [7,5,8,9]))) (bt 7 (a_ [4,5,8,9])))) (bt 7 (bt 2 (a_ [4,5,8,9]))))) (bt 7 (bt 1 (bt 2 (a_ [4,5,8,9])))))) (bt 7 (.alt (bt 1 (.alt (bt 2 (.alt (bx 4 (.alt (a_ [5,6,8,9]) (a_ [6,5,8,9]))) (bt 6 (a_ [4,5,8,9])))) (bt 6 (bt 2 (a_ [4,5,8,9]))))) (bt 6 (bt 1 (bt 2 (a_ [4,5,8,9])))))))) ⟨[(4,.ptr 0 0 0 1),(6,.ptr 64 0 0 1),(8,.ptr 128 0 0 1),(9,.ptr 352 0 0 1),(10,.ptr 384 0 0 1)],[(384,⟨243,12,[cV u2 q l]⟩),(352,⟨243,12,[cV p t j]⟩),(128,⟨189,9,[cP zI zI false]⟩),(64,⟨96,4,[cI b]⟩),(0,⟨96,4,[cI a]⟩)],9000⟩ (k:=10) ?h3 ?hq
 case h3 =>
  intro G hG;have hW:∀(fr:Fr)(hp:Hp),(fv 4 fr=.ptr 0 0 0 1∧fv 6 fr=.ptr 64 0 0 1∧fv 8 fr=.ptr 128 0 0 1∧fv 9 fr=.ptr 352 0 0 1∧fv 10 fr=.ptr 384 0 0 1∧lk 384 hp=some ⟨243,12,[cV u2 q l]⟩∧lk 352 hp=some ⟨243,12,[cV p t j]⟩∧lk 128 hp=some ⟨189,9,[cP zI zI false]⟩∧lk 64 hp=some ⟨96,4,[cI b]⟩∧lk 0 hp=some ⟨96,4,[cI a]⟩)→G fr hp:=by
   rintro fr hp⟨q0,q1,q2,q3,q4,q5,q6,q7,q8,q9⟩;exact hG _ _ qC
  simp[go_sem,aG,aW,aE,aQ,dI]
  repeat' first|exact hW _ _ ⟨rfl,rfl,rfl,rfl,rfl,rfl,rfl,rfl,rfl,rfl⟩|(refine hW _ _ ?_;simp[fv];done)|refine ag t1 (d5 _ _ _) ?_|refine ag t2 (d5 _ _ _) ?_|refine ag g1 (d5 _ _ _) ?_|refine ag g2 (d5 _ _ _) ?_|apply And.intro|simp[go_sem,aj,af,dI]
 case hq =>
  simp[go_sem,aj,aI,af,aH];refine ag f3 (rN _ _ _ _ _ _) ?_;simp[go_sem,ax];refine ag kU aw ?_;simp[go_sem];refine ag f4 (d5 _ _ _) ?_;simp[go_sem,aR];refine cz [0,2] [(1,[]),(3,[]),(4,[5,6])] 3 (k:=7) ?_;intro G hG;simp[go_sem,J,K,ae J,ae K];refine ag f5 (aS _) ?_;simp[go_sem];refine ag f6 (aS _) ?_;have w0:IntKind.i64.wrap ((M:Int)-1)=(M:Int)-1:=by rw[IntWalk.i64_in _ aq]
  have a6:max (La:Int) (Lb:Int)=(M:Int):=aq;have aU:(if La<Lb then(Lb:Int)else(La:Int))=(M:Int):=by split<;>omega
  simp[go_sem];refine hG _ _ ?_;generalize aD:ga (Cj D A B a b M (p,t,j) (u2,q,l) (u3,F,E)) (u4,v4,w4)=S at *;have a1:S 0=(u4,v4,w4):=by rw[←aD];rfl
  refine av (fun k:Nat=>⟨[(4,.ptr 0 0 0 1),(6,.ptr 64 0 0 1),(8,.ptr 128 0 0 1),(9,.ptr 352 0 0 1),(10,.ptr 384 0 0 1),(11,.ptr 9096 0 0 1),(12,.ptr 9224 0 0 1),(13,.d (.int .i64 ((M:Int)-1-(k:Int))))],[(9224,⟨243,12,[cV (S k).1 (S k).2.1 (S k).2.2]⟩),(9096,⟨243,12,[cV u3 F E]⟩),(384,⟨243,12,[cV u2 q l]⟩),(352,⟨243,12,[cV p t j]⟩),(128,⟨189,9,[cP zI zI false]⟩),(64,⟨96,4,[cI b]⟩),(0,⟨96,4,[cI a]⟩)],20000⟩)
   (fun k=>k≤M) (fun k=>M-k) 0 aq (by
    rw[a1];simp[az,ai,fv,lk,AV.low,AV.low1]
    and_intros<;>first|exact uz _ _ _ _|exact cE _ _|exact nX _ _ _ _|(rw[aU,w0])) ?_
  intro k hk;obtain⟨Z,R,O⟩:=hS k;have sl:=eP Z.1 R.1 O.1;have st:=dN Z.1 R.1 O.1;have sd:=my Z.1 R.1 O.1;simp only[go_sem,Nat.reduceEqDiff,Nat.reduceAdd,Nat.reduceLT,↓reduceIte];by_cases h4:k<M
  ·refine⟨fun h=>?_,fun h=>absurd aq h⟩;have g:S (k+1)=Cj D A B a b M (p,t,j) (u2,q,l) (u3,F,E) k (S k):=by rw[←aD];rfl
   have wq:IntKind.i64.wrap ((M:Int)-1-(k:Int)-1)=(M:Int)-1-((k+1:Nat):Int):=by rw[IntWalk.i64_in _ aq];omega
   obtain⟨m,_,d2⟩:=hD (S k) ⟨Z,R,O⟩;have dl:=eP m.1.1 m.2.1.1 m.2.2.1;have dt:=dN m.1.1 m.2.1.1 m.2.2.1;have dd:=my m.1.1 m.2.1.1 m.2.2.1;have e1:=(hB (a,M-1-k) ⟨ha,aq⟩).2;have e2:=(hB (b,M-1-k) ⟨hb,aq⟩).2;have ei:(((M-1-k:Nat)):Int)=(M:Int)-1-(k:Int):=aq;simp only[ei]at e1 e2;unfold Cj at g;simp[go_sem,sl,st];refine ag d2 (gB _ _ _) ?_;simp[go_sem,dl,sl,sd];refine cz [0,1,3,4] [(2,[]),(5,[6,7])] 2 (k:=8) ?_;intro G hG;simp[go_sem,J,K,ae J,ae K];refine ag e1 (EZ _ _) ?_;simp[go_sem];refine ag e2 (EZ _ _) ?_;simp[go_sem];refine hG _ _ ?_
   cases i:B (a,M-1-k)
   ·cases f:B (b,M-1-k)
    ·simp only[i,f,if_false,Bool.false_eq_true]at g;simp[go_sem];simp[go_sem,wq];refine am (k+1) aq aq ?_;rw[g];simp[az,ai,fv,lk,AV.low,AV.low1];and_intros<;>first|exact uz _ _ _ _|exact cE _ _|exact nX _ _ _ _|omega
    ·simp only[i,f,if_true,if_false,Bool.false_eq_true]at g;simp[go_sem,dl,dt,af,aH];obtain⟨e,_,m2⟩:=T (D (S k),(u2,q,l)) ⟨m,H⟩;refine ag m2 (rN _ _ _ _ _ _) ?_;have ml:=eP e.1.1 e.2.1.1 e.2.2.1;have mt:=dN e.1.1 e.2.1.1 e.2.2.1;have md:=my e.1.1 e.2.1.1 e.2.2.1;generalize A (D (S k),(u2,q,l))=z at *;simp[go_sem,ml,dd,dl,wq];refine am (k+1) aq aq ?_;rw[g];simp[az,ai,fv,lk,AV.low,AV.low1];and_intros<;>first|exact uz _ _ _ _|exact cE _ _|exact nX _ _ _ _|omega
   ·cases f:B (b,M-1-k)
    ·simp only[i,f,if_true,if_false,Bool.false_eq_true]at g;simp[go_sem,dl,dt,aj,aI];obtain⟨e,_,m2⟩:=T (D (S k),(p,t,j)) ⟨m,I⟩;refine ag m2 (rN _ _ _ _ _ _) ?_;have ml:=eP e.1.1 e.2.1.1 e.2.2.1;have mt:=dN e.1.1 e.2.1.1 e.2.2.1;have md:=my e.1.1 e.2.1.1 e.2.2.1;generalize A (D (S k),(p,t,j))=z at *;simp[go_sem,ml,dd,dl,wq];refine am (k+1) aq aq ?_;rw[g];simp[az,ai,fv,lk,AV.low,AV.low1];and_intros<;>first|exact uz _ _ _ _|exact cE _ _|exact nX _ _ _ _|omega
    ·simp only[i,f,if_true]at g;simp[go_sem,dl,dt,ax,aN];obtain⟨e,_,m2⟩:=T (D (S k),(u3,F,E)) ⟨m,C⟩;refine ag m2 (rN _ _ _ _ _ _) ?_;have ml:=eP e.1.1 e.2.1.1 e.2.2.1;have mt:=dN e.1.1 e.2.1.1 e.2.2.1;have md:=my e.1.1 e.2.1.1 e.2.2.1;generalize A (D (S k),(u3,F,E))=z at *;simp[go_sem,ml,dd,dl,wq];refine am (k+1) aq aq ?_;rw[g];simp[az,ai,fv,lk,AV.low,AV.low1];and_intros<;>first|exact uz _ _ _ _|exact cE _ _|exact nX _ _ _ _|omega
  ·refine⟨fun h=>absurd aq h4,fun h=>?_⟩;have a2:k=M:=aq;subst a2;simp[go_sem,sl,st];refine ag f7 (gB _ _ _) ?_;have ol:=cK hu.1 hv.1 o;have ot:=dH hu.1 hv.1 o;simp[go_sem,ol,ot,pl,pd,ah];exact rL rfl
def j7:List Nat:=[84,97,112,84,119,101,97,107]
theorem Cm(t b:List Nat):(fJ t b).length=32∧bytes (fJ t b):=⟨bf _,fA _⟩
theorem E0(b:List Nat)(d:DV):∀v,v∈[AV.agg (cb b),AV.d d]→v.deep:=by
 intro v a;simp at a;rcases a with rfl|rfl;exact dV _;trivial
theorem Hr(inner a:List Nat)(hi:inner.length=32)(e:a.length≤1000):∃(t:List Int)(c:Bool),Wn 4 t∧((gh (fJ j7 (inner++a))<115792089237316195423570985008687907852837564279074904382605163141518161494337→c=true∧V t=(gh (fJ j7 (inner++a)):Int))∧(¬gh (fJ j7 (inner++a))<115792089237316195423570985008687907852837564279074904382605163141518161494337→c=false∧t=zI))∧au Tryz.prog 166 [.agg (cb inner),.d (nb a)] (fun r=>r=.tup [.agg (cI t),.d (.bool c)]):=by
 obtain⟨t,c,f,h,g⟩:=EW (fJ j7 (inner++a)) (Cm _ _).1 (Cm _ _).2;refine⟨t,c,f,h,?_⟩;refine bF Tryz.func166 Tryz.ntmps166 (rs:=[.cell 4 96,.tmp 5]) (E0 _ _) ?_;have b:=f.1;have i:List.drop 4 (cI zI)=[]:=be rfl;simp[go_sem,ak,hi];refine bA [0,160] (K7 inner a hi aq) rfl (aj (.one (ao (kr (rows:=[[.sub 0 0 0 1 32 32 1],[.d (nb a)]]) rfl aw rfl (RowsR.cons (.cons (eU rfl aw hi) .nil) (RowsR.cons (.cons (.d _) .nil) .nil)) rfl (by intro r e;simp at e;rcases e with rfl|rfl<;>rfl)))) aD) ?_;simp[go_sem,aE];refine ag (iR j7 (.str [84,97,112,84,119,101,97,107]) rfl (inner++a) (by simp[j7]) (by rw[b_];omega)) a9 ?_;simp[go_sem];refine ag g (dc _) ?_;simp[go_sem,b,ae b,ah];exact qi rfl
noncomputable def liftPt(n:Nat):Pt pP:=some (LN pP (n:Int),LN pP (if mz n%2=0 then mz n else(0-mz n)%115792089237316195423570985008687907853269984665640564039457584007908834671663))
noncomputable def turnQ(n t:Nat):Pt pP:=sum fd (mp fd 1 (liftPt n)) (mp fd t (PV gX gY false))
theorem YN(R p:Int):(0-R)%p*((0-R)%p)%p=R*R%p:=by
 rw[←Int.mul_emod];congr 1;rw[Int.zero_sub,Int.neg_mul_neg]
theorem YO{x:List Int}{n:Nat}(b:V x=n):((((FV x*FV x*FV x+7:F)).val:Nat):Int)=nk n:=by
 have a:(((7:F).val:Nat):Int)=7%pZ:=by
  show((7%pP:Nat):Int)=_;rw[Int.natCast_emod,iO];rfl
 rw[K4,vC,vC,Int.natCast_emod,Int.natCast_add,Int.natCast_emod,Int.natCast_mul,Int.natCast_emod,Int.natCast_mul,eN,a,iO,b];unfold nk;show _=((n:Int)*n*n+7)%pZ;rw[←Int.mul_emod (n:Int) n,←Int.mul_emod ((n:Int)*n) n,←Int.add_emod]
theorem Us{n:Nat}{x y:List Int}{c:Bool}(h:PW n x y c true):rM n∧c=false∧kC x y c∧PV x y c=liftPt n:=by
 rcases h with ⟨_,h,_⟩|⟨f,_,rfl,g,e⟩;cases h;have a:(0:Int)<pZ:=by decide
 have b:V y<pZ:=by
  rw[e];split;exact Int.emod_lt_of_pos _ a;exact Int.emod_lt_of_pos _ a
 have d:FV y*FV y=FV x*FV x*FV x+7:=by
  refine s5 ?_;rw[YO g,vC,Int.natCast_emod,Int.natCast_mul,eN,iO,←Int.mul_emod];have hc:nk n%pZ=nk n:=by unfold nk;exact Int.emod_emod _ _
  have i:mz n*mz n%pZ=nk n:=f.2.trans hc;rw[e];split;exact i;rw[←i];exact YN _ _
 refine⟨f,rfl,.inr ⟨rfl,by rw[g];exact f.1,b,d⟩,?_⟩;show some (LN pP (V x),LN pP (V y))=_;rw[g,e];rfl
theorem Ut{n:Nat}{x y:List Int}{c:Bool}(h:PW n x y c false):¬rM n:=by
 rcases h with ⟨h,_⟩|⟨_,h,_⟩;exact h;cases h
def E4(n t:Nat)(k:List Nat)(o:Bool)(e:Int):Prop :=
 ((¬(rM n∧t<115792089237316195423570985008687907852837564279074904382605163141518161494337)∨turnQ n t=none)∧e=1∧k=z32∧o=false) ∨
 ((rM n∧t<115792089237316195423570985008687907852837564279074904382605163141518161494337)∧e=0∧∃x y,turnQ n t=some (x,y)∧gh k=x.val∧(o=true↔y.val%2=1))
theorem V3{x:List Int}(b:Wn 4 x)(h:V x<pZ):(V x).toNat=(FV x).val:=by
 have e:=eN x;have a:=(lO b).1;rw[Int.emod_eq_of_lt a h]at e;omega
def E1(e:Int):Prop:=e=0∨e=1
theorem nZ{Q:AV→Prop}{st:St}{b:List Nat}{o:Bool}{e:Int}(hq:Q (.tup [.agg (cb b),.d (.bool o),.d (.int .i64 e)])):dC Q (.tup [.agg (cb b),.d (.bool o),.d (.int .i64 e)]) st :=
 aa (by
  intro c hc;simp at hc;rcases hc with rfl|rfl|rfl;exact .inr ⟨_,rfl,bn _⟩;exact .inl trivial
  exact .inl trivial) hq
theorem Uu(inner a:List Nat)(hi:inner.length=32)(I:bytes inner)(hr:a.length≤1000):∃(k:List Nat)(o:Bool)(e:Int),k.length=32∧bytes k∧E1 e∧E4 (gh inner) (gh (fJ j7 (inner++a))) k o e∧au Tryz.prog 138 [.agg (cb inner),.d (nb a)] (fun r=>r=.tup [.agg (cb k),.d (.bool o),.d (.int .i64 e)]):=by
 obtain⟨x,y,c,ok,v,J,Z,B⟩:=EX inner hi I;obtain⟨t,M,P,N,K⟩:=Hr inner a hi hr;obtain⟨n,l,p,g,b,vq,R⟩:=Jg [1,0,0,0] t x y gX gY c false (kS ⟨aq,aq⟩) P v J abZ ab0;obtain⟨z,C,E,vk,f5⟩:=Ag n l p g b;obtain⟨w,vo,f6⟩:=Jd n l p g b;generalize hT:gh (fJ j7 (inner++a))=T at *;have D:bytes z32:=fun x v=>by simp[z32]at v;omega
 have pl:=cK v.1 J.1 c;have W:=dH v.1 J.1 c;have pd:(cP zI zI false).drop 9=[]:=qk rfl rfl _;have ab:(cP zI zI false).length=9:=rfl;have q:=cK g.1 b.1 p;have qt:=dH g.1 b.1 p;have qb:=EV g.1 b.1 p;have S:=Hl g.1 b.1 p;have j:=P.1;have hz:List.drop 4 (cI zI)=[]:=be rfl;have A:List.drop 32 (cb z32)=[]:=gK rfl;have O:List.take 32 (cb z32)=cb z32:=al rfl;cases ok
 ·refine⟨z32,false,1,rfl,D,.inr rfl,.inl ⟨.inl (fun h=>Ut Z h.1),rfl,rfl,rfl⟩,?_⟩;refine bF Tryz.func138 Tryz.ntmps138 (rs:=[.cell 4 29,.tmp 5,.tmp 6]) (E0 _ _) ?_;simp[go_sem,ak,hi,al hi];refine ag B (dc _) ?_;simp[go_sem,pl,A,O,ak,ah];exact nZ rfl
 ·cases M
  ·refine⟨z32,false,1,rfl,D,.inr rfl,.inl ⟨.inl (fun h=>absurd (N.1 h.2).1 (by decide)),rfl,rfl,rfl⟩,?_⟩;refine bF Tryz.func138 Tryz.ntmps138 (rs:=[.cell 4 29,.tmp 5,.tmp 6]) (E0 _ _) ?_;simp[go_sem,ak,hi,al hi];refine ag B (dc _) ?_;simp[go_sem,ak,hi,al hi,pl];refine ag K (E0 _ _) ?_;simp[go_sem,j,A,O,ak,ah];exact nZ rfl
  ·obtain⟨k1,k2,k3,k4⟩:=Us Z;have s:T<115792089237316195423570985008687907852837564279074904382605163141518161494337:=by
    by_cases h:T<115792089237316195423570985008687907852837564279074904382605163141518161494337;exact h;exact absurd (N.2 h).1 (by decide)
   obtain⟨L,m2⟩:=vq k3 Ce;have vT:(V t).toNat=T:=by rw[(N.1 s).2];exact Int.toNat_natCast _
   have v1:(V [1,0,0,0]).toNat=1:=by simp[V]
   rw[k4,vT,v1]at m2;have hQ:PV n l p=turnQ (gh inner) T:=m2;cases p
   ·have f:=L;rcases f with ⟨hb,_⟩|⟨_,H,F,_⟩;cases hb;have vR:E4 (gh inner) T z (!w) 0:=by
     refine .inr ⟨⟨k1,s⟩,rfl,FV n,FV l,hQ.symm,by rw[vk L];exact V3 g H,?_⟩;have e:=V3 b F;have aa:=(lO b).1;have X:=vo L;cases w;have:¬V l%2=0:=fun h=>Bool.noConfusion (X.2 ⟨rfl,h⟩);exact⟨fun _=>aq,fun _=>rfl⟩;have:=(X.1 rfl).2;exact⟨fun h=>Bool.noConfusion h,fun h=>aq⟩
    refine⟨z,!w,0,C,E,.inl rfl,vR,?_⟩;refine bF Tryz.func138 Tryz.ntmps138 (rs:=[.cell 4 29,.tmp 5,.tmp 6]) (E0 _ _) ?_;simp[go_sem,ak,hi,al hi];refine ag B (dc _) ?_;simp[go_sem,ak,hi,al hi,pl];refine ag K (E0 _ _) ?_;simp[go_sem,j];refine dE [1,2] [0,3,4,5,6] [1,2] (.alt (bt 0 (.alt (bt 3 (.alt (a_ [4,5,6]) (bt 5 (a_ [4,6])))) (bt 5 (bt 3 (a_ [4,6]))))) (bt 5 (bt 0 (bt 3 (a_ [4,6]))))) ⟨[(4,.ptr 32 0 0 1),(10,.ptr 960 0 0 1)],[(960,⟨189,9,[cP n l false]⟩),(32,⟨29,32,[cb z32]⟩)],5000⟩ (k:=7) ?h3 ?hq
    case h3 =>
     intro G u;have m:∀(i:Fr)(f:Hp),(fv 4 i=.ptr 32 0 0 1∧fv 10 i=.ptr 960 0 0 1∧lk 960 f=some ⟨189,9,[cP n l false]⟩∧lk 32 f=some ⟨29,32,[cb z32]⟩)→G i f:=by
      rintro i f⟨Y,U,Q,q3⟩;exact u _ _ qC
     simp[go_sem,j,ae j,pl,W,dI]
     repeat' first|exact m _ _ ⟨rfl,rfl,rfl,rfl⟩|(refine m _ _ ?_;simp[fv];done)|refine ag (fP 1) a9 ?_|refine ag Cf aw ?_|refine ag R (Hq _ _ _ _ _ _ _ _) ?_|apply And.intro|simp[go_sem,q,dI]
    case hq =>
     simp[go_sem,S,q];refine dE [0,2] [1,3,4,5,6,7] [0,2] (bt 1 (bx 3 (.alt (a_ [4,5,6,7]) (a_ [5,4,6,7])))) ⟨[(4,.ptr 32 0 0 1),(5,.d (.bool (!w))),(6,.d (.int .i64 0))],[(32,⟨29,32,[cb z]⟩)],9000⟩ (k:=8) ?h3 ?hq
     case h3 =>
      intro G u;have m:∀(i:Fr)(f:Hp),(fv 4 i=.ptr 32 0 0 1∧fv 5 i=.d (.bool (!w))∧fv 6 i=.d (.int .i64 0)∧lk 32 f=some ⟨29,32,[cb z]⟩)→G i f:=by
       rintro i f⟨Y,U,Q,q3⟩;exact u _ _ qC
      simp[go_sem,q,qt]
      repeat' first|exact m _ _ ⟨rfl,rfl,rfl,rfl⟩|(refine m _ _ ?_;simp[fv];done)|refine ag f5 (d5 _ _ _) ?_|refine ag f6 (d5 _ _ _) ?_|apply And.intro|simp[go_sem,C,ak,A,dI]
     case hq =>
      simp[go_sem,ak,C,al C,ah];exact nZ rfl
   ·refine⟨z32,false,1,rfl,D,.inr rfl,.inl ⟨.inr hQ.symm,rfl,rfl,rfl⟩,?_⟩;refine bF Tryz.func138 Tryz.ntmps138 (rs:=[.cell 4 29,.tmp 5,.tmp 6]) (E0 _ _) ?_;simp[go_sem,ak,hi,al hi];refine ag B (dc _) ?_;simp[go_sem,ak,hi,al hi,pl];refine ag K (E0 _ _) ?_;simp[go_sem,j];refine dE [1,2] [0,3,4,5,6] [1,2] (.alt (bt 0 (.alt (bt 3 (.alt (a_ [4,5,6]) (bt 5 (a_ [4,6])))) (bt 5 (bt 3 (a_ [4,6]))))) (bt 5 (bt 0 (bt 3 (a_ [4,6]))))) ⟨[(4,.ptr 32 0 0 1),(10,.ptr 960 0 0 1)],[(960,⟨189,9,[cP n l true]⟩),(32,⟨29,32,[cb z32]⟩)],5000⟩ (k:=7) ?h3 ?hq
    case h3 =>
     intro G u;have m:∀(i:Fr)(f:Hp),(fv 4 i=.ptr 32 0 0 1∧fv 10 i=.ptr 960 0 0 1∧lk 960 f=some ⟨189,9,[cP n l true]⟩∧lk 32 f=some ⟨29,32,[cb z32]⟩)→G i f:=by
      rintro i f⟨Y,U,Q,q3⟩;exact u _ _ qC
     simp[go_sem,j,ae j,pl,W,dI]
     repeat' first|exact m _ _ ⟨rfl,rfl,rfl,rfl⟩|(refine m _ _ ?_;simp[fv];done)|refine ag (fP 1) a9 ?_|refine ag Cf aw ?_|refine ag R (Hq _ _ _ _ _ _ _ _) ?_|apply And.intro|simp[go_sem,q,dI]
    case hq =>
     simp[go_sem,S,q,A,O,ak,ah];exact nZ rfl
open Go.Am Go.Sha
def bT(inner:List Nat)(a:List (List Nat))(x:List Nat):AV:=.agg (ar inner (.d (bW a)) (.d (nb x)))
theorem cT(inner:List Nat)(b:List (List Nat))(x:List Nat):∀v,v∈[bT inner b x]→v.deep:=by
 intro v a;simp at a;subst a;simp[AV.deep,ar,bT];intro c hc;rcases hc with hc|rfl|rfl;exact bn _ _ hc;trivial;trivial
theorem Uw(k:List Nat)(o:Bool)(e:Int):(AV.tup [.agg (cb k),.d (.bool o),.d (.int .i64 e)]).flat:=by
 intro c hc;simp at hc;rcases hc with rfl|rfl|rfl;refine .inr ⟨_,rfl,fun x a=>?_⟩;rw[cb,List.mem_map]at a;obtain⟨y,_,rfl⟩:=a;trivial;exact .inl trivial;exact .inl trivial
theorem ta{l:List Nat}(h:l.length=32)(r:List AV):List.take 32 (cb l++r)=cb l:=by
 rw[List.take_append_of_le_length (by rw[ak,h];exact cR _),al h]
theorem qn{inner:List Nat}(hi:inner.length=32)(a b:AV):List.take 34 (cb inner++[a,b])=cb inner++[a,b]:=cx (by simp[ak,hi])
theorem Ht(a:List (List Nat)):∀h:List Nat,h.length=32→(jI a h).length=32:=by
 induction a with
 |nil=>exact fun h b=>b
 |cons p r ih=>exact fun h b=>ih _ (iT h p)
def tc(inner:List Nat)(a:List (List Nat))(x k:List Nat)(o:Bool)(e:Int):Prop :=
 (¬(a.length≤8∧x.length≤1000)∧e=1∧k=z32∧o=false)∨((a.length≤8∧x.length≤1000)∧E4 (gh inner) (gh (fJ j7 (inner++jI a (eo x)))) k o e)
theorem qo(inner:List Nat)(a:List (List Nat))(x:List Nat)(hi:inner.length=32)(j:bytes inner)(c:∀p,p∈a→p.length=32)(l:a.length≤1000)(n:x.length≤100000):∃(k:List Nat)(o:Bool)(e:Int),k.length=32∧bytes k∧E1 e∧au Tryz.prog 92 [bT inner a x] (fun r=>r=.tup [.agg (cb k),.d (.bool o),.d (.int .i64 e)])∧(e=0→a.length≤8∧x.length≤1000)∧tc inner a x k o e:=by
 have s:=Ht a (eo x) (mW x);have w:=SU inner a x hi c l n;unfold tc;generalize jI a (eo x)=R at *;obtain⟨k,o,e,g,q,A,y,B⟩:=Uu inner R hi j aq;have t:bytes z32:=fun x n=>by simp[z32]at n;omega
 have i:List.drop 32 (cb z32)=[]:=gK rfl;have v:List.take 32 (cb z32)=cb z32:=al rfl;by_cases H:8<a.length
 ·refine⟨z32,false,1,rfl,t,.inr rfl,?_,fun h=>aq,.inl ⟨aq,rfl,rfl,rfl⟩⟩;refine bF Tryz.func92 Tryz.ntmps92 (rs:=[.cell 2 29,.tmp 3,.tmp 4]) (cT _ _ _) ?_;have f:(8:Int)<(a.length:Int):=aq;simp[go_sem,bT,ar,jo hi,bW,nb,f,i,v,ak,ah];exact nZ rfl
 by_cases C:1000<x.length
 ·refine⟨z32,false,1,rfl,t,.inr rfl,?_,fun h=>aq,.inl ⟨aq,rfl,rfl,rfl⟩⟩;refine bF Tryz.func92 Tryz.ntmps92 (rs:=[.cell 2 29,.tmp 3,.tmp 4]) (cT _ _ _) ?_;have f:¬(8:Int)<(a.length:Int):=aq;have i2:(1000:Int)<(x.length:Int):=aq;simp[go_sem,bT,ar,lv hi,jo hi,bW,nb,f,i2,i,v,ak,ah];exact nZ rfl
 refine⟨k,o,e,g,q,A,?_,fun _=>aq,.inr ⟨aq,y⟩⟩;refine bF Tryz.func92 Tryz.ntmps92 (rs:=[.cell 2 29,.tmp 3,.tmp 4]) (cT _ _ _) ?_;have f:¬(8:Int)<(a.length:Int):=aq;have i2:¬(1000:Int)<(x.length:Int):=aq;simp[go_sem,bT,ar,bW,nb,f,i2,hi,qn hi];refine ag (by simpa only[ar,bW,nb]using w) (by simpa only[bT,ar,bW,nb]using cT inner a x) ?_;simp[go_sem,ak,s,i];refine dE [0,1,2] [3,7,8,9] [0,1,2,4,5,6] (.step 3 [4,5,6] true (a_ [7,8,9])) ⟨[(2,.ptr 32 0 0 1),(3,.d (.bool o)),(4,.d (.int .i64 e))],[(32,⟨29,32,[cb k]⟩)],9000⟩ (k:=10) ?h3 ?hq
 case h3 =>
  intro G z;have u:∀(b:Fr)(m:Hp),(fv 2 b=.ptr 32 0 0 1∧fv 3 b=.d (.bool o)∧fv 4 b=.d (.int .i64 e)∧lk 32 m=some ⟨29,32,[cb k]⟩)→G b m:=by
   rintro b m⟨I,D,E,F⟩;exact z _ _ qC
  simp[go_sem,ak,hi,ta hi]
  repeat' first|exact u _ _ ⟨rfl,rfl,rfl,rfl⟩|(refine u _ _ ?_;simp[fv];done)|refine jh B rfl (aj (.deep (dV _)) (aj (.one (ao (eU rfl trivial s))) aD)) (Uw _ _ _) ?_|apply And.intro|simp[go_sem,ak,g,i,dI]
 case hq =>
  simp[go_sem,ak,g,al g,ah];exact nZ rfl
end Go.Proofs.YtmfnimjnneflnaaGreat
namespace Go.Sha
open Go.Proofs.YtmfnimjnneflnaaGreat
structure RnF where
 t:Tn
 n:Nat
 coins:List (Nat×List Nat)
 inner:List Nat
 path:List (List Nat)
 script:List Nat
 annex:List Nat
end Go.Sha
namespace Go.Proofs.YtmfnimjnneflnaaGreat
open Go.Am Go.Sha
def ja(F:RnF):List AV:=eS F.t (F.n:Int) F.coins++(ar F.inner (.d (bW F.path)) (.d (nb F.script))++[.d (nb F.annex)])
theorem YP{C:List AV}(h:∀v,v∈C→∃d,v=.d d)(b:C.length=41):jG C :=
 ⟨fun v a ρ=>by obtain⟨d,rfl⟩:=h v a;rfl,fun v a n=>by obtain⟨d,rfl⟩:=h v a;trivial,b⟩
theorem fq{F:RnF}(hi:F.inner.length=32):jG (ja F):=by
 refine YP (fun v a=>?_) (by simp[ja,eS,ar,ak,hi]);simp only[ja,eS,ar,cL,et,List.mem_nil_iff,or_false]at a;rcases a with (rfl|rfl|rfl|rfl|rfl|rfl)|(h|rfl|rfl)|rfl
 all_goals first|exact⟨_,rfl⟩|skip
 obtain⟨x,_,rfl⟩:=List.mem_map.1 h;exact⟨_,rfl⟩
theorem V5(F:RnF)(hi:F.inner.length=32)(i:Ip)(j:F.t.ins[F.n]?=some i)(e:i.ok)(r:Rn)(J:List Bool)(H:Nat):dr Tryz.prog 3 (aI (ja F)) 230 ⟨r,J,H⟩ [.ptr 0 0 0 1] (fun v o=>v=.d (.int .i64 (i.seq:Int))∧o=⟨r,J,H⟩):=by
 refine ap Tryz.func230 (by kernel_rfl) rfl Tryz.ntmps230 (rs:=[.tmp 2]) rfl (dJ rfl) (by decide) ?_;rw[bH];have h:F.n<F.t.ins.length:=(ci.1 j).1;have p:(F.n:Int)<(F.t.ins.length:Int):=aq;have l:F.t.ins[F.n]=i:=Option.some.inj ((cm h).symm.trans j);have m:IntKind.i64.wrap (i.seq:Int)=(i.seq:Int):=IntWalk.i64_in _ (by have:=e.2.2;omega);simp[go_sem];refine cz [0,1,2,3,4,5,6,7,8,9,10,11,12,13,14,15] [] 0 (k:=16) ?_;intro G g;simp only[aI,bJ,bI,id,ja,eS]
 have f:∀a b c:DV,(List.map AV.d (cd i.hash)++[AV.d a,AV.d b,AV.d c])[33]?=some (AV.d b):=fun a b c=>by
  rw[dz (by simp[cj,e.1])];simp[cj,e.1]
 simp[go_sem,h,eI,l,f,m];refine g _ _ ?_;clear g G;simp[go_sem,ah];exact aF (by simp[lk,aI,bJ,bI,ja,eS]) rfl rfl
theorem Jh{C:List AV}(c:jG C)(r:Rn)(J:List Bool)(w:StOk r.main r.alt)(l:List (Int×Int))(e:Int)(hc:r.cl.length≤100000)(t:l.length≤100000):dr Tryz.prog 3 (aI C) 233 ⟨r,J,0⟩ [.ptr 0 0 0 1,.d (.ro 2 (l.map dW)),.d (.int .i64 e)] (fun v k=>k=⟨BM l e r,J,0⟩):=by
 refine ap Tryz.func233 (by kernel_rfl) rfl Tryz.ntmps233 (rs:=[]) rfl (dJ rfl) (by decide) ?_;have y:=c.2.2;simp[go_sem];refine eK (Pp:=[]) c (fE c r J 0) aq aw (by simp[AV.renL]) ?_;rintro v k ρ ⟨rfl,rfl⟩ q;by_cases h:r.e=0
 ·have o:BM l e r=eu (js true) { aC e r with cl:=r.cl++l }:=if_pos h;rw[o];simp[go_sem,AV.ren,h];refine eK (Pp:=[]) (s:=⟨r,J,0⟩) c (bD c r J 0 e) aq aw (by simp[AV.renL,AV.ren]) ?_;rintro v k ρ rfl q;have m:StOk (aC e r).main (aC e r).alt:=iy w;have n:(aC e r).cl=r.cl:=by unfold aC;split<;>rfl
  rw[←n];rw[←n]at hc;generalize aC e r=r2 at *;obtain⟨a,alt,g,b,cl,j⟩:=r2;simp only at hc m;rw[bH];simp only[aI,bJ,bI,id];have u:List.take cl.length (LM cl 0)=cl.map ZL:=by simp[LM,cx]
  have p:(LM cl 0).length=cl.length:=by simp[LM]
  have z:List.map ((fun r=>List.map AV.d r)∘dW) l=l.map ZL:=rfl;have f:=rH c ⟨a,alt,g,b,cl++l,j⟩ J 0 m (js true) (by simp[js]);have i:je ⟨a,alt,g,b,cl,j⟩=je ⟨a,alt,g,b,cl++l,j⟩:=rfl;rw[i];simp[go_sem,y,fi,Ia,u,p,z];refine⟨aq,fun x=>?_,fun x=>?_⟩
  ·obtain rfl:l=[]:=List.length_eq_zero_iff.1 aq;simp only[List.append_nil]at f⊢;refine ag (nQ true) a9 ?_;simp[go_sem];refine aR (Pp:=[]) (s:=⟨⟨a,alt,g,b,cl,j⟩,J,0⟩) c f (by simp[bH,aI,bJ,bI,LM]) aq aw (by simp[AV.renL,AV.ren]) ?_;rintro v k ρ rfl q;rw[bH];generalize eu (js true) _=r';simp only[aI,bJ,bI,id];simp[go_sem];exact aF rfl rfl rfl
  ·refine ag (nQ true) a9 ?_;simp[go_sem];refine aR (Pp:=[]) (s:=⟨⟨a,alt,g,b,cl++l,j⟩,J,0⟩) c f (by simp[bH,aI,bJ,bI,LM]) aq aw (by simp[AV.renL,AV.ren]) ?_;rintro v k ρ rfl q;rw[bH];generalize eu (js true) _=r';simp only[aI,bJ,bI,id];simp[go_sem];exact aF rfl rfl rfl
 ·have o:BM l e r=r:=if_neg h;rw[o];simp[go_sem,AV.ren,h];rw[bH];exact aF rfl rfl rfl
theorem CB{r:Rn}(h:StOk r.main r.alt):StOk (oG r).2.main (oG r).2.alt∧(oG r).1.length≤1000∧bytes (oG r).1:=by
 unfold oG;split;exact⟨iy h,aw,fun x c=>by simp at c⟩
 rename_i d;rcases r.main.eq_nil_or_concat with e|⟨l,x,b⟩;exact absurd (by rw[e];rfl) d;rw[List.concat_eq_append]at b;have a:=h;rw[b]at a⊢;simp only[List.getLastD_concat];exact⟨a,(OT a).2⟩
theorem PZ{C:List AV}(a:jG C)(r:Rn)(J:List Bool)(H:Nat)(l:StOk r.main r.alt):dr Tryz.prog 3 (aI C) 229 ⟨r,J,H⟩ [.ptr 0 0 0 1] (fun v f=>v=.d (.int .i64 (ow r).1)∧f=⟨(ow r).2,J,H⟩):=by
 refine ap Tryz.func229 (by kernel_rfl) rfl Tryz.ntmps229 (rs:=[.tmp 2]) rfl (dJ rfl) (by decide) ?_;have w:=a.2.2;simp[go_sem];refine eK (Pp:=[]) a (OU a r J H l) aq aw (by simp[AV.renL]) ?_;rintro v f ρ ⟨rfl,rfl⟩ i;obtain⟨j,k,g⟩:=CB l;unfold ow;generalize oG r=p at *;obtain⟨b,c⟩:=p;simp only at j k g⊢;simp[go_sem,AV.ren];refine eK (Pp:=[]) a (fE a c J H) aq aw (by simp[AV.renL]) ?_;rintro v f ρ' ⟨rfl,rfl⟩ q;by_cases h:c.e=0
 ·have t:=GN 5 b g aq aq;simp[go_sem,AV.ren,h];refine ag t a9 ?_
  cases u:gv 5 b with
  |none =>
   simp[go_sem];refine eK (Pp:=[]) (s:=⟨c,J,H⟩) a (bD a c J H 15) aq aw (by simp[AV.renL,AV.ren]) ?_;rintro v f ρ rfl i;rw[bH];generalize aC 15 c=r';simp only[aI,bJ,bI,id];simp[go_sem,ah];exact aF rfl rfl rfl
  |some n =>
   have m:=bD a c J H 0;rw[rG]at m;simp[go_sem];refine eK (Pp:=[]) (s:=⟨c,J,H⟩) a m aq aw (by simp[AV.renL,AV.ren]) ?_;rintro v f ρ rfl i;by_cases o:n<0
   ·simp[go_sem,o];refine eK (Pp:=[]) (s:=⟨c,J,H⟩) a (bD a c J H 22) aq aw (by simp[AV.renL,AV.ren]) ?_;rintro v f ρ rfl i;rw[bH];generalize aC 22 c=r';simp only[aI,bJ,bI,id];simp[go_sem,ah];exact aF rfl rfl rfl
   ·rw[bH];simp only[aI,bJ,bI,id];simp[go_sem,o,ah];exact aF rfl rfl rfl
 ·simp[go_sem,AV.ren,h,ah];rw[bH];exact aF rfl rfl rfl
theorem ab7(a b:Bool)(K:AV→Hp→Prop)(hp:Hp):dj Tryz.prog .neq 4 (.d (.bool a)) (.d (.bool b)) K hp=K (.d (.bool (a != b))) hp:=by
 show(_∧_)=_;rw[VR];simp
theorem YQ{C:List AV}(e:jG C){s:RnS}{N:Nat}(f:3≤N):∀p,p∈ju 3 (aI C) s id→p.1<N∧∀r,r∈p.2.es→∀v,v∈r→v.low1 N:=by
 intro p d;rw[bH]at d;simp only[et,List.mem_nil_iff,or_false]at d;rcases d with rfl|rfl|rfl
 ·refine⟨by show 0<N;omega,fun r c v a=>?_⟩;simp only[aI,et,List.mem_nil_iff,or_false]at c;subst c;rcases cL.1 a with h|h;exact e.2.1 v h N
  ·simp only[bI,et,List.mem_nil_iff,or_false]at h;rcases h with rfl|rfl|rfl|rfl|rfl|rfl|rfl
   all_goals first|trivial|(show 1<N;omega)|(show 2<N;omega)
 ·refine⟨by show 1<N;omega,fun r c v a=>?_⟩;obtain⟨b,_,rfl⟩:=List.mem_map.1 c;simp only[et,List.mem_nil_iff,or_false]at a;subst a;trivial
 ·refine⟨by show 2<N;omega,fun r c v a=>?_⟩;rcases cL.1 c with h|h;obtain⟨x,_,rfl⟩:=List.mem_map.1 h;simp only[ZL,et,List.mem_nil_iff,or_false]at a;rcases a with rfl|rfl<;>trivial;rw[List.eq_of_mem_replicate h]at a;simp only[et,List.mem_nil_iff,or_false]at a;rcases a with rfl|rfl<;>trivial
theorem rnW{C:List AV}(c:jG C){s:RnS}{hp:Hp}{nx N:Nat}(b:3≤N)(h:∀p,p∈ju 3 (aI C) s id→lk p.1 hp=some p.2) :
  ∀p,p∈ju 3 (aI C) s id→(lk p.1 hp=some p.2∨(nx≤p.1∧p.2.es=[]))∧p.1<N∧∀r,r∈p.2.es→∀v,v∈r→v.low1 N :=
 fun p a=>⟨.inl (h p a),YQ c b p a⟩
theorem tf{C:List AV}{s:RnS}{hp:Hp}(b:lk 0 hp=some (aI C s id 0))(c:lk 1 hp=some (aI C s id 1))(d:lk 2 hp=some (aI C s id 2)):∀p,p∈ju 3 (aI C) s id→lk p.1 hp=some p.2:=by
 intro p a;rw[bH]at a;simp only[et,List.mem_nil_iff,or_false]at a;rcases a with rfl|rfl|rfl;exact b;exact c;exact d
theorem P0(F:RnF)(x:Rx)(hi:F.inner.length=32)(i:Ip)(B:F.t.ins[F.n]?=some i)(f:i.ok)(u:F.t.lock<4294967296)(h:x.lock=(F.t.lock:Int))(g:x.seq=(i.seq:Int))(r:Rn)(J:List Bool)(H:Nat)(q:StOk r.main r.alt) :
    dr Tryz.prog 3 (aI (ja F)) 199 ⟨r,J,H⟩ [.ptr 0 0 0 1] (fun v e=>e=⟨xZ x r,J,H⟩):=by
  refine ap Tryz.func199 (by kernel_rfl) rfl Tryz.ntmps199 (rs:=[]) rfl (dJ rfl) (by decide) ?_;have a:=fq (F:=F) hi;have b:=PZ a r J H q;have j:=V5 F hi i B f;have l:IntKind.i64.wrap (F.t.lock:Int)=(F.t.lock:Int):=IntWalk.i64_in _ aq;unfold xZ;generalize ow r=p at *;obtain⟨n,c⟩:=p;simp only at b⊢;refine dE [0,2] [1,3,4,5,6,7,8] [0,2,9,10] (.alt (.step 1 [9] false (bx 3 (bx 4 (bx 5 (bx 6 (bx 7 (.step 8 [10] false .done))))))) (bx 3 (.alt (.step 1 [9] false (bx 4 (bx 5 (bx 6 (bx 7 (.step 8 [10] false .done)))))) (bx 4 (.alt (.step 1 [9] false (bx 5 (bx 6 (bx 7 (.step 8 [10] false .done))))) (bx 5 (.alt (.step 1 [9] false (bx 6 (bx 7 (.step 8 [10] false .done)))) (bx 6 (.alt (.step 1 [9] false (bx 7 (.step 8 [10] false .done))) (bx 7 (.alt (.step 1 [9] false (.step 8 [10] false .done)) (bx 8 (.step 1 [9,10] false .done))))))))))))) ⟨[(0,.ptr 0 0 0 1),(2,.d (.int .i64 n)),(3,.d (.int .i64 (F.t.lock:Int)))],ju 3 (aI (ja F)) ⟨c,J,H⟩ id,9000⟩ (k:=11) ?h3 ?hq
  case h3 =>
    intro G y;rw[bH];simp only[aI,bJ,bI,id,ja,eS];simp (config := { maxSteps := 3000000 }) [go_sem,l]
    repeat' first
      |apply And.intro
      | (refine aR (Pp:=[]) (s:=⟨r,J,H⟩) a b (by simp [bH,aI,bJ,bI,ja,eS]) aq aw (by simp [AV.renL]) ?_
         rintro v e ρ ⟨rfl,rfl⟩ m;rw[bH];simp only[aI,bJ,bI,id,ja,eS]
         simp (config := { maxSteps := 3000000 }) [go_sem,AV.ren,l])
      |(refine y _ _ (b7 ⟨by simp[ai,fv,lk,AV.low,AV.low1],rnW a (dJ rfl) (tf ?_ ?_ ?_),aw⟩)<;>simp[lk,aI,bJ,bI,ja,eS])
  case hq =>
    rw[h,g];by_cases A:n<500000000<;>by_cases c2:(F.t.lock:Int)<500000000<;>by_cases c3:(F.t.lock:Int)<n<;>by_cases c4:(i.seq:Int)=4294967295
    all_goals
      have w:F.t.lock<500000000↔(F.t.lock:Int)<500000000:=aq;have o:i.seq=4294967295↔(i.seq:Int)=4294967295:=aq;simp[go_sem,AO,ab7,A,c2,c3,c4]
    all_goals first
      |(exfalso;omega)
      | (have z:(n<500000000 ↔ (F.t.lock:Int)<500000000)∧¬ (F.t.lock:Int)<n:=aq
         refine aR (Pp:=[]) a (j c J H) (List.nil_append _).symm (dJ rfl) aw (by simp[AV.renL]) ?_;rintro v e ρ ⟨rfl,rfl⟩ m
         simp[go_sem,AV.ren,c4])
      |skip
    all_goals first
      | (have z:(n<500000000 ↔ (F.t.lock:Int)<500000000)∧¬ (F.t.lock:Int)<n∧¬ (i.seq:Int)=4294967295:=aq
         exact aF rfl rfl rfl)
      | (refine aR (Pp:=[]) a (bD a c J H 22) (by first | rfl | exact (List.nil_append _).symm) (dJ rfl) aw (by simp [AV.renL,AV.ren]) ?_
         rintro v e ρ rfl m;rw[bH];generalize aC 22 c=r';simp only[aI,bJ,bI,id];simp[go_sem]
         exact aF rfl rfl rfl)
theorem uX(n:Int)(b:-9223372036854775808≤n)(a:n<9223372036854775808):(BitVec.ofInt 64 n).toNat=(n%18446744073709551616).toNat:=by
 rw[BitVec.toNat_ofInt];rfl
theorem Ji(n:Int)(m:Nat)(a:-9223372036854775808≤n)(b:n<9223372036854775808)(c:m<4294967296):Go.bits .and .i64 n (m:Int)=(((n%18446744073709551616).toNat &&& m:Nat):Int):=by
 show IntKind.i64.wrap (((BitVec.ofInt 64 n) &&& (BitVec.ofInt 64 (m:Int))).toNat:Int)=_;rw[BitVec.toNat_and,uX n a b,uX (m:Int) aq aq];have e:((m:Int)%18446744073709551616).toNat=m:=aq;rw[e];have:(n%18446744073709551616).toNat &&& m≤m:=Nat.and_le_right;exact IntWalk.i64_in _ aq
theorem Ux(x k:Nat):x &&& 2 ^ k=if x.testBit k then 2 ^ k else 0:=by
 apply Nat.eq_of_testBit_eq;intro i;rw[Nat.testBit_and,Nat.testBit_two_pow];by_cases h:k=i;subst h;cases a:x.testBit k<;>simp[Nat.testBit_two_pow_self];cases a:x.testBit k<;>simp[h]
theorem Jj(n:Int)(k:Nat)(c:-9223372036854775808≤n)(d:n<9223372036854775808)(b:k<32)(a:((n%18446744073709551616).toNat/2 ^ k%2=1)=(rD k n=true)):Go.bits .and .i64 n ((2 ^ k:Nat):Int)=if rD k n then((2 ^ k:Nat):Int)else 0:=by
 have e:2 ^ k<2 ^ 32:=Nat.pow_lt_pow_right aq b;rw[Ji n (2 ^ k) c d aq,Ux,Nat.testBit_eq_decide_div_mod_eq];by_cases h:rD k n=true;rw[if_pos h];rw[h,eq_true rfl]at a;simp[a];rw[if_neg h];have:¬((n%18446744073709551616).toNat/2 ^ k%2=1):=by rw[a];exact h
 simp[this]
theorem P1(n:Int)(b:-9223372036854775808≤n)(a:n<9223372036854775808):Go.bits .and .i64 n 2147483648=if rD 31 n then 2147483648 else 0:=by
 refine Jj n 31 b a aq ?_;unfold rD;rw[Int.fdiv_eq_ediv_of_nonneg _ aq];simp only[decide_eq_true_eq];exact propext aq
theorem P2(n:Int)(b:-9223372036854775808≤n)(a:n<9223372036854775808):Go.bits .and .i64 n 4194304=if rD 22 n then 4194304 else 0:=by
 refine Jj n 22 b a aq ?_;unfold rD;rw[Int.fdiv_eq_ediv_of_nonneg _ aq];simp only[decide_eq_true_eq];exact propext aq
theorem P3(n:Int)(b:-9223372036854775808≤n)(a:n<9223372036854775808):Go.bits .and .i64 n 65535=n%65536:=by
 rw[show(65535:Int)=((2 ^ 16-1:Nat):Int)from rfl,Ji n _ b a aq,Nat.and_two_pow_sub_one_eq_mod];omega
theorem P4{b:bc}{n:Int}(c:bytes b)(h:gv 5 b=some n):-9223372036854775808≤n∧n<9223372036854775808:=by
 unfold gv at h;split at h;rename_i i;obtain rfl:=Option.some.inj h;have f:b.length≤5:=aq;rcases fe b with rfl|⟨a,x,rfl⟩;decide;have j:x<256:=c x aw;have d:=ug (b:=a) (fun y g=>c y (List.mem_append_left _ g));simp at f;rw[iW];have hc:a.length=0∨a.length=1∨a.length=2∨a.length=3∨a.length=4:=aq;rcases hc with e|e|e|e|e<;>rw[e]at d⊢<;>simp at d⊢<;>split<;>omega;cases h
theorem K9{r:Rn}(h:StOk r.main r.alt):-9223372036854775808≤(ow r).1∧(ow r).1<9223372036854775808:=by
 unfold ow;obtain⟨_,_,a⟩:=CB h;generalize oG r=p at *;simp only;split;cases b:gv 5 p.1 with
 |none=>simp only;omega
 |some n=>exact P4 a b
 ·simp only;omega
theorem Uy (F:RnF) (x:Rx) (hi:F.inner.length=32) (i:Ip) (D:F.t.ins[F.n]?=some i) (f:i.ok) (B:F.t.ver<4294967296) (l:x.ver=(F.t.ver:Int)) (k:x.seq=(i.seq:Int)) (r:Rn) (J:List Bool) (H:Nat) (q:StOk r.main r.alt) :
    dr Tryz.prog 3 (aI (ja F)) 200 ⟨r,J,H⟩ [.ptr 0 0 0 1] (fun v h=>h=⟨GW x r,J,H⟩):=by
  refine ap Tryz.func200 (by kernel_rfl) rfl Tryz.ntmps200 (rs:=[]) rfl (dJ rfl) (by decide) ?_;have d:=fq (F:=F) hi;have g:=PZ d r J H q;have o:=V5 F hi i D f;have a:=K9 q;have u:=f.2.2;unfold GW;rw[l,k];generalize ow r=p at *;obtain⟨n,c⟩:=p;simp only at g a⊢;have j:=P1 n a.1 a.2;have A:=P1 (i.seq:Int) aq aq;have z:=P2 n a.1 a.2;have w:=P2 (i.seq:Int) aq aq;have y:=P3 n a.1 a.2;have C:=P3 (i.seq:Int) aq aq;generalize rD 31 n=b1 at *;generalize rD 31 (i.seq:Int)=b2 at *;generalize rD 22 n=b3 at *;generalize rD 22 (i.seq:Int)=b4 at *;generalize n%65536=m1 at *;generalize(i.seq:Int)%65536=m2 at *;simp[go_sem];refine eK (Pp:=[]) d g aq aw (by simp[AV.renL]) ?_;rintro v h ρ ⟨rfl,rfl⟩ m;simp[go_sem,AV.ren];refine eK (Pp:=[]) d (o c J H) aq aw (by simp[AV.renL]) ?_;rintro v h ρ ⟨rfl,rfl⟩ m;rw[bH];simp only[aI,bJ,bI,id,ja,eS]
  cases b1
  case true =>
    simp[go_sem,AV.ren,j];exact aF (by simp[lk,aI,bJ,bI]) rfl rfl
  case false =>
    have e:=bD d c J H 22;by_cases E:F.t.ver<2
    · have b:(F.t.ver:Int)<2:=aq
      simp[go_sem,AV.ren,j,b];refine aR (Pp:=[]) (s:=⟨c,J,H⟩) d e (by simp[bH,aI,bJ,bI,ja,eS]) aq aw (by simp[AV.renL,AV.ren]) ?_;rintro v h ρ rfl m;rw[bH];generalize aC 22 c=r';simp only[aI,bJ,bI,id];simp[go_sem];exact aF rfl rfl rfl
    · have b:¬ (F.t.ver:Int)<2:=aq
      cases b2<;>cases b3<;>cases b4<;>by_cases c5:m2<m1
      all_goals simp[go_sem,AV.ren,j,A,z,w,y,C,b,c5]
      all_goals first
        |exact aF (by simp[lk,aI,bJ,bI]) rfl rfl
        | (refine aR (Pp:=[]) (s:=⟨c,J,H⟩) d e (by simp [bH,aI,bJ,bI,ja,eS]) aq aw (by simp [AV.renL,AV.ren]) ?_
           rintro v h ρ rfl m;rw[bH];generalize aC 22 c=r';simp only[aI,bJ,bI,id];simp[go_sem]
           exact aF rfl rfl rfl)
end Go.Proofs.YtmfnimjnneflnaaGreat
