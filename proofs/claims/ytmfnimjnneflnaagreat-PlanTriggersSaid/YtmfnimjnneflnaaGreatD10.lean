/-
 Part 11 of what the claim rests on.
-/
import Derived.Test.YtmfnimjnneflnaaGreatD8
import Derived.Test.YtmfnimjnneflnaaGreatD9
set_option linter.unusedVariables false
set_option linter.unusedSimpArgs false
set_option maxRecDepth 100000
set_option maxHeartbeats 16000000
namespace Go.Proofs.YtmfnimjnneflnaaGreat
open Go.Am Go.Sha Go.Ec
theorem DJ(x:Int):∀v,v∈[AV.d (.int .u64 x)]→v.deep:=by
 intro v a;simp at a;subst a;trivial
theorem Uk{a:List Int}(b:Wn 4 a):(a.map Int.toNat).length=4∧cI a=cW (a.map Int.toNat):=by
 refine⟨by simp[b.1],?_⟩;unfold cI cW;rw[List.map_map];refine List.map_congr_left fun x c=>?_;have:=(b.2 x c).1;simp only[Function.comp_apply];rw[Int.toNat_of_nonneg this]
theorem adh{a b:List Int}(d:Wn 4 a)(f:Wn 4 b):Da (a.map Int.toNat) (b.map Int.toNat) 4<0↔V a<V b:=by
 obtain⟨t,m,p,n,rfl,k,l,s,j⟩:=jX d;obtain⟨o,i,b2,b3,rfl,q,r,k2,k3⟩:=jX f;unfold dQ at *;rw[V4,V4];have h:∀w x y z:Nat,[w,x,y,z].getD 0 0=w:=fun _ _ _ _=>rfl;have g:∀w x y z:Nat,[w,x,y,z].getD 1 0=x:=fun _ _ _ _=>rfl;have c:∀w x y z:Nat,[w,x,y,z].getD 2 0=y:=fun _ _ _ _=>rfl;have e:∀w x y z:Nat,[w,x,y,z].getD 3 0=z:=fun _ _ _ _=>rfl;simp only[List.map_cons,List.map_nil,Da,h,g,c,e]
 repeat' split
 all_goals omega
theorem HU(a b:List Int)(e:Wn 4 a)(f:Wn 4 b):∃c:Int,(c<0↔V a<V b)∧ap Tryz.prog 206 [.agg (cI a),.agg (cI b)] (fun r=>r=.d (.int .i64 c)):=by
 obtain⟨h,i⟩:=Uk e;obtain⟨g,j⟩:=Uk f;rw[i,j];exact⟨_,adh e f,V2 _ _ h g⟩
theorem oo(a:List Int)(d:Wn 4 a):∃r,Wn 4 r∧(V r<pZ∧FV r=FV a*FV a)∧W1 208 a r:=by
 obtain⟨r,e,h,f⟩:=gV a a d d;unfold W2 at f;have c:=d.1;have b:=e.1;have g:List.drop 4 (cI zI)=[]:=aG rfl;refine⟨r,e,h,?_⟩;unfold W1;refine bz Tryz.func208 Tryz.ntmps208 (rs:=[.cell 2 96]) (aF a) ?_;simp[go_sem,c,aa c];refine ag f (aI _ _) ?_;simp[go_sem,b,aa b,g,ai];exact cY rfl
theorem DK(a:List Int)(f:Wn 4 a):∃r,Wn 4 r∧(V r<pZ∧FV r=FV a*FV a*FV a+7)∧W1 190 a r:=by
 obtain⟨s,q,v,o⟩:=oo a f;obtain⟨m,t,y,n⟩:=gV s a q f;obtain⟨r,e,i,l⟩:=aaA m [7,0,0,0] t (jF ⟨aq,aq⟩);have w:FV [7,0,0,0]=7:=F6 7 aq;rw[w,y.2,v.2]at i;unfold W1 at o;unfold W2 at n l;have b:=f.1;have c:=e.1;have h:List.drop 4 (cI zI)=[]:=aG rfl;refine⟨r,e,i,?_⟩;unfold W1;refine bz Tryz.func190 Tryz.ntmps190 (rs:=[.cell 2 96]) (aF a) ?_;simp[go_sem,b,aa b];refine cO [0,2] [1,3,4,5,6] [0,2] (bt 1 (a_ [3,4,5,6])) ⟨[(2,.ptr 32 0 0 1)],[(32,⟨96,4,[cI r]⟩)],9000⟩ (k:=7) ?h3 ?hq
 case h3 =>
  intro G u;have j:∀(g:Fr)(d:Hp),(fv 2 g=.ptr 32 0 0 1∧lk 32 d=some ⟨96,4,[cI r]⟩)→G g d:=by
   rintro g d⟨x,z⟩;refine u _ _ (aV ?_);simp only[av,ah];refine⟨fun p d=>?_,fun p d=>?_,aw⟩;simp only[d_,List.mem_nil_iff,or_false]at d;subst d;exact⟨.inl x.symm,by simp[AV.low,AV.low1]⟩;simp only[d_,List.mem_nil_iff,or_false]at d;subst d;exact⟨.inl z,aw,by intro r e;simp only[d_,List.mem_nil_iff,or_false]at e;subst e;exact aR _ _⟩
  simp[go_sem,b,aa b,c,aa c,h,cZ]
  repeat' first|exact j _ _ ⟨rfl,rfl⟩|(refine j _ _ ?_;simp[fv,lk];done)|refine ag o (aF _) ?_|refine ag n (aI _ _) ?_|refine ag l (aI _ _) ?_|refine ag (eR 7) (DJ _) ?_|apply And.intro|simp[go_sem,b,aa b,c,aa c,h,cZ]
 case hq =>
  simp[go_sem,c,aa c,ai];exact cY rfl
theorem wZ(a:List Int)(f:Wn 4 a):∃b:Bool,(b=true↔V a<pZ)∧ap Tryz.prog 188 [.agg (cI a)] (fun r=>r=.d (.bool b)):=by
 obtain⟨c,g,j⟩:=HU a AL f Dx;have i:V AL=pZ:=by simp[V,AL]
 rw[i]at g;have e:=f.1;refine⟨decide (c<0),by rw[decide_eq_true_iff];exact g,?_⟩;refine bz Tryz.func188 Tryz.ntmps188 (rs:=[.tmp 2]) (aF a) ?_;simp[go_sem,e,aa e];refine cG [0] [(1,[]),(2,[3,4])] 2 (k:=5) ?_;intro G h;simp[go_sem,e,aa e];refine ag kA aw ?_;simp[go_sem];refine ag j (aI _ _) ?_;simp[go_sem,cZ];refine h _ _ ?_;simp[go_sem,ai];exact ae a9 rfl
def cP(x y:List Int)(b:Bool):List AV:=cI x++(cI y++[.d (.bool b)])
theorem bR{x y:List Int}(c:x.length=4)(a:y.length=4)(b:Bool):(cP x y b).length=9:=by simp[cP,fq,c,a]
theorem dA{x y:List Int}(c:x.length=4)(a:y.length=4)(b:Bool):(cP x y b).take 9=cP x y b:=cx (by rw[bR c a];omega)
theorem o8{x y:List Int}(c:x.length=4)(a:y.length=4)(b:Bool):(cP x y b).drop 9=[]:=c_ (by rw[bR c a];omega)
theorem WX{x y:List Int}(a:x.length=4)(b:Bool):(cP x y b).take 4=cI x:=by
 unfold cP;rw[List.take_append_of_le_length (by rw[fq];omega),aa a]
theorem aaC{x y:List Int}(c:x.length=4)(a:y.length=4)(b:Bool):((cP x y b).drop 4).take 4=cI y:=by
 unfold cP;rw[List.drop_append_of_le_length (by rw[fq];omega),aG c,List.nil_append,List.take_append_of_le_length (by rw[fq];omega),aa a]
theorem DL{x y:List Int}(c:x.length=4)(a:y.length=4)(b:Bool):(cP x y b)[8]?=some (.d (.bool b)):=by
 unfold cP;rw[dn (by rw[fq];omega),dn (by simp only[fq];omega)];simp[fq,c,a]
theorem F7{x y:List Int}(c:x.length=4)(a:y.length=4)(b:Bool)(h:8<(cP x y b).length):(cP x y b)[8]=.d (.bool b):=(ci.1 (DL c a b)).2
theorem dL(x y:List Int)(b:Bool):(AV.agg (cP x y b)).deep:=by
 intro v a;unfold cP at a;rcases cD.1 a with a|a;exact i7 _ v a;rcases cD.1 a with a|a;exact i7 _ v a;simp at a;subst a;trivial
theorem dU(x y:List Int)(b:Bool):∀v,v∈[AV.agg (cP x y b)]→v.deep:=by
 intro v a;simp at a;subst a;exact dL _ _ _
theorem eU(n:Nat)(x y:List Int)(b:Bool):∀v,v∈cP x y b→v.low1 n:=by
 intro v a;unfold cP at a;rcases cD.1 a with a|a;exact aR _ _ v a;rcases cD.1 a with a|a;exact aR _ _ v a;simp at a;subst a;trivial
theorem qE{Q:AV→Prop}{st:St}{x y:List Int}{b:Bool}(hq:Q (.agg (cP x y b))):dm Q (.agg (cP x y b)) st:=ae (dL _ _ _) hq
theorem zzP:fK Tryz.prog 189=some (cP zI zI false):=by kernel_rfl
attribute [go_sem] zzP
theorem jG:ap Tryz.prog 160 [] (fun r=>r=.agg (cP zI zI true)):=by
 refine bz Tryz.func160 Tryz.ntmps160 (rs:=[.cell 0 189]) a9 ?_;simp[go_sem,cP,cI,zI,ai];exact qE (x:=zI) (y:=zI) (b:=true) rfl
def lP(x y:List Int)(b:Bool):List L1:=x.map (L1.i .u64)++(y.map (L1.i .u64)++[L1.b b])
theorem NK:∀(x:List Int)(r:List AV),eW (cI x++r)=(eW r).map (x.map (L1.i .u64)++·)
 |[],r=>by simp[cI]
 |a::l,r=>by
  have b:=NK l r;show eW (.d (.int .u64 a)::(cI l++r))=_;have e:eW (.d (.int .u64 a)::(cI l++r))=(eW (cI l++r)).map (L1.i .u64 a::·):=rfl;rw[e,b,Option.map_map];rfl
theorem HV(x y:List Int)(b:Bool):eW (cP x y b)=some (lP x y b):=by
 unfold cP;rw[NK,NK];rfl
theorem ksP:d6 Tryz.prog 8 189=some (List.replicate 8 (some .u64)++[none]):=by kernel_rfl
theorem NL{x y:List Int}(j:x.length=4)(i:y.length=4)(b:Bool):d6 Tryz.prog 8 189=some ((lP x y b).map L1.k):=by
 rw[ksP]
 match x,y,j,i with
 |[a,b,c,d],[e,f,g,h],_,_=>rfl
theorem egP:Tryz.prog.eqGuardType Tryz.prog.depth 189=false:=by kernel_rfl
theorem aaD(x y:List Int)(b:Bool)(z:Wn 4 x)(w:Wn 4 y):∃c:Bool,(c=true↔jq x y b)∧ap Tryz.prog 186 [.agg (cP x y b)] (fun r=>r=.d (.bool c)):=by
 have j:=z.1;have l:=w.1;cases b
 ·obtain⟨t,F,H⟩:=wZ x z;obtain⟨b2,J,O⟩:=wZ y w;obtain⟨s,K,q,L⟩:=oo y w;obtain⟨r,M,B,N⟩:=DK x z;unfold W1 at L N;have p:=K.1;have D:=M.1;have o:∀c:Bool,(cP x y c).take 4=cI x:=WX j;have n:∀c:Bool,((cP x y c).drop 4).take 4=cI y:=aaC j l;have E:(t&&(b2&&decide (s=r)))=true↔jq x y false:=by
   rw[Bool.and_eq_true,Bool.and_eq_true,decide_eq_true_iff,F,J];refine⟨fun⟨C,I,A⟩=>.inr ⟨rfl,C,I,by rw[←q.2,A,B.2]⟩,fun h=>?_⟩;rcases h with ⟨h,_⟩|⟨_,C,I,A⟩;cases h;exact⟨C,I,NJ K M q.1 B.1 (by rw[q.2,B.2,A])⟩
  refine⟨t&&(b2&&decide (s=r)),E,?_⟩;refine bz Tryz.func186 Tryz.ntmps186 (rs:=[.tmp 2]) (dU _ _ _) ?_;simp[go_sem,bR j l,dA j l,DL j l,F7 j l]
  cases t
  ·skip;refine cG [0,1] [(2,[3,4,5]),(6,[7,8,9,10,12,13]),(11,[]),(14,[15,16,17])] 4 (k:=18) ?_;intro G m;simp[go_sem,bR j l,o,n];refine ag H (aF _) ?_;simp[go_sem,cZ];refine m _ _ ?_;simp[go_sem,ai];exact ae a9 rfl
  ·cases b2
   ·skip;refine cG [0,1] [(2,[3,4,5]),(6,[7,8,9,10,12,13]),(11,[]),(14,[15,16,17])] 4 (k:=18) ?_;intro G m;simp[go_sem,bR j l,o,n];refine ag H (aF _) ?_;simp[go_sem,bR j l,o,n,cZ];refine ag O (aF _) ?_;simp[go_sem,cZ];refine m _ _ ?_;simp[go_sem,ai];exact ae a9 rfl
   ·skip;refine cG [0,1] [(2,[3,4,5]),(6,[7,8,9,10,12,13]),(11,[]),(14,[15,16,17])] 4 (k:=18) ?_;intro G m;simp[go_sem,bR j l,o,n];refine ag H (aF _) ?_;simp[go_sem,bR j l,o,n,cZ];refine ag O (aF _) ?_;simp[go_sem,bR j l,o,n,cZ];refine ag L (aF _) ?_;simp[go_sem,bR j l,o,n,cZ];refine ag N (aF _) ?_;simp[go_sem,fM,p,D,cZ];refine m _ _ ?_;simp[go_sem,ai];exact ae a9 rfl
 ·have E:decide (lP x y true=lP zI zI true)=true↔jq x y true:=by
   rw[decide_eq_true_iff];refine⟨fun h=>.inl ⟨rfl,?_⟩,fun h=>?_⟩
   ·match x,y,j,l with
    |[a,b,c,d],[e,f,g,i],_,_ =>
     simp[lP,zI]at h;obtain⟨rfl,rfl,rfl,rfl,rfl,rfl,rfl,rfl⟩:=h;exact⟨rfl,rfl⟩
   ·rcases h with ⟨_,rfl,rfl⟩|⟨h,_⟩;rfl;cases h
  refine⟨decide (lP x y true=lP zI zI true),E,?_⟩;refine bz Tryz.func186 Tryz.ntmps186 (rs:=[.tmp 2]) (dU _ _ _) ?_;simp[go_sem,bR j l,dA j l,DL j l,F7 j l];refine cG [0] [(1,[2,3])] 1 (k:=4) ?_;intro G m;simp[go_sem,bR j l,dA j l];refine ag jG aw ?_;have P:=NL j l true;have k2:=NL (x:=zI) (y:=zI) rfl rfl true;have Q:=HV x y true;have R:=HV zI zI true;generalize lP x y true=u at *;generalize lP zI zI true=v at *;simp[go_sem,Q,R,egP,cZ]
  first|refine⟨P,k2,m _ _ ?_⟩|refine⟨P,m _ _ ?_⟩
  simp[go_sem,ai];exact ae a9 rfl
theorem rY(x y:List Int)(b:Bool)(g:Wn 4 x)(f:Wn 4 y):∃(u v:List Int)(c:Bool),Wn 4 u∧Wn 4 v∧(jq u v c∧(jq x y b→u=x∧v=y∧c=b)∧(¬jq x y b→u=zI∧v=zI∧c=true))∧ap Tryz.prog 161 [.agg (cP x y b)] (fun r=>r=.agg (cP u v c)):=by
 obtain⟨o,i,k⟩:=aaD x y b g f;have d:=g.1;have a:=f.1;have j:(cP zI zI false).drop 9=[]:=o8 rfl rfl _;have l:(cP zI zI true).length=9:=rfl;have m:(cP zI zI true).take 9=cP zI zI true:=dA rfl rfl _;have e:(cP zI zI false).length=9:=rfl;cases o
 ·refine⟨zI,zI,true,iu,iu,⟨tj,fun h=>absurd (i.2 h) (by decide),fun _=>⟨rfl,rfl,rfl⟩⟩,?_⟩;refine bz Tryz.func161 Tryz.ntmps161 (rs:=[.cell 2 189]) (dU _ _ _) ?_;simp[go_sem,bR d a,dA d a];refine ag k (dU _ _ _) ?_;simp[go_sem];refine ag jG aw ?_;simp[go_sem,l,m,j,e,ai];exact qE rfl
 ·refine⟨x,y,b,g,f,⟨i.1 rfl,fun _=>⟨rfl,rfl,rfl⟩,fun h=>absurd (i.1 rfl) h⟩,?_⟩;refine bz Tryz.func161 Tryz.ntmps161 (rs:=[.cell 2 189]) (dU _ _ _) ?_;simp[go_sem,bR d a,dA d a];refine ag k (dU _ _ _) ?_;simp[go_sem,bR d a,dA d a,j,e,ai];exact qE rfl
def cV(x y z:List Int):List AV:=cI x++(cI y++cI z)
theorem eg{x y z:List Int}(b:x.length=4)(a:y.length=4)(hz:z.length=4):(cV x y z).length=12:=by simp[cV,fq,b,a,hz]
theorem dM{x y z:List Int}(b:x.length=4)(a:y.length=4)(hz:z.length=4):(cV x y z).take 12=cV x y z:=cx (by rw[eg b a hz];omega)
theorem lB{x y z:List Int}(b:x.length=4)(a:y.length=4)(hz:z.length=4):(cV x y z).drop 12=[]:=c_ (by rw[eg b a hz];omega)
theorem RD{x y z:List Int}(a:x.length=4):(cV x y z).take 4=cI x:=by
 unfold cV;rw[List.take_append_of_le_length (by rw[fq];omega),aa a]
theorem RE{x y z:List Int}(b:x.length=4)(a:y.length=4):((cV x y z).drop 4).take 4=cI y:=by
 unfold cV;rw[List.drop_append_of_le_length (by rw[fq];omega),aG b,List.nil_append,List.take_append_of_le_length (by rw[fq];omega),aa a]
theorem NM{x y z:List Int}(b:x.length=4)(a:y.length=4)(hz:z.length=4):((cV x y z).drop 8).take 4=cI z:=by
 have e:cV x y z=(cI x++cI y)++cI z:=by simp[cV]
 rw[e,List.drop_append_of_le_length (by simp[fq,b,a]),c_ (by simp[fq,b,a]),List.nil_append,aa hz]
theorem uN(x y z:List Int):(AV.agg (cV x y z)).deep:=by
 intro v a;unfold cV at a;rcases cD.1 a with a|a;exact i7 _ v a;rcases cD.1 a with a|a;exact i7 _ v a;exact i7 _ v a
theorem gh(x y z:List Int):∀v,v∈[AV.agg (cV x y z)]→v.deep:=by
 intro v a;simp at a;subst a;exact uN _ _ _
theorem tn(n:Nat)(x y z:List Int):∀v,v∈cV x y z→v.low1 n:=by
 intro v a;unfold cV at a;rcases cD.1 a with a|a;exact aR _ _ v a;rcases cD.1 a with a|a;exact aR _ _ v a;exact aR _ _ v a
theorem lQ{Q:AV→Prop}{st:St}{x y z:List Int}(hq:Q (.agg (cV x y z))):dm Q (.agg (cV x y z)) st:=ae (uN _ _ _) hq
theorem zzV:fK Tryz.prog 243=some (cV zI zI zI):=by kernel_rfl
attribute [go_sem] zzV
def lj:List Int:=[1,0,0,0]
theorem F8:Wn 4 lj:=jF ⟨aq,aq⟩
theorem o9(x y z:List Int)(f:Wn 4 x)(e:Wn 4 y)(hz:Wn 4 z):ap Tryz.prog 207 [.agg (cV x y z)] (fun r=>r=.d (.bool (decide (z=zI)))):=by
 have c:=f.1;have b:=e.1;have a:=hz.1;refine bz Tryz.func207 Tryz.ntmps207 (rs:=[.tmp 2]) (gh _ _ _) ?_;have g:cn .u64 [AV.d (.int .u64 0),AV.d (.int .u64 0),AV.d (.int .u64 0),AV.d (.int .u64 0)]=some zI:=fM zI;simp[go_sem,eg c b a,dM c b a,NM c b a,fM,g,a,ai];exact ae a9 rfl
theorem NN:V lj=1:=by simp[V,lj]
theorem WY:FV lj=1:=F6 1 aq
theorem aaE:JV lj lj zI=none:=by
 show rV fd (FV lj) (FV lj) (FV zI)=none;rw[A4];exact DI fd _ _
theorem aaF:tm lj lj zI:=by
 have a:V zI=0:=by simp[V,zI]
 refine⟨⟨by rw[NN];decide,by rw[NN];decide,by rw[a];decide⟩,by rw[aaE];trivial⟩
theorem NP:(1:F)≠0:=fd.one
theorem adi(a:F):a=a*(1*1):=by grobner
theorem aaG(a:F):a=a*(1*1*1):=by grobner
theorem WZ(x y:List Int):JV x y lj=some (FV x,FV y):=by
 show rV fd (FV x) (FV y) (FV lj)=_;rw[WY];exact AY fd NP (adi _) (aaG _)
theorem RG{x y:List Int}(h:jq x y false):tm x y lj∧JV x y lj=PV x y false:=by
 have e:JV x y lj=PV x y false:=WZ x y;have b:=lA h;rcases h with ⟨h,_⟩|⟨_,a,c,_⟩;cases h;exact⟨⟨⟨a,c,by rw[NN];decide⟩,by rw[e];exact b⟩,e⟩
theorem mkV{x y:List Int}(i:x.length=4)(j:y.length=4):List.take 8 (cI x++(cI y++List.drop 8 (cI x++[AV.d (.int .u64 0),AV.d (.int .u64 0),AV.d (.int .u64 0),AV.d (.int .u64 0),AV.d (.int .u64 0),AV.d (.int .u64 0),AV.d (.int .u64 0),AV.d (.int .u64 0)])))++(cI [1,0,0,0]++List.drop 12 (cI x++(cI y++List.drop 8 (cI x++[AV.d (.int .u64 0),AV.d (.int .u64 0),AV.d (.int .u64 0),AV.d (.int .u64 0),AV.d (.int .u64 0),AV.d (.int .u64 0),AV.d (.int .u64 0),AV.d (.int .u64 0)]))))=cV x y lj:=by
 match x,y,i,j with
 |[a,b,c,d],[e,f,g,h],_,_=>rfl
theorem oq(x y:List Int)(b:Bool)(g:Wn 4 x)(e:Wn 4 y):∃(u v w:List Int),Wn 4 u∧Wn 4 v∧Wn 4 w∧(jq x y b→tm u v w∧JV u v w=PV x y b)∧ap Tryz.prog 180 [.agg (cP x y b)] (fun r=>r=.agg (cV u v w)):=by
 have a:=g.1;have d:=e.1;cases b
 ·refine⟨x,y,lj,g,e,F8,RG,?_⟩;refine bz Tryz.func180 Tryz.ntmps180 (rs:=[.cell 2 243]) (dU _ _ _) ?_;have i:∀c:Bool,(cP x y c).take 4=cI x:=WX a;have j:∀c:Bool,((cP x y c).drop 4).take 4=cI y:=aaC a d;simp[go_sem,bR a d,dA a d,DL a d,F7 a d];refine cG [0,1,2,3] [(4,[5]),(6,[])] 1 (k:=7) ?_;intro G h;simp[go_sem,bR a d,i,j];refine ag (eR 1) (DJ _) ?_;simp[go_sem,a,d];rw[mkV a d];refine h _ _ ?_;have f:lj.length=4:=rfl;simp[go_sem,eg a d f,dM a d f,ai];exact lQ rfl
 ·refine⟨lj,lj,zI,F8,F8,iu,fun _=>⟨aaF,aaE⟩,?_⟩;refine bz Tryz.func180 Tryz.ntmps180 (rs:=[.cell 2 243]) (dU _ _ _) ?_;simp[go_sem,bR a d,dA a d,DL a d,F7 a d];refine ag (eR 1) (DJ _) ?_;simp[go_sem];refine ag (eR 1) (DJ _) ?_;simp[go_sem,ai];exact lQ (x:=lj) (y:=lj) (z:=zI) rfl
theorem mZ(c:Int)(a:List Int):∀v,v∈[AV.d (.int .u64 c),AV.agg (cI a)]→v.deep:=by
 intro v b;simp at b;rcases b with rfl|rfl;trivial;exact cM _
theorem mq(n:Int)(a:List Int)(p:dQ n)(g:Wn 4 a):∃r,Wn 4 r∧(V r<pZ∧FV r=FV [n,0,0,0]*FV a)∧ap Tryz.prog 211 [.d (.int .u64 n),.agg (cI a)] (fun x=>x=.agg (cI r)):=by
 obtain⟨r,j,o,l⟩:=gV [n,0,0,0] a (jF p) g;unfold W2 at l;have b:=g.1;have c:=j.1;have h:List.drop 4 (cI zI)=[]:=aG rfl;refine⟨r,j,o,?_⟩;refine bz Tryz.func211 Tryz.ntmps211 (rs:=[.cell 4 96]) (mZ _ _) ?_;simp[go_sem,b,aa b];refine cO [0,2] [1,3,4] [0,2] (bt 1 (a_ [3,4])) ⟨[(4,.ptr 32 0 0 1)],[(32,⟨96,4,[cI r]⟩)],9000⟩ (k:=5) ?h3 ?hq
 case h3 =>
  intro G m;have i:∀(e:Fr)(f:Hp),(fv 4 e=.ptr 32 0 0 1∧lk 32 f=some ⟨96,4,[cI r]⟩)→G e f:=by
   rintro e f⟨q,s⟩;exact m _ _ pD
  simp[go_sem,b,aa b,c,aa c,h,cZ]
  repeat' first|exact i _ _ ⟨rfl,rfl⟩|(refine i _ _ ?_;simp[fv,lk];done)|refine ag (eR n) (DJ _) ?_|refine ag l (aI _ _) ?_|apply And.intro|simp[go_sem,b,aa b,c,aa c,h,cZ]
 case hq =>
  simp[go_sem,c,aa c,ai];exact cY rfl
theorem mk8{x y:List Int}(i:x.length=4)(j:y.length=4):List.take 8 (cI x++(cI y++List.drop 8 (cI x++[AV.d (.int .u64 0),AV.d (.int .u64 0),AV.d (.int .u64 0),AV.d (.int .u64 0),AV.d (.int .u64 0),AV.d (.int .u64 0),AV.d (.int .u64 0),AV.d (.int .u64 0)])))=cI x++cI y:=by
 match x,y,i,j with
 |[a,b,c,d],[e,f,g,h],_,_=>rfl
theorem aaH{x y:List Int}(i:x.length=4)(j:y.length=4):List.drop 12 (cI x++(cI y++List.drop 8 (cI x++[AV.d (.int .u64 0),AV.d (.int .u64 0),AV.d (.int .u64 0),AV.d (.int .u64 0),AV.d (.int .u64 0),AV.d (.int .u64 0),AV.d (.int .u64 0),AV.d (.int .u64 0)])))=[]:=by
 match x,y,i,j with
 |[a,b,c,d],[e,f,g,h],_,_=>rfl
theorem w9(x y z:List Int)(hx:Wn 4 x)(hy:Wn 4 y)(hz:Wn 4 z):∃(u v w:List Int),Wn 4 u∧Wn 4 v∧Wn 4 w∧(tm x y z→tm u v w∧JV u v w=sum fd (JV x y z) (JV x y z))∧ap Tryz.prog 183 [.agg (cV x y z)] (fun r=>r=.agg (cV u v w)):=by
 obtain⟨E,h1,g1,f1⟩:=oo y hy;obtain⟨m1,h2,g2,f2⟩:=gV x E hx h1;obtain⟨s,h3,g3,f3⟩:=mq 4 m1 ⟨aq,aq⟩ h2;obtain⟨x2,h4,g4,f4⟩:=oo x hx;obtain⟨m,h5,g5,f5⟩:=mq 3 x2 ⟨aq,aq⟩ h4;obtain⟨m2,h6,g6,f6⟩:=oo m h5;obtain⟨s2,h7,g7,f7⟩:=mq 2 s ⟨aq,aq⟩ h3;obtain⟨X,h8,g8,f8⟩:=rX m2 s2 h6 h7;obtain⟨d,h9,g9,f9⟩:=rX s X h3 h8;obtain⟨e,T,a5,an⟩:=gV m d h5 h9;obtain⟨y4,U,aV,K⟩:=oo E h1;obtain⟨y8,M,ba,aJ⟩:=mq 8 y4 ⟨aq,aq⟩ U;obtain⟨Y,I,L,S⟩:=rX e y8 T M;obtain⟨yz,P,a3,ac⟩:=gV y z hy hz;obtain⟨Z,N,af,a6⟩:=mq 2 yz ⟨aq,aq⟩ P;obtain⟨wu,wv,ww,ab,H,F,a7,aD⟩:=oq zI zI true iu iu;unfold W1 at f1 f4 f6 K;unfold W2 at f2 f8 f9 an S ac;have n:=h1.1;have l2:=h2.1;have o:=h3.1;have l4:=h4.1;have l:=h5.1;have l6:=h6.1;have l7:=h7.1;have f:=h8.1;have l9:=h9.1;have bi:=T.1;have bh:=U.1;have bv:=M.1;have a:=I.1;have bl:=P.1;have t:=N.1;have V:=ab.1;have aA:=H.1;have R:=F.1;have i:=hx.1;have g:=hy.1;have A:=hz.1;have z4:List.drop 4 (cI zI)=[]:=aG rfl;have B:=eg i g A;have vt:=dM i g A;have v1:(cV x y z).take 4=cI x:=RD i;have v2:=RE (z:=z) i g;have v3:=NM i g A;have iz:cn .u64 [AV.d (.int .u64 0),AV.d (.int .u64 0),AV.d (.int .u64 0),AV.d (.int .u64 0)]=some zI:=fM zI;have f0:=o9 x y z hx hy hz;have wd:(cV zI zI zI).drop 12=[]:=lB rfl rfl rfl;have wl:(cV zI zI zI).length=12:=rfl;have ul:=eg V aA R;have ut:=dM V aA R;by_cases D:z=zI∨y=zI
 ·have vv:tm x y z→tm wu wv ww∧JV wu wv ww=sum fd (JV x y z) (JV x y z):=by
   intro p;obtain⟨k1,k2⟩:=a7 tj;rcases D with q|q;have e:JV x y z=none:=by rw[q];show rV fd _ _ (FV zI)=none;rw[A4];exact DI fd _ _
   exact⟨k1,by rw[k2,e,Ju];exact(d0 fd (Q:=none) True.intro).symm⟩;by_cases j:z=zI;have e:JV x y z=none:=by rw[j];show rV fd _ _ (FV zI)=none;rw[A4];exact DI fd _ _
   exact⟨k1,by rw[k2,e,Ju];exact(d0 fd (Q:=none) True.intro).symm⟩;have C:FV z≠0:=fun h=>j ((mY hz p.1.2.2).1 h);exact absurd (by rw[q,A4]) (wX fd C p.2).2.1
  refine⟨wu,wv,ww,ab,H,F,vv,?_⟩;refine bz Tryz.func183 Tryz.ntmps183 (rs:=[.cell 2 243]) (gh _ _ _) ?_;simp[go_sem,B,vt];refine ag f0 (gh _ _ _) ?_;by_cases j:z=zI
  ·simp[go_sem,j];refine ag jG aw ?_;simp[go_sem];refine ag aD (dU _ _ _) ?_;simp[go_sem,ul,ut,wd,wl,ai];exact lQ rfl
  ·have J:y=zI:=D.resolve_left j;simp[go_sem,j,v2,B,fM,iz,g];refine⟨fun _=>?_,fun h=>absurd J h⟩;refine ag jG aw ?_;simp[go_sem];refine ag aD (dU _ _ _) ?_;simp[go_sem,ul,ut,wd,wl,ai];exact lQ rfl
 ·have j:z≠zI:=fun h=>D (.inl h);have J:y≠zI:=fun h=>D (.inr h);have vv:tm x y z→tm X Y Z∧JV X Y Z=sum fd (JV x y z) (JV x y z):=by
   intro p;have C:FV z≠0:=fun h=>j ((mY hz p.1.2.2).1 h);obtain⟨_,_,e⟩:=wX fd C p.2;have n2:FV [2,0,0,0]=2:=F6 2 aq;have n3:FV [3,0,0,0]=3:=F6 3 aq;have n4:FV [4,0,0,0]=4:=F6 4 aq;have n8:FV [8,0,0,0]=8:=F6 8 aq;have eX:FV X=3*(FV x*FV x)*(3*(FV x*FV x))-2*(4*(FV x*(FV y*FV y))):=by
    rw[g8.2,g6.2,g5.2,g4.2,g7.2,g3.2,g2.2,g1.2,n2,n3,n4]
   have eY:FV Y=3*(FV x*FV x)*(4*(FV x*(FV y*FV y))-(3*(FV x*FV x)*(3*(FV x*FV x))-2*(4*(FV x*(FV y*FV y)))))-8*(FV y*FV y*(FV y*FV y)):=by
    rw[L.2,a5.2,g9.2,eX,g5.2,g4.2,g3.2,g2.2,ba.2,aV.2,g1.2,n3,n4,n8]
   have eZ:FV Z=2*(FV y*FV z):=(by rw[af.2,a3.2,n2]);have e2:JV X Y Z=sum fd (JV x y z) (JV x y z):=by
    show rV fd (FV X) (FV Y) (FV Z)=_;rw[eX,eY,eZ];exact e
   exact⟨⟨⟨g8.1,L.1,af.1⟩,by rw[e2];exact qD fd p.2 p.2⟩,e2⟩
  refine⟨X,Y,Z,h8,I,N,vv,?_⟩;refine bz Tryz.func183 Tryz.ntmps183 (rs:=[.cell 2 243]) (gh _ _ _) ?_;simp[go_sem,B,vt];refine ag f0 (gh _ _ _) ?_;simp[go_sem,j,J,v2,B,fM,iz,g];refine ag f1 (aF _) ?_;simp[go_sem,n,aa n,z4,v1,B];refine ag f2 (aI _ _) ?_;simp[go_sem];refine ag f3 (mZ _ _) ?_;simp[go_sem,o,aa o,z4,v1,B];refine ag f4 (aF _) ?_;simp[go_sem];refine ag f5 (mZ _ _) ?_;simp[go_sem,l,aa l,z4];refine cO [0,2] [1,3,4,5,6] [0,2] (.alt (bt 1 (.alt (bx 3 (.alt (a_ [4,5,6]) (a_ [5,4,6]))) (bt 5 (a_ [3,4,6])))) (bt 5 (bt 1 (a_ [3,4,6])))) ⟨[(1,.ptr 0 0 0 1),(2,.ptr 32 0 0 1),(3,.ptr 416 0 0 1),(4,.ptr 640 0 0 1),(5,.ptr 832 0 0 1),(6,.ptr 1056 0 0 1)],[(1056,⟨96,4,[cI X]⟩),(832,⟨96,4,[cI m]⟩),(640,⟨96,4,[cI s]⟩),(416,⟨96,4,[cI E]⟩),(32,⟨243,12,[cV zI zI zI]⟩),(0,⟨243,12,[cV x y z]⟩)],9000⟩ (k:=7) ?h3 ?hq
  case h3 =>
   intro G W;have O:∀(c:Fr)(b:Hp),(fv 1 c=.ptr 0 0 0 1∧fv 2 c=.ptr 32 0 0 1∧fv 3 c=.ptr 416 0 0 1∧fv 4 c=.ptr 640 0 0 1∧fv 5 c=.ptr 832 0 0 1∧fv 6 c=.ptr 1056 0 0 1∧lk 1056 b=some ⟨96,4,[cI X]⟩∧lk 832 b=some ⟨96,4,[cI m]⟩∧lk 640 b=some ⟨96,4,[cI s]⟩∧lk 416 b=some ⟨96,4,[cI E]⟩∧lk 32 b=some ⟨243,12,[cV zI zI zI]⟩∧lk 0 b=some ⟨243,12,[cV x y z]⟩)→G c b:=by
    rintro c b⟨D,j,J,q3,q4,q5,q6,q7,q8,q9,bb,a4⟩;exact W _ _ pD
   simp[go_sem,n,o,l,f,a,aa n,aa o,aa l,aa f,aa a,z4,cZ]
   repeat' first|exact O _ _ ⟨rfl,rfl,rfl,rfl,rfl,rfl,rfl,rfl,rfl,rfl,rfl,rfl⟩|(refine O _ _ ?_;simp[fv,lk];done)|refine ag f6 (aF _) ?_|refine ag f7 (mZ _ _) ?_|refine ag f8 (aI _ _) ?_|apply And.intro|simp[go_sem,n,o,l,f,a,aa n,aa o,aa l,aa f,aa a,z4,cZ]
  case hq =>
   simp[go_sem];refine cO [0,1,2,5] [3,4,6,7,8,9,10] [0,1,2,5] (.alt (bt 3 (.alt (bt 4 (.alt (bx 6 (.alt (bx 7 (.alt (a_ [8,9,10]) (a_ [9,8,10]))) (a_ [9,7,8,10]))) (bt 9 (a_ [6,7,8,10])))) (bt 9 (bt 4 (a_ [6,7,8,10]))))) (bt 9 (bt 3 (bt 4 (a_ [6,7,8,10]))))) ⟨[(1,.ptr 0 0 0 1),(2,.ptr 32 0 0 1),(3,.ptr 416 0 0 1),(4,.ptr 640 0 0 1),(5,.ptr 832 0 0 1),(6,.ptr 1056 0 0 1),(7,.ptr 9288 0 0 1)],[(9288,⟨96,4,[cI Y]⟩),(1056,⟨96,4,[cI X]⟩),(832,⟨96,4,[cI m]⟩),(640,⟨96,4,[cI s]⟩),(416,⟨96,4,[cI E]⟩),(32,⟨243,12,[cV zI zI zI]⟩),(0,⟨243,12,[cV x y z]⟩)],20000⟩ (k:=11) ?h3 ?hq
   case h3 =>
    intro G W;have O:∀(c:Fr)(b:Hp),(fv 1 c=.ptr 0 0 0 1∧fv 2 c=.ptr 32 0 0 1∧fv 3 c=.ptr 416 0 0 1∧fv 4 c=.ptr 640 0 0 1∧fv 5 c=.ptr 832 0 0 1∧fv 6 c=.ptr 1056 0 0 1∧fv 7 c=.ptr 9288 0 0 1∧lk 9288 b=some ⟨96,4,[cI Y]⟩∧lk 1056 b=some ⟨96,4,[cI X]⟩∧lk 832 b=some ⟨96,4,[cI m]⟩∧lk 640 b=some ⟨96,4,[cI s]⟩∧lk 416 b=some ⟨96,4,[cI E]⟩∧lk 32 b=some ⟨243,12,[cV zI zI zI]⟩∧lk 0 b=some ⟨243,12,[cV x y z]⟩)→G c b:=by
     rintro c b⟨D,j,J,q3,q4,q5,q6,q7,q8,q9,bb,a4,bq,bj⟩;exact W _ _ pD
    simp[go_sem,n,o,l,f,a,aa n,aa o,aa l,aa f,aa a,z4,cZ]
    repeat' first|exact O _ _ ⟨rfl,rfl,rfl,rfl,rfl,rfl,rfl,rfl,rfl,rfl,rfl,rfl,rfl,rfl⟩|(refine O _ _ ?_;simp[fv,lk];done)|refine ag f9 (aI _ _) ?_|refine ag an (aI _ _) ?_|refine ag K (aF _) ?_|refine ag aJ (mZ _ _) ?_|refine ag S (aI _ _) ?_|apply And.intro|simp[go_sem,n,o,l,f,a,aa n,aa o,aa l,aa f,aa a,z4,cZ]
   case hq =>
    simp only[go_sem,Nat.reduceEqDiff,Nat.reduceAdd,Nat.reduceLT,↓reduceIte];refine cG [0,1,2,3,4,5] [(6,[]),(7,[8]),(9,[])] 2 (k:=10) ?_;intro G W;simp[go_sem,f,a,aa f,aa a,v2,v3,B];refine ag ac (aI _ _) ?_;simp[go_sem];refine ag a6 (mZ _ _) ?_;have ev:cI X++(cI Y++cI Z)=cV X Y Z:=rfl;have xl:=eg f a t;have xt:=dM f a t;simp[go_sem,f,a,t,wl,wd,mk8 f a,aaH f a,ev,xl,cZ];refine W _ _ ?_;simp[go_sem,xl,xt,ai];exact lQ rfl
theorem mkP{x y:List Int}(i:x.length=4)(j:y.length=4):cI x++(cI y++List.drop 8 (cI x++[AV.d (.int .u64 0),AV.d (.int .u64 0),AV.d (.int .u64 0),AV.d (.int .u64 0),AV.d (.bool false)]))=cP x y false:=by
 match x,y,i,j with
 |[a,b,c,d],[e,f,g,h],_,_=>rfl
theorem NQ(x y z:List Int)(s:Wn 4 x)(q:Wn 4 y)(hz:Wn 4 z):∃(u v:List Int)(c:Bool),Wn 4 u∧Wn 4 v∧(tm x y z→jq u v c∧PV u v c=JV x y z)∧ap Tryz.prog 185 [.agg (cV x y z)] (fun r=>r=.agg (cP u v c)):=by
 obtain⟨i,w,g1,S⟩:=aaB z hz;obtain⟨i2,B,U,O⟩:=oo i w;obtain⟨X,J,I,M⟩:=gV x i2 s B;obtain⟨i3,h4,V,N⟩:=gV i2 i B w;obtain⟨Y,L,F,E⟩:=gV y i3 q h4;unfold W1 at S O;unfold W2 at M N E;have f:=w.1;have g:=B.1;have n:=J.1;have o:=L.1;have a:=s.1;have b:=q.1;have d:=hz.1;have z4:List.drop 4 (cI zI)=[]:=aG rfl;have l:=eg a b d;have Q:=dM a b d;have H:(cV x y z).take 4=cI x:=RD a;have P:=RE (z:=z) a b;have v3:=NM a b d;have K:=o9 x y z s q hz;have R:(cP zI zI false).drop 9=[]:=o8 rfl rfl _;have Z:(cP zI zI true).length=9:=rfl;have zt:(cP zI zI true).take 9=cP zI zI true:=dA rfl rfl _;have m:(cP zI zI false).length=9:=rfl;by_cases p:z=zI
 ·have t:tm x y z→jq zI zI true∧PV zI zI true=JV x y z:=by
   intro _;refine⟨tj,?_⟩;rw[p,Ju];show none=rV fd _ _ (FV zI);rw[A4];exact(DI fd _ _).symm
  refine⟨zI,zI,true,iu,iu,t,?_⟩;refine bz Tryz.func185 Tryz.ntmps185 (rs:=[.cell 2 189]) (gh _ _ _) ?_;simp[go_sem,l,Q];refine ag K (gh _ _ _) ?_;simp[go_sem,p];refine ag jG aw ?_;simp[go_sem,Z,zt,R,m,ai];exact qE rfl
 ·have t:tm x y z→jq X Y false∧PV X Y false=JV x y z:=by
   intro D;have C:FV z≠0:=fun h=>p ((mY hz D.1.2.2).1 h);have e:PV X Y false=JV x y z:=by
    show some (FV X,FV Y)=rV fd (FV x) (FV y) (FV z);rw[rV,if_neg C,I.2,F.2,V.2,U.2,g1.2]
   have W:gz (PV X Y false):=by rw[e];exact D.2
   exact⟨.inr ⟨rfl,I.1,F.1,W⟩,e⟩
  refine⟨X,Y,false,J,L,t,?_⟩;refine bz Tryz.func185 Tryz.ntmps185 (rs:=[.cell 2 189]) (gh _ _ _) ?_;simp[go_sem,l,Q];refine ag K (gh _ _ _) ?_;simp[go_sem,p,v3,l];refine ag S (aF _) ?_;simp[go_sem,f,aa f,z4];refine ag O (aF _) ?_;simp[go_sem,g,aa g,z4];refine cG [0,1,2,4,5,6,7] [(3,[]),(8,[]),(9,[10]),(11,[])] 3 (k:=12) ?_;intro G T;simp[go_sem,f,g,aa f,aa g,H,P,l];refine ag M (aI _ _) ?_;simp[go_sem,f,g,aa f,aa g,H,P,l];refine ag N (aI _ _) ?_;simp[go_sem];refine ag E (aI _ _) ?_;have j:=bR n o false;have A:=dA n o false;have mp:=mkP n o;simp[go_sem,n,o,m,R,mp,j,cZ];refine T _ _ ?_;simp[go_sem,j,A,ai];exact qE rfl
theorem W0(n:List Int)(k:Nat)(p:Wn 4 n)(u:k<256):∃b:Bool,(b=true↔(V n).toNat/2 ^ k%2=1)∧ap Tryz.prog 184 [.agg (cI n),.d (.int .i64 (k:Int))] (fun r=>r=.d (.bool b)):=by
 have a:=p.1;have w:dq k=k/64:=rfl;have t:rq k=k%64:=rfl;have f:=jW (l:=n) (k:=dq k) aq;have j:IntKind.i64.wrap ((k:Int)/64)=(dq k:Int):=by rw[IntWalk.i64_in _ aq];omega
 have i:IntKind.i64.wrap ((k:Int).tdiv 64)=(dq k:Int):=j;have m:(k:Int)%64=(rq k:Int):=aq;have e:(k:Int).tmod 64=(rq k:Int):=m;have q:(dq k:Int)<4:=aq;have c:rq k<64:=aq;have g:min (rq k) 64=rq k:=aq;have o:=Uc p u;have v:(!decide (Go.bits .and .u64 (Int.fdiv (gI n (dq k)) (2 ^ rq k)) 1=0))=true↔(V n).toNat/2 ^ k%2=1:=by
  rw[Bool.not_eq_true',decide_eq_false_iff_not];refine⟨fun h=>o.2 h,fun h s=>?_⟩;have:=o.1 s;omega
 refine⟨!decide (Go.bits .and .u64 (Int.fdiv (gI n (dq k)) (2 ^ rq k)) 1=0),v,?_⟩;refine bz Tryz.func184 Tryz.ntmps184 (rs:=[.tmp 4]) (HI _ _) ?_;simp[go_sem,a,aa a,f,m,e,j,i,q,c,g,IntKind.bits,ai];exact ae a9 rfl
theorem uO(x y:List Int)(b:Bool)(w:Wn 4 x)(t:Wn 4 y):∃o:Bool,(jq x y b→(o=true↔b=false∧V y%2=0))∧ap Tryz.prog 127 [.agg (cP x y b)] (fun r=>r=.d (.bool o)):=by
 obtain⟨u,v,c,E,m,q,B⟩:=rY x y b w t;have g:=w.1;have a:=t.1;have f:=E.1;have i:=m.1;have z:(cP x y b).drop 9=[]:=o8 g a _;have s:(cP u v false)[4]?=some (.d (.int .u64 (gI v 0))):=by
  unfold cP;rw[dn (by rw[fq];omega),fq,f,List.getElem?_append_left (by rw[fq];omega),FP,jW aq];rfl
 have p:∀h,(cP u v false)[4]'h=.d (.int .u64 (gI v 0)):=fun h=>(ci.1 s).2;cases c
 ·have j:Go.bits .and .u64 (gI v 0) 1=0↔V v%2=0:=by
   have A:=dy (k:=0) m;rw[AS _ A.1 A.2];obtain⟨D,H,G,F,e,_⟩:=jX m;rw[e,V4];show D%2=0↔_;omega
  have ev:jq x y b→(decide (Go.bits .and .u64 (gI v 0) 1=0)=true↔b=false∧V y%2=0):=by
   intro n;obtain⟨_,C,l⟩:=q.2.1 n;rw[decide_eq_true_iff,j,C];exact⟨fun h=>⟨l.symm,h⟩,fun h=>h.2⟩
  refine⟨decide (Go.bits .and .u64 (gI v 0) 1=0),ev,?_⟩;refine bz Tryz.func127 Tryz.ntmps127 (rs:=[.tmp 2]) (dU _ _ _) ?_;simp[go_sem,bR g a,dA g a];refine ag B (dU _ _ _) ?_;simp[go_sem,bR g a,bR f i,z,DL f i,F7 f i,s,p,ai];exact ae a9 rfl
 ·have ev:jq x y b→(false=true↔b=false∧V y%2=0):=by
   intro n;obtain⟨_,_,l⟩:=q.2.1 n;rw[←l];exact⟨fun h=>Bool.noConfusion h,fun h=>Bool.noConfusion h.1⟩
  refine⟨false,ev,?_⟩;refine bz Tryz.func127 Tryz.ntmps127 (rs:=[.tmp 2]) (dU _ _ _) ?_;simp[go_sem,bR g a,dA g a];refine ag B (dU _ _ _) ?_;simp[go_sem,bR g a,bR f i,z,DL f i,F7 f i,ai];exact ae a9 rfl
def gX:List Int:=[6481385041966929816,188021827762530521,6170039885052185351,8772561819708210092]
theorem RH:Wn 4 gX:=⟨rfl,by intro y a;simp[gX]at a;rcases a with rfl|rfl|rfl|rfl<;>exact⟨aq,aq⟩⟩
def gY:List Int:=[11261198710074299576,18237243440184513561,6747795201694173352,5204712524664259685]
theorem RI:Wn 4 gY:=⟨rfl,by intro y a;simp[gY]at a;rcases a with rfl|rfl|rfl|rfl<;>exact⟨aq,aq⟩⟩
def F9:List Int:=[13822214165235122497,13451932020343611451,18446744073709551614,18446744073709551615]
theorem y5:Wn 4 F9:=⟨rfl,by intro y a;simp[F9]at a;rcases a with rfl|rfl|rfl|rfl<;>exact⟨aq,aq⟩⟩
theorem kY:ap Tryz.prog 158 [] (fun r=>r=.agg (cI F9)):=by
 refine bz Tryz.func158 Tryz.ntmps158 (rs:=[.cell 0 96]) a9 ?_;simp[go_sem,cI,zI,ai];exact cY (a:=F9) rfl
theorem pe:jq gX gY false:=by
 have a:V gX=55066263022277343669578718895168534326250603453777594175500187360389116729240:=by simp[V,gX]
 have b:V gY=32670510020758816978083085130507043184471273380659243275938904335757337482424:=by simp[V,gY]
 refine .inr ⟨rfl,by rw[a];decide,by rw[b];decide,nq ?_⟩;have c:(((7:F).val:Nat):Int)=7%pZ:=by
  show((7%pP:Nat):Int)=_;rw[Int.natCast_emod,ef];rfl
 rw[um,Js,um,um,Int.natCast_emod,Int.natCast_mul,Int.natCast_emod,Int.natCast_add,Int.natCast_emod,Int.natCast_mul,Int.natCast_emod,Int.natCast_mul,dT,dT,c,ef,a,b];decide
theorem rZ:ap Tryz.prog 126 [] (fun r=>r=.agg (cP gX gY false)):=by
 refine bz Tryz.func126 Tryz.ntmps126 (rs:=[.cell 0 189]) a9 ?_;simp[go_sem,cP,cI,zI,ai];exact qE (x:=gX) (y:=gY) (b:=false) rfl
theorem uP:∀(l:List Nat),(∀x,x∈l→x<256)→∀a,l.foldl (fun a x=>a*256+x) a<(a+1)*256 ^ l.length
 |[],_,a=>by simp
 |x::r,h,a=>by
  have c:=uP r (fun y b=>h y (by simp[b])) (a*256+x);have f:=h x aw;rw[List.foldl_cons,List.length_cons,Nat.pow_succ];have e:(a*256+x+1)*256 ^ r.length≤((a+1)*256)*256 ^ r.length:=d9 _ aq;have d:(a+1)*256*256 ^ r.length=(a+1)*(256 ^ r.length*256):=by rw[Nat.mul_assoc,Nat.mul_comm 256]
  omega
theorem Fz{l:List Nat}(h:∀x,x∈l→x<256)(a:l.length≤8):eo l<18446744073709551616:=by
 have b:=uP l h 0;have d:256 ^ l.length≤256 ^ 8:=Nat.pow_le_pow_right aq a;have c:(256:Nat) ^ 8=18446744073709551616:=by decide
 unfold eo;omega
theorem uQ(a b:List Nat):eo (a++b)=eo a*256 ^ b.length+eo b:=by
 have d:∀(l:List Nat)(c:Nat),l.foldl (fun a x=>a*256+x) c=c*256 ^ l.length+l.foldl (fun a x=>a*256+x) 0:=by
  intro l
  induction l with
  |nil=>intro c;simp
  | cons x r ih =>
   intro c;rw[List.foldl_cons,List.foldl_cons,ih,ih (0*256+x),List.length_cons,Nat.pow_succ];have:(c*256+x)*256 ^ r.length=c*(256 ^ r.length*256)+(0*256+x)*256 ^ r.length:=by
    rw[Nat.add_mul,Nat.mul_assoc,Nat.mul_comm 256,Nat.zero_mul,Nat.zero_add]
   omega
 unfold eo;rw[List.foldl_append,d]
theorem W4{b:List Nat}(i:b.length=32):V ((xR b 32).map fun(x:Nat)=>(x:Int))=(eo b:Int):=by
 have e:b=Go.Sha.part b 32 3++(Go.Sha.part b 32 2++(Go.Sha.part b 32 1++Go.Sha.part b 32 0)):=by
  unfold Go.Sha.part;have c:b.take 32=b:=cx aq;rw[c];have d:(b.drop (8*(3-0))).take 8=b.drop 24:=cx (by rw[et];omega);have g:(b.drop (8*(3-1))).take 8++b.drop 24=b.drop 16:=by
   have:b.drop 24=(b.drop 16).drop 8:=(by rw[List.drop_drop]);rw[this];exact List.take_append_drop 8 _
  have f:(b.drop (8*(3-2))).take 8++b.drop 16=b.drop 8:=by
   have:b.drop 16=(b.drop 8).drop 8:=(by rw[List.drop_drop]);rw[this];exact List.take_append_drop 8 _
  rw[d,g,f];exact(List.take_append_drop 8 b).symm
 have a:∀j,j<4→(Go.Sha.part b 32 j).length=8:=by
  intro j h;unfold Go.Sha.part;rw[List.length_take,et,List.length_take];omega
 have m:xR b 32=[eo (Go.Sha.part b 32 0),eo (Go.Sha.part b 32 1),eo (Go.Sha.part b 32 2),eo (Go.Sha.part b 32 3)]:=rfl;have k:eo b=((eo (Go.Sha.part b 32 3)*256 ^ 8+eo (Go.Sha.part b 32 2))*256 ^ 8+eo (Go.Sha.part b 32 1))*256 ^ 8+eo (Go.Sha.part b 32 0):=by
  conv=>lhs;rw[e]
  rw[←cA,←cA,uQ,a 0 aq,uQ,a 1 aq,uQ,a 2 aq]
 rw[m,k];simp only[List.map_cons,List.map_nil,V4];generalize eo (Go.Sha.part b 32 0)=p0;generalize eo (Go.Sha.part b 32 1)=p1;generalize eo (Go.Sha.part b 32 2)=p2;generalize eo (Go.Sha.part b 32 3)=p3;omega
theorem r7(b:List Nat)(g:b.length=32)(c:bytes b):∃a:List Int,Wn 4 a∧V a=(eo b:Int)∧ap Tryz.prog 164 [.agg (cb b)] (fun r=>r=.agg (cI a)):=by
 refine⟨(xR b 32).map fun(x:Nat)=>(x:Int),⟨by simp[xR],fun x d=>?_⟩,W4 g,?_⟩;rw[List.mem_map]at d;obtain⟨y,f,rfl⟩:=d;unfold xR at f;rw[List.mem_map]at f;obtain⟨j,_,rfl⟩:=f;have:=Fz (l:=Go.Sha.part b 32 j) (fun x d=>c x (List.mem_of_mem_take (List.mem_of_mem_drop (List.mem_of_mem_take d)))) (by unfold Go.Sha.part;rw[List.length_take];omega);exact⟨Int.natCast_nonneg _,aq⟩;have e:cI ((xR b 32).map fun(x:Nat)=>(x:Int))=cW (xR b 32):=by unfold cI cW;rw[List.map_map];rfl
 rw[e];exact QO b g c
theorem cv(b:List Nat):∀v,v∈[AV.agg (cb b)]→v.deep:=by
 intro v a;simp at a;subst a;exact dc _
theorem xc(b:List Nat)(f:b.length=32)(m:bytes b):∃(r:List Int)(n:Bool),Wn 4 r∧((eo b<115792089237316195423570985008687907852837564279074904382605163141518161494337→n=true∧V r=(eo b:Int))∧(¬eo b<115792089237316195423570985008687907852837564279074904382605163141518161494337→n=false∧r=zI))∧ap Tryz.prog 178 [.agg (cb b)] (fun x=>x=.tup [.agg (cI r),.d (.bool n)]):=by
 obtain⟨a,l,p,t⟩:=r7 b f m;obtain⟨c,j,q⟩:=HU a F9 l y5;have u:V F9=115792089237316195423570985008687907852837564279074904382605163141518161494337:=by simp[V,F9]
 rw[u,p]at j;have e:=l.1;have g:List.drop 4 (cI zI)=[]:=aG rfl;have s:List.drop 32 (cb b)=[]:=fg f;by_cases o:0≤c
 ·refine⟨zI,false,iu,⟨fun h=>absurd (j.2 aq) aq,fun _=>⟨rfl,rfl⟩⟩,?_⟩;refine bz Tryz.func178 Tryz.ntmps178 (rs:=[.cell 2 96,.tmp 3]) (cv b) ?_;simp[go_sem,aj,f,al f,s];refine ag t (cv _) ?_;simp[go_sem,e,aa e,g];refine cG [0] [(1,[]),(2,[3])] 2 (k:=4) ?_;intro G i;simp[go_sem,e,aa e];refine ag kY aw ?_;simp[go_sem];refine ag q (aI _ _) ?_;simp[go_sem,cZ];refine i _ _ ?_;simp[go_sem,o,g,ai];exact o6 (a:=zI) rfl
 ·refine⟨a,true,l,⟨fun _=>⟨rfl,p⟩,fun h=>absurd (j.1 aq) aq⟩,?_⟩;refine bz Tryz.func178 Tryz.ntmps178 (rs:=[.cell 2 96,.tmp 3]) (cv b) ?_;simp[go_sem,aj,f,al f,s];refine ag t (cv _) ?_;simp[go_sem,e,aa e,g];refine cG [0] [(1,[]),(2,[3])] 2 (k:=4) ?_;intro G i;simp[go_sem,e,aa e];refine ag kY aw ?_;simp[go_sem];refine ag q (aI _ _) ?_;simp[go_sem,cZ];refine i _ _ ?_;simp[go_sem,o,e,aa e,g,ai];exact o6 rfl
theorem A5{Q:AV→Prop}{st:St}{x y:List Int}{c b:Bool}(hq:Q (.tup [.agg (cP x y c),.d (.bool b)])):dm Q (.tup [.agg (cP x y c),.d (.bool b)]) st :=
 ae (by
  intro c hc;simp at hc;rcases hc with rfl|rfl;exact .inr ⟨_,rfl,dL _ _ _⟩
  exact .inl trivial) hq
def jY(n:Nat):Int:=((n:Int)*n*n+7)%115792089237316195423570985008687907853269984665640564039457584007908834671663
def gW(n:Nat):Int:=jY n ^ 28948022309329048855892746252171976963317496166410141009864396001977208667916%115792089237316195423570985008687907853269984665640564039457584007908834671663
def lR(n:Nat):Prop:=(n:Int)<115792089237316195423570985008687907853269984665640564039457584007908834671663∧gW n*gW n%115792089237316195423570985008687907853269984665640564039457584007908834671663=jY n%115792089237316195423570985008687907853269984665640564039457584007908834671663
def NR(n:Nat)(x y:List Int)(c a:Bool):Prop :=
 (¬lR n∧a=false∧c=true∧x=zI∧y=zI)∨(lR n∧a=true∧c=false∧V x=n∧V y=if gW n%2=0 then gW n else(0-gW n)%115792089237316195423570985008687907853269984665640564039457584007908834671663)
theorem RJ{r a:List Int}{n:Nat}(f:Wn 4 r)(c:V a=n)(b:V r<pZ∧FV r=FV a*FV a*FV a+7):V r=jY n:=by
 have e:=congrArg (fun x:F=>((x.val:Nat):Int)) b.2;simp only[dT]at e;have g:(((7:F).val:Nat):Int)=7%pZ:=by
  show((7%pP:Nat):Int)=_;rw[Int.natCast_emod,ef];rfl
 have d:=(eC f).1;rw[Int.emod_eq_of_lt d b.1]at e;rw[e,Js,um,um,Int.natCast_emod,Int.natCast_add,Int.natCast_emod,Int.natCast_mul,Int.natCast_emod,Int.natCast_mul,dT,g,ef,c];unfold jY;show _=((n:Int)*n*n+7)%pZ;rw[←Int.mul_emod (n:Int) n,←Int.mul_emod ((n:Int)*n) n,←Int.add_emod]
theorem xe(b:List Nat)(g:b.length=32)(q:bytes b):∃(x y:List Int)(c l:Bool),Wn 4 x∧Wn 4 y∧(NR (eo b) x y c l)∧ap Tryz.prog 165 [.agg (cb b)] (fun r=>r=.tup [.agg (cP x y c),.d (.bool l)]):=by
 obtain⟨a,k,s,A⟩:=r7 b g q;obtain⟨o,B,u⟩:=wZ a k;obtain⟨r,E,I,t⟩:=DK a k;obtain⟨y,l,C,w,G,J,H⟩:=Nn r E;have n:V r=jY (eo b):=RJ E s I;rw[s]at B;rw[n]at w G;unfold W1 at t;have e:=k.1;have f:=C.1;have j:List.drop 4 (cI zI)=[]:=aG rfl;have z:List.drop 32 (cb b)=[]:=fg g;have p:(cP zI zI false).drop 9=[]:=o8 rfl rfl _;have D:(cP zI zI true).length=9:=rfl;have F:(cP zI zI true).take 9=cP zI zI true:=dA rfl rfl _;have i:(cP zI zI false).length=9:=rfl;cases o
 ·refine⟨zI,zI,true,false,iu,iu,.inl ⟨fun h=>absurd (B.2 h.1) (by decide),rfl,rfl,rfl,rfl⟩,?_⟩;refine bz Tryz.func165 Tryz.ntmps165 (rs:=[.cell 2 189,.tmp 3]) (cv b) ?_;simp[go_sem,aj,g,al g,z];refine ag A (cv _) ?_;simp[go_sem,e,aa e,j];refine ag u (aF _) ?_;simp[go_sem];refine ag jG aw ?_;simp[go_sem,D,F,p,i,ai];exact A5 rfl
 ·cases l
  ·refine⟨zI,zI,true,false,iu,iu,.inl ⟨fun h=>absurd (w.2 h.2) (by decide),rfl,rfl,rfl,rfl⟩,?_⟩;refine bz Tryz.func165 Tryz.ntmps165 (rs:=[.cell 2 189,.tmp 3]) (cv b) ?_;simp[go_sem,aj,g,al g,z];refine ag A (cv _) ?_;simp[go_sem,e,aa e,j];refine ag u (aF _) ?_;simp[go_sem,e,aa e];refine ag t (aF _) ?_;simp[go_sem];refine ag H (aF _) ?_;simp[go_sem,f,aa f,j];refine ag jG aw ?_;simp[go_sem,D,F,p,i,ai];exact A5 rfl
  ·refine⟨a,y,false,true,k,C,.inr ⟨⟨B.1 rfl,w.1 rfl⟩,rfl,rfl,s,G rfl⟩,?_⟩;refine bz Tryz.func165 Tryz.ntmps165 (rs:=[.cell 2 189,.tmp 3]) (cv b) ?_;simp[go_sem,aj,g,al g,z];refine ag A (cv _) ?_;simp[go_sem,e,aa e,j];refine ag u (aF _) ?_;simp[go_sem,e,aa e];refine ag t (aF _) ?_;simp[go_sem];refine ag H (aF _) ?_;have mp:=mkP e f;have m:=bR e f false;have v:=dA e f false;simp[go_sem,e,f,aa e,aa f,j,mp,m,v,p,i,ai];exact A5 rfl
def d8(i:Nat):Nat:=i/8
def r8(i:Nat):Nat:=8*(i%8)
def W5(a:List Int)(k:Nat):Nat:=(IntKind.u8.wrap (Int.fdiv (gI a (d8 k)) (2 ^ r8 k))).toNat
def OY(a:List Int)(k:Nat)(l:List Nat):List Nat:=l.set (31-k) (W5 a k)
theorem NS(a:List Int)(k:Nat):IntKind.u8.wrap (Int.fdiv (gI a (d8 k)) (2 ^ r8 k))=((W5 a k:Nat):Int):=by
 unfold W5;have:IntKind.u8.wrap (Int.fdiv (gI a (d8 k)) (2 ^ r8 k))=(Int.fdiv (gI a (d8 k)) (2 ^ r8 k))%256:=by simp[IntKind.wrap,IntKind.bits,IntKind.signed]
 rw[this];omega
theorem W6(a:List Int)(k:Nat):W5 a k<256:=by
 have h:=NS a k;have:IntKind.u8.wrap (Int.fdiv (gI a (d8 k)) (2 ^ r8 k))=(Int.fdiv (gI a (d8 k)) (2 ^ r8 k))%256:=by simp[IntKind.wrap,IntKind.bits,IntKind.signed]
 rw[this]at h;omega
theorem Ge(a:List Int):∀k,(fJ (OY a) z32 k).length=32∧bytes (fJ (OY a) z32 k) :=
 jD (P:=fun _ l=>l.length=32∧bytes l) ⟨rfl,fun x b=>by simp[z32]at b;omega⟩ fun k l c=>by
  refine⟨by unfold OY;rw[List.length_set];exact c.1,fun x b=>?_⟩;rcases List.mem_or_eq_of_mem_set b with b|rfl;exact c.2 x b;exact W6 _ _
theorem aaI{a:List Int}(g:Wn 4 a){k:Nat}(o:k<32):W5 a k=(V a).toNat/256 ^ k%256:=by
 have l:=Nj g (j:=k/8) aq;have d:=NS a k;have n:IntKind.u8.wrap (Int.fdiv (gI a (d8 k)) (2 ^ r8 k))=(Int.fdiv (gI a (d8 k)) (2 ^ r8 k))%256:=by simp[IntKind.wrap,IntKind.bits,IntKind.signed]
 have h:d8 k=k/8:=rfl;have m:r8 k=8*(k%8):=rfl;rw[n,h,m,←l,Int.fdiv_eq_ediv_of_nonneg _ (Int.le_of_lt (Int.pow_pos aq))]at d;generalize(V a).toNat=N at *;have f:W5 a k=N/2 ^ (64*(k/8))%2 ^ 64/2 ^ (8*(k%8))%256:=by
  have e:∀(z s:Nat),(((z/2 ^ s%256:Nat)):Int)=(z:Int)/2 ^ s%256:=fun z s=>by rw[Int.natCast_emod,Int.natCast_ediv,Int.natCast_pow];rfl
  exact(Int.ofNat_inj.1 ((e _ _).trans d)).symm
 rw[f];have c:(2:Nat) ^ 64=2 ^ (8*(k%8))*2 ^ (64-8*(k%8)):=by rw[←Nat.pow_add];congr 1;omega
 have i:(256:Nat)∣2 ^ (64-8*(k%8)):=⟨2 ^ (56-8*(k%8)),by rw[show(256:Nat)=2 ^ 8 from rfl,←Nat.pow_add];congr 1;omega⟩;have b:(256:Nat) ^ k=2 ^ (64*(k/8))*2 ^ (8*(k%8)):=by
  rw[show(256:Nat)=2 ^ 8 from rfl,←Nat.pow_mul,←Nat.pow_add];congr 1;omega
 rw[c,Nat.mod_mul_right_div_self,Nat.mod_mod_of_dvd _ i,Nat.div_div_eq_div_mul,←b]
def Gf(a:List Int):Nat→List Nat
 |0=>[]
 |k+1=>W5 a k::Gf a k
theorem DN(a:List Int):∀k,(Gf a k).length=k
 |0=>rfl
 |k+1=>by rw[Gf,List.length_cons,DN a k]
theorem xf(x:Nat)(l:List Nat):eo (x::l)=x*256 ^ l.length+eo l:=by
 have:=uQ [x] l;have e:eo [x]=x:=by simp[eo]
 rw[e]at this;exact this
theorem NT{a:List Int}(b:Wn 4 a):∀k,k≤32→eo (Gf a k)=(V a).toNat%256 ^ k
 |0,_=>by rw[Gf,Nat.pow_zero,Nat.mod_one];rfl
 |k+1,h=>by
  rw[Gf,xf,DN,NT b k aq,aaI b aq,Nat.mod_pow_succ,Nat.mul_comm,Nat.add_comm]
theorem HW(a:List Int):∀k,k≤32→fJ (OY a) z32 k=List.replicate (32-k) 0++Gf a k
 |0,_=>rfl
 |k+1,h=>by
  rw[fJ,HW a k aq];unfold OY;have e:32-k=(31-k)+1:=aq;have b:32-(k+1)=31-k:=aq;rw[e,b,List.replicate_succ',cA,List.set_append_right _ _ aw,List.length_replicate,Nat.sub_self];rfl
theorem aaJ{a:List Int}(b:Wn 4 a):eo (fJ (OY a) z32 32)=(V a).toNat:=by
 rw[HW a 32 aq,Nat.sub_self,List.replicate_zero,List.nil_append,NT b 32 aq];have h:=eC b;exact Nat.mod_eq_of_lt (by
  have:(256:Nat) ^ 32=115792089237316195423570985008687907853269984665640564039457584007913129639936:=by decide
  omega)
theorem y7(a:List Int)(t:Wn 4 a):∃b:List Nat,b.length=32∧bytes b∧eo b=(V a).toNat∧ap Tryz.prog 85 [.agg (cI a)] (fun r=>r=.agg (cb b)):=by
 refine⟨fJ (OY a) z32 32,(Ge a 32).1,(Ge a 32).2,aaJ t,?_⟩;refine bz Tryz.func85 Tryz.ntmps85 (rs:=[.cell 2 29]) (aF a) ?_;have e:=t.1;simp[go_sem,e,aa e];generalize f:fJ (OY a) z32=S at *;have u:=Ge a;rw[f]at u
 refine au (fun k:Nat=>⟨[(1,.ptr 0 0 0 1),(2,.ptr 32 0 0 1),(3,.ptr 64 0 0 1),(5,.d (.int .i64 (k:Int)))],[(64,⟨29,32,[cb (S k)]⟩),(32,⟨29,32,[cb z32]⟩),(0,⟨96,4,[cI a]⟩)],20000⟩)
  (fun k=>k≤32) (fun k=>32-k) 0 aq (by
   rw[←f];simp[av,ah,fv,lk,AV.low,AV.low1,fJ]
   and_intros<;>first|rfl|exact aR _ _|exact aE _ _) ?_
 intro k D;obtain⟨c,B⟩:=u k;have y:=az (k:=k) aq;simp only[go_sem,Nat.reduceEqDiff,Nat.reduceAdd,Nat.reduceLT,↓reduceIte];by_cases v:k<32
 ·refine⟨fun h=>?_,fun h=>absurd (by exact_mod_cast v) h⟩;have n:S (k+1)=OY a k (S k):=by rw[←f];rfl
  have C:d8 k=k/8:=rfl;have A:r8 k=8*(k%8):=rfl;have j:=jW (l:=a) (k:=d8 k) aq;have q:IntKind.i64.wrap ((k:Int)/8)=(d8 k:Int):=by rw[IntWalk.i64_in _ aq];omega
  have o:IntKind.i64.wrap ((k:Int).tdiv 8)=(d8 k:Int):=q;have s:IntKind.i64.wrap (8*((k:Int)%8))=(r8 k:Int):=by rw[IntWalk.i64_in _ aq];omega
  have i:IntKind.i64.wrap (8*((k:Int).tmod 8))=(r8 k:Int):=s;have w:IntKind.i64.wrap (31-(k:Int))=((31-k:Nat):Int):=by rw[IntWalk.i64_in _ aq];omega
  have x:(d8 k:Int)<4:=aq;have g:r8 k<64:=aq;have m:min (r8 k) 64=r8 k:=aq;have i3:((31-k:Nat):Int)<32:=aq;have z:31-k<32:=aq;simp[go_sem,j,e,s,i,q,o,w,x,i3,z,g,m,IntKind.bits,NS,E0,aj,c,y];refine am (k+1) aq aq ?_;rw[n];simp[av,ah,fv,lk,AV.low,AV.low1,OY];and_intros<;>first|rfl|exact aR _ _|exact aE _ _
 ·refine⟨fun h=>absurd (by exact_mod_cast h) v,fun h=>?_⟩;have p:k=32:=aq;subst p;simp[go_sem,aj,c,al c,fg (l:=z32) rfl,ai];exact ae (dc _) rfl
theorem W7{Q:AV→Prop}{st:St}{b:List Nat}(hq:Q (.agg (cb b))):dm Q (.agg (cb b)) st:=ae (dc _) hq
theorem pg(x y:List Int)(c:Bool)(k:Wn 4 x)(j:Wn 4 y):∃b:List Nat,b.length=32∧bytes b∧(jq x y c→eo b=(V x).toNat)∧ap Tryz.prog 129 [.agg (cP x y c)] (fun r=>r=.agg (cb b)):=by
 obtain⟨u,v,d,g,o,l,s⟩:=rY x y c k j;obtain⟨b,i,f,t,p⟩:=y7 u g;refine⟨b,i,f,fun h=>by rw[t,(l.2.1 h).1],?_⟩;refine bz Tryz.func129 Tryz.ntmps129 (rs:=[.cell 2 29]) (dU _ _ _) ?_;have e:=k.1;have a:=j.1;have n:=bR g.1 o.1 d;have m:=WX (y:=v) g.1 d;have q:List.drop 32 (cb z32)=[]:=fg rfl;simp[go_sem,bR e a,dA e a];refine ag s (dU _ _ _) ?_;simp[go_sem,n,m];refine ag p (aF _) ?_;simp[go_sem,aj,i,al i,q,ai];exact W7 rfl
def jnV(a b:List Nat):Nat→AV
 |0=>.nil
 |1=>.own 1192 0 a.length a.length
 |_=>.own 1192 0 (a++b).length (a++b).length
def jnH(a b:List Nat):Nat→Hp
 |0=>[]
 |1=>[(1192,⟨5,1,rb a⟩)]
 |_=>[(1192,⟨5,1,rb (a++b)⟩)]
def RL:Nat→Nat
 |0=>1000
 |_=>2000
theorem y9(a b:List Nat)(j:a.length=32)(l:b.length≤1000000):ap Tryz.prog 89 [.d (.ro 1 [[nb a],[nb b]])] (fun r=>r=.d (nb (a++b))):=by
 refine bz Tryz.func89 Tryz.ntmps89 (rs:=[.tmp 2]) a9 ?_;simp[go_sem]
 refine au (fun k:Nat=>⟨[(3,jnV a b k),(6,.d (.ro 1 [[nb a],[nb b]])),(7,.d (.int .i64 2)),(8,.d (.int .i64 (k:Int)))],jnH a b k,RL k⟩)
  (fun k=>k≤2) (fun k=>2-k) 0 aq (by simp[av,ah,fv,lk,AV.low,AV.low1,jnV,jnH,RL]) ?_
 intro k i;simp only[go_sem,Nat.reduceEqDiff,Nat.reduceAdd,Nat.reduceLT,↓reduceIte]
 match k,i with
 |0,_ =>
  refine⟨fun _=>?_,fun h=>absurd (by decide) h⟩;simp[go_sem,jnV,jnH,RL,nb,dC];refine⟨by rw[aL];omega,?_⟩;have c:IntKind.i64.wrap 1=1:=by decide
  refine am 1 aq aq ?_;simp[av,ah,fv,lk,AV.low,AV.low1,aL,c];exact aT _ _
 |1,_ =>
  refine⟨fun _=>?_,fun h=>absurd (by decide) h⟩;simp[go_sem,jnV,jnH,RL,nb,dC,aL];refine⟨aq,?_⟩;have c:IntKind.i64.wrap 2=2:=by decide
  have f:rb (a++b)=rb a++rb b:=by simp[rb]
  refine am 2 aq aq ?_;simp[av,ah,fv,lk,AV.low,AV.low1,aL,c,f];intro r g;exact g.elim (aT _ _ r) (aT _ _ r)
 |2,_ =>
  refine⟨fun h=>absurd h (by decide),fun _=>?_⟩;simp[go_sem,jnV,jnH,ai];have e:a.length+b.length=(a++b).length:=by rw[b_]
  rw[e];exact jj rfl (by simp[nb])
theorem aaM(x y:List Int):JV x y zI=none:=by
 show rV fd _ _ (FV zI)=none;rw[A4];exact DI fd _ _
theorem qF(x y z c b z':List Int):∀v,v∈[AV.agg (cV x y z),AV.agg (cV c b z')]→v.deep:=by
 intro v a;simp at a;rcases a with rfl|rfl;exact uN _ _ _;exact uN _ _ _
theorem HY (x y z f g z':List Int) (hx:Wn 4 x) (hy:Wn 4 y) (hz:Wn 4 z) (ab:Wn 4 f) (an:Wn 4 g) (D:Wn 4 z'):∃ (u v w:List Int),Wn 4 u∧Wn 4 v∧Wn 4 w∧(tm x y z→tm f g z'→tm u v w∧JV u v w=sum fd (JV x y z) (JV f g z'))∧ap Tryz.prog 181 [.agg (cV x y z),.agg (cV f g z')] (fun r=>r=.agg (cV u v w)):=by
 obtain⟨L,h1,g1,f1⟩:=oo z hz;obtain⟨I,h2,g2,f2⟩:=oo z' D;obtain⟨M,h4,g4,f4⟩:=gV x I hx h2;obtain⟨u2,h5,g5,f5⟩:=gV f L ab h1;obtain⟨ew,h6,g6,f6⟩:=gV I z' h2 D;obtain⟨U,h7,g7,f7⟩:=gV y ew hy h6;obtain⟨ee,h8,g8,f8⟩:=gV L z h1 hz;obtain⟨s2,h9,g9,f9⟩:=gV g ee an h8;obtain⟨h,R,ce,ct⟩:=rX u2 M h5 h4;obtain⟨r,af,dt,cd⟩:=rX s2 U h9 h7;obtain⟨hh,a3,a4,c'⟩:=oo h R;obtain⟨h3,a7,ck,dR⟩:=gV hh h a3 R;obtain⟨v,a5,d9,di⟩:=gV M hh h4 a3;obtain⟨rr,dJ,eN,ec⟩:=oo r af;obtain⟨d1,cc,fa,eb⟩:=rX rr h3 dJ a7;obtain⟨w2,d4,ei,ex⟩:=mq 2 v ⟨aq,aq⟩ a5;obtain⟨X,aV,b8,bN⟩:=rX d1 w2 cc d4;obtain⟨e1,dg,ey,c5⟩:=rX v X a5 aV;obtain⟨e2,cY,ez,dd⟩:=gV r e1 af dg;obtain⟨e3,bv,er,dz⟩:=gV U h3 h7 a7;obtain⟨Y,c9,cS,co⟩:=rX e2 e3 cY bv;obtain⟨zz,da,e6,d2⟩:=gV z z' hz D;obtain⟨Z,b9,ea,d5⟩:=gV h zz R da;obtain⟨wu,wv,ww,bW,cR,cJ,em,e5⟩:=oq zI zI true iu iu;obtain⟨du,dv,dw,cE,dj,dr,eB,fb⟩:=w9 x y z hx hy hz;unfold W1 at f1 f2 c' ec;unfold W2 at f4 f5 f6 f7 f8 f9 ct cd dR di eb bN co c5 dd d5 dz d2;have N:=h1.1;have P:=h2.1;have W:=h4.1;have l5:=h5.1;have l6:=h6.1;have O:=h7.1;have l8:=h8.1;have l9:=h9.1;have m:=R.1;have c:=af.1;have aA:=a3.1;have q:=a7.1;have p:=a5.1;have fF:=dJ.1;have fV:=cc.1;have i:=aV.1;have o:=c9.1;have fU:=d4.1;have fI:=dg.1;have fp:=cY.1;have bj:=b9.1;have fu:=bv.1;have fw:=da.1;have bq:=bW.1;have dG:=cR.1;have d7:=cJ.1;have cg:=cE.1;have dB:=dj.1;have bw:=dr.1;have Q:=hx.1;have aJ:=hy.1;have bb:=hz.1;have A:=ab.1;have F:=an.1;have S:=D.1;have z4:List.drop 4 (cI zI)=[]:=aG rfl;have C:=eg Q aJ bb;have vt:=dM Q aJ bb;have v1:(cV x y z).take 4=cI x:=RD Q;have v2:=RE (z:=z) Q aJ;have v3:=NM Q aJ bb;have j:=eg A F S;have B:=dM A F S;have ba:(cV f g z').take 4=cI f:=RD A;have a6:=RE (z:=z') A F;have H:=NM A F S;have iz:cn .u64 [AV.d (.int .u64 0),AV.d (.int .u64 0),AV.d (.int .u64 0),AV.d (.int .u64 0)]=some zI:=fM zI;have f0:=o9 x y z hx hy hz;have d3:=o9 f g z' ab an D;have wd:(cV zI zI zI).drop 12=[]:=lB rfl rfl rfl;have wl:(cV zI zI zI).length=12:=rfl;have ul:=eg bq dG d7;have ut:=dM bq dG d7;have en:=eg cg dB bw;have eh:=dM cg dB bw;by_cases T:z=zI
 ·have vv:tm x y z→tm f g z'→tm f g z'∧JV f g z'=sum fd (JV x y z) (JV f g z'):=by
   intro _ n;refine⟨n,?_⟩;rw[T,aaM,d0 fd n.2]
  refine⟨f,g,z',ab,an,D,vv,?_⟩;refine bz Tryz.func181 Tryz.ntmps181 (rs:=[.cell 4 243]) (qF _ _ _ _ _ _) ?_;simp[go_sem,C,vt,j,B];refine ag f0 (gh _ _ _) ?_;simp[go_sem,T,j,B,wd,wl,ai];exact lQ rfl
 by_cases V:z'=zI
 ·have vv:tm x y z→tm f g z'→tm x y z∧JV x y z=sum fd (JV x y z) (JV f g z'):=by
   intro J _;refine⟨J,?_⟩;rw[V,aaM,gU fd J.2]
  refine⟨x,y,z,hx,hy,hz,vv,?_⟩;refine bz Tryz.func181 Tryz.ntmps181 (rs:=[.cell 4 243]) (qF _ _ _ _ _ _) ?_;simp[go_sem,C,vt,j,B];refine ag f0 (gh _ _ _) ?_;simp[go_sem,T,C,vt,j,B];refine ag d3 (gh _ _ _) ?_;simp[go_sem,V,C,vt,wd,wl,ai];exact lQ rfl
 have bi:tm x y z→tm f g z'→(FV h≠0→JV X Y Z=sum fd (JV x y z) (JV f g z'))∧(FV h=0→FV r=0→JV x y z=JV f g z')∧(FV h=0→FV r≠0→sum fd (JV x y z) (JV f g z')=none):=by
  intro J n;have fe:FV z≠0:=fun h=>T ((mY hz J.1.2.2).1 h);have dl:FV z'≠0:=fun h=>V ((mY D n.1.2.2).1 h);have k1:FV M=FV x*(FV z'*FV z'):=by rw[g4.2,g2.2]
  have k2:FV u2=FV f*(FV z*FV z):=by rw[g5.2,g1.2]
  have k3:FV U=FV y*(FV z'*FV z'*FV z'):=by rw[g7.2,g6.2,g2.2]
  have k4:FV s2=FV g*(FV z*FV z*FV z):=by rw[g9.2,g8.2,g1.2]
  obtain⟨j1,j2,j3⟩:=ND fd fe dl J.2 n.2 k1 k2 k3 k4 ce.2 dt.2;refine⟨fun e9=>?_,j2,j3⟩;have n2:FV [2,0,0,0]=2:=F6 2 aq;have eX:FV X=FV r*FV r-FV h*FV h*FV h-2*(FV M*(FV h*FV h)):=by
   rw[b8.2,fa.2,eN.2,ck.2,a4.2,ei.2,d9.2,a4.2,n2]
  have eY:FV Y=FV r*(FV M*(FV h*FV h)-(FV r*FV r-FV h*FV h*FV h-2*(FV M*(FV h*FV h))))-FV U*(FV h*FV h*FV h):=by
   rw[cS.2,ez.2,ey.2,eX,er.2,d9.2,ck.2,a4.2]
  have eZ:FV Z=FV h*(FV z*FV z'):=by rw[ea.2,e6.2]
  show rV fd (FV X) (FV Y) (FV Z)=_;rw[eX,eY,eZ];exact j1 e9
 obtain⟨Ua,Va,Wa,hU,hV,t,vv,e1,e2,e3⟩:∃(Ua Va Wa:List Int),Wn 4 Ua∧Wn 4 Va∧Wn 4 Wa∧(tm x y z→tm f g z'→tm Ua Va Wa∧JV Ua Va Wa=sum fd (JV x y z) (JV f g z'))∧(h=zI→r=zI→(du=Ua∧dv=Va∧dw=Wa))∧(h=zI→r≠zI→(wu=Ua∧wv=Va∧ww=Wa))∧(h≠zI→(X=Ua∧Y=Va∧Z=Wa)):=by
  have fz:∀{l:List Int},l=zI→FV l=0:=fun h=>by rw[h,A4]
  by_cases s:h=zI;by_cases E:r=zI;refine⟨du,dv,dw,cE,dj,dr,fun J n=>?_,fun _ _=>⟨rfl,rfl,rfl⟩,fun _ h=>absurd E h,fun h=>absurd s h⟩;obtain⟨m1,m2⟩:=eB J;refine⟨m1,?_⟩;rw[m2,←(bi J n).2.1 (fz s) (fz E)];refine⟨wu,wv,ww,bW,cR,cJ,fun J n=>?_,fun _ h=>absurd h E,fun _ _=>⟨rfl,rfl,rfl⟩,fun h=>absurd s h⟩;obtain⟨m1,m2⟩:=em tj;refine⟨m1,?_⟩;rw[m2,Ju,(bi J n).2.2 (fz s) (fun h=>E ((mY af dt.1).1 h))];refine⟨X,Y,Z,aV,c9,b9,fun J n=>?_,fun h=>absurd h s,fun h=>absurd h s,fun _=>⟨rfl,rfl,rfl⟩⟩;have e:=(bi J n).1 (fun h=>s ((mY R ce.1).1 h));exact⟨⟨⟨b8.1,cS.1,ea.1⟩,by rw[e];exact qD fd J.2 n.2⟩,e⟩
 refine⟨Ua,Va,Wa,hU,hV,t,vv,?_⟩;refine bz Tryz.func181 Tryz.ntmps181 (rs:=[.cell 4 243]) (qF _ _ _ _ _ _) ?_;simp[go_sem,C,vt,j,B];refine ag f0 (gh _ _ _) ?_;simp[go_sem,T,C,vt,j,B];refine ag d3 (gh _ _ _) ?_;simp[go_sem,V,C,vt,j,B,v1,v2,v3,ba,a6,H];refine cO [0,1,3,4] [2,5,6,7,8,9] [0,1,3,4] (.alt (bt 2 (.alt (bx 5 (.alt (a_ [6,7,8,9]) (a_ [7,6,8,9]))) (.alt (bt 6 (.alt (a_ [5,7,8,9]) (bt 7 (a_ [5,8,9])))) (bt 7 (.alt (a_ [5,6,8,9]) (bt 6 (a_ [5,8,9]))))))) (.alt (bt 6 (.alt (bt 2 (.alt (a_ [5,7,8,9]) (bt 7 (a_ [5,8,9])))) (bt 7 (bt 2 (a_ [5,8,9]))))) (bt 7 (.alt (bt 2 (.alt (a_ [5,6,8,9]) (bt 6 (a_ [5,8,9])))) (bt 6 (bt 2 (a_ [5,8,9]))))))) ⟨[(2,.ptr 0 0 0 1),(3,.ptr 32 0 0 1),(4,.ptr 64 0 0 1),(5,.ptr 480 0 0 1),(6,.ptr 512 0 0 1)],[(512,⟨96,4,[cI I]⟩),(480,⟨96,4,[cI L]⟩),(64,⟨243,12,[cV zI zI zI]⟩),(32,⟨243,12,[cV f g z']⟩),(0,⟨243,12,[cV x y z]⟩)],9000⟩ (k:=10) ?h3 ?hq
 case h3 =>
  intro G K;have t:∀(b:Fr)(a:Hp),(fv 2 b=.ptr 0 0 0 1∧fv 3 b=.ptr 32 0 0 1∧fv 4 b=.ptr 64 0 0 1∧fv 5 b=.ptr 480 0 0 1∧fv 6 b=.ptr 512 0 0 1∧lk 512 a=some ⟨96,4,[cI I]⟩∧lk 480 a=some ⟨96,4,[cI L]⟩∧lk 64 a=some ⟨243,12,[cV zI zI zI]⟩∧lk 32 a=some ⟨243,12,[cV f g z']⟩∧lk 0 a=some ⟨243,12,[cV x y z]⟩)→G b a:=by
   rintro b a⟨q0,T,V,s,E,q5,q6,q7,q8,q9⟩;exact K _ _ pD
  simp[go_sem,N,P,aa N,aa P,z4,v3,H,C,j,cZ]
  repeat' first|exact t _ _ ⟨rfl,rfl,rfl,rfl,rfl,rfl,rfl,rfl,rfl,rfl⟩|(refine t _ _ ?_;simp[fv,lk];done)|refine ag f1 (aF _) ?_|refine ag f2 (aF _) ?_|apply And.intro|simp[go_sem,N,P,aa N,aa P,z4,v3,H,C,j,cZ]
 case hq =>
  simp[go_sem];refine cO [0,1,2,4,5,6] [3,7,8,9,10,11] [0,1,2,4,5,6] (.alt (bt 3 (.alt (bx 7 (.alt (a_ [8,9,10,11]) (a_ [9,8,10,11]))) (.alt (bt 8 (.alt (a_ [7,9,10,11]) (bt 9 (a_ [7,10,11])))) (bt 9 (.alt (a_ [7,8,10,11]) (bt 8 (a_ [7,10,11]))))))) (.alt (bt 8 (.alt (bt 3 (.alt (a_ [7,9,10,11]) (bt 9 (a_ [7,10,11])))) (bt 9 (bt 3 (a_ [7,10,11]))))) (bt 9 (.alt (bt 3 (.alt (a_ [7,8,10,11]) (bt 8 (a_ [7,10,11])))) (bt 8 (bt 3 (a_ [7,10,11]))))))) ⟨[(2,.ptr 0 0 0 1),(3,.ptr 32 0 0 1),(4,.ptr 64 0 0 1),(5,.ptr 480 0 0 1),(6,.ptr 512 0 0 1),(7,.ptr 9256 0 0 1),(8,.ptr 9288 0 0 1)],[(9288,⟨96,4,[cI u2]⟩),(9256,⟨96,4,[cI M]⟩),(512,⟨96,4,[cI I]⟩),(480,⟨96,4,[cI L]⟩),(64,⟨243,12,[cV zI zI zI]⟩),(32,⟨243,12,[cV f g z']⟩),(0,⟨243,12,[cV x y z]⟩)],20000⟩ (k:=12) ?h3 ?hq
  case h3 =>
   intro G K;have t:∀(b:Fr)(a:Hp),(fv 2 b=.ptr 0 0 0 1∧fv 3 b=.ptr 32 0 0 1∧fv 4 b=.ptr 64 0 0 1∧fv 5 b=.ptr 480 0 0 1∧fv 6 b=.ptr 512 0 0 1∧fv 7 b=.ptr 9256 0 0 1∧fv 8 b=.ptr 9288 0 0 1∧lk 9288 a=some ⟨96,4,[cI u2]⟩∧lk 9256 a=some ⟨96,4,[cI M]⟩∧lk 512 a=some ⟨96,4,[cI I]⟩∧lk 480 a=some ⟨96,4,[cI L]⟩∧lk 64 a=some ⟨243,12,[cV zI zI zI]⟩∧lk 32 a=some ⟨243,12,[cV f g z']⟩∧lk 0 a=some ⟨243,12,[cV x y z]⟩)→G b a:=by
    rintro b a⟨q0,T,V,s,E,q5,q6,q7,q8,q9,aD,ac,bl,bh⟩;exact K _ _ pD
   simp[go_sem,N,P,W,l5,aa N,aa P,aa W,aa l5,z4,v1,ba,C,j,cZ]
   repeat' first|exact t _ _ ⟨rfl,rfl,rfl,rfl,rfl,rfl,rfl,rfl,rfl,rfl,rfl,rfl,rfl,rfl⟩|(refine t _ _ ?_;simp[fv,lk];done)|refine ag f4 (aI _ _) ?_|refine ag f5 (aI _ _) ?_|apply And.intro|simp[go_sem,N,P,W,l5,aa N,aa P,aa W,aa l5,z4,v1,ba,C,j,cZ]
  case hq =>
   simp[go_sem];refine cO [0,1,2,3,4,7,8,9,10,11] [5,6,12,13,14,15,16,17] [0,1,2,3,4,7,8,9,10,11] (.alt (bt 5 (.alt (bt 6 (.alt (bt 12 (.alt (bx 13 (.alt (a_ [14,15,16,17]) (a_ [15,14,16,17]))) (.alt (bt 14 (.alt (a_ [13,15,16,17]) (bt 15 (a_ [13,16,17])))) (bt 15 (.alt (a_ [13,14,16,17]) (bt 14 (a_ [13,16,17]))))))) (.alt (bt 14 (.alt (bt 12 (.alt (a_ [13,15,16,17]) (bt 15 (a_ [13,16,17])))) (bt 15 (bt 12 (a_ [13,16,17]))))) (bt 15 (.alt (bt 12 (.alt (a_ [13,14,16,17]) (bt 14 (a_ [13,16,17])))) (bt 14 (bt 12 (a_ [13,16,17])))))))) (.alt (bt 14 (.alt (bt 6 (.alt (bt 12 (.alt (a_ [13,15,16,17]) (bt 15 (a_ [13,16,17])))) (bt 15 (bt 12 (a_ [13,16,17]))))) (bt 15 (bt 6 (bt 12 (a_ [13,16,17])))))) (bt 15 (.alt (bt 6 (.alt (bt 12 (.alt (a_ [13,14,16,17]) (bt 14 (a_ [13,16,17])))) (bt 14 (bt 12 (a_ [13,16,17]))))) (bt 14 (bt 6 (bt 12 (a_ [13,16,17]))))))))) (.alt (bt 14 (.alt (bt 5 (.alt (bt 6 (.alt (bt 12 (.alt (a_ [13,15,16,17]) (bt 15 (a_ [13,16,17])))) (bt 15 (bt 12 (a_ [13,16,17]))))) (bt 15 (bt 6 (bt 12 (a_ [13,16,17])))))) (bt 15 (bt 5 (bt 6 (bt 12 (a_ [13,16,17]))))))) (bt 15 (.alt (bt 5 (.alt (bt 6 (.alt (bt 12 (.alt (a_ [13,14,16,17]) (bt 14 (a_ [13,16,17])))) (bt 14 (bt 12 (a_ [13,16,17]))))) (bt 14 (bt 6 (bt 12 (a_ [13,16,17])))))) (bt 14 (bt 5 (bt 6 (bt 12 (a_ [13,16,17]))))))))) ⟨[(2,.ptr 0 0 0 1),(3,.ptr 32 0 0 1),(4,.ptr 64 0 0 1),(7,.ptr 9256 0 0 1),(8,.ptr 9288 0 0 1),(9,.ptr 20448 0 0 1),(10,.ptr 20480 0 0 1)],[(20480,⟨96,4,[cI s2]⟩),(20448,⟨96,4,[cI U]⟩),(9288,⟨96,4,[cI u2]⟩),(9256,⟨96,4,[cI M]⟩),(64,⟨243,12,[cV zI zI zI]⟩),(32,⟨243,12,[cV f g z']⟩),(0,⟨243,12,[cV x y z]⟩)],30000⟩ (k:=18) ?h3 ?hq
   case h3 =>
    intro G K;have t:∀(b:Fr)(a:Hp),(fv 2 b=.ptr 0 0 0 1∧fv 3 b=.ptr 32 0 0 1∧fv 4 b=.ptr 64 0 0 1∧fv 7 b=.ptr 9256 0 0 1∧fv 8 b=.ptr 9288 0 0 1∧fv 9 b=.ptr 20448 0 0 1∧fv 10 b=.ptr 20480 0 0 1∧lk 20480 a=some ⟨96,4,[cI s2]⟩∧lk 20448 a=some ⟨96,4,[cI U]⟩∧lk 9288 a=some ⟨96,4,[cI u2]⟩∧lk 9256 a=some ⟨96,4,[cI M]⟩∧lk 64 a=some ⟨243,12,[cV zI zI zI]⟩∧lk 32 a=some ⟨243,12,[cV f g z']⟩∧lk 0 a=some ⟨243,12,[cV x y z]⟩)→G b a:=by
     rintro b a⟨q0,T,V,s,E,q5,q6,q7,q8,q9,aD,ac,bl,bh⟩;exact K _ _ pD
    simp[go_sem,N,P,O,l9,aa N,aa P,aa O,aa l9,z4,v2,a6,v3,H,C,j,cZ]
    repeat' first|exact t _ _ ⟨rfl,rfl,rfl,rfl,rfl,rfl,rfl,rfl,rfl,rfl,rfl,rfl,rfl,rfl⟩|(refine t _ _ ?_;simp[fv,lk];done)|refine ag f6 (aI _ _) ?_|refine ag f7 (aI _ _) ?_|refine ag f8 (aI _ _) ?_|refine ag f9 (aI _ _) ?_|apply And.intro|simp[go_sem,N,P,O,l9,aa N,aa P,aa O,aa l9,z4,v2,a6,v3,H,C,j,cZ]
   case hq =>
    simp[go_sem];refine cO [0,1,3,4] [2,5,6,7,8,9] [0,1,3,4] (.alt (bt 2 (.alt (bx 5 (.alt (a_ [6,7,8,9]) (a_ [7,6,8,9]))) (.alt (bt 6 (.alt (a_ [5,7,8,9]) (bt 7 (a_ [5,8,9])))) (bt 7 (.alt (a_ [5,6,8,9]) (bt 6 (a_ [5,8,9]))))))) (.alt (bt 6 (.alt (bt 2 (.alt (a_ [5,7,8,9]) (bt 7 (a_ [5,8,9])))) (bt 7 (bt 2 (a_ [5,8,9]))))) (bt 7 (.alt (bt 2 (.alt (a_ [5,6,8,9]) (bt 6 (a_ [5,8,9])))) (bt 6 (bt 2 (a_ [5,8,9]))))))) ⟨[(2,.ptr 0 0 0 1),(3,.ptr 32 0 0 1),(4,.ptr 64 0 0 1),(7,.ptr 9256 0 0 1),(9,.ptr 20448 0 0 1),(11,.ptr 30192 0 0 1),(12,.ptr 30224 0 0 1)],[(30224,⟨96,4,[cI r]⟩),(30192,⟨96,4,[cI h]⟩),(20448,⟨96,4,[cI U]⟩),(9256,⟨96,4,[cI M]⟩),(64,⟨243,12,[cV zI zI zI]⟩),(32,⟨243,12,[cV f g z']⟩),(0,⟨243,12,[cV x y z]⟩)],40000⟩ (k:=10) ?h3 ?hq
    case h3 =>
     intro G K;have t:∀(b:Fr)(a:Hp),(fv 2 b=.ptr 0 0 0 1∧fv 3 b=.ptr 32 0 0 1∧fv 4 b=.ptr 64 0 0 1∧fv 7 b=.ptr 9256 0 0 1∧fv 9 b=.ptr 20448 0 0 1∧fv 11 b=.ptr 30192 0 0 1∧fv 12 b=.ptr 30224 0 0 1∧lk 30224 a=some ⟨96,4,[cI r]⟩∧lk 30192 a=some ⟨96,4,[cI h]⟩∧lk 20448 a=some ⟨96,4,[cI U]⟩∧lk 9256 a=some ⟨96,4,[cI M]⟩∧lk 64 a=some ⟨243,12,[cV zI zI zI]⟩∧lk 32 a=some ⟨243,12,[cV f g z']⟩∧lk 0 a=some ⟨243,12,[cV x y z]⟩)→G b a:=by
      rintro b a⟨q0,T,V,s,E,q5,q6,q7,q8,q9,aD,ac,bl,bh⟩;exact K _ _ pD
     simp[go_sem,W,l5,O,l9,m,c,aa W,aa l5,aa O,aa l9,aa m,aa c,z4,cZ]
     repeat' first|exact t _ _ ⟨rfl,rfl,rfl,rfl,rfl,rfl,rfl,rfl,rfl,rfl,rfl,rfl,rfl,rfl⟩|(refine t _ _ ?_;simp[fv,lk];done)|refine ag ct (aI _ _) ?_|refine ag cd (aI _ _) ?_|apply And.intro|simp[go_sem,W,l5,O,l9,m,c,aa W,aa l5,aa O,aa l9,aa m,aa c,z4,cZ]
    case hq =>
     by_cases s:h=zI
     ·by_cases E:r=zI
      ·obtain⟨rfl,rfl,rfl⟩:=e1 s E;simp[go_sem,m,c,fM,iz,aa m,aa c];refine⟨fun _=>⟨fun _=>?_,fun h=>absurd E h⟩,fun h=>absurd s h⟩;simp[go_sem,C,vt];refine ag fb (gh _ _ _) ?_;simp[go_sem,en,eh,wd,wl,ai];exact lQ rfl
      ·obtain⟨rfl,rfl,rfl⟩:=e2 s E;simp[go_sem,m,c,fM,iz,aa m,aa c];refine⟨fun _=>⟨fun h=>absurd h E,fun _=>?_⟩,fun h=>absurd s h⟩;refine ag jG aw ?_;simp[go_sem];refine ag e5 (dU _ _ _) ?_;simp[go_sem,ul,ut,wd,wl,ai];exact lQ rfl
     obtain⟨rfl,rfl,rfl⟩:=e3 s;simp[go_sem,m,c,fM,iz,aa m,aa c];refine⟨fun h=>absurd h s,fun _=>?_⟩;refine ag c' (aF _) ?_;simp[go_sem,m,aA,aa m,aa aA,z4];refine ag dR (aI _ _) ?_;simp[go_sem,W,aA,q,aa W,aa aA,aa q,z4];refine ag di (aI _ _) ?_;simp[go_sem,p,aa p,z4];refine cO [0,2,4] [1,3,5,6,7,8] [0,2,4] (.alt (bt 1 (.alt (bt 3 (.alt (bx 5 (.alt (a_ [6,7,8]) (a_ [7,6,8]))) (bt 7 (a_ [5,6,8])))) (bt 7 (bt 3 (a_ [5,6,8]))))) (bt 7 (bt 1 (bt 3 (a_ [5,6,8]))))) ⟨[(2,.ptr 0 0 0 1),(3,.ptr 32 0 0 1),(4,.ptr 64 0 0 1),(9,.ptr 20448 0 0 1),(11,.ptr 30192 0 0 1),(12,.ptr 30224 0 0 1),(14,.ptr 40320 0 0 1),(15,.ptr 40480 0 0 1),(16,.ptr 40768 0 0 1)],[(40768,⟨96,4,[cI X]⟩),(40480,⟨96,4,[cI v]⟩),(40320,⟨96,4,[cI h3]⟩),(30224,⟨96,4,[cI r]⟩),(30192,⟨96,4,[cI h]⟩),(20448,⟨96,4,[cI U]⟩),(64,⟨243,12,[cV zI zI zI]⟩),(32,⟨243,12,[cV f g z']⟩),(0,⟨243,12,[cV x y z]⟩)],50000⟩ (k:=9) ?h3 ?hq
     case h3 =>
      intro G K;have t:∀(b:Fr)(a:Hp),(fv 2 b=.ptr 0 0 0 1∧fv 3 b=.ptr 32 0 0 1∧fv 4 b=.ptr 64 0 0 1∧fv 9 b=.ptr 20448 0 0 1∧fv 11 b=.ptr 30192 0 0 1∧fv 12 b=.ptr 30224 0 0 1∧fv 14 b=.ptr 40320 0 0 1∧fv 15 b=.ptr 40480 0 0 1∧fv 16 b=.ptr 40768 0 0 1∧lk 40768 a=some ⟨96,4,[cI X]⟩∧lk 40480 a=some ⟨96,4,[cI v]⟩∧lk 40320 a=some ⟨96,4,[cI h3]⟩∧lk 30224 a=some ⟨96,4,[cI r]⟩∧lk 30192 a=some ⟨96,4,[cI h]⟩∧lk 20448 a=some ⟨96,4,[cI U]⟩∧lk 64 a=some ⟨243,12,[cV zI zI zI]⟩∧lk 32 a=some ⟨243,12,[cV f g z']⟩∧lk 0 a=some ⟨243,12,[cV x y z]⟩)→G b a:=by
       rintro b a⟨q0,T,V,s,E,q5,q6,q7,q8,q9,aD,ac,bl,bh,fj,fm,fT,fk⟩;exact K _ _ pD
      simp[go_sem,c,q,p,i,aa c,aa q,aa p,aa i,z4,cZ]
      repeat' first|exact t _ _ ⟨rfl,rfl,rfl,rfl,rfl,rfl,rfl,rfl,rfl,rfl,rfl,rfl,rfl,rfl,rfl,rfl,rfl,rfl⟩|(refine t _ _ ?_;simp[fv,lk];done)|refine ag ec (aF _) ?_|refine ag eb (aI _ _) ?_|refine ag ex (mZ _ _) ?_|refine ag bN (aI _ _) ?_|apply And.intro|simp[go_sem,c,q,p,i,aa c,aa q,aa p,aa i,z4,cZ]
     case hq =>
      simp[go_sem];refine cO [0,1,2,5,6] [3,4,7,8,9,10] [0,1,2,5,6] (.alt (bt 3 (.alt (bt 4 (.alt (bx 7 (.alt (a_ [8,9,10]) (a_ [9,8,10]))) (bt 9 (a_ [7,8,10])))) (bt 9 (bt 4 (a_ [7,8,10]))))) (bt 9 (bt 3 (bt 4 (a_ [7,8,10]))))) ⟨[(2,.ptr 0 0 0 1),(3,.ptr 32 0 0 1),(4,.ptr 64 0 0 1),(11,.ptr 30192 0 0 1),(16,.ptr 40768 0 0 1),(17,.ptr 50288 0 0 1)],[(50288,⟨96,4,[cI Y]⟩),(40768,⟨96,4,[cI X]⟩),(30192,⟨96,4,[cI h]⟩),(64,⟨243,12,[cV zI zI zI]⟩),(32,⟨243,12,[cV f g z']⟩),(0,⟨243,12,[cV x y z]⟩)],60000⟩ (k:=11) ?h3 ?hq
      case h3 =>
       intro G K;have t:∀(b:Fr)(a:Hp),(fv 2 b=.ptr 0 0 0 1∧fv 3 b=.ptr 32 0 0 1∧fv 4 b=.ptr 64 0 0 1∧fv 11 b=.ptr 30192 0 0 1∧fv 16 b=.ptr 40768 0 0 1∧fv 17 b=.ptr 50288 0 0 1∧lk 50288 a=some ⟨96,4,[cI Y]⟩∧lk 40768 a=some ⟨96,4,[cI X]⟩∧lk 30192 a=some ⟨96,4,[cI h]⟩∧lk 64 a=some ⟨243,12,[cV zI zI zI]⟩∧lk 32 a=some ⟨243,12,[cV f g z']⟩∧lk 0 a=some ⟨243,12,[cV x y z]⟩)→G b a:=by
        rintro b a⟨q0,T,V,s,E,q5,q6,q7,q8,q9,aD,ac⟩;exact K _ _ pD
       simp[go_sem,O,c,q,p,i,o,aa O,aa c,aa q,aa p,aa i,aa o,z4,cZ]
       repeat' first|exact t _ _ ⟨rfl,rfl,rfl,rfl,rfl,rfl,rfl,rfl,rfl,rfl,rfl,rfl⟩|(refine t _ _ ?_;simp[fv,lk];done)|refine ag c5 (aI _ _) ?_|refine ag dd (aI _ _) ?_|refine ag dz (aI _ _) ?_|refine ag co (aI _ _) ?_|apply And.intro|simp[go_sem,O,c,q,p,i,o,aa O,aa c,aa q,aa p,aa i,aa o,z4,cZ]
      case hq =>
       simp only[go_sem,Nat.reduceEqDiff,Nat.reduceAdd,Nat.reduceLT,↓reduceIte];refine cG [0,1,2,3,4,5,6] [(7,[]),(8,[9]),(10,[])] 2 (k:=11) ?_;intro G K;simp[go_sem,i,o,m,aa i,aa o,aa m,v3,H,C,j];refine ag d2 (aI _ _) ?_;simp[go_sem];refine ag d5 (aI _ _) ?_;have ev:cI X++(cI Y++cI Z)=cV X Y Z:=rfl;have xl:=eg i o bj;have xt:=dM i o bj;simp[go_sem,i,o,bj,wl,wd,mk8 i o,aaH i o,ev,xl,cZ];refine K _ _ ?_;simp[go_sem,xl,xt,ai];exact lQ rfl
abbrev T3:=List Int×List Int×List Int
def W3(s:T3):Prop:=Wn 4 s.1∧Wn 4 s.2.1∧Wn 4 s.2.2
def xg(s:T3):Prop:=tm s.1 s.2.1 s.2.2
noncomputable def JV3(s:T3):Pt pP:=JV s.1 s.2.1 s.2.2
theorem adj:∃D:T3→T3,∀s,W3 s→W3 (D s)∧(xg s→xg (D s)∧JV3 (D s)=sum fd (JV3 s) (JV3 s))∧ap Tryz.prog 183 [.agg (cV s.1 s.2.1 s.2.2)] (fun r=>r=.agg (cV (D s).1 (D s).2.1 (D s).2.2)) :=
 pick (α:=T3) (β:=T3) (A:=W3) (B:=fun s t=>W3 t∧(xg s→xg t∧JV3 t=sum fd (JV3 s) (JV3 s))∧ap Tryz.prog 183 [.agg (cV s.1 s.2.1 s.2.2)] (fun r=>r=.agg (cV t.1 t.2.1 t.2.2))) (fun s a=>by
  obtain⟨u,v,w,b,e,d,f,c⟩:=w9 s.1 s.2.1 s.2.2 a.1 a.2.1 a.2.2
  exact⟨(u,v,w),⟨b,e,d⟩,f,c⟩)
theorem aaN:∃D:T3×T3→T3,∀s,(W3 s.1∧W3 s.2)→W3 (D s)∧(xg s.1→xg s.2→xg (D s)∧JV3 (D s)=sum fd (JV3 s.1) (JV3 s.2))∧ap Tryz.prog 181 [.agg (cV s.1.1 s.1.2.1 s.1.2.2),.agg (cV s.2.1 s.2.2.1 s.2.2.2)] (fun r=>r=.agg (cV (D s).1 (D s).2.1 (D s).2.2)) :=
 pick (α:=T3×T3) (β:=T3) (A:=fun s=>W3 s.1∧W3 s.2) (B:=fun s t=>W3 t∧(xg s.1→xg s.2→xg t∧JV3 t=sum fd (JV3 s.1) (JV3 s.2))∧ap Tryz.prog 181 [.agg (cV s.1.1 s.1.2.1 s.1.2.2),.agg (cV s.2.1 s.2.2.1 s.2.2.2)] (fun r=>r=.agg (cV t.1 t.2.1 t.2.2))) (fun s a=>by
  obtain⟨u,v,w,b,e,d,f,c⟩:=HY s.1.1 s.1.2.1 s.1.2.2 s.2.1 s.2.2.1 s.2.2.2 a.1.1 a.1.2.1 a.1.2.2 a.2.1 a.2.2.1 a.2.2.2
  exact⟨(u,v,w),⟨b,e,d⟩,f,c⟩)
theorem adk:∃D:List Int×Nat→Bool,∀s,(Wn 4 s.1∧s.2<256)→(D s=true↔(V s.1).toNat/2 ^ s.2%2=1)∧ap Tryz.prog 184 [.agg (cI s.1),.d (.int .i64 (s.2:Int))] (fun r=>r=.d (.bool (D s))) :=
 pick (α:=List Int×Nat) (β:=Bool) (A:=fun s=>Wn 4 s.1∧s.2<256) (B:=fun s t=>(t=true↔(V s.1).toNat/2 ^ s.2%2=1)∧ap Tryz.prog 184 [.agg (cI s.1),.d (.int .i64 (s.2:Int))] (fun r=>r=.d (.bool t))) (fun s a=>W0 s.1 s.2 a.1 a.2)
def A6(D:T3→T3)(A:T3×T3→T3)(B:List Int×Nat→Bool)(a b:List Int)(M:Nat)(one d c:T3)(k:Nat)(s:T3):T3 :=
 if B (a,M-1-k)then(if B (b,M-1-k)then A (D s,c)else A (D s,one))else(if B (b,M-1-k)then A (D s,d)else D s)
theorem Jv{P Q:Pt pP}(c:gz P)(d:gz Q)(a b:Nat) :
  sum fd (sum fd (mp fd a P) (mp fd b Q)) (sum fd (mp fd a P) (mp fd b Q))=sum fd (mp fd (2*a) P) (mp fd (2*b) Q) ∧
  sum fd (sum fd (mp fd (2*a) P) (mp fd (2*b) Q)) P=sum fd (mp fd (2*a+1) P) (mp fd (2*b) Q) ∧
  sum fd (sum fd (mp fd (2*a) P) (mp fd (2*b) Q)) Q=sum fd (mp fd (2*a) P) (mp fd (2*b+1) Q) ∧
  sum fd (sum fd (mp fd (2*a) P) (mp fd (2*b) Q)) (sum fd P Q)=sum fd (mp fd (2*a+1) P) (mp fd (2*b+1) Q):=by
 have f:=ki fd c a;have g:=ki fd d b;have e:=ki fd c (2*a);have b2:=ki fd d (2*b);refine⟨?_,?_,?_,?_⟩;rw[aas fd f g f g,F4 fd c,F4 fd d];rw[mp,gp fd e b2 c,rU fd (mp fd (2*b) Q) P,←gp fd e c b2];rw[mp,gp fd e b2 d];rw[mp,mp,aas fd e b2 c d]
theorem zf(N M k:Nat)(h:k<M):N/2 ^ (M-(k+1))=2*(N/2 ^ (M-k))+N/2 ^ (M-1-k)%2:=by
 have e:M-k=(M-1-k)+1:=aq;have a:M-(k+1)=M-1-k:=aq;rw[e,a,Nat.pow_succ,←Nat.div_div_eq_div_mul];omega
theorem Gg(a b:List Int)(x y g f:List Int)(c e:Bool):∀v,v∈[AV.agg (cI a),AV.agg (cP x y c),AV.agg (cI b),AV.agg (cP g f e)]→v.deep:=by
 intro v d;simp at d;rcases d with rfl|rfl|rfl|rfl;exact cM _;exact dL _ _ _;exact cM _;exact dL _ _ _
theorem DO(n:List Int)(m:Int):∀v,v∈[AV.agg (cI n),AV.d (.int .i64 m)]→v.deep:=by
 intro v a;simp at a;rcases a with rfl|rfl;exact cM _;trivial
theorem uR(a b x y x' y':List Int)(c c':Bool)(ha:Wn 4 a)(hb:Wn 4 b)(hx:Wn 4 x)(hy:Wn 4 y)(bN:Wn 4 x')(bW:Wn 4 y'):∃(u v:List Int)(o:Bool),Wn 4 u∧Wn 4 v∧(jq x y c→jq x' y' c'→jq u v o∧PV u v o=sum fd (mp fd (V a).toNat (PV x y c)) (mp fd (V b).toNat (PV x' y' c')))∧ap Tryz.prog 159 [.agg (cI a),.agg (cP x y c),.agg (cI b),.agg (cP x' y' c')] (fun r=>r=.agg (cP u v o)):=by
 obtain⟨D,hD⟩:=adj;obtain⟨A,hA⟩:=aaN;obtain⟨B,hB⟩:=adk;obtain⟨p1,p2,p3,cR,ct,cS,t1⟩:=rY x y c hx hy;obtain⟨q,p,C,X,aD,ab,cE,g1⟩:=oq p1 p2 p3 cR ct;obtain⟨r1,r2,r3,ck,cY,di,t2⟩:=rY x' y' c' bN bW;obtain⟨u2,t,E,an,aJ,ac,c9,g2⟩:=oq r1 r2 r3 ck cY;obtain⟨u3,N,O,a5,bl,bj,ce,f3⟩:=HY q p C u2 t E X aD ab an aJ ac;obtain⟨u4,v4,w4,bw,bi,a6,dr,f4⟩:=oq zI zI true iu iu;obtain⟨La,dB,dg,f5⟩:=AP a ha;obtain⟨Lb,dw,du,f6⟩:=AP b hb;obtain⟨M,hM⟩:∃M,M=max La Lb:=⟨_,rfl⟩;have dz:M≤256:=aq;have R:W3 (q,p,C):=⟨X,aD,ab⟩;have U:W3 (u2,t,E):=⟨an,aJ,ac⟩;have J:W3 (u3,N,O):=⟨a5,bl,bj⟩;have hS:∀k,W3 (fJ (A6 D A B a b M (q,p,C) (u2,t,E) (u3,N,O)) (u4,v4,w4) k):=jD (P:=fun _ s=>W3 s) ⟨bw,bi,a6⟩ fun k s hs=>by
  have hd:=(hD s hs).1;unfold A6;split;split;exact(hA _ ⟨hd,J⟩).1;exact(hA _ ⟨hd,R⟩).1;split;exact(hA _ ⟨hd,U⟩).1;exact hd
 obtain⟨u,v,o,hu,hv,vp,f7⟩:=NQ _ _ _ (hS M).1 (hS M).2.1 (hS M).2.2;have vv:jq x y c→jq x' y' c'→jq u v o∧PV u v o=sum fd (mp fd (V a).toNat (PV x y c)) (mp fd (V b).toNat (PV x' y' c')):=by
  intro i1 i2;obtain⟨q1,q2,q3⟩:=cS.2.1 i1;obtain⟨q4,q5,q6⟩:=di.2.1 i2;subst q1 q2 q3 q4 q5 q6;have o1:=lA i1;have o2:=lA i2;obtain⟨j1,e1⟩:=cE i1;obtain⟨j2,e2⟩:=c9 i2;obtain⟨j3,e3⟩:=ce j1 j2;obtain⟨j4,e4⟩:=dr tj;have a3:∀(w:List Int)(L:Nat),Wn 4 w→V w<2 ^ L→L≤M→(V w).toNat/2 ^ M=0:=by
   intro w L hw hL cg;have h0:=(eC hw).1;have h1:(((V w).toNat:Nat):Int)<((2 ^ L:Nat):Int):=by rw[Int.toNat_of_nonneg h0];exact_mod_cast hL
   have h2:(V w).toNat<2 ^ L:=by exact_mod_cast h1
   exact Nat.div_eq_of_lt (Nat.lt_of_lt_of_le h2 (Nat.pow_le_pow_right aq cg))
  have cc:∀k,k≤M→xg (fJ (A6 D A B a b M (q,p,C) (u2,t,E) (u3,N,O)) (u4,v4,w4) k)∧JV3 (fJ (A6 D A B a b M (q,p,C) (u2,t,E) (u3,N,O)) (u4,v4,w4) k)=sum fd (mp fd ((V a).toNat/2 ^ (M-k)) (PV p1 p2 p3)) (mp fd ((V b).toNat/2 ^ (M-k)) (PV r1 r2 r3)):=by
   intro k
   induction k with
   |zero =>
    intro _;refine⟨j4,?_⟩;rw[Nat.sub_zero,a3 a La ha dg aq,a3 b Lb hb du aq];show JV u4 v4 w4=_;rw[e4,Ju];exact(d0 fd (Q:=none) True.intro).symm
   | succ k ih =>
    intro hk;obtain⟨i3,i4⟩:=ih aq;have hs:=hS k;rw[fJ];generalize fJ (A6 D A B a b M (q,p,C) (u2,t,E) (u3,N,O)) (u4,v4,w4) k=s at *;obtain⟨m,d2,_⟩:=hD s hs;obtain⟨d3,d4⟩:=d2 i3;have ba:=(hB (a,M-1-k) ⟨ha,aq⟩).1;have bb:=(hB (b,M-1-k) ⟨hb,aq⟩).1;obtain⟨s1,s2,s3,s4⟩:=Jv o1 o2 ((V a).toNat/2 ^ (M-k)) ((V b).toNat/2 ^ (M-k));rw[i4,s1]at d4;rw[zf _ M k aq,zf (V b).toNat M k aq];dsimp only at ba bb;have Z:∀n:Nat,n%2=0∨n%2=1:=Nat.mod_two_eq_zero_or_one;unfold A6;cases j:B (a,M-1-k);have za:(V a).toNat/2 ^ (M-1-k)%2=0:=(Z _).resolve_right (fun h=>by rw[ba.2 h]at j;cases j);rw[za,Nat.add_zero]
    cases e:B (b,M-1-k);have zb:(V b).toNat/2 ^ (M-1-k)%2=0:=(Z _).resolve_right (fun h=>by rw[bb.2 h]at e;cases e);rw[zb,Nat.add_zero];exact⟨d3,d4⟩
    rw[bb.1 e];obtain⟨k1,k2,_⟩:=hA (D s,(u2,t,E)) ⟨m,U⟩;obtain⟨k3,k4⟩:=k2 d3 j2;refine⟨k3,?_⟩;show JV3 (A (D s,(u2,t,E)))=_;rw[k4,d4,←s3];show sum fd _ (JV u2 t E)=_;rw[e2];rw[ba.1 j];cases e:B (b,M-1-k);have zb:(V b).toNat/2 ^ (M-1-k)%2=0:=(Z _).resolve_right (fun h=>by rw[bb.2 h]at e;cases e);rw[zb,Nat.add_zero (2*((V b).toNat/2 ^ (M-k)))];obtain⟨k1,k2,_⟩:=hA (D s,(q,p,C)) ⟨m,R⟩;obtain⟨k3,k4⟩:=k2 d3 j1;refine⟨k3,?_⟩;show JV3 (A (D s,(q,p,C)))=_;rw[k4,d4,←s2];show sum fd _ (JV q p C)=_;rw[e1]
    rw[bb.1 e];obtain⟨k1,k2,_⟩:=hA (D s,(u3,N,O)) ⟨m,J⟩;obtain⟨k3,k4⟩:=k2 d3 j3;refine⟨k3,?_⟩;show JV3 (A (D s,(u3,N,O)))=_;rw[k4,d4,←s4];show sum fd _ (JV u3 N O)=_;rw[e3,e1,e2]
  obtain⟨z1,z2⟩:=cc M (cL _);obtain⟨z3,z4⟩:=vp z1;refine⟨z3,?_⟩;rw[z4];show JV3 _=_;rw[z2,Nat.sub_self,Nat.pow_zero,Nat.div_one,Nat.div_one]
 refine⟨u,v,o,hu,hv,vv,?_⟩;refine bz Tryz.func159 Tryz.ntmps159 (rs:=[.cell 8 189]) (Gg _ _ _ _ _ _ _ _) ?_;have f:=ha.1;have g:=hb.1;have b9:=hx.1;have cd:=hy.1;have aV:=bN.1;have a4:=bW.1;have z4:List.drop 4 (cI zI)=[]:=aG rfl;have bh:=bR b9 cd c;have bv:=dA b9 cd c;have a7:=bR aV a4 c';have bq:=dA aV a4 c';have I:=eg X.1 aD.1 ab.1;have F:=dM X.1 aD.1 ab.1;have K:=eg an.1 aJ.1 ac.1;have H:=dM an.1 aJ.1 ac.1;have T:=eg a5.1 bl.1 bj.1;have W:=dM a5.1 bl.1 bj.1;have cJ:=eg bw.1 bi.1 a6.1;have dv:=dM bw.1 bi.1 a6.1;have wd:(cV zI zI zI).drop 12=[]:=lB rfl rfl rfl;have wl:(cV zI zI zI).length=12:=rfl;have pd:(cP zI zI false).drop 9=[]:=o8 rfl rfl _;have pl:(cP zI zI false).length=9:=rfl;simp[go_sem,f,g,aa f,aa g,bh,bv,a7,bq];refine cO [0,3] [1,2,4,5,6,7,8,9] [0,3] (.alt (bt 1 (.alt (bt 2 (.alt (bx 4 (.alt (bx 5 (.alt (a_ [6,7,8,9]) (a_ [7,6,8,9]))) (.alt (bx 6 (.alt (a_ [5,7,8,9]) (a_ [7,5,8,9]))) (bx 7 (.alt (a_ [5,6,8,9]) (a_ [6,5,8,9])))))) (.alt (bt 6 (.alt (bx 4 (.alt (a_ [5,7,8,9]) (a_ [7,5,8,9]))) (bt 7 (a_ [4,5,8,9])))) (bt 7 (.alt (bx 4 (.alt (a_ [5,6,8,9]) (a_ [6,5,8,9]))) (bt 6 (a_ [4,5,8,9]))))))) (.alt (bt 6 (.alt (bt 2 (.alt (bx 4 (.alt (a_ [5,7,8,9]) (a_ [7,5,8,9]))) (bt 7 (a_ [4,5,8,9])))) (bt 7 (bt 2 (a_ [4,5,8,9]))))) (bt 7 (.alt (bt 2 (.alt (bx 4 (.alt (a_ [5,6,8,9]) (a_ [6,5,8,9]))) (bt 6 (a_ [4,5,8,9])))) (bt 6 (bt 2 (a_ [4,5,8,9])))))))) (.alt (bt 6 (.alt (bt 1 (.alt (bt 2 (.alt (bx 4 (.alt (a_ [5,7,8,9]) (a_ [7,5,8,9]))) (bt 7 (a_ [4,5,8,9])))) (bt 7 (bt 2 (a_ [4,5,8,9]))))) (bt 7 (bt 1 (bt 2 (a_ [4,5,8,9])))))) (bt 7 (.alt (bt 1 (.alt (bt 2 (.alt (bx 4 (.alt (a_ [5,6,8,9]) (a_ [6,5,8,9]))) (bt 6 (a_ [4,5,8,9])))) (bt 6 (bt 2 (a_ [4,5,8,9]))))) (bt 6 (bt 1 (bt 2 (a_ [4,5,8,9])))))))) ⟨[(4,.ptr 0 0 0 1),(6,.ptr 64 0 0 1),(8,.ptr 128 0 0 1),(9,.ptr 352 0 0 1),(10,.ptr 384 0 0 1)],[(384,⟨243,12,[cV u2 t E]⟩),(352,⟨243,12,[cV q p C]⟩),(128,⟨189,9,[cP zI zI false]⟩),(64,⟨96,4,[cI b]⟩),(0,⟨96,4,[cI a]⟩)],9000⟩ (k:=10) ?h3 ?hq
 case h3 =>
  intro G hG;have hW:∀(fr:Fr)(hp:Hp),(fv 4 fr=.ptr 0 0 0 1∧fv 6 fr=.ptr 64 0 0 1∧fv 8 fr=.ptr 128 0 0 1∧fv 9 fr=.ptr 352 0 0 1∧fv 10 fr=.ptr 384 0 0 1∧lk 384 hp=some ⟨243,12,[cV u2 t E]⟩∧lk 352 hp=some ⟨243,12,[cV q p C]⟩∧lk 128 hp=some ⟨189,9,[cP zI zI false]⟩∧lk 64 hp=some ⟨96,4,[cI b]⟩∧lk 0 hp=some ⟨96,4,[cI a]⟩)→G fr hp:=by
   rintro fr hp⟨q0,q1,q2,q3,q4,q5,q6,q7,q8,q9⟩;exact hG _ _ pD
  simp[go_sem,f,g,aa f,aa g,bh,bv,a7,bq,I,F,K,H,wd,z4,cZ]
  repeat' first|exact hW _ _ ⟨rfl,rfl,rfl,rfl,rfl,rfl,rfl,rfl,rfl,rfl⟩|(refine hW _ _ ?_;simp[fv,lk];done)|refine ag t1 (dU _ _ _) ?_|refine ag t2 (dU _ _ _) ?_|refine ag g1 (dU _ _ _) ?_|refine ag g2 (dU _ _ _) ?_|apply And.intro|simp[go_sem,f,g,aa f,aa g,bh,bv,a7,bq,I,F,K,H,wd,z4,cZ]
 case hq =>
  simp[go_sem,I,F,K,H];refine ag f3 (qF _ _ _ _ _ _) ?_;simp[go_sem,T,W,wd];refine ag jG aw ?_;simp[go_sem];refine ag f4 (dU _ _ _) ?_;simp[go_sem,cJ,dv,wd];refine cG [0,2] [(1,[]),(3,[]),(4,[5,6])] 3 (k:=7) ?_;intro G hG;simp[go_sem,f,g,aa f,aa g];refine ag f5 (aF _) ?_;simp[go_sem,f,g,aa f,aa g];refine ag f6 (aF _) ?_;have w0:IntKind.i64.wrap ((M:Int)-1)=(M:Int)-1:=by rw[IntWalk.i64_in _ aq]
  have c5:max (La:Int) (Lb:Int)=(M:Int):=aq;have dj:(if La<Lb then(Lb:Int)else(La:Int))=(M:Int):=by split<;>omega
  simp[go_sem,c5,w0];refine hG _ _ ?_;generalize b8:fJ (A6 D A B a b M (q,p,C) (u2,t,E) (u3,N,O)) (u4,v4,w4)=S at *;have da:S 0=(u4,v4,w4):=by rw[←b8];rfl
  refine au (fun k:Nat=>⟨[(4,.ptr 0 0 0 1),(6,.ptr 64 0 0 1),(8,.ptr 128 0 0 1),(9,.ptr 352 0 0 1),(10,.ptr 384 0 0 1),(11,.ptr 9096 0 0 1),(12,.ptr 9224 0 0 1),(13,.d (.int .i64 ((M:Int)-1-(k:Int))))],[(9224,⟨243,12,[cV (S k).1 (S k).2.1 (S k).2.2]⟩),(9096,⟨243,12,[cV u3 N O]⟩),(384,⟨243,12,[cV u2 t E]⟩),(352,⟨243,12,[cV q p C]⟩),(128,⟨189,9,[cP zI zI false]⟩),(64,⟨96,4,[cI b]⟩),(0,⟨96,4,[cI a]⟩)],20000⟩)
   (fun k=>k≤M) (fun k=>M-k) 0 aq (by
    rw[da];simp[av,ah,fv,lk,AV.low,AV.low1]
    and_intros<;>first|exact tn _ _ _ _|exact aR _ _|exact eU _ _ _ _|(rw[dj,w0])) ?_
  intro k hk;obtain⟨af,aA,Y⟩:=hS k;have sl:=eg af.1 aA.1 Y.1;have st:=dM af.1 aA.1 Y.1;have sd:=lB af.1 aA.1 Y.1;simp only[go_sem,Nat.reduceEqDiff,Nat.reduceAdd,Nat.reduceLT,↓reduceIte];by_cases h4:k<M
  ·refine⟨fun h=>?_,fun h=>absurd aq h⟩;have l:S (k+1)=A6 D A B a b M (q,p,C) (u2,t,E) (u3,N,O) k (S k):=by rw[←b8];rfl
   have wq:IntKind.i64.wrap ((M:Int)-1-(k:Int)-1)=(M:Int)-1-((k+1:Nat):Int):=by rw[IntWalk.i64_in _ aq];omega
   obtain⟨m,_,d2⟩:=hD (S k) ⟨af,aA,Y⟩;have dl:=eg m.1.1 m.2.1.1 m.2.2.1;have dt:=dM m.1.1 m.2.1.1 m.2.2.1;have dd:=lB m.1.1 m.2.1.1 m.2.2.1;have e1:=(hB (a,M-1-k) ⟨ha,aq⟩).2;have e2:=(hB (b,M-1-k) ⟨hb,aq⟩).2;have ei:(((M-1-k:Nat)):Int)=(M:Int)-1-(k:Int):=aq;simp only[ei]at e1 e2;unfold A6 at l;simp[go_sem,sl,st];refine ag d2 (gh _ _ _) ?_;simp[go_sem,dl,dt,sl,sd];refine cG [0,1,3,4] [(2,[]),(5,[6,7])] 2 (k:=8) ?_;intro G hG;simp[go_sem,f,g,aa f,aa g];refine ag e1 (DO _ _) ?_;simp[go_sem,f,g,aa f,aa g];refine ag e2 (DO _ _) ?_;simp[go_sem];refine hG _ _ ?_
   cases j:B (a,M-1-k)
   ·cases e:B (b,M-1-k)
    ·simp only[j,e,if_true,if_false,Bool.false_eq_true]at l;simp[go_sem,j,e,dl,dt,I,F,K,H,T,W];simp[go_sem,wq];refine am (k+1) aq aq ?_;rw[l];simp[av,ah,fv,lk,AV.low,AV.low1];and_intros<;>first|exact tn _ _ _ _|exact aR _ _|exact eU _ _ _ _|omega
    ·simp only[j,e,if_true,if_false,Bool.false_eq_true]at l;simp[go_sem,j,e,dl,dt,I,F,K,H,T,W];obtain⟨i,_,Z⟩:=hA (D (S k),(u2,t,E)) ⟨m,U⟩;refine ag Z (qF _ _ _ _ _ _) ?_;have ml:=eg i.1.1 i.2.1.1 i.2.2.1;have mt:=dM i.1.1 i.2.1.1 i.2.2.1;have md:=lB i.1.1 i.2.1.1 i.2.2.1;generalize A (D (S k),(u2,t,E))=z at *;simp[go_sem,ml,mt,dd,dl,wq];refine am (k+1) aq aq ?_;rw[l];simp[av,ah,fv,lk,AV.low,AV.low1];and_intros<;>first|exact tn _ _ _ _|exact aR _ _|exact eU _ _ _ _|omega
   ·cases e:B (b,M-1-k)
    ·simp only[j,e,if_true,if_false,Bool.false_eq_true]at l;simp[go_sem,j,e,dl,dt,I,F,K,H,T,W];obtain⟨i,_,Z⟩:=hA (D (S k),(q,p,C)) ⟨m,R⟩;refine ag Z (qF _ _ _ _ _ _) ?_;have ml:=eg i.1.1 i.2.1.1 i.2.2.1;have mt:=dM i.1.1 i.2.1.1 i.2.2.1;have md:=lB i.1.1 i.2.1.1 i.2.2.1;generalize A (D (S k),(q,p,C))=z at *;simp[go_sem,ml,mt,dd,dl,wq];refine am (k+1) aq aq ?_;rw[l];simp[av,ah,fv,lk,AV.low,AV.low1];and_intros<;>first|exact tn _ _ _ _|exact aR _ _|exact eU _ _ _ _|omega
    ·simp only[j,e,if_true,if_false,Bool.false_eq_true]at l;simp[go_sem,j,e,dl,dt,I,F,K,H,T,W];obtain⟨i,_,Z⟩:=hA (D (S k),(u3,N,O)) ⟨m,J⟩;refine ag Z (qF _ _ _ _ _ _) ?_;have ml:=eg i.1.1 i.2.1.1 i.2.2.1;have mt:=dM i.1.1 i.2.1.1 i.2.2.1;have md:=lB i.1.1 i.2.1.1 i.2.2.1;generalize A (D (S k),(u3,N,O))=z at *;simp[go_sem,ml,mt,dd,dl,wq];refine am (k+1) aq aq ?_;rw[l];simp[av,ah,fv,lk,AV.low,AV.low1];and_intros<;>first|exact tn _ _ _ _|exact aR _ _|exact eU _ _ _ _|omega
  ·refine⟨fun h=>absurd aq h4,fun h=>?_⟩;have co:k=M:=aq;subst co;simp[go_sem,sl,st];refine ag f7 (gh _ _ _) ?_;have ol:=bR hu.1 hv.1 o;have ot:=dA hu.1 hv.1 o;simp[go_sem,ol,ot,pl,pd,ai];exact qE rfl
def jH:List Nat:=[84,97,112,84,119,101,97,107]
theorem tp(t b:List Nat):(eH t b).length=32∧bytes (eH t b):=⟨bo _,ik _⟩
theorem DR(b:List Nat)(d:DV):∀v,v∈[AV.agg (cb b),AV.d d]→v.deep:=by
 intro v a;simp at a;rcases a with rfl|rfl;exact dc _;trivial
theorem Gh(inner a:List Nat)(hi:inner.length=32)(e:a.length≤1000):∃(t:List Int)(b:Bool),Wn 4 t∧((eo (eH jH (inner++a))<115792089237316195423570985008687907852837564279074904382605163141518161494337→b=true∧V t=(eo (eH jH (inner++a)):Int))∧(¬eo (eH jH (inner++a))<115792089237316195423570985008687907852837564279074904382605163141518161494337→b=false∧t=zI))∧ap Tryz.prog 166 [.agg (cb inner),.d (nb a)] (fun r=>r=.tup [.agg (cI t),.d (.bool b)]):=by
 obtain⟨t,b,f,g,i⟩:=xc (eH jH (inner++a)) (tp _ _).1 (tp _ _).2;refine⟨t,b,f,g,?_⟩;refine bz Tryz.func166 Tryz.ntmps166 (rs:=[.cell 4 96,.tmp 5]) (DR _ _) ?_;have c:=f.1;have h:List.drop 4 (cI zI)=[]:=aG rfl;simp[go_sem,aj,hi,al hi];refine bn [0,160] (y9 inner a hi aq) rfl (ak (.one (ao (j5 (rows:=[[.sub 0 0 0 1 32 32 1],[.d (nb a)]]) rfl aw rfl (RowsR.cons (.cons (dE rfl aw hi) .nil) (RowsR.cons (.cons (.d _) .nil) .nil)) rfl (by intro r e;simp at e;rcases e with rfl|rfl<;>rfl)))) aC) ?_;simp[go_sem,aN];refine ag (gk jH (.str [84,97,112,84,119,101,97,107]) rfl (inner++a) (by simp[jH]) (by rw[b_];omega)) a9 ?_;simp[go_sem];refine ag i (cv _) ?_;simp[go_sem,c,aa c,h,ai];exact o6 rfl
noncomputable def liftPt(n:Nat):Pt pP:=some (Ey pP (n:Int),Ey pP (if gW n%2=0 then gW n else(0-gW n)%115792089237316195423570985008687907853269984665640564039457584007908834671663))
noncomputable def turnQ(n t:Nat):Pt pP:=sum fd (mp fd 1 (liftPt n)) (mp fd t (PV gX gY false))
theorem W8(R p:Int):(0-R)%p*((0-R)%p)%p=R*R%p:=by
 rw[←Int.mul_emod];congr 1;rw[Int.zero_sub,Int.neg_mul_neg]
theorem W9{x:List Int}{n:Nat}(a:V x=n):((((FV x*FV x*FV x+7:F)).val:Nat):Int)=jY n:=by
 have b:(((7:F).val:Nat):Int)=7%pZ:=by
  show((7%pP:Nat):Int)=_;rw[Int.natCast_emod,ef];rfl
 rw[Js,um,um,Int.natCast_emod,Int.natCast_add,Int.natCast_emod,Int.natCast_mul,Int.natCast_emod,Int.natCast_mul,dT,b,ef,a];unfold jY;show _=((n:Int)*n*n+7)%pZ;rw[←Int.mul_emod (n:Int) n,←Int.mul_emod ((n:Int)*n) n,←Int.add_emod]
theorem HZ{n:Nat}{x y:List Int}{c:Bool}(h:NR n x y c true):lR n∧c=false∧jq x y c∧PV x y c=liftPt n:=by
 rcases h with ⟨_,h,_⟩|⟨b,_,rfl,g,e⟩;cases h;have a:(0:Int)<pZ:=by decide
 have f:V y<pZ:=by
  rw[e];split;exact Int.emod_lt_of_pos _ a;exact Int.emod_lt_of_pos _ a
 have d:FV y*FV y=FV x*FV x*FV x+7:=by
  refine nq ?_;rw[W9 g,um,Int.natCast_emod,Int.natCast_mul,dT,ef,←Int.mul_emod];have hc:jY n%pZ=jY n:=by unfold jY;exact Int.emod_emod _ _
  have i:gW n*gW n%pZ=jY n:=b.2.trans hc;rw[e];split;exact i;rw[←i];exact W8 _ _
 refine⟨b,rfl,.inr ⟨rfl,by rw[g];exact b.1,f,d⟩,?_⟩;show some (Ey pP (V x),Ey pP (V y))=_;rw[g,e];rfl
theorem H2{n:Nat}{x y:List Int}{c:Bool}(h:NR n x y c false):¬lR n:=by
 rcases h with ⟨h,_⟩|⟨_,h,_⟩;exact h;cases h
def DT(n t:Nat)(k:List Nat)(o:Bool)(e:Int):Prop :=
 ((¬(lR n∧t<115792089237316195423570985008687907852837564279074904382605163141518161494337)∨turnQ n t=none)∧e=1∧k=z32∧o=false) ∨
 ((lR n∧t<115792089237316195423570985008687907852837564279074904382605163141518161494337)∧e=0∧∃x y,turnQ n t=some (x,y)∧eo k=x.val∧(o=true↔y.val%2=1))
theorem zg{x:List Int}(a:Wn 4 x)(h:V x<pZ):(V x).toNat=(FV x).val:=by
 have e:=dT x;have b:=(eC a).1;rw[Int.emod_eq_of_lt b h]at e;omega
def E1(e:Int):Prop:=e=0∨e=1
theorem na{Q:AV→Prop}{st:St}{b:List Nat}{o:Bool}{e:Int}(hq:Q (.tup [.agg (cb b),.d (.bool o),.d (.int .i64 e)])):dm Q (.tup [.agg (cb b),.d (.bool o),.d (.int .i64 e)]) st :=
 ae (by
  intro c hc;simp at hc;rcases hc with rfl|rfl|rfl;exact .inr ⟨_,rfl,aW _⟩;exact .inl trivial
  exact .inl trivial) hq
theorem RN(inner b:List Nat)(hi:inner.length=32)(K:bytes inner)(hr:b.length≤1000):∃(k:List Nat)(o:Bool)(e:Int),k.length=32∧bytes k∧E1 e∧DT (eo inner) (eo (eH jH (inner++b))) k o e∧ap Tryz.prog 138 [.agg (cb inner),.d (nb b)] (fun r=>r=.tup [.agg (cb k),.d (.bool o),.d (.int .i64 e)]):=by
 obtain⟨x,y,c,ok,C,J,vl,H⟩:=xe inner hi K;obtain⟨t,U,W,N,M⟩:=Gh inner b hi hr;obtain⟨n,m,q,j,f,vq,f4⟩:=uR [1,0,0,0] t x y gX gY c false (jF ⟨aq,aq⟩) W C J RH RI;obtain⟨I,z,Q,vk,f5⟩:=pg n m q j f;obtain⟨E,vo,f6⟩:=uO n m q j f;generalize hT:eo (eH jH (inner++b))=T at *;have O:bytes z32:=fun x C=>by simp[z32]at C;omega
 have pl:=bR C.1 J.1 c;have u:=dA C.1 J.1 c;have s:(cP zI zI false).drop 9=[]:=o8 rfl rfl _;have g:(cP zI zI false).length=9:=rfl;have v:=bR j.1 f.1 q;have A:=dA j.1 f.1 q;have qb:=DL j.1 f.1 q;have qg:=F7 j.1 f.1 q;have a:=W.1;have w:List.drop 4 (cI zI)=[]:=aG rfl;have F:List.drop 32 (cb z32)=[]:=fg rfl;have P:List.take 32 (cb z32)=cb z32:=al rfl;cases ok
 ·refine⟨z32,false,1,rfl,O,.inr rfl,.inl ⟨.inl (fun h=>H2 vl h.1),rfl,rfl,rfl⟩,?_⟩;refine bz Tryz.func138 Tryz.ntmps138 (rs:=[.cell 4 29,.tmp 5,.tmp 6]) (DR _ _) ?_;simp[go_sem,aj,hi,al hi];refine ag H (cv _) ?_;simp[go_sem,pl,u,s,g,F,P,aj,ai];exact na rfl
 ·cases U
  ·refine⟨z32,false,1,rfl,O,.inr rfl,.inl ⟨.inl (fun h=>absurd (N.1 h.2).1 (by decide)),rfl,rfl,rfl⟩,?_⟩;refine bz Tryz.func138 Tryz.ntmps138 (rs:=[.cell 4 29,.tmp 5,.tmp 6]) (DR _ _) ?_;simp[go_sem,aj,hi,al hi];refine ag H (cv _) ?_;simp[go_sem,aj,hi,al hi,pl,u,s,g];refine ag M (DR _ _) ?_;simp[go_sem,a,aa a,w,F,P,aj,ai];exact na rfl
  ·obtain⟨k1,k2,k3,k4⟩:=HZ vl;have B:T<115792089237316195423570985008687907852837564279074904382605163141518161494337:=by
    by_cases h:T<115792089237316195423570985008687907852837564279074904382605163141518161494337;exact h;exact absurd (N.2 h).1 (by decide)
   obtain⟨S,m2⟩:=vq k3 pe;have vT:(V t).toNat=T:=by rw[(N.1 B).2];exact Int.toNat_natCast _
   have v1:(V [1,0,0,0]).toNat=1:=(by simp[V]);rw[k4,vT,v1]at m2;have hQ:PV n m q=turnQ (eo inner) T:=m2;cases q
   ·have i:=S;rcases i with ⟨hb,_⟩|⟨_,L,R,_⟩;cases hb;have vR:DT (eo inner) T I (!E) 0:=by
     refine .inr ⟨⟨k1,B⟩,rfl,FV n,FV m,hQ.symm,by rw[vk S];exact zg j L,?_⟩;have e:=zg f R;have ab:=(eC f).1;have ho:=vo S;cases E;have:¬V m%2=0:=fun h=>Bool.noConfusion (ho.2 ⟨rfl,h⟩);exact⟨fun _=>aq,fun _=>rfl⟩;have:=(ho.1 rfl).2;exact⟨fun h=>Bool.noConfusion h,fun h=>aq⟩
    refine⟨I,!E,0,z,Q,.inl rfl,vR,?_⟩;refine bz Tryz.func138 Tryz.ntmps138 (rs:=[.cell 4 29,.tmp 5,.tmp 6]) (DR _ _) ?_;simp[go_sem,aj,hi,al hi];refine ag H (cv _) ?_;simp[go_sem,aj,hi,al hi,pl,u,s,g];refine ag M (DR _ _) ?_;simp[go_sem,a,aa a,w];refine cO [1,2] [0,3,4,5,6] [1,2] (.alt (bt 0 (.alt (bt 3 (.alt (a_ [4,5,6]) (bt 5 (a_ [4,6])))) (bt 5 (bt 3 (a_ [4,6]))))) (bt 5 (bt 0 (bt 3 (a_ [4,6]))))) ⟨[(4,.ptr 32 0 0 1),(10,.ptr 960 0 0 1)],[(960,⟨189,9,[cP n m false]⟩),(32,⟨29,32,[cb z32]⟩)],5000⟩ (k:=7) ?h3 ?hq
    case h3 =>
     intro G D;have p:∀(l:Fr)(i:Hp),(fv 4 l=.ptr 32 0 0 1∧fv 10 l=.ptr 960 0 0 1∧lk 960 i=some ⟨189,9,[cP n m false]⟩∧lk 32 i=some ⟨29,32,[cb z32]⟩)→G l i:=by
      rintro l i⟨X,q1,Z,Y⟩;exact D _ _ pD
     simp[go_sem,a,aa a,pl,u,v,A,s,g,w,cZ]
     repeat' first|exact p _ _ ⟨rfl,rfl,rfl,rfl⟩|(refine p _ _ ?_;simp[fv,lk];done)|refine ag (eR 1) a9 ?_|refine ag rZ aw ?_|refine ag f4 (Gg _ _ _ _ _ _ _ _) ?_|apply And.intro|simp[go_sem,a,aa a,pl,u,v,A,s,g,w,cZ]
    case hq =>
     simp[go_sem,qb,qg,v];refine cO [0,2] [1,3,4,5,6,7] [0,2] (bt 1 (bx 3 (.alt (a_ [4,5,6,7]) (a_ [5,4,6,7])))) ⟨[(4,.ptr 32 0 0 1),(5,.d (.bool (!E))),(6,.d (.int .i64 0))],[(32,⟨29,32,[cb I]⟩)],9000⟩ (k:=8) ?h3 ?hq
     case h3 =>
      intro G D;have p:∀(l:Fr)(i:Hp),(fv 4 l=.ptr 32 0 0 1∧fv 5 l=.d (.bool (!E))∧fv 6 l=.d (.int .i64 0)∧lk 32 i=some ⟨29,32,[cb I]⟩)→G l i:=by
       rintro l i⟨X,q1,Z,Y⟩;exact D _ _ pD
      simp[go_sem,v,A,z,aj,al z,F,cZ]
      repeat' first|exact p _ _ ⟨rfl,rfl,rfl,rfl⟩|(refine p _ _ ?_;simp[fv,lk];done)|refine ag f5 (dU _ _ _) ?_|refine ag f6 (dU _ _ _) ?_|apply And.intro|simp[go_sem,v,A,z,aj,al z,F,cZ]
     case hq =>
      simp[go_sem,aj,z,al z,ai];exact na rfl
   ·refine⟨z32,false,1,rfl,O,.inr rfl,.inl ⟨.inr hQ.symm,rfl,rfl,rfl⟩,?_⟩;refine bz Tryz.func138 Tryz.ntmps138 (rs:=[.cell 4 29,.tmp 5,.tmp 6]) (DR _ _) ?_;simp[go_sem,aj,hi,al hi];refine ag H (cv _) ?_;simp[go_sem,aj,hi,al hi,pl,u,s,g];refine ag M (DR _ _) ?_;simp[go_sem,a,aa a,w];refine cO [1,2] [0,3,4,5,6] [1,2] (.alt (bt 0 (.alt (bt 3 (.alt (a_ [4,5,6]) (bt 5 (a_ [4,6])))) (bt 5 (bt 3 (a_ [4,6]))))) (bt 5 (bt 0 (bt 3 (a_ [4,6]))))) ⟨[(4,.ptr 32 0 0 1),(10,.ptr 960 0 0 1)],[(960,⟨189,9,[cP n m true]⟩),(32,⟨29,32,[cb z32]⟩)],5000⟩ (k:=7) ?h3 ?hq
    case h3 =>
     intro G D;have p:∀(l:Fr)(i:Hp),(fv 4 l=.ptr 32 0 0 1∧fv 10 l=.ptr 960 0 0 1∧lk 960 i=some ⟨189,9,[cP n m true]⟩∧lk 32 i=some ⟨29,32,[cb z32]⟩)→G l i:=by
      rintro l i⟨X,q1,Z,Y⟩;exact D _ _ pD
     simp[go_sem,a,aa a,pl,u,v,A,s,g,w,cZ]
     repeat' first|exact p _ _ ⟨rfl,rfl,rfl,rfl⟩|(refine p _ _ ?_;simp[fv,lk];done)|refine ag (eR 1) a9 ?_|refine ag rZ aw ?_|refine ag f4 (Gg _ _ _ _ _ _ _ _) ?_|apply And.intro|simp[go_sem,a,aa a,pl,u,v,A,s,g,w,cZ]
    case hq =>
     simp[go_sem,qb,qg,v,F,P,aj,ai];exact na rfl
open Go.Am Go.Sha
def cF(inner:List Nat)(a:List (List Nat))(x:List Nat):AV:=.agg (ar inner (.d (bS a)) (.d (nb x)))
theorem c6(inner:List Nat)(b:List (List Nat))(x:List Nat):∀v,v∈[cF inner b x]→v.deep:=by
 intro v a;simp at a;subst a;simp[AV.deep,ar,cF];intro c hc;rcases hc with hc|rfl|rfl;exact aW _ _ hc;trivial;trivial
theorem RO(k:List Nat)(o:Bool)(e:Int):(AV.tup [.agg (cb k),.d (.bool o),.d (.int .i64 e)]).flat:=by
 intro c hc;simp at hc;rcases hc with rfl|rfl|rfl;refine .inr ⟨_,rfl,fun x a=>?_⟩;rw[cb,List.mem_map]at a;obtain⟨y,_,rfl⟩:=a;trivial;exact .inl trivial;exact .inl trivial
theorem se{l:List Nat}(h:l.length=32)(r:List AV):List.take 32 (cb l++r)=cb l:=by
 rw[List.take_append_of_le_length (by rw[aj,h];exact cL _),al h]
theorem pj{inner:List Nat}(hi:inner.length=32)(a b:AV):List.take 34 (cb inner++[a,b])=cb inner++[a,b]:=cx (by simp[aj,hi])
theorem Gi(b:List (List Nat)):∀h:List Nat,h.length=32→(jd b h).length=32:=by
 induction b with
 |nil=>exact fun h a=>a
 |cons p r ih=>exact fun h a=>ih _ (iC h p)
def sf(inner:List Nat)(a:List (List Nat))(x k:List Nat)(o:Bool)(e:Int):Prop :=
 (¬(a.length≤8∧x.length≤1000)∧e=1∧k=z32∧o=false)∨((a.length≤8∧x.length≤1000)∧DT (eo inner) (eo (eH jH (inner++jd a (db x)))) k o e)
theorem pn(inner:List Nat)(a:List (List Nat))(x:List Nat)(hi:inner.length=32)(m:bytes inner)(i:∀p,p∈a→p.length=32)(l:a.length≤1000)(n:x.length≤100000):∃(k:List Nat)(o:Bool)(e:Int),k.length=32∧bytes k∧E1 e∧ap Tryz.prog 92 [cF inner a x] (fun r=>r=.tup [.agg (cb k),.d (.bool o),.d (.int .i64 e)])∧(e=0→a.length≤8∧x.length≤1000)∧sf inner a x k o e:=by
 have c:=Gi a (db x) (kt x);have A:=Qy inner a x hi i l n;unfold sf;generalize jd a (db x)=R at *;obtain⟨k,o,e,b,q,B,w,z⟩:=RN inner R hi m aq;have u:bytes z32:=fun x n=>by simp[z32]at n;omega
 have j:List.drop 32 (cb z32)=[]:=fg rfl;have v:List.take 32 (cb z32)=cb z32:=al rfl;by_cases D:8<a.length
 ·refine⟨z32,false,1,rfl,u,.inr rfl,?_,fun h=>aq,.inl ⟨aq,rfl,rfl,rfl⟩⟩;refine bz Tryz.func92 Tryz.ntmps92 (rs:=[.cell 2 29,.tmp 3,.tmp 4]) (c6 _ _ _) ?_;have f:(8:Int)<(a.length:Int):=aq;simp[go_sem,cF,ar,kM hi,iQ hi,bS,nb,f,j,v,aj,ai];exact na rfl
 by_cases F:1000<x.length
 ·refine⟨z32,false,1,rfl,u,.inr rfl,?_,fun h=>aq,.inl ⟨aq,rfl,rfl,rfl⟩⟩;refine bz Tryz.func92 Tryz.ntmps92 (rs:=[.cell 2 29,.tmp 3,.tmp 4]) (c6 _ _ _) ?_;have f:¬(8:Int)<(a.length:Int):=aq;have i2:(1000:Int)<(x.length:Int):=aq;simp[go_sem,cF,ar,kM hi,iQ hi,bS,nb,f,i2,j,v,aj,ai];exact na rfl
 refine⟨k,o,e,b,q,B,?_,fun _=>aq,.inr ⟨aq,w⟩⟩;refine bz Tryz.func92 Tryz.ntmps92 (rs:=[.cell 2 29,.tmp 3,.tmp 4]) (c6 _ _ _) ?_;have f:¬(8:Int)<(a.length:Int):=aq;have i2:¬(1000:Int)<(x.length:Int):=aq;simp[go_sem,cF,ar,kM hi,iQ hi,bS,nb,f,i2,hi,pj hi];refine ag (by simpa only[ar,bS,nb]using A) (by simpa only[cF,ar,bS,nb]using c6 inner a x) ?_;simp[go_sem,aj,c,al c,j];refine cO [0,1,2] [3,7,8,9] [0,1,2,4,5,6] (.step 3 [4,5,6] true (a_ [7,8,9])) ⟨[(2,.ptr 32 0 0 1),(3,.d (.bool o)),(4,.d (.int .i64 e))],[(32,⟨29,32,[cb k]⟩)],9000⟩ (k:=10) ?h3 ?hq
 case h3 =>
  intro G y;have t:∀(g:Fr)(s:Hp),(fv 2 g=.ptr 32 0 0 1∧fv 3 g=.d (.bool o)∧fv 4 g=.d (.int .i64 e)∧lk 32 s=some ⟨29,32,[cb k]⟩)→G g s:=by
   rintro g s⟨C,H,I,E⟩;exact y _ _ pD
  simp[go_sem,ar,kM hi,iQ hi,aj,hi,c,b,al hi,al c,al b,j,se hi,cZ]
  repeat' first|exact t _ _ ⟨rfl,rfl,rfl,rfl⟩|(refine t _ _ ?_;simp[fv,lk];done)|refine jx z rfl (ak (.deep (dc _)) (ak (.one (ao (dE rfl trivial c))) aC)) (RO _ _ _) ?_|apply And.intro|simp[go_sem,ar,kM hi,iQ hi,aj,hi,c,b,al hi,al c,al b,j,se hi,cZ]
 case hq =>
  simp[go_sem,aj,b,al b,ai];exact na rfl
end Go.Proofs.YtmfnimjnneflnaaGreat
namespace Go.Sha
open Go.Proofs.YtmfnimjnneflnaaGreat
structure RnF where
 t:Tn
 n:Nat
 coins:List (Nat×List Nat)
 inner:List Nat
 path:List (List Nat)
 script:List Nat
 annex:List Nat
end Go.Sha
namespace Go.Proofs.YtmfnimjnneflnaaGreat
open Go.Am Go.Sha
def nB(F:RnF):List AV:=eS F.t (F.n:Int) F.coins++(ar F.inner (.d (bS F.path)) (.d (nb F.script))++[.d (nb F.annex)])
theorem Xa{C:List AV}(h:∀v,v∈C→∃d,v=.d d)(b:C.length=41):jV C :=
 ⟨fun v a ρ=>by obtain⟨d,rfl⟩:=h v a;rfl,fun v a n=>by obtain⟨d,rfl⟩:=h v a;trivial,b⟩
theorem jb{F:RnF}(hi:F.inner.length=32):jV (nB F):=by
 refine Xa (fun v a=>?_) (by simp[nB,eS,ar,aj,hi]);simp only[nB,eS,ar,cD,d_,List.mem_nil_iff,or_false]at a;rcases a with (rfl|rfl|rfl|rfl|rfl|rfl)|(h|rfl|rfl)|rfl
 all_goals first|exact⟨_,rfl⟩|skip
 obtain⟨x,_,rfl⟩:=List.mem_map.1 h;exact⟨_,rfl⟩
theorem RP{C:List AV}(c:jV C)(r:Rn)(J:List Bool)(y:StOk r.main r.alt)(l:List (Int×Int))(e:Int)(hc:r.cl.length≤100000)(w:l.length≤100000):fH Tryz.prog 3 (a8 C) 233 ⟨r,J,0⟩ [.ptr 0 0 0 1,.d (.ro 2 (l.map eQ)),.d (.int .i64 e)] (fun v m=>m=⟨Dn l e r,J,0⟩):=by
 refine aB Tryz.func233 (by kernel_rfl) rfl Tryz.ntmps233 (rs:=[]) rfl (fD rfl) (by decide) ?_;have z:=c.2.2;simp[go_sem];refine gR (Pp:=[]) c (gn c r J 0) aq aw (by simp[AV.renL,AV.ren]) ?_;rintro v m ρ ⟨rfl,rfl⟩ p;by_cases h:r.e=0
 ·have o:Dn l e r=dZ (lh true) { aH e r with cl:=r.cl++l }:=if_pos h;rw[o];simp[go_sem,AV.ren,h];refine gR (Pp:=[]) (s:=⟨r,J,0⟩) c (cK c r J 0 e) aq aw (by simp[AV.renL,AV.ren]) ?_;rintro v m ρ rfl p;have k:StOk (aH e r).main (aH e r).alt:=i6 y;have n:(aH e r).cl=r.cl:=by unfold aH;split<;>rfl
  rw[←n];rw[←n]at hc;generalize aH e r=r2 at *;obtain⟨a,alt,i,b,cl,g⟩:=r2;simp only at hc k;rw[cf];simp only[a8,cC,cB,id];have t:List.take cl.length (JW cl 0)=cl.map Yg:=by simp[JW,cx]
  have q:(JW cl 0).length=cl.length:=by simp[JW]
  have u:List.map ((fun r=>List.map AV.d r)∘eQ) l=l.map Yg:=rfl;have f:=qA c ⟨a,alt,i,b,cl++l,g⟩ J 0 k (lh true) (by simp[lh]);have j:iZ ⟨a,alt,i,b,cl,g⟩=iZ ⟨a,alt,i,b,cl++l,g⟩:=rfl;rw[j];simp[go_sem,z,jP,P4,t,q,u];refine⟨aq,fun x=>?_,fun x=>?_⟩
  ·obtain rfl:l=[]:=List.length_eq_zero_iff.1 aq;simp only[List.append_nil]at f⊢;refine ag (uJ true) a9 ?_;simp[go_sem];refine bw (Pp:=[]) (s:=⟨⟨a,alt,i,b,cl,g⟩,J,0⟩) c f (by simp[cf,a8,cC,cB,JW]) aq aw (by simp[AV.renL,AV.ren]) ?_;rintro v m ρ rfl p;rw[cf];generalize dZ (lh true) _=r';simp only[a8,cC,cB,id];simp[go_sem,ai];exact aP rfl rfl rfl
  ·refine ag (uJ true) a9 ?_;simp[go_sem];refine bw (Pp:=[]) (s:=⟨⟨a,alt,i,b,cl++l,g⟩,J,0⟩) c f (by simp[cf,a8,cC,cB,JW]) aq aw (by simp[AV.renL,AV.ren]) ?_;rintro v m ρ rfl p;rw[cf];generalize dZ (lh true) _=r';simp only[a8,cC,cB,id];simp[go_sem,ai];exact aP rfl rfl rfl
 ·have o:Dn l e r=r:=if_neg h;rw[o];simp[go_sem,AV.ren,h,ai];rw[cf];exact aP rfl rfl rfl
theorem Xb{C:List AV}(e:jV C){s:RnS}{N:Nat}(f:3≤N):∀p,p∈kg 3 (a8 C) s id→p.1<N∧∀r,r∈p.2.es→∀v,v∈r→v.low1 N:=by
 intro p d;rw[cf]at d;simp only[d_,List.mem_nil_iff,or_false]at d;rcases d with rfl|rfl|rfl
 ·refine⟨by show 0<N;omega,fun r c v a=>?_⟩;simp only[a8,d_,List.mem_nil_iff,or_false]at c;subst c;rcases cD.1 a with h|h;exact e.2.1 v h N
  ·simp only[cB,d_,List.mem_nil_iff,or_false]at h;rcases h with rfl|rfl|rfl|rfl|rfl|rfl|rfl
   all_goals first|trivial|(show 1<N;omega)|(show 2<N;omega)
 ·refine⟨by show 1<N;omega,fun r c v a=>?_⟩;obtain⟨b,_,rfl⟩:=List.mem_map.1 c;simp only[d_,List.mem_nil_iff,or_false]at a;subst a;trivial
 ·refine⟨by show 2<N;omega,fun r c v a=>?_⟩;rcases cD.1 c with h|h;obtain⟨x,_,rfl⟩:=List.mem_map.1 h;simp only[Yg,d_,List.mem_nil_iff,or_false]at a;rcases a with rfl|rfl<;>trivial;rw[List.eq_of_mem_replicate h]at a;simp only[d_,List.mem_nil_iff,or_false]at a;rcases a with rfl|rfl<;>trivial
theorem rnW{C:List AV}(c:jV C){s:RnS}{hp:Hp}{nx N:Nat}(b:3≤N)(h:∀p,p∈kg 3 (a8 C) s id→lk p.1 hp=some p.2) :
  ∀p,p∈kg 3 (a8 C) s id→(lk p.1 hp=some p.2∨(nx≤p.1∧p.2.es=[]))∧p.1<N∧∀r,r∈p.2.es→∀v,v∈r→v.low1 N :=
 fun p a=>⟨.inl (h p a),Xb c b p a⟩
theorem zh{C:List AV}{s:RnS}{hp:Hp}(c:lk 0 hp=some (a8 C s id 0))(b:lk 1 hp=some (a8 C s id 1))(d:lk 2 hp=some (a8 C s id 2)):∀p,p∈kg 3 (a8 C) s id→lk p.1 hp=some p.2:=by
 intro p a;rw[cf]at a;simp only[d_,List.mem_nil_iff,or_false]at a;rcases a with rfl|rfl|rfl;exact c;exact b;exact d
end Go.Proofs.YtmfnimjnneflnaaGreat
