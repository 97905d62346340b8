/-
 Part 11 of what the claim rests on.
-/
import Derived.Test.YtmfnimjnneflnaaGreatP8
import Derived.Test.YtmfnimjnneflnaaGreatP9
set_option linter.unusedVariables false
set_option linter.unusedSimpArgs false
set_option maxRecDepth 100000
set_option maxHeartbeats 16000000
namespace Go.Proofs.YtmfnimjnneflnaaGreat
open Go.Am Go.Sha Go.Ec
theorem Au(x:Int):∀v,v∈[AV.d (.int .u64 x)]→v.deep:=by
 intro v hv;simp at hv;subst hv;trivial
theorem P4{a:List Int}(ha:Wn 4 a):(a.map Int.toNat).length=4∧cI a=cW (a.map Int.toNat):=by
 refine⟨by simp[ha.1],?_⟩;unfold cI cW;rw[List.map_map];refine List.map_congr_left fun x hx=>?_;have:=(ha.2 x hx).1;simp only[Function.comp_apply];rw[Int.toNat_of_nonneg this]
theorem YY{a b:List Int}(ha:Wn 4 a)(hb:Wn 4 b):zS (a.map Int.toNat) (b.map Int.toNat) 4<0↔V a<V b:=by
 obtain⟨a0,a1,a2,a3,rfl,h0,h1,h2,h3⟩:=jh ha;obtain⟨b0,b1,b2,b3,rfl,k0,k1,k2,k3⟩:=jh hb;unfold dr at *;rw[V4,V4];have g0:∀w x y z:Nat,[w,x,y,z].getD 0 0=w:=fun _ _ _ _=>rfl;have g1:∀w x y z:Nat,[w,x,y,z].getD 1 0=x:=fun _ _ _ _=>rfl;have g2:∀w x y z:Nat,[w,x,y,z].getD 2 0=y:=fun _ _ _ _=>rfl;have g3:∀w x y z:Nat,[w,x,y,z].getD 3 0=z:=fun _ _ _ _=>rfl;simp only[List.map_cons,List.map_nil,zS,g0,g1,g2,g3]
 repeat' split
 all_goals omega
theorem EJ(a b:List Int)(ha:Wn 4 a)(hb:Wn 4 b):∃c:Int,(c<0↔V a<V b)∧ay Tryz.prog 206 [.agg (cI a),.agg (cI b)] (fun r=>r=.d (.int .i64 c)):=by
 obtain⟨hl,e1⟩:=P4 ha;obtain⟨hm,e2⟩:=P4 hb;rw[e1,e2];exact⟨_,YY ha hb,RJ _ _ hl hm⟩
theorem mW(a:List Int)(ha:Wn 4 a):∃r,Wn 4 r∧(V r<pZ∧FV r=FV a*FV a)∧W1 208 a r:=by
 obtain⟨r,hr,vr,f1⟩:=gh a a ha ha;unfold W2 at f1;have hal:=ha.1;have hrl:=hr.1;have hz:List.drop 4 (cI zI)=[]:=aZ rfl;refine⟨r,hr,vr,?_⟩;unfold W1;refine bL Tryz.func208 Tryz.ntmps208 (rs:=[.cell 2 96]) (aS a) ?_;simp[go_sem,hal,ae hal];refine ag f1 (aK _ _) ?_;simp[go_sem,hrl,ae hrl,hz,ah];exact dH rfl
theorem Av(a:List Int)(ha:Wn 4 a):∃r,Wn 4 r∧(V r<pZ∧FV r=FV a*FV a*FV a+7)∧W1 190 a r:=by
 obtain⟨s,hs,vs,f1⟩:=mW a ha;obtain⟨m,hm,vm,f2⟩:=gh s a hs ha;obtain⟨r,hr,vr,f3⟩:=WC m [7,0,0,0] hm (jF ⟨aq,aq⟩);have v7:FV [7,0,0,0]=7:=CZ 7 aq;rw[v7,vm.2,vs.2]at vr;unfold W1 at f1;unfold W2 at f2 f3;have hal:=ha.1;have hrl:=hr.1;have hz:List.drop 4 (cI zI)=[]:=aZ rfl;refine⟨r,hr,vr,?_⟩;unfold W1;refine bL Tryz.func190 Tryz.ntmps190 (rs:=[.cell 2 96]) (aS a) ?_;simp[go_sem,hal,ae hal];refine ep [0,2] [1,3,4,5,6] [0,2] (bt 1 (a_ [3,4,5,6])) ⟨[(2,.ptr 32 0 0 1)],[(32,⟨96,4,[cI r]⟩)],9000⟩ (k:=7) ?h3 ?hq
 case h3 =>
  intro G hG
  have hW:∀(fr:Fr)(hp:Hp),(fv 2 fr=.ptr 32 0 0 1∧lk 32 hp=some ⟨96,4,[cI r]⟩)→G fr hp:=by
   rintro fr hp⟨q0,q1⟩;refine hG _ _ (cB ?_);simp only[aA,ai];refine⟨fun p hp=>?_,fun p hp=>?_,aw⟩
   ·simp only[et,List.mem_nil_iff,or_false]at hp;subst hp;exact⟨.inl q0.symm,by simp[AV.low,AV.low1]⟩
   ·simp only[et,List.mem_nil_iff,or_false]at hp;subst hp;exact⟨.inl q1,aw,by intro r hr;simp only[et,List.mem_nil_iff,or_false]at hr;subst hr;exact bU _ _⟩
  simp[go_sem,hal,ae hal,hrl,ae hrl,hz,dM]
  repeat' first|exact hW _ _ ⟨rfl,rfl⟩|(refine hW _ _ ?_;simp[fv,lk];done)|refine ag f1 (aS _) ?_|refine ag f2 (aK _ _) ?_|refine ag f3 (aK _ _) ?_|refine ag (eQ 7) (Au _) ?_|apply And.intro|simp[go_sem,hal,ae hal,hrl,ae hrl,hz,dM]
 case hq =>
  simp[go_sem,hrl,ae hrl,ah];exact dH rfl
theorem uk(a:List Int)(ha:Wn 4 a):∃b:Bool,(b=true↔V a<pZ)∧ay Tryz.prog 188 [.agg (cI a)] (fun r=>r=.d (.bool b)):=by
 obtain⟨c,vc,f1⟩:=EJ a x9 ha Ak;have vp:V x9=pZ:=by simp[V,x9]
 rw[vp]at vc;have hal:=ha.1;refine⟨decide (c<0),by rw[decide_eq_true_iff];exact vc,?_⟩;refine bL Tryz.func188 Tryz.ntmps188 (rs:=[.tmp 2]) (aS a) ?_;simp[go_sem,hal,ae hal];refine b7 [0] [(1,[]),(2,[3,4])] 2 (k:=5) ?_;intro G hG;simp[go_sem,hal,ae hal];refine ag jL aw ?_;simp[go_sem];refine ag f1 (aK _ _) ?_;simp[go_sem,dM];refine hG _ _ ?_;simp[go_sem,ah];exact aa a9 rfl
def cP(x y:List Int)(b:Bool):List AV:=cI x++(cI y++[.d (.bool b)])
theorem bY{x y:List Int}(hx:x.length=4)(hy:y.length=4)(b:Bool):(cP x y b).length=9:=by simp[cP,eH,hx,hy]
theorem c7{x y:List Int}(hx:x.length=4)(hy:y.length=4)(b:Bool):(cP x y b).take 9=cP x y b:=cA (by rw[bY hx hy];omega)
theorem nP{x y:List Int}(hx:x.length=4)(hy:y.length=4)(b:Bool):(cP x y b).drop 9=[]:=dg (by rw[bY hx hy];omega)
theorem S7{x y:List Int}(hx:x.length=4)(b:Bool):(cP x y b).take 4=cI x:=by
 unfold cP;rw[List.take_append_of_le_length (by rw[eH];omega),ae hx]
theorem WF{x y:List Int}(hx:x.length=4)(hy:y.length=4)(b:Bool):((cP x y b).drop 4).take 4=cI y:=by
 unfold cP;rw[List.drop_append_of_le_length (by rw[eH];omega),aZ hx,List.nil_append,List.take_append_of_le_length (by rw[eH];omega),ae hy]
theorem Aw{x y:List Int}(hx:x.length=4)(hy:y.length=4)(b:Bool):(cP x y b)[8]?=some (.d (.bool b)):=by
 unfold cP;rw[dz (by rw[eH];omega),dz (by simp only[eH];omega)];simp[eH,hx,hy]
theorem C0{x y:List Int}(hx:x.length=4)(hy:y.length=4)(b:Bool)(h:8<(cP x y b).length):(cP x y b)[8]=.d (.bool b):=(ci.1 (Aw hx hy b)).2
theorem jG(x y:List Int)(b:Bool):(AV.agg (cP x y b)).deep:=by
 intro v hv;unfold cP at hv;rcases cL.1 hv with hv|hv
 ·exact iY _ v hv
 ·rcases cL.1 hv with hv|hv
  ·exact iY _ v hv
  ·simp at hv;subst hv;trivial
theorem dx(x y:List Int)(b:Bool):∀v,v∈[AV.agg (cP x y b)]→v.deep:=by
 intro v hv;simp at hv;subst hv;exact jG _ _ _
theorem lM(n:Nat)(x y:List Int)(b:Bool):∀v,v∈cP x y b→v.low1 n:=by
 intro v hv;unfold cP at hv;rcases cL.1 hv with hv|hv
 ·exact bU _ _ v hv
 ·rcases cL.1 hv with hv|hv
  ·exact bU _ _ v hv
  ·simp at hv;subst hv;trivial
theorem oU{Q:AV→Prop}{st:St}{x y:List Int}{b:Bool}(hq:Q (.agg (cP x y b))):dy Q (.agg (cP x y b)) st:=aa (jG _ _ _) hq
theorem ZO:eW Tryz.prog 189=some (cP zI zI false):=by kernel_rfl
attribute [go_sem] ZO
theorem jH:ay Tryz.prog 160 [] (fun r=>r=.agg (cP zI zI true)):=by
 refine bL Tryz.func160 Tryz.ntmps160 (rs:=[.cell 0 189]) a9 ?_;simp[go_sem,cP,cI,zI,ah];exact oU (x:=zI) (y:=zI) (b:=true) rfl
def lP(x y:List Int)(b:Bool):List L1:=x.map (L1.i .u64)++(y.map (L1.i .u64)++[L1.b b])
theorem Ko:∀(x:List Int)(r:List AV),ew (cI x++r)=(ew r).map (x.map (L1.i .u64)++·)
 |[],r=>by simp[cI]
 |a::l,r=>by
  have ih:=Ko l r;show ew (.d (.int .u64 a)::(cI l++r))=_;have e:ew (.d (.int .u64 a)::(cI l++r))=(ew (cI l++r)).map (L1.i .u64 a::·):=rfl;rw[e,ih,Option.map_map];rfl
theorem EK(x y:List Int)(b:Bool):ew (cP x y b)=some (lP x y b):=by
 unfold cP;rw[Ko,Ko];rfl
theorem ZP:dS Tryz.prog 8 189=some (List.replicate 8 (some .u64)++[none]):=by kernel_rfl
theorem Kp{x y:List Int}(hx:x.length=4)(hy:y.length=4)(b:Bool):dS Tryz.prog 8 189=some ((lP x y b).map L1.k):=by
 rw[ZP]
 match x,y,hx,hy with
 |[a,b,c,d],[e,f,g,h],_,_=>rfl
theorem ZQ:Tryz.prog.eqGuardType Tryz.prog.depth 189=false:=by kernel_rfl
theorem WG(x y:List Int)(b:Bool)(hx:Wn 4 x)(hy:Wn 4 y):∃c:Bool,(c=true↔jm x y b)∧ay Tryz.prog 186 [.agg (cP x y b)] (fun r=>r=.d (.bool c)):=by
 have hxl:=hx.1;have hyl:=hy.1
 cases b
 ·obtain⟨b1,vb1,f1⟩:=uk x hx;obtain⟨b2,vb2,f2⟩:=uk y hy;obtain⟨s,hs,vs,f3⟩:=mW y hy;obtain⟨r,hr,vr,f4⟩:=Av x hx;unfold W1 at f3 f4;have hsl:=hs.1;have hrl:=hr.1;have e1:∀c:Bool,(cP x y c).take 4=cI x:=S7 hxl;have e2:∀c:Bool,((cP x y c).drop 4).take 4=cI y:=WF hxl hyl
  have hv:(b1&&(b2&&decide (s=r)))=true↔jm x y false:=by
   rw[Bool.and_eq_true,Bool.and_eq_true,decide_eq_true_iff,vb1,vb2];refine⟨fun⟨h1,h2,h3⟩=>.inr ⟨rfl,h1,h2,by rw[←vs.2,h3,vr.2]⟩,fun h=>?_⟩;rcases h with ⟨h,_⟩|⟨_,h1,h2,h3⟩
   ·cases h
   ·exact⟨h1,h2,J8 hs hr vs.1 vr.1 (by rw[vs.2,vr.2,h3])⟩
  refine⟨b1&&(b2&&decide (s=r)),hv,?_⟩;refine bL Tryz.func186 Tryz.ntmps186 (rs:=[.tmp 2]) (dx _ _ _) ?_;simp[go_sem,bY hxl hyl,c7 hxl hyl,Aw hxl hyl,C0 hxl hyl]
  cases b1
  ·skip;refine b7 [0,1] [(2,[3,4,5]),(6,[7,8,9,10,12,13]),(11,[]),(14,[15,16,17])] 4 (k:=18) ?_;intro G hG;simp[go_sem,bY hxl hyl,e1,e2];refine ag f1 (aS _) ?_;simp[go_sem,dM];refine hG _ _ ?_;simp[go_sem,ah];exact aa a9 rfl
  ·cases b2
   ·skip;refine b7 [0,1] [(2,[3,4,5]),(6,[7,8,9,10,12,13]),(11,[]),(14,[15,16,17])] 4 (k:=18) ?_;intro G hG;simp[go_sem,bY hxl hyl,e1,e2];refine ag f1 (aS _) ?_;simp[go_sem,bY hxl hyl,e1,e2,dM];refine ag f2 (aS _) ?_;simp[go_sem,dM];refine hG _ _ ?_;simp[go_sem,ah];exact aa a9 rfl
   ·skip;refine b7 [0,1] [(2,[3,4,5]),(6,[7,8,9,10,12,13]),(11,[]),(14,[15,16,17])] 4 (k:=18) ?_;intro G hG;simp[go_sem,bY hxl hyl,e1,e2];refine ag f1 (aS _) ?_;simp[go_sem,bY hxl hyl,e1,e2,dM];refine ag f2 (aS _) ?_;simp[go_sem,bY hxl hyl,e1,e2,dM];refine ag f3 (aS _) ?_;simp[go_sem,bY hxl hyl,e1,e2,dM];refine ag f4 (aS _) ?_;simp[go_sem,io,hsl,hrl,dM];refine hG _ _ ?_;simp[go_sem,ah];exact aa a9 rfl
 ·have hv:decide (lP x y true=lP zI zI true)=true↔jm x y true:=by
   rw[decide_eq_true_iff];refine⟨fun h=>.inl ⟨rfl,?_⟩,fun h=>?_⟩
   ·match x,y,hxl,hyl with
    |[a,b,c,d],[e,f,g,i],_,_ =>
     simp[lP,zI]at h;obtain⟨rfl,rfl,rfl,rfl,rfl,rfl,rfl,rfl⟩:=h;exact⟨rfl,rfl⟩
   ·rcases h with ⟨_,rfl,rfl⟩|⟨h,_⟩
    ·rfl
    ·cases h
  refine⟨decide (lP x y true=lP zI zI true),hv,?_⟩;refine bL Tryz.func186 Tryz.ntmps186 (rs:=[.tmp 2]) (dx _ _ _) ?_;simp[go_sem,bY hxl hyl,c7 hxl hyl,Aw hxl hyl,C0 hxl hyl];refine b7 [0] [(1,[2,3])] 1 (k:=4) ?_;intro G hG;simp[go_sem,bY hxl hyl,c7 hxl hyl];refine ag jH aw ?_;have k1:=Kp hxl hyl true;have k2:=Kp (x:=zI) (y:=zI) rfl rfl true;have l1:=EK x y true;have l2:=EK zI zI true;generalize lP x y true=u at *;generalize lP zI zI true=v at *;simp[go_sem,l1,l2,ZQ,dM]
  first|refine⟨k1,k2,hG _ _ ?_⟩|refine⟨k1,hG _ _ ?_⟩
  simp[go_sem,ah];exact aa a9 rfl
theorem pY(x y:List Int)(b:Bool)(hx:Wn 4 x)(hy:Wn 4 y):∃(u v:List Int)(c:Bool),Wn 4 u∧Wn 4 v∧(jm u v c∧(jm x y b→u=x∧v=y∧c=b)∧(¬jm x y b→u=zI∧v=zI∧c=true))∧ay Tryz.prog 161 [.agg (cP x y b)] (fun r=>r=.agg (cP u v c)):=by
 obtain⟨o,vo,f1⟩:=WG x y b hx hy;have hxl:=hx.1;have hyl:=hy.1;have zd:(cP zI zI false).drop 9=[]:=nP rfl rfl _;have zl:(cP zI zI true).length=9:=rfl;have zt:(cP zI zI true).take 9=cP zI zI true:=c7 rfl rfl _;have zl2:(cP zI zI false).length=9:=rfl
 cases o
 ·refine⟨zI,zI,true,jE,jE,⟨uj,fun h=>absurd (vo.2 h) (by decide),fun _=>⟨rfl,rfl,rfl⟩⟩,?_⟩;refine bL Tryz.func161 Tryz.ntmps161 (rs:=[.cell 2 189]) (dx _ _ _) ?_;simp[go_sem,bY hxl hyl,c7 hxl hyl];refine ag f1 (dx _ _ _) ?_;simp[go_sem];refine ag jH aw ?_;simp[go_sem,zl,zt,zd,zl2,ah];exact oU rfl
 ·refine⟨x,y,b,hx,hy,⟨vo.1 rfl,fun _=>⟨rfl,rfl,rfl⟩,fun h=>absurd (vo.1 rfl) h⟩,?_⟩;refine bL Tryz.func161 Tryz.ntmps161 (rs:=[.cell 2 189]) (dx _ _ _) ?_;simp[go_sem,bY hxl hyl,c7 hxl hyl];refine ag f1 (dx _ _ _) ?_;simp[go_sem,bY hxl hyl,c7 hxl hyl,zd,zl2,ah];exact oU rfl
def cV(x y z:List Int):List AV:=cI x++(cI y++cI z)
theorem dR{x y z:List Int}(hx:x.length=4)(hy:y.length=4)(hz:z.length=4):(cV x y z).length=12:=by simp[cV,eH,hx,hy,hz]
theorem df{x y z:List Int}(hx:x.length=4)(hy:y.length=4)(hz:z.length=4):(cV x y z).take 12=cV x y z:=cA (by rw[dR hx hy hz];omega)
theorem kB{x y z:List Int}(hx:x.length=4)(hy:y.length=4)(hz:z.length=4):(cV x y z).drop 12=[]:=dg (by rw[dR hx hy hz];omega)
theorem Oq{x y z:List Int}(hx:x.length=4):(cV x y z).take 4=cI x:=by
 unfold cV;rw[List.take_append_of_le_length (by rw[eH];omega),ae hx]
theorem Ot{x y z:List Int}(hx:x.length=4)(hy:y.length=4):((cV x y z).drop 4).take 4=cI y:=by
 unfold cV;rw[List.drop_append_of_le_length (by rw[eH];omega),aZ hx,List.nil_append,List.take_append_of_le_length (by rw[eH];omega),ae hy]
theorem Kq{x y z:List Int}(hx:x.length=4)(hy:y.length=4)(hz:z.length=4):((cV x y z).drop 8).take 4=cI z:=by
 have e:cV x y z=(cI x++cI y)++cI z:=by simp[cV]
 rw[e,List.drop_append_of_le_length (by simp[eH,hx,hy]),dg (by simp[eH,hx,hy]),List.nil_append,ae hz]
theorem sJ(x y z:List Int):(AV.agg (cV x y z)).deep:=by
 intro v hv;unfold cV at hv;rcases cL.1 hv with hv|hv
 ·exact iY _ v hv
 ·rcases cL.1 hv with hv|hv
  ·exact iY _ v hv
  ·exact iY _ v hv
theorem fC(x y z:List Int):∀v,v∈[AV.agg (cV x y z)]→v.deep:=by
 intro v hv;simp at hv;subst hv;exact sJ _ _ _
theorem rk(n:Nat)(x y z:List Int):∀v,v∈cV x y z→v.low1 n:=by
 intro v hv;unfold cV at hv;rcases cL.1 hv with hv|hv
 ·exact bU _ _ v hv
 ·rcases cL.1 hv with hv|hv
  ·exact bU _ _ v hv
  ·exact bU _ _ v hv
theorem kK{Q:AV→Prop}{st:St}{x y z:List Int}(hq:Q (.agg (cV x y z))):dy Q (.agg (cV x y z)) st:=aa (sJ _ _ _) hq
theorem ZR:eW Tryz.prog 243=some (cV zI zI zI):=by kernel_rfl
attribute [go_sem] ZR
def kh:List Int:=[1,0,0,0]
theorem C2:Wn 4 kh:=jF ⟨aq,aq⟩
theorem nQ(x y z:List Int)(hx:Wn 4 x)(hy:Wn 4 y)(hz:Wn 4 z):ay Tryz.prog 207 [.agg (cV x y z)] (fun r=>r=.d (.bool (decide (z=zI)))):=by
 have hxl:=hx.1;have hyl:=hy.1;have hzl:=hz.1;refine bL Tryz.func207 Tryz.ntmps207 (rs:=[.tmp 2]) (fC _ _ _) ?_;have iz:b8 .u64 [AV.d (.int .u64 0),AV.d (.int .u64 0),AV.d (.int .u64 0),AV.d (.int .u64 0)]=some zI:=io zI;simp[go_sem,dR hxl hyl hzl,df hxl hyl hzl,Kq hxl hyl hzl,io,iz,hzl,ah];exact aa a9 rfl
theorem Kr:V kh=1:=by simp[V,kh]
theorem S9:FV kh=1:=CZ 1 aq
theorem WH:JV kh kh zI=none:=by
 show pV fd (FV kh) (FV kh) (FV zI)=none;rw[ym];exact As fd _ _
theorem WI:rj kh kh zI:=by
 have hz:V zI=0:=by simp[V,zI]
 refine⟨⟨by rw[Kr];decide,by rw[Kr];decide,by rw[hz];decide⟩,by rw[WH];trivial⟩
theorem Ks:(1:F)≠0:=fd.one
theorem YZ(a:F):a=a*(1*1):=by grobner
theorem WJ(a:F):a=a*(1*1*1):=by grobner
theorem Ta(x y:List Int):JV x y kh=some (FV x,FV y):=by
 show pV fd (FV x) (FV y) (FV kh)=_;rw[S9];exact yi fd Ks (YZ _) (WJ _)
theorem Ou{x y:List Int}(h:jm x y false):rj x y kh∧JV x y kh=PV x y false:=by
 have e:JV x y kh=PV x y false:=Ta x y;have ho:=yn h;rcases h with ⟨h,_⟩|⟨_,h1,h2,_⟩
 ·cases h
 ·exact⟨⟨⟨h1,h2,by rw[Kr];decide⟩,by rw[e];exact ho⟩,e⟩
theorem ZS{x y:List Int}(hx:x.length=4)(hy:y.length=4):List.take 8 (cI x++(cI y++List.drop 8 (cI x++[AV.d (.int .u64 0),AV.d (.int .u64 0),AV.d (.int .u64 0),AV.d (.int .u64 0),AV.d (.int .u64 0),AV.d (.int .u64 0),AV.d (.int .u64 0),AV.d (.int .u64 0)])))++(cI [1,0,0,0]++List.drop 12 (cI x++(cI y++List.drop 8 (cI x++[AV.d (.int .u64 0),AV.d (.int .u64 0),AV.d (.int .u64 0),AV.d (.int .u64 0),AV.d (.int .u64 0),AV.d (.int .u64 0),AV.d (.int .u64 0),AV.d (.int .u64 0)]))))=cV x y kh:=by
 match x,y,hx,hy with
 |[a,b,c,d],[e,f,g,h],_,_=>rfl
theorem mX(x y:List Int)(b:Bool)(hx:Wn 4 x)(hy:Wn 4 y):∃(u v w:List Int),Wn 4 u∧Wn 4 v∧Wn 4 w∧(jm x y b→rj u v w∧JV u v w=PV x y b)∧ay Tryz.prog 180 [.agg (cP x y b)] (fun r=>r=.agg (cV u v w)):=by
 have hxl:=hx.1;have hyl:=hy.1
 cases b
 ·refine⟨x,y,kh,hx,hy,C2,Ou,?_⟩;refine bL Tryz.func180 Tryz.ntmps180 (rs:=[.cell 2 243]) (dx _ _ _) ?_;have e1:∀c:Bool,(cP x y c).take 4=cI x:=S7 hxl;have e2:∀c:Bool,((cP x y c).drop 4).take 4=cI y:=WF hxl hyl;simp[go_sem,bY hxl hyl,c7 hxl hyl,Aw hxl hyl,C0 hxl hyl];refine b7 [0,1,2,3] [(4,[5]),(6,[])] 1 (k:=7) ?_;intro G hG;simp[go_sem,bY hxl hyl,e1,e2];refine ag (eQ 1) (Au _) ?_;simp[go_sem,hxl,hyl];rw[ZS hxl hyl];refine hG _ _ ?_;have ol:kh.length=4:=rfl;simp[go_sem,dR hxl hyl ol,df hxl hyl ol,ah];exact kK rfl
 ·refine⟨kh,kh,zI,C2,C2,jE,fun _=>⟨WI,WH⟩,?_⟩;refine bL Tryz.func180 Tryz.ntmps180 (rs:=[.cell 2 243]) (dx _ _ _) ?_;simp[go_sem,bY hxl hyl,c7 hxl hyl,Aw hxl hyl,C0 hxl hyl];refine ag (eQ 1) (Au _) ?_;simp[go_sem];refine ag (eQ 1) (Au _) ?_;simp[go_sem,ah];exact kK (x:=kh) (y:=kh) (z:=zI) rfl
theorem lN(c:Int)(a:List Int):∀v,v∈[AV.d (.int .u64 c),AV.agg (cI a)]→v.deep:=by
 intro v hv;simp at hv;rcases hv with rfl|rfl;trivial;exact eP _
theorem lc(n:Int)(a:List Int)(hn:dr n)(ha:Wn 4 a):∃r,Wn 4 r∧(V r<pZ∧FV r=FV [n,0,0,0]*FV a)∧ay Tryz.prog 211 [.d (.int .u64 n),.agg (cI a)] (fun x=>x=.agg (cI r)):=by
 obtain⟨r,hr,vr,f1⟩:=gh [n,0,0,0] a (jF hn) ha;unfold W2 at f1;have hal:=ha.1;have hrl:=hr.1;have hz:List.drop 4 (cI zI)=[]:=aZ rfl;refine⟨r,hr,vr,?_⟩;refine bL Tryz.func211 Tryz.ntmps211 (rs:=[.cell 4 96]) (lN _ _) ?_;simp[go_sem,hal,ae hal];refine ep [0,2] [1,3,4] [0,2] (bt 1 (a_ [3,4])) ⟨[(4,.ptr 32 0 0 1)],[(32,⟨96,4,[cI r]⟩)],9000⟩ (k:=5) ?h3 ?hq
 case h3 =>
  intro G hG
  have hW:∀(fr:Fr)(hp:Hp),(fv 4 fr=.ptr 32 0 0 1∧lk 32 hp=some ⟨96,4,[cI r]⟩)→G fr hp:=by
   rintro fr hp⟨q0,q1⟩;exact hG _ _ rY
  simp[go_sem,hal,ae hal,hrl,ae hrl,hz,dM]
  repeat' first|exact hW _ _ ⟨rfl,rfl⟩|(refine hW _ _ ?_;simp[fv,lk];done)|refine ag (eQ n) (Au _) ?_|refine ag f1 (aK _ _) ?_|apply And.intro|simp[go_sem,hal,ae hal,hrl,ae hrl,hz,dM]
 case hq =>
  simp[go_sem,hrl,ae hrl,ah];exact dH rfl
theorem Zw{x y:List Int}(hx:x.length=4)(hy:y.length=4):List.take 8 (cI x++(cI y++List.drop 8 (cI x++[AV.d (.int .u64 0),AV.d (.int .u64 0),AV.d (.int .u64 0),AV.d (.int .u64 0),AV.d (.int .u64 0),AV.d (.int .u64 0),AV.d (.int .u64 0),AV.d (.int .u64 0)])))=cI x++cI y:=by
 match x,y,hx,hy with
 |[a,b,c,d],[e,f,g,h],_,_=>rfl
theorem WL{x y:List Int}(hx:x.length=4)(hy:y.length=4):List.drop 12 (cI x++(cI y++List.drop 8 (cI x++[AV.d (.int .u64 0),AV.d (.int .u64 0),AV.d (.int .u64 0),AV.d (.int .u64 0),AV.d (.int .u64 0),AV.d (.int .u64 0),AV.d (.int .u64 0),AV.d (.int .u64 0)])))=[]:=by
 match x,y,hx,hy with
 |[a,b,c,d],[e,f,g,h],_,_=>rfl
theorem um(x y z:List Int)(hx:Wn 4 x)(hy:Wn 4 y)(hz:Wn 4 z):∃(u v w:List Int),Wn 4 u∧Wn 4 v∧Wn 4 w∧(rj x y z→rj u v w∧JV u v w=sum fd (JV x y z) (JV x y z))∧ay Tryz.prog 183 [.agg (cV x y z)] (fun r=>r=.agg (cV u v w)):=by
 obtain⟨y2,h1,g1,f1⟩:=mW y hy;obtain⟨m1,h2,g2,f2⟩:=gh x y2 hx h1;obtain⟨s,h3,g3,f3⟩:=lc 4 m1 ⟨aq,aq⟩ h2;obtain⟨x2,h4,g4,f4⟩:=mW x hx;obtain⟨m,h5,g5,f5⟩:=lc 3 x2 ⟨aq,aq⟩ h4;obtain⟨m2,h6,g6,f6⟩:=mW m h5;obtain⟨s2,h7,g7,f7⟩:=lc 2 s ⟨aq,aq⟩ h3;obtain⟨X,h8,g8,f8⟩:=pX m2 s2 h6 h7;obtain⟨d,h9,g9,f9⟩:=pX s X h3 h8;obtain⟨e,h10,g10,f10⟩:=gh m d h5 h9;obtain⟨y4,h11,g11,f11⟩:=mW y2 h1;obtain⟨y8,h12,g12,f12⟩:=lc 8 y4 ⟨aq,aq⟩ h11;obtain⟨Y,h13,g13,f13⟩:=pX e y8 h10 h12;obtain⟨yz,h14,g14,f14⟩:=gh y z hy hz;obtain⟨Z,h15,g15,f15⟩:=lc 2 yz ⟨aq,aq⟩ h14;obtain⟨wu,wv,ww,h16,h17,h18,g16,f16⟩:=mX zI zI true jE jE;unfold W1 at f1 f4 f6 f11;unfold W2 at f2 f8 f9 f10 f13 f14;have l1:=h1.1;have l2:=h2.1;have l3:=h3.1;have l4:=h4.1;have l5:=h5.1;have l6:=h6.1;have l7:=h7.1;have l8:=h8.1;have l9:=h9.1;have l10:=h10.1;have l11:=h11.1;have l12:=h12.1;have l13:=h13.1;have l14:=h14.1;have l15:=h15.1;have l16:=h16.1;have l17:=h17.1;have l18:=h18.1;have hxl:=hx.1;have hyl:=hy.1;have hzl:=hz.1;have z4:List.drop 4 (cI zI)=[]:=aZ rfl;have vl:=dR hxl hyl hzl;have vt:=df hxl hyl hzl;have v1:(cV x y z).take 4=cI x:=Oq hxl;have v2:=Ot (z:=z) hxl hyl;have v3:=Kq hxl hyl hzl;have iz:b8 .u64 [AV.d (.int .u64 0),AV.d (.int .u64 0),AV.d (.int .u64 0),AV.d (.int .u64 0)]=some zI:=io zI;have f0:=nQ x y z hx hy hz;have wd:(cV zI zI zI).drop 12=[]:=kB rfl rfl rfl;have wl:(cV zI zI zI).length=12:=rfl;have ul:=dR l16 l17 l18;have ut:=df l16 l17 l18;by_cases q0:z=zI∨y=zI
 ·have vv:rj x y z→rj wu wv ww∧JV wu wv ww=sum fd (JV x y z) (JV x y z):=by
   intro hj;obtain⟨k1,k2⟩:=g16 uj;rcases q0 with q|q
   ·have e:JV x y z=none:=by rw[q];show pV fd _ _ (FV zI)=none;rw[ym];exact As fd _ _
    exact⟨k1,by rw[k2,e,J9];exact(gf fd (Q:=none) True.intro).symm⟩
   ·by_cases q1:z=zI
    ·have e:JV x y z=none:=by rw[q1];show pV fd _ _ (FV zI)=none;rw[ym];exact As fd _ _
     exact⟨k1,by rw[k2,e,J9];exact(gf fd (Q:=none) True.intro).symm⟩
    ·have hz0:FV z≠0:=fun h=>q1 ((lL hz hj.1.2.2).1 h);exact absurd (by rw[q,ym]) (uf fd hz0 hj.2).2.1
  refine⟨wu,wv,ww,h16,h17,h18,vv,?_⟩;refine bL Tryz.func183 Tryz.ntmps183 (rs:=[.cell 2 243]) (fC _ _ _) ?_;simp[go_sem,vl,vt];refine ag f0 (fC _ _ _) ?_;by_cases q1:z=zI
  ·simp[go_sem,q1];refine ag jH aw ?_;simp[go_sem];refine ag f16 (dx _ _ _) ?_;simp[go_sem,ul,ut,wd,wl,ah];exact kK rfl
  ·have q2:y=zI:=q0.resolve_left q1;simp[go_sem,q1,v2,vl,io,iz,hyl];refine⟨fun _=>?_,fun h=>absurd q2 h⟩;refine ag jH aw ?_;simp[go_sem];refine ag f16 (dx _ _ _) ?_;simp[go_sem,ul,ut,wd,wl,ah];exact kK rfl
 ·have q1:z≠zI:=fun h=>q0 (.inl h);have q2:y≠zI:=fun h=>q0 (.inr h)
  have vv:rj x y z→rj X Y Z∧JV X Y Z=sum fd (JV x y z) (JV x y z):=by
   intro hj;have hz0:FV z≠0:=fun h=>q1 ((lL hz hj.1.2.2).1 h);obtain⟨_,_,e⟩:=uf fd hz0 hj.2;have n2:FV [2,0,0,0]=2:=CZ 2 aq;have n3:FV [3,0,0,0]=3:=CZ 3 aq;have n4:FV [4,0,0,0]=4:=CZ 4 aq;have n8:FV [8,0,0,0]=8:=CZ 8 aq
   have eX:FV X=3*(FV x*FV x)*(3*(FV x*FV x))-2*(4*(FV x*(FV y*FV y))):=by
    rw[g8.2,g6.2,g5.2,g4.2,g7.2,g3.2,g2.2,g1.2,n2,n3,n4]
   have eY:FV Y=3*(FV x*FV x)*(4*(FV x*(FV y*FV y))-(3*(FV x*FV x)*(3*(FV x*FV x))-2*(4*(FV x*(FV y*FV y)))))-8*(FV y*FV y*(FV y*FV y)):=by
    rw[g13.2,g10.2,g9.2,eX,g5.2,g4.2,g3.2,g2.2,g12.2,g11.2,g1.2,n3,n4,n8]
   have eZ:FV Z=2*(FV y*FV z):=by rw[g15.2,g14.2,n2]
   have e2:JV X Y Z=sum fd (JV x y z) (JV x y z):=by
    show pV fd (FV X) (FV Y) (FV Z)=_;rw[eX,eY,eZ];exact e
   exact⟨⟨⟨g8.1,g13.1,g15.1⟩,by rw[e2];exact oS fd hj.2 hj.2⟩,e2⟩
  refine⟨X,Y,Z,h8,h13,h15,vv,?_⟩;refine bL Tryz.func183 Tryz.ntmps183 (rs:=[.cell 2 243]) (fC _ _ _) ?_;simp[go_sem,vl,vt];refine ag f0 (fC _ _ _) ?_;simp[go_sem,q1,q2,v2,vl,io,iz,hyl];refine ag f1 (aS _) ?_;simp[go_sem,l1,ae l1,z4,v1,vl];refine ag f2 (aK _ _) ?_;simp[go_sem];refine ag f3 (lN _ _) ?_;simp[go_sem,l3,ae l3,z4,v1,vl];refine ag f4 (aS _) ?_;simp[go_sem];refine ag f5 (lN _ _) ?_;simp[go_sem,l5,ae l5,z4];refine ep [0,2] [1,3,4,5,6] [0,2] (.alt (bt 1 (.alt (bx 3 (.alt (a_ [4,5,6]) (a_ [5,4,6]))) (bt 5 (a_ [3,4,6])))) (bt 5 (bt 1 (a_ [3,4,6])))) ⟨[(1,.ptr 0 0 0 1),(2,.ptr 32 0 0 1),(3,.ptr 416 0 0 1),(4,.ptr 640 0 0 1),(5,.ptr 832 0 0 1),(6,.ptr 1056 0 0 1)],[(1056,⟨96,4,[cI X]⟩),(832,⟨96,4,[cI m]⟩),(640,⟨96,4,[cI s]⟩),(416,⟨96,4,[cI y2]⟩),(32,⟨243,12,[cV zI zI zI]⟩),(0,⟨243,12,[cV x y z]⟩)],9000⟩ (k:=7) ?h3 ?hq
  case h3 =>
   intro G hG
   have hW:∀(fr:Fr)(hp:Hp),(fv 1 fr=.ptr 0 0 0 1∧fv 2 fr=.ptr 32 0 0 1∧fv 3 fr=.ptr 416 0 0 1∧fv 4 fr=.ptr 640 0 0 1∧fv 5 fr=.ptr 832 0 0 1∧fv 6 fr=.ptr 1056 0 0 1∧lk 1056 hp=some ⟨96,4,[cI X]⟩∧lk 832 hp=some ⟨96,4,[cI m]⟩∧lk 640 hp=some ⟨96,4,[cI s]⟩∧lk 416 hp=some ⟨96,4,[cI y2]⟩∧lk 32 hp=some ⟨243,12,[cV zI zI zI]⟩∧lk 0 hp=some ⟨243,12,[cV x y z]⟩)→G fr hp:=by
    rintro fr hp⟨q0,q1,q2,q3,q4,q5,q6,q7,q8,q9,q10,q11⟩;exact hG _ _ rY
   simp[go_sem,l1,l3,l5,l8,l13,ae l1,ae l3,ae l5,ae l8,ae l13,z4,dM]
   repeat' first|exact hW _ _ ⟨rfl,rfl,rfl,rfl,rfl,rfl,rfl,rfl,rfl,rfl,rfl,rfl⟩|(refine hW _ _ ?_;simp[fv,lk];done)|refine ag f6 (aS _) ?_|refine ag f7 (lN _ _) ?_|refine ag f8 (aK _ _) ?_|apply And.intro|simp[go_sem,l1,l3,l5,l8,l13,ae l1,ae l3,ae l5,ae l8,ae l13,z4,dM]
  case hq =>
   simp[go_sem];refine ep [0,1,2,5] [3,4,6,7,8,9,10] [0,1,2,5] (.alt (bt 3 (.alt (bt 4 (.alt (bx 6 (.alt (bx 7 (.alt (a_ [8,9,10]) (a_ [9,8,10]))) (a_ [9,7,8,10]))) (bt 9 (a_ [6,7,8,10])))) (bt 9 (bt 4 (a_ [6,7,8,10]))))) (bt 9 (bt 3 (bt 4 (a_ [6,7,8,10]))))) ⟨[(1,.ptr 0 0 0 1),(2,.ptr 32 0 0 1),(3,.ptr 416 0 0 1),(4,.ptr 640 0 0 1),(5,.ptr 832 0 0 1),(6,.ptr 1056 0 0 1),(7,.ptr 9288 0 0 1)],[(9288,⟨96,4,[cI Y]⟩),(1056,⟨96,4,[cI X]⟩),(832,⟨96,4,[cI m]⟩),(640,⟨96,4,[cI s]⟩),(416,⟨96,4,[cI y2]⟩),(32,⟨243,12,[cV zI zI zI]⟩),(0,⟨243,12,[cV x y z]⟩)],20000⟩ (k:=11) ?h3 ?hq
   case h3 =>
    intro G hG
    have hW:∀(fr:Fr)(hp:Hp),(fv 1 fr=.ptr 0 0 0 1∧fv 2 fr=.ptr 32 0 0 1∧fv 3 fr=.ptr 416 0 0 1∧fv 4 fr=.ptr 640 0 0 1∧fv 5 fr=.ptr 832 0 0 1∧fv 6 fr=.ptr 1056 0 0 1∧fv 7 fr=.ptr 9288 0 0 1∧lk 9288 hp=some ⟨96,4,[cI Y]⟩∧lk 1056 hp=some ⟨96,4,[cI X]⟩∧lk 832 hp=some ⟨96,4,[cI m]⟩∧lk 640 hp=some ⟨96,4,[cI s]⟩∧lk 416 hp=some ⟨96,4,[cI y2]⟩∧lk 32 hp=some ⟨243,12,[cV zI zI zI]⟩∧lk 0 hp=some ⟨243,12,[cV x y z]⟩)→G fr hp:=by
     rintro fr hp⟨q0,q1,q2,q3,q4,q5,q6,q7,q8,q9,q10,q11,q12,q13⟩;exact hG _ _ rY
    simp[go_sem,l1,l3,l5,l8,l13,ae l1,ae l3,ae l5,ae l8,ae l13,z4,dM]
    repeat' first|exact hW _ _ ⟨rfl,rfl,rfl,rfl,rfl,rfl,rfl,rfl,rfl,rfl,rfl,rfl,rfl,rfl⟩|(refine hW _ _ ?_;simp[fv,lk];done)|refine ag f9 (aK _ _) ?_|refine ag f10 (aK _ _) ?_|refine ag f11 (aS _) ?_|refine ag f12 (lN _ _) ?_|refine ag f13 (aK _ _) ?_|apply And.intro|simp[go_sem,l1,l3,l5,l8,l13,ae l1,ae l3,ae l5,ae l8,ae l13,z4,dM]
   case hq =>
    simp only[go_sem,Nat.reduceEqDiff,Nat.reduceAdd,Nat.reduceLT,↓reduceIte];refine b7 [0,1,2,3,4,5] [(6,[]),(7,[8]),(9,[])] 2 (k:=10) ?_;intro G hG;simp[go_sem,l8,l13,ae l8,ae l13,v2,v3,vl];refine ag f14 (aK _ _) ?_;simp[go_sem];refine ag f15 (lN _ _) ?_;have ev:cI X++(cI Y++cI Z)=cV X Y Z:=rfl;have xl:=dR l8 l13 l15;have xt:=df l8 l13 l15;simp[go_sem,l8,l13,l15,wl,wd,Zw l8 l13,WL l8 l13,ev,xl,dM];refine hG _ _ ?_;simp[go_sem,xl,xt,ah];exact kK rfl
theorem Zx{x y:List Int}(hx:x.length=4)(hy:y.length=4):cI x++(cI y++List.drop 8 (cI x++[AV.d (.int .u64 0),AV.d (.int .u64 0),AV.d (.int .u64 0),AV.d (.int .u64 0),AV.d (.bool false)]))=cP x y false:=by
 match x,y,hx,hy with
 |[a,b,c,d],[e,f,g,h],_,_=>rfl
theorem Kt(x y z:List Int)(hx:Wn 4 x)(hy:Wn 4 y)(hz:Wn 4 z):∃(u v:List Int)(c:Bool),Wn 4 u∧Wn 4 v∧(rj x y z→jm u v c∧PV u v c=JV x y z)∧ay Tryz.prog 185 [.agg (cV x y z)] (fun r=>r=.agg (cP u v c)):=by
 obtain⟨i,h1,g1,f1⟩:=WE z hz;obtain⟨i2,h2,g2,f2⟩:=mW i h1;obtain⟨X,h3,g3,f3⟩:=gh x i2 hx h2;obtain⟨i3,h4,g4,f4⟩:=gh i2 i h2 h1;obtain⟨Y,h5,g5,f5⟩:=gh y i3 hy h4;unfold W1 at f1 f2;unfold W2 at f3 f4 f5;have l1:=h1.1;have l2:=h2.1;have l3:=h3.1;have l5:=h5.1;have hxl:=hx.1;have hyl:=hy.1;have hzl:=hz.1;have z4:List.drop 4 (cI zI)=[]:=aZ rfl;have vl:=dR hxl hyl hzl;have vt:=df hxl hyl hzl;have v1:(cV x y z).take 4=cI x:=Oq hxl;have v2:=Ot (z:=z) hxl hyl;have v3:=Kq hxl hyl hzl;have f0:=nQ x y z hx hy hz;have zd:(cP zI zI false).drop 9=[]:=nP rfl rfl _;have zl:(cP zI zI true).length=9:=rfl;have zt:(cP zI zI true).take 9=cP zI zI true:=c7 rfl rfl _;have zl2:(cP zI zI false).length=9:=rfl;by_cases q1:z=zI
 ·have vv:rj x y z→jm zI zI true∧PV zI zI true=JV x y z:=by
   intro _;refine⟨uj,?_⟩;rw[q1,J9];show none=pV fd _ _ (FV zI);rw[ym];exact(As fd _ _).symm
  refine⟨zI,zI,true,jE,jE,vv,?_⟩;refine bL Tryz.func185 Tryz.ntmps185 (rs:=[.cell 2 189]) (fC _ _ _) ?_;simp[go_sem,vl,vt];refine ag f0 (fC _ _ _) ?_;simp[go_sem,q1];refine ag jH aw ?_;simp[go_sem,zl,zt,zd,zl2,ah];exact oU rfl
 ·have vv:rj x y z→jm X Y false∧PV X Y false=JV x y z:=by
   intro hj;have hz0:FV z≠0:=fun h=>q1 ((lL hz hj.1.2.2).1 h)
   have e:PV X Y false=JV x y z:=by
    show some (FV X,FV Y)=pV fd (FV x) (FV y) (FV z);rw[pV,if_neg hz0,g3.2,g5.2,g4.2,g2.2,g1.2]
   have ho:j9 (PV X Y false):=by rw[e];exact hj.2
   exact⟨.inr ⟨rfl,g3.1,g5.1,ho⟩,e⟩
  refine⟨X,Y,false,h3,h5,vv,?_⟩;refine bL Tryz.func185 Tryz.ntmps185 (rs:=[.cell 2 189]) (fC _ _ _) ?_;simp[go_sem,vl,vt];refine ag f0 (fC _ _ _) ?_;simp[go_sem,q1,v3,vl];refine ag f1 (aS _) ?_;simp[go_sem,l1,ae l1,z4];refine ag f2 (aS _) ?_;simp[go_sem,l2,ae l2,z4];refine b7 [0,1,2,4,5,6,7] [(3,[]),(8,[]),(9,[10]),(11,[])] 3 (k:=12) ?_;intro G hG;simp[go_sem,l1,l2,ae l1,ae l2,v1,v2,vl];refine ag f3 (aK _ _) ?_;simp[go_sem,l1,l2,ae l1,ae l2,v1,v2,vl];refine ag f4 (aK _ _) ?_;simp[go_sem];refine ag f5 (aK _ _) ?_;have pl1:=bY l3 l5 false;have pt1:=c7 l3 l5 false;have mp:=Zx l3 l5;simp[go_sem,l3,l5,zl2,zd,mp,pl1,dM];refine hG _ _ ?_;simp[go_sem,pl1,pt1,ah];exact oU rfl
theorem Tc(n:List Int)(k:Nat)(hn:Wn 4 n)(hk:k<256):∃b:Bool,(b=true↔(V n).toNat/2 ^ k%2=1)∧ay Tryz.prog 184 [.agg (cI n),.d (.int .i64 (k:Int))] (fun r=>r=.d (.bool b)):=by
 have hnl:=hn.1;have hdq:dq k=k/64:=rfl;have hrq:rq k=k%64:=rfl;have hnk:=jg (l:=n) (k:=dq k) aq;have w4:IntKind.i64.wrap ((k:Int)/64)=(dq k:Int):=by rw[IntWalk.i64_in _ aq];omega
 have w4b:IntKind.i64.wrap ((k:Int).tdiv 64)=(dq k:Int):=w4;have e2:(k:Int)%64=(rq k:Int):=aq;have e2b:(k:Int).tmod 64=(rq k:Int):=e2;have i1:(dq k:Int)<4:=aq;have hm64:rq k<64:=aq;have hmn:min (rq k) 64=rq k:=aq;have bv:=PU hn hk
 have hv:(!decide (Go.bits .and .u64 (Int.fdiv (gI n (dq k)) (2 ^ rq k)) 1=0))=true↔(V n).toNat/2 ^ k%2=1:=by
  rw[Bool.not_eq_true',decide_eq_false_iff_not];refine⟨fun h=>bv.2 h,fun h h0=>?_⟩;have:=bv.1 h0;omega
 refine⟨!decide (Go.bits .and .u64 (Int.fdiv (gI n (dq k)) (2 ^ rq k)) 1=0),hv,?_⟩;refine bL Tryz.func184 Tryz.ntmps184 (rs:=[.tmp 4]) (Ez _ _) ?_;simp[go_sem,hnl,ae hnl,hnk,e2,e2b,w4,w4b,i1,hm64,hmn,IntKind.bits,ah];exact aa a9 rfl
theorem EL(x y:List Int)(b:Bool)(hx:Wn 4 x)(hy:Wn 4 y):∃o:Bool,(jm x y b→(o=true↔b=false∧V y%2=0))∧ay Tryz.prog 127 [.agg (cP x y b)] (fun r=>r=.d (.bool o)):=by
 obtain⟨u,v,c,hu,hv,tv,f1⟩:=pY x y b hx hy;have hxl:=hx.1;have hyl:=hy.1;have hul:=hu.1;have hvl:=hv.1;have xd:(cP x y b).drop 9=[]:=nP hxl hyl _
 have g4:(cP u v false)[4]?=some (.d (.int .u64 (gI v 0))):=by
  unfold cP;rw[dz (by rw[eH];omega),eH,hul,List.getElem?_append_left (by rw[eH];omega),CH,jg aq];rfl
 have g4b:∀h,(cP u v false)[4]'h=.d (.int .u64 (gI v 0)):=fun h=>(ci.1 g4).2
 cases c
 ·have hpar:Go.bits .and .u64 (gI v 0) 1=0↔V v%2=0:=by
   have h0:=c6 (k:=0) hv;rw[ye _ h0.1 h0.2];obtain⟨r0,r1,r2,r3,e,_⟩:=jh hv;rw[e,V4];show r0%2=0↔_;omega
  have ev:jm x y b→(decide (Go.bits .and .u64 (gI v 0) 1=0)=true↔b=false∧V y%2=0):=by
   intro hp;obtain⟨_,e2,e3⟩:=tv.2.1 hp;rw[decide_eq_true_iff,hpar,e2];exact⟨fun h=>⟨e3.symm,h⟩,fun h=>h.2⟩
  refine⟨decide (Go.bits .and .u64 (gI v 0) 1=0),ev,?_⟩;refine bL Tryz.func127 Tryz.ntmps127 (rs:=[.tmp 2]) (dx _ _ _) ?_;simp[go_sem,bY hxl hyl,c7 hxl hyl];refine ag f1 (dx _ _ _) ?_;simp[go_sem,bY hxl hyl,bY hul hvl,xd,Aw hul hvl,C0 hul hvl,g4,g4b,ah];exact aa a9 rfl
 ·have ev:jm x y b→(false=true↔b=false∧V y%2=0):=by
   intro hp;obtain⟨_,_,e3⟩:=tv.2.1 hp;rw[←e3];exact⟨fun h=>Bool.noConfusion h,fun h=>Bool.noConfusion h.1⟩
  refine⟨false,ev,?_⟩;refine bL Tryz.func127 Tryz.ntmps127 (rs:=[.tmp 2]) (dx _ _ _) ?_;simp[go_sem,bY hxl hyl,c7 hxl hyl];refine ag f1 (dx _ _ _) ?_;simp[go_sem,bY hxl hyl,bY hul hvl,xd,Aw hul hvl,C0 hul hvl,ah];exact aa a9 rfl
def gX:List Int:=[6481385041966929816,188021827762530521,6170039885052185351,8772561819708210092]
theorem WM:Wn 4 gX:=⟨rfl,by intro y hy;simp[gX]at hy;rcases hy with rfl|rfl|rfl|rfl<;>exact⟨aq,aq⟩⟩
def gY:List Int:=[11261198710074299576,18237243440184513561,6747795201694173352,5204712524664259685]
theorem WN:Wn 4 gY:=⟨rfl,by intro y hy;simp[gY]at hy;rcases hy with rfl|rfl|rfl|rfl<;>exact⟨aq,aq⟩⟩
def Ov:List Int:=[13822214165235122497,13451932020343611451,18446744073709551614,18446744073709551615]
theorem Ku:Wn 4 Ov:=⟨rfl,by intro y hy;simp[Ov]at hy;rcases hy with rfl|rfl|rfl|rfl<;>exact⟨aq,aq⟩⟩
theorem qa:ay Tryz.prog 158 [] (fun r=>r=.agg (cI Ov)):=by
 refine bL Tryz.func158 Tryz.ntmps158 (rs:=[.cell 0 96]) a9 ?_;simp[go_sem,cI,zI,ah];exact dH (a:=Ov) rfl
theorem Ox:jm gX gY false:=by
 have vx:V gX=55066263022277343669578718895168534326250603453777594175500187360389116729240:=by simp[V,gX]
 have vy:V gY=32670510020758816978083085130507043184471273380659243275938904335757337482424:=by simp[V,gY]
 refine .inr ⟨rfl,by rw[vx];decide,by rw[vy];decide,ui ?_⟩
 have e7:(((7:F).val:Nat):Int)=7%pZ:=by
  show((7%pP:Nat):Int)=_;rw[Int.natCast_emod,jl];rfl
 rw[r7,Gz,r7,r7,Int.natCast_emod,Int.natCast_mul,Int.natCast_emod,Int.natCast_add,Int.natCast_emod,Int.natCast_mul,Int.natCast_emod,Int.natCast_mul,ek,ek,e7,jl,vx,vy];decide
theorem yo:ay Tryz.prog 126 [] (fun r=>r=.agg (cP gX gY false)):=by
 refine bL Tryz.func126 Tryz.ntmps126 (rs:=[.cell 0 189]) a9 ?_;simp[go_sem,cP,cI,zI,ah];exact oU (x:=gX) (y:=gY) (b:=false) rfl
theorem EM:∀(l:List Nat),(∀x,x∈l→x<256)→∀a,l.foldl (fun a x=>a*256+x) a<(a+1)*256 ^ l.length
 |[],_,a=>by simp
 |x::r,h,a=>by
  have h1:=EM r (fun y hy=>h y (by simp[hy])) (a*256+x);have h2:=h x aw;rw[List.foldl_cons,List.length_cons,Nat.pow_succ];have h3:(a*256+x+1)*256 ^ r.length≤((a+1)*256)*256 ^ r.length:=d_ _ aq;have h4:(a+1)*256*256 ^ r.length=(a+1)*(256 ^ r.length*256):=by rw[Nat.mul_assoc,Nat.mul_comm 256]
  omega
theorem BX{l:List Nat}(h:∀x,x∈l→x<256)(hl:l.length≤8):iV l<18446744073709551616:=by
 have h1:=EM l h 0;have h2:256 ^ l.length≤256 ^ 8:=Nat.pow_le_pow_right aq hl;have h3:(256:Nat) ^ 8=18446744073709551616:=by decide
 unfold iV;omega
theorem sK(a b:List Nat):iV (a++b)=iV a*256 ^ b.length+iV b:=by
 have key:∀(l:List Nat)(c:Nat),l.foldl (fun a x=>a*256+x) c=c*256 ^ l.length+l.foldl (fun a x=>a*256+x) 0:=by
  intro l
  induction l with
  |nil=>intro c;simp
  | cons x r ih =>
   intro c;rw[List.foldl_cons,List.foldl_cons,ih,ih (0*256+x),List.length_cons,Nat.pow_succ]
   have:(c*256+x)*256 ^ r.length=c*(256 ^ r.length*256)+(0*256+x)*256 ^ r.length:=by
    rw[Nat.add_mul,Nat.mul_assoc,Nat.mul_comm 256,Nat.zero_mul,Nat.zero_add]
   omega
 unfold iV;rw[List.foldl_append,key]
theorem Td{b:List Nat}(hb:b.length=32):V ((uT b 32).map fun(x:Nat)=>(x:Int))=(iV b:Int):=by
 have e:b=Go.Sha.part b 32 3++(Go.Sha.part b 32 2++(Go.Sha.part b 32 1++Go.Sha.part b 32 0)):=by
  unfold Go.Sha.part;have h32:b.take 32=b:=cA aq;rw[h32];have h0:(b.drop (8*(3-0))).take 8=b.drop 24:=cA (by rw[e_];omega)
  have s2:(b.drop (8*(3-1))).take 8++b.drop 24=b.drop 16:=by
   have:b.drop 24=(b.drop 16).drop 8:=by rw[List.drop_drop]
   rw[this];exact List.take_append_drop 8 _
  have s3:(b.drop (8*(3-2))).take 8++b.drop 16=b.drop 8:=by
   have:b.drop 16=(b.drop 8).drop 8:=by rw[List.drop_drop]
   rw[this];exact List.take_append_drop 8 _
  rw[h0,s2,s3];exact(List.take_append_drop 8 b).symm
 have l0:∀j,j<4→(Go.Sha.part b 32 j).length=8:=by
  intro j hj;unfold Go.Sha.part;rw[List.length_take,e_,List.length_take];omega
 have m:uT b 32=[iV (Go.Sha.part b 32 0),iV (Go.Sha.part b 32 1),iV (Go.Sha.part b 32 2),iV (Go.Sha.part b 32 3)]:=rfl
 have k:iV b=((iV (Go.Sha.part b 32 3)*256 ^ 8+iV (Go.Sha.part b 32 2))*256 ^ 8+iV (Go.Sha.part b 32 1))*256 ^ 8+iV (Go.Sha.part b 32 0):=by
  conv=>lhs;rw[e]
  rw[←cD,←cD,sK,l0 0 aq,sK,l0 1 aq,sK,l0 2 aq]
 rw[m,k];simp only[List.map_cons,List.map_nil,V4];generalize iV (Go.Sha.part b 32 0)=p0;generalize iV (Go.Sha.part b 32 1)=p1;generalize iV (Go.Sha.part b 32 2)=p2;generalize iV (Go.Sha.part b 32 3)=p3;omega
theorem uo(b:List Nat)(hb:b.length=32)(hby:bytes b):∃a:List Int,Wn 4 a∧V a=(iV b:Int)∧ay Tryz.prog 164 [.agg (cb b)] (fun r=>r=.agg (cI a)):=by
 refine⟨(uT b 32).map fun(x:Nat)=>(x:Int),⟨by simp[uT],fun x hx=>?_⟩,Td hb,?_⟩
 ·rw[List.mem_map]at hx;obtain⟨y,hy,rfl⟩:=hx;unfold uT at hy;rw[List.mem_map]at hy;obtain⟨j,_,rfl⟩:=hy;have:=BX (l:=Go.Sha.part b 32 j) (fun x hx=>hby x (List.mem_of_mem_take (List.mem_of_mem_drop (List.mem_of_mem_take hx)))) (by unfold Go.Sha.part;rw[List.length_take];omega);exact⟨Int.natCast_nonneg _,aq⟩
 ·have e:cI ((uT b 32).map fun(x:Nat)=>(x:Int))=cW (uT b 32):=by unfold cI cW;rw[List.map_map];rfl
  rw[e];exact NA b hb hby
theorem cC(b:List Nat):∀v,v∈[AV.agg (cb b)]→v.deep:=by
 intro v hv;simp at hv;subst hv;exact dF _
theorem Ax(b:List Nat)(hb:b.length=32)(hby:bytes b):∃(r:List Int)(ok:Bool),Wn 4 r∧((iV b<115792089237316195423570985008687907852837564279074904382605163141518161494337→ok=true∧V r=(iV b:Int))∧(¬iV b<115792089237316195423570985008687907852837564279074904382605163141518161494337→ok=false∧r=zI))∧ay Tryz.prog 178 [.agg (cb b)] (fun x=>x=.tup [.agg (cI r),.d (.bool ok)]):=by
 obtain⟨a,ha,va,f1⟩:=uo b hb hby;obtain⟨c,vc,f2⟩:=EJ a Ov ha Ku;have vo:V Ov=115792089237316195423570985008687907852837564279074904382605163141518161494337:=by simp[V,Ov]
 rw[vo,va]at vc;have hal:=ha.1;have hz:List.drop 4 (cI zI)=[]:=aZ rfl;have zd:List.drop 32 (cb b)=[]:=gW hb;by_cases h0:0≤c
 ·refine⟨zI,false,jE,⟨fun h=>absurd (vc.2 aq) aq,fun _=>⟨rfl,rfl⟩⟩,?_⟩;refine bL Tryz.func178 Tryz.ntmps178 (rs:=[.cell 2 96,.tmp 3]) (cC b) ?_;simp[go_sem,am,hb,av hb,zd];refine ag f1 (cC _) ?_;simp[go_sem,hal,ae hal,hz];refine b7 [0] [(1,[]),(2,[3])] 2 (k:=4) ?_;intro G hG;simp[go_sem,hal,ae hal];refine ag qa aw ?_;simp[go_sem];refine ag f2 (aK _ _) ?_;simp[go_sem,dM];refine hG _ _ ?_;simp[go_sem,h0,hz,ah];exact nN (a:=zI) rfl
 ·refine⟨a,true,ha,⟨fun _=>⟨rfl,va⟩,fun h=>absurd (vc.1 aq) aq⟩,?_⟩;refine bL Tryz.func178 Tryz.ntmps178 (rs:=[.cell 2 96,.tmp 3]) (cC b) ?_;simp[go_sem,am,hb,av hb,zd];refine ag f1 (cC _) ?_;simp[go_sem,hal,ae hal,hz];refine b7 [0] [(1,[]),(2,[3])] 2 (k:=4) ?_;intro G hG;simp[go_sem,hal,ae hal];refine ag qa aw ?_;simp[go_sem];refine ag f2 (aK _ _) ?_;simp[go_sem,dM];refine hG _ _ ?_;simp[go_sem,h0,hal,ae hal,hz,ah];exact nN rfl
theorem yp{Q:AV→Prop}{st:St}{x y:List Int}{c b:Bool}(hq:Q (.tup [.agg (cP x y c),.d (.bool b)])):dy Q (.tup [.agg (cP x y c),.d (.bool b)]) st :=
 aa (by
  intro c hc;simp at hc;rcases hc with rfl|rfl
  ·exact .inr ⟨_,rfl,jG _ _ _⟩
  ·exact .inl trivial) hq
def mY(n:Nat):Int:=((n:Int)*n*n+7)%115792089237316195423570985008687907853269984665640564039457584007908834671663
def oa(n:Nat):Int:=mY n ^ 28948022309329048855892746252171976963317496166410141009864396001977208667916%115792089237316195423570985008687907853269984665640564039457584007908834671663
def rm(n:Nat):Prop:=(n:Int)<115792089237316195423570985008687907853269984665640564039457584007908834671663∧oa n*oa n%115792089237316195423570985008687907853269984665640564039457584007908834671663=mY n%115792089237316195423570985008687907853269984665640564039457584007908834671663
def Kv(n:Nat)(x y:List Int)(c ok:Bool):Prop :=
 (¬rm n∧ok=false∧c=true∧x=zI∧y=zI)∨(rm n∧ok=true∧c=false∧V x=n∧V y=if oa n%2=0 then oa n else(0-oa n)%115792089237316195423570985008687907853269984665640564039457584007908834671663)
theorem Oy{r a:List Int}{n:Nat}(hr:Wn 4 r)(va:V a=n)(vr:V r<pZ∧FV r=FV a*FV a*FV a+7):V r=mY n:=by
 have e:=congrArg (fun x:F=>((x.val:Nat):Int)) vr.2;simp only[ek]at e
 have e7:(((7:F).val:Nat):Int)=7%pZ:=by
  show((7%pP:Nat):Int)=_;rw[Int.natCast_emod,jl];rfl
 have h0:=(j8 hr).1;rw[Int.emod_eq_of_lt h0 vr.1]at e;rw[e,Gz,r7,r7,Int.natCast_emod,Int.natCast_add,Int.natCast_emod,Int.natCast_mul,Int.natCast_emod,Int.natCast_mul,ek,e7,jl,va];unfold mY;show _=((n:Int)*n*n+7)%pZ;rw[←Int.mul_emod (n:Int) n,←Int.mul_emod ((n:Int)*n) n,←Int.add_emod]
theorem Az(b:List Nat)(hb:b.length=32)(hby:bytes b):∃(x y:List Int)(c ok:Bool),Wn 4 x∧Wn 4 y∧(Kv (iV b) x y c ok)∧ay Tryz.prog 165 [.agg (cb b)] (fun r=>r=.tup [.agg (cP x y c),.d (.bool ok)]):=by
 obtain⟨a,ha,va,f1⟩:=uo b hb hby;obtain⟨o,vo,f2⟩:=uk a ha;obtain⟨r,hr,vr,f3⟩:=Av a ha;obtain⟨y,ok,hy,vk,vy,vno,f4⟩:=JH r hr;have hrv:V r=mY (iV b):=Oy hr va vr;rw[va]at vo;rw[hrv]at vk vy;unfold W1 at f3;have hal:=ha.1;have hyl:=hy.1;have hz:List.drop 4 (cI zI)=[]:=aZ rfl;have zd:List.drop 32 (cb b)=[]:=gW hb;have pd:(cP zI zI false).drop 9=[]:=nP rfl rfl _;have zl:(cP zI zI true).length=9:=rfl;have zt:(cP zI zI true).take 9=cP zI zI true:=c7 rfl rfl _;have zl2:(cP zI zI false).length=9:=rfl
 cases o
 ·refine⟨zI,zI,true,false,jE,jE,.inl ⟨fun h=>absurd (vo.2 h.1) (by decide),rfl,rfl,rfl,rfl⟩,?_⟩;refine bL Tryz.func165 Tryz.ntmps165 (rs:=[.cell 2 189,.tmp 3]) (cC b) ?_;simp[go_sem,am,hb,av hb,zd];refine ag f1 (cC _) ?_;simp[go_sem,hal,ae hal,hz];refine ag f2 (aS _) ?_;simp[go_sem];refine ag jH aw ?_;simp[go_sem,zl,zt,pd,zl2,ah];exact yp rfl
 ·cases ok
  ·refine⟨zI,zI,true,false,jE,jE,.inl ⟨fun h=>absurd (vk.2 h.2) (by decide),rfl,rfl,rfl,rfl⟩,?_⟩;refine bL Tryz.func165 Tryz.ntmps165 (rs:=[.cell 2 189,.tmp 3]) (cC b) ?_;simp[go_sem,am,hb,av hb,zd];refine ag f1 (cC _) ?_;simp[go_sem,hal,ae hal,hz];refine ag f2 (aS _) ?_;simp[go_sem,hal,ae hal];refine ag f3 (aS _) ?_;simp[go_sem];refine ag f4 (aS _) ?_;simp[go_sem,hyl,ae hyl,hz];refine ag jH aw ?_;simp[go_sem,zl,zt,pd,zl2,ah];exact yp rfl
  ·refine⟨a,y,false,true,ha,hy,.inr ⟨⟨vo.1 rfl,vk.1 rfl⟩,rfl,rfl,va,vy rfl⟩,?_⟩;refine bL Tryz.func165 Tryz.ntmps165 (rs:=[.cell 2 189,.tmp 3]) (cC b) ?_;simp[go_sem,am,hb,av hb,zd];refine ag f1 (cC _) ?_;simp[go_sem,hal,ae hal,hz];refine ag f2 (aS _) ?_;simp[go_sem,hal,ae hal];refine ag f3 (aS _) ?_;simp[go_sem];refine ag f4 (aS _) ?_;have mp:=Zx hal hyl;have pl1:=bY hal hyl false;have pt1:=c7 hal hyl false;simp[go_sem,hal,hyl,ae hal,ae hyl,hz,mp,pl1,pt1,pd,zl2,ah];exact yp rfl
def d8(i:Nat):Nat:=i/8
def r8(i:Nat):Nat:=8*(i%8)
def Tf(a:List Int)(k:Nat):Nat:=(IntKind.u8.wrap (Int.fdiv (gI a (d8 k)) (2 ^ r8 k))).toNat
def Ls(a:List Int)(k:Nat)(l:List Nat):List Nat:=l.set (31-k) (Tf a k)
theorem Kw(a:List Int)(k:Nat):IntKind.u8.wrap (Int.fdiv (gI a (d8 k)) (2 ^ r8 k))=((Tf a k:Nat):Int):=by
 unfold Tf;have:IntKind.u8.wrap (Int.fdiv (gI a (d8 k)) (2 ^ r8 k))=(Int.fdiv (gI a (d8 k)) (2 ^ r8 k))%256:=by simp[IntKind.wrap,IntKind.bits,IntKind.signed]
 rw[this];omega
theorem Ti(a:List Int)(k:Nat):Tf a k<256:=by
 have h:=Kw a k;have:IntKind.u8.wrap (Int.fdiv (gI a (d8 k)) (2 ^ r8 k))=(Int.fdiv (gI a (d8 k)) (2 ^ r8 k))%256:=by simp[IntKind.wrap,IntKind.bits,IntKind.signed]
 rw[this]at h;omega
theorem C3(a:List Int):∀k,(eV (Ls a) z32 k).length=32∧bytes (eV (Ls a) z32 k) :=
 iW (P:=fun _ l=>l.length=32∧bytes l) ⟨rfl,fun x hx=>by simp[z32]at hx;omega⟩ fun k l hl=>by
  refine⟨by unfold Ls;rw[List.length_set];exact hl.1,fun x hx=>?_⟩;rcases List.mem_or_eq_of_mem_set hx with hx|rfl
  ·exact hl.2 x hx
  ·exact Ti _ _
theorem WO{a:List Int}(ha:Wn 4 a){k:Nat}(hk:k<32):Tf a k=(V a).toNat/256 ^ k%256:=by
 have hw:=JE ha (j:=k/8) aq;have hi:=Kw a k;have hu:IntKind.u8.wrap (Int.fdiv (gI a (d8 k)) (2 ^ r8 k))=(Int.fdiv (gI a (d8 k)) (2 ^ r8 k))%256:=by simp[IntKind.wrap,IntKind.bits,IntKind.signed]
 have hd:d8 k=k/8:=rfl;have hr:r8 k=8*(k%8):=rfl;rw[hu,hd,hr,←hw,Int.fdiv_eq_ediv_of_nonneg _ (Int.le_of_lt (Int.pow_pos aq))]at hi;generalize(V a).toNat=N at *
 have h1:Tf a k=N/2 ^ (64*(k/8))%2 ^ 64/2 ^ (8*(k%8))%256:=by
  have e:∀(z s:Nat),(((z/2 ^ s%256:Nat)):Int)=(z:Int)/2 ^ s%256:=fun z s=>by rw[Int.natCast_emod,Int.natCast_ediv,Int.natCast_pow];rfl
  exact(Int.ofNat_inj.1 ((e _ _).trans hi)).symm
 rw[h1];have e64:(2:Nat) ^ 64=2 ^ (8*(k%8))*2 ^ (64-8*(k%8)):=by rw[←Nat.pow_add];congr 1;omega
 have e8:(256:Nat)∣2 ^ (64-8*(k%8)):=⟨2 ^ (56-8*(k%8)),by rw[show(256:Nat)=2 ^ 8 from rfl,←Nat.pow_add];congr 1;omega⟩
 have e256:(256:Nat) ^ k=2 ^ (64*(k/8))*2 ^ (8*(k%8)):=by
  rw[show(256:Nat)=2 ^ 8 from rfl,←Nat.pow_mul,←Nat.pow_add];congr 1;omega
 rw[e64,Nat.mod_mul_right_div_self,Nat.mod_mod_of_dvd _ e8,Nat.div_div_eq_div_mul,←e256]
def C4(a:List Int):Nat→List Nat
 |0=>[]
 |k+1=>Tf a k::C4 a k
theorem AA(a:List Int):∀k,(C4 a k).length=k
 |0=>rfl
 |k+1=>by rw[C4,List.length_cons,AA a k]
theorem Kx(x:Nat)(l:List Nat):iV (x::l)=x*256 ^ l.length+iV l:=by
 have:=sK [x] l;have e:iV [x]=x:=by simp[iV]
 rw[e]at this;exact this
theorem Ky{a:List Int}(ha:Wn 4 a):∀k,k≤32→iV (C4 a k)=(V a).toNat%256 ^ k
 |0,_=>by rw[C4,Nat.pow_zero,Nat.mod_one];rfl
 |k+1,h=>by
  rw[C4,Kx,AA,Ky ha k aq,WO ha aq,Nat.mod_pow_succ,Nat.mul_comm,Nat.add_comm]
theorem EN(a:List Int):∀k,k≤32→eV (Ls a) z32 k=List.replicate (32-k) 0++C4 a k
 |0,_=>rfl
 |k+1,h=>by
  rw[eV,EN a k aq];unfold Ls;have e:32-k=(31-k)+1:=aq;have e2:32-(k+1)=31-k:=aq;rw[e,e2,List.replicate_succ',cD,List.set_append_right _ _ aw,List.length_replicate,Nat.sub_self];rfl
theorem WP{a:List Int}(ha:Wn 4 a):iV (eV (Ls a) z32 32)=(V a).toNat:=by
 rw[EN a 32 aq,Nat.sub_self,List.replicate_zero,List.nil_append,Ky ha 32 aq];have h:=j8 ha
 exact Nat.mod_eq_of_lt (by
  have:(256:Nat) ^ 32=115792089237316195423570985008687907853269984665640564039457584007913129639936:=by decide
  omega)
theorem GB(a:List Int)(ha:Wn 4 a):∃b:List Nat,b.length=32∧bytes b∧iV b=(V a).toNat∧ay Tryz.prog 85 [.agg (cI a)] (fun r=>r=.agg (cb b)):=by
 refine⟨eV (Ls a) z32 32,(C3 a 32).1,(C3 a 32).2,WP ha,?_⟩;refine bL Tryz.func85 Tryz.ntmps85 (rs:=[.cell 2 29]) (aS a) ?_;have hal:=ha.1;simp[go_sem,hal,ae hal];generalize hSS:eV (Ls a) z32=S at *;have hS:=C3 a;rw[hSS]at hS
 refine ar (fun k:Nat=>⟨[(1,.ptr 0 0 0 1),(2,.ptr 32 0 0 1),(3,.ptr 64 0 0 1),(5,.d (.int .i64 (k:Int)))],[(64,⟨29,32,[cb (S k)]⟩),(32,⟨29,32,[cb z32]⟩),(0,⟨96,4,[cI a]⟩)],20000⟩)
  (fun k=>k≤32) (fun k=>32-k) 0 aq (by
   rw[←hSS];simp[aA,ai,fv,lk,AV.low,AV.low1,eV]
   and_intros<;>first|rfl|exact bU _ _|exact aO _ _) ?_
 intro k hk;obtain⟨hs1,hs2⟩:=hS k;have w3:=ax (k:=k) aq;simp only[go_sem,Nat.reduceEqDiff,Nat.reduceAdd,Nat.reduceLT,↓reduceIte];by_cases h4:k<32
 ·refine⟨fun h=>?_,fun h=>absurd (by exact_mod_cast h4) h⟩;have hsn:S (k+1)=Ls a k (S k):=by rw[←hSS];rfl
  have hdq:d8 k=k/8:=rfl;have hrq:r8 k=8*(k%8):=rfl;have hnk:=jg (l:=a) (k:=d8 k) aq;have w4:IntKind.i64.wrap ((k:Int)/8)=(d8 k:Int):=by rw[IntWalk.i64_in _ aq];omega
  have w4b:IntKind.i64.wrap ((k:Int).tdiv 8)=(d8 k:Int):=w4;have e2:IntKind.i64.wrap (8*((k:Int)%8))=(r8 k:Int):=by rw[IntWalk.i64_in _ aq];omega
  have e2b:IntKind.i64.wrap (8*((k:Int).tmod 8))=(r8 k:Int):=e2;have e3:IntKind.i64.wrap (31-(k:Int))=((31-k:Nat):Int):=by rw[IntWalk.i64_in _ aq];omega
  have i1:(d8 k:Int)<4:=aq;have hm64:r8 k<64:=aq;have hmn:min (r8 k) 64=r8 k:=aq;have i3:((31-k:Nat):Int)<32:=aq;have i4:31-k<32:=aq;simp[go_sem,hnk,hal,e2,e2b,w4,w4b,e3,i1,i3,i4,hm64,hmn,IntKind.bits,Kw,BJ,am,hs1,w3];refine ao (k+1) aq aq ?_;rw[hsn];simp[aA,ai,fv,lk,AV.low,AV.low1,Ls];and_intros<;>first|rfl|exact bU _ _|exact aO _ _
 ·refine⟨fun h=>absurd (by exact_mod_cast h) h4,fun h=>?_⟩;have hkl:k=32:=aq;subst hkl;simp[go_sem,am,hs1,av hs1,gW (l:=z32) rfl,ah];exact aa (dF _) rfl
theorem Tj{Q:AV→Prop}{st:St}{b:List Nat}(hq:Q (.agg (cb b))):dy Q (.agg (cb b)) st:=aa (dF _) hq
theorem wG(x y:List Int)(c:Bool)(hx:Wn 4 x)(hy:Wn 4 y):∃b:List Nat,b.length=32∧bytes b∧(jm x y c→iV b=(V x).toNat)∧ay Tryz.prog 129 [.agg (cP x y c)] (fun r=>r=.agg (cb b)):=by
 obtain⟨u,v,d,hu,hv,tv,f1⟩:=pY x y c hx hy;obtain⟨b,hb,hbb,vb,f2⟩:=GB u hu;refine⟨b,hb,hbb,fun h=>by rw[vb,(tv.2.1 h).1],?_⟩;refine bL Tryz.func129 Tryz.ntmps129 (rs:=[.cell 2 29]) (dx _ _ _) ?_;have hxl:=hx.1;have hyl:=hy.1;have ul:=bY hu.1 hv.1 d;have ux:=S7 (y:=v) hu.1 d;have zd:List.drop 32 (cb z32)=[]:=gW rfl;simp[go_sem,bY hxl hyl,c7 hxl hyl];refine ag f1 (dx _ _ _) ?_;simp[go_sem,ul,ux];refine ag f2 (aS _) ?_;simp[go_sem,am,hb,av hb,zd,ah];exact Tj rfl
def WQ(a b:List Nat):Nat→AV
 |0=>.nil
 |1=>.own 1192 0 a.length a.length
 |_=>.own 1192 0 (a++b).length (a++b).length
def WR(a b:List Nat):Nat→Hp
 |0=>[]
 |1=>[(1192,⟨5,1,rb a⟩)]
 |_=>[(1192,⟨5,1,rb (a++b)⟩)]
def Oz:Nat→Nat
 |0=>1000
 |_=>2000
theorem GF(a b:List Nat)(ha:a.length=32)(hb:b.length≤1000000):ay Tryz.prog 89 [.d (.ro 1 [[nb a],[nb b]])] (fun r=>r=.d (nb (a++b))):=by
 refine bL Tryz.func89 Tryz.ntmps89 (rs:=[.tmp 2]) a9 ?_;simp[go_sem]
 refine ar (fun k:Nat=>⟨[(3,WQ a b k),(6,.d (.ro 1 [[nb a],[nb b]])),(7,.d (.int .i64 2)),(8,.d (.int .i64 (k:Int)))],WR a b k,Oz k⟩)
  (fun k=>k≤2) (fun k=>2-k) 0 aq (by simp[aA,ai,fv,lk,AV.low,AV.low1,WQ,WR,Oz]) ?_
 intro k hk;simp only[go_sem,Nat.reduceEqDiff,Nat.reduceAdd,Nat.reduceLT,↓reduceIte]
 match k,hk with
 |0,_ =>
  refine⟨fun _=>?_,fun h=>absurd (by decide) h⟩;simp[go_sem,WQ,WR,Oz,nb,cF];refine⟨by rw[aG];omega,?_⟩;have w1:IntKind.i64.wrap 1=1:=by decide
  refine ao 1 aq aq ?_;simp[aA,ai,fv,lk,AV.low,AV.low1,aG,w1];exact bm _ _
 |1,_ =>
  refine⟨fun _=>?_,fun h=>absurd (by decide) h⟩;simp[go_sem,WQ,WR,Oz,nb,cF,aG];refine⟨aq,?_⟩;have w1:IntKind.i64.wrap 2=2:=by decide
  have ra:rb (a++b)=rb a++rb b:=by simp[rb]
  refine ao 2 aq aq ?_;simp[aA,ai,fv,lk,AV.low,AV.low1,aG,w1,ra];intro r hr;exact hr.elim (bm _ _ r) (bm _ _ r)
 |2,_ =>
  refine⟨fun h=>absurd h (by decide),fun _=>?_⟩;simp[go_sem,WQ,WR,ah];have hl2:a.length+b.length=(a++b).length:=by rw[b_]
  rw[hl2];exact iK rfl (by simp[nb])
theorem WS(x y:List Int):JV x y zI=none:=by
 show pV fd _ _ (FV zI)=none;rw[ym];exact As fd _ _
theorem oV(x y z x' y' z':List Int):∀v,v∈[AV.agg (cV x y z),AV.agg (cV x' y' z')]→v.deep:=by
 intro v hv;simp at hv;rcases hv with rfl|rfl
 ·exact sJ _ _ _
 ·exact sJ _ _ _
theorem EO (x y z x' y' z':List Int) (hx:Wn 4 x) (hy:Wn 4 y) (hz:Wn 4 z) (hx':Wn 4 x') (hy':Wn 4 y') (hz':Wn 4 z'):∃ (u v w:List Int),Wn 4 u∧Wn 4 v∧Wn 4 w∧(rj x y z→rj x' y' z'→rj u v w∧JV u v w=sum fd (JV x y z) (JV x' y' z'))∧ay Tryz.prog 181 [.agg (cV x y z),.agg (cV x' y' z')] (fun r=>r=.agg (cV u v w)):=by
 obtain⟨pz2,h1,g1,f1⟩:=mW z hz;obtain⟨qz2,h2,g2,f2⟩:=mW z' hz';obtain⟨u1,h4,g4,f4⟩:=gh x qz2 hx h2;obtain⟨u2,h5,g5,f5⟩:=gh x' pz2 hx' h1;obtain⟨qz3,h6,g6,f6⟩:=gh qz2 z' h2 hz';obtain⟨s1,h7,g7,f7⟩:=gh y qz3 hy h6;obtain⟨pz3,h8,g8,f8⟩:=gh pz2 z h1 hz;obtain⟨s2,h9,g9,f9⟩:=gh y' pz3 hy' h8;obtain⟨h,h11,g11,f11⟩:=pX u2 u1 h5 h4;obtain⟨r,h12,g12,f12⟩:=pX s2 s1 h9 h7;obtain⟨hh,h13,g13,f13⟩:=mW h h11;obtain⟨h3,h14,g14,f14⟩:=gh hh h h13 h11;obtain⟨v,h15,g15,f15⟩:=gh u1 hh h4 h13;obtain⟨rr,h16,g16,f16⟩:=mW r h12;obtain⟨d1,h17,g17,f17⟩:=pX rr h3 h16 h14;obtain⟨w2,h20,g20,f20⟩:=lc 2 v ⟨aq,aq⟩ h15;obtain⟨X,h18,g18,f18⟩:=pX d1 w2 h17 h20;obtain⟨e1,h21,g21,f21⟩:=pX v X h15 h18;obtain⟨e2,h22,g22,f22⟩:=gh r e1 h12 h21;obtain⟨e3,h24,g24,f24⟩:=gh s1 h3 h7 h14;obtain⟨Y,h19,g19,f19⟩:=pX e2 e3 h22 h24;obtain⟨zz,h25,g25,f25⟩:=gh z z' hz hz';obtain⟨Z,h23,g23,f23⟩:=gh h zz h11 h25;obtain⟨wu,wv,ww,h26,h27,h28,g26,f26⟩:=mX zI zI true jE jE;obtain⟨du,dv,dw,h29,h30,h31,g29,f29⟩:=um x y z hx hy hz;unfold W1 at f1 f2 f13 f16;unfold W2 at f4 f5 f6 f7 f8 f9 f11 f12 f14 f15 f17 f18 f19 f21 f22 f23 f24 f25;have l1:=h1.1;have l2:=h2.1;have l4:=h4.1;have l5:=h5.1;have l6:=h6.1;have l7:=h7.1;have l8:=h8.1;have l9:=h9.1;have l11:=h11.1;have l12:=h12.1;have l13:=h13.1;have l14:=h14.1;have l15:=h15.1;have l16:=h16.1;have l17:=h17.1;have l18:=h18.1;have l19:=h19.1;have l20:=h20.1;have l21:=h21.1;have l22:=h22.1;have l23:=h23.1;have l24:=h24.1;have l25:=h25.1;have l26:=h26.1;have l27:=h27.1;have l28:=h28.1;have l29:=h29.1;have l30:=h30.1;have l31:=h31.1;have hxl:=hx.1;have hyl:=hy.1;have hzl:=hz.1;have hxlb:=hx'.1;have hylb:=hy'.1;have hzlb:=hz'.1;have z4:List.drop 4 (cI zI)=[]:=aZ rfl;have vl:=dR hxl hyl hzl;have vt:=df hxl hyl hzl;have v1:(cV x y z).take 4=cI x:=Oq hxl;have v2:=Ot (z:=z) hxl hyl;have v3:=Kq hxl hyl hzl;have vlb:=dR hxlb hylb hzlb;have vtb:=df hxlb hylb hzlb;have v1b:(cV x' y' z').take 4=cI x':=Oq hxlb;have v2b:=Ot (z:=z') hxlb hylb;have v3b:=Kq hxlb hylb hzlb;have iz:b8 .u64 [AV.d (.int .u64 0),AV.d (.int .u64 0),AV.d (.int .u64 0),AV.d (.int .u64 0)]=some zI:=io zI;have f0:=nQ x y z hx hy hz;have f0b:=nQ x' y' z' hx' hy' hz';have wd:(cV zI zI zI).drop 12=[]:=kB rfl rfl rfl;have wl:(cV zI zI zI).length=12:=rfl;have ul:=dR l26 l27 l28;have ut:=df l26 l27 l28;have ul2:=dR l29 l30 l31;have ut2:=df l29 l30 l31;by_cases q1:z=zI
 ·have vv:rj x y z→rj x' y' z'→rj x' y' z'∧JV x' y' z'=sum fd (JV x y z) (JV x' y' z'):=by
   intro _ hj';refine⟨hj',?_⟩;rw[q1,WS,gf fd hj'.2]
  refine⟨x',y',z',hx',hy',hz',vv,?_⟩;refine bL Tryz.func181 Tryz.ntmps181 (rs:=[.cell 4 243]) (oV _ _ _ _ _ _) ?_;simp[go_sem,vl,vt,vlb,vtb];refine ag f0 (fC _ _ _) ?_;simp[go_sem,q1,vlb,vtb,wd,wl,ah];exact kK rfl
 by_cases q2:z'=zI
 ·have vv:rj x y z→rj x' y' z'→rj x y z∧JV x y z=sum fd (JV x y z) (JV x' y' z'):=by
   intro hj _;refine⟨hj,?_⟩;rw[q2,WS,ke fd hj.2]
  refine⟨x,y,z,hx,hy,hz,vv,?_⟩;refine bL Tryz.func181 Tryz.ntmps181 (rs:=[.cell 4 243]) (oV _ _ _ _ _ _) ?_;simp[go_sem,vl,vt,vlb,vtb];refine ag f0 (fC _ _ _) ?_;simp[go_sem,q1,vl,vt,vlb,vtb];refine ag f0b (fC _ _ _) ?_;simp[go_sem,q2,vl,vt,wd,wl,ah];exact kK rfl
 have key:rj x y z→rj x' y' z'→(FV h≠0→JV X Y Z=sum fd (JV x y z) (JV x' y' z'))∧(FV h=0→FV r=0→JV x y z=JV x' y' z')∧(FV h=0→FV r≠0→sum fd (JV x y z) (JV x' y' z')=none):=by
  intro hj hj';have hz0:FV z≠0:=fun h=>q1 ((lL hz hj.1.2.2).1 h);have hz0':FV z'≠0:=fun h=>q2 ((lL hz' hj'.1.2.2).1 h);have k1:FV u1=FV x*(FV z'*FV z'):=by rw[g4.2,g2.2]
  have k2:FV u2=FV x'*(FV z*FV z):=by rw[g5.2,g1.2]
  have k3:FV s1=FV y*(FV z'*FV z'*FV z'):=by rw[g7.2,g6.2,g2.2]
  have k4:FV s2=FV y'*(FV z*FV z*FV z):=by rw[g9.2,g8.2,g1.2]
  obtain⟨j1,j2,j3⟩:=J0 fd hz0 hz0' hj.2 hj'.2 k1 k2 k3 k4 g11.2 g12.2;refine⟨fun hh0=>?_,j2,j3⟩;have n2:FV [2,0,0,0]=2:=CZ 2 aq
  have eX:FV X=FV r*FV r-FV h*FV h*FV h-2*(FV u1*(FV h*FV h)):=by
   rw[g18.2,g17.2,g16.2,g14.2,g13.2,g20.2,g15.2,g13.2,n2]
  have eY:FV Y=FV r*(FV u1*(FV h*FV h)-(FV r*FV r-FV h*FV h*FV h-2*(FV u1*(FV h*FV h))))-FV s1*(FV h*FV h*FV h):=by
   rw[g19.2,g22.2,g21.2,eX,g24.2,g15.2,g14.2,g13.2]
  have eZ:FV Z=FV h*(FV z*FV z'):=by rw[g23.2,g25.2]
  show pV fd (FV X) (FV Y) (FV Z)=_;rw[eX,eY,eZ];exact j1 hh0
 obtain⟨Ua,Va,Wa,hU,hV,hW,vv,e1,e2,e3⟩:∃(Ua Va Wa:List Int),Wn 4 Ua∧Wn 4 Va∧Wn 4 Wa∧(rj x y z→rj x' y' z'→rj Ua Va Wa∧JV Ua Va Wa=sum fd (JV x y z) (JV x' y' z'))∧(h=zI→r=zI→(du=Ua∧dv=Va∧dw=Wa))∧(h=zI→r≠zI→(wu=Ua∧wv=Va∧ww=Wa))∧(h≠zI→(X=Ua∧Y=Va∧Z=Wa)):=by
  have fz:∀{l:List Int},l=zI→FV l=0:=fun h=>by rw[h,ym]
  by_cases q3:h=zI
  ·by_cases q4:r=zI
   ·refine⟨du,dv,dw,h29,h30,h31,fun hj hj'=>?_,fun _ _=>⟨rfl,rfl,rfl⟩,fun _ h=>absurd q4 h,fun h=>absurd q3 h⟩;obtain⟨m1,m2⟩:=g29 hj;refine⟨m1,?_⟩;rw[m2,←(key hj hj').2.1 (fz q3) (fz q4)]
   ·refine⟨wu,wv,ww,h26,h27,h28,fun hj hj'=>?_,fun _ h=>absurd h q4,fun _ _=>⟨rfl,rfl,rfl⟩,fun h=>absurd q3 h⟩;obtain⟨m1,m2⟩:=g26 uj;refine⟨m1,?_⟩;rw[m2,J9,(key hj hj').2.2 (fz q3) (fun h=>q4 ((lL h12 g12.1).1 h))]
  ·refine⟨X,Y,Z,h18,h19,h23,fun hj hj'=>?_,fun h=>absurd h q3,fun h=>absurd h q3,fun _=>⟨rfl,rfl,rfl⟩⟩;have e:=(key hj hj').1 (fun h=>q3 ((lL h11 g11.1).1 h));exact⟨⟨⟨g18.1,g19.1,g23.1⟩,by rw[e];exact oS fd hj.2 hj'.2⟩,e⟩
 refine⟨Ua,Va,Wa,hU,hV,hW,vv,?_⟩;refine bL Tryz.func181 Tryz.ntmps181 (rs:=[.cell 4 243]) (oV _ _ _ _ _ _) ?_;simp[go_sem,vl,vt,vlb,vtb];refine ag f0 (fC _ _ _) ?_;simp[go_sem,q1,vl,vt,vlb,vtb];refine ag f0b (fC _ _ _) ?_;simp[go_sem,q2,vl,vt,vlb,vtb,v1,v2,v3,v1b,v2b,v3b];refine ep [0,1,3,4] [2,5,6,7,8,9] [0,1,3,4] (.alt (bt 2 (.alt (bx 5 (.alt (a_ [6,7,8,9]) (a_ [7,6,8,9]))) (.alt (bt 6 (.alt (a_ [5,7,8,9]) (bt 7 (a_ [5,8,9])))) (bt 7 (.alt (a_ [5,6,8,9]) (bt 6 (a_ [5,8,9]))))))) (.alt (bt 6 (.alt (bt 2 (.alt (a_ [5,7,8,9]) (bt 7 (a_ [5,8,9])))) (bt 7 (bt 2 (a_ [5,8,9]))))) (bt 7 (.alt (bt 2 (.alt (a_ [5,6,8,9]) (bt 6 (a_ [5,8,9])))) (bt 6 (bt 2 (a_ [5,8,9]))))))) ⟨[(2,.ptr 0 0 0 1),(3,.ptr 32 0 0 1),(4,.ptr 64 0 0 1),(5,.ptr 480 0 0 1),(6,.ptr 512 0 0 1)],[(512,⟨96,4,[cI qz2]⟩),(480,⟨96,4,[cI pz2]⟩),(64,⟨243,12,[cV zI zI zI]⟩),(32,⟨243,12,[cV x' y' z']⟩),(0,⟨243,12,[cV x y z]⟩)],9000⟩ (k:=10) ?h3 ?hq
 case h3 =>
  intro G hG
  have hW:∀(fr:Fr)(hp:Hp),(fv 2 fr=.ptr 0 0 0 1∧fv 3 fr=.ptr 32 0 0 1∧fv 4 fr=.ptr 64 0 0 1∧fv 5 fr=.ptr 480 0 0 1∧fv 6 fr=.ptr 512 0 0 1∧lk 512 hp=some ⟨96,4,[cI qz2]⟩∧lk 480 hp=some ⟨96,4,[cI pz2]⟩∧lk 64 hp=some ⟨243,12,[cV zI zI zI]⟩∧lk 32 hp=some ⟨243,12,[cV x' y' z']⟩∧lk 0 hp=some ⟨243,12,[cV x y z]⟩)→G fr hp:=by
   rintro fr hp⟨q0,q1,q2,q3,q4,q5,q6,q7,q8,q9⟩;exact hG _ _ rY
  simp[go_sem,l1,l2,ae l1,ae l2,z4,v3,v3b,vl,vlb,dM]
  repeat' first|exact hW _ _ ⟨rfl,rfl,rfl,rfl,rfl,rfl,rfl,rfl,rfl,rfl⟩|(refine hW _ _ ?_;simp[fv,lk];done)|refine ag f1 (aS _) ?_|refine ag f2 (aS _) ?_|apply And.intro|simp[go_sem,l1,l2,ae l1,ae l2,z4,v3,v3b,vl,vlb,dM]
 case hq =>
  simp[go_sem];refine ep [0,1,2,4,5,6] [3,7,8,9,10,11] [0,1,2,4,5,6] (.alt (bt 3 (.alt (bx 7 (.alt (a_ [8,9,10,11]) (a_ [9,8,10,11]))) (.alt (bt 8 (.alt (a_ [7,9,10,11]) (bt 9 (a_ [7,10,11])))) (bt 9 (.alt (a_ [7,8,10,11]) (bt 8 (a_ [7,10,11]))))))) (.alt (bt 8 (.alt (bt 3 (.alt (a_ [7,9,10,11]) (bt 9 (a_ [7,10,11])))) (bt 9 (bt 3 (a_ [7,10,11]))))) (bt 9 (.alt (bt 3 (.alt (a_ [7,8,10,11]) (bt 8 (a_ [7,10,11])))) (bt 8 (bt 3 (a_ [7,10,11]))))))) ⟨[(2,.ptr 0 0 0 1),(3,.ptr 32 0 0 1),(4,.ptr 64 0 0 1),(5,.ptr 480 0 0 1),(6,.ptr 512 0 0 1),(7,.ptr 9256 0 0 1),(8,.ptr 9288 0 0 1)],[(9288,⟨96,4,[cI u2]⟩),(9256,⟨96,4,[cI u1]⟩),(512,⟨96,4,[cI qz2]⟩),(480,⟨96,4,[cI pz2]⟩),(64,⟨243,12,[cV zI zI zI]⟩),(32,⟨243,12,[cV x' y' z']⟩),(0,⟨243,12,[cV x y z]⟩)],20000⟩ (k:=12) ?h3 ?hq
  case h3 =>
   intro G hG
   have hW:∀(fr:Fr)(hp:Hp),(fv 2 fr=.ptr 0 0 0 1∧fv 3 fr=.ptr 32 0 0 1∧fv 4 fr=.ptr 64 0 0 1∧fv 5 fr=.ptr 480 0 0 1∧fv 6 fr=.ptr 512 0 0 1∧fv 7 fr=.ptr 9256 0 0 1∧fv 8 fr=.ptr 9288 0 0 1∧lk 9288 hp=some ⟨96,4,[cI u2]⟩∧lk 9256 hp=some ⟨96,4,[cI u1]⟩∧lk 512 hp=some ⟨96,4,[cI qz2]⟩∧lk 480 hp=some ⟨96,4,[cI pz2]⟩∧lk 64 hp=some ⟨243,12,[cV zI zI zI]⟩∧lk 32 hp=some ⟨243,12,[cV x' y' z']⟩∧lk 0 hp=some ⟨243,12,[cV x y z]⟩)→G fr hp:=by
    rintro fr hp⟨q0,q1,q2,q3,q4,q5,q6,q7,q8,q9,q10,q11,q12,q13⟩;exact hG _ _ rY
   simp[go_sem,l1,l2,l4,l5,ae l1,ae l2,ae l4,ae l5,z4,v1,v1b,vl,vlb,dM]
   repeat' first|exact hW _ _ ⟨rfl,rfl,rfl,rfl,rfl,rfl,rfl,rfl,rfl,rfl,rfl,rfl,rfl,rfl⟩|(refine hW _ _ ?_;simp[fv,lk];done)|refine ag f4 (aK _ _) ?_|refine ag f5 (aK _ _) ?_|apply And.intro|simp[go_sem,l1,l2,l4,l5,ae l1,ae l2,ae l4,ae l5,z4,v1,v1b,vl,vlb,dM]
  case hq =>
   simp[go_sem];refine ep [0,1,2,3,4,7,8,9,10,11] [5,6,12,13,14,15,16,17] [0,1,2,3,4,7,8,9,10,11] (.alt (bt 5 (.alt (bt 6 (.alt (bt 12 (.alt (bx 13 (.alt (a_ [14,15,16,17]) (a_ [15,14,16,17]))) (.alt (bt 14 (.alt (a_ [13,15,16,17]) (bt 15 (a_ [13,16,17])))) (bt 15 (.alt (a_ [13,14,16,17]) (bt 14 (a_ [13,16,17]))))))) (.alt (bt 14 (.alt (bt 12 (.alt (a_ [13,15,16,17]) (bt 15 (a_ [13,16,17])))) (bt 15 (bt 12 (a_ [13,16,17]))))) (bt 15 (.alt (bt 12 (.alt (a_ [13,14,16,17]) (bt 14 (a_ [13,16,17])))) (bt 14 (bt 12 (a_ [13,16,17])))))))) (.alt (bt 14 (.alt (bt 6 (.alt (bt 12 (.alt (a_ [13,15,16,17]) (bt 15 (a_ [13,16,17])))) (bt 15 (bt 12 (a_ [13,16,17]))))) (bt 15 (bt 6 (bt 12 (a_ [13,16,17])))))) (bt 15 (.alt (bt 6 (.alt (bt 12 (.alt (a_ [13,14,16,17]) (bt 14 (a_ [13,16,17])))) (bt 14 (bt 12 (a_ [13,16,17]))))) (bt 14 (bt 6 (bt 12 (a_ [13,16,17]))))))))) (.alt (bt 14 (.alt (bt 5 (.alt (bt 6 (.alt (bt 12 (.alt (a_ [13,15,16,17]) (bt 15 (a_ [13,16,17])))) (bt 15 (bt 12 (a_ [13,16,17]))))) (bt 15 (bt 6 (bt 12 (a_ [13,16,17])))))) (bt 15 (bt 5 (bt 6 (bt 12 (a_ [13,16,17]))))))) (bt 15 (.alt (bt 5 (.alt (bt 6 (.alt (bt 12 (.alt (a_ [13,14,16,17]) (bt 14 (a_ [13,16,17])))) (bt 14 (bt 12 (a_ [13,16,17]))))) (bt 14 (bt 6 (bt 12 (a_ [13,16,17])))))) (bt 14 (bt 5 (bt 6 (bt 12 (a_ [13,16,17]))))))))) ⟨[(2,.ptr 0 0 0 1),(3,.ptr 32 0 0 1),(4,.ptr 64 0 0 1),(7,.ptr 9256 0 0 1),(8,.ptr 9288 0 0 1),(9,.ptr 20448 0 0 1),(10,.ptr 20480 0 0 1)],[(20480,⟨96,4,[cI s2]⟩),(20448,⟨96,4,[cI s1]⟩),(9288,⟨96,4,[cI u2]⟩),(9256,⟨96,4,[cI u1]⟩),(64,⟨243,12,[cV zI zI zI]⟩),(32,⟨243,12,[cV x' y' z']⟩),(0,⟨243,12,[cV x y z]⟩)],30000⟩ (k:=18) ?h3 ?hq
   case h3 =>
    intro G hG
    have hW:∀(fr:Fr)(hp:Hp),(fv 2 fr=.ptr 0 0 0 1∧fv 3 fr=.ptr 32 0 0 1∧fv 4 fr=.ptr 64 0 0 1∧fv 7 fr=.ptr 9256 0 0 1∧fv 8 fr=.ptr 9288 0 0 1∧fv 9 fr=.ptr 20448 0 0 1∧fv 10 fr=.ptr 20480 0 0 1∧lk 20480 hp=some ⟨96,4,[cI s2]⟩∧lk 20448 hp=some ⟨96,4,[cI s1]⟩∧lk 9288 hp=some ⟨96,4,[cI u2]⟩∧lk 9256 hp=some ⟨96,4,[cI u1]⟩∧lk 64 hp=some ⟨243,12,[cV zI zI zI]⟩∧lk 32 hp=some ⟨243,12,[cV x' y' z']⟩∧lk 0 hp=some ⟨243,12,[cV x y z]⟩)→G fr hp:=by
     rintro fr hp⟨q0,q1,q2,q3,q4,q5,q6,q7,q8,q9,q10,q11,q12,q13⟩;exact hG _ _ rY
    simp[go_sem,l1,l2,l7,l9,ae l1,ae l2,ae l7,ae l9,z4,v2,v2b,v3,v3b,vl,vlb,dM]
    repeat' first|exact hW _ _ ⟨rfl,rfl,rfl,rfl,rfl,rfl,rfl,rfl,rfl,rfl,rfl,rfl,rfl,rfl⟩|(refine hW _ _ ?_;simp[fv,lk];done)|refine ag f6 (aK _ _) ?_|refine ag f7 (aK _ _) ?_|refine ag f8 (aK _ _) ?_|refine ag f9 (aK _ _) ?_|apply And.intro|simp[go_sem,l1,l2,l7,l9,ae l1,ae l2,ae l7,ae l9,z4,v2,v2b,v3,v3b,vl,vlb,dM]
   case hq =>
    simp[go_sem];refine ep [0,1,3,4] [2,5,6,7,8,9] [0,1,3,4] (.alt (bt 2 (.alt (bx 5 (.alt (a_ [6,7,8,9]) (a_ [7,6,8,9]))) (.alt (bt 6 (.alt (a_ [5,7,8,9]) (bt 7 (a_ [5,8,9])))) (bt 7 (.alt (a_ [5,6,8,9]) (bt 6 (a_ [5,8,9]))))))) (.alt (bt 6 (.alt (bt 2 (.alt (a_ [5,7,8,9]) (bt 7 (a_ [5,8,9])))) (bt 7 (bt 2 (a_ [5,8,9]))))) (bt 7 (.alt (bt 2 (.alt (a_ [5,6,8,9]) (bt 6 (a_ [5,8,9])))) (bt 6 (bt 2 (a_ [5,8,9]))))))) ⟨[(2,.ptr 0 0 0 1),(3,.ptr 32 0 0 1),(4,.ptr 64 0 0 1),(7,.ptr 9256 0 0 1),(9,.ptr 20448 0 0 1),(11,.ptr 30192 0 0 1),(12,.ptr 30224 0 0 1)],[(30224,⟨96,4,[cI r]⟩),(30192,⟨96,4,[cI h]⟩),(20448,⟨96,4,[cI s1]⟩),(9256,⟨96,4,[cI u1]⟩),(64,⟨243,12,[cV zI zI zI]⟩),(32,⟨243,12,[cV x' y' z']⟩),(0,⟨243,12,[cV x y z]⟩)],40000⟩ (k:=10) ?h3 ?hq
    case h3 =>
     intro G hG
     have hW:∀(fr:Fr)(hp:Hp),(fv 2 fr=.ptr 0 0 0 1∧fv 3 fr=.ptr 32 0 0 1∧fv 4 fr=.ptr 64 0 0 1∧fv 7 fr=.ptr 9256 0 0 1∧fv 9 fr=.ptr 20448 0 0 1∧fv 11 fr=.ptr 30192 0 0 1∧fv 12 fr=.ptr 30224 0 0 1∧lk 30224 hp=some ⟨96,4,[cI r]⟩∧lk 30192 hp=some ⟨96,4,[cI h]⟩∧lk 20448 hp=some ⟨96,4,[cI s1]⟩∧lk 9256 hp=some ⟨96,4,[cI u1]⟩∧lk 64 hp=some ⟨243,12,[cV zI zI zI]⟩∧lk 32 hp=some ⟨243,12,[cV x' y' z']⟩∧lk 0 hp=some ⟨243,12,[cV x y z]⟩)→G fr hp:=by
      rintro fr hp⟨q0,q1,q2,q3,q4,q5,q6,q7,q8,q9,q10,q11,q12,q13⟩;exact hG _ _ rY
     simp[go_sem,l4,l5,l7,l9,l11,l12,ae l4,ae l5,ae l7,ae l9,ae l11,ae l12,z4,dM]
     repeat' first|exact hW _ _ ⟨rfl,rfl,rfl,rfl,rfl,rfl,rfl,rfl,rfl,rfl,rfl,rfl,rfl,rfl⟩|(refine hW _ _ ?_;simp[fv,lk];done)|refine ag f11 (aK _ _) ?_|refine ag f12 (aK _ _) ?_|apply And.intro|simp[go_sem,l4,l5,l7,l9,l11,l12,ae l4,ae l5,ae l7,ae l9,ae l11,ae l12,z4,dM]
    case hq =>
     by_cases q3:h=zI
     ·by_cases q4:r=zI
      ·obtain⟨rfl,rfl,rfl⟩:=e1 q3 q4;simp[go_sem,l11,l12,io,iz,ae l11,ae l12];refine⟨fun _=>⟨fun _=>?_,fun h=>absurd q4 h⟩,fun h=>absurd q3 h⟩;simp[go_sem,vl,vt];refine ag f29 (fC _ _ _) ?_;simp[go_sem,ul2,ut2,wd,wl,ah];exact kK rfl
      ·obtain⟨rfl,rfl,rfl⟩:=e2 q3 q4;simp[go_sem,l11,l12,io,iz,ae l11,ae l12];refine⟨fun _=>⟨fun h=>absurd h q4,fun _=>?_⟩,fun h=>absurd q3 h⟩;refine ag jH aw ?_;simp[go_sem];refine ag f26 (dx _ _ _) ?_;simp[go_sem,ul,ut,wd,wl,ah];exact kK rfl
     obtain⟨rfl,rfl,rfl⟩:=e3 q3;simp[go_sem,l11,l12,io,iz,ae l11,ae l12];refine⟨fun h=>absurd h q3,fun _=>?_⟩;refine ag f13 (aS _) ?_;simp[go_sem,l11,l13,ae l11,ae l13,z4];refine ag f14 (aK _ _) ?_;simp[go_sem,l4,l13,l14,ae l4,ae l13,ae l14,z4];refine ag f15 (aK _ _) ?_;simp[go_sem,l15,ae l15,z4];refine ep [0,2,4] [1,3,5,6,7,8] [0,2,4] (.alt (bt 1 (.alt (bt 3 (.alt (bx 5 (.alt (a_ [6,7,8]) (a_ [7,6,8]))) (bt 7 (a_ [5,6,8])))) (bt 7 (bt 3 (a_ [5,6,8]))))) (bt 7 (bt 1 (bt 3 (a_ [5,6,8]))))) ⟨[(2,.ptr 0 0 0 1),(3,.ptr 32 0 0 1),(4,.ptr 64 0 0 1),(9,.ptr 20448 0 0 1),(11,.ptr 30192 0 0 1),(12,.ptr 30224 0 0 1),(14,.ptr 40320 0 0 1),(15,.ptr 40480 0 0 1),(16,.ptr 40768 0 0 1)],[(40768,⟨96,4,[cI X]⟩),(40480,⟨96,4,[cI v]⟩),(40320,⟨96,4,[cI h3]⟩),(30224,⟨96,4,[cI r]⟩),(30192,⟨96,4,[cI h]⟩),(20448,⟨96,4,[cI s1]⟩),(64,⟨243,12,[cV zI zI zI]⟩),(32,⟨243,12,[cV x' y' z']⟩),(0,⟨243,12,[cV x y z]⟩)],50000⟩ (k:=9) ?h3 ?hq
     case h3 =>
      intro G hG
      have hW:∀(fr:Fr)(hp:Hp),(fv 2 fr=.ptr 0 0 0 1∧fv 3 fr=.ptr 32 0 0 1∧fv 4 fr=.ptr 64 0 0 1∧fv 9 fr=.ptr 20448 0 0 1∧fv 11 fr=.ptr 30192 0 0 1∧fv 12 fr=.ptr 30224 0 0 1∧fv 14 fr=.ptr 40320 0 0 1∧fv 15 fr=.ptr 40480 0 0 1∧fv 16 fr=.ptr 40768 0 0 1∧lk 40768 hp=some ⟨96,4,[cI X]⟩∧lk 40480 hp=some ⟨96,4,[cI v]⟩∧lk 40320 hp=some ⟨96,4,[cI h3]⟩∧lk 30224 hp=some ⟨96,4,[cI r]⟩∧lk 30192 hp=some ⟨96,4,[cI h]⟩∧lk 20448 hp=some ⟨96,4,[cI s1]⟩∧lk 64 hp=some ⟨243,12,[cV zI zI zI]⟩∧lk 32 hp=some ⟨243,12,[cV x' y' z']⟩∧lk 0 hp=some ⟨243,12,[cV x y z]⟩)→G fr hp:=by
       rintro fr hp⟨q0,q1,q2,q3,q4,q5,q6,q7,q8,q9,q10,q11,q12,q13,q14,q15,q16,q17⟩;exact hG _ _ rY
      simp[go_sem,l12,l14,l15,l18,ae l12,ae l14,ae l15,ae l18,z4,dM]
      repeat' first|exact hW _ _ ⟨rfl,rfl,rfl,rfl,rfl,rfl,rfl,rfl,rfl,rfl,rfl,rfl,rfl,rfl,rfl,rfl,rfl,rfl⟩|(refine hW _ _ ?_;simp[fv,lk];done)|refine ag f16 (aS _) ?_|refine ag f17 (aK _ _) ?_|refine ag f20 (lN _ _) ?_|refine ag f18 (aK _ _) ?_|apply And.intro|simp[go_sem,l12,l14,l15,l18,ae l12,ae l14,ae l15,ae l18,z4,dM]
     case hq =>
      simp[go_sem];refine ep [0,1,2,5,6] [3,4,7,8,9,10] [0,1,2,5,6] (.alt (bt 3 (.alt (bt 4 (.alt (bx 7 (.alt (a_ [8,9,10]) (a_ [9,8,10]))) (bt 9 (a_ [7,8,10])))) (bt 9 (bt 4 (a_ [7,8,10]))))) (bt 9 (bt 3 (bt 4 (a_ [7,8,10]))))) ⟨[(2,.ptr 0 0 0 1),(3,.ptr 32 0 0 1),(4,.ptr 64 0 0 1),(11,.ptr 30192 0 0 1),(16,.ptr 40768 0 0 1),(17,.ptr 50288 0 0 1)],[(50288,⟨96,4,[cI Y]⟩),(40768,⟨96,4,[cI X]⟩),(30192,⟨96,4,[cI h]⟩),(64,⟨243,12,[cV zI zI zI]⟩),(32,⟨243,12,[cV x' y' z']⟩),(0,⟨243,12,[cV x y z]⟩)],60000⟩ (k:=11) ?h3 ?hq
      case h3 =>
       intro G hG
       have hW:∀(fr:Fr)(hp:Hp),(fv 2 fr=.ptr 0 0 0 1∧fv 3 fr=.ptr 32 0 0 1∧fv 4 fr=.ptr 64 0 0 1∧fv 11 fr=.ptr 30192 0 0 1∧fv 16 fr=.ptr 40768 0 0 1∧fv 17 fr=.ptr 50288 0 0 1∧lk 50288 hp=some ⟨96,4,[cI Y]⟩∧lk 40768 hp=some ⟨96,4,[cI X]⟩∧lk 30192 hp=some ⟨96,4,[cI h]⟩∧lk 64 hp=some ⟨243,12,[cV zI zI zI]⟩∧lk 32 hp=some ⟨243,12,[cV x' y' z']⟩∧lk 0 hp=some ⟨243,12,[cV x y z]⟩)→G fr hp:=by
        rintro fr hp⟨q0,q1,q2,q3,q4,q5,q6,q7,q8,q9,q10,q11⟩;exact hG _ _ rY
       simp[go_sem,l7,l12,l14,l15,l18,l19,ae l7,ae l12,ae l14,ae l15,ae l18,ae l19,z4,dM]
       repeat' first|exact hW _ _ ⟨rfl,rfl,rfl,rfl,rfl,rfl,rfl,rfl,rfl,rfl,rfl,rfl⟩|(refine hW _ _ ?_;simp[fv,lk];done)|refine ag f21 (aK _ _) ?_|refine ag f22 (aK _ _) ?_|refine ag f24 (aK _ _) ?_|refine ag f19 (aK _ _) ?_|apply And.intro|simp[go_sem,l7,l12,l14,l15,l18,l19,ae l7,ae l12,ae l14,ae l15,ae l18,ae l19,z4,dM]
      case hq =>
       simp only[go_sem,Nat.reduceEqDiff,Nat.reduceAdd,Nat.reduceLT,↓reduceIte];refine b7 [0,1,2,3,4,5,6] [(7,[]),(8,[9]),(10,[])] 2 (k:=11) ?_;intro G hG;simp[go_sem,l18,l19,l11,ae l18,ae l19,ae l11,v3,v3b,vl,vlb];refine ag f25 (aK _ _) ?_;simp[go_sem];refine ag f23 (aK _ _) ?_;have ev:cI X++(cI Y++cI Z)=cV X Y Z:=rfl;have xl:=dR l18 l19 l23;have xt:=df l18 l19 l23;simp[go_sem,l18,l19,l23,wl,wd,Zw l18 l19,WL l18 l19,ev,xl,dM];refine hG _ _ ?_;simp[go_sem,xl,xt,ah];exact kK rfl
abbrev T3:=List Int×List Int×List Int
def W3(s:T3):Prop:=Wn 4 s.1∧Wn 4 s.2.1∧Wn 4 s.2.2
def uq(s:T3):Prop:=rj s.1 s.2.1 s.2.2
noncomputable def JV3(s:T3):Pt pP:=JV s.1 s.2.1 s.2.2
theorem Y0:∃D:T3→T3,∀s,W3 s→W3 (D s)∧(uq s→uq (D s)∧JV3 (D s)=sum fd (JV3 s) (JV3 s))∧ay Tryz.prog 183 [.agg (cV s.1 s.2.1 s.2.2)] (fun r=>r=.agg (cV (D s).1 (D s).2.1 (D s).2.2)) :=
 pick (α:=T3) (β:=T3) (A:=W3) (B:=fun s t=>W3 t∧(uq s→uq t∧JV3 t=sum fd (JV3 s) (JV3 s))∧ay Tryz.prog 183 [.agg (cV s.1 s.2.1 s.2.2)] (fun r=>r=.agg (cV t.1 t.2.1 t.2.2))) (fun s hs=>by
  obtain⟨u,v,w,h1,h2,h3,hv,h4⟩:=um s.1 s.2.1 s.2.2 hs.1 hs.2.1 hs.2.2
  exact⟨(u,v,w),⟨h1,h2,h3⟩,hv,h4⟩)
theorem WT:∃D:T3×T3→T3,∀s,(W3 s.1∧W3 s.2)→W3 (D s)∧(uq s.1→uq s.2→uq (D s)∧JV3 (D s)=sum fd (JV3 s.1) (JV3 s.2))∧ay Tryz.prog 181 [.agg (cV s.1.1 s.1.2.1 s.1.2.2),.agg (cV s.2.1 s.2.2.1 s.2.2.2)] (fun r=>r=.agg (cV (D s).1 (D s).2.1 (D s).2.2)) :=
 pick (α:=T3×T3) (β:=T3) (A:=fun s=>W3 s.1∧W3 s.2) (B:=fun s t=>W3 t∧(uq s.1→uq s.2→uq t∧JV3 t=sum fd (JV3 s.1) (JV3 s.2))∧ay Tryz.prog 181 [.agg (cV s.1.1 s.1.2.1 s.1.2.2),.agg (cV s.2.1 s.2.2.1 s.2.2.2)] (fun r=>r=.agg (cV t.1 t.2.1 t.2.2))) (fun s hs=>by
  obtain⟨u,v,w,h1,h2,h3,hv,h4⟩:=EO s.1.1 s.1.2.1 s.1.2.2 s.2.1 s.2.2.1 s.2.2.2 hs.1.1 hs.1.2.1 hs.1.2.2 hs.2.1 hs.2.2.1 hs.2.2.2
  exact⟨(u,v,w),⟨h1,h2,h3⟩,hv,h4⟩)
theorem Y4:∃D:List Int×Nat→Bool,∀s,(Wn 4 s.1∧s.2<256)→(D s=true↔(V s.1).toNat/2 ^ s.2%2=1)∧ay Tryz.prog 184 [.agg (cI s.1),.d (.int .i64 (s.2:Int))] (fun r=>r=.d (.bool (D s))) :=
 pick (α:=List Int×Nat) (β:=Bool) (A:=fun s=>Wn 4 s.1∧s.2<256) (B:=fun s t=>(t=true↔(V s.1).toNat/2 ^ s.2%2=1)∧ay Tryz.prog 184 [.agg (cI s.1),.d (.int .i64 (s.2:Int))] (fun r=>r=.d (.bool t))) (fun s hs=>Tc s.1 s.2 hs.1 hs.2)
def yq(D:T3→T3)(A:T3×T3→T3)(B:List Int×Nat→Bool)(a b:List Int)(M:Nat)(one two both:T3)(k:Nat)(s:T3):T3 :=
 if B (a,M-1-k)then(if B (b,M-1-k)then A (D s,both)else A (D s,one))else(if B (b,M-1-k)then A (D s,two)else D s)
theorem GG{P Q:Pt pP}(hP:j9 P)(hQ:j9 Q)(a b:Nat) :
  sum fd (sum fd (mp fd a P) (mp fd b Q)) (sum fd (mp fd a P) (mp fd b Q))=sum fd (mp fd (2*a) P) (mp fd (2*b) Q) ∧
  sum fd (sum fd (mp fd (2*a) P) (mp fd (2*b) Q)) P=sum fd (mp fd (2*a+1) P) (mp fd (2*b) Q) ∧
  sum fd (sum fd (mp fd (2*a) P) (mp fd (2*b) Q)) Q=sum fd (mp fd (2*a) P) (mp fd (2*b+1) Q) ∧
  sum fd (sum fd (mp fd (2*a) P) (mp fd (2*b) Q)) (sum fd P Q)=sum fd (mp fd (2*a+1) P) (mp fd (2*b+1) Q):=by
 have a1:=rT fd hP a;have b1:=rT fd hQ b;have a2:=rT fd hP (2*a);have b2:=rT fd hQ (2*b);refine⟨?_,?_,?_,?_⟩
 ·rw[Wz fd a1 b1 a1 b1,JY fd hP,JY fd hQ]
 ·rw[mp,gz fd a2 b2 hP,uc fd (mp fd (2*b) Q) P,←gz fd a2 hP b2]
 ·rw[mp,gz fd a2 b2 hQ]
 ·rw[mp,mp,Wz fd a2 b2 hP hQ]
theorem wH(N M k:Nat)(h:k<M):N/2 ^ (M-(k+1))=2*(N/2 ^ (M-k))+N/2 ^ (M-1-k)%2:=by
 have e:M-k=(M-1-k)+1:=aq;have e2:M-(k+1)=M-1-k:=aq;rw[e,e2,Nat.pow_succ,←Nat.div_div_eq_div_mul];omega
theorem C5(a b:List Int)(x y x' y':List Int)(c c':Bool):∀v,v∈[AV.agg (cI a),AV.agg (cP x y c),AV.agg (cI b),AV.agg (cP x' y' c')]→v.deep:=by
 intro v hv;simp at hv;rcases hv with rfl|rfl|rfl|rfl
 ·exact eP _
 ·exact jG _ _ _
 ·exact eP _
 ·exact jG _ _ _
theorem AB(n:List Int)(m:Int):∀v,v∈[AV.agg (cI n),AV.d (.int .i64 m)]→v.deep:=by
 intro v hv;simp at hv;rcases hv with rfl|rfl;exact eP _;trivial
theorem EP(a b x y x' y':List Int)(c c':Bool)(ha:Wn 4 a)(hb:Wn 4 b)(hx:Wn 4 x)(hy:Wn 4 y)(hx':Wn 4 x')(hy':Wn 4 y'):∃(u v:List Int)(o:Bool),Wn 4 u∧Wn 4 v∧(jm x y c→jm x' y' c'→jm u v o∧PV u v o=sum fd (mp fd (V a).toNat (PV x y c)) (mp fd (V b).toNat (PV x' y' c')))∧ay Tryz.prog 159 [.agg (cI a),.agg (cP x y c),.agg (cI b),.agg (cP x' y' c')] (fun r=>r=.agg (cP u v o)):=by
 obtain⟨D,hD⟩:=Y0;obtain⟨A,hA⟩:=WT;obtain⟨B,hB⟩:=Y4;obtain⟨p1,p2,p3,hp1,hp2,tv1,t1⟩:=pY x y c hx hy;obtain⟨u1,v1,w1,hu1,hv1,hw1,wv1,g1⟩:=mX p1 p2 p3 hp1 hp2;obtain⟨r1,r2,r3,hr1,hr2,tv2,t2⟩:=pY x' y' c' hx' hy';obtain⟨u2,v2,w2,hu2,hv2,hw2,wv2,g2⟩:=mX r1 r2 r3 hr1 hr2;obtain⟨u3,v3,w3,hu3,hv3,hw3,wv3,f3⟩:=EO u1 v1 w1 u2 v2 w2 hu1 hv1 hw1 hu2 hv2 hw2;obtain⟨u4,v4,w4,hu4,hv4,hw4,wv4,f4⟩:=mX zI zI true jE jE;obtain⟨La,hLa,vLa,f5⟩:=yc a ha;obtain⟨Lb,hLb,vLb,f6⟩:=yc b hb;obtain⟨M,hM⟩:∃M,M=max La Lb:=⟨_,rfl⟩;have hM2:M≤256:=aq;have hone:W3 (u1,v1,w1):=⟨hu1,hv1,hw1⟩;have htwo:W3 (u2,v2,w2):=⟨hu2,hv2,hw2⟩;have hboth:W3 (u3,v3,w3):=⟨hu3,hv3,hw3⟩
 have hS:∀k,W3 (eV (yq D A B a b M (u1,v1,w1) (u2,v2,w2) (u3,v3,w3)) (u4,v4,w4) k):=iW (P:=fun _ s=>W3 s) ⟨hu4,hv4,hw4⟩ fun k s hs=>by
  have hd:=(hD s hs).1;unfold yq
  split
  ·split
   ·exact(hA _ ⟨hd,hboth⟩).1
   ·exact(hA _ ⟨hd,hone⟩).1
  ·split
   ·exact(hA _ ⟨hd,htwo⟩).1
   ·exact hd
 obtain⟨u,v,o,hu,hv,vp,f7⟩:=Kt _ _ _ (hS M).1 (hS M).2.1 (hS M).2.2
 have vv:jm x y c→jm x' y' c'→jm u v o∧PV u v o=sum fd (mp fd (V a).toNat (PV x y c)) (mp fd (V b).toNat (PV x' y' c')):=by
  intro i1 i2;obtain⟨q1,q2,q3⟩:=tv1.2.1 i1;obtain⟨q4,q5,q6⟩:=tv2.2.1 i2;subst q1 q2 q3 q4 q5 q6;have o1:=yn i1;have o2:=yn i2;obtain⟨j1,e1⟩:=wv1 i1;obtain⟨j2,e2⟩:=wv2 i2;obtain⟨j3,e3⟩:=wv3 j1 j2;obtain⟨j4,e4⟩:=wv4 uj
  have hbig:∀(w:List Int)(L:Nat),Wn 4 w→V w<2 ^ L→L≤M→(V w).toNat/2 ^ M=0:=by
   intro w L hw hL hLM;have h0:=(j8 hw).1;have h1:(((V w).toNat:Nat):Int)<((2 ^ L:Nat):Int):=by rw[Int.toNat_of_nonneg h0];exact_mod_cast hL
   have h2:(V w).toNat<2 ^ L:=by exact_mod_cast h1
   exact Nat.div_eq_of_lt (Nat.lt_of_lt_of_le h2 (Nat.pow_le_pow_right aq hLM))
  have main:∀k,k≤M→uq (eV (yq D A B a b M (u1,v1,w1) (u2,v2,w2) (u3,v3,w3)) (u4,v4,w4) k)∧JV3 (eV (yq D A B a b M (u1,v1,w1) (u2,v2,w2) (u3,v3,w3)) (u4,v4,w4) k)=sum fd (mp fd ((V a).toNat/2 ^ (M-k)) (PV p1 p2 p3)) (mp fd ((V b).toNat/2 ^ (M-k)) (PV r1 r2 r3)):=by
   intro k
   induction k with
   |zero =>
    intro _;refine⟨j4,?_⟩;rw[Nat.sub_zero,hbig a La ha vLa aq,hbig b Lb hb vLb aq];show JV u4 v4 w4=_;rw[e4,J9];exact(gf fd (Q:=none) True.intro).symm
   | succ k ih =>
    intro hk;obtain⟨i3,i4⟩:=ih aq;have hs:=hS k;rw[eV];generalize eV (yq D A B a b M (u1,v1,w1) (u2,v2,w2) (u3,v3,w3)) (u4,v4,w4) k=s at *;obtain⟨d1,d2,_⟩:=hD s hs;obtain⟨d3,d4⟩:=d2 i3;have ba:=(hB (a,M-1-k) ⟨ha,aq⟩).1;have bb:=(hB (b,M-1-k) ⟨hb,aq⟩).1;obtain⟨s1,s2,s3,s4⟩:=GG o1 o2 ((V a).toNat/2 ^ (M-k)) ((V b).toNat/2 ^ (M-k));rw[i4,s1]at d4;rw[wH _ M k aq,wH (V b).toNat M k aq];dsimp only at ba bb;have m2:∀n:Nat,n%2=0∨n%2=1:=Nat.mod_two_eq_zero_or_one;unfold yq
    cases hb1:B (a,M-1-k)
    ·have za:(V a).toNat/2 ^ (M-1-k)%2=0:=(m2 _).resolve_right (fun h=>by rw[ba.2 h]at hb1;cases hb1);rw[za,Nat.add_zero]
     cases hb2:B (b,M-1-k)
     ·have zb:(V b).toNat/2 ^ (M-1-k)%2=0:=(m2 _).resolve_right (fun h=>by rw[bb.2 h]at hb2;cases hb2);rw[zb,Nat.add_zero];exact⟨d3,d4⟩
     ·rw[bb.1 hb2];obtain⟨k1,k2,_⟩:=hA (D s,(u2,v2,w2)) ⟨d1,htwo⟩;obtain⟨k3,k4⟩:=k2 d3 j2;refine⟨k3,?_⟩;show JV3 (A (D s,(u2,v2,w2)))=_;rw[k4,d4,←s3];show sum fd _ (JV u2 v2 w2)=_;rw[e2]
    ·rw[ba.1 hb1]
     cases hb2:B (b,M-1-k)
     ·have zb:(V b).toNat/2 ^ (M-1-k)%2=0:=(m2 _).resolve_right (fun h=>by rw[bb.2 h]at hb2;cases hb2);rw[zb,Nat.add_zero (2*((V b).toNat/2 ^ (M-k)))];obtain⟨k1,k2,_⟩:=hA (D s,(u1,v1,w1)) ⟨d1,hone⟩;obtain⟨k3,k4⟩:=k2 d3 j1;refine⟨k3,?_⟩;show JV3 (A (D s,(u1,v1,w1)))=_;rw[k4,d4,←s2];show sum fd _ (JV u1 v1 w1)=_;rw[e1]
     ·rw[bb.1 hb2];obtain⟨k1,k2,_⟩:=hA (D s,(u3,v3,w3)) ⟨d1,hboth⟩;obtain⟨k3,k4⟩:=k2 d3 j3;refine⟨k3,?_⟩;show JV3 (A (D s,(u3,v3,w3)))=_;rw[k4,d4,←s4];show sum fd _ (JV u3 v3 w3)=_;rw[e3,e1,e2]
  obtain⟨z1,z2⟩:=main M (cR _);obtain⟨z3,z4⟩:=vp z1;refine⟨z3,?_⟩;rw[z4];show JV3 _=_;rw[z2,Nat.sub_self,Nat.pow_zero,Nat.div_one,Nat.div_one]
 refine⟨u,v,o,hu,hv,vv,?_⟩;refine bL Tryz.func159 Tryz.ntmps159 (rs:=[.cell 8 189]) (C5 _ _ _ _ _ _ _ _) ?_;have hal:=ha.1;have hbl:=hb.1;have hxl:=hx.1;have hyl:=hy.1;have hxl':=hx'.1;have hyl':=hy'.1;have z4:List.drop 4 (cI zI)=[]:=aZ rfl;have pl1:=bY hxl hyl c;have pt1:=c7 hxl hyl c;have pl2:=bY hxl' hyl' c';have pt2:=c7 hxl' hyl' c';have wl1:=dR hu1.1 hv1.1 hw1.1;have wt1:=df hu1.1 hv1.1 hw1.1;have wl2:=dR hu2.1 hv2.1 hw2.1;have wt2:=df hu2.1 hv2.1 hw2.1;have wl3:=dR hu3.1 hv3.1 hw3.1;have wt3:=df hu3.1 hv3.1 hw3.1;have wl4:=dR hu4.1 hv4.1 hw4.1;have wt4:=df hu4.1 hv4.1 hw4.1;have wd:(cV zI zI zI).drop 12=[]:=kB rfl rfl rfl;have wl:(cV zI zI zI).length=12:=rfl;have pd:(cP zI zI false).drop 9=[]:=nP rfl rfl _;have pl:(cP zI zI false).length=9:=rfl;simp[go_sem,hal,hbl,ae hal,ae hbl,pl1,pt1,pl2,pt2];refine ep [0,3] [1,2,4,5,6,7,8,9] [0,3] (.alt (bt 1 (.alt (bt 2 (.alt (bx 4 (.alt (bx 5 (.alt (a_ [6,7,8,9]) (a_ [7,6,8,9]))) (.alt (bx 6 (.alt (a_ [5,7,8,9]) (a_ [7,5,8,9]))) (bx 7 (.alt (a_ [5,6,8,9]) (a_ [6,5,8,9])))))) (.alt (bt 6 (.alt (bx 4 (.alt (a_ [5,7,8,9]) (a_ [7,5,8,9]))) (bt 7 (a_ [4,5,8,9])))) (bt 7 (.alt (bx 4 (.alt (a_ [5,6,8,9]) (a_ [6,5,8,9]))) (bt 6 (a_ [4,5,8,9]))))))) (.alt (bt 6 (.alt (bt 2 (.alt (bx 4 (.alt (a_ [5,7,8,9]) (a_ [7,5,8,9]))) (bt 7 (a_ [4,5,8,9])))) (bt 7 (bt 2 (a_ [4,5,8,9]))))) (bt 7 (.alt (bt 2 (.alt (bx 4 (.alt (a_ [5,6,8,9]) (a_ [6,5,8,9]))) (bt 6 (a_ [4,5,8,9])))) (bt 6 (bt 2 (a_ [4,5,8,9])))))))) (.alt (bt 6 (.alt (bt 1 (.alt (bt 2 (.alt (bx 4 (.alt (a_ [5,7,8,9]) (a_ [7,5,8,9]))) (bt 7 (a_ [4,5,8,9])))) (bt 7 (bt 2 (a_ [4,5,8,9]))))) (bt 7 (bt 1 (bt 2 (a_ [4,5,8,9])))))) (bt 7 (.alt (bt 1 (.alt (bt 2 (.alt (bx 4 (.alt (a_ [5,6,8,9]) (a_ [6,5,8,9]))) (bt 6 (a_ [4,5,8,9])))) (bt 6 (bt 2 (a_ [4,5,8,9]))))) (bt 6 (bt 1 (bt 2 (a_ [4,5,8,9])))))))) ⟨[(4,.ptr 0 0 0 1),(6,.ptr 64 0 0 1),(8,.ptr 128 0 0 1),(9,.ptr 352 0 0 1),(10,.ptr 384 0 0 1)],[(384,⟨243,12,[cV u2 v2 w2]⟩),(352,⟨243,12,[cV u1 v1 w1]⟩),(128,⟨189,9,[cP zI zI false]⟩),(64,⟨96,4,[cI b]⟩),(0,⟨96,4,[cI a]⟩)],9000⟩ (k:=10) ?h3 ?hq
 case h3 =>
  intro G hG
  have hW:∀(fr:Fr)(hp:Hp),(fv 4 fr=.ptr 0 0 0 1∧fv 6 fr=.ptr 64 0 0 1∧fv 8 fr=.ptr 128 0 0 1∧fv 9 fr=.ptr 352 0 0 1∧fv 10 fr=.ptr 384 0 0 1∧lk 384 hp=some ⟨243,12,[cV u2 v2 w2]⟩∧lk 352 hp=some ⟨243,12,[cV u1 v1 w1]⟩∧lk 128 hp=some ⟨189,9,[cP zI zI false]⟩∧lk 64 hp=some ⟨96,4,[cI b]⟩∧lk 0 hp=some ⟨96,4,[cI a]⟩)→G fr hp:=by
   rintro fr hp⟨q0,q1,q2,q3,q4,q5,q6,q7,q8,q9⟩;exact hG _ _ rY
  simp[go_sem,hal,hbl,ae hal,ae hbl,pl1,pt1,pl2,pt2,wl1,wt1,wl2,wt2,wd,z4,dM]
  repeat' first|exact hW _ _ ⟨rfl,rfl,rfl,rfl,rfl,rfl,rfl,rfl,rfl,rfl⟩|(refine hW _ _ ?_;simp[fv,lk];done)|refine ag t1 (dx _ _ _) ?_|refine ag t2 (dx _ _ _) ?_|refine ag g1 (dx _ _ _) ?_|refine ag g2 (dx _ _ _) ?_|apply And.intro|simp[go_sem,hal,hbl,ae hal,ae hbl,pl1,pt1,pl2,pt2,wl1,wt1,wl2,wt2,wd,z4,dM]
 case hq =>
  simp[go_sem,wl1,wt1,wl2,wt2];refine ag f3 (oV _ _ _ _ _ _) ?_;simp[go_sem,wl3,wt3,wd];refine ag jH aw ?_;simp[go_sem];refine ag f4 (dx _ _ _) ?_;simp[go_sem,wl4,wt4,wd];refine b7 [0,2] [(1,[]),(3,[]),(4,[5,6])] 3 (k:=7) ?_;intro G hG;simp[go_sem,hal,hbl,ae hal,ae hbl];refine ag f5 (aS _) ?_;simp[go_sem,hal,hbl,ae hal,ae hbl];refine ag f6 (aS _) ?_;have w0:IntKind.i64.wrap ((M:Int)-1)=(M:Int)-1:=by rw[IntWalk.i64_in _ aq]
  have hMi:max (La:Int) (Lb:Int)=(M:Int):=aq;have hMx:(if La<Lb then(Lb:Int)else(La:Int))=(M:Int):=by split<;>omega
  simp[go_sem,hMi,w0];refine hG _ _ ?_;generalize hSS:eV (yq D A B a b M (u1,v1,w1) (u2,v2,w2) (u3,v3,w3)) (u4,v4,w4)=S at *;have hS0:S 0=(u4,v4,w4):=by rw[←hSS];rfl
  refine ar (fun k:Nat=>⟨[(4,.ptr 0 0 0 1),(6,.ptr 64 0 0 1),(8,.ptr 128 0 0 1),(9,.ptr 352 0 0 1),(10,.ptr 384 0 0 1),(11,.ptr 9096 0 0 1),(12,.ptr 9224 0 0 1),(13,.d (.int .i64 ((M:Int)-1-(k:Int))))],[(9224,⟨243,12,[cV (S k).1 (S k).2.1 (S k).2.2]⟩),(9096,⟨243,12,[cV u3 v3 w3]⟩),(384,⟨243,12,[cV u2 v2 w2]⟩),(352,⟨243,12,[cV u1 v1 w1]⟩),(128,⟨189,9,[cP zI zI false]⟩),(64,⟨96,4,[cI b]⟩),(0,⟨96,4,[cI a]⟩)],20000⟩)
   (fun k=>k≤M) (fun k=>M-k) 0 aq (by
    rw[hS0];simp[aA,ai,fv,lk,AV.low,AV.low1]
    and_intros<;>first|exact rk _ _ _ _|exact bU _ _|exact lM _ _ _ _|(rw[hMx,w0])) ?_
  intro k hk;obtain⟨hs1,hs2,hs3⟩:=hS k;have sl:=dR hs1.1 hs2.1 hs3.1;have st:=df hs1.1 hs2.1 hs3.1;have sd:=kB hs1.1 hs2.1 hs3.1;simp only[go_sem,Nat.reduceEqDiff,Nat.reduceAdd,Nat.reduceLT,↓reduceIte];by_cases h4:k<M
  ·refine⟨fun h=>?_,fun h=>absurd aq h⟩;have hsn:S (k+1)=yq D A B a b M (u1,v1,w1) (u2,v2,w2) (u3,v3,w3) k (S k):=by rw[←hSS];rfl
   have wq:IntKind.i64.wrap ((M:Int)-1-(k:Int)-1)=(M:Int)-1-((k+1:Nat):Int):=by rw[IntWalk.i64_in _ aq];omega
   obtain⟨d1,_,d2⟩:=hD (S k) ⟨hs1,hs2,hs3⟩;have dl:=dR d1.1.1 d1.2.1.1 d1.2.2.1;have dt:=df d1.1.1 d1.2.1.1 d1.2.2.1;have dd:=kB d1.1.1 d1.2.1.1 d1.2.2.1;have e1:=(hB (a,M-1-k) ⟨ha,aq⟩).2;have e2:=(hB (b,M-1-k) ⟨hb,aq⟩).2;have ei:(((M-1-k:Nat)):Int)=(M:Int)-1-(k:Int):=aq;simp only[ei]at e1 e2;unfold yq at hsn;simp[go_sem,sl,st];refine ag d2 (fC _ _ _) ?_;simp[go_sem,dl,dt,sl,sd];refine b7 [0,1,3,4] [(2,[]),(5,[6,7])] 2 (k:=8) ?_;intro G hG;simp[go_sem,hal,hbl,ae hal,ae hbl];refine ag e1 (AB _ _) ?_;simp[go_sem,hal,hbl,ae hal,ae hbl];refine ag e2 (AB _ _) ?_;simp[go_sem];refine hG _ _ ?_
   cases hb1:B (a,M-1-k)
   ·cases hb2:B (b,M-1-k)
    ·simp only[hb1,hb2,if_true,if_false,Bool.false_eq_true]at hsn;simp[go_sem,hb1,hb2,dl,dt,wl1,wt1,wl2,wt2,wl3,wt3];simp[go_sem,wq];refine ao (k+1) aq aq ?_;rw[hsn];simp[aA,ai,fv,lk,AV.low,AV.low1];and_intros<;>first|exact rk _ _ _ _|exact bU _ _|exact lM _ _ _ _|omega
    ·simp only[hb1,hb2,if_true,if_false,Bool.false_eq_true]at hsn;simp[go_sem,hb1,hb2,dl,dt,wl1,wt1,wl2,wt2,wl3,wt3];obtain⟨m1,_,m2⟩:=hA (D (S k),(u2,v2,w2)) ⟨d1,htwo⟩;refine ag m2 (oV _ _ _ _ _ _) ?_;have ml:=dR m1.1.1 m1.2.1.1 m1.2.2.1;have mt:=df m1.1.1 m1.2.1.1 m1.2.2.1;have md:=kB m1.1.1 m1.2.1.1 m1.2.2.1;generalize A (D (S k),(u2,v2,w2))=z at *;simp[go_sem,ml,mt,dd,dl,wq];refine ao (k+1) aq aq ?_;rw[hsn];simp[aA,ai,fv,lk,AV.low,AV.low1];and_intros<;>first|exact rk _ _ _ _|exact bU _ _|exact lM _ _ _ _|omega
   ·cases hb2:B (b,M-1-k)
    ·simp only[hb1,hb2,if_true,if_false,Bool.false_eq_true]at hsn;simp[go_sem,hb1,hb2,dl,dt,wl1,wt1,wl2,wt2,wl3,wt3];obtain⟨m1,_,m2⟩:=hA (D (S k),(u1,v1,w1)) ⟨d1,hone⟩;refine ag m2 (oV _ _ _ _ _ _) ?_;have ml:=dR m1.1.1 m1.2.1.1 m1.2.2.1;have mt:=df m1.1.1 m1.2.1.1 m1.2.2.1;have md:=kB m1.1.1 m1.2.1.1 m1.2.2.1;generalize A (D (S k),(u1,v1,w1))=z at *;simp[go_sem,ml,mt,dd,dl,wq];refine ao (k+1) aq aq ?_;rw[hsn];simp[aA,ai,fv,lk,AV.low,AV.low1];and_intros<;>first|exact rk _ _ _ _|exact bU _ _|exact lM _ _ _ _|omega
    ·simp only[hb1,hb2,if_true,if_false,Bool.false_eq_true]at hsn;simp[go_sem,hb1,hb2,dl,dt,wl1,wt1,wl2,wt2,wl3,wt3];obtain⟨m1,_,m2⟩:=hA (D (S k),(u3,v3,w3)) ⟨d1,hboth⟩;refine ag m2 (oV _ _ _ _ _ _) ?_;have ml:=dR m1.1.1 m1.2.1.1 m1.2.2.1;have mt:=df m1.1.1 m1.2.1.1 m1.2.2.1;have md:=kB m1.1.1 m1.2.1.1 m1.2.2.1;generalize A (D (S k),(u3,v3,w3))=z at *;simp[go_sem,ml,mt,dd,dl,wq];refine ao (k+1) aq aq ?_;rw[hsn];simp[aA,ai,fv,lk,AV.low,AV.low1];and_intros<;>first|exact rk _ _ _ _|exact bU _ _|exact lM _ _ _ _|omega
  ·refine⟨fun h=>absurd aq h4,fun h=>?_⟩;have hkl:k=M:=aq;subst hkl;simp[go_sem,sl,st];refine ag f7 (fC _ _ _) ?_;have ol:=bY hu.1 hv.1 o;have ot:=c7 hu.1 hv.1 o;simp[go_sem,ol,ot,pl,pd,ah];exact oU rfl
def jI:List Nat:=[84,97,112,84,119,101,97,107]
theorem yr(t b:List Nat):(fi t b).length=32∧bytes (fi t b):=⟨bc _,iL _⟩
theorem AC(b:List Nat)(d:DV):∀v,v∈[AV.agg (cb b),AV.d d]→v.deep:=by
 intro v hv;simp at hv;rcases hv with rfl|rfl;exact dF _;trivial
theorem C6(inner root:List Nat)(hi:inner.length=32)(hr:root.length≤1000):∃(t:List Int)(ok:Bool),Wn 4 t∧((iV (fi jI (inner++root))<115792089237316195423570985008687907852837564279074904382605163141518161494337→ok=true∧V t=(iV (fi jI (inner++root)):Int))∧(¬iV (fi jI (inner++root))<115792089237316195423570985008687907852837564279074904382605163141518161494337→ok=false∧t=zI))∧ay Tryz.prog 166 [.agg (cb inner),.d (nb root)] (fun r=>r=.tup [.agg (cI t),.d (.bool ok)]):=by
 obtain⟨t,ok,ht,vt,f1⟩:=Ax (fi jI (inner++root)) (yr _ _).1 (yr _ _).2;refine⟨t,ok,ht,vt,?_⟩;refine bL Tryz.func166 Tryz.ntmps166 (rs:=[.cell 4 96,.tmp 5]) (AC _ _) ?_;have htl:=ht.1;have hz:List.drop 4 (cI zI)=[]:=aZ rfl;simp[go_sem,am,hi,av hi];refine bN [0,160] (GF inner root hi aq) rfl (aj (.one (ak (iG (rows:=[[.sub 0 0 0 1 32 32 1],[.d (nb root)]]) rfl aw rfl (RowsR.cons (.cons (ef rfl aw hi) .nil) (RowsR.cons (.cons (.d _) .nil) .nil)) rfl (by intro r hr;simp at hr;rcases hr with rfl|rfl<;>rfl)))) aD) ?_;simp[go_sem,aE];refine ag (gv jI (.str [84,97,112,84,119,101,97,107]) rfl (inner++root) (by simp[jI]) (by rw[b_];omega)) a9 ?_;simp[go_sem];refine ag f1 (cC _) ?_;simp[go_sem,htl,ae htl,hz,ah];exact nN rfl
noncomputable def liftPt(n:Nat):Pt pP:=some (P0 pP (n:Int),P0 pP (if oa n%2=0 then oa n else(0-oa n)%115792089237316195423570985008687907853269984665640564039457584007908834671663))
noncomputable def turnQ(n t:Nat):Pt pP:=sum fd (mp fd 1 (liftPt n)) (mp fd t (PV gX gY false))
theorem Tm(R p:Int):(0-R)%p*((0-R)%p)%p=R*R%p:=by
 rw[←Int.mul_emod];congr 1;rw[Int.zero_sub,Int.neg_mul_neg]
theorem To{x:List Int}{n:Nat}(hx:V x=n):((((FV x*FV x*FV x+7:F)).val:Nat):Int)=mY n:=by
 have e7:(((7:F).val:Nat):Int)=7%pZ:=by
  show((7%pP:Nat):Int)=_;rw[Int.natCast_emod,jl];rfl
 rw[Gz,r7,r7,Int.natCast_emod,Int.natCast_add,Int.natCast_emod,Int.natCast_mul,Int.natCast_emod,Int.natCast_mul,ek,e7,jl,hx];unfold mY;show _=((n:Int)*n*n+7)%pZ;rw[←Int.mul_emod (n:Int) n,←Int.mul_emod ((n:Int)*n) n,←Int.add_emod]
theorem OA{n:Nat}{x y:List Int}{c:Bool}(h:Kv n x y c true):rm n∧c=false∧jm x y c∧PV x y c=liftPt n:=by
 rcases h with ⟨_,h,_⟩|⟨h1,_,rfl,hx,hy⟩
 ·cases h
 have hpos:(0:Int)<pZ:=by decide
 have hyl:V y<pZ:=by
  rw[hy]
  split
  ·exact Int.emod_lt_of_pos _ hpos
  ·exact Int.emod_lt_of_pos _ hpos
 have hon:FV y*FV y=FV x*FV x*FV x+7:=by
  refine ui ?_;rw[To hx,r7,Int.natCast_emod,Int.natCast_mul,ek,jl,←Int.mul_emod];have hc:mY n%pZ=mY n:=by unfold mY;exact Int.emod_emod _ _
  have hR:oa n*oa n%pZ=mY n:=h1.2.trans hc;rw[hy]
  split
  ·exact hR
  ·rw[←hR];exact Tm _ _
 refine⟨h1,rfl,.inr ⟨rfl,by rw[hx];exact h1.1,hyl,hon⟩,?_⟩;show some (P0 pP (V x),P0 pP (V y))=_;rw[hx,hy];rfl
theorem OB{n:Nat}{x y:List Int}{c:Bool}(h:Kv n x y c false):¬rm n:=by
 rcases h with ⟨h,_⟩|⟨_,h,_⟩
 ·exact h
 ·cases h
def Kz(n t:Nat)(k:List Nat)(o:Bool)(e:Int):Prop :=
 ((¬(rm n∧t<115792089237316195423570985008687907852837564279074904382605163141518161494337)∨turnQ n t=none)∧e=1∧k=z32∧o=false) ∨
 ((rm n∧t<115792089237316195423570985008687907852837564279074904382605163141518161494337)∧e=0∧∃x y,turnQ n t=some (x,y)∧iV k=x.val∧(o=true↔y.val%2=1))
theorem P5{x:List Int}(hx:Wn 4 x)(h:V x<pZ):(V x).toNat=(FV x).val:=by
 have e:=ek x;have h0:=(j8 hx).1;rw[Int.emod_eq_of_lt h0 h]at e;omega
def E1(e:Int):Prop:=e=0∨e=1
theorem lO{Q:AV→Prop}{st:St}{b:List Nat}{o:Bool}{e:Int}(hq:Q (.tup [.agg (cb b),.d (.bool o),.d (.int .i64 e)])):dy Q (.tup [.agg (cb b),.d (.bool o),.d (.int .i64 e)]) st :=
 aa (by
  intro c hc;simp at hc;rcases hc with rfl|rfl|rfl
  ·exact .inr ⟨_,rfl,cg _⟩
  ·exact .inl trivial
  ·exact .inl trivial) hq
theorem OC(inner root:List Nat)(hi:inner.length=32)(hib:bytes inner)(hr:root.length≤1000):∃(k:List Nat)(o:Bool)(e:Int),k.length=32∧bytes k∧E1 e∧Kz (iV inner) (iV (fi jI (inner++root))) k o e∧ay Tryz.prog 138 [.agg (cb inner),.d (nb root)] (fun r=>r=.tup [.agg (cb k),.d (.bool o),.d (.int .i64 e)]):=by
 obtain⟨x,y,c,ok,hx,hy,vl,f1⟩:=Az inner hi hib;obtain⟨t,ok2,ht,vt,f2⟩:=C6 inner root hi hr;obtain⟨qx,qy,qc,hqx,hqy,vq,f4⟩:=EP [1,0,0,0] t x y gX gY c false (jF ⟨aq,aq⟩) ht hx hy WM WN;obtain⟨kb,kl,kbb,vk,f5⟩:=wG qx qy qc hqx hqy;obtain⟨od,vo,f6⟩:=EL qx qy qc hqx hqy;generalize hT:iV (fi jI (inner++root))=T at *;have zb:bytes z32:=fun x hx=>by simp[z32]at hx;omega
 have pl:=bY hx.1 hy.1 c;have pt:=c7 hx.1 hy.1 c;have pd:(cP zI zI false).drop 9=[]:=nP rfl rfl _;have pl0:(cP zI zI false).length=9:=rfl;have ql:=bY hqx.1 hqy.1 qc;have qt:=c7 hqx.1 hqy.1 qc;have qb:=Aw hqx.1 hqy.1 qc;have qg:=C0 hqx.1 hqy.1 qc;have htl:=ht.1;have hz:List.drop 4 (cI zI)=[]:=aZ rfl;have zd:List.drop 32 (cb z32)=[]:=gW rfl;have zt:List.take 32 (cb z32)=cb z32:=av rfl
 cases ok
 ·refine⟨z32,false,1,rfl,zb,.inr rfl,.inl ⟨.inl (fun h=>OB vl h.1),rfl,rfl,rfl⟩,?_⟩;refine bL Tryz.func138 Tryz.ntmps138 (rs:=[.cell 4 29,.tmp 5,.tmp 6]) (AC _ _) ?_;simp[go_sem,am,hi,av hi];refine ag f1 (cC _) ?_;simp[go_sem,pl,pt,pd,pl0,zd,zt,am,ah];exact lO rfl
 ·cases ok2
  ·refine⟨z32,false,1,rfl,zb,.inr rfl,.inl ⟨.inl (fun h=>absurd (vt.1 h.2).1 (by decide)),rfl,rfl,rfl⟩,?_⟩;refine bL Tryz.func138 Tryz.ntmps138 (rs:=[.cell 4 29,.tmp 5,.tmp 6]) (AC _ _) ?_;simp[go_sem,am,hi,av hi];refine ag f1 (cC _) ?_;simp[go_sem,am,hi,av hi,pl,pt,pd,pl0];refine ag f2 (AC _ _) ?_;simp[go_sem,htl,ae htl,hz,zd,zt,am,ah];exact lO rfl
  ·obtain⟨k1,k2,k3,k4⟩:=OA vl
   have hlt:T<115792089237316195423570985008687907852837564279074904382605163141518161494337:=by
    by_cases h:T<115792089237316195423570985008687907852837564279074904382605163141518161494337
    ·exact h
    ·exact absurd (vt.2 h).1 (by decide)
   obtain⟨m1,m2⟩:=vq k3 Ox;have vT:(V t).toNat=T:=by rw[(vt.1 hlt).2];exact Int.toNat_natCast _
   have v1:(V [1,0,0,0]).toNat=1:=by simp[V]
   rw[k4,vT,v1]at m2;have hQ:PV qx qy qc=turnQ (iV inner) T:=m2
   cases qc
   ·have hp:=m1;rcases hp with ⟨hb,_⟩|⟨_,hb1,hb2,_⟩
    ·cases hb
    have vR:Kz (iV inner) T kb (!od) 0:=by
     refine .inr ⟨⟨k1,hlt⟩,rfl,FV qx,FV qy,hQ.symm,by rw[vk m1];exact P5 hqx hb1,?_⟩;have e:=P5 hqy hb2;have hy0:=(j8 hqy).1;have ho:=vo m1
     cases od
     ·have:¬V qy%2=0:=fun h=>Bool.noConfusion (ho.2 ⟨rfl,h⟩);exact⟨fun _=>aq,fun _=>rfl⟩
     ·have:=(ho.1 rfl).2;exact⟨fun h=>Bool.noConfusion h,fun h=>aq⟩
    refine⟨kb,!od,0,kl,kbb,.inl rfl,vR,?_⟩;refine bL Tryz.func138 Tryz.ntmps138 (rs:=[.cell 4 29,.tmp 5,.tmp 6]) (AC _ _) ?_;simp[go_sem,am,hi,av hi];refine ag f1 (cC _) ?_;simp[go_sem,am,hi,av hi,pl,pt,pd,pl0];refine ag f2 (AC _ _) ?_;simp[go_sem,htl,ae htl,hz];refine ep [1,2] [0,3,4,5,6] [1,2] (.alt (bt 0 (.alt (bt 3 (.alt (a_ [4,5,6]) (bt 5 (a_ [4,6])))) (bt 5 (bt 3 (a_ [4,6]))))) (bt 5 (bt 0 (bt 3 (a_ [4,6]))))) ⟨[(4,.ptr 32 0 0 1),(10,.ptr 960 0 0 1)],[(960,⟨189,9,[cP qx qy false]⟩),(32,⟨29,32,[cb z32]⟩)],5000⟩ (k:=7) ?h3 ?hq
    case h3 =>
     intro G hG
     have hW:∀(fr:Fr)(hp:Hp),(fv 4 fr=.ptr 32 0 0 1∧fv 10 fr=.ptr 960 0 0 1∧lk 960 hp=some ⟨189,9,[cP qx qy false]⟩∧lk 32 hp=some ⟨29,32,[cb z32]⟩)→G fr hp:=by
      rintro fr hp⟨q0,q1,q2,q3⟩;exact hG _ _ rY
     simp[go_sem,htl,ae htl,pl,pt,ql,qt,pd,pl0,hz,dM]
     repeat' first|exact hW _ _ ⟨rfl,rfl,rfl,rfl⟩|(refine hW _ _ ?_;simp[fv,lk];done)|refine ag (eQ 1) a9 ?_|refine ag yo aw ?_|refine ag f4 (C5 _ _ _ _ _ _ _ _) ?_|apply And.intro|simp[go_sem,htl,ae htl,pl,pt,ql,qt,pd,pl0,hz,dM]
    case hq =>
     simp[go_sem,qb,qg,ql];refine ep [0,2] [1,3,4,5,6,7] [0,2] (bt 1 (bx 3 (.alt (a_ [4,5,6,7]) (a_ [5,4,6,7])))) ⟨[(4,.ptr 32 0 0 1),(5,.d (.bool (!od))),(6,.d (.int .i64 0))],[(32,⟨29,32,[cb kb]⟩)],9000⟩ (k:=8) ?h3 ?hq
     case h3 =>
      intro G hG
      have hW:∀(fr:Fr)(hp:Hp),(fv 4 fr=.ptr 32 0 0 1∧fv 5 fr=.d (.bool (!od))∧fv 6 fr=.d (.int .i64 0)∧lk 32 hp=some ⟨29,32,[cb kb]⟩)→G fr hp:=by
       rintro fr hp⟨q0,q1,q2,q3⟩;exact hG _ _ rY
      simp[go_sem,ql,qt,kl,am,av kl,zd,dM]
      repeat' first|exact hW _ _ ⟨rfl,rfl,rfl,rfl⟩|(refine hW _ _ ?_;simp[fv,lk];done)|refine ag f5 (dx _ _ _) ?_|refine ag f6 (dx _ _ _) ?_|apply And.intro|simp[go_sem,ql,qt,kl,am,av kl,zd,dM]
     case hq =>
      simp[go_sem,am,kl,av kl,ah];exact lO rfl
   ·refine⟨z32,false,1,rfl,zb,.inr rfl,.inl ⟨.inr hQ.symm,rfl,rfl,rfl⟩,?_⟩;refine bL Tryz.func138 Tryz.ntmps138 (rs:=[.cell 4 29,.tmp 5,.tmp 6]) (AC _ _) ?_;simp[go_sem,am,hi,av hi];refine ag f1 (cC _) ?_;simp[go_sem,am,hi,av hi,pl,pt,pd,pl0];refine ag f2 (AC _ _) ?_;simp[go_sem,htl,ae htl,hz];refine ep [1,2] [0,3,4,5,6] [1,2] (.alt (bt 0 (.alt (bt 3 (.alt (a_ [4,5,6]) (bt 5 (a_ [4,6])))) (bt 5 (bt 3 (a_ [4,6]))))) (bt 5 (bt 0 (bt 3 (a_ [4,6]))))) ⟨[(4,.ptr 32 0 0 1),(10,.ptr 960 0 0 1)],[(960,⟨189,9,[cP qx qy true]⟩),(32,⟨29,32,[cb z32]⟩)],5000⟩ (k:=7) ?h3 ?hq
    case h3 =>
     intro G hG
     have hW:∀(fr:Fr)(hp:Hp),(fv 4 fr=.ptr 32 0 0 1∧fv 10 fr=.ptr 960 0 0 1∧lk 960 hp=some ⟨189,9,[cP qx qy true]⟩∧lk 32 hp=some ⟨29,32,[cb z32]⟩)→G fr hp:=by
      rintro fr hp⟨q0,q1,q2,q3⟩;exact hG _ _ rY
     simp[go_sem,htl,ae htl,pl,pt,ql,qt,pd,pl0,hz,dM]
     repeat' first|exact hW _ _ ⟨rfl,rfl,rfl,rfl⟩|(refine hW _ _ ?_;simp[fv,lk];done)|refine ag (eQ 1) a9 ?_|refine ag yo aw ?_|refine ag f4 (C5 _ _ _ _ _ _ _ _) ?_|apply And.intro|simp[go_sem,htl,ae htl,pl,pt,ql,qt,pd,pl0,hz,dM]
    case hq =>
     simp[go_sem,qb,qg,ql,zd,zt,am,ah];exact lO rfl
open Go.Am Go.Sha
def cM(inner:List Nat)(ps:List (List Nat))(x:List Nat):AV:=.agg (aL inner (.d (cH ps)) (.d (nb x)))
theorem cN(inner:List Nat)(ps:List (List Nat))(x:List Nat):∀v,v∈[cM inner ps x]→v.deep:=by
 intro v hv;simp at hv;subst hv;simp[AV.deep,aL,cM];intro c hc;rcases hc with hc|rfl|rfl
 ·exact cg _ _ hc
 ·trivial
 ·trivial
theorem OD(k:List Nat)(o:Bool)(e:Int):(AV.tup [.agg (cb k),.d (.bool o),.d (.int .i64 e)]).flat:=by
 intro c hc;simp at hc;rcases hc with rfl|rfl|rfl
 ·refine .inr ⟨_,rfl,fun x hx=>?_⟩;rw[cb,List.mem_map]at hx;obtain⟨y,_,rfl⟩:=hx
  trivial
 ·exact .inl trivial
 ·exact .inl trivial
theorem AD{l:List Nat}(h:l.length=32)(r:List AV):List.take 32 (cb l++r)=cb l:=by
 rw[List.take_append_of_le_length (by rw[am,h];exact cR _),av h]
theorem rp{inner:List Nat}(hi:inner.length=32)(a b:AV):List.take 34 (cb inner++[a,b])=cb inner++[a,b]:=cA (by simp[am,hi])
theorem C7(ps:List (List Nat)):∀h:List Nat,h.length=32→(mI ps h).length=32:=by
 induction ps with
 |nil=>exact fun h hh=>hh
 |cons p r ih=>exact fun h hh=>ih _ (rM h p)
def AE(inner:List Nat)(ps:List (List Nat))(x k:List Nat)(o:Bool)(e:Int):Prop :=
 (¬(ps.length≤8∧x.length≤1000)∧e=1∧k=z32∧o=false)∨((ps.length≤8∧x.length≤1000)∧Kz (iV inner) (iV (fi jI (inner++mI ps (jU x)))) k o e)
theorem GH(inner:List Nat)(ps:List (List Nat))(x:List Nat)(hi:inner.length=32)(hib:bytes inner)(hp32:∀p,p∈ps→p.length=32)(hps:ps.length≤1000)(hx:x.length≤100000):∃(k:List Nat)(o:Bool)(e:Int),k.length=32∧bytes k∧E1 e∧ay Tryz.prog 92 [cM inner ps x] (fun r=>r=.tup [.agg (cb k),.d (.bool o),.d (.int .i64 e)])∧(e=0→ps.length≤8∧x.length≤1000)∧AE inner ps x k o e:=by
 have hR:=C7 ps (jU x) (qL x);have f1:=Nl inner ps x hi hp32 hps hx;unfold AE;generalize mI ps (jU x)=R at *;obtain⟨k,o,e,hk,hkb,he,hT,f2⟩:=OC inner R hi hib aq;have zb:bytes z32:=fun x hx=>by simp[z32]at hx;omega
 have zd:List.drop 32 (cb z32)=[]:=gW rfl;have zt:List.take 32 (cb z32)=cb z32:=av rfl;by_cases h1:8<ps.length
 ·refine⟨z32,false,1,rfl,zb,.inr rfl,?_,fun h=>aq,.inl ⟨aq,rfl,rfl,rfl⟩⟩;refine bL Tryz.func92 Tryz.ntmps92 (rs:=[.cell 2 29,.tmp 3,.tmp 4]) (cN _ _ _) ?_;have i1:(8:Int)<(ps.length:Int):=aq;simp[go_sem,cM,aL,mK hi,mJ hi,cH,nb,i1,zd,zt,am,ah];exact lO rfl
 by_cases h2:1000<x.length
 ·refine⟨z32,false,1,rfl,zb,.inr rfl,?_,fun h=>aq,.inl ⟨aq,rfl,rfl,rfl⟩⟩;refine bL Tryz.func92 Tryz.ntmps92 (rs:=[.cell 2 29,.tmp 3,.tmp 4]) (cN _ _ _) ?_;have i1:¬(8:Int)<(ps.length:Int):=aq;have i2:(1000:Int)<(x.length:Int):=aq;simp[go_sem,cM,aL,mK hi,mJ hi,cH,nb,i1,i2,zd,zt,am,ah];exact lO rfl
 refine⟨k,o,e,hk,hkb,he,?_,fun _=>aq,.inr ⟨aq,hT⟩⟩;refine bL Tryz.func92 Tryz.ntmps92 (rs:=[.cell 2 29,.tmp 3,.tmp 4]) (cN _ _ _) ?_;have i1:¬(8:Int)<(ps.length:Int):=aq;have i2:¬(1000:Int)<(x.length:Int):=aq;simp[go_sem,cM,aL,mK hi,mJ hi,cH,nb,i1,i2,hi,rp hi];refine ag (by simpa only[aL,cH,nb]using f1) (by simpa only[cM,aL,cH,nb]using cN inner ps x) ?_;simp[go_sem,am,hR,av hR,zd];refine ep [0,1,2] [3,7,8,9] [0,1,2,4,5,6] (.step 3 [4,5,6] true (a_ [7,8,9])) ⟨[(2,.ptr 32 0 0 1),(3,.d (.bool o)),(4,.d (.int .i64 e))],[(32,⟨29,32,[cb k]⟩)],9000⟩ (k:=10) ?h3 ?hq
 case h3 =>
  intro G hG
  have hW:∀(fr:Fr)(hp:Hp),(fv 2 fr=.ptr 32 0 0 1∧fv 3 fr=.d (.bool o)∧fv 4 fr=.d (.int .i64 e)∧lk 32 hp=some ⟨29,32,[cb k]⟩)→G fr hp:=by
   rintro fr hp⟨q0,q1,q2,q3⟩;exact hG _ _ rY
  simp[go_sem,aL,mK hi,mJ hi,am,hi,hR,hk,av hi,av hR,av hk,zd,AD hi,dM]
  repeat' first|exact hW _ _ ⟨rfl,rfl,rfl,rfl⟩|(refine hW _ _ ?_;simp[fv,lk];done)|refine iT f2 rfl (aj (.deep (dF _)) (aj (.one (ak (ef rfl trivial hR))) aD)) (OD _ _ _) ?_|apply And.intro|simp[go_sem,aL,mK hi,mJ hi,am,hi,hR,hk,av hi,av hR,av hk,zd,AD hi,dM]
 case hq =>
  simp[go_sem,am,hk,av hk,ah];exact lO rfl
end Go.Proofs.YtmfnimjnneflnaaGreat
namespace Go.Sha
open Go.Proofs.YtmfnimjnneflnaaGreat
structure RnF where
 t:Tn
 n:Nat
 coins:List (Nat×List Nat)
 inner:List Nat
 path:List (List Nat)
 script:List Nat
 annex:List Nat
end Go.Sha
namespace Go.Proofs.YtmfnimjnneflnaaGreat
open Go.Am Go.Sha
def gA(F:RnF):List AV:=eS F.t (F.n:Int) F.coins++(aL F.inner (.d (cH F.path)) (.d (nb F.script))++[.d (nb F.annex)])
theorem Tq{C:List AV}(h:∀v,v∈C→∃d,v=.d d)(hl:C.length=41):iC C :=
 ⟨fun v hv ρ=>by obtain⟨d,rfl⟩:=h v hv;rfl,fun v hv n=>by obtain⟨d,rfl⟩:=h v hv;trivial,hl⟩
theorem eo{F:RnF}(hi:F.inner.length=32):iC (gA F):=by
 refine Tq (fun v hv=>?_) (by simp[gA,eS,aL,am,hi]);simp only[gA,eS,aL,cL,et,List.mem_nil_iff,or_false]at hv;rcases hv with (rfl|rfl|rfl|rfl|rfl|rfl)|(h|rfl|rfl)|rfl
 all_goals first|exact⟨_,rfl⟩|skip
 obtain⟨x,_,rfl⟩:=List.mem_map.1 h;exact⟨_,rfl⟩
theorem P6(F:RnF)(hi:F.inner.length=32)(i:Ip)(hn:F.t.ins[F.n]?=some i)(hio:i.ok)(r:Rn)(J:List Bool)(H:Nat):cX Tryz.prog 3 (aH (gA F)) 230 ⟨r,J,H⟩ [.ptr 0 0 0 1] (fun v s'=>v=.d (.int .i64 (i.seq:Int))∧s'=⟨r,J,H⟩):=by
 refine al Tryz.func230 (by kernel_rfl) rfl Tryz.ntmps230 (rs:=[.tmp 2]) rfl (dV rfl) (by decide) ?_;rw[bD];have h0:F.n<F.t.ins.length:=(ci.1 hn).1;have h0i:(F.n:Int)<(F.t.ins.length:Int):=aq;have hg:F.t.ins[F.n]=i:=Option.some.inj ((cm h0).symm.trans hn);have w1:IntKind.i64.wrap (i.seq:Int)=(i.seq:Int):=IntWalk.i64_in _ (by have:=hio.2.2;omega);simp[go_sem];refine b7 [0,1,2,3,4,5,6,7,8,9,10,11,12,13,14,15] [] 0 (k:=16) ?_;intro G hG;simp only[aH,bF,bE,id,gA,eS]
 have h33:∀a b c:DV,(List.map AV.d (cd i.hash)++[AV.d a,AV.d b,AV.d c])[33]?=some (AV.d b):=fun a b c=>by
  rw[dz (by simp[ji,hio.1])];simp[ji,hio.1]
 simp[go_sem,hn,h0,h0i,eI,hg,h33,w1];refine hG _ _ ?_;clear hG G;simp[go_sem,ah];exact aC (by simp[lk,aH,bF,bE,gA,eS]) rfl rfl
theorem EQ{C:List AV}(hC:iC C)(r:Rn)(J:List Bool)(hk:StOk r.main r.alt)(l:List (Int×Int))(e:Int)(hc:r.cl.length≤100000)(hl2:l.length≤100000):cX Tryz.prog 3 (aH C) 233 ⟨r,J,0⟩ [.ptr 0 0 0 1,.d (.ro 2 (l.map cJ)),.d (.int .i64 e)] (fun v s'=>s'=⟨xY l e r,J,0⟩):=by
 refine al Tryz.func233 (by kernel_rfl) rfl Tryz.ntmps233 (rs:=[]) rfl (dV rfl) (by decide) ?_;have hl:=hC.2.2;simp[go_sem];refine dQ (Pp:=[]) hC (eG hC r J 0) aq aw (by simp[AV.renL,AV.ren]) ?_;rintro v s' ρ ⟨rfl,rfl⟩ hρ;by_cases h:r.e=0
 ·have hv:xY l e r=dB (iM true) { az e r with cl:=r.cl++l }:=if_pos h;rw[hv];simp[go_sem,AV.ren,h];refine dQ (Pp:=[]) (s:=⟨r,J,0⟩) hC (bz hC r J 0 e) aq aw (by simp[AV.renL,AV.ren]) ?_;rintro v s' ρ rfl hρ;have hkf:StOk (az e r).main (az e r).alt:=ga hk;have hcf:(az e r).cl=r.cl:=by unfold az;split<;>rfl
  rw[←hcf];rw[←hcf]at hc;generalize az e r=r2 at *;obtain⟨main,alt,br,bud,cl,e2⟩:=r2;simp only at hc hkf;rw[bD];simp only[aH,bF,bE,id];have hT:List.take cl.length (G9 cl 0)=cl.map Ui:=by simp[G9,cA]
  have hln:(G9 cl 0).length=cl.length:=by simp[G9]
  have hm:List.map ((fun r=>List.map AV.d r)∘cJ) l=l.map Ui:=rfl;have hpt:=oO hC ⟨main,alt,br,bud,cl++l,e2⟩ J 0 hkf (iM true) (by simp[iM]);have hidl:gG ⟨main,alt,br,bud,cl,e2⟩=gG ⟨main,alt,br,bud,cl++l,e2⟩:=rfl;rw[hidl];simp[go_sem,hl,ed,DC,hT,hln,hm];refine⟨aq,fun h0=>?_,fun h0=>?_⟩
  ·obtain rfl:l=[]:=List.length_eq_zero_iff.1 aq;simp only[List.append_nil]at hpt⊢;refine ag (lG true) a9 ?_;simp[go_sem];refine aR (Pp:=[]) (s:=⟨⟨main,alt,br,bud,cl,e2⟩,J,0⟩) hC hpt (by simp[bD,aH,bF,bE,G9]) aq aw (by simp[AV.renL,AV.ren]) ?_;rintro v s' ρ rfl hρ;rw[bD];generalize dB (iM true) _=r';simp only[aH,bF,bE,id];simp[go_sem,ah];exact aC rfl rfl rfl
  ·refine ag (lG true) a9 ?_;simp[go_sem];refine aR (Pp:=[]) (s:=⟨⟨main,alt,br,bud,cl++l,e2⟩,J,0⟩) hC hpt (by simp[bD,aH,bF,bE,G9]) aq aw (by simp[AV.renL,AV.ren]) ?_;rintro v s' ρ rfl hρ;rw[bD];generalize dB (iM true) _=r';simp only[aH,bF,bE,id];simp[go_sem,ah];exact aC rfl rfl rfl
 ·have hv:xY l e r=r:=if_neg h;rw[hv];simp[go_sem,AV.ren,h,ah];rw[bD];exact aC rfl rfl rfl
theorem yt{r:Rn}(h:StOk r.main r.alt):StOk (mi r).2.main (mi r).2.alt∧(mi r).1.length≤1000∧bytes (mi r).1:=by
 unfold mi
 split
 ·exact⟨ga h,aw,fun x hx=>by simp at hx⟩
 ·rename_i h2;rcases r.main.eq_nil_or_concat with e|⟨l,x,hm⟩
  ·exact absurd (by rw[e];rfl) h2
  ·rw[List.concat_eq_append]at hm;have h':=h;rw[hm]at h'⊢;simp only[List.getLastD_concat];exact⟨h',(Jt h').2⟩
theorem KA{C:List AV}(hC:iC C)(r:Rn)(J:List Bool)(H:Nat)(hk:StOk r.main r.alt):cX Tryz.prog 3 (aH C) 229 ⟨r,J,H⟩ [.ptr 0 0 0 1] (fun v s'=>v=.d (.int .i64 (lV r).1)∧s'=⟨(lV r).2,J,H⟩):=by
 refine al Tryz.func229 (by kernel_rfl) rfl Tryz.ntmps229 (rs:=[.tmp 2]) rfl (dV rfl) (by decide) ?_;have hl:=hC.2.2;simp[go_sem];refine dQ (Pp:=[]) hC (Ju hC r J H hk) aq aw (by simp[AV.renL,AV.ren]) ?_;rintro v s' ρ ⟨rfl,rfl⟩ hρ;obtain⟨hk2,hb1,hb2⟩:=yt hk;unfold lV;generalize mi r=p at *;obtain⟨b,r2⟩:=p;simp only at hk2 hb1 hb2⊢;simp[go_sem,AV.ren];refine dQ (Pp:=[]) hC (eG hC r2 J H) aq aw (by simp[AV.renL,AV.ren]) ?_;rintro v s' ρ' ⟨rfl,rfl⟩ hρ';by_cases h:r2.e=0
 ·have hd:=Cb 5 b hb2 aq aq;simp[go_sem,AV.ren,h];refine ag hd a9 ?_
  cases hq:fN 5 b with
  |none =>
   simp[go_sem];refine dQ (Pp:=[]) (s:=⟨r2,J,H⟩) hC (bz hC r2 J H 15) aq aw (by simp[AV.renL,AV.ren]) ?_;rintro v s' ρ rfl hρ;rw[bD];generalize az 15 r2=r';simp only[aH,bF,bE,id];simp[go_sem,ah];exact aC rfl rfl rfl
  |some n =>
   have hf:=bz hC r2 J H 0;rw[oN]at hf;simp[go_sem];refine dQ (Pp:=[]) (s:=⟨r2,J,H⟩) hC hf aq aw (by simp[AV.renL,AV.ren]) ?_;rintro v s' ρ rfl hρ;by_cases hn:n<0
   ·simp[go_sem,hn];refine dQ (Pp:=[]) (s:=⟨r2,J,H⟩) hC (bz hC r2 J H 22) aq aw (by simp[AV.renL,AV.ren]) ?_;rintro v s' ρ rfl hρ;rw[bD];generalize az 22 r2=r';simp only[aH,bF,bE,id];simp[go_sem,ah];exact aC rfl rfl rfl
   ·rw[bD];simp only[aH,bF,bE,id];simp[go_sem,hn,ah];exact aC rfl rfl rfl
 ·simp[go_sem,AV.ren,h,ah];rw[bD];exact aC rfl rfl rfl
theorem WU(a b:Bool)(K:AV→Hp→Prop)(hp:Hp):cO Tryz.prog .neq 4 (.d (.bool a)) (.d (.bool b)) K hp=K (.d (.bool (a != b))) hp:=by
 show(_∧_)=_;rw[PQ];simp
theorem Tt{C:List AV}(hC:iC C){s:RnS}{N:Nat}(hN:3≤N):∀p,p∈ia 3 (aH C) s id→p.1<N∧∀r,r∈p.2.es→∀v,v∈r→v.low1 N:=by
 intro p hp;rw[bD]at hp;simp only[et,List.mem_nil_iff,or_false]at hp;rcases hp with rfl|rfl|rfl
 ·refine⟨by show 0<N;omega,fun r hr v hv=>?_⟩;simp only[aH,et,List.mem_nil_iff,or_false]at hr;subst hr;rcases cL.1 hv with h|h
  ·exact hC.2.1 v h N
  ·simp only[bE,et,List.mem_nil_iff,or_false]at h;rcases h with rfl|rfl|rfl|rfl|rfl|rfl|rfl
   all_goals first|trivial|(show 1<N;omega)|(show 2<N;omega)
 ·refine⟨by show 1<N;omega,fun r hr v hv=>?_⟩;obtain⟨b,_,rfl⟩:=List.mem_map.1 hr;simp only[et,List.mem_nil_iff,or_false]at hv;subst hv;trivial
 ·refine⟨by show 2<N;omega,fun r hr v hv=>?_⟩;rcases cL.1 hr with h|h
  ·obtain⟨x,_,rfl⟩:=List.mem_map.1 h;simp only[Ui,et,List.mem_nil_iff,or_false]at hv;rcases hv with rfl|rfl<;>trivial
  ·rw[List.eq_of_mem_replicate h]at hv;simp only[et,List.mem_nil_iff,or_false]at hv;rcases hv with rfl|rfl<;>trivial
theorem WV{C:List AV}(hC:iC C){s:RnS}{hp:Hp}{nx N:Nat}(hN:3≤N)(h:∀p,p∈ia 3 (aH C) s id→lk p.1 hp=some p.2) :
  ∀p,p∈ia 3 (aH C) s id→(lk p.1 hp=some p.2∨(nx≤p.1∧p.2.es=[]))∧p.1<N∧∀r,r∈p.2.es→∀v,v∈r→v.low1 N :=
 fun p hp'=>⟨.inl (h p hp'),Tt hC hN p hp'⟩
theorem qd{C:List AV}{s:RnS}{hp:Hp}(h0:lk 0 hp=some (aH C s id 0))(h1:lk 1 hp=some (aH C s id 1))(h2:lk 2 hp=some (aH C s id 2)):∀p,p∈ia 3 (aH C) s id→lk p.1 hp=some p.2:=by
 intro p hp';rw[bD]at hp';simp only[et,List.mem_nil_iff,or_false]at hp';rcases hp' with rfl|rfl|rfl
 ·exact h0
 ·exact h1
 ·exact h2
theorem KB(F:RnF)(x:Rx)(hi:F.inner.length=32)(i:Ip)(hn:F.t.ins[F.n]?=some i)(hio:i.ok)(hlk:F.t.lock<4294967296)(hxl:x.lock=(F.t.lock:Int))(hxs:x.seq=(i.seq:Int))(r:Rn)(J:List Bool)(H:Nat)(hk:StOk r.main r.alt) :
    cX Tryz.prog 3 (aH (gA F)) 199 ⟨r,J,H⟩ [.ptr 0 0 0 1] (fun v s'=>s'=⟨t6 x r,J,H⟩):=by
  refine al Tryz.func199 (by kernel_rfl) rfl Tryz.ntmps199 (rs:=[]) rfl (dV rfl) (by decide) ?_;have hC:=eo (F:=F) hi;have hlo:=KA hC r J H hk;have hsq:=P6 F hi i hn hio;have w1:IntKind.i64.wrap (F.t.lock:Int)=(F.t.lock:Int):=IntWalk.i64_in _ aq;unfold t6;generalize lV r=p at *;obtain⟨n,r2⟩:=p;simp only at hlo⊢;refine ep [0,2] [1,3,4,5,6,7,8] [0,2,9,10] (.alt (.step 1 [9] false (bx 3 (bx 4 (bx 5 (bx 6 (bx 7 (.step 8 [10] false .done))))))) (bx 3 (.alt (.step 1 [9] false (bx 4 (bx 5 (bx 6 (bx 7 (.step 8 [10] false .done)))))) (bx 4 (.alt (.step 1 [9] false (bx 5 (bx 6 (bx 7 (.step 8 [10] false .done))))) (bx 5 (.alt (.step 1 [9] false (bx 6 (bx 7 (.step 8 [10] false .done)))) (bx 6 (.alt (.step 1 [9] false (bx 7 (.step 8 [10] false .done))) (bx 7 (.alt (.step 1 [9] false (.step 8 [10] false .done)) (bx 8 (.step 1 [9,10] false .done))))))))))))) ⟨[(0,.ptr 0 0 0 1),(2,.d (.int .i64 n)),(3,.d (.int .i64 (F.t.lock:Int)))],ia 3 (aH (gA F)) ⟨r2,J,H⟩ id,9000⟩ (k:=11) ?h3 ?hq
  case h3 =>
    intro G hG;rw[bD];simp only[aH,bF,bE,id,gA,eS];simp (config := { maxSteps := 3000000 }) [go_sem,w1]
    repeat' first
      |apply And.intro
      | (refine aR (Pp:=[]) (s:=⟨r,J,H⟩) hC hlo (by simp [bD,aH,bF,bE,gA,eS]) aq aw (by simp [AV.renL,AV.ren]) ?_
         rintro v s' ρ ⟨rfl,rfl⟩ hρ;rw[bD];simp only[aH,bF,bE,id,gA,eS]
         simp (config := { maxSteps := 3000000 }) [go_sem,AV.ren,w1])
      |(refine hG _ _ (cB ⟨by simp[ai,fv,lk,AV.low,AV.low1],WV hC (dV rfl) (qd ?_ ?_ ?_),aw⟩)<;>simp[lk,aH,bF,bE,gA,eS])
  case hq =>
    rw[hxl,hxs];by_cases c1:n<500000000<;>by_cases c2:(F.t.lock:Int)<500000000<;>by_cases c3:(F.t.lock:Int)<n<;>by_cases c4:(i.seq:Int)=4294967295
    all_goals
      have c2':F.t.lock<500000000↔(F.t.lock:Int)<500000000:=aq;have c4':i.seq=4294967295↔(i.seq:Int)=4294967295:=aq;simp[go_sem,Bv,WU,c1,c2,c3,c4,c2',c4']
    all_goals first
      |(exfalso;omega)
      | (have hz:(n<500000000 ↔ (F.t.lock:Int)<500000000)∧¬ (F.t.lock:Int)<n:=aq
         refine aR (Pp:=[]) hC (hsq r2 J H) (List.nil_append _).symm (dV rfl) aw (by simp[AV.renL,AV.ren]) ?_;rintro v s' ρ ⟨rfl,rfl⟩ hρ
         simp[go_sem,AV.ren,c4,(show i.seq=4294967295↔(i.seq:Int)=4294967295 by omega)])
      |skip
    all_goals first
      | (have hz:(n<500000000 ↔ (F.t.lock:Int)<500000000)∧¬ (F.t.lock:Int)<n∧¬ (i.seq:Int)=4294967295:=aq
         exact aC rfl rfl rfl)
      | (refine aR (Pp:=[]) hC (bz hC r2 J H 22) (by first | rfl | exact (List.nil_append _).symm) (dV rfl) aw (by simp [AV.renL,AV.ren]) ?_
         rintro v s' ρ rfl hρ;rw[bD];generalize az 22 r2=r';simp only[aH,bF,bE,id];simp[go_sem,ah]
         exact aC rfl rfl rfl)
theorem rU(n:Int)(h1:-9223372036854775808≤n)(h2:n<9223372036854775808):(BitVec.ofInt 64 n).toNat=(n%18446744073709551616).toNat:=by
 rw[BitVec.toNat_ofInt];rfl
theorem yu(n:Int)(m:Nat)(h1:-9223372036854775808≤n)(h2:n<9223372036854775808)(hm:m<4294967296):Go.bits .and .i64 n (m:Int)=(((n%18446744073709551616).toNat &&& m:Nat):Int):=by
 show IntKind.i64.wrap (((BitVec.ofInt 64 n) &&& (BitVec.ofInt 64 (m:Int))).toNat:Int)=_;rw[BitVec.toNat_and,rU n h1 h2,rU (m:Int) aq aq];have e:((m:Int)%18446744073709551616).toNat=m:=aq;rw[e];have:(n%18446744073709551616).toNat &&& m≤m:=Nat.and_le_right;exact IntWalk.i64_in _ aq
theorem OE(x k:Nat):x &&& 2 ^ k=if x.testBit k then 2 ^ k else 0:=by
 apply Nat.eq_of_testBit_eq;intro i;rw[Nat.testBit_and,Nat.testBit_two_pow];by_cases h:k=i
 ·subst h
  cases hb:x.testBit k<;>simp[Nat.testBit_two_pow_self]
 ·cases hb:x.testBit k<;>simp[h,Nat.testBit_two_pow]
theorem ER(n:Int)(k:Nat)(h1:-9223372036854775808≤n)(h2:n<9223372036854775808)(hk:k<32)(hb:((n%18446744073709551616).toNat/2 ^ k%2=1)=(oL k n=true)):Go.bits .and .i64 n ((2 ^ k:Nat):Int)=if oL k n then((2 ^ k:Nat):Int)else 0:=by
 have hp:2 ^ k<2 ^ 32:=Nat.pow_lt_pow_right aq hk;rw[yu n (2 ^ k) h1 h2 aq,OE,Nat.testBit_eq_decide_div_mod_eq];by_cases h:oL k n=true
 ·rw[if_pos h];rw[h,eq_true rfl]at hb;simp[hb]
 ·rw[if_neg h];have:¬((n%18446744073709551616).toNat/2 ^ k%2=1):=by rw[hb];exact h
  simp[this]
theorem KC(n:Int)(h1:-9223372036854775808≤n)(h2:n<9223372036854775808):Go.bits .and .i64 n 2147483648=if oL 31 n then 2147483648 else 0:=by
 refine ER n 31 h1 h2 aq ?_;unfold oL;rw[Int.fdiv_eq_ediv_of_nonneg _ aq];simp only[decide_eq_true_eq];exact propext aq
theorem KD(n:Int)(h1:-9223372036854775808≤n)(h2:n<9223372036854775808):Go.bits .and .i64 n 4194304=if oL 22 n then 4194304 else 0:=by
 refine ER n 22 h1 h2 aq ?_;unfold oL;rw[Int.fdiv_eq_ediv_of_nonneg _ aq];simp only[decide_eq_true_eq];exact propext aq
theorem KE(n:Int)(h1:-9223372036854775808≤n)(h2:n<9223372036854775808):Go.bits .and .i64 n 65535=n%65536:=by
 rw[show(65535:Int)=((2 ^ 16-1:Nat):Int)from rfl,yu n _ h1 h2 aq,Nat.and_two_pow_sub_one_eq_mod];omega
theorem KF{b:a8}{n:Int}(hb:bytes b)(h:fN 5 b=some n):-9223372036854775808≤n∧n<9223372036854775808:=by
 unfold fN at h
 split at h
 ·rename_i h1;obtain rfl:=Option.some.inj h;have hl:b.length≤5:=aq;rcases eD b with rfl|⟨a,x,rfl⟩
  ·decide
  ·have hx:x<256:=hb x aw;have ha:=qR (b:=a) (fun y hy=>hb y (List.mem_append_left _ hy));simp at hl;rw[nD];have hc:a.length=0∨a.length=1∨a.length=2∨a.length=3∨a.length=4:=aq;rcases hc with e|e|e|e|e<;>rw[e]at ha⊢<;>simp at ha⊢<;>split<;>omega
 ·cases h
theorem GI{r:Rn}(h:StOk r.main r.alt):-9223372036854775808≤(lV r).1∧(lV r).1<9223372036854775808:=by
 unfold lV;obtain⟨_,_,hb⟩:=yt h;generalize mi r=p at *;simp only
 split
 ·cases hd:fN 5 p.1 with
  |none=>simp only;omega
  |some n=>exact KF hb hd
 ·simp only;omega
theorem OF (F:RnF) (x:Rx) (hi:F.inner.length=32) (i:Ip) (hn:F.t.ins[F.n]?=some i) (hio:i.ok) (hvr:F.t.ver<4294967296) (hxv:x.ver=(F.t.ver:Int)) (hxs:x.seq=(i.seq:Int)) (r:Rn) (J:List Bool) (H:Nat) (hk:StOk r.main r.alt) :
    cX Tryz.prog 3 (aH (gA F)) 200 ⟨r,J,H⟩ [.ptr 0 0 0 1] (fun v s'=>s'=⟨Cm x r,J,H⟩):=by
  refine al Tryz.func200 (by kernel_rfl) rfl Tryz.ntmps200 (rs:=[]) rfl (dV rfl) (by decide) ?_;have hC:=eo (F:=F) hi;have hlo:=KA hC r J H hk;have hsq:=P6 F hi i hn hio;have hrg:=GI hk;have hsb:=hio.2.2;unfold Cm;rw[hxv,hxs];generalize lV r=p at *;obtain⟨n,r2⟩:=p;simp only at hlo hrg⊢;have a1:=KC n hrg.1 hrg.2;have a2:=KC (i.seq:Int) aq aq;have a3:=KD n hrg.1 hrg.2;have a4:=KD (i.seq:Int) aq aq;have a5:=KE n hrg.1 hrg.2;have a6:=KE (i.seq:Int) aq aq;generalize oL 31 n=b1 at *;generalize oL 31 (i.seq:Int)=b2 at *;generalize oL 22 n=b3 at *;generalize oL 22 (i.seq:Int)=b4 at *;generalize n%65536=m1 at *;generalize(i.seq:Int)%65536=m2 at *;simp[go_sem];refine dQ (Pp:=[]) hC hlo aq aw (by simp[AV.renL,AV.ren]) ?_;rintro v s' ρ ⟨rfl,rfl⟩ hρ;simp[go_sem,AV.ren];refine dQ (Pp:=[]) hC (hsq r2 J H) aq aw (by simp[AV.renL,AV.ren]) ?_;rintro v s' ρ ⟨rfl,rfl⟩ hρ;rw[bD];simp only[aH,bF,bE,id,gA,eS]
  cases b1
  case true =>
    simp[go_sem,AV.ren,a1];exact aC (by simp[lk,aH,bF,bE,gA,eS]) rfl rfl
  case false =>
    have hfl:=bz hC r2 J H 22;by_cases c0:F.t.ver<2
    · have c0i:(F.t.ver:Int)<2:=aq
      simp[go_sem,AV.ren,a1,a2,a3,a4,a5,a6,c0,c0i];refine aR (Pp:=[]) (s:=⟨r2,J,H⟩) hC hfl (by simp[bD,aH,bF,bE,gA,eS]) aq aw (by simp[AV.renL,AV.ren]) ?_;rintro v s' ρ rfl hρ;rw[bD];generalize az 22 r2=r';simp only[aH,bF,bE,id];simp[go_sem,ah];exact aC rfl rfl rfl
    · have c0i:¬ (F.t.ver:Int)<2:=aq
      cases b2<;>cases b3<;>cases b4<;>by_cases c5:m2<m1
      all_goals simp[go_sem,AV.ren,a1,a2,a3,a4,a5,a6,c0,c0i,c5]
      all_goals first
        |exact aC (by simp[lk,aH,bF,bE,gA,eS]) rfl rfl
        | (refine aR (Pp:=[]) (s:=⟨r2,J,H⟩) hC hfl (by simp [bD,aH,bF,bE,gA,eS]) aq aw (by simp [AV.renL,AV.ren]) ?_
           rintro v s' ρ rfl hρ;rw[bD];generalize az 22 r2=r';simp only[aH,bF,bE,id];simp[go_sem,ah]
           exact aC rfl rfl rfl)
end Go.Proofs.YtmfnimjnneflnaaGreat
