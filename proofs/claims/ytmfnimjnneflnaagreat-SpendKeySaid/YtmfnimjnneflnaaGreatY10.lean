/-
 Part 11 of what the claim rests on.
-/
import Derived.Test.YtmfnimjnneflnaaGreatY8
import Derived.Test.YtmfnimjnneflnaaGreatY9
set_option linter.unusedVariables false
set_option linter.unusedSimpArgs false
set_option maxRecDepth 100000
set_option maxHeartbeats 16000000
namespace Go.Proofs.YtmfnimjnneflnaaGreat
open Go.Am Go.Sha Go.Ec
theorem sK(x:Int):∀v,v∈[AV.d (.int .u64 x)]→v.deep:=by
 intro v hv;simp at hv;subst hv;trivial
theorem FK{a:List Int}(ha:Wn 4 a):(a.map Int.toNat).length=4∧cI a=cW (a.map Int.toNat):=by
 refine⟨by simp[ha.1],?_⟩;unfold cI cW;rw[List.map_map];refine List.map_congr_left fun x hx=>?_;have:=(ha.2 x hx).1;simp only[Function.comp_apply];rw[Int.toNat_of_nonneg this]
theorem Oa{a b:List Int}(ha:Wn 4 a)(hb:Wn 4 b):se (a.map Int.toNat) (b.map Int.toNat) 4<0↔V a<V b:=by
 obtain⟨a0,a1,a2,a3,rfl,h0,h1,h2,h3⟩:=fJ ha;obtain⟨b0,b1,b2,b3,rfl,k0,k1,k2,k3⟩:=fJ hb;unfold bU at *;rw[V4,V4];have g0:∀w x y z:Nat,[w,x,y,z].getD 0 0=w:=fun _ _ _ _=>rfl;have g1:∀w x y z:Nat,[w,x,y,z].getD 1 0=x:=fun _ _ _ _=>rfl;have g2:∀w x y z:Nat,[w,x,y,z].getD 2 0=y:=fun _ _ _ _=>rfl;have g3:∀w x y z:Nat,[w,x,y,z].getD 3 0=z:=fun _ _ _ _=>rfl;simp only[List.map_cons,List.map_nil,se,g0,g1,g2,g3]
 repeat' split
 all_goals omega
theorem wj(a b:List Int)(ha:Wn 4 a)(hb:Wn 4 b):∃c:Int,(c<0↔V a<V b)∧au Tryz.prog 206 [.agg (cI a),.agg (cI b)] (fun r=>r=.d (.int .i64 c)):=by
 obtain⟨hl,e1⟩:=FK ha;obtain⟨hm,e2⟩:=FK hb;rw[e1,e2];exact⟨_,Oa ha hb,Ht _ _ hl hm⟩
theorem jw(a:List Int)(ha:Wn 4 a):∃r,Wn 4 r∧(V r<pZ∧FV r=FV a*FV a)∧W1 208 a r:=by
 obtain⟨r,hr,vr,f1⟩:=dU a a ha ha;unfold W2 at f1;have hal:=ha.1;have hrl:=hr.1;have hz:List.drop 4 (cI zI)=[]:=ay rfl;refine⟨r,hr,vr,?_⟩;unfold W1;refine bu Tryz.func208 Tryz.ntmps208 (rs:=[.cell 2 96]) (av a) ?_;simp[go_sem,hal,aa hal];refine ae f1 (ax _ _) ?_;simp[go_sem,hrl,aa hrl,hz,ar];exact bI rfl
theorem sL(a:List Int)(ha:Wn 4 a):∃r,Wn 4 r∧(V r<pZ∧FV r=FV a*FV a*FV a+7)∧W1 190 a r:=by
 obtain⟨s,hs,vs,f1⟩:=jw a ha;obtain⟨m,hm,vm,f2⟩:=dU s a hs ha;obtain⟨r,hr,vr,f3⟩:=Ld m [7,0,0,0] hm (fW ⟨aq,aq⟩);have v7:FV [7,0,0,0]=7:=uD 7 aq;rw[v7,vm.2,vs.2]at vr;unfold W1 at f1;unfold W2 at f2 f3;have hal:=ha.1;have hrl:=hr.1;have hz:List.drop 4 (cI zI)=[]:=ay rfl;refine⟨r,hr,vr,?_⟩;unfold W1;refine bu Tryz.func190 Tryz.ntmps190 (rs:=[.cell 2 96]) (av a) ?_;simp[go_sem,hal,aa hal];refine c7 [0,2] [1,3,4,5,6] [0,2] (bt 1 (a_ [3,4,5,6])) ⟨[(2,.ptr 32 0 0 1)],[(32,⟨96,4,[cI r]⟩)],9000⟩ (k:=7) ?h3 ?hq
 case h3 =>
  intro G hG
  have hW:∀(fr:Fr)(hp:Hp),(fv 2 fr=.ptr 32 0 0 1∧lk 32 hp=some ⟨96,4,[cI r]⟩)→G fr hp:=by
   rintro fr hp⟨q0,q1⟩;refine hG _ _ (bf ?_);simp only[ak,ah];refine⟨fun p hp=>?_,fun p hp=>?_,aw⟩
   ·simp only[d_,List.mem_nil_iff,or_false]at hp;subst hp;exact⟨.inl q0.symm,by simp[AV.low,AV.low1]⟩
   ·simp only[d_,List.mem_nil_iff,or_false]at hp;subst hp;exact⟨.inl q1,aw,by intro r hr;simp only[d_,List.mem_nil_iff,or_false]at hr;subst hr;exact aD _ _⟩
  simp[go_sem,hal,aa hal,hrl,aa hrl,hz,b7]
  repeat' first|exact hW _ _ ⟨rfl,rfl⟩|(refine hW _ _ ?_;simp[fv,lk];done)|refine ae f1 (av _) ?_|refine ae f2 (ax _ _) ?_|refine ae f3 (ax _ _) ?_|refine ae (dA 7) (sK _) ?_|apply And.intro|simp[go_sem,hal,aa hal,hrl,aa hrl,hz,b7]
 case hq =>
  simp[go_sem,hrl,aa hrl,ar];exact bI rfl
theorem nL(a:List Int)(ha:Wn 4 a):∃b:Bool,(b=true↔V a<pZ)∧au Tryz.prog 188 [.agg (cI a)] (fun r=>r=.d (.bool b)):=by
 obtain⟨c,vc,f1⟩:=wj a qo ha sB;have vp:V qo=pZ:=by simp[V,qo]
 rw[vp]at vc;have hal:=ha.1;refine⟨decide (c<0),by rw[decide_eq_true_iff];exact vc,?_⟩;refine bu Tryz.func188 Tryz.ntmps188 (rs:=[.tmp 2]) (av a) ?_;simp[go_sem,hal,aa hal];refine cQ [0] [(1,[]),(2,[3,4])] 2 (k:=5) ?_;intro G hG;simp[go_sem,hal,aa hal];refine ae fY aw ?_;simp[go_sem];refine ae f1 (ax _ _) ?_;simp[go_sem,b7];refine hG _ _ ?_;simp[go_sem,ar];exact ag a9 rfl
def cP(x y:List Int)(b:Bool):List AV:=cI x++(cI y++[.d (.bool b)])
theorem bc{x y:List Int}(hx:x.length=4)(hy:y.length=4)(b:Bool):(cP x y b).length=9:=by simp[cP,dc,hx,hy]
theorem bX{x y:List Int}(hx:x.length=4)(hy:y.length=4)(b:Bool):(cP x y b).take 9=cP x y b:=cx (by rw[bc hx hy];omega)
theorem kZ{x y:List Int}(hx:x.length=4)(hy:y.length=4)(b:Bool):(cP x y b).drop 9=[]:=c_ (by rw[bc hx hy];omega)
theorem H6{x y:List Int}(hx:x.length=4)(b:Bool):(cP x y b).take 4=cI x:=by
 unfold cP;rw[List.take_append_of_le_length (by rw[dc];omega),aa hx]
theorem Lh{x y:List Int}(hx:x.length=4)(hy:y.length=4)(b:Bool):((cP x y b).drop 4).take 4=cI y:=by
 unfold cP;rw[List.drop_append_of_le_length (by rw[dc];omega),ay hx,List.nil_append,List.take_append_of_le_length (by rw[dc];omega),aa hy]
theorem uE{x y:List Int}(hx:x.length=4)(hy:y.length=4)(b:Bool):(cP x y b)[8]?=some (.d (.bool b)):=by
 unfold cP;rw[dn (by rw[dc];omega),dn (by simp only[dc];omega)];simp[dc,hx,hy]
theorem yh{x y:List Int}(hx:x.length=4)(hy:y.length=4)(b:Bool)(h:8<(cP x y b).length):(cP x y b)[8]=.d (.bool b):=(ci.1 (uE hx hy b)).2
theorem cN(x y:List Int)(b:Bool):(AV.agg (cP x y b)).deep:=by
 intro v hv;unfold cP at hv;rcases cD.1 hv with hv|hv
 ·exact eF _ v hv
 ·rcases cD.1 hv with hv|hv
  ·exact eF _ v hv
  ·simp at hv;subst hv;trivial
theorem cy(x y:List Int)(b:Bool):∀v,v∈[AV.agg (cP x y b)]→v.deep:=by
 intro v hv;simp at hv;subst hv;exact cN _ _ _
theorem dB(n:Nat)(x y:List Int)(b:Bool):∀v,v∈cP x y b→v.low1 n:=by
 intro v hv;unfold cP at hv;rcases cD.1 hv with hv|hv
 ·exact aD _ _ v hv
 ·rcases cD.1 hv with hv|hv
  ·exact aD _ _ v hv
  ·simp at hv;subst hv;trivial
theorem kj{Q:AV→Prop}{st:St}{x y:List Int}{b:Bool}(hq:Q (.agg (cP x y b))):eH Q (.agg (cP x y b)) st:=ag (cN _ _ _) hq
theorem O6:ek Tryz.prog 189=some (cP zI zI false):=by kernel_rfl
attribute [go_sem] O6
theorem fl:au Tryz.prog 160 [] (fun r=>r=.agg (cP zI zI true)):=by
 refine bu Tryz.func160 Tryz.ntmps160 (rs:=[.cell 0 189]) a9 ?_;simp[go_sem,cP,cI,zI,ar];exact kj (x:=zI) (y:=zI) (b:=true) rfl
def lP(x y:List Int)(b:Bool):List L1:=x.map (L1.i .u64)++(y.map (L1.i .u64)++[L1.b b])
theorem Bf:∀(x:List Int)(r:List AV),cY (cI x++r)=(cY r).map (x.map (L1.i .u64)++·)
 |[],r=>by simp[cI]
 |a::l,r=>by
  have ih:=Bf l r;show cY (.d (.int .u64 a)::(cI l++r))=_;have e:cY (.d (.int .u64 a)::(cI l++r))=(cY (cI l++r)).map (L1.i .u64 a::·):=rfl;rw[e,ih,Option.map_map];rfl
theorem wm(x y:List Int)(b:Bool):cY (cP x y b)=some (lP x y b):=by
 unfold cP;rw[Bf,Bf];rfl
theorem O7:cB Tryz.prog 8 189=some (List.replicate 8 (some .u64)++[none]):=by kernel_rfl
theorem Bg{x y:List Int}(hx:x.length=4)(hy:y.length=4)(b:Bool):cB Tryz.prog 8 189=some ((lP x y b).map L1.k):=by
 rw[O7]
 match x,y,hx,hy with
 |[a,b,c,d],[e,f,g,h],_,_=>rfl
theorem O8:Tryz.prog.eqGuardType Tryz.prog.depth 189=false:=by kernel_rfl
theorem Lj(x y:List Int)(b:Bool)(hx:Wn 4 x)(hy:Wn 4 y):∃c:Bool,(c=true↔fa x y b)∧au Tryz.prog 186 [.agg (cP x y b)] (fun r=>r=.d (.bool c)):=by
 have hxl:=hx.1;have hyl:=hy.1
 cases b
 ·obtain⟨b1,vb1,f1⟩:=nL x hx;obtain⟨b2,vb2,f2⟩:=nL y hy;obtain⟨s,hs,vs,f3⟩:=jw y hy;obtain⟨r,hr,vr,f4⟩:=sL x hx;unfold W1 at f3 f4;have hsl:=hs.1;have hrl:=hr.1;have e1:∀c:Bool,(cP x y c).take 4=cI x:=H6 hxl;have e2:∀c:Bool,((cP x y c).drop 4).take 4=cI y:=Lh hxl hyl
  have hv:(b1&&(b2&&decide (s=r)))=true↔fa x y false:=by
   rw[Bool.and_eq_true,Bool.and_eq_true,decide_eq_true_iff,vb1,vb2];refine⟨fun⟨h1,h2,h3⟩=>.inr ⟨rfl,h1,h2,by rw[←vs.2,h3,vr.2]⟩,fun h=>?_⟩;rcases h with ⟨h,_⟩|⟨_,h1,h2,h3⟩
   ·cases h
   ·exact⟨h1,h2,Be hs hr vs.1 vr.1 (by rw[vs.2,vr.2,h3])⟩
  refine⟨b1&&(b2&&decide (s=r)),hv,?_⟩;refine bu Tryz.func186 Tryz.ntmps186 (rs:=[.tmp 2]) (cy _ _ _) ?_;simp[go_sem,bc hxl hyl,bX hxl hyl,uE hxl hyl,yh hxl hyl]
  cases b1
  ·skip;refine cQ [0,1] [(2,[3,4,5]),(6,[7,8,9,10,12,13]),(11,[]),(14,[15,16,17])] 4 (k:=18) ?_;intro G hG;simp[go_sem,bc hxl hyl,e1,e2];refine ae f1 (av _) ?_;simp[go_sem,b7];refine hG _ _ ?_;simp[go_sem,ar];exact ag a9 rfl
  ·cases b2
   ·skip;refine cQ [0,1] [(2,[3,4,5]),(6,[7,8,9,10,12,13]),(11,[]),(14,[15,16,17])] 4 (k:=18) ?_;intro G hG;simp[go_sem,bc hxl hyl,e1,e2];refine ae f1 (av _) ?_;simp[go_sem,bc hxl hyl,e1,e2,b7];refine ae f2 (av _) ?_;simp[go_sem,b7];refine hG _ _ ?_;simp[go_sem,ar];exact ag a9 rfl
   ·skip;refine cQ [0,1] [(2,[3,4,5]),(6,[7,8,9,10,12,13]),(11,[]),(14,[15,16,17])] 4 (k:=18) ?_;intro G hG;simp[go_sem,bc hxl hyl,e1,e2];refine ae f1 (av _) ?_;simp[go_sem,bc hxl hyl,e1,e2,b7];refine ae f2 (av _) ?_;simp[go_sem,bc hxl hyl,e1,e2,b7];refine ae f3 (av _) ?_;simp[go_sem,bc hxl hyl,e1,e2,b7];refine ae f4 (av _) ?_;simp[go_sem,dm,hsl,hrl,b7];refine hG _ _ ?_;simp[go_sem,ar];exact ag a9 rfl
 ·have hv:decide (lP x y true=lP zI zI true)=true↔fa x y true:=by
   rw[decide_eq_true_iff];refine⟨fun h=>.inl ⟨rfl,?_⟩,fun h=>?_⟩
   ·match x,y,hxl,hyl with
    |[a,b,c,d],[e,f,g,i],_,_ =>
     simp[lP,zI]at h;obtain⟨rfl,rfl,rfl,rfl,rfl,rfl,rfl,rfl⟩:=h;exact⟨rfl,rfl⟩
   ·rcases h with ⟨_,rfl,rfl⟩|⟨h,_⟩
    ·rfl
    ·cases h
  refine⟨decide (lP x y true=lP zI zI true),hv,?_⟩;refine bu Tryz.func186 Tryz.ntmps186 (rs:=[.tmp 2]) (cy _ _ _) ?_;simp[go_sem,bc hxl hyl,bX hxl hyl,uE hxl hyl,yh hxl hyl];refine cQ [0] [(1,[2,3])] 1 (k:=4) ?_;intro G hG;simp[go_sem,bc hxl hyl,bX hxl hyl];refine ae fl aw ?_;have k1:=Bg hxl hyl true;have k2:=Bg (x:=zI) (y:=zI) rfl rfl true;have l1:=wm x y true;have l2:=wm zI zI true;generalize lP x y true=u at *;generalize lP zI zI true=v at *;simp[go_sem,l1,l2,O8,b7]
  first|refine⟨k1,k2,hG _ _ ?_⟩|refine⟨k1,hG _ _ ?_⟩
  simp[go_sem,ar];exact ag a9 rfl
theorem lb(x y:List Int)(b:Bool)(hx:Wn 4 x)(hy:Wn 4 y):∃(u v:List Int)(c:Bool),Wn 4 u∧Wn 4 v∧(fa u v c∧(fa x y b→u=x∧v=y∧c=b)∧(¬fa x y b→u=zI∧v=zI∧c=true))∧au Tryz.prog 161 [.agg (cP x y b)] (fun r=>r=.agg (cP u v c)):=by
 obtain⟨o,vo,f1⟩:=Lj x y b hx hy;have hxl:=hx.1;have hyl:=hy.1;have zd:(cP zI zI false).drop 9=[]:=kZ rfl rfl _;have zl:(cP zI zI true).length=9:=rfl;have zt:(cP zI zI true).take 9=cP zI zI true:=bX rfl rfl _;have zl2:(cP zI zI false).length=9:=rfl
 cases o
 ·refine⟨zI,zI,true,d6,d6,⟨lM,fun h=>absurd (vo.2 h) (by decide),fun _=>⟨rfl,rfl,rfl⟩⟩,?_⟩;refine bu Tryz.func161 Tryz.ntmps161 (rs:=[.cell 2 189]) (cy _ _ _) ?_;simp[go_sem,bc hxl hyl,bX hxl hyl];refine ae f1 (cy _ _ _) ?_;simp[go_sem];refine ae fl aw ?_;simp[go_sem,zl,zt,zd,zl2,ar];exact kj rfl
 ·refine⟨x,y,b,hx,hy,⟨vo.1 rfl,fun _=>⟨rfl,rfl,rfl⟩,fun h=>absurd (vo.1 rfl) h⟩,?_⟩;refine bu Tryz.func161 Tryz.ntmps161 (rs:=[.cell 2 189]) (cy _ _ _) ?_;simp[go_sem,bc hxl hyl,bX hxl hyl];refine ae f1 (cy _ _ _) ?_;simp[go_sem,bc hxl hyl,bX hxl hyl,zd,zl2,ar];exact kj rfl
def cV(x y z:List Int):List AV:=cI x++(cI y++cI z)
theorem cz{x y z:List Int}(hx:x.length=4)(hy:y.length=4)(hz:z.length=4):(cV x y z).length=12:=by simp[cV,dc,hx,hy,hz]
theorem bP{x y z:List Int}(hx:x.length=4)(hy:y.length=4)(hz:z.length=4):(cV x y z).take 12=cV x y z:=cx (by rw[cz hx hy hz];omega)
theorem gR{x y z:List Int}(hx:x.length=4)(hy:y.length=4)(hz:z.length=4):(cV x y z).drop 12=[]:=c_ (by rw[cz hx hy hz];omega)
theorem Et{x y z:List Int}(hx:x.length=4):(cV x y z).take 4=cI x:=by
 unfold cV;rw[List.take_append_of_le_length (by rw[dc];omega),aa hx]
theorem Eu{x y z:List Int}(hx:x.length=4)(hy:y.length=4):((cV x y z).drop 4).take 4=cI y:=by
 unfold cV;rw[List.drop_append_of_le_length (by rw[dc];omega),ay hx,List.nil_append,List.take_append_of_le_length (by rw[dc];omega),aa hy]
theorem Bh{x y z:List Int}(hx:x.length=4)(hy:y.length=4)(hz:z.length=4):((cV x y z).drop 8).take 4=cI z:=by
 have e:cV x y z=(cI x++cI y)++cI z:=by simp[cV]
 rw[e,List.drop_append_of_le_length (by simp[dc,hx,hy]),c_ (by simp[dc,hx,hy]),List.nil_append,aa hz]
theorem mE(x y z:List Int):(AV.agg (cV x y z)).deep:=by
 intro v hv;unfold cV at hv;rcases cD.1 hv with hv|hv
 ·exact eF _ v hv
 ·rcases cD.1 hv with hv|hv
  ·exact eF _ v hv
  ·exact eF _ v hv
theorem dC(x y z:List Int):∀v,v∈[AV.agg (cV x y z)]→v.deep:=by
 intro v hv;simp at hv;subst hv;exact mE _ _ _
theorem lO(n:Nat)(x y z:List Int):∀v,v∈cV x y z→v.low1 n:=by
 intro v hv;unfold cV at hv;rcases cD.1 hv with hv|hv
 ·exact aD _ _ v hv
 ·rcases cD.1 hv with hv|hv
  ·exact aD _ _ v hv
  ·exact aD _ _ v hv
theorem ia{Q:AV→Prop}{st:St}{x y z:List Int}(hq:Q (.agg (cV x y z))):eH Q (.agg (cV x y z)) st:=ag (mE _ _ _) hq
theorem O9:ek Tryz.prog 243=some (cV zI zI zI):=by kernel_rfl
attribute [go_sem] O9
def gy:List Int:=[1,0,0,0]
theorem uF:Wn 4 gy:=fW ⟨aq,aq⟩
theorem jQ(x y z:List Int)(hx:Wn 4 x)(hy:Wn 4 y)(hz:Wn 4 z):au Tryz.prog 207 [.agg (cV x y z)] (fun r=>r=.d (.bool (decide (z=zI)))):=by
 have hxl:=hx.1;have hyl:=hy.1;have hzl:=hz.1;refine bu Tryz.func207 Tryz.ntmps207 (rs:=[.tmp 2]) (dC _ _ _) ?_;have iz:bm .u64 [AV.d (.int .u64 0),AV.d (.int .u64 0),AV.d (.int .u64 0),AV.d (.int .u64 0)]=some zI:=dm zI;simp[go_sem,cz hxl hyl hzl,bP hxl hyl hzl,Bh hxl hyl hzl,dm,iz,hzl,ar];exact ag a9 rfl
theorem Bi:V gy=1:=by simp[V,gy]
theorem H7:FV gy=1:=uD 1 aq
theorem Ll:JV gy gy zI=none:=by
 show kW fd (FV gy) (FV gy) (FV zI)=none;rw[qH];exact sJ fd _ _
theorem Lm:lN gy gy zI:=by
 have hz:V zI=0:=by simp[V,zI]
 refine⟨⟨by rw[Bi];decide,by rw[Bi];decide,by rw[hz];decide⟩,by rw[Ll];trivial⟩
theorem Bj:(1:F)≠0:=fd.one
theorem Ob(a:F):a=a*(1*1):=by grobner
theorem Ln(a:F):a=a*(1*1*1):=by grobner
theorem H8(x y:List Int):JV x y gy=some (FV x,FV y):=by
 show kW fd (FV x) (FV y) (FV gy)=_;rw[H7];exact qD fd Bj (Ob _) (Ln _)
theorem Ew{x y:List Int}(h:fa x y false):lN x y gy∧JV x y gy=PV x y false:=by
 have e:JV x y gy=PV x y false:=H8 x y;have ho:=jP h;rcases h with ⟨h,_⟩|⟨_,h1,h2,_⟩
 ·cases h
 ·exact⟨⟨⟨h1,h2,by rw[Bi];decide⟩,by rw[e];exact ho⟩,e⟩
theorem Pe{x y:List Int}(hx:x.length=4)(hy:y.length=4):List.take 8 (cI x++(cI y++List.drop 8 (cI x++[AV.d (.int .u64 0),AV.d (.int .u64 0),AV.d (.int .u64 0),AV.d (.int .u64 0),AV.d (.int .u64 0),AV.d (.int .u64 0),AV.d (.int .u64 0),AV.d (.int .u64 0)])))++(cI [1,0,0,0]++List.drop 12 (cI x++(cI y++List.drop 8 (cI x++[AV.d (.int .u64 0),AV.d (.int .u64 0),AV.d (.int .u64 0),AV.d (.int .u64 0),AV.d (.int .u64 0),AV.d (.int .u64 0),AV.d (.int .u64 0),AV.d (.int .u64 0)]))))=cV x y gy:=by
 match x,y,hx,hy with
 |[a,b,c,d],[e,f,g,h],_,_=>rfl
theorem jx(x y:List Int)(b:Bool)(hx:Wn 4 x)(hy:Wn 4 y):∃(u v w:List Int),Wn 4 u∧Wn 4 v∧Wn 4 w∧(fa x y b→lN u v w∧JV u v w=PV x y b)∧au Tryz.prog 180 [.agg (cP x y b)] (fun r=>r=.agg (cV u v w)):=by
 have hxl:=hx.1;have hyl:=hy.1
 cases b
 ·refine⟨x,y,gy,hx,hy,uF,Ew,?_⟩;refine bu Tryz.func180 Tryz.ntmps180 (rs:=[.cell 2 243]) (cy _ _ _) ?_;have e1:∀c:Bool,(cP x y c).take 4=cI x:=H6 hxl;have e2:∀c:Bool,((cP x y c).drop 4).take 4=cI y:=Lh hxl hyl;simp[go_sem,bc hxl hyl,bX hxl hyl,uE hxl hyl,yh hxl hyl];refine cQ [0,1,2,3] [(4,[5]),(6,[])] 1 (k:=7) ?_;intro G hG;simp[go_sem,bc hxl hyl,e1,e2];refine ae (dA 1) (sK _) ?_;simp[go_sem,hxl,hyl];rw[Pe hxl hyl];refine hG _ _ ?_;have ol:gy.length=4:=rfl;simp[go_sem,cz hxl hyl ol,bP hxl hyl ol,ar];exact ia rfl
 ·refine⟨gy,gy,zI,uF,uF,d6,fun _=>⟨Lm,Ll⟩,?_⟩;refine bu Tryz.func180 Tryz.ntmps180 (rs:=[.cell 2 243]) (cy _ _ _) ?_;simp[go_sem,bc hxl hyl,bX hxl hyl,uE hxl hyl,yh hxl hyl];refine ae (dA 1) (sK _) ?_;simp[go_sem];refine ae (dA 1) (sK _) ?_;simp[go_sem,ar];exact ia (x:=gy) (y:=gy) (z:=zI) rfl
theorem iQ(c:Int)(a:List Int):∀v,v∈[AV.d (.int .u64 c),AV.agg (cI a)]→v.deep:=by
 intro v hv;simp at hv;rcases hv with rfl|rfl;trivial;exact bB _
theorem iy(n:Int)(a:List Int)(hn:bU n)(ha:Wn 4 a):∃r,Wn 4 r∧(V r<pZ∧FV r=FV [n,0,0,0]*FV a)∧au Tryz.prog 211 [.d (.int .u64 n),.agg (cI a)] (fun x=>x=.agg (cI r)):=by
 obtain⟨r,hr,vr,f1⟩:=dU [n,0,0,0] a (fW hn) ha;unfold W2 at f1;have hal:=ha.1;have hrl:=hr.1;have hz:List.drop 4 (cI zI)=[]:=ay rfl;refine⟨r,hr,vr,?_⟩;refine bu Tryz.func211 Tryz.ntmps211 (rs:=[.cell 4 96]) (iQ _ _) ?_;simp[go_sem,hal,aa hal];refine c7 [0,2] [1,3,4] [0,2] (bt 1 (a_ [3,4])) ⟨[(4,.ptr 32 0 0 1)],[(32,⟨96,4,[cI r]⟩)],9000⟩ (k:=5) ?h3 ?hq
 case h3 =>
  intro G hG
  have hW:∀(fr:Fr)(hp:Hp),(fv 4 fr=.ptr 32 0 0 1∧lk 32 hp=some ⟨96,4,[cI r]⟩)→G fr hp:=by
   rintro fr hp⟨q0,q1⟩;exact hG _ _ oy
  simp[go_sem,hal,aa hal,hrl,aa hrl,hz,b7]
  repeat' first|exact hW _ _ ⟨rfl,rfl⟩|(refine hW _ _ ?_;simp[fv,lk];done)|refine ae (dA n) (sK _) ?_|refine ae f1 (ax _ _) ?_|apply And.intro|simp[go_sem,hal,aa hal,hrl,aa hrl,hz,b7]
 case hq =>
  simp[go_sem,hrl,aa hrl,ar];exact bI rfl
theorem OO{x y:List Int}(hx:x.length=4)(hy:y.length=4):List.take 8 (cI x++(cI y++List.drop 8 (cI x++[AV.d (.int .u64 0),AV.d (.int .u64 0),AV.d (.int .u64 0),AV.d (.int .u64 0),AV.d (.int .u64 0),AV.d (.int .u64 0),AV.d (.int .u64 0),AV.d (.int .u64 0)])))=cI x++cI y:=by
 match x,y,hx,hy with
 |[a,b,c,d],[e,f,g,h],_,_=>rfl
theorem Lo{x y:List Int}(hx:x.length=4)(hy:y.length=4):List.drop 12 (cI x++(cI y++List.drop 8 (cI x++[AV.d (.int .u64 0),AV.d (.int .u64 0),AV.d (.int .u64 0),AV.d (.int .u64 0),AV.d (.int .u64 0),AV.d (.int .u64 0),AV.d (.int .u64 0),AV.d (.int .u64 0)])))=[]:=by
 match x,y,hx,hy with
 |[a,b,c,d],[e,f,g,h],_,_=>rfl
theorem nM(x y z:List Int)(hx:Wn 4 x)(hy:Wn 4 y)(hz:Wn 4 z):∃(u v w:List Int),Wn 4 u∧Wn 4 v∧Wn 4 w∧(lN x y z→lN u v w∧JV u v w=sum fd (JV x y z) (JV x y z))∧au Tryz.prog 183 [.agg (cV x y z)] (fun r=>r=.agg (cV u v w)):=by
 obtain⟨y2,h1,g1,f1⟩:=jw y hy;obtain⟨m1,h2,g2,f2⟩:=dU x y2 hx h1;obtain⟨s,h3,g3,f3⟩:=iy 4 m1 ⟨aq,aq⟩ h2;obtain⟨x2,h4,g4,f4⟩:=jw x hx;obtain⟨m,h5,g5,f5⟩:=iy 3 x2 ⟨aq,aq⟩ h4;obtain⟨m2,h6,g6,f6⟩:=jw m h5;obtain⟨s2,h7,g7,f7⟩:=iy 2 s ⟨aq,aq⟩ h3;obtain⟨X,h8,g8,f8⟩:=kY m2 s2 h6 h7;obtain⟨d,h9,g9,f9⟩:=kY s X h3 h8;obtain⟨e,h10,g10,f10⟩:=dU m d h5 h9;obtain⟨y4,h11,g11,f11⟩:=jw y2 h1;obtain⟨y8,h12,g12,f12⟩:=iy 8 y4 ⟨aq,aq⟩ h11;obtain⟨Y,h13,g13,f13⟩:=kY e y8 h10 h12;obtain⟨yz,h14,g14,f14⟩:=dU y z hy hz;obtain⟨Z,h15,g15,f15⟩:=iy 2 yz ⟨aq,aq⟩ h14;obtain⟨wu,wv,ww,h16,h17,h18,g16,f16⟩:=jx zI zI true d6 d6;unfold W1 at f1 f4 f6 f11;unfold W2 at f2 f8 f9 f10 f13 f14;have l1:=h1.1;have l2:=h2.1;have l3:=h3.1;have l4:=h4.1;have l5:=h5.1;have l6:=h6.1;have l7:=h7.1;have l8:=h8.1;have l9:=h9.1;have l10:=h10.1;have l11:=h11.1;have l12:=h12.1;have l13:=h13.1;have l14:=h14.1;have l15:=h15.1;have l16:=h16.1;have l17:=h17.1;have l18:=h18.1;have hxl:=hx.1;have hyl:=hy.1;have hzl:=hz.1;have z4:List.drop 4 (cI zI)=[]:=ay rfl;have vl:=cz hxl hyl hzl;have vt:=bP hxl hyl hzl;have v1:(cV x y z).take 4=cI x:=Et hxl;have v2:=Eu (z:=z) hxl hyl;have v3:=Bh hxl hyl hzl;have iz:bm .u64 [AV.d (.int .u64 0),AV.d (.int .u64 0),AV.d (.int .u64 0),AV.d (.int .u64 0)]=some zI:=dm zI;have f0:=jQ x y z hx hy hz;have wd:(cV zI zI zI).drop 12=[]:=gR rfl rfl rfl;have wl:(cV zI zI zI).length=12:=rfl;have ul:=cz l16 l17 l18;have ut:=bP l16 l17 l18;by_cases q0:z=zI∨y=zI
 ·have vv:lN x y z→lN wu wv ww∧JV wu wv ww=sum fd (JV x y z) (JV x y z):=by
   intro hj;obtain⟨k1,k2⟩:=g16 lM;rcases q0 with q|q
   ·have e:JV x y z=none:=by rw[q];show kW fd _ _ (FV zI)=none;rw[qH];exact sJ fd _ _
    exact⟨k1,by rw[k2,e,yg];exact(cf fd (Q:=none) True.intro).symm⟩
   ·by_cases q1:z=zI
    ·have e:JV x y z=none:=by rw[q1];show kW fd _ _ (FV zI)=none;rw[qH];exact sJ fd _ _
     exact⟨k1,by rw[k2,e,yg];exact(cf fd (Q:=none) True.intro).symm⟩
    ·have hz0:FV z≠0:=fun h=>q1 ((iP hz hj.1.2.2).1 h);exact absurd (by rw[q,qH]) (nI fd hz0 hj.2).2.1
  refine⟨wu,wv,ww,h16,h17,h18,vv,?_⟩;refine bu Tryz.func183 Tryz.ntmps183 (rs:=[.cell 2 243]) (dC _ _ _) ?_;simp[go_sem,vl,vt];refine ae f0 (dC _ _ _) ?_;by_cases q1:z=zI
  ·simp[go_sem,q1];refine ae fl aw ?_;simp[go_sem];refine ae f16 (cy _ _ _) ?_;simp[go_sem,ul,ut,wd,wl,ar];exact ia rfl
  ·have q2:y=zI:=q0.resolve_left q1;simp[go_sem,q1,v2,vl,dm,iz,hyl];refine⟨fun _=>?_,fun h=>absurd q2 h⟩;refine ae fl aw ?_;simp[go_sem];refine ae f16 (cy _ _ _) ?_;simp[go_sem,ul,ut,wd,wl,ar];exact ia rfl
 ·have q1:z≠zI:=fun h=>q0 (.inl h);have q2:y≠zI:=fun h=>q0 (.inr h)
  have vv:lN x y z→lN X Y Z∧JV X Y Z=sum fd (JV x y z) (JV x y z):=by
   intro hj;have hz0:FV z≠0:=fun h=>q1 ((iP hz hj.1.2.2).1 h);obtain⟨_,_,e⟩:=nI fd hz0 hj.2;have n2:FV [2,0,0,0]=2:=uD 2 aq;have n3:FV [3,0,0,0]=3:=uD 3 aq;have n4:FV [4,0,0,0]=4:=uD 4 aq;have n8:FV [8,0,0,0]=8:=uD 8 aq
   have eX:FV X=3*(FV x*FV x)*(3*(FV x*FV x))-2*(4*(FV x*(FV y*FV y))):=by
    rw[g8.2,g6.2,g5.2,g4.2,g7.2,g3.2,g2.2,g1.2,n2,n3,n4]
   have eY:FV Y=3*(FV x*FV x)*(4*(FV x*(FV y*FV y))-(3*(FV x*FV x)*(3*(FV x*FV x))-2*(4*(FV x*(FV y*FV y)))))-8*(FV y*FV y*(FV y*FV y)):=by
    rw[g13.2,g10.2,g9.2,eX,g5.2,g4.2,g3.2,g2.2,g12.2,g11.2,g1.2,n3,n4,n8]
   have eZ:FV Z=2*(FV y*FV z):=by rw[g15.2,g14.2,n2]
   have e2:JV X Y Z=sum fd (JV x y z) (JV x y z):=by
    show kW fd (FV X) (FV Y) (FV Z)=_;rw[eX,eY,eZ];exact e
   exact⟨⟨⟨g8.1,g13.1,g15.1⟩,by rw[e2];exact ki fd hj.2 hj.2⟩,e2⟩
  refine⟨X,Y,Z,h8,h13,h15,vv,?_⟩;refine bu Tryz.func183 Tryz.ntmps183 (rs:=[.cell 2 243]) (dC _ _ _) ?_;simp[go_sem,vl,vt];refine ae f0 (dC _ _ _) ?_;simp[go_sem,q1,q2,v2,vl,dm,iz,hyl];refine ae f1 (av _) ?_;simp[go_sem,l1,aa l1,z4,v1,vl];refine ae f2 (ax _ _) ?_;simp[go_sem];refine ae f3 (iQ _ _) ?_;simp[go_sem,l3,aa l3,z4,v1,vl];refine ae f4 (av _) ?_;simp[go_sem];refine ae f5 (iQ _ _) ?_;simp[go_sem,l5,aa l5,z4];refine c7 [0,2] [1,3,4,5,6] [0,2] (.alt (bt 1 (.alt (bx 3 (.alt (a_ [4,5,6]) (a_ [5,4,6]))) (bt 5 (a_ [3,4,6])))) (bt 5 (bt 1 (a_ [3,4,6])))) ⟨[(1,.ptr 0 0 0 1),(2,.ptr 32 0 0 1),(3,.ptr 416 0 0 1),(4,.ptr 640 0 0 1),(5,.ptr 832 0 0 1),(6,.ptr 1056 0 0 1)],[(1056,⟨96,4,[cI X]⟩),(832,⟨96,4,[cI m]⟩),(640,⟨96,4,[cI s]⟩),(416,⟨96,4,[cI y2]⟩),(32,⟨243,12,[cV zI zI zI]⟩),(0,⟨243,12,[cV x y z]⟩)],9000⟩ (k:=7) ?h3 ?hq
  case h3 =>
   intro G hG
   have hW:∀(fr:Fr)(hp:Hp),(fv 1 fr=.ptr 0 0 0 1∧fv 2 fr=.ptr 32 0 0 1∧fv 3 fr=.ptr 416 0 0 1∧fv 4 fr=.ptr 640 0 0 1∧fv 5 fr=.ptr 832 0 0 1∧fv 6 fr=.ptr 1056 0 0 1∧lk 1056 hp=some ⟨96,4,[cI X]⟩∧lk 832 hp=some ⟨96,4,[cI m]⟩∧lk 640 hp=some ⟨96,4,[cI s]⟩∧lk 416 hp=some ⟨96,4,[cI y2]⟩∧lk 32 hp=some ⟨243,12,[cV zI zI zI]⟩∧lk 0 hp=some ⟨243,12,[cV x y z]⟩)→G fr hp:=by
    rintro fr hp⟨q0,q1,q2,q3,q4,q5,q6,q7,q8,q9,q10,q11⟩;exact hG _ _ oy
   simp[go_sem,l1,l3,l5,l8,l13,aa l1,aa l3,aa l5,aa l8,aa l13,z4,b7]
   repeat' first|exact hW _ _ ⟨rfl,rfl,rfl,rfl,rfl,rfl,rfl,rfl,rfl,rfl,rfl,rfl⟩|(refine hW _ _ ?_;simp[fv,lk];done)|refine ae f6 (av _) ?_|refine ae f7 (iQ _ _) ?_|refine ae f8 (ax _ _) ?_|apply And.intro|simp[go_sem,l1,l3,l5,l8,l13,aa l1,aa l3,aa l5,aa l8,aa l13,z4,b7]
  case hq =>
   simp[go_sem];refine c7 [0,1,2,5] [3,4,6,7,8,9,10] [0,1,2,5] (.alt (bt 3 (.alt (bt 4 (.alt (bx 6 (.alt (bx 7 (.alt (a_ [8,9,10]) (a_ [9,8,10]))) (a_ [9,7,8,10]))) (bt 9 (a_ [6,7,8,10])))) (bt 9 (bt 4 (a_ [6,7,8,10]))))) (bt 9 (bt 3 (bt 4 (a_ [6,7,8,10]))))) ⟨[(1,.ptr 0 0 0 1),(2,.ptr 32 0 0 1),(3,.ptr 416 0 0 1),(4,.ptr 640 0 0 1),(5,.ptr 832 0 0 1),(6,.ptr 1056 0 0 1),(7,.ptr 9288 0 0 1)],[(9288,⟨96,4,[cI Y]⟩),(1056,⟨96,4,[cI X]⟩),(832,⟨96,4,[cI m]⟩),(640,⟨96,4,[cI s]⟩),(416,⟨96,4,[cI y2]⟩),(32,⟨243,12,[cV zI zI zI]⟩),(0,⟨243,12,[cV x y z]⟩)],20000⟩ (k:=11) ?h3 ?hq
   case h3 =>
    intro G hG
    have hW:∀(fr:Fr)(hp:Hp),(fv 1 fr=.ptr 0 0 0 1∧fv 2 fr=.ptr 32 0 0 1∧fv 3 fr=.ptr 416 0 0 1∧fv 4 fr=.ptr 640 0 0 1∧fv 5 fr=.ptr 832 0 0 1∧fv 6 fr=.ptr 1056 0 0 1∧fv 7 fr=.ptr 9288 0 0 1∧lk 9288 hp=some ⟨96,4,[cI Y]⟩∧lk 1056 hp=some ⟨96,4,[cI X]⟩∧lk 832 hp=some ⟨96,4,[cI m]⟩∧lk 640 hp=some ⟨96,4,[cI s]⟩∧lk 416 hp=some ⟨96,4,[cI y2]⟩∧lk 32 hp=some ⟨243,12,[cV zI zI zI]⟩∧lk 0 hp=some ⟨243,12,[cV x y z]⟩)→G fr hp:=by
     rintro fr hp⟨q0,q1,q2,q3,q4,q5,q6,q7,q8,q9,q10,q11,q12,q13⟩;exact hG _ _ oy
    simp[go_sem,l1,l3,l5,l8,l13,aa l1,aa l3,aa l5,aa l8,aa l13,z4,b7]
    repeat' first|exact hW _ _ ⟨rfl,rfl,rfl,rfl,rfl,rfl,rfl,rfl,rfl,rfl,rfl,rfl,rfl,rfl⟩|(refine hW _ _ ?_;simp[fv,lk];done)|refine ae f9 (ax _ _) ?_|refine ae f10 (ax _ _) ?_|refine ae f11 (av _) ?_|refine ae f12 (iQ _ _) ?_|refine ae f13 (ax _ _) ?_|apply And.intro|simp[go_sem,l1,l3,l5,l8,l13,aa l1,aa l3,aa l5,aa l8,aa l13,z4,b7]
   case hq =>
    simp only[go_sem,Nat.reduceEqDiff,Nat.reduceAdd,Nat.reduceLT,↓reduceIte];refine cQ [0,1,2,3,4,5] [(6,[]),(7,[8]),(9,[])] 2 (k:=10) ?_;intro G hG;simp[go_sem,l8,l13,aa l8,aa l13,v2,v3,vl];refine ae f14 (ax _ _) ?_;simp[go_sem];refine ae f15 (iQ _ _) ?_;have ev:cI X++(cI Y++cI Z)=cV X Y Z:=rfl;have xl:=cz l8 l13 l15;have xt:=bP l8 l13 l15;simp[go_sem,l8,l13,l15,wl,wd,OO l8 l13,Lo l8 l13,ev,xl,b7];refine hG _ _ ?_;simp[go_sem,xl,xt,ar];exact ia rfl
theorem OP{x y:List Int}(hx:x.length=4)(hy:y.length=4):cI x++(cI y++List.drop 8 (cI x++[AV.d (.int .u64 0),AV.d (.int .u64 0),AV.d (.int .u64 0),AV.d (.int .u64 0),AV.d (.bool false)]))=cP x y false:=by
 match x,y,hx,hy with
 |[a,b,c,d],[e,f,g,h],_,_=>rfl
theorem Bl(x y z:List Int)(hx:Wn 4 x)(hy:Wn 4 y)(hz:Wn 4 z):∃(u v:List Int)(c:Bool),Wn 4 u∧Wn 4 v∧(lN x y z→fa u v c∧PV u v c=JV x y z)∧au Tryz.prog 185 [.agg (cV x y z)] (fun r=>r=.agg (cP u v c)):=by
 obtain⟨i,h1,g1,f1⟩:=Le z hz;obtain⟨i2,h2,g2,f2⟩:=jw i h1;obtain⟨X,h3,g3,f3⟩:=dU x i2 hx h2;obtain⟨i3,h4,g4,f4⟩:=dU i2 i h2 h1;obtain⟨Y,h5,g5,f5⟩:=dU y i3 hy h4;unfold W1 at f1 f2;unfold W2 at f3 f4 f5;have l1:=h1.1;have l2:=h2.1;have l3:=h3.1;have l5:=h5.1;have hxl:=hx.1;have hyl:=hy.1;have hzl:=hz.1;have z4:List.drop 4 (cI zI)=[]:=ay rfl;have vl:=cz hxl hyl hzl;have vt:=bP hxl hyl hzl;have v1:(cV x y z).take 4=cI x:=Et hxl;have v2:=Eu (z:=z) hxl hyl;have v3:=Bh hxl hyl hzl;have f0:=jQ x y z hx hy hz;have zd:(cP zI zI false).drop 9=[]:=kZ rfl rfl _;have zl:(cP zI zI true).length=9:=rfl;have zt:(cP zI zI true).take 9=cP zI zI true:=bX rfl rfl _;have zl2:(cP zI zI false).length=9:=rfl;by_cases q1:z=zI
 ·have vv:lN x y z→fa zI zI true∧PV zI zI true=JV x y z:=by
   intro _;refine⟨lM,?_⟩;rw[q1,yg];show none=kW fd _ _ (FV zI);rw[qH];exact(sJ fd _ _).symm
  refine⟨zI,zI,true,d6,d6,vv,?_⟩;refine bu Tryz.func185 Tryz.ntmps185 (rs:=[.cell 2 189]) (dC _ _ _) ?_;simp[go_sem,vl,vt];refine ae f0 (dC _ _ _) ?_;simp[go_sem,q1];refine ae fl aw ?_;simp[go_sem,zl,zt,zd,zl2,ar];exact kj rfl
 ·have vv:lN x y z→fa X Y false∧PV X Y false=JV x y z:=by
   intro hj;have hz0:FV z≠0:=fun h=>q1 ((iP hz hj.1.2.2).1 h)
   have e:PV X Y false=JV x y z:=by
    show some (FV X,FV Y)=kW fd (FV x) (FV y) (FV z);rw[kW,if_neg hz0,g3.2,g5.2,g4.2,g2.2,g1.2]
   have ho:dL (PV X Y false):=by rw[e];exact hj.2
   exact⟨.inr ⟨rfl,g3.1,g5.1,ho⟩,e⟩
  refine⟨X,Y,false,h3,h5,vv,?_⟩;refine bu Tryz.func185 Tryz.ntmps185 (rs:=[.cell 2 189]) (dC _ _ _) ?_;simp[go_sem,vl,vt];refine ae f0 (dC _ _ _) ?_;simp[go_sem,q1,v3,vl];refine ae f1 (av _) ?_;simp[go_sem,l1,aa l1,z4];refine ae f2 (av _) ?_;simp[go_sem,l2,aa l2,z4];refine cQ [0,1,2,4,5,6,7] [(3,[]),(8,[]),(9,[10]),(11,[])] 3 (k:=12) ?_;intro G hG;simp[go_sem,l1,l2,aa l1,aa l2,v1,v2,vl];refine ae f3 (ax _ _) ?_;simp[go_sem,l1,l2,aa l1,aa l2,v1,v2,vl];refine ae f4 (ax _ _) ?_;simp[go_sem];refine ae f5 (ax _ _) ?_;have pl1:=bc l3 l5 false;have pt1:=bX l3 l5 false;have mp:=OP l3 l5;simp[go_sem,l3,l5,zl2,zd,mp,pl1,b7];refine hG _ _ ?_;simp[go_sem,pl1,pt1,ar];exact kj rfl
theorem H9(n:List Int)(k:Nat)(hn:Wn 4 n)(hk:k<256):∃b:Bool,(b=true↔(V n).toNat/2 ^ k%2=1)∧au Tryz.prog 184 [.agg (cI n),.d (.int .i64 (k:Int))] (fun r=>r=.d (.bool b)):=by
 have hnl:=hn.1;have hdq:dq k=k/64:=rfl;have hrq:rq k=k%64:=rfl;have hnk:=fH (l:=n) (k:=dq k) aq;have w4:IntKind.i64.wrap ((k:Int)/64)=(dq k:Int):=by rw[IntWalk.i64_in _ aq];omega
 have w4b:IntKind.i64.wrap ((k:Int).tdiv 64)=(dq k:Int):=w4;have e2:(k:Int)%64=(rq k:Int):=aq;have e2b:(k:Int).tmod 64=(rq k:Int):=e2;have i1:(dq k:Int)<4:=aq;have hm64:rq k<64:=aq;have hmn:min (rq k) 64=rq k:=aq;have bv:=Fz hn hk
 have hv:(!decide (Go.bits .and .u64 (Int.fdiv (gI n (dq k)) (2 ^ rq k)) 1=0))=true↔(V n).toNat/2 ^ k%2=1:=by
  rw[Bool.not_eq_true',decide_eq_false_iff_not];refine⟨fun h=>bv.2 h,fun h h0=>?_⟩;have:=bv.1 h0;omega
 refine⟨!decide (Go.bits .and .u64 (Int.fdiv (gI n (dq k)) (2 ^ rq k)) 1=0),hv,?_⟩;refine bu Tryz.func184 Tryz.ntmps184 (rs:=[.tmp 4]) (vW _ _) ?_;simp[go_sem,hnl,aa hnl,hnk,e2,e2b,w4,w4b,i1,hm64,hmn,IntKind.bits,ar];exact ag a9 rfl
theorem wo(x y:List Int)(b:Bool)(hx:Wn 4 x)(hy:Wn 4 y):∃o:Bool,(fa x y b→(o=true↔b=false∧V y%2=0))∧au Tryz.prog 127 [.agg (cP x y b)] (fun r=>r=.d (.bool o)):=by
 obtain⟨u,v,c,hu,hv,tv,f1⟩:=lb x y b hx hy;have hxl:=hx.1;have hyl:=hy.1;have hul:=hu.1;have hvl:=hv.1;have xd:(cP x y b).drop 9=[]:=kZ hxl hyl _
 have g4:(cP u v false)[4]?=some (.d (.int .u64 (gI v 0))):=by
  unfold cP;rw[dn (by rw[dc];omega),dc,hul,List.getElem?_append_left (by rw[dc];omega),uk,fH aq];rfl
 have g4b:∀h,(cP u v false)[4]'h=.d (.int .u64 (gI v 0)):=fun h=>(ci.1 g4).2
 cases c
 ·have hpar:Go.bits .and .u64 (gI v 0) 1=0↔V v%2=0:=by
   have h0:=bK (k:=0) hv;rw[qx _ h0.1 h0.2];obtain⟨r0,r1,r2,r3,e,_⟩:=fJ hv;rw[e,V4];show r0%2=0↔_;omega
  have ev:fa x y b→(decide (Go.bits .and .u64 (gI v 0) 1=0)=true↔b=false∧V y%2=0):=by
   intro hp;obtain⟨_,e2,e3⟩:=tv.2.1 hp;rw[decide_eq_true_iff,hpar,e2];exact⟨fun h=>⟨e3.symm,h⟩,fun h=>h.2⟩
  refine⟨decide (Go.bits .and .u64 (gI v 0) 1=0),ev,?_⟩;refine bu Tryz.func127 Tryz.ntmps127 (rs:=[.tmp 2]) (cy _ _ _) ?_;simp[go_sem,bc hxl hyl,bX hxl hyl];refine ae f1 (cy _ _ _) ?_;simp[go_sem,bc hxl hyl,bc hul hvl,xd,uE hul hvl,yh hul hvl,g4,g4b,ar];exact ag a9 rfl
 ·have ev:fa x y b→(false=true↔b=false∧V y%2=0):=by
   intro hp;obtain⟨_,_,e3⟩:=tv.2.1 hp;rw[←e3];exact⟨fun h=>Bool.noConfusion h,fun h=>Bool.noConfusion h.1⟩
  refine⟨false,ev,?_⟩;refine bu Tryz.func127 Tryz.ntmps127 (rs:=[.tmp 2]) (cy _ _ _) ?_;simp[go_sem,bc hxl hyl,bX hxl hyl];refine ae f1 (cy _ _ _) ?_;simp[go_sem,bc hxl hyl,bc hul hvl,xd,uE hul hvl,yh hul hvl,ar];exact ag a9 rfl
def gX:List Int:=[6481385041966929816,188021827762530521,6170039885052185351,8772561819708210092]
theorem Lp:Wn 4 gX:=⟨rfl,by intro y hy;simp[gX]at hy;rcases hy with rfl|rfl|rfl|rfl<;>exact⟨aq,aq⟩⟩
def gY:List Int:=[11261198710074299576,18237243440184513561,6747795201694173352,5204712524664259685]
theorem Lq:Wn 4 gY:=⟨rfl,by intro y hy;simp[gY]at hy;rcases hy with rfl|rfl|rfl|rfl<;>exact⟨aq,aq⟩⟩
def yi:List Int:=[13822214165235122497,13451932020343611451,18446744073709551614,18446744073709551615]
theorem wy:Wn 4 yi:=⟨rfl,by intro y hy;simp[yi]at hy;rcases hy with rfl|rfl|rfl|rfl<;>exact⟨aq,aq⟩⟩
theorem jy:au Tryz.prog 158 [] (fun r=>r=.agg (cI yi)):=by
 refine bu Tryz.func158 Tryz.ntmps158 (rs:=[.cell 0 96]) a9 ?_;simp[go_sem,cI,zI,ar];exact bI (a:=yi) rfl
theorem qI:fa gX gY false:=by
 have vx:V gX=55066263022277343669578718895168534326250603453777594175500187360389116729240:=by simp[V,gX]
 have vy:V gY=32670510020758816978083085130507043184471273380659243275938904335757337482424:=by simp[V,gY]
 refine .inr ⟨rfl,by rw[vx];decide,by rw[vy];decide,jW ?_⟩
 have e7:(((7:F).val:Nat):Int)=7%pZ:=by
  show((7%pP:Nat):Int)=_;rw[Int.natCast_emod,de];rfl
 rw[mq,ye,mq,mq,Int.natCast_emod,Int.natCast_mul,Int.natCast_emod,Int.natCast_add,Int.natCast_emod,Int.natCast_mul,Int.natCast_emod,Int.natCast_mul,cv,cv,e7,de,vx,vy];decide
theorem wA:au Tryz.prog 126 [] (fun r=>r=.agg (cP gX gY false)):=by
 refine bu Tryz.func126 Tryz.ntmps126 (rs:=[.cell 0 189]) a9 ?_;simp[go_sem,cP,cI,zI,ar];exact kj (x:=gX) (y:=gY) (b:=false) rfl
theorem mF:∀(l:List Nat),(∀x,x∈l→x<256)→∀a,l.foldl (fun a x=>a*256+x) a<(a+1)*256 ^ l.length
 |[],_,a=>by simp
 |x::r,h,a=>by
  have h1:=mF r (fun y hy=>h y (by simp[hy])) (a*256+x);have h2:=h x aw;rw[List.foldl_cons,List.length_cons,Nat.pow_succ];have h3:(a*256+x+1)*256 ^ r.length≤((a+1)*256)*256 ^ r.length:=d9 _ aq;have h4:(a+1)*256*256 ^ r.length=(a+1)*(256 ^ r.length*256):=by rw[Nat.mul_assoc,Nat.mul_comm 256]
  omega
theorem uc{l:List Nat}(h:∀x,x∈l→x<256)(hl:l.length≤8):dY l<18446744073709551616:=by
 have h1:=mF l h 0;have h2:256 ^ l.length≤256 ^ 8:=Nat.pow_le_pow_right aq hl;have h3:(256:Nat) ^ 8=18446744073709551616:=by decide
 unfold dY;omega
theorem mG(a b:List Nat):dY (a++b)=dY a*256 ^ b.length+dY b:=by
 have key:∀(l:List Nat)(c:Nat),l.foldl (fun a x=>a*256+x) c=c*256 ^ l.length+l.foldl (fun a x=>a*256+x) 0:=by
  intro l
  induction l with
  |nil=>intro c;simp
  | cons x r ih =>
   intro c;rw[List.foldl_cons,List.foldl_cons,ih,ih (0*256+x),List.length_cons,Nat.pow_succ]
   have:(c*256+x)*256 ^ r.length=c*(256 ^ r.length*256)+(0*256+x)*256 ^ r.length:=by
    rw[Nat.add_mul,Nat.mul_assoc,Nat.mul_comm 256,Nat.zero_mul,Nat.zero_add]
   omega
 unfold dY;rw[List.foldl_append,key]
theorem Ia{b:List Nat}(hb:b.length=32):V ((oG b 32).map fun(x:Nat)=>(x:Int))=(dY b:Int):=by
 have e:b=Go.Sha.part b 32 3++(Go.Sha.part b 32 2++(Go.Sha.part b 32 1++Go.Sha.part b 32 0)):=by
  unfold Go.Sha.part;have h32:b.take 32=b:=cx aq;rw[h32];have h0:(b.drop (8*(3-0))).take 8=b.drop 24:=cx (by rw[et];omega)
  have s2:(b.drop (8*(3-1))).take 8++b.drop 24=b.drop 16:=by
   have:b.drop 24=(b.drop 16).drop 8:=by rw[List.drop_drop]
   rw[this];exact List.take_append_drop 8 _
  have s3:(b.drop (8*(3-2))).take 8++b.drop 16=b.drop 8:=by
   have:b.drop 16=(b.drop 8).drop 8:=by rw[List.drop_drop]
   rw[this];exact List.take_append_drop 8 _
  rw[h0,s2,s3];exact(List.take_append_drop 8 b).symm
 have l0:∀j,j<4→(Go.Sha.part b 32 j).length=8:=by
  intro j hj;unfold Go.Sha.part;rw[List.length_take,et,List.length_take];omega
 have m:oG b 32=[dY (Go.Sha.part b 32 0),dY (Go.Sha.part b 32 1),dY (Go.Sha.part b 32 2),dY (Go.Sha.part b 32 3)]:=rfl
 have k:dY b=((dY (Go.Sha.part b 32 3)*256 ^ 8+dY (Go.Sha.part b 32 2))*256 ^ 8+dY (Go.Sha.part b 32 1))*256 ^ 8+dY (Go.Sha.part b 32 0):=by
  conv=>lhs;rw[e]
  rw[←cA,←cA,mG,l0 0 aq,mG,l0 1 aq,mG,l0 2 aq]
 rw[m,k];simp only[List.map_cons,List.map_nil,V4];generalize dY (Go.Sha.part b 32 0)=p0;generalize dY (Go.Sha.part b 32 1)=p1;generalize dY (Go.Sha.part b 32 2)=p2;generalize dY (Go.Sha.part b 32 3)=p3;omega
theorem nO(b:List Nat)(hb:b.length=32)(hby:bytes b):∃a:List Int,Wn 4 a∧V a=(dY b:Int)∧au Tryz.prog 164 [.agg (cb b)] (fun r=>r=.agg (cI a)):=by
 refine⟨(oG b 32).map fun(x:Nat)=>(x:Int),⟨by simp[oG],fun x hx=>?_⟩,Ia hb,?_⟩
 ·rw[List.mem_map]at hx;obtain⟨y,hy,rfl⟩:=hx;unfold oG at hy;rw[List.mem_map]at hy;obtain⟨j,_,rfl⟩:=hy;have:=uc (l:=Go.Sha.part b 32 j) (fun x hx=>hby x (List.mem_of_mem_take (List.mem_of_mem_drop (List.mem_of_mem_take hx)))) (by unfold Go.Sha.part;rw[List.length_take];omega);exact⟨Int.natCast_nonneg _,aq⟩
 ·have e:cI ((oG b 32).map fun(x:Nat)=>(x:Int))=cW (oG b 32):=by unfold cI cW;rw[List.map_map];rfl
  rw[e];exact D1 b hb hby
theorem cG(b:List Nat):∀v,v∈[AV.agg (cb b)]→v.deep:=by
 intro v hv;simp at hv;subst hv;exact eD _
theorem Bm(b:List Nat)(hb:b.length=32)(hby:bytes b):∃(r:List Int)(ok:Bool),Wn 4 r∧((dY b<115792089237316195423570985008687907852837564279074904382605163141518161494337→ok=true∧V r=(dY b:Int))∧(¬dY b<115792089237316195423570985008687907852837564279074904382605163141518161494337→ok=false∧r=zI))∧au Tryz.prog 178 [.agg (cb b)] (fun x=>x=.tup [.agg (cI r),.d (.bool ok)]):=by
 obtain⟨a,ha,va,f1⟩:=nO b hb hby;obtain⟨c,vc,f2⟩:=wj a yi ha wy;have vo:V yi=115792089237316195423570985008687907852837564279074904382605163141518161494337:=by simp[V,yi]
 rw[vo,va]at vc;have hal:=ha.1;have hz:List.drop 4 (cI zI)=[]:=ay rfl;have zd:List.drop 32 (cb b)=[]:=iK hb;by_cases h0:0≤c
 ·refine⟨zI,false,d6,⟨fun h=>absurd (vc.2 aq) aq,fun _=>⟨rfl,rfl⟩⟩,?_⟩;refine bu Tryz.func178 Tryz.ntmps178 (rs:=[.cell 2 96,.tmp 3]) (cG b) ?_;simp[go_sem,ap,hb,aA hb,zd];refine ae f1 (cG _) ?_;simp[go_sem,hal,aa hal,hz];refine cQ [0] [(1,[]),(2,[3])] 2 (k:=4) ?_;intro G hG;simp[go_sem,hal,aa hal];refine ae jy aw ?_;simp[go_sem];refine ae f2 (ax _ _) ?_;simp[go_sem,b7];refine hG _ _ ?_;simp[go_sem,h0,hz,ar];exact kU (a:=zI) rfl
 ·refine⟨a,true,ha,⟨fun _=>⟨rfl,va⟩,fun h=>absurd (vc.1 aq) aq⟩,?_⟩;refine bu Tryz.func178 Tryz.ntmps178 (rs:=[.cell 2 96,.tmp 3]) (cG b) ?_;simp[go_sem,ap,hb,aA hb,zd];refine ae f1 (cG _) ?_;simp[go_sem,hal,aa hal,hz];refine cQ [0] [(1,[]),(2,[3])] 2 (k:=4) ?_;intro G hG;simp[go_sem,hal,aa hal];refine ae jy aw ?_;simp[go_sem];refine ae f2 (ax _ _) ?_;simp[go_sem,b7];refine hG _ _ ?_;simp[go_sem,h0,hal,aa hal,hz,ar];exact kU rfl
theorem qJ{Q:AV→Prop}{st:St}{x y:List Int}{c b:Bool}(hq:Q (.tup [.agg (cP x y c),.d (.bool b)])):eH Q (.tup [.agg (cP x y c),.d (.bool b)]) st :=
 ag (by
  intro c hc;simp at hc;rcases hc with rfl|rfl
  ·exact .inr ⟨_,rfl,cN _ _ _⟩
  ·exact .inl trivial) hq
def gq(n:Nat):Int:=((n:Int)*n*n+7)%115792089237316195423570985008687907853269984665640564039457584007908834671663
def fK(n:Nat):Int:=gq n ^ 28948022309329048855892746252171976963317496166410141009864396001977208667916%115792089237316195423570985008687907853269984665640564039457584007908834671663
def km(n:Nat):Prop:=(n:Int)<115792089237316195423570985008687907853269984665640564039457584007908834671663∧fK n*fK n%115792089237316195423570985008687907853269984665640564039457584007908834671663=gq n%115792089237316195423570985008687907853269984665640564039457584007908834671663
def Bn(n:Nat)(x y:List Int)(c ok:Bool):Prop :=
 (¬km n∧ok=false∧c=true∧x=zI∧y=zI)∨(km n∧ok=true∧c=false∧V x=n∧V y=if fK n%2=0 then fK n else(0-fK n)%115792089237316195423570985008687907853269984665640564039457584007908834671663)
theorem Ey{r a:List Int}{n:Nat}(hr:Wn 4 r)(va:V a=n)(vr:V r<pZ∧FV r=FV a*FV a*FV a+7):V r=gq n:=by
 have e:=congrArg (fun x:F=>((x.val:Nat):Int)) vr.2;simp only[cv]at e
 have e7:(((7:F).val:Nat):Int)=7%pZ:=by
  show((7%pP:Nat):Int)=_;rw[Int.natCast_emod,de];rfl
 have h0:=(cJ hr).1;rw[Int.emod_eq_of_lt h0 vr.1]at e;rw[e,ye,mq,mq,Int.natCast_emod,Int.natCast_add,Int.natCast_emod,Int.natCast_mul,Int.natCast_emod,Int.natCast_mul,cv,e7,de,va];unfold gq;show _=((n:Int)*n*n+7)%pZ;rw[←Int.mul_emod (n:Int) n,←Int.mul_emod ((n:Int)*n) n,←Int.add_emod]
theorem sM(b:List Nat)(hb:b.length=32)(hby:bytes b):∃(x y:List Int)(c ok:Bool),Wn 4 x∧Wn 4 y∧(Bn (dY b) x y c ok)∧au Tryz.prog 165 [.agg (cb b)] (fun r=>r=.tup [.agg (cP x y c),.d (.bool ok)]):=by
 obtain⟨a,ha,va,f1⟩:=nO b hb hby;obtain⟨o,vo,f2⟩:=nL a ha;obtain⟨r,hr,vr,f3⟩:=sL a ha;obtain⟨y,ok,hy,vk,vy,vno,f4⟩:=AO r hr;have hrv:V r=gq (dY b):=Ey hr va vr;rw[va]at vo;rw[hrv]at vk vy;unfold W1 at f3;have hal:=ha.1;have hyl:=hy.1;have hz:List.drop 4 (cI zI)=[]:=ay rfl;have zd:List.drop 32 (cb b)=[]:=iK hb;have pd:(cP zI zI false).drop 9=[]:=kZ rfl rfl _;have zl:(cP zI zI true).length=9:=rfl;have zt:(cP zI zI true).take 9=cP zI zI true:=bX rfl rfl _;have zl2:(cP zI zI false).length=9:=rfl
 cases o
 ·refine⟨zI,zI,true,false,d6,d6,.inl ⟨fun h=>absurd (vo.2 h.1) (by decide),rfl,rfl,rfl,rfl⟩,?_⟩;refine bu Tryz.func165 Tryz.ntmps165 (rs:=[.cell 2 189,.tmp 3]) (cG b) ?_;simp[go_sem,ap,hb,aA hb,zd];refine ae f1 (cG _) ?_;simp[go_sem,hal,aa hal,hz];refine ae f2 (av _) ?_;simp[go_sem];refine ae fl aw ?_;simp[go_sem,zl,zt,pd,zl2,ar];exact qJ rfl
 ·cases ok
  ·refine⟨zI,zI,true,false,d6,d6,.inl ⟨fun h=>absurd (vk.2 h.2) (by decide),rfl,rfl,rfl,rfl⟩,?_⟩;refine bu Tryz.func165 Tryz.ntmps165 (rs:=[.cell 2 189,.tmp 3]) (cG b) ?_;simp[go_sem,ap,hb,aA hb,zd];refine ae f1 (cG _) ?_;simp[go_sem,hal,aa hal,hz];refine ae f2 (av _) ?_;simp[go_sem,hal,aa hal];refine ae f3 (av _) ?_;simp[go_sem];refine ae f4 (av _) ?_;simp[go_sem,hyl,aa hyl,hz];refine ae fl aw ?_;simp[go_sem,zl,zt,pd,zl2,ar];exact qJ rfl
  ·refine⟨a,y,false,true,ha,hy,.inr ⟨⟨vo.1 rfl,vk.1 rfl⟩,rfl,rfl,va,vy rfl⟩,?_⟩;refine bu Tryz.func165 Tryz.ntmps165 (rs:=[.cell 2 189,.tmp 3]) (cG b) ?_;simp[go_sem,ap,hb,aA hb,zd];refine ae f1 (cG _) ?_;simp[go_sem,hal,aa hal,hz];refine ae f2 (av _) ?_;simp[go_sem,hal,aa hal];refine ae f3 (av _) ?_;simp[go_sem];refine ae f4 (av _) ?_;have mp:=OP hal hyl;have pl1:=bc hal hyl false;have pt1:=bX hal hyl false;simp[go_sem,hal,hyl,aa hal,aa hyl,hz,mp,pl1,pt1,pd,zl2,ar];exact qJ rfl
def d8(i:Nat):Nat:=i/8
def r8(i:Nat):Nat:=8*(i%8)
def Ib(a:List Int)(k:Nat):Nat:=(IntKind.u8.wrap (Int.fdiv (gI a (d8 k)) (2 ^ r8 k))).toNat
def B7(a:List Int)(k:Nat)(l:List Nat):List Nat:=l.set (31-k) (Ib a k)
theorem Bo(a:List Int)(k:Nat):IntKind.u8.wrap (Int.fdiv (gI a (d8 k)) (2 ^ r8 k))=((Ib a k:Nat):Int):=by
 unfold Ib;have:IntKind.u8.wrap (Int.fdiv (gI a (d8 k)) (2 ^ r8 k))=(Int.fdiv (gI a (d8 k)) (2 ^ r8 k))%256:=by simp[IntKind.wrap,IntKind.bits,IntKind.signed]
 rw[this];omega
theorem Ic(a:List Int)(k:Nat):Ib a k<256:=by
 have h:=Bo a k;have:IntKind.u8.wrap (Int.fdiv (gI a (d8 k)) (2 ^ r8 k))=(Int.fdiv (gI a (d8 k)) (2 ^ r8 k))%256:=by simp[IntKind.wrap,IntKind.bits,IntKind.signed]
 rw[this]at h;omega
theorem uG(a:List Int):∀k,(dj (B7 a) z32 k).length=32∧bytes (dj (B7 a) z32 k) :=
 fi (P:=fun _ l=>l.length=32∧bytes l) ⟨rfl,fun x hx=>by simp[z32]at hx;omega⟩ fun k l hl=>by
  refine⟨by unfold B7;rw[List.length_set];exact hl.1,fun x hx=>?_⟩;rcases List.mem_or_eq_of_mem_set hx with hx|rfl
  ·exact hl.2 x hx
  ·exact Ic _ _
theorem Lr{a:List Int}(ha:Wn 4 a){k:Nat}(hk:k<32):Ib a k=(V a).toNat/256 ^ k%256:=by
 have hw:=AL ha (j:=k/8) aq;have hi:=Bo a k;have hu:IntKind.u8.wrap (Int.fdiv (gI a (d8 k)) (2 ^ r8 k))=(Int.fdiv (gI a (d8 k)) (2 ^ r8 k))%256:=by simp[IntKind.wrap,IntKind.bits,IntKind.signed]
 have hd:d8 k=k/8:=rfl;have hr:r8 k=8*(k%8):=rfl;rw[hu,hd,hr,←hw,Int.fdiv_eq_ediv_of_nonneg _ (Int.le_of_lt (Int.pow_pos aq))]at hi;generalize(V a).toNat=N at *
 have h1:Ib a k=N/2 ^ (64*(k/8))%2 ^ 64/2 ^ (8*(k%8))%256:=by
  have e:∀(z s:Nat),(((z/2 ^ s%256:Nat)):Int)=(z:Int)/2 ^ s%256:=fun z s=>by rw[Int.natCast_emod,Int.natCast_ediv,Int.natCast_pow];rfl
  exact(Int.ofNat_inj.1 ((e _ _).trans hi)).symm
 rw[h1];have e64:(2:Nat) ^ 64=2 ^ (8*(k%8))*2 ^ (64-8*(k%8)):=by rw[←Nat.pow_add];congr 1;omega
 have e8:(256:Nat)∣2 ^ (64-8*(k%8)):=⟨2 ^ (56-8*(k%8)),by rw[show(256:Nat)=2 ^ 8 from rfl,←Nat.pow_add];congr 1;omega⟩
 have e256:(256:Nat) ^ k=2 ^ (64*(k/8))*2 ^ (8*(k%8)):=by
  rw[show(256:Nat)=2 ^ 8 from rfl,←Nat.pow_mul,←Nat.pow_add];congr 1;omega
 rw[e64,Nat.mod_mul_right_div_self,Nat.mod_mod_of_dvd _ e8,Nat.div_div_eq_div_mul,←e256]
def uH(a:List Int):Nat→List Nat
 |0=>[]
 |k+1=>Ib a k::uH a k
theorem sN(a:List Int):∀k,(uH a k).length=k
 |0=>rfl
 |k+1=>by rw[uH,List.length_cons,sN a k]
theorem nP(x:Nat)(l:List Nat):dY (x::l)=x*256 ^ l.length+dY l:=by
 have:=mG [x] l;have e:dY [x]=x:=by simp[dY]
 rw[e]at this;exact this
theorem Bq{a:List Int}(ha:Wn 4 a):∀k,k≤32→dY (uH a k)=(V a).toNat%256 ^ k
 |0,_=>by rw[uH,Nat.pow_zero,Nat.mod_one];rfl
 |k+1,h=>by
  rw[uH,nP,sN,Bq ha k aq,Lr ha aq,Nat.mod_pow_succ,Nat.mul_comm,Nat.add_comm]
theorem wB(a:List Int):∀k,k≤32→dj (B7 a) z32 k=List.replicate (32-k) 0++uH a k
 |0,_=>rfl
 |k+1,h=>by
  rw[dj,wB a k aq];unfold B7;have e:32-k=(31-k)+1:=aq;have e2:32-(k+1)=31-k:=aq;rw[e,e2,List.replicate_succ',cA,List.set_append_right _ _ aw,List.length_replicate,Nat.sub_self];rfl
theorem Ls{a:List Int}(ha:Wn 4 a):dY (dj (B7 a) z32 32)=(V a).toNat:=by
 rw[wB a 32 aq,Nat.sub_self,List.replicate_zero,List.nil_append,Bq ha 32 aq];have h:=cJ ha
 exact Nat.mod_eq_of_lt (by
  have:(256:Nat) ^ 32=115792089237316195423570985008687907853269984665640564039457584007913129639936:=by decide
  omega)
theorem pA(a:List Int)(ha:Wn 4 a):∃b:List Nat,b.length=32∧bytes b∧dY b=(V a).toNat∧au Tryz.prog 85 [.agg (cI a)] (fun r=>r=.agg (cb b)):=by
 refine⟨dj (B7 a) z32 32,(uG a 32).1,(uG a 32).2,Ls ha,?_⟩;refine bu Tryz.func85 Tryz.ntmps85 (rs:=[.cell 2 29]) (av a) ?_;have hal:=ha.1;simp[go_sem,hal,aa hal];generalize hSS:dj (B7 a) z32=S at *;have hS:=uG a;rw[hSS]at hS
 refine am (fun k:Nat=>⟨[(1,.ptr 0 0 0 1),(2,.ptr 32 0 0 1),(3,.ptr 64 0 0 1),(5,.d (.int .i64 (k:Int)))],[(64,⟨29,32,[cb (S k)]⟩),(32,⟨29,32,[cb z32]⟩),(0,⟨96,4,[cI a]⟩)],20000⟩)
  (fun k=>k≤32) (fun k=>32-k) 0 aq (by
   rw[←hSS];simp[ak,ah,fv,lk,AV.low,AV.low1,dj]
   and_intros<;>first|rfl|exact aD _ _|exact aC _ _) ?_
 intro k hk;obtain⟨hs1,hs2⟩:=hS k;have w3:=al (k:=k) aq;simp only[go_sem,Nat.reduceEqDiff,Nat.reduceAdd,Nat.reduceLT,↓reduceIte];by_cases h4:k<32
 ·refine⟨fun h=>?_,fun h=>absurd (by exact_mod_cast h4) h⟩;have hsn:S (k+1)=B7 a k (S k):=by rw[←hSS];rfl
  have hdq:d8 k=k/8:=rfl;have hrq:r8 k=8*(k%8):=rfl;have hnk:=fH (l:=a) (k:=d8 k) aq;have w4:IntKind.i64.wrap ((k:Int)/8)=(d8 k:Int):=by rw[IntWalk.i64_in _ aq];omega
  have w4b:IntKind.i64.wrap ((k:Int).tdiv 8)=(d8 k:Int):=w4;have e2:IntKind.i64.wrap (8*((k:Int)%8))=(r8 k:Int):=by rw[IntWalk.i64_in _ aq];omega
  have e2b:IntKind.i64.wrap (8*((k:Int).tmod 8))=(r8 k:Int):=e2;have e3:IntKind.i64.wrap (31-(k:Int))=((31-k:Nat):Int):=by rw[IntWalk.i64_in _ aq];omega
  have i1:(d8 k:Int)<4:=aq;have hm64:r8 k<64:=aq;have hmn:min (r8 k) 64=r8 k:=aq;have i3:((31-k:Nat):Int)<32:=aq;have i4:31-k<32:=aq;simp[go_sem,hnk,hal,e2,e2b,w4,w4b,e3,i1,i3,i4,hm64,hmn,IntKind.bits,Bo,tV,ap,hs1,w3];refine aj (k+1) aq aq ?_;rw[hsn];simp[ak,ah,fv,lk,AV.low,AV.low1,B7];and_intros<;>first|rfl|exact aD _ _|exact aC _ _
 ·refine⟨fun h=>absurd (by exact_mod_cast h) h4,fun h=>?_⟩;have hkl:k=32:=aq;subst hkl;simp[go_sem,ap,hs1,aA hs1,iK (l:=z32) rfl,ar];exact ag (eD _) rfl
theorem Ie{Q:AV→Prop}{st:St}{b:List Nat}(hq:Q (.agg (cb b))):eH Q (.agg (cb b)) st:=ag (eD _) hq
theorem pB(x y:List Int)(c:Bool)(hx:Wn 4 x)(hy:Wn 4 y):∃b:List Nat,b.length=32∧bytes b∧(fa x y c→dY b=(V x).toNat)∧au Tryz.prog 129 [.agg (cP x y c)] (fun r=>r=.agg (cb b)):=by
 obtain⟨u,v,d,hu,hv,tv,f1⟩:=lb x y c hx hy;obtain⟨b,hb,hbb,vb,f2⟩:=pA u hu;refine⟨b,hb,hbb,fun h=>by rw[vb,(tv.2.1 h).1],?_⟩;refine bu Tryz.func129 Tryz.ntmps129 (rs:=[.cell 2 29]) (cy _ _ _) ?_;have hxl:=hx.1;have hyl:=hy.1;have ul:=bc hu.1 hv.1 d;have ux:=H6 (y:=v) hu.1 d;have zd:List.drop 32 (cb z32)=[]:=iK rfl;simp[go_sem,bc hxl hyl,bX hxl hyl];refine ae f1 (cy _ _ _) ?_;simp[go_sem,ul,ux];refine ae f2 (av _) ?_;simp[go_sem,ap,hb,aA hb,zd,ar];exact Ie rfl
def Lt(a b:List Nat):Nat→AV
 |0=>.nil
 |1=>.own 1192 0 a.length a.length
 |_=>.own 1192 0 (a++b).length (a++b).length
def Lu(a b:List Nat):Nat→Hp
 |0=>[]
 |1=>[(1192,⟨5,1,rb a⟩)]
 |_=>[(1192,⟨5,1,rb (a++b)⟩)]
def Ez:Nat→Nat
 |0=>1000
 |_=>2000
theorem yj(a b:List Nat)(ha:a.length=32)(hb:b.length≤1000000):au Tryz.prog 89 [.d (.ro 1 [[nb a],[nb b]])] (fun r=>r=.d (nb (a++b))):=by
 refine bu Tryz.func89 Tryz.ntmps89 (rs:=[.tmp 2]) a9 ?_;simp[go_sem]
 refine am (fun k:Nat=>⟨[(3,Lt a b k),(6,.d (.ro 1 [[nb a],[nb b]])),(7,.d (.int .i64 2)),(8,.d (.int .i64 (k:Int)))],Lu a b k,Ez k⟩)
  (fun k=>k≤2) (fun k=>2-k) 0 aq (by simp[ak,ah,fv,lk,AV.low,AV.low1,Lt,Lu,Ez]) ?_
 intro k hk;simp only[go_sem,Nat.reduceEqDiff,Nat.reduceAdd,Nat.reduceLT,↓reduceIte]
 match k,hk with
 |0,_ =>
  refine⟨fun _=>?_,fun h=>absurd (by decide) h⟩;simp[go_sem,Lt,Lu,Ez,nb,dk];refine⟨by rw[aN];omega,?_⟩;have w1:IntKind.i64.wrap 1=1:=by decide
  refine aj 1 aq aq ?_;simp[ak,ah,fv,lk,AV.low,AV.low1,aN,w1];exact aK _ _
 |1,_ =>
  refine⟨fun _=>?_,fun h=>absurd (by decide) h⟩;simp[go_sem,Lt,Lu,Ez,nb,dk,aN];refine⟨aq,?_⟩;have w1:IntKind.i64.wrap 2=2:=by decide
  have ra:rb (a++b)=rb a++rb b:=by simp[rb]
  refine aj 2 aq aq ?_;simp[ak,ah,fv,lk,AV.low,AV.low1,aN,w1,ra];intro r hr;exact hr.elim (aK _ _ r) (aK _ _ r)
 |2,_ =>
  refine⟨fun h=>absurd h (by decide),fun _=>?_⟩;simp[go_sem,Lt,Lu,ar];have hl2:a.length+b.length=(a++b).length:=by rw[b_]
  rw[hl2];exact eU rfl (by simp[nb])
theorem Lx(x y:List Int):JV x y zI=none:=by
 show kW fd _ _ (FV zI)=none;rw[qH];exact sJ fd _ _
theorem kn(x y z x' y' z':List Int):∀v,v∈[AV.agg (cV x y z),AV.agg (cV x' y' z')]→v.deep:=by
 intro v hv;simp at hv;rcases hv with rfl|rfl
 ·exact mE _ _ _
 ·exact mE _ _ _
theorem wC (x y z x' y' z':List Int) (hx:Wn 4 x) (hy:Wn 4 y) (hz:Wn 4 z) (hx':Wn 4 x') (hy':Wn 4 y') (hz':Wn 4 z'):∃ (u v w:List Int),Wn 4 u∧Wn 4 v∧Wn 4 w∧(lN x y z→lN x' y' z'→lN u v w∧JV u v w=sum fd (JV x y z) (JV x' y' z'))∧au Tryz.prog 181 [.agg (cV x y z),.agg (cV x' y' z')] (fun r=>r=.agg (cV u v w)):=by
 obtain⟨pz2,h1,g1,f1⟩:=jw z hz;obtain⟨qz2,h2,g2,f2⟩:=jw z' hz';obtain⟨u1,h4,g4,f4⟩:=dU x qz2 hx h2;obtain⟨u2,h5,g5,f5⟩:=dU x' pz2 hx' h1;obtain⟨qz3,h6,g6,f6⟩:=dU qz2 z' h2 hz';obtain⟨s1,h7,g7,f7⟩:=dU y qz3 hy h6;obtain⟨pz3,h8,g8,f8⟩:=dU pz2 z h1 hz;obtain⟨s2,h9,g9,f9⟩:=dU y' pz3 hy' h8;obtain⟨h,h11,g11,f11⟩:=kY u2 u1 h5 h4;obtain⟨r,h12,g12,f12⟩:=kY s2 s1 h9 h7;obtain⟨hh,h13,g13,f13⟩:=jw h h11;obtain⟨h3,h14,g14,f14⟩:=dU hh h h13 h11;obtain⟨v,h15,g15,f15⟩:=dU u1 hh h4 h13;obtain⟨rr,h16,g16,f16⟩:=jw r h12;obtain⟨d1,h17,g17,f17⟩:=kY rr h3 h16 h14;obtain⟨w2,h20,g20,f20⟩:=iy 2 v ⟨aq,aq⟩ h15;obtain⟨X,h18,g18,f18⟩:=kY d1 w2 h17 h20;obtain⟨e1,h21,g21,f21⟩:=kY v X h15 h18;obtain⟨e2,h22,g22,f22⟩:=dU r e1 h12 h21;obtain⟨e3,h24,g24,f24⟩:=dU s1 h3 h7 h14;obtain⟨Y,h19,g19,f19⟩:=kY e2 e3 h22 h24;obtain⟨zz,h25,g25,f25⟩:=dU z z' hz hz';obtain⟨Z,h23,g23,f23⟩:=dU h zz h11 h25;obtain⟨wu,wv,ww,h26,h27,h28,g26,f26⟩:=jx zI zI true d6 d6;obtain⟨du,dv,dw,h29,h30,h31,g29,f29⟩:=nM x y z hx hy hz;unfold W1 at f1 f2 f13 f16;unfold W2 at f4 f5 f6 f7 f8 f9 f11 f12 f14 f15 f17 f18 f19 f21 f22 f23 f24 f25;have l1:=h1.1;have l2:=h2.1;have l4:=h4.1;have l5:=h5.1;have l6:=h6.1;have l7:=h7.1;have l8:=h8.1;have l9:=h9.1;have l11:=h11.1;have l12:=h12.1;have l13:=h13.1;have l14:=h14.1;have l15:=h15.1;have l16:=h16.1;have l17:=h17.1;have l18:=h18.1;have l19:=h19.1;have l20:=h20.1;have l21:=h21.1;have l22:=h22.1;have l23:=h23.1;have l24:=h24.1;have l25:=h25.1;have l26:=h26.1;have l27:=h27.1;have l28:=h28.1;have l29:=h29.1;have l30:=h30.1;have l31:=h31.1;have hxl:=hx.1;have hyl:=hy.1;have hzl:=hz.1;have hxlb:=hx'.1;have hylb:=hy'.1;have hzlb:=hz'.1;have z4:List.drop 4 (cI zI)=[]:=ay rfl;have vl:=cz hxl hyl hzl;have vt:=bP hxl hyl hzl;have v1:(cV x y z).take 4=cI x:=Et hxl;have v2:=Eu (z:=z) hxl hyl;have v3:=Bh hxl hyl hzl;have vlb:=cz hxlb hylb hzlb;have vtb:=bP hxlb hylb hzlb;have v1b:(cV x' y' z').take 4=cI x':=Et hxlb;have v2b:=Eu (z:=z') hxlb hylb;have v3b:=Bh hxlb hylb hzlb;have iz:bm .u64 [AV.d (.int .u64 0),AV.d (.int .u64 0),AV.d (.int .u64 0),AV.d (.int .u64 0)]=some zI:=dm zI;have f0:=jQ x y z hx hy hz;have f0b:=jQ x' y' z' hx' hy' hz';have wd:(cV zI zI zI).drop 12=[]:=gR rfl rfl rfl;have wl:(cV zI zI zI).length=12:=rfl;have ul:=cz l26 l27 l28;have ut:=bP l26 l27 l28;have ul2:=cz l29 l30 l31;have ut2:=bP l29 l30 l31;by_cases q1:z=zI
 ·have vv:lN x y z→lN x' y' z'→lN x' y' z'∧JV x' y' z'=sum fd (JV x y z) (JV x' y' z'):=by
   intro _ hj';refine⟨hj',?_⟩;rw[q1,Lx,cf fd hj'.2]
  refine⟨x',y',z',hx',hy',hz',vv,?_⟩;refine bu Tryz.func181 Tryz.ntmps181 (rs:=[.cell 4 243]) (kn _ _ _ _ _ _) ?_;simp[go_sem,vl,vt,vlb,vtb];refine ae f0 (dC _ _ _) ?_;simp[go_sem,q1,vlb,vtb,wd,wl,ar];exact ia rfl
 by_cases q2:z'=zI
 ·have vv:lN x y z→lN x' y' z'→lN x y z∧JV x y z=sum fd (JV x y z) (JV x' y' z'):=by
   intro hj _;refine⟨hj,?_⟩;rw[q2,Lx,dT fd hj.2]
  refine⟨x,y,z,hx,hy,hz,vv,?_⟩;refine bu Tryz.func181 Tryz.ntmps181 (rs:=[.cell 4 243]) (kn _ _ _ _ _ _) ?_;simp[go_sem,vl,vt,vlb,vtb];refine ae f0 (dC _ _ _) ?_;simp[go_sem,q1,vl,vt,vlb,vtb];refine ae f0b (dC _ _ _) ?_;simp[go_sem,q2,vl,vt,wd,wl,ar];exact ia rfl
 have key:lN x y z→lN x' y' z'→(FV h≠0→JV X Y Z=sum fd (JV x y z) (JV x' y' z'))∧(FV h=0→FV r=0→JV x y z=JV x' y' z')∧(FV h=0→FV r≠0→sum fd (JV x y z) (JV x' y' z')=none):=by
  intro hj hj';have hz0:FV z≠0:=fun h=>q1 ((iP hz hj.1.2.2).1 h);have hz0':FV z'≠0:=fun h=>q2 ((iP hz' hj'.1.2.2).1 h);have k1:FV u1=FV x*(FV z'*FV z'):=by rw[g4.2,g2.2]
  have k2:FV u2=FV x'*(FV z*FV z):=by rw[g5.2,g1.2]
  have k3:FV s1=FV y*(FV z'*FV z'*FV z'):=by rw[g7.2,g6.2,g2.2]
  have k4:FV s2=FV y'*(FV z*FV z*FV z):=by rw[g9.2,g8.2,g1.2]
  obtain⟨j1,j2,j3⟩:=A7 fd hz0 hz0' hj.2 hj'.2 k1 k2 k3 k4 g11.2 g12.2;refine⟨fun hh0=>?_,j2,j3⟩;have n2:FV [2,0,0,0]=2:=uD 2 aq
  have eX:FV X=FV r*FV r-FV h*FV h*FV h-2*(FV u1*(FV h*FV h)):=by
   rw[g18.2,g17.2,g16.2,g14.2,g13.2,g20.2,g15.2,g13.2,n2]
  have eY:FV Y=FV r*(FV u1*(FV h*FV h)-(FV r*FV r-FV h*FV h*FV h-2*(FV u1*(FV h*FV h))))-FV s1*(FV h*FV h*FV h):=by
   rw[g19.2,g22.2,g21.2,eX,g24.2,g15.2,g14.2,g13.2]
  have eZ:FV Z=FV h*(FV z*FV z'):=by rw[g23.2,g25.2]
  show kW fd (FV X) (FV Y) (FV Z)=_;rw[eX,eY,eZ];exact j1 hh0
 obtain⟨Ua,Va,Wa,hU,hV,hW,vv,e1,e2,e3⟩:∃(Ua Va Wa:List Int),Wn 4 Ua∧Wn 4 Va∧Wn 4 Wa∧(lN x y z→lN x' y' z'→lN Ua Va Wa∧JV Ua Va Wa=sum fd (JV x y z) (JV x' y' z'))∧(h=zI→r=zI→(du=Ua∧dv=Va∧dw=Wa))∧(h=zI→r≠zI→(wu=Ua∧wv=Va∧ww=Wa))∧(h≠zI→(X=Ua∧Y=Va∧Z=Wa)):=by
  have fz:∀{l:List Int},l=zI→FV l=0:=fun h=>by rw[h,qH]
  by_cases q3:h=zI
  ·by_cases q4:r=zI
   ·refine⟨du,dv,dw,h29,h30,h31,fun hj hj'=>?_,fun _ _=>⟨rfl,rfl,rfl⟩,fun _ h=>absurd q4 h,fun h=>absurd q3 h⟩;obtain⟨m1,m2⟩:=g29 hj;refine⟨m1,?_⟩;rw[m2,←(key hj hj').2.1 (fz q3) (fz q4)]
   ·refine⟨wu,wv,ww,h26,h27,h28,fun hj hj'=>?_,fun _ h=>absurd h q4,fun _ _=>⟨rfl,rfl,rfl⟩,fun h=>absurd q3 h⟩;obtain⟨m1,m2⟩:=g26 lM;refine⟨m1,?_⟩;rw[m2,yg,(key hj hj').2.2 (fz q3) (fun h=>q4 ((iP h12 g12.1).1 h))]
  ·refine⟨X,Y,Z,h18,h19,h23,fun hj hj'=>?_,fun h=>absurd h q3,fun h=>absurd h q3,fun _=>⟨rfl,rfl,rfl⟩⟩;have e:=(key hj hj').1 (fun h=>q3 ((iP h11 g11.1).1 h));exact⟨⟨⟨g18.1,g19.1,g23.1⟩,by rw[e];exact ki fd hj.2 hj'.2⟩,e⟩
 refine⟨Ua,Va,Wa,hU,hV,hW,vv,?_⟩;refine bu Tryz.func181 Tryz.ntmps181 (rs:=[.cell 4 243]) (kn _ _ _ _ _ _) ?_;simp[go_sem,vl,vt,vlb,vtb];refine ae f0 (dC _ _ _) ?_;simp[go_sem,q1,vl,vt,vlb,vtb];refine ae f0b (dC _ _ _) ?_;simp[go_sem,q2,vl,vt,vlb,vtb,v1,v2,v3,v1b,v2b,v3b];refine c7 [0,1,3,4] [2,5,6,7,8,9] [0,1,3,4] (.alt (bt 2 (.alt (bx 5 (.alt (a_ [6,7,8,9]) (a_ [7,6,8,9]))) (.alt (bt 6 (.alt (a_ [5,7,8,9]) (bt 7 (a_ [5,8,9])))) (bt 7 (.alt (a_ [5,6,8,9]) (bt 6 (a_ [5,8,9]))))))) (.alt (bt 6 (.alt (bt 2 (.alt (a_ [5,7,8,9]) (bt 7 (a_ [5,8,9])))) (bt 7 (bt 2 (a_ [5,8,9]))))) (bt 7 (.alt (bt 2 (.alt (a_ [5,6,8,9]) (bt 6 (a_ [5,8,9])))) (bt 6 (bt 2 (a_ [5,8,9]))))))) ⟨[(2,.ptr 0 0 0 1),(3,.ptr 32 0 0 1),(4,.ptr 64 0 0 1),(5,.ptr 480 0 0 1),(6,.ptr 512 0 0 1)],[(512,⟨96,4,[cI qz2]⟩),(480,⟨96,4,[cI pz2]⟩),(64,⟨243,12,[cV zI zI zI]⟩),(32,⟨243,12,[cV x' y' z']⟩),(0,⟨243,12,[cV x y z]⟩)],9000⟩ (k:=10) ?h3 ?hq
 case h3 =>
  intro G hG
  have hW:∀(fr:Fr)(hp:Hp),(fv 2 fr=.ptr 0 0 0 1∧fv 3 fr=.ptr 32 0 0 1∧fv 4 fr=.ptr 64 0 0 1∧fv 5 fr=.ptr 480 0 0 1∧fv 6 fr=.ptr 512 0 0 1∧lk 512 hp=some ⟨96,4,[cI qz2]⟩∧lk 480 hp=some ⟨96,4,[cI pz2]⟩∧lk 64 hp=some ⟨243,12,[cV zI zI zI]⟩∧lk 32 hp=some ⟨243,12,[cV x' y' z']⟩∧lk 0 hp=some ⟨243,12,[cV x y z]⟩)→G fr hp:=by
   rintro fr hp⟨q0,q1,q2,q3,q4,q5,q6,q7,q8,q9⟩;exact hG _ _ oy
  simp[go_sem,l1,l2,aa l1,aa l2,z4,v3,v3b,vl,vlb,b7]
  repeat' first|exact hW _ _ ⟨rfl,rfl,rfl,rfl,rfl,rfl,rfl,rfl,rfl,rfl⟩|(refine hW _ _ ?_;simp[fv,lk];done)|refine ae f1 (av _) ?_|refine ae f2 (av _) ?_|apply And.intro|simp[go_sem,l1,l2,aa l1,aa l2,z4,v3,v3b,vl,vlb,b7]
 case hq =>
  simp[go_sem];refine c7 [0,1,2,4,5,6] [3,7,8,9,10,11] [0,1,2,4,5,6] (.alt (bt 3 (.alt (bx 7 (.alt (a_ [8,9,10,11]) (a_ [9,8,10,11]))) (.alt (bt 8 (.alt (a_ [7,9,10,11]) (bt 9 (a_ [7,10,11])))) (bt 9 (.alt (a_ [7,8,10,11]) (bt 8 (a_ [7,10,11]))))))) (.alt (bt 8 (.alt (bt 3 (.alt (a_ [7,9,10,11]) (bt 9 (a_ [7,10,11])))) (bt 9 (bt 3 (a_ [7,10,11]))))) (bt 9 (.alt (bt 3 (.alt (a_ [7,8,10,11]) (bt 8 (a_ [7,10,11])))) (bt 8 (bt 3 (a_ [7,10,11]))))))) ⟨[(2,.ptr 0 0 0 1),(3,.ptr 32 0 0 1),(4,.ptr 64 0 0 1),(5,.ptr 480 0 0 1),(6,.ptr 512 0 0 1),(7,.ptr 9256 0 0 1),(8,.ptr 9288 0 0 1)],[(9288,⟨96,4,[cI u2]⟩),(9256,⟨96,4,[cI u1]⟩),(512,⟨96,4,[cI qz2]⟩),(480,⟨96,4,[cI pz2]⟩),(64,⟨243,12,[cV zI zI zI]⟩),(32,⟨243,12,[cV x' y' z']⟩),(0,⟨243,12,[cV x y z]⟩)],20000⟩ (k:=12) ?h3 ?hq
  case h3 =>
   intro G hG
   have hW:∀(fr:Fr)(hp:Hp),(fv 2 fr=.ptr 0 0 0 1∧fv 3 fr=.ptr 32 0 0 1∧fv 4 fr=.ptr 64 0 0 1∧fv 5 fr=.ptr 480 0 0 1∧fv 6 fr=.ptr 512 0 0 1∧fv 7 fr=.ptr 9256 0 0 1∧fv 8 fr=.ptr 9288 0 0 1∧lk 9288 hp=some ⟨96,4,[cI u2]⟩∧lk 9256 hp=some ⟨96,4,[cI u1]⟩∧lk 512 hp=some ⟨96,4,[cI qz2]⟩∧lk 480 hp=some ⟨96,4,[cI pz2]⟩∧lk 64 hp=some ⟨243,12,[cV zI zI zI]⟩∧lk 32 hp=some ⟨243,12,[cV x' y' z']⟩∧lk 0 hp=some ⟨243,12,[cV x y z]⟩)→G fr hp:=by
    rintro fr hp⟨q0,q1,q2,q3,q4,q5,q6,q7,q8,q9,q10,q11,q12,q13⟩;exact hG _ _ oy
   simp[go_sem,l1,l2,l4,l5,aa l1,aa l2,aa l4,aa l5,z4,v1,v1b,vl,vlb,b7]
   repeat' first|exact hW _ _ ⟨rfl,rfl,rfl,rfl,rfl,rfl,rfl,rfl,rfl,rfl,rfl,rfl,rfl,rfl⟩|(refine hW _ _ ?_;simp[fv,lk];done)|refine ae f4 (ax _ _) ?_|refine ae f5 (ax _ _) ?_|apply And.intro|simp[go_sem,l1,l2,l4,l5,aa l1,aa l2,aa l4,aa l5,z4,v1,v1b,vl,vlb,b7]
  case hq =>
   simp[go_sem];refine c7 [0,1,2,3,4,7,8,9,10,11] [5,6,12,13,14,15,16,17] [0,1,2,3,4,7,8,9,10,11] (.alt (bt 5 (.alt (bt 6 (.alt (bt 12 (.alt (bx 13 (.alt (a_ [14,15,16,17]) (a_ [15,14,16,17]))) (.alt (bt 14 (.alt (a_ [13,15,16,17]) (bt 15 (a_ [13,16,17])))) (bt 15 (.alt (a_ [13,14,16,17]) (bt 14 (a_ [13,16,17]))))))) (.alt (bt 14 (.alt (bt 12 (.alt (a_ [13,15,16,17]) (bt 15 (a_ [13,16,17])))) (bt 15 (bt 12 (a_ [13,16,17]))))) (bt 15 (.alt (bt 12 (.alt (a_ [13,14,16,17]) (bt 14 (a_ [13,16,17])))) (bt 14 (bt 12 (a_ [13,16,17])))))))) (.alt (bt 14 (.alt (bt 6 (.alt (bt 12 (.alt (a_ [13,15,16,17]) (bt 15 (a_ [13,16,17])))) (bt 15 (bt 12 (a_ [13,16,17]))))) (bt 15 (bt 6 (bt 12 (a_ [13,16,17])))))) (bt 15 (.alt (bt 6 (.alt (bt 12 (.alt (a_ [13,14,16,17]) (bt 14 (a_ [13,16,17])))) (bt 14 (bt 12 (a_ [13,16,17]))))) (bt 14 (bt 6 (bt 12 (a_ [13,16,17]))))))))) (.alt (bt 14 (.alt (bt 5 (.alt (bt 6 (.alt (bt 12 (.alt (a_ [13,15,16,17]) (bt 15 (a_ [13,16,17])))) (bt 15 (bt 12 (a_ [13,16,17]))))) (bt 15 (bt 6 (bt 12 (a_ [13,16,17])))))) (bt 15 (bt 5 (bt 6 (bt 12 (a_ [13,16,17]))))))) (bt 15 (.alt (bt 5 (.alt (bt 6 (.alt (bt 12 (.alt (a_ [13,14,16,17]) (bt 14 (a_ [13,16,17])))) (bt 14 (bt 12 (a_ [13,16,17]))))) (bt 14 (bt 6 (bt 12 (a_ [13,16,17])))))) (bt 14 (bt 5 (bt 6 (bt 12 (a_ [13,16,17]))))))))) ⟨[(2,.ptr 0 0 0 1),(3,.ptr 32 0 0 1),(4,.ptr 64 0 0 1),(7,.ptr 9256 0 0 1),(8,.ptr 9288 0 0 1),(9,.ptr 20448 0 0 1),(10,.ptr 20480 0 0 1)],[(20480,⟨96,4,[cI s2]⟩),(20448,⟨96,4,[cI s1]⟩),(9288,⟨96,4,[cI u2]⟩),(9256,⟨96,4,[cI u1]⟩),(64,⟨243,12,[cV zI zI zI]⟩),(32,⟨243,12,[cV x' y' z']⟩),(0,⟨243,12,[cV x y z]⟩)],30000⟩ (k:=18) ?h3 ?hq
   case h3 =>
    intro G hG
    have hW:∀(fr:Fr)(hp:Hp),(fv 2 fr=.ptr 0 0 0 1∧fv 3 fr=.ptr 32 0 0 1∧fv 4 fr=.ptr 64 0 0 1∧fv 7 fr=.ptr 9256 0 0 1∧fv 8 fr=.ptr 9288 0 0 1∧fv 9 fr=.ptr 20448 0 0 1∧fv 10 fr=.ptr 20480 0 0 1∧lk 20480 hp=some ⟨96,4,[cI s2]⟩∧lk 20448 hp=some ⟨96,4,[cI s1]⟩∧lk 9288 hp=some ⟨96,4,[cI u2]⟩∧lk 9256 hp=some ⟨96,4,[cI u1]⟩∧lk 64 hp=some ⟨243,12,[cV zI zI zI]⟩∧lk 32 hp=some ⟨243,12,[cV x' y' z']⟩∧lk 0 hp=some ⟨243,12,[cV x y z]⟩)→G fr hp:=by
     rintro fr hp⟨q0,q1,q2,q3,q4,q5,q6,q7,q8,q9,q10,q11,q12,q13⟩;exact hG _ _ oy
    simp[go_sem,l1,l2,l7,l9,aa l1,aa l2,aa l7,aa l9,z4,v2,v2b,v3,v3b,vl,vlb,b7]
    repeat' first|exact hW _ _ ⟨rfl,rfl,rfl,rfl,rfl,rfl,rfl,rfl,rfl,rfl,rfl,rfl,rfl,rfl⟩|(refine hW _ _ ?_;simp[fv,lk];done)|refine ae f6 (ax _ _) ?_|refine ae f7 (ax _ _) ?_|refine ae f8 (ax _ _) ?_|refine ae f9 (ax _ _) ?_|apply And.intro|simp[go_sem,l1,l2,l7,l9,aa l1,aa l2,aa l7,aa l9,z4,v2,v2b,v3,v3b,vl,vlb,b7]
   case hq =>
    simp[go_sem];refine c7 [0,1,3,4] [2,5,6,7,8,9] [0,1,3,4] (.alt (bt 2 (.alt (bx 5 (.alt (a_ [6,7,8,9]) (a_ [7,6,8,9]))) (.alt (bt 6 (.alt (a_ [5,7,8,9]) (bt 7 (a_ [5,8,9])))) (bt 7 (.alt (a_ [5,6,8,9]) (bt 6 (a_ [5,8,9]))))))) (.alt (bt 6 (.alt (bt 2 (.alt (a_ [5,7,8,9]) (bt 7 (a_ [5,8,9])))) (bt 7 (bt 2 (a_ [5,8,9]))))) (bt 7 (.alt (bt 2 (.alt (a_ [5,6,8,9]) (bt 6 (a_ [5,8,9])))) (bt 6 (bt 2 (a_ [5,8,9]))))))) ⟨[(2,.ptr 0 0 0 1),(3,.ptr 32 0 0 1),(4,.ptr 64 0 0 1),(7,.ptr 9256 0 0 1),(9,.ptr 20448 0 0 1),(11,.ptr 30192 0 0 1),(12,.ptr 30224 0 0 1)],[(30224,⟨96,4,[cI r]⟩),(30192,⟨96,4,[cI h]⟩),(20448,⟨96,4,[cI s1]⟩),(9256,⟨96,4,[cI u1]⟩),(64,⟨243,12,[cV zI zI zI]⟩),(32,⟨243,12,[cV x' y' z']⟩),(0,⟨243,12,[cV x y z]⟩)],40000⟩ (k:=10) ?h3 ?hq
    case h3 =>
     intro G hG
     have hW:∀(fr:Fr)(hp:Hp),(fv 2 fr=.ptr 0 0 0 1∧fv 3 fr=.ptr 32 0 0 1∧fv 4 fr=.ptr 64 0 0 1∧fv 7 fr=.ptr 9256 0 0 1∧fv 9 fr=.ptr 20448 0 0 1∧fv 11 fr=.ptr 30192 0 0 1∧fv 12 fr=.ptr 30224 0 0 1∧lk 30224 hp=some ⟨96,4,[cI r]⟩∧lk 30192 hp=some ⟨96,4,[cI h]⟩∧lk 20448 hp=some ⟨96,4,[cI s1]⟩∧lk 9256 hp=some ⟨96,4,[cI u1]⟩∧lk 64 hp=some ⟨243,12,[cV zI zI zI]⟩∧lk 32 hp=some ⟨243,12,[cV x' y' z']⟩∧lk 0 hp=some ⟨243,12,[cV x y z]⟩)→G fr hp:=by
      rintro fr hp⟨q0,q1,q2,q3,q4,q5,q6,q7,q8,q9,q10,q11,q12,q13⟩;exact hG _ _ oy
     simp[go_sem,l4,l5,l7,l9,l11,l12,aa l4,aa l5,aa l7,aa l9,aa l11,aa l12,z4,b7]
     repeat' first|exact hW _ _ ⟨rfl,rfl,rfl,rfl,rfl,rfl,rfl,rfl,rfl,rfl,rfl,rfl,rfl,rfl⟩|(refine hW _ _ ?_;simp[fv,lk];done)|refine ae f11 (ax _ _) ?_|refine ae f12 (ax _ _) ?_|apply And.intro|simp[go_sem,l4,l5,l7,l9,l11,l12,aa l4,aa l5,aa l7,aa l9,aa l11,aa l12,z4,b7]
    case hq =>
     by_cases q3:h=zI
     ·by_cases q4:r=zI
      ·obtain⟨rfl,rfl,rfl⟩:=e1 q3 q4;simp[go_sem,l11,l12,dm,iz,aa l11,aa l12];refine⟨fun _=>⟨fun _=>?_,fun h=>absurd q4 h⟩,fun h=>absurd q3 h⟩;simp[go_sem,vl,vt];refine ae f29 (dC _ _ _) ?_;simp[go_sem,ul2,ut2,wd,wl,ar];exact ia rfl
      ·obtain⟨rfl,rfl,rfl⟩:=e2 q3 q4;simp[go_sem,l11,l12,dm,iz,aa l11,aa l12];refine⟨fun _=>⟨fun h=>absurd h q4,fun _=>?_⟩,fun h=>absurd q3 h⟩;refine ae fl aw ?_;simp[go_sem];refine ae f26 (cy _ _ _) ?_;simp[go_sem,ul,ut,wd,wl,ar];exact ia rfl
     obtain⟨rfl,rfl,rfl⟩:=e3 q3;simp[go_sem,l11,l12,dm,iz,aa l11,aa l12];refine⟨fun h=>absurd h q3,fun _=>?_⟩;refine ae f13 (av _) ?_;simp[go_sem,l11,l13,aa l11,aa l13,z4];refine ae f14 (ax _ _) ?_;simp[go_sem,l4,l13,l14,aa l4,aa l13,aa l14,z4];refine ae f15 (ax _ _) ?_;simp[go_sem,l15,aa l15,z4];refine c7 [0,2,4] [1,3,5,6,7,8] [0,2,4] (.alt (bt 1 (.alt (bt 3 (.alt (bx 5 (.alt (a_ [6,7,8]) (a_ [7,6,8]))) (bt 7 (a_ [5,6,8])))) (bt 7 (bt 3 (a_ [5,6,8]))))) (bt 7 (bt 1 (bt 3 (a_ [5,6,8]))))) ⟨[(2,.ptr 0 0 0 1),(3,.ptr 32 0 0 1),(4,.ptr 64 0 0 1),(9,.ptr 20448 0 0 1),(11,.ptr 30192 0 0 1),(12,.ptr 30224 0 0 1),(14,.ptr 40320 0 0 1),(15,.ptr 40480 0 0 1),(16,.ptr 40768 0 0 1)],[(40768,⟨96,4,[cI X]⟩),(40480,⟨96,4,[cI v]⟩),(40320,⟨96,4,[cI h3]⟩),(30224,⟨96,4,[cI r]⟩),(30192,⟨96,4,[cI h]⟩),(20448,⟨96,4,[cI s1]⟩),(64,⟨243,12,[cV zI zI zI]⟩),(32,⟨243,12,[cV x' y' z']⟩),(0,⟨243,12,[cV x y z]⟩)],50000⟩ (k:=9) ?h3 ?hq
     case h3 =>
      intro G hG
      have hW:∀(fr:Fr)(hp:Hp),(fv 2 fr=.ptr 0 0 0 1∧fv 3 fr=.ptr 32 0 0 1∧fv 4 fr=.ptr 64 0 0 1∧fv 9 fr=.ptr 20448 0 0 1∧fv 11 fr=.ptr 30192 0 0 1∧fv 12 fr=.ptr 30224 0 0 1∧fv 14 fr=.ptr 40320 0 0 1∧fv 15 fr=.ptr 40480 0 0 1∧fv 16 fr=.ptr 40768 0 0 1∧lk 40768 hp=some ⟨96,4,[cI X]⟩∧lk 40480 hp=some ⟨96,4,[cI v]⟩∧lk 40320 hp=some ⟨96,4,[cI h3]⟩∧lk 30224 hp=some ⟨96,4,[cI r]⟩∧lk 30192 hp=some ⟨96,4,[cI h]⟩∧lk 20448 hp=some ⟨96,4,[cI s1]⟩∧lk 64 hp=some ⟨243,12,[cV zI zI zI]⟩∧lk 32 hp=some ⟨243,12,[cV x' y' z']⟩∧lk 0 hp=some ⟨243,12,[cV x y z]⟩)→G fr hp:=by
       rintro fr hp⟨q0,q1,q2,q3,q4,q5,q6,q7,q8,q9,q10,q11,q12,q13,q14,q15,q16,q17⟩;exact hG _ _ oy
      simp[go_sem,l12,l14,l15,l18,aa l12,aa l14,aa l15,aa l18,z4,b7]
      repeat' first|exact hW _ _ ⟨rfl,rfl,rfl,rfl,rfl,rfl,rfl,rfl,rfl,rfl,rfl,rfl,rfl,rfl,rfl,rfl,rfl,rfl⟩|(refine hW _ _ ?_;simp[fv,lk];done)|refine ae f16 (av _) ?_|refine ae f17 (ax _ _) ?_|refine ae f20 (iQ _ _) ?_|refine ae f18 (ax _ _) ?_|apply And.intro|simp[go_sem,l12,l14,l15,l18,aa l12,aa l14,aa l15,aa l18,z4,b7]
     case hq =>
      simp[go_sem];refine c7 [0,1,2,5,6] [3,4,7,8,9,10] [0,1,2,5,6] (.alt (bt 3 (.alt (bt 4 (.alt (bx 7 (.alt (a_ [8,9,10]) (a_ [9,8,10]))) (bt 9 (a_ [7,8,10])))) (bt 9 (bt 4 (a_ [7,8,10]))))) (bt 9 (bt 3 (bt 4 (a_ [7,8,10]))))) ⟨[(2,.ptr 0 0 0 1),(3,.ptr 32 0 0 1),(4,.ptr 64 0 0 1),(11,.ptr 30192 0 0 1),(16,.ptr 40768 0 0 1),(17,.ptr 50288 0 0 1)],[(50288,⟨96,4,[cI Y]⟩),(40768,⟨96,4,[cI X]⟩),(30192,⟨96,4,[cI h]⟩),(64,⟨243,12,[cV zI zI zI]⟩),(32,⟨243,12,[cV x' y' z']⟩),(0,⟨243,12,[cV x y z]⟩)],60000⟩ (k:=11) ?h3 ?hq
      case h3 =>
       intro G hG
       have hW:∀(fr:Fr)(hp:Hp),(fv 2 fr=.ptr 0 0 0 1∧fv 3 fr=.ptr 32 0 0 1∧fv 4 fr=.ptr 64 0 0 1∧fv 11 fr=.ptr 30192 0 0 1∧fv 16 fr=.ptr 40768 0 0 1∧fv 17 fr=.ptr 50288 0 0 1∧lk 50288 hp=some ⟨96,4,[cI Y]⟩∧lk 40768 hp=some ⟨96,4,[cI X]⟩∧lk 30192 hp=some ⟨96,4,[cI h]⟩∧lk 64 hp=some ⟨243,12,[cV zI zI zI]⟩∧lk 32 hp=some ⟨243,12,[cV x' y' z']⟩∧lk 0 hp=some ⟨243,12,[cV x y z]⟩)→G fr hp:=by
        rintro fr hp⟨q0,q1,q2,q3,q4,q5,q6,q7,q8,q9,q10,q11⟩;exact hG _ _ oy
       simp[go_sem,l7,l12,l14,l15,l18,l19,aa l7,aa l12,aa l14,aa l15,aa l18,aa l19,z4,b7]
       repeat' first|exact hW _ _ ⟨rfl,rfl,rfl,rfl,rfl,rfl,rfl,rfl,rfl,rfl,rfl,rfl⟩|(refine hW _ _ ?_;simp[fv,lk];done)|refine ae f21 (ax _ _) ?_|refine ae f22 (ax _ _) ?_|refine ae f24 (ax _ _) ?_|refine ae f19 (ax _ _) ?_|apply And.intro|simp[go_sem,l7,l12,l14,l15,l18,l19,aa l7,aa l12,aa l14,aa l15,aa l18,aa l19,z4,b7]
      case hq =>
       simp only[go_sem,Nat.reduceEqDiff,Nat.reduceAdd,Nat.reduceLT,↓reduceIte];refine cQ [0,1,2,3,4,5,6] [(7,[]),(8,[9]),(10,[])] 2 (k:=11) ?_;intro G hG;simp[go_sem,l18,l19,l11,aa l18,aa l19,aa l11,v3,v3b,vl,vlb];refine ae f25 (ax _ _) ?_;simp[go_sem];refine ae f23 (ax _ _) ?_;have ev:cI X++(cI Y++cI Z)=cV X Y Z:=rfl;have xl:=cz l18 l19 l23;have xt:=bP l18 l19 l23;simp[go_sem,l18,l19,l23,wl,wd,OO l18 l19,Lo l18 l19,ev,xl,b7];refine hG _ _ ?_;simp[go_sem,xl,xt,ar];exact ia rfl
abbrev T3:=List Int×List Int×List Int
def W3(s:T3):Prop:=Wn 4 s.1∧Wn 4 s.2.1∧Wn 4 s.2.2
def nQ(s:T3):Prop:=lN s.1 s.2.1 s.2.2
noncomputable def JV3(s:T3):Pt pP:=JV s.1 s.2.1 s.2.2
theorem Oc:∃D:T3→T3,∀s,W3 s→W3 (D s)∧(nQ s→nQ (D s)∧JV3 (D s)=sum fd (JV3 s) (JV3 s))∧au Tryz.prog 183 [.agg (cV s.1 s.2.1 s.2.2)] (fun r=>r=.agg (cV (D s).1 (D s).2.1 (D s).2.2)) :=
 pick (α:=T3) (β:=T3) (A:=W3) (B:=fun s t=>W3 t∧(nQ s→nQ t∧JV3 t=sum fd (JV3 s) (JV3 s))∧au Tryz.prog 183 [.agg (cV s.1 s.2.1 s.2.2)] (fun r=>r=.agg (cV t.1 t.2.1 t.2.2))) (fun s hs=>by
  obtain⟨u,v,w,h1,h2,h3,hv,h4⟩:=nM s.1 s.2.1 s.2.2 hs.1 hs.2.1 hs.2.2
  exact⟨(u,v,w),⟨h1,h2,h3⟩,hv,h4⟩)
theorem Ly:∃D:T3×T3→T3,∀s,(W3 s.1∧W3 s.2)→W3 (D s)∧(nQ s.1→nQ s.2→nQ (D s)∧JV3 (D s)=sum fd (JV3 s.1) (JV3 s.2))∧au Tryz.prog 181 [.agg (cV s.1.1 s.1.2.1 s.1.2.2),.agg (cV s.2.1 s.2.2.1 s.2.2.2)] (fun r=>r=.agg (cV (D s).1 (D s).2.1 (D s).2.2)) :=
 pick (α:=T3×T3) (β:=T3) (A:=fun s=>W3 s.1∧W3 s.2) (B:=fun s t=>W3 t∧(nQ s.1→nQ s.2→nQ t∧JV3 t=sum fd (JV3 s.1) (JV3 s.2))∧au Tryz.prog 181 [.agg (cV s.1.1 s.1.2.1 s.1.2.2),.agg (cV s.2.1 s.2.2.1 s.2.2.2)] (fun r=>r=.agg (cV t.1 t.2.1 t.2.2))) (fun s hs=>by
  obtain⟨u,v,w,h1,h2,h3,hv,h4⟩:=wC s.1.1 s.1.2.1 s.1.2.2 s.2.1 s.2.2.1 s.2.2.2 hs.1.1 hs.1.2.1 hs.1.2.2 hs.2.1 hs.2.2.1 hs.2.2.2
  exact⟨(u,v,w),⟨h1,h2,h3⟩,hv,h4⟩)
theorem Oe:∃D:List Int×Nat→Bool,∀s,(Wn 4 s.1∧s.2<256)→(D s=true↔(V s.1).toNat/2 ^ s.2%2=1)∧au Tryz.prog 184 [.agg (cI s.1),.d (.int .i64 (s.2:Int))] (fun r=>r=.d (.bool (D s))) :=
 pick (α:=List Int×Nat) (β:=Bool) (A:=fun s=>Wn 4 s.1∧s.2<256) (B:=fun s t=>(t=true↔(V s.1).toNat/2 ^ s.2%2=1)∧au Tryz.prog 184 [.agg (cI s.1),.d (.int .i64 (s.2:Int))] (fun r=>r=.d (.bool t))) (fun s hs=>H9 s.1 s.2 hs.1 hs.2)
def qK(D:T3→T3)(A:T3×T3→T3)(B:List Int×Nat→Bool)(a b:List Int)(M:Nat)(one two both:T3)(k:Nat)(s:T3):T3 :=
 if B (a,M-1-k)then(if B (b,M-1-k)then A (D s,both)else A (D s,one))else(if B (b,M-1-k)then A (D s,two)else D s)
theorem yk{P Q:Pt pP}(hP:dL P)(hQ:dL Q)(a b:Nat) :
  sum fd (sum fd (mp fd a P) (mp fd b Q)) (sum fd (mp fd a P) (mp fd b Q))=sum fd (mp fd (2*a) P) (mp fd (2*b) Q) ∧
  sum fd (sum fd (mp fd (2*a) P) (mp fd (2*b) Q)) P=sum fd (mp fd (2*a+1) P) (mp fd (2*b) Q) ∧
  sum fd (sum fd (mp fd (2*a) P) (mp fd (2*b) Q)) Q=sum fd (mp fd (2*a) P) (mp fd (2*b+1) Q) ∧
  sum fd (sum fd (mp fd (2*a) P) (mp fd (2*b) Q)) (sum fd P Q)=sum fd (mp fd (2*a+1) P) (mp fd (2*b+1) Q):=by
 have a1:=fQ fd hP a;have b1:=fQ fd hQ b;have a2:=fQ fd hP (2*a);have b2:=fQ fd hQ (2*b);refine⟨?_,?_,?_,?_⟩
 ·rw[K3 fd a1 b1 a1 b1,uB fd hP,uB fd hQ]
 ·rw[mp,dF fd a2 b2 hP,kV fd (mp fd (2*b) Q) P,←dF fd a2 hP b2]
 ·rw[mp,dF fd a2 b2 hQ]
 ·rw[mp,mp,K3 fd a2 b2 hP hQ]
theorem pC(N M k:Nat)(h:k<M):N/2 ^ (M-(k+1))=2*(N/2 ^ (M-k))+N/2 ^ (M-1-k)%2:=by
 have e:M-k=(M-1-k)+1:=aq;have e2:M-(k+1)=M-1-k:=aq;rw[e,e2,Nat.pow_succ,←Nat.div_div_eq_div_mul];omega
theorem If(a b:List Int)(x y x' y':List Int)(c c':Bool):∀v,v∈[AV.agg (cI a),AV.agg (cP x y c),AV.agg (cI b),AV.agg (cP x' y' c')]→v.deep:=by
 intro v hv;simp at hv;rcases hv with rfl|rfl|rfl|rfl
 ·exact bB _
 ·exact cN _ _ _
 ·exact bB _
 ·exact cN _ _ _
theorem sO(n:List Int)(m:Int):∀v,v∈[AV.agg (cI n),AV.d (.int .i64 m)]→v.deep:=by
 intro v hv;simp at hv;rcases hv with rfl|rfl;exact bB _;trivial
theorem wE(a b x y x' y':List Int)(c c':Bool)(ha:Wn 4 a)(hb:Wn 4 b)(hx:Wn 4 x)(hy:Wn 4 y)(hx':Wn 4 x')(hy':Wn 4 y'):∃(u v:List Int)(o:Bool),Wn 4 u∧Wn 4 v∧(fa x y c→fa x' y' c'→fa u v o∧PV u v o=sum fd (mp fd (V a).toNat (PV x y c)) (mp fd (V b).toNat (PV x' y' c')))∧au Tryz.prog 159 [.agg (cI a),.agg (cP x y c),.agg (cI b),.agg (cP x' y' c')] (fun r=>r=.agg (cP u v o)):=by
 obtain⟨D,hD⟩:=Oc;obtain⟨A,hA⟩:=Ly;obtain⟨B,hB⟩:=Oe;obtain⟨p1,p2,p3,hp1,hp2,tv1,t1⟩:=lb x y c hx hy;obtain⟨u1,v1,w1,hu1,hv1,hw1,wv1,g1⟩:=jx p1 p2 p3 hp1 hp2;obtain⟨r1,r2,r3,hr1,hr2,tv2,t2⟩:=lb x' y' c' hx' hy';obtain⟨u2,v2,w2,hu2,hv2,hw2,wv2,g2⟩:=jx r1 r2 r3 hr1 hr2;obtain⟨u3,v3,w3,hu3,hv3,hw3,wv3,f3⟩:=wC u1 v1 w1 u2 v2 w2 hu1 hv1 hw1 hu2 hv2 hw2;obtain⟨u4,v4,w4,hu4,hv4,hw4,wv4,f4⟩:=jx zI zI true d6 d6;obtain⟨La,hLa,vLa,f5⟩:=qu a ha;obtain⟨Lb,hLb,vLb,f6⟩:=qu b hb;obtain⟨M,hM⟩:∃M,M=max La Lb:=⟨_,rfl⟩;have hM2:M≤256:=aq;have hone:W3 (u1,v1,w1):=⟨hu1,hv1,hw1⟩;have htwo:W3 (u2,v2,w2):=⟨hu2,hv2,hw2⟩;have hboth:W3 (u3,v3,w3):=⟨hu3,hv3,hw3⟩
 have hS:∀k,W3 (dj (qK D A B a b M (u1,v1,w1) (u2,v2,w2) (u3,v3,w3)) (u4,v4,w4) k):=fi (P:=fun _ s=>W3 s) ⟨hu4,hv4,hw4⟩ fun k s hs=>by
  have hd:=(hD s hs).1;unfold qK
  split
  ·split
   ·exact(hA _ ⟨hd,hboth⟩).1
   ·exact(hA _ ⟨hd,hone⟩).1
  ·split
   ·exact(hA _ ⟨hd,htwo⟩).1
   ·exact hd
 obtain⟨u,v,o,hu,hv,vp,f7⟩:=Bl _ _ _ (hS M).1 (hS M).2.1 (hS M).2.2
 have vv:fa x y c→fa x' y' c'→fa u v o∧PV u v o=sum fd (mp fd (V a).toNat (PV x y c)) (mp fd (V b).toNat (PV x' y' c')):=by
  intro i1 i2;obtain⟨q1,q2,q3⟩:=tv1.2.1 i1;obtain⟨q4,q5,q6⟩:=tv2.2.1 i2;subst q1 q2 q3 q4 q5 q6;have o1:=jP i1;have o2:=jP i2;obtain⟨j1,e1⟩:=wv1 i1;obtain⟨j2,e2⟩:=wv2 i2;obtain⟨j3,e3⟩:=wv3 j1 j2;obtain⟨j4,e4⟩:=wv4 lM
  have hbig:∀(w:List Int)(L:Nat),Wn 4 w→V w<2 ^ L→L≤M→(V w).toNat/2 ^ M=0:=by
   intro w L hw hL hLM;have h0:=(cJ hw).1;have h1:(((V w).toNat:Nat):Int)<((2 ^ L:Nat):Int):=by rw[Int.toNat_of_nonneg h0];exact_mod_cast hL
   have h2:(V w).toNat<2 ^ L:=by exact_mod_cast h1
   exact Nat.div_eq_of_lt (Nat.lt_of_lt_of_le h2 (Nat.pow_le_pow_right aq hLM))
  have main:∀k,k≤M→nQ (dj (qK D A B a b M (u1,v1,w1) (u2,v2,w2) (u3,v3,w3)) (u4,v4,w4) k)∧JV3 (dj (qK D A B a b M (u1,v1,w1) (u2,v2,w2) (u3,v3,w3)) (u4,v4,w4) k)=sum fd (mp fd ((V a).toNat/2 ^ (M-k)) (PV p1 p2 p3)) (mp fd ((V b).toNat/2 ^ (M-k)) (PV r1 r2 r3)):=by
   intro k
   induction k with
   |zero =>
    intro _;refine⟨j4,?_⟩;rw[Nat.sub_zero,hbig a La ha vLa aq,hbig b Lb hb vLb aq];show JV u4 v4 w4=_;rw[e4,yg];exact(cf fd (Q:=none) True.intro).symm
   | succ k ih =>
    intro hk;obtain⟨i3,i4⟩:=ih aq;have hs:=hS k;rw[dj];generalize dj (qK D A B a b M (u1,v1,w1) (u2,v2,w2) (u3,v3,w3)) (u4,v4,w4) k=s at *;obtain⟨d1,d2,_⟩:=hD s hs;obtain⟨d3,d4⟩:=d2 i3;have ba:=(hB (a,M-1-k) ⟨ha,aq⟩).1;have bb:=(hB (b,M-1-k) ⟨hb,aq⟩).1;obtain⟨s1,s2,s3,s4⟩:=yk o1 o2 ((V a).toNat/2 ^ (M-k)) ((V b).toNat/2 ^ (M-k));rw[i4,s1]at d4;rw[pC _ M k aq,pC (V b).toNat M k aq];dsimp only at ba bb;have m2:∀n:Nat,n%2=0∨n%2=1:=Nat.mod_two_eq_zero_or_one;unfold qK
    cases hb1:B (a,M-1-k)
    ·have za:(V a).toNat/2 ^ (M-1-k)%2=0:=(m2 _).resolve_right (fun h=>by rw[ba.2 h]at hb1;cases hb1);rw[za,Nat.add_zero]
     cases hb2:B (b,M-1-k)
     ·have zb:(V b).toNat/2 ^ (M-1-k)%2=0:=(m2 _).resolve_right (fun h=>by rw[bb.2 h]at hb2;cases hb2);rw[zb,Nat.add_zero];exact⟨d3,d4⟩
     ·rw[bb.1 hb2];obtain⟨k1,k2,_⟩:=hA (D s,(u2,v2,w2)) ⟨d1,htwo⟩;obtain⟨k3,k4⟩:=k2 d3 j2;refine⟨k3,?_⟩;show JV3 (A (D s,(u2,v2,w2)))=_;rw[k4,d4,←s3];show sum fd _ (JV u2 v2 w2)=_;rw[e2]
    ·rw[ba.1 hb1]
     cases hb2:B (b,M-1-k)
     ·have zb:(V b).toNat/2 ^ (M-1-k)%2=0:=(m2 _).resolve_right (fun h=>by rw[bb.2 h]at hb2;cases hb2);rw[zb,Nat.add_zero (2*((V b).toNat/2 ^ (M-k)))];obtain⟨k1,k2,_⟩:=hA (D s,(u1,v1,w1)) ⟨d1,hone⟩;obtain⟨k3,k4⟩:=k2 d3 j1;refine⟨k3,?_⟩;show JV3 (A (D s,(u1,v1,w1)))=_;rw[k4,d4,←s2];show sum fd _ (JV u1 v1 w1)=_;rw[e1]
     ·rw[bb.1 hb2];obtain⟨k1,k2,_⟩:=hA (D s,(u3,v3,w3)) ⟨d1,hboth⟩;obtain⟨k3,k4⟩:=k2 d3 j3;refine⟨k3,?_⟩;show JV3 (A (D s,(u3,v3,w3)))=_;rw[k4,d4,←s4];show sum fd _ (JV u3 v3 w3)=_;rw[e3,e1,e2]
  obtain⟨z1,z2⟩:=main M (cL _);obtain⟨z3,z4⟩:=vp z1;refine⟨z3,?_⟩;rw[z4];show JV3 _=_;rw[z2,Nat.sub_self,Nat.pow_zero,Nat.div_one,Nat.div_one]
 refine⟨u,v,o,hu,hv,vv,?_⟩;refine bu Tryz.func159 Tryz.ntmps159 (rs:=[.cell 8 189]) (If _ _ _ _ _ _ _ _) ?_;have hal:=ha.1;have hbl:=hb.1;have hxl:=hx.1;have hyl:=hy.1;have hxl':=hx'.1;have hyl':=hy'.1;have z4:List.drop 4 (cI zI)=[]:=ay rfl;have pl1:=bc hxl hyl c;have pt1:=bX hxl hyl c;have pl2:=bc hxl' hyl' c';have pt2:=bX hxl' hyl' c';have wl1:=cz hu1.1 hv1.1 hw1.1;have wt1:=bP hu1.1 hv1.1 hw1.1;have wl2:=cz hu2.1 hv2.1 hw2.1;have wt2:=bP hu2.1 hv2.1 hw2.1;have wl3:=cz hu3.1 hv3.1 hw3.1;have wt3:=bP hu3.1 hv3.1 hw3.1;have wl4:=cz hu4.1 hv4.1 hw4.1;have wt4:=bP hu4.1 hv4.1 hw4.1;have wd:(cV zI zI zI).drop 12=[]:=gR rfl rfl rfl;have wl:(cV zI zI zI).length=12:=rfl;have pd:(cP zI zI false).drop 9=[]:=kZ rfl rfl _;have pl:(cP zI zI false).length=9:=rfl;simp[go_sem,hal,hbl,aa hal,aa hbl,pl1,pt1,pl2,pt2];refine c7 [0,3] [1,2,4,5,6,7,8,9] [0,3] (.alt (bt 1 (.alt (bt 2 (.alt (bx 4 (.alt (bx 5 (.alt (a_ [6,7,8,9]) (a_ [7,6,8,9]))) (.alt (bx 6 (.alt (a_ [5,7,8,9]) (a_ [7,5,8,9]))) (bx 7 (.alt (a_ [5,6,8,9]) (a_ [6,5,8,9])))))) (.alt (bt 6 (.alt (bx 4 (.alt (a_ [5,7,8,9]) (a_ [7,5,8,9]))) (bt 7 (a_ [4,5,8,9])))) (bt 7 (.alt (bx 4 (.alt (a_ [5,6,8,9]) (a_ [6,5,8,9]))) (bt 6 (a_ [4,5,8,9]))))))) (.alt (bt 6 (.alt (bt 2 (.alt (bx 4 (.alt (a_ [5,7,8,9]) (a_ [7,5,8,9]))) (bt 7 (a_ [4,5,8,9])))) (bt 7 (bt 2 (a_ [4,5,8,9]))))) (bt 7 (.alt (bt 2 (.alt (bx 4 (.alt (a_ [5,6,8,9]) (a_ [6,5,8,9]))) (bt 6 (a_ [4,5,8,9])))) (bt 6 (bt 2 (a_ [4,5,8,9])))))))) (.alt (bt 6 (.alt (bt 1 (.alt (bt 2 (.alt (bx 4 (.alt (a_ [5,7,8,9]) (a_ [7,5,8,9]))) (bt 7 (a_ [4,5,8,9])))) (bt 7 (bt 2 (a_ [4,5,8,9]))))) (bt 7 (bt 1 (bt 2 (a_ [4,5,8,9])))))) (bt 7 (.alt (bt 1 (.alt (bt 2 (.alt (bx 4 (.alt (a_ [5,6,8,9]) (a_ [6,5,8,9]))) (bt 6 (a_ [4,5,8,9])))) (bt 6 (bt 2 (a_ [4,5,8,9]))))) (bt 6 (bt 1 (bt 2 (a_ [4,5,8,9])))))))) ⟨[(4,.ptr 0 0 0 1),(6,.ptr 64 0 0 1),(8,.ptr 128 0 0 1),(9,.ptr 352 0 0 1),(10,.ptr 384 0 0 1)],[(384,⟨243,12,[cV u2 v2 w2]⟩),(352,⟨243,12,[cV u1 v1 w1]⟩),(128,⟨189,9,[cP zI zI false]⟩),(64,⟨96,4,[cI b]⟩),(0,⟨96,4,[cI a]⟩)],9000⟩ (k:=10) ?h3 ?hq
 case h3 =>
  intro G hG
  have hW:∀(fr:Fr)(hp:Hp),(fv 4 fr=.ptr 0 0 0 1∧fv 6 fr=.ptr 64 0 0 1∧fv 8 fr=.ptr 128 0 0 1∧fv 9 fr=.ptr 352 0 0 1∧fv 10 fr=.ptr 384 0 0 1∧lk 384 hp=some ⟨243,12,[cV u2 v2 w2]⟩∧lk 352 hp=some ⟨243,12,[cV u1 v1 w1]⟩∧lk 128 hp=some ⟨189,9,[cP zI zI false]⟩∧lk 64 hp=some ⟨96,4,[cI b]⟩∧lk 0 hp=some ⟨96,4,[cI a]⟩)→G fr hp:=by
   rintro fr hp⟨q0,q1,q2,q3,q4,q5,q6,q7,q8,q9⟩;exact hG _ _ oy
  simp[go_sem,hal,hbl,aa hal,aa hbl,pl1,pt1,pl2,pt2,wl1,wt1,wl2,wt2,wd,z4,b7]
  repeat' first|exact hW _ _ ⟨rfl,rfl,rfl,rfl,rfl,rfl,rfl,rfl,rfl,rfl⟩|(refine hW _ _ ?_;simp[fv,lk];done)|refine ae t1 (cy _ _ _) ?_|refine ae t2 (cy _ _ _) ?_|refine ae g1 (cy _ _ _) ?_|refine ae g2 (cy _ _ _) ?_|apply And.intro|simp[go_sem,hal,hbl,aa hal,aa hbl,pl1,pt1,pl2,pt2,wl1,wt1,wl2,wt2,wd,z4,b7]
 case hq =>
  simp[go_sem,wl1,wt1,wl2,wt2];refine ae f3 (kn _ _ _ _ _ _) ?_;simp[go_sem,wl3,wt3,wd];refine ae fl aw ?_;simp[go_sem];refine ae f4 (cy _ _ _) ?_;simp[go_sem,wl4,wt4,wd];refine cQ [0,2] [(1,[]),(3,[]),(4,[5,6])] 3 (k:=7) ?_;intro G hG;simp[go_sem,hal,hbl,aa hal,aa hbl];refine ae f5 (av _) ?_;simp[go_sem,hal,hbl,aa hal,aa hbl];refine ae f6 (av _) ?_;have w0:IntKind.i64.wrap ((M:Int)-1)=(M:Int)-1:=by rw[IntWalk.i64_in _ aq]
  have hMi:max (La:Int) (Lb:Int)=(M:Int):=aq;have hMx:(if La<Lb then(Lb:Int)else(La:Int))=(M:Int):=by split<;>omega
  simp[go_sem,hMi,w0];refine hG _ _ ?_;generalize hSS:dj (qK D A B a b M (u1,v1,w1) (u2,v2,w2) (u3,v3,w3)) (u4,v4,w4)=S at *;have hS0:S 0=(u4,v4,w4):=by rw[←hSS];rfl
  refine am (fun k:Nat=>⟨[(4,.ptr 0 0 0 1),(6,.ptr 64 0 0 1),(8,.ptr 128 0 0 1),(9,.ptr 352 0 0 1),(10,.ptr 384 0 0 1),(11,.ptr 9096 0 0 1),(12,.ptr 9224 0 0 1),(13,.d (.int .i64 ((M:Int)-1-(k:Int))))],[(9224,⟨243,12,[cV (S k).1 (S k).2.1 (S k).2.2]⟩),(9096,⟨243,12,[cV u3 v3 w3]⟩),(384,⟨243,12,[cV u2 v2 w2]⟩),(352,⟨243,12,[cV u1 v1 w1]⟩),(128,⟨189,9,[cP zI zI false]⟩),(64,⟨96,4,[cI b]⟩),(0,⟨96,4,[cI a]⟩)],20000⟩)
   (fun k=>k≤M) (fun k=>M-k) 0 aq (by
    rw[hS0];simp[ak,ah,fv,lk,AV.low,AV.low1]
    and_intros<;>first|exact lO _ _ _ _|exact aD _ _|exact dB _ _ _ _|(rw[hMx,w0])) ?_
  intro k hk;obtain⟨hs1,hs2,hs3⟩:=hS k;have sl:=cz hs1.1 hs2.1 hs3.1;have st:=bP hs1.1 hs2.1 hs3.1;have sd:=gR hs1.1 hs2.1 hs3.1;simp only[go_sem,Nat.reduceEqDiff,Nat.reduceAdd,Nat.reduceLT,↓reduceIte];by_cases h4:k<M
  ·refine⟨fun h=>?_,fun h=>absurd aq h⟩;have hsn:S (k+1)=qK D A B a b M (u1,v1,w1) (u2,v2,w2) (u3,v3,w3) k (S k):=by rw[←hSS];rfl
   have wq:IntKind.i64.wrap ((M:Int)-1-(k:Int)-1)=(M:Int)-1-((k+1:Nat):Int):=by rw[IntWalk.i64_in _ aq];omega
   obtain⟨d1,_,d2⟩:=hD (S k) ⟨hs1,hs2,hs3⟩;have dl:=cz d1.1.1 d1.2.1.1 d1.2.2.1;have dt:=bP d1.1.1 d1.2.1.1 d1.2.2.1;have dd:=gR d1.1.1 d1.2.1.1 d1.2.2.1;have e1:=(hB (a,M-1-k) ⟨ha,aq⟩).2;have e2:=(hB (b,M-1-k) ⟨hb,aq⟩).2;have ei:(((M-1-k:Nat)):Int)=(M:Int)-1-(k:Int):=aq;simp only[ei]at e1 e2;unfold qK at hsn;simp[go_sem,sl,st];refine ae d2 (dC _ _ _) ?_;simp[go_sem,dl,dt,sl,sd];refine cQ [0,1,3,4] [(2,[]),(5,[6,7])] 2 (k:=8) ?_;intro G hG;simp[go_sem,hal,hbl,aa hal,aa hbl];refine ae e1 (sO _ _) ?_;simp[go_sem,hal,hbl,aa hal,aa hbl];refine ae e2 (sO _ _) ?_;simp[go_sem];refine hG _ _ ?_
   cases hb1:B (a,M-1-k)
   ·cases hb2:B (b,M-1-k)
    ·simp only[hb1,hb2,if_true,if_false,Bool.false_eq_true]at hsn;simp[go_sem,hb1,hb2,dl,dt,wl1,wt1,wl2,wt2,wl3,wt3];simp[go_sem,wq];refine aj (k+1) aq aq ?_;rw[hsn];simp[ak,ah,fv,lk,AV.low,AV.low1];and_intros<;>first|exact lO _ _ _ _|exact aD _ _|exact dB _ _ _ _|omega
    ·simp only[hb1,hb2,if_true,if_false,Bool.false_eq_true]at hsn;simp[go_sem,hb1,hb2,dl,dt,wl1,wt1,wl2,wt2,wl3,wt3];obtain⟨m1,_,m2⟩:=hA (D (S k),(u2,v2,w2)) ⟨d1,htwo⟩;refine ae m2 (kn _ _ _ _ _ _) ?_;have ml:=cz m1.1.1 m1.2.1.1 m1.2.2.1;have mt:=bP m1.1.1 m1.2.1.1 m1.2.2.1;have md:=gR m1.1.1 m1.2.1.1 m1.2.2.1;generalize A (D (S k),(u2,v2,w2))=z at *;simp[go_sem,ml,mt,dd,dl,wq];refine aj (k+1) aq aq ?_;rw[hsn];simp[ak,ah,fv,lk,AV.low,AV.low1];and_intros<;>first|exact lO _ _ _ _|exact aD _ _|exact dB _ _ _ _|omega
   ·cases hb2:B (b,M-1-k)
    ·simp only[hb1,hb2,if_true,if_false,Bool.false_eq_true]at hsn;simp[go_sem,hb1,hb2,dl,dt,wl1,wt1,wl2,wt2,wl3,wt3];obtain⟨m1,_,m2⟩:=hA (D (S k),(u1,v1,w1)) ⟨d1,hone⟩;refine ae m2 (kn _ _ _ _ _ _) ?_;have ml:=cz m1.1.1 m1.2.1.1 m1.2.2.1;have mt:=bP m1.1.1 m1.2.1.1 m1.2.2.1;have md:=gR m1.1.1 m1.2.1.1 m1.2.2.1;generalize A (D (S k),(u1,v1,w1))=z at *;simp[go_sem,ml,mt,dd,dl,wq];refine aj (k+1) aq aq ?_;rw[hsn];simp[ak,ah,fv,lk,AV.low,AV.low1];and_intros<;>first|exact lO _ _ _ _|exact aD _ _|exact dB _ _ _ _|omega
    ·simp only[hb1,hb2,if_true,if_false,Bool.false_eq_true]at hsn;simp[go_sem,hb1,hb2,dl,dt,wl1,wt1,wl2,wt2,wl3,wt3];obtain⟨m1,_,m2⟩:=hA (D (S k),(u3,v3,w3)) ⟨d1,hboth⟩;refine ae m2 (kn _ _ _ _ _ _) ?_;have ml:=cz m1.1.1 m1.2.1.1 m1.2.2.1;have mt:=bP m1.1.1 m1.2.1.1 m1.2.2.1;have md:=gR m1.1.1 m1.2.1.1 m1.2.2.1;generalize A (D (S k),(u3,v3,w3))=z at *;simp[go_sem,ml,mt,dd,dl,wq];refine aj (k+1) aq aq ?_;rw[hsn];simp[ak,ah,fv,lk,AV.low,AV.low1];and_intros<;>first|exact lO _ _ _ _|exact aD _ _|exact dB _ _ _ _|omega
  ·refine⟨fun h=>absurd aq h4,fun h=>?_⟩;have hkl:k=M:=aq;subst hkl;simp[go_sem,sl,st];refine ae f7 (dC _ _ _) ?_;have ol:=bc hu.1 hv.1 o;have ot:=bX hu.1 hv.1 o;simp[go_sem,ol,ot,pl,pd,ar];exact kj rfl
theorem Br(t b:List Nat):(hJ t b).length=32∧bytes (hJ t b):=⟨bk _,t7 _⟩
noncomputable def liftPt(n:Nat):Pt pP:=some (yA pP (n:Int),yA pP (if fK n%2=0 then fK n else(0-fK n)%115792089237316195423570985008687907853269984665640564039457584007908834671663))
theorem Ig(R p:Int):(0-R)%p*((0-R)%p)%p=R*R%p:=by
 rw[←Int.mul_emod];congr 1;rw[Int.zero_sub,Int.neg_mul_neg]
theorem Ih{x:List Int}{n:Nat}(hx:V x=n):((((FV x*FV x*FV x+7:F)).val:Nat):Int)=gq n:=by
 have e7:(((7:F).val:Nat):Int)=7%pZ:=by
  show((7%pP:Nat):Int)=_;rw[Int.natCast_emod,de];rfl
 rw[ye,mq,mq,Int.natCast_emod,Int.natCast_add,Int.natCast_emod,Int.natCast_mul,Int.natCast_emod,Int.natCast_mul,cv,e7,de,hx];unfold gq;show _=((n:Int)*n*n+7)%pZ;rw[←Int.mul_emod (n:Int) n,←Int.mul_emod ((n:Int)*n) n,←Int.add_emod]
theorem EA{n:Nat}{x y:List Int}{c:Bool}(h:Bn n x y c true):km n∧c=false∧fa x y c∧PV x y c=liftPt n:=by
 rcases h with ⟨_,h,_⟩|⟨h1,_,rfl,hx,hy⟩
 ·cases h
 have hpos:(0:Int)<pZ:=by decide
 have hyl:V y<pZ:=by
  rw[hy]
  split
  ·exact Int.emod_lt_of_pos _ hpos
  ·exact Int.emod_lt_of_pos _ hpos
 have hon:FV y*FV y=FV x*FV x*FV x+7:=by
  refine jW ?_;rw[Ih hx,mq,Int.natCast_emod,Int.natCast_mul,cv,de,←Int.mul_emod];have hc:gq n%pZ=gq n:=by unfold gq;exact Int.emod_emod _ _
  have hR:fK n*fK n%pZ=gq n:=h1.2.trans hc;rw[hy]
  split
  ·exact hR
  ·rw[←hR];exact Ig _ _
 refine⟨h1,rfl,.inr ⟨rfl,by rw[hx];exact h1.1,hyl,hon⟩,?_⟩;show some (yA pP (V x),yA pP (V y))=_;rw[hx,hy];rfl
theorem EB{n:Nat}{x y:List Int}{c:Bool}(h:Bn n x y c false):¬km n:=by
 rcases h with ⟨h,_⟩|⟨_,h,_⟩
 ·exact h
 ·cases h
theorem wF{x:List Int}(hx:Wn 4 x)(h:V x<pZ):(V x).toNat=(FV x).val:=by
 have e:=cv x;have h0:=(cJ hx).1;rw[Int.emod_eq_of_lt h0 h]at e;omega
open Go.Am Go.Sha
def LA(inner:List Nat)(ps:List (List Nat))(x:List Nat):AV:=.agg (Ap inner (.d (Nu ps)) (.d (nb x)))
end Go.Proofs.YtmfnimjnneflnaaGreat
namespace Go.Sha
open Go.Proofs.YtmfnimjnneflnaaGreat
structure RnF where
 t:Tn
 n:Nat
 coins:List (Nat×List Nat)
 inner:List Nat
 path:List (List Nat)
 script:List Nat
 annex:List Nat
end Go.Sha
namespace Go.Proofs.YtmfnimjnneflnaaGreat
open Go.Am Go.Sha
end Go.Proofs.YtmfnimjnneflnaaGreat
