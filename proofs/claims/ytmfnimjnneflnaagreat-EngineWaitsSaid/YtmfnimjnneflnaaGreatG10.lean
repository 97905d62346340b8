/-
 Part 11 of what the claim rests on.
-/
import Derived.Test.YtmfnimjnneflnaaGreatG8
import Derived.Test.YtmfnimjnneflnaaGreatG9
set_option linter.unusedVariables false
set_option linter.unusedSimpArgs false
set_option maxRecDepth 100000
set_option maxHeartbeats 16000000
namespace Go.Proofs.YtmfnimjnneflnaaGreat
open Go.Am Go.Sha Go.Ec
theorem Ae (x:Int):∀ v,v ∈ [AV.d (.int .u64 x)]→v.deep:=by
 intro v hv;simp at hv;subst hv;trivial
theorem PU {a:List Int} (ha:Wn 4 a):(a.map Int.toNat).length=4∧cI a=cW (a.map Int.toNat):=by
 refine ⟨by simp [ha.1],?_⟩;unfold cI cW;rw [List.map_map];refine List.map_congr_left fun x hx=>?_;have:=(ha.2 x hx).1;simp only [Function.comp_apply];rw [Int.toNat_of_nonneg this]
theorem YS {a b:List Int} (ha:Wn 4 a) (hb:Wn 4 b):zD (a.map Int.toNat) (b.map Int.toNat) 4<0 ↔ V a<V b:=by
 obtain ⟨a0,a1,a2,a3,rfl,h0,h1,h2,h3⟩:=jj ha;obtain ⟨b0,b1,b2,b3,rfl,k0,k1,k2,k3⟩:=jj hb;unfold dp at *;rw [V4,V4];have g0:∀ w x y z:Nat,[w,x,y,z].getD 0 0=w:=fun _ _ _ _=>rfl;have g1:∀ w x y z:Nat,[w,x,y,z].getD 1 0=x:=fun _ _ _ _=>rfl;have g2:∀ w x y z:Nat,[w,x,y,z].getD 2 0=y:=fun _ _ _ _=>rfl;have g3:∀ w x y z:Nat,[w,x,y,z].getD 3 0=z:=fun _ _ _ _=>rfl;simp only [List.map_cons,List.map_nil,zD,g0,g1,g2,g3]
 repeat' split
 all_goals omega
theorem Ez (a b:List Int) (ha:Wn 4 a) (hb:Wn 4 b):∃ c:Int,(c<0 ↔ V a<V b)∧ax Tryz.prog 206 [.agg (cI a),.agg (cI b)] (fun r=>r=.d (.int .i64 c)):=by
 obtain ⟨hl,e1⟩:=PU ha;obtain ⟨hm,e2⟩:=PU hb;rw [e1,e2];exact ⟨_,YS ha hb,Ry _ _ hl hm⟩
theorem mX (a:List Int) (ha:Wn 4 a):∃ r,Wn 4 r∧(V r<pZ∧FV r=FV a*FV a)∧W1 208 a r:=by
 obtain ⟨r,hr,vr,f1⟩:=gf a a ha ha;unfold W2 at f1;have hal:=ha.1;have hrl:=hr.1;have hz:List.drop 4 (cI zI)=[]:=aZ rfl;refine ⟨r,hr,vr,?_⟩;unfold W1;refine bO Tryz.func208 Tryz.ntmps208 (rs:=[.cell 2 96]) (aR a) ?_;simp [go_sem,hal,ae hal];refine ag f1 (aK _ _) ?_;simp [go_sem,hrl,ae hrl,hz,ah];exact dH rfl
theorem Af (a:List Int) (ha:Wn 4 a):∃ r,Wn 4 r∧(V r<pZ∧FV r=FV a*FV a*FV a+7)∧W1 190 a r:=by
 obtain ⟨s,hs,vs,f1⟩:=mX a ha;obtain ⟨m,hm,vm,f2⟩:=gf s a hs ha;obtain ⟨r,hr,vr,f3⟩:=Ww m [7,0,0,0] hm (jG ⟨aq,aq⟩);have v7:FV [7,0,0,0]=7:=CG 7 aq;rw [v7,vm.2,vs.2] at vr;unfold W1 at f1;unfold W2 at f2 f3;have hal:=ha.1;have hrl:=hr.1;have hz:List.drop 4 (cI zI)=[]:=aZ rfl;refine ⟨r,hr,vr,?_⟩;unfold W1;refine bO Tryz.func190 Tryz.ntmps190 (rs:=[.cell 2 96]) (aR a) ?_;simp [go_sem,hal,ae hal];refine ek [0,2] [1,3,4,5,6] [0,2] (bt 1 (a_ [3,4,5,6])) ⟨[(2,.ptr 32 0 0 1)],[(32,⟨96,4,[cI r]⟩)],9000⟩ (k:=7) ?h3 ?hq
 case h3 =>
  intro G hG
  have hW:∀ (fr:Fr) (hp:Hp),(fv 2 fr=.ptr 32 0 0 1∧lk 32 hp=some ⟨96,4,[cI r]⟩)→G fr hp:=by
   rintro fr hp ⟨q0,q1⟩;refine hG _ _ (cz ?_);simp only [aA,ai];refine ⟨fun p hp=>?_,fun p hp=>?_,aw⟩
   ·simp only [d_,List.mem_nil_iff,or_false] at hp;subst hp;exact ⟨.inl q0.symm,by simp [AV.low,AV.low1]⟩
   ·simp only [d_,List.mem_nil_iff,or_false] at hp;subst hp;exact ⟨.inl q1,aw,by intro r hr;simp only [d_,List.mem_nil_iff,or_false] at hr;subst hr;exact bV _ _⟩
  simp [go_sem,hal,ae hal,hrl,ae hrl,hz,dM]
  repeat' first | exact hW _ _ ⟨rfl,rfl⟩ | (refine hW _ _ ?_;simp [fv,lk];done) | refine ag f1 (aR _) ?_ | refine ag f2 (aK _ _) ?_ | refine ag f3 (aK _ _) ?_ | refine ag (eP 7) (Ae _) ?_ | apply And.intro | simp [go_sem,hal,ae hal,hrl,ae hrl,hz,dM]
 case hq =>
  simp [go_sem,hrl,ae hrl,ah];exact dH rfl
theorem t6 (a:List Int) (ha:Wn 4 a):∃ b:Bool,(b=true ↔ V a<pZ)∧ax Tryz.prog 188 [.agg (cI a)] (fun r=>r=.d (.bool b)):=by
 obtain ⟨c,vc,f1⟩:=Ez a xR ha zX;have vp:V xR=pZ:=by simp [V,xR]
 rw [vp] at vc;have hal:=ha.1;refine ⟨decide (c<0),by rw [decide_eq_true_iff];exact vc,?_⟩;refine bO Tryz.func188 Tryz.ntmps188 (rs:=[.tmp 2]) (aR a) ?_;simp [go_sem,hal,ae hal];refine cf [0] [(1,[]),(2,[3,4])] 2 (k:=5) ?_;intro G hG;simp [go_sem,hal,ae hal];refine ag jM aw ?_;simp [go_sem];refine ag f1 (aK _ _) ?_;simp [go_sem,dM];refine hG _ _ ?_;simp [go_sem,ah];exact aa a9 rfl
def cP (x y:List Int) (b:Bool):List AV:=cI x ++ (cI y ++ [.d (.bool b)])
theorem bZ {x y:List Int} (hx:x.length=4) (hy:y.length=4) (b:Bool):(cP x y b).length=9:=by simp [cP,eF,hx,hy]
theorem c6 {x y:List Int} (hx:x.length=4) (hy:y.length=4) (b:Bool):(cP x y b).take 9=cP x y b:=cx (by rw [bZ hx hy];omega)
theorem nR {x y:List Int} (hx:x.length=4) (hy:y.length=4) (b:Bool):(cP x y b).drop 9=[]:=c_ (by rw [bZ hx hy];omega)
theorem SR {x y:List Int} (hx:x.length=4) (b:Bool):(cP x y b).take 4=cI x:=by
 unfold cP;rw [List.take_append_of_le_length (by rw [eF];omega),ae hx]
theorem Wy {x y:List Int} (hx:x.length=4) (hy:y.length=4) (b:Bool):((cP x y b).drop 4).take 4=cI y:=by
 unfold cP;rw [List.drop_append_of_le_length (by rw [eF];omega),aZ hx,List.nil_append,List.take_append_of_le_length (by rw [eF];omega),ae hy]
theorem Ag {x y:List Int} (hx:x.length=4) (hy:y.length=4) (b:Bool):(cP x y b)[8]?=some (.d (.bool b)):=by
 unfold cP;rw [dn (by rw [eF];omega),dn (by simp only [eF];omega)];simp [eF,hx,hy]
theorem CH {x y:List Int} (hx:x.length=4) (hy:y.length=4) (b:Bool) (h:8<(cP x y b).length):(cP x y b)[8]=.d (.bool b):=(ci.1 (Ag hx hy b)).2
theorem jH (x y:List Int) (b:Bool):(AV.agg (cP x y b)).deep:=by
 intro v hv;unfold cP at hv;rcases cD.1 hv with hv | hv
 ·exact i6 _ v hv
 ·rcases cD.1 hv with hv | hv
  ·exact i6 _ v hv
  ·simp at hv;subst hv;trivial
theorem dr (x y:List Int) (b:Bool):∀ v,v ∈ [AV.agg (cP x y b)]→v.deep:=by
 intro v hv;simp at hv;subst hv;exact jH _ _ _
theorem lS (n:Nat) (x y:List Int) (b:Bool):∀ v,v ∈ cP x y b→v.low1 n:=by
 intro v hv;unfold cP at hv;rcases cD.1 hv with hv | hv
 ·exact bV _ _ v hv
 ·rcases cD.1 hv with hv | hv
  ·exact bV _ _ v hv
  ·simp at hv;subst hv;trivial
theorem oV {Q:AV→Prop} {st:St} {x y:List Int} {b:Bool} (hq:Q (.agg (cP x y b))):dx Q (.agg (cP x y b)) st:=aa (jH _ _ _) hq
theorem ZI:eV Tryz.prog 189=some (cP zI zI false):=by kernel_rfl
attribute [go_sem] ZI
theorem jI:ax Tryz.prog 160 [] (fun r=>r=.agg (cP zI zI true)):=by
 refine bO Tryz.func160 Tryz.ntmps160 (rs:=[.cell 0 189]) a9 ?_;simp [go_sem,cP,cI,zI,ah];exact oV (x:=zI) (y:=zI) (b:=true) rfl
def lP (x y:List Int) (b:Bool):List L1:=x.map (L1.i .u64) ++ (y.map (L1.i .u64) ++ [L1.b b])
theorem J7:∀ (x:List Int) (r:List AV),ep (cI x ++ r)=(ep r).map (x.map (L1.i .u64) ++ ·)
 | [],r=>by simp [cI]
 | a :: l,r=>by
  have ih:=J7 l r;show ep (.d (.int .u64 a) :: (cI l ++ r))=_;have e:ep (.d (.int .u64 a) :: (cI l ++ r))=(ep (cI l ++ r)).map (L1.i .u64 a :: ·):=rfl;rw [e,ih,Option.map_map];rfl
theorem EA (x y:List Int) (b:Bool):ep (cP x y b)=some (lP x y b):=by
 unfold cP;rw [J7,J7];rfl
theorem ZJ:dQ Tryz.prog 8 189=some (List.replicate 8 (some .u64) ++ [none]):=by kernel_rfl
theorem J8 {x y:List Int} (hx:x.length=4) (hy:y.length=4) (b:Bool):dQ Tryz.prog 8 189=some ((lP x y b).map L1.k):=by
 rw [ZJ]
 match x,y,hx,hy with
 | [a,b,c,d],[e,f,g,h],_,_=>rfl
theorem ZK:Tryz.prog.eqGuardType Tryz.prog.depth 189=false:=by kernel_rfl
theorem Wz (x y:List Int) (b:Bool) (hx:Wn 4 x) (hy:Wn 4 y):∃ c:Bool,(c=true ↔ jq x y b)∧ax Tryz.prog 186 [.agg (cP x y b)] (fun r=>r=.d (.bool c)):=by
 have hxl:=hx.1;have hyl:=hy.1
 cases b
 ·obtain ⟨b1,vb1,f1⟩:=t6 x hx;obtain ⟨b2,vb2,f2⟩:=t6 y hy;obtain ⟨s,hs,vs,f3⟩:=mX y hy;obtain ⟨r,hr,vr,f4⟩:=Af x hx;unfold W1 at f3 f4;have hsl:=hs.1;have hrl:=hr.1;have e1:∀ c:Bool,(cP x y c).take 4=cI x:=SR hxl;have e2:∀ c:Bool,((cP x y c).drop 4).take 4=cI y:=Wy hxl hyl
  have hv:(b1 && (b2 && decide (s=r)))=true ↔ jq x y false:=by
   rw [Bool.and_eq_true,Bool.and_eq_true,decide_eq_true_iff,vb1,vb2];refine ⟨fun ⟨h1,h2,h3⟩=>.inr ⟨rfl,h1,h2,by rw [← vs.2,h3,vr.2]⟩,fun h=>?_⟩;rcases h with ⟨h,_⟩ | ⟨_,h1,h2,h3⟩
   ·cases h
   ·exact ⟨h1,h2,J5 hs hr vs.1 vr.1 (by rw [vs.2,vr.2,h3])⟩
  refine ⟨b1 && (b2 && decide (s=r)),hv,?_⟩;refine bO Tryz.func186 Tryz.ntmps186 (rs:=[.tmp 2]) (dr _ _ _) ?_;simp [go_sem,bZ hxl hyl,c6 hxl hyl,Ag hxl hyl,CH hxl hyl]
  cases b1
  ·skip;refine cf [0,1] [(2,[3,4,5]),(6,[7,8,9,10,12,13]),(11,[]),(14,[15,16,17])] 4 (k:=18) ?_;intro G hG;simp [go_sem,bZ hxl hyl,e1,e2];refine ag f1 (aR _) ?_;simp [go_sem,dM];refine hG _ _ ?_;simp [go_sem,ah];exact aa a9 rfl
  ·cases b2
   ·skip;refine cf [0,1] [(2,[3,4,5]),(6,[7,8,9,10,12,13]),(11,[]),(14,[15,16,17])] 4 (k:=18) ?_;intro G hG;simp [go_sem,bZ hxl hyl,e1,e2];refine ag f1 (aR _) ?_;simp [go_sem,bZ hxl hyl,e1,e2,dM];refine ag f2 (aR _) ?_;simp [go_sem,dM];refine hG _ _ ?_;simp [go_sem,ah];exact aa a9 rfl
   ·skip;refine cf [0,1] [(2,[3,4,5]),(6,[7,8,9,10,12,13]),(11,[]),(14,[15,16,17])] 4 (k:=18) ?_;intro G hG;simp [go_sem,bZ hxl hyl,e1,e2];refine ag f1 (aR _) ?_;simp [go_sem,bZ hxl hyl,e1,e2,dM];refine ag f2 (aR _) ?_;simp [go_sem,bZ hxl hyl,e1,e2,dM];refine ag f3 (aR _) ?_;simp [go_sem,bZ hxl hyl,e1,e2,dM];refine ag f4 (aR _) ?_;simp [go_sem,iu,hsl,hrl,dM];refine hG _ _ ?_;simp [go_sem,ah];exact aa a9 rfl
 ·have hv:decide (lP x y true=lP zI zI true)=true ↔ jq x y true:=by
   rw [decide_eq_true_iff];refine ⟨fun h=>.inl ⟨rfl,?_⟩,fun h=>?_⟩
   ·match x,y,hxl,hyl with
    | [a,b,c,d],[e,f,g,i],_,_ =>
     simp [lP,zI] at h;obtain ⟨rfl,rfl,rfl,rfl,rfl,rfl,rfl,rfl⟩:=h;exact ⟨rfl,rfl⟩
   ·rcases h with ⟨_,rfl,rfl⟩ | ⟨h,_⟩
    ·rfl
    ·cases h
  refine ⟨decide (lP x y true=lP zI zI true),hv,?_⟩;refine bO Tryz.func186 Tryz.ntmps186 (rs:=[.tmp 2]) (dr _ _ _) ?_;simp [go_sem,bZ hxl hyl,c6 hxl hyl,Ag hxl hyl,CH hxl hyl];refine cf [0] [(1,[2,3])] 1 (k:=4) ?_;intro G hG;simp [go_sem,bZ hxl hyl,c6 hxl hyl];refine ag jI aw ?_;have k1:=J8 hxl hyl true;have k2:=J8 (x:=zI) (y:=zI) rfl rfl true;have l1:=EA x y true;have l2:=EA zI zI true;generalize lP x y true=u at *;generalize lP zI zI true=v at *;simp [go_sem,l1,l2,ZK,dM]
  first | refine ⟨k1,k2,hG _ _ ?_⟩ | refine ⟨k1,hG _ _ ?_⟩
  simp [go_sem,ah];exact aa a9 rfl
theorem pY (x y:List Int) (b:Bool) (hx:Wn 4 x) (hy:Wn 4 y):∃ (u v:List Int) (c:Bool),Wn 4 u∧Wn 4 v∧(jq u v c∧(jq x y b→u=x∧v=y∧c=b)∧(¬ jq x y b→u=zI∧v=zI∧c=true))∧ax Tryz.prog 161 [.agg (cP x y b)] (fun r=>r=.agg (cP u v c)):=by
 obtain ⟨o,vo,f1⟩:=Wz x y b hx hy;have hxl:=hx.1;have hyl:=hy.1;have zd:(cP zI zI false).drop 9=[]:=nR rfl rfl _;have zl:(cP zI zI true).length=9:=rfl;have zt:(cP zI zI true).take 9=cP zI zI true:=c6 rfl rfl _;have zl2:(cP zI zI false).length=9:=rfl
 cases o
 ·refine ⟨zI,zI,true,jF,jF,⟨tZ,fun h=>absurd (vo.2 h) (by decide),fun _=>⟨rfl,rfl,rfl⟩⟩,?_⟩;refine bO Tryz.func161 Tryz.ntmps161 (rs:=[.cell 2 189]) (dr _ _ _) ?_;simp [go_sem,bZ hxl hyl,c6 hxl hyl];refine ag f1 (dr _ _ _) ?_;simp [go_sem];refine ag jI aw ?_;simp [go_sem,zl,zt,zd,zl2,ah];exact oV rfl
 ·refine ⟨x,y,b,hx,hy,⟨vo.1 rfl,fun _=>⟨rfl,rfl,rfl⟩,fun h=>absurd (vo.1 rfl) h⟩,?_⟩;refine bO Tryz.func161 Tryz.ntmps161 (rs:=[.cell 2 189]) (dr _ _ _) ?_;simp [go_sem,bZ hxl hyl,c6 hxl hyl];refine ag f1 (dr _ _ _) ?_;simp [go_sem,bZ hxl hyl,c6 hxl hyl,zd,zl2,ah];exact oV rfl
def cV (x y z:List Int):List AV:=cI x ++ (cI y ++ cI z)
theorem dP {x y z:List Int} (hx:x.length=4) (hy:y.length=4) (hz:z.length=4):(cV x y z).length=12:=by simp [cV,eF,hx,hy,hz]
theorem de {x y z:List Int} (hx:x.length=4) (hy:y.length=4) (hz:z.length=4):(cV x y z).take 12=cV x y z:=cx (by rw [dP hx hy hz];omega)
theorem kC {x y z:List Int} (hx:x.length=4) (hy:y.length=4) (hz:z.length=4):(cV x y z).drop 12=[]:=c_ (by rw [dP hx hy hz];omega)
theorem Oi {x y z:List Int} (hx:x.length=4):(cV x y z).take 4=cI x:=by
 unfold cV;rw [List.take_append_of_le_length (by rw [eF];omega),ae hx]
theorem Oj {x y z:List Int} (hx:x.length=4) (hy:y.length=4):((cV x y z).drop 4).take 4=cI y:=by
 unfold cV;rw [List.drop_append_of_le_length (by rw [eF];omega),aZ hx,List.nil_append,List.take_append_of_le_length (by rw [eF];omega),ae hy]
theorem J9 {x y z:List Int} (hx:x.length=4) (hy:y.length=4) (hz:z.length=4):((cV x y z).drop 8).take 4=cI z:=by
 have e:cV x y z=(cI x ++ cI y) ++ cI z:=by simp [cV]
 rw [e,List.drop_append_of_le_length (by simp [eF,hx,hy]),c_ (by simp [eF,hx,hy]),List.nil_append,ae hz]
theorem sy (x y z:List Int):(AV.agg (cV x y z)).deep:=by
 intro v hv;unfold cV at hv;rcases cD.1 hv with hv | hv
 ·exact i6 _ v hv
 ·rcases cD.1 hv with hv | hv
  ·exact i6 _ v hv
  ·exact i6 _ v hv
theorem fD (x y z:List Int):∀ v,v ∈ [AV.agg (cV x y z)]→v.deep:=by
 intro v hv;simp at hv;subst hv;exact sy _ _ _
theorem rh (n:Nat) (x y z:List Int):∀ v,v ∈ cV x y z→v.low1 n:=by
 intro v hv;unfold cV at hv;rcases cD.1 hv with hv | hv
 ·exact bV _ _ v hv
 ·rcases cD.1 hv with hv | hv
  ·exact bV _ _ v hv
  ·exact bV _ _ v hv
theorem kM {Q:AV→Prop} {st:St} {x y z:List Int} (hq:Q (.agg (cV x y z))):dx Q (.agg (cV x y z)) st:=aa (sy _ _ _) hq
theorem ZL:eV Tryz.prog 243=some (cV zI zI zI):=by kernel_rfl
attribute [go_sem] ZL
def kj:List Int:=[1,0,0,0]
theorem CJ:Wn 4 kj:=jG ⟨aq,aq⟩
theorem nS (x y z:List Int) (hx:Wn 4 x) (hy:Wn 4 y) (hz:Wn 4 z):ax Tryz.prog 207 [.agg (cV x y z)] (fun r=>r=.d (.bool (decide (z=zI)))):=by
 have hxl:=hx.1;have hyl:=hy.1;have hzl:=hz.1;refine bO Tryz.func207 Tryz.ntmps207 (rs:=[.tmp 2]) (fD _ _ _) ?_;have iz:b7 .u64 [AV.d (.int .u64 0),AV.d (.int .u64 0),AV.d (.int .u64 0),AV.d (.int .u64 0)]=some zI:=iu zI;simp [go_sem,dP hxl hyl hzl,de hxl hyl hzl,J9 hxl hyl hzl,iu,iz,hzl,ah];exact aa a9 rfl
theorem Ko:V kj=1:=by simp [V,kj]
theorem SS:FV kj=1:=CG 1 aq
theorem WA:JV kj kj zI=none:=by
 show pV fd (FV kj) (FV kj) (FV zI)=none;rw [x9];exact Ad fd _ _
theorem WB:rf kj kj zI:=by
 have hz:V zI=0:=by simp [V,zI]
 refine ⟨⟨by rw [Ko];decide,by rw [Ko];decide,by rw [hz];decide⟩,by rw [WA];trivial⟩
theorem Kp:(1:F) ≠ 0:=fd.one
theorem YT (a:F):a=a*(1*1):=by grobner
theorem WC (a:F):a=a*(1*1*1):=by grobner
theorem SU (x y:List Int):JV x y kj=some (FV x,FV y):=by
 show pV fd (FV x) (FV y) (FV kj)=_;rw [SS];exact x6 fd Kp (YT _) (WC _)
theorem Ol {x y:List Int} (h:jq x y false):rf x y kj∧JV x y kj=PV x y false:=by
 have e:JV x y kj=PV x y false:=SU x y;have ho:=ya h;rcases h with ⟨h,_⟩ | ⟨_,h1,h2,_⟩
 ·cases h
 ·exact ⟨⟨⟨h1,h2,by rw [Ko];decide⟩,by rw [e];exact ho⟩,e⟩
theorem ZM {x y:List Int} (hx:x.length=4) (hy:y.length=4):List.take 8 (cI x ++ (cI y ++ List.drop 8 (cI x ++ [AV.d (.int .u64 0),AV.d (.int .u64 0),AV.d (.int .u64 0),AV.d (.int .u64 0),AV.d (.int .u64 0),AV.d (.int .u64 0),AV.d (.int .u64 0),AV.d (.int .u64 0)]))) ++ (cI [1,0,0,0] ++ List.drop 12 (cI x ++ (cI y ++ List.drop 8 (cI x ++ [AV.d (.int .u64 0),AV.d (.int .u64 0),AV.d (.int .u64 0),AV.d (.int .u64 0),AV.d (.int .u64 0),AV.d (.int .u64 0),AV.d (.int .u64 0),AV.d (.int .u64 0)]))))=cV x y kj:=by
 match x,y,hx,hy with
 | [a,b,c,d],[e,f,g,h],_,_=>rfl
theorem mY (x y:List Int) (b:Bool) (hx:Wn 4 x) (hy:Wn 4 y):∃ (u v w:List Int),Wn 4 u∧Wn 4 v∧Wn 4 w∧(jq x y b→rf u v w∧JV u v w=PV x y b)∧ax Tryz.prog 180 [.agg (cP x y b)] (fun r=>r=.agg (cV u v w)):=by
 have hxl:=hx.1;have hyl:=hy.1
 cases b
 ·refine ⟨x,y,kj,hx,hy,CJ,Ol,?_⟩;refine bO Tryz.func180 Tryz.ntmps180 (rs:=[.cell 2 243]) (dr _ _ _) ?_;have e1:∀ c:Bool,(cP x y c).take 4=cI x:=SR hxl;have e2:∀ c:Bool,((cP x y c).drop 4).take 4=cI y:=Wy hxl hyl;simp [go_sem,bZ hxl hyl,c6 hxl hyl,Ag hxl hyl,CH hxl hyl];refine cf [0,1,2,3] [(4,[5]),(6,[])] 1 (k:=7) ?_;intro G hG;simp [go_sem,bZ hxl hyl,e1,e2];refine ag (eP 1) (Ae _) ?_;simp [go_sem,hxl,hyl];rw [ZM hxl hyl];refine hG _ _ ?_;have ol:kj.length=4:=rfl;simp [go_sem,dP hxl hyl ol,de hxl hyl ol,ah];exact kM rfl
 ·refine ⟨kj,kj,zI,CJ,CJ,jF,fun _=>⟨WB,WA⟩,?_⟩;refine bO Tryz.func180 Tryz.ntmps180 (rs:=[.cell 2 243]) (dr _ _ _) ?_;simp [go_sem,bZ hxl hyl,c6 hxl hyl,Ag hxl hyl,CH hxl hyl];refine ag (eP 1) (Ae _) ?_;simp [go_sem];refine ag (eP 1) (Ae _) ?_;simp [go_sem,ah];exact kM (x:=kj) (y:=kj) (z:=zI) rfl
theorem lT (c:Int) (a:List Int):∀ v,v ∈ [AV.d (.int .u64 c),AV.agg (cI a)]→v.deep:=by
 intro v hv;simp at hv;rcases hv with rfl | rfl;trivial;exact eN _
theorem li (n:Int) (a:List Int) (hn:dp n) (ha:Wn 4 a):∃ r,Wn 4 r∧(V r<pZ∧FV r=FV [n,0,0,0]*FV a)∧ax Tryz.prog 211 [.d (.int .u64 n),.agg (cI a)] (fun x=>x=.agg (cI r)):=by
 obtain ⟨r,hr,vr,f1⟩:=gf [n,0,0,0] a (jG hn) ha;unfold W2 at f1;have hal:=ha.1;have hrl:=hr.1;have hz:List.drop 4 (cI zI)=[]:=aZ rfl;refine ⟨r,hr,vr,?_⟩;refine bO Tryz.func211 Tryz.ntmps211 (rs:=[.cell 4 96]) (lT _ _) ?_;simp [go_sem,hal,ae hal];refine ek [0,2] [1,3,4] [0,2] (bt 1 (a_ [3,4])) ⟨[(4,.ptr 32 0 0 1)],[(32,⟨96,4,[cI r]⟩)],9000⟩ (k:=5) ?h3 ?hq
 case h3 =>
  intro G hG
  have hW:∀ (fr:Fr) (hp:Hp),(fv 4 fr=.ptr 32 0 0 1∧lk 32 hp=some ⟨96,4,[cI r]⟩)→G fr hp:=by
   rintro fr hp ⟨q0,q1⟩;exact hG _ _ rS
  simp [go_sem,hal,ae hal,hrl,ae hrl,hz,dM]
  repeat' first | exact hW _ _ ⟨rfl,rfl⟩ | (refine hW _ _ ?_;simp [fv,lk];done) | refine ag (eP n) (Ae _) ?_ | refine ag f1 (aK _ _) ?_ | apply And.intro | simp [go_sem,hal,ae hal,hrl,ae hrl,hz,dM]
 case hq =>
  simp [go_sem,hrl,ae hrl,ah];exact dH rfl
theorem Zq {x y:List Int} (hx:x.length=4) (hy:y.length=4):List.take 8 (cI x ++ (cI y ++ List.drop 8 (cI x ++ [AV.d (.int .u64 0),AV.d (.int .u64 0),AV.d (.int .u64 0),AV.d (.int .u64 0),AV.d (.int .u64 0),AV.d (.int .u64 0),AV.d (.int .u64 0),AV.d (.int .u64 0)])))=cI x ++ cI y:=by
 match x,y,hx,hy with
 | [a,b,c,d],[e,f,g,h],_,_=>rfl
theorem WE {x y:List Int} (hx:x.length=4) (hy:y.length=4):List.drop 12 (cI x ++ (cI y ++ List.drop 8 (cI x ++ [AV.d (.int .u64 0),AV.d (.int .u64 0),AV.d (.int .u64 0),AV.d (.int .u64 0),AV.d (.int .u64 0),AV.d (.int .u64 0),AV.d (.int .u64 0),AV.d (.int .u64 0)])))=[]:=by
 match x,y,hx,hy with
 | [a,b,c,d],[e,f,g,h],_,_=>rfl
theorem t7 (x y z:List Int) (hx:Wn 4 x) (hy:Wn 4 y) (hz:Wn 4 z):∃ (u v w:List Int),Wn 4 u∧Wn 4 v∧Wn 4 w∧(rf x y z→rf u v w∧JV u v w=sum fd (JV x y z) (JV x y z))∧ax Tryz.prog 183 [.agg (cV x y z)] (fun r=>r=.agg (cV u v w)):=by
 obtain ⟨y2,h1,g1,f1⟩:=mX y hy;obtain ⟨m1,h2,g2,f2⟩:=gf x y2 hx h1;obtain ⟨s,h3,g3,f3⟩:=li 4 m1 ⟨aq,aq⟩ h2;obtain ⟨x2,h4,g4,f4⟩:=mX x hx;obtain ⟨m,h5,g5,f5⟩:=li 3 x2 ⟨aq,aq⟩ h4;obtain ⟨m2,h6,g6,f6⟩:=mX m h5;obtain ⟨s2,h7,g7,f7⟩:=li 2 s ⟨aq,aq⟩ h3;obtain ⟨X,h8,g8,f8⟩:=pX m2 s2 h6 h7;obtain ⟨d,h9,g9,f9⟩:=pX s X h3 h8;obtain ⟨e,h10,g10,f10⟩:=gf m d h5 h9;obtain ⟨y4,h11,g11,f11⟩:=mX y2 h1;obtain ⟨y8,h12,g12,f12⟩:=li 8 y4 ⟨aq,aq⟩ h11;obtain ⟨Y,h13,g13,f13⟩:=pX e y8 h10 h12;obtain ⟨yz,h14,g14,f14⟩:=gf y z hy hz;obtain ⟨Z,h15,g15,f15⟩:=li 2 yz ⟨aq,aq⟩ h14;obtain ⟨wu,wv,ww,h16,h17,h18,g16,f16⟩:=mY zI zI true jF jF;unfold W1 at f1 f4 f6 f11;unfold W2 at f2 f8 f9 f10 f13 f14;have l1:=h1.1;have l2:=h2.1;have l3:=h3.1;have l4:=h4.1;have l5:=h5.1;have l6:=h6.1;have l7:=h7.1;have l8:=h8.1;have l9:=h9.1;have l10:=h10.1;have l11:=h11.1;have l12:=h12.1;have l13:=h13.1;have l14:=h14.1;have l15:=h15.1;have l16:=h16.1;have l17:=h17.1;have l18:=h18.1;have hxl:=hx.1;have hyl:=hy.1;have hzl:=hz.1;have z4:List.drop 4 (cI zI)=[]:=aZ rfl;have vl:=dP hxl hyl hzl;have vt:=de hxl hyl hzl;have v1:(cV x y z).take 4=cI x:=Oi hxl;have v2:=Oj (z:=z) hxl hyl;have v3:=J9 hxl hyl hzl;have iz:b7 .u64 [AV.d (.int .u64 0),AV.d (.int .u64 0),AV.d (.int .u64 0),AV.d (.int .u64 0)]=some zI:=iu zI;have f0:=nS x y z hx hy hz;have wd:(cV zI zI zI).drop 12=[]:=kC rfl rfl rfl;have wl:(cV zI zI zI).length=12:=rfl;have ul:=dP l16 l17 l18;have ut:=de l16 l17 l18;by_cases q0:z=zI ∨ y=zI
 ·have vv:rf x y z→rf wu wv ww∧JV wu wv ww=sum fd (JV x y z) (JV x y z):=by
   intro hj;obtain ⟨k1,k2⟩:=g16 tZ;rcases q0 with q | q
   ·have e:JV x y z=none:=by rw [q];show pV fd _ _ (FV zI)=none;rw [x9];exact Ad fd _ _
    exact ⟨k1,by rw [k2,e,J6];exact (ga fd (Q:=none) True.intro).symm⟩
   ·by_cases q1:z=zI
    ·have e:JV x y z=none:=by rw [q1];show pV fd _ _ (FV zI)=none;rw [x9];exact Ad fd _ _
     exact ⟨k1,by rw [k2,e,J6];exact (ga fd (Q:=none) True.intro).symm⟩
    ·have hz0:FV z ≠ 0:=fun h=>q1 ((lR hz hj.1.2.2).1 h);exact absurd (by rw [q,x9]) (tV fd hz0 hj.2).2.1
  refine ⟨wu,wv,ww,h16,h17,h18,vv,?_⟩;refine bO Tryz.func183 Tryz.ntmps183 (rs:=[.cell 2 243]) (fD _ _ _) ?_;simp [go_sem,vl,vt];refine ag f0 (fD _ _ _) ?_;by_cases q1:z=zI
  ·simp [go_sem,q1];refine ag jI aw ?_;simp [go_sem];refine ag f16 (dr _ _ _) ?_;simp [go_sem,ul,ut,wd,wl,ah];exact kM rfl
  ·have q2:y=zI:=q0.resolve_left q1;simp [go_sem,q1,v2,vl,iu,iz,hyl];refine ⟨fun _=>?_,fun h=>absurd q2 h⟩;refine ag jI aw ?_;simp [go_sem];refine ag f16 (dr _ _ _) ?_;simp [go_sem,ul,ut,wd,wl,ah];exact kM rfl
 ·have q1:z ≠ zI:=fun h=>q0 (.inl h);have q2:y ≠ zI:=fun h=>q0 (.inr h)
  have vv:rf x y z→rf X Y Z∧JV X Y Z=sum fd (JV x y z) (JV x y z):=by
   intro hj;have hz0:FV z ≠ 0:=fun h=>q1 ((lR hz hj.1.2.2).1 h);obtain ⟨_,_,e⟩:=tV fd hz0 hj.2;have n2:FV [2,0,0,0]=2:=CG 2 aq;have n3:FV [3,0,0,0]=3:=CG 3 aq;have n4:FV [4,0,0,0]=4:=CG 4 aq;have n8:FV [8,0,0,0]=8:=CG 8 aq
   have eX:FV X=3*(FV x*FV x)*(3*(FV x*FV x)) - 2*(4*(FV x*(FV y*FV y))):=by
    rw [g8.2,g6.2,g5.2,g4.2,g7.2,g3.2,g2.2,g1.2,n2,n3,n4]
   have eY:FV Y=3*(FV x*FV x)*(4*(FV x*(FV y*FV y)) - (3*(FV x*FV x)*(3*(FV x*FV x)) - 2*(4*(FV x*(FV y*FV y))))) - 8*(FV y*FV y*(FV y*FV y)):=by
    rw [g13.2,g10.2,g9.2,eX,g5.2,g4.2,g3.2,g2.2,g12.2,g11.2,g1.2,n3,n4,n8]
   have eZ:FV Z=2*(FV y*FV z):=by rw [g15.2,g14.2,n2]
   have e2:JV X Y Z=sum fd (JV x y z) (JV x y z):=by
    show pV fd (FV X) (FV Y) (FV Z)=_;rw [eX,eY,eZ];exact e
   exact ⟨⟨⟨g8.1,g13.1,g15.1⟩,by rw [e2];exact oU fd hj.2 hj.2⟩,e2⟩
  refine ⟨X,Y,Z,h8,h13,h15,vv,?_⟩;refine bO Tryz.func183 Tryz.ntmps183 (rs:=[.cell 2 243]) (fD _ _ _) ?_;simp [go_sem,vl,vt];refine ag f0 (fD _ _ _) ?_;simp [go_sem,q1,q2,v2,vl,iu,iz,hyl];refine ag f1 (aR _) ?_;simp [go_sem,l1,ae l1,z4,v1,vl];refine ag f2 (aK _ _) ?_;simp [go_sem];refine ag f3 (lT _ _) ?_;simp [go_sem,l3,ae l3,z4,v1,vl];refine ag f4 (aR _) ?_;simp [go_sem];refine ag f5 (lT _ _) ?_;simp [go_sem,l5,ae l5,z4];refine ek [0,2] [1,3,4,5,6] [0,2] (.alt (bt 1 (.alt (bx 3 (.alt (a_ [4,5,6]) (a_ [5,4,6]))) (bt 5 (a_ [3,4,6])))) (bt 5 (bt 1 (a_ [3,4,6])))) ⟨[(1,.ptr 0 0 0 1),(2,.ptr 32 0 0 1),(3,.ptr 416 0 0 1),(4,.ptr 640 0 0 1),(5,.ptr 832 0 0 1),(6,.ptr 1056 0 0 1)],[(1056,⟨96,4,[cI X]⟩),(832,⟨96,4,[cI m]⟩),(640,⟨96,4,[cI s]⟩),(416,⟨96,4,[cI y2]⟩),(32,⟨243,12,[cV zI zI zI]⟩),(0,⟨243,12,[cV x y z]⟩)],9000⟩ (k:=7) ?h3 ?hq
  case h3 =>
   intro G hG
   have hW:∀ (fr:Fr) (hp:Hp),(fv 1 fr=.ptr 0 0 0 1∧fv 2 fr=.ptr 32 0 0 1∧fv 3 fr=.ptr 416 0 0 1∧fv 4 fr=.ptr 640 0 0 1∧fv 5 fr=.ptr 832 0 0 1∧fv 6 fr=.ptr 1056 0 0 1∧lk 1056 hp=some ⟨96,4,[cI X]⟩∧lk 832 hp=some ⟨96,4,[cI m]⟩∧lk 640 hp=some ⟨96,4,[cI s]⟩∧lk 416 hp=some ⟨96,4,[cI y2]⟩∧lk 32 hp=some ⟨243,12,[cV zI zI zI]⟩∧lk 0 hp=some ⟨243,12,[cV x y z]⟩)→G fr hp:=by
    rintro fr hp ⟨q0,q1,q2,q3,q4,q5,q6,q7,q8,q9,q10,q11⟩;exact hG _ _ rS
   simp [go_sem,l1,l3,l5,l8,l13,ae l1,ae l3,ae l5,ae l8,ae l13,z4,dM]
   repeat' first | exact hW _ _ ⟨rfl,rfl,rfl,rfl,rfl,rfl,rfl,rfl,rfl,rfl,rfl,rfl⟩ | (refine hW _ _ ?_;simp [fv,lk];done) | refine ag f6 (aR _) ?_ | refine ag f7 (lT _ _) ?_ | refine ag f8 (aK _ _) ?_ | apply And.intro | simp [go_sem,l1,l3,l5,l8,l13,ae l1,ae l3,ae l5,ae l8,ae l13,z4,dM]
  case hq =>
   simp [go_sem];refine ek [0,1,2,5] [3,4,6,7,8,9,10] [0,1,2,5] (.alt (bt 3 (.alt (bt 4 (.alt (bx 6 (.alt (bx 7 (.alt (a_ [8,9,10]) (a_ [9,8,10]))) (a_ [9,7,8,10]))) (bt 9 (a_ [6,7,8,10])))) (bt 9 (bt 4 (a_ [6,7,8,10]))))) (bt 9 (bt 3 (bt 4 (a_ [6,7,8,10]))))) ⟨[(1,.ptr 0 0 0 1),(2,.ptr 32 0 0 1),(3,.ptr 416 0 0 1),(4,.ptr 640 0 0 1),(5,.ptr 832 0 0 1),(6,.ptr 1056 0 0 1),(7,.ptr 9288 0 0 1)],[(9288,⟨96,4,[cI Y]⟩),(1056,⟨96,4,[cI X]⟩),(832,⟨96,4,[cI m]⟩),(640,⟨96,4,[cI s]⟩),(416,⟨96,4,[cI y2]⟩),(32,⟨243,12,[cV zI zI zI]⟩),(0,⟨243,12,[cV x y z]⟩)],20000⟩ (k:=11) ?h3 ?hq
   case h3 =>
    intro G hG
    have hW:∀ (fr:Fr) (hp:Hp),(fv 1 fr=.ptr 0 0 0 1∧fv 2 fr=.ptr 32 0 0 1∧fv 3 fr=.ptr 416 0 0 1∧fv 4 fr=.ptr 640 0 0 1∧fv 5 fr=.ptr 832 0 0 1∧fv 6 fr=.ptr 1056 0 0 1∧fv 7 fr=.ptr 9288 0 0 1∧lk 9288 hp=some ⟨96,4,[cI Y]⟩∧lk 1056 hp=some ⟨96,4,[cI X]⟩∧lk 832 hp=some ⟨96,4,[cI m]⟩∧lk 640 hp=some ⟨96,4,[cI s]⟩∧lk 416 hp=some ⟨96,4,[cI y2]⟩∧lk 32 hp=some ⟨243,12,[cV zI zI zI]⟩∧lk 0 hp=some ⟨243,12,[cV x y z]⟩)→G fr hp:=by
     rintro fr hp ⟨q0,q1,q2,q3,q4,q5,q6,q7,q8,q9,q10,q11,q12,q13⟩;exact hG _ _ rS
    simp [go_sem,l1,l3,l5,l8,l13,ae l1,ae l3,ae l5,ae l8,ae l13,z4,dM]
    repeat' first | exact hW _ _ ⟨rfl,rfl,rfl,rfl,rfl,rfl,rfl,rfl,rfl,rfl,rfl,rfl,rfl,rfl⟩ | (refine hW _ _ ?_;simp [fv,lk];done) | refine ag f9 (aK _ _) ?_ | refine ag f10 (aK _ _) ?_ | refine ag f11 (aR _) ?_ | refine ag f12 (lT _ _) ?_ | refine ag f13 (aK _ _) ?_ | apply And.intro | simp [go_sem,l1,l3,l5,l8,l13,ae l1,ae l3,ae l5,ae l8,ae l13,z4,dM]
   case hq =>
    simp only [go_sem,Nat.reduceEqDiff,Nat.reduceAdd,Nat.reduceLT,↓reduceIte];refine cf [0,1,2,3,4,5] [(6,[]),(7,[8]),(9,[])] 2 (k:=10) ?_;intro G hG;simp [go_sem,l8,l13,ae l8,ae l13,v2,v3,vl];refine ag f14 (aK _ _) ?_;simp [go_sem];refine ag f15 (lT _ _) ?_;have ev:cI X ++ (cI Y ++ cI Z)=cV X Y Z:=rfl;have xl:=dP l8 l13 l15;have xt:=de l8 l13 l15;simp [go_sem,l8,l13,l15,wl,wd,Zq l8 l13,WE l8 l13,ev,xl,dM];refine hG _ _ ?_;simp [go_sem,xl,xt,ah];exact kM rfl
theorem Zr {x y:List Int} (hx:x.length=4) (hy:y.length=4):cI x ++ (cI y ++ List.drop 8 (cI x ++ [AV.d (.int .u64 0),AV.d (.int .u64 0),AV.d (.int .u64 0),AV.d (.int .u64 0),AV.d (.bool false)]))=cP x y false:=by
 match x,y,hx,hy with
 | [a,b,c,d],[e,f,g,h],_,_=>rfl
theorem Kq (x y z:List Int) (hx:Wn 4 x) (hy:Wn 4 y) (hz:Wn 4 z):∃ (u v:List Int) (c:Bool),Wn 4 u∧Wn 4 v∧(rf x y z→jq u v c∧PV u v c=JV x y z)∧ax Tryz.prog 185 [.agg (cV x y z)] (fun r=>r=.agg (cP u v c)):=by
 obtain ⟨i,h1,g1,f1⟩:=Wx z hz;obtain ⟨i2,h2,g2,f2⟩:=mX i h1;obtain ⟨X,h3,g3,f3⟩:=gf x i2 hx h2;obtain ⟨i3,h4,g4,f4⟩:=gf i2 i h2 h1;obtain ⟨Y,h5,g5,f5⟩:=gf y i3 hy h4;unfold W1 at f1 f2;unfold W2 at f3 f4 f5;have l1:=h1.1;have l2:=h2.1;have l3:=h3.1;have l5:=h5.1;have hxl:=hx.1;have hyl:=hy.1;have hzl:=hz.1;have z4:List.drop 4 (cI zI)=[]:=aZ rfl;have vl:=dP hxl hyl hzl;have vt:=de hxl hyl hzl;have v1:(cV x y z).take 4=cI x:=Oi hxl;have v2:=Oj (z:=z) hxl hyl;have v3:=J9 hxl hyl hzl;have f0:=nS x y z hx hy hz;have zd:(cP zI zI false).drop 9=[]:=nR rfl rfl _;have zl:(cP zI zI true).length=9:=rfl;have zt:(cP zI zI true).take 9=cP zI zI true:=c6 rfl rfl _;have zl2:(cP zI zI false).length=9:=rfl;by_cases q1:z=zI
 ·have vv:rf x y z→jq zI zI true∧PV zI zI true=JV x y z:=by
   intro _;refine ⟨tZ,?_⟩;rw [q1,J6];show none=pV fd _ _ (FV zI);rw [x9];exact (Ad fd _ _).symm
  refine ⟨zI,zI,true,jF,jF,vv,?_⟩;refine bO Tryz.func185 Tryz.ntmps185 (rs:=[.cell 2 189]) (fD _ _ _) ?_;simp [go_sem,vl,vt];refine ag f0 (fD _ _ _) ?_;simp [go_sem,q1];refine ag jI aw ?_;simp [go_sem,zl,zt,zd,zl2,ah];exact oV rfl
 ·have vv:rf x y z→jq X Y false∧PV X Y false=JV x y z:=by
   intro hj;have hz0:FV z ≠ 0:=fun h=>q1 ((lR hz hj.1.2.2).1 h)
   have e:PV X Y false=JV x y z:=by
    show some (FV X,FV Y)=pV fd (FV x) (FV y) (FV z);rw [pV,if_neg hz0,g3.2,g5.2,g4.2,g2.2,g1.2]
   have ho:kg (PV X Y false):=by rw [e];exact hj.2
   exact ⟨.inr ⟨rfl,g3.1,g5.1,ho⟩,e⟩
  refine ⟨X,Y,false,h3,h5,vv,?_⟩;refine bO Tryz.func185 Tryz.ntmps185 (rs:=[.cell 2 189]) (fD _ _ _) ?_;simp [go_sem,vl,vt];refine ag f0 (fD _ _ _) ?_;simp [go_sem,q1,v3,vl];refine ag f1 (aR _) ?_;simp [go_sem,l1,ae l1,z4];refine ag f2 (aR _) ?_;simp [go_sem,l2,ae l2,z4];refine cf [0,1,2,4,5,6,7] [(3,[]),(8,[]),(9,[10]),(11,[])] 3 (k:=12) ?_;intro G hG;simp [go_sem,l1,l2,ae l1,ae l2,v1,v2,vl];refine ag f3 (aK _ _) ?_;simp [go_sem,l1,l2,ae l1,ae l2,v1,v2,vl];refine ag f4 (aK _ _) ?_;simp [go_sem];refine ag f5 (aK _ _) ?_;have pl1:=bZ l3 l5 false;have pt1:=c6 l3 l5 false;have mp:=Zr l3 l5;simp [go_sem,l3,l5,zl2,zd,mp,pl1,dM];refine hG _ _ ?_;simp [go_sem,pl1,pt1,ah];exact oV rfl
theorem SV (n:List Int) (k:Nat) (hn:Wn 4 n) (hk:k<256):∃ b:Bool,(b=true ↔ (V n).toNat / 2 ^ k % 2=1)∧ax Tryz.prog 184 [.agg (cI n),.d (.int .i64 (k:Int))] (fun r=>r=.d (.bool b)):=by
 have hnl:=hn.1;have hdq:dq k=k / 64:=rfl;have hrq:rq k=k % 64:=rfl;have hnk:=ji (l:=n) (k:=dq k) aq;have w4:IntKind.i64.wrap ((k:Int) / 64)=(dq k:Int):=by rw [IntWalk.i64_in _ aq];omega
 have w4b:IntKind.i64.wrap ((k:Int).tdiv 64)=(dq k:Int):=w4;have e2:(k:Int) % 64=(rq k:Int):=aq;have e2b:(k:Int).tmod 64=(rq k:Int):=e2;have i1:(dq k:Int)<4:=aq;have hm64:rq k<64:=aq;have hmn:min (rq k) 64=rq k:=aq;have bv:=PL hn hk
 have hv:(!decide (Go.bits .and .u64 (Int.fdiv (gI n (dq k)) (2 ^ rq k)) 1=0))=true ↔ (V n).toNat / 2 ^ k % 2=1:=by
  rw [Bool.not_eq_true',decide_eq_false_iff_not];refine ⟨fun h=>bv.2 h,fun h h0=>?_⟩;have:=bv.1 h0;omega
 refine ⟨!decide (Go.bits .and .u64 (Int.fdiv (gI n (dq k)) (2 ^ rq k)) 1=0),hv,?_⟩;refine bO Tryz.func184 Tryz.ntmps184 (rs:=[.tmp 4]) (Ek _ _) ?_;simp [go_sem,hnl,ae hnl,hnk,e2,e2b,w4,w4b,i1,hm64,hmn,IntKind.bits,ah];exact aa a9 rfl
theorem EB (x y:List Int) (b:Bool) (hx:Wn 4 x) (hy:Wn 4 y):∃ o:Bool,(jq x y b→(o=true ↔ b=false∧V y % 2=0))∧ax Tryz.prog 127 [.agg (cP x y b)] (fun r=>r=.d (.bool o)):=by
 obtain ⟨u,v,c,hu,hv,tv,f1⟩:=pY x y b hx hy;have hxl:=hx.1;have hyl:=hy.1;have hul:=hu.1;have hvl:=hv.1;have xd:(cP x y b).drop 9=[]:=nR hxl hyl _
 have g4:(cP u v false)[4]?=some (.d (.int .u64 (gI v 0))):=by
  unfold cP;rw [dn (by rw [eF];omega),eF,hul,List.getElem?_append_left (by rw [eF];omega),B7,ji aq];rfl
 have g4b:∀ h,(cP u v false)[4]'h=.d (.int .u64 (gI v 0)):=fun h=>(ci.1 g4).2
 cases c
 ·have hpar:Go.bits .and .u64 (gI v 0) 1=0 ↔ V v % 2=0:=by
   have h0:=cZ (k:=0) hv;rw [xY _ h0.1 h0.2];obtain ⟨r0,r1,r2,r3,e,_⟩:=jj hv;rw [e,V4];show r0 % 2=0 ↔ _;omega
  have ev:jq x y b→(decide (Go.bits .and .u64 (gI v 0) 1=0)=true ↔ b=false∧V y % 2=0):=by
   intro hp;obtain ⟨_,e2,e3⟩:=tv.2.1 hp;rw [decide_eq_true_iff,hpar,e2];exact ⟨fun h=>⟨e3.symm,h⟩,fun h=>h.2⟩
  refine ⟨decide (Go.bits .and .u64 (gI v 0) 1=0),ev,?_⟩;refine bO Tryz.func127 Tryz.ntmps127 (rs:=[.tmp 2]) (dr _ _ _) ?_;simp [go_sem,bZ hxl hyl,c6 hxl hyl];refine ag f1 (dr _ _ _) ?_;simp [go_sem,bZ hxl hyl,bZ hul hvl,xd,Ag hul hvl,CH hul hvl,g4,g4b,ah];exact aa a9 rfl
 ·have ev:jq x y b→(false=true ↔ b=false∧V y % 2=0):=by
   intro hp;obtain ⟨_,_,e3⟩:=tv.2.1 hp;rw [← e3];exact ⟨fun h=>Bool.noConfusion h,fun h=>Bool.noConfusion h.1⟩
  refine ⟨false,ev,?_⟩;refine bO Tryz.func127 Tryz.ntmps127 (rs:=[.tmp 2]) (dr _ _ _) ?_;simp [go_sem,bZ hxl hyl,c6 hxl hyl];refine ag f1 (dr _ _ _) ?_;simp [go_sem,bZ hxl hyl,bZ hul hvl,xd,Ag hul hvl,CH hul hvl,ah];exact aa a9 rfl
def gX:List Int:=[6481385041966929816,188021827762530521,6170039885052185351,8772561819708210092]
theorem WF:Wn 4 gX:=⟨rfl,by intro y hy;simp [gX] at hy;rcases hy with rfl | rfl | rfl | rfl <;> exact ⟨aq,aq⟩⟩
def gY:List Int:=[11261198710074299576,18237243440184513561,6747795201694173352,5204712524664259685]
theorem WG:Wn 4 gY:=⟨rfl,by intro y hy;simp [gY] at hy;rcases hy with rfl | rfl | rfl | rfl <;> exact ⟨aq,aq⟩⟩
def Om:List Int:=[13822214165235122497,13451932020343611451,18446744073709551614,18446744073709551615]
theorem Kr:Wn 4 Om:=⟨rfl,by intro y hy;simp [Om] at hy;rcases hy with rfl | rfl | rfl | rfl <;> exact ⟨aq,aq⟩⟩
theorem qa:ax Tryz.prog 158 [] (fun r=>r=.agg (cI Om)):=by
 refine bO Tryz.func158 Tryz.ntmps158 (rs:=[.cell 0 96]) a9 ?_;simp [go_sem,cI,zI,ah];exact dH (a:=Om) rfl
theorem On:jq gX gY false:=by
 have vx:V gX=55066263022277343669578718895168534326250603453777594175500187360389116729240:=by simp [V,gX]
 have vy:V gY=32670510020758816978083085130507043184471273380659243275938904335757337482424:=by simp [V,gY]
 refine .inr ⟨rfl,by rw [vx];decide,by rw [vy];decide,tY ?_⟩
 have e7:(((7:F).val:Nat):Int)=7 % pZ:=by
  show ((7 % pP:Nat):Int)=_;rw [Int.natCast_emod,jo];rfl
 rw [rV,Gu,rV,rV,Int.natCast_emod,Int.natCast_mul,Int.natCast_emod,Int.natCast_add,Int.natCast_emod,Int.natCast_mul,Int.natCast_emod,Int.natCast_mul,eg,eg,e7,jo,vx,vy];decide
theorem yb:ax Tryz.prog 126 [] (fun r=>r=.agg (cP gX gY false)):=by
 refine bO Tryz.func126 Tryz.ntmps126 (rs:=[.cell 0 189]) a9 ?_;simp [go_sem,cP,cI,zI,ah];exact oV (x:=gX) (y:=gY) (b:=false) rfl
theorem EC:∀ (l:List Nat),(∀ x,x ∈ l→x<256)→∀ a,l.foldl (fun a x=>a*256+x) a<(a+1)*256 ^ l.length
 | [],_,a=>by simp
 | x :: r,h,a=>by
  have h1:=EC r (fun y hy=>h y (by simp [hy])) (a*256+x);have h2:=h x aw;rw [List.foldl_cons,List.length_cons,Nat.pow_succ];have h3:(a*256+x+1)*256 ^ r.length≤((a+1)*256)*256 ^ r.length:=d9 _ aq;have h4:(a+1)*256*256 ^ r.length=(a+1)*(256 ^ r.length*256):=by rw [Nat.mul_assoc,Nat.mul_comm 256]
  omega
theorem BH {l:List Nat} (h:∀ x,x ∈ l→x<256) (hl:l.length≤8):iY l<18446744073709551616:=by
 have h1:=EC l h 0;have h2:256 ^ l.length≤256 ^ 8:=Nat.pow_le_pow_right aq hl;have h3:(256:Nat) ^ 8=18446744073709551616:=by decide
 unfold iY;omega
theorem sA (a b:List Nat):iY (a ++ b)=iY a*256 ^ b.length+iY b:=by
 have key:∀ (l:List Nat) (c:Nat),l.foldl (fun a x=>a*256+x) c=c*256 ^ l.length+l.foldl (fun a x=>a*256+x) 0:=by
  intro l
  induction l with
  | nil=>intro c;simp
  | cons x r ih =>
   intro c;rw [List.foldl_cons,List.foldl_cons,ih,ih (0*256+x),List.length_cons,Nat.pow_succ]
   have:(c*256+x)*256 ^ r.length=c*(256 ^ r.length*256)+(0*256+x)*256 ^ r.length:=by
    rw [Nat.add_mul,Nat.mul_assoc,Nat.mul_comm 256,Nat.zero_mul,Nat.zero_add]
   omega
 unfold iY;rw [List.foldl_append,key]
theorem SX {b:List Nat} (hb:b.length=32):V ((uF b 32).map fun (x:Nat)=>(x:Int))=(iY b:Int):=by
 have e:b=Go.Sha.part b 32 3 ++ (Go.Sha.part b 32 2 ++ (Go.Sha.part b 32 1 ++ Go.Sha.part b 32 0)):=by
  unfold Go.Sha.part;have h32:b.take 32=b:=cx aq;rw [h32];have h0:(b.drop (8*(3 - 0))).take 8=b.drop 24:=cx (by rw [et];omega)
  have s2:(b.drop (8*(3 - 1))).take 8 ++ b.drop 24=b.drop 16:=by
   have:b.drop 24=(b.drop 16).drop 8:=by rw [List.drop_drop]
   rw [this];exact List.take_append_drop 8 _
  have s3:(b.drop (8*(3 - 2))).take 8 ++ b.drop 16=b.drop 8:=by
   have:b.drop 16=(b.drop 8).drop 8:=by rw [List.drop_drop]
   rw [this];exact List.take_append_drop 8 _
  rw [h0,s2,s3];exact (List.take_append_drop 8 b).symm
 have l0:∀ j,j<4→(Go.Sha.part b 32 j).length=8:=by
  intro j hj;unfold Go.Sha.part;rw [List.length_take,et,List.length_take];omega
 have m:uF b 32=[iY (Go.Sha.part b 32 0),iY (Go.Sha.part b 32 1),iY (Go.Sha.part b 32 2),iY (Go.Sha.part b 32 3)]:=rfl
 have k:iY b=((iY (Go.Sha.part b 32 3)*256 ^ 8+iY (Go.Sha.part b 32 2))*256 ^ 8+iY (Go.Sha.part b 32 1))*256 ^ 8+iY (Go.Sha.part b 32 0):=by
  conv=>lhs;rw [e]
  rw [← cA,← cA,sA,l0 0 aq,sA,l0 1 aq,sA,l0 2 aq]
 rw [m,k];simp only [List.map_cons,List.map_nil,V4];generalize iY (Go.Sha.part b 32 0)=p0;generalize iY (Go.Sha.part b 32 1)=p1;generalize iY (Go.Sha.part b 32 2)=p2;generalize iY (Go.Sha.part b 32 3)=p3;omega
theorem ua (b:List Nat) (hb:b.length=32) (hby:bytes b):∃ a:List Int,Wn 4 a∧V a=(iY b:Int)∧ax Tryz.prog 164 [.agg (cb b)] (fun r=>r=.agg (cI a)):=by
 refine ⟨(uF b 32).map fun (x:Nat)=>(x:Int),⟨by simp [uF],fun x hx=>?_⟩,SX hb,?_⟩
 ·rw [List.mem_map] at hx;obtain ⟨y,hy,rfl⟩:=hx;unfold uF at hy;rw [List.mem_map] at hy;obtain ⟨j,_,rfl⟩:=hy;have:=BH (l:=Go.Sha.part b 32 j) (fun x hx=>hby x (List.mem_of_mem_take (List.mem_of_mem_drop (List.mem_of_mem_take hx)))) (by unfold Go.Sha.part;rw [List.length_take];omega);exact ⟨Int.natCast_nonneg _,aq⟩
 ·have e:cI ((uF b 32).map fun (x:Nat)=>(x:Int))=cW (uF b 32):=by unfold cI cW;rw [List.map_map];rfl
  rw [e];exact Nu b hb hby
theorem cB (b:List Nat):∀ v,v ∈ [AV.agg (cb b)]→v.deep:=by
 intro v hv;simp at hv;subst hv;exact dE _
theorem Ah (b:List Nat) (hb:b.length=32) (hby:bytes b):∃ (r:List Int) (ok:Bool),Wn 4 r∧((iY b<115792089237316195423570985008687907852837564279074904382605163141518161494337→ok=true∧V r=(iY b:Int))∧(¬ iY b<115792089237316195423570985008687907852837564279074904382605163141518161494337→ok=false∧r=zI))∧ax Tryz.prog 178 [.agg (cb b)] (fun x=>x=.tup [.agg (cI r),.d (.bool ok)]):=by
 obtain ⟨a,ha,va,f1⟩:=ua b hb hby;obtain ⟨c,vc,f2⟩:=Ez a Om ha Kr;have vo:V Om=115792089237316195423570985008687907852837564279074904382605163141518161494337:=by simp [V,Om]
 rw [vo,va] at vc;have hal:=ha.1;have hz:List.drop 4 (cI zI)=[]:=aZ rfl;have zd:List.drop 32 (cb b)=[]:=hJ hb;by_cases h0:0≤c
 ·refine ⟨zI,false,jF,⟨fun h=>absurd (vc.2 aq) aq,fun _=>⟨rfl,rfl⟩⟩,?_⟩;refine bO Tryz.func178 Tryz.ntmps178 (rs:=[.cell 2 96,.tmp 3]) (cB b) ?_;simp [go_sem,am,hb,av hb,zd];refine ag f1 (cB _) ?_;simp [go_sem,hal,ae hal,hz];refine cf [0] [(1,[]),(2,[3])] 2 (k:=4) ?_;intro G hG;simp [go_sem,hal,ae hal];refine ag qa aw ?_;simp [go_sem];refine ag f2 (aK _ _) ?_;simp [go_sem,dM];refine hG _ _ ?_;simp [go_sem,h0,hz,ah];exact nP (a:=zI) rfl
 ·refine ⟨a,true,ha,⟨fun _=>⟨rfl,va⟩,fun h=>absurd (vc.1 aq) aq⟩,?_⟩;refine bO Tryz.func178 Tryz.ntmps178 (rs:=[.cell 2 96,.tmp 3]) (cB b) ?_;simp [go_sem,am,hb,av hb,zd];refine ag f1 (cB _) ?_;simp [go_sem,hal,ae hal,hz];refine cf [0] [(1,[]),(2,[3])] 2 (k:=4) ?_;intro G hG;simp [go_sem,hal,ae hal];refine ag qa aw ?_;simp [go_sem];refine ag f2 (aK _ _) ?_;simp [go_sem,dM];refine hG _ _ ?_;simp [go_sem,h0,hal,ae hal,hz,ah];exact nP rfl
theorem yc {Q:AV→Prop} {st:St} {x y:List Int} {c b:Bool} (hq:Q (.tup [.agg (cP x y c),.d (.bool b)])):dx Q (.tup [.agg (cP x y c),.d (.bool b)]) st :=
 aa (by
  intro c hc;simp at hc;rcases hc with rfl | rfl
  ·exact .inr ⟨_,rfl,jH _ _ _⟩
  ·exact .inl trivial) hq
def mZ (n:Nat):Int:=((n:Int)*n*n+7) % 115792089237316195423570985008687907853269984665640564039457584007908834671663
def og (n:Nat):Int:=mZ n ^ 28948022309329048855892746252171976963317496166410141009864396001977208667916 % 115792089237316195423570985008687907853269984665640564039457584007908834671663
def rj (n:Nat):Prop:=(n:Int)<115792089237316195423570985008687907853269984665640564039457584007908834671663∧og n*og n % 115792089237316195423570985008687907853269984665640564039457584007908834671663=mZ n % 115792089237316195423570985008687907853269984665640564039457584007908834671663
def Ks (n:Nat) (x y:List Int) (c ok:Bool):Prop :=
 (¬ rj n∧ok=false∧c=true∧x=zI∧y=zI) ∨ (rj n∧ok=true∧c=false∧V x=n∧V y=if og n % 2=0 then og n else (0 - og n) % 115792089237316195423570985008687907853269984665640564039457584007908834671663)
theorem Oo {r a:List Int} {n:Nat} (hr:Wn 4 r) (va:V a=n) (vr:V r<pZ∧FV r=FV a*FV a*FV a+7):V r=mZ n:=by
 have e:=congrArg (fun x:F=>((x.val:Nat):Int)) vr.2;simp only [eg] at e
 have e7:(((7:F).val:Nat):Int)=7 % pZ:=by
  show ((7 % pP:Nat):Int)=_;rw [Int.natCast_emod,jo];rfl
 have h0:=(ke hr).1;rw [Int.emod_eq_of_lt h0 vr.1] at e;rw [e,Gu,rV,rV,Int.natCast_emod,Int.natCast_add,Int.natCast_emod,Int.natCast_mul,Int.natCast_emod,Int.natCast_mul,eg,e7,jo,va];unfold mZ;show _=((n:Int)*n*n+7) % pZ;rw [← Int.mul_emod (n:Int) n,← Int.mul_emod ((n:Int)*n) n,← Int.add_emod]
theorem Ai (b:List Nat) (hb:b.length=32) (hby:bytes b):∃ (x y:List Int) (c ok:Bool),Wn 4 x∧Wn 4 y∧(Ks (iY b) x y c ok)∧ax Tryz.prog 165 [.agg (cb b)] (fun r=>r=.tup [.agg (cP x y c),.d (.bool ok)]):=by
 obtain ⟨a,ha,va,f1⟩:=ua b hb hby;obtain ⟨o,vo,f2⟩:=t6 a ha;obtain ⟨r,hr,vr,f3⟩:=Af a ha;obtain ⟨y,ok,hy,vk,vy,vno,f4⟩:=JE r hr;have hrv:V r=mZ (iY b):=Oo hr va vr;rw [va] at vo;rw [hrv] at vk vy;unfold W1 at f3;have hal:=ha.1;have hyl:=hy.1;have hz:List.drop 4 (cI zI)=[]:=aZ rfl;have zd:List.drop 32 (cb b)=[]:=hJ hb;have pd:(cP zI zI false).drop 9=[]:=nR rfl rfl _;have zl:(cP zI zI true).length=9:=rfl;have zt:(cP zI zI true).take 9=cP zI zI true:=c6 rfl rfl _;have zl2:(cP zI zI false).length=9:=rfl
 cases o
 ·refine ⟨zI,zI,true,false,jF,jF,.inl ⟨fun h=>absurd (vo.2 h.1) (by decide),rfl,rfl,rfl,rfl⟩,?_⟩;refine bO Tryz.func165 Tryz.ntmps165 (rs:=[.cell 2 189,.tmp 3]) (cB b) ?_;simp [go_sem,am,hb,av hb,zd];refine ag f1 (cB _) ?_;simp [go_sem,hal,ae hal,hz];refine ag f2 (aR _) ?_;simp [go_sem];refine ag jI aw ?_;simp [go_sem,zl,zt,pd,zl2,ah];exact yc rfl
 ·cases ok
  ·refine ⟨zI,zI,true,false,jF,jF,.inl ⟨fun h=>absurd (vk.2 h.2) (by decide),rfl,rfl,rfl,rfl⟩,?_⟩;refine bO Tryz.func165 Tryz.ntmps165 (rs:=[.cell 2 189,.tmp 3]) (cB b) ?_;simp [go_sem,am,hb,av hb,zd];refine ag f1 (cB _) ?_;simp [go_sem,hal,ae hal,hz];refine ag f2 (aR _) ?_;simp [go_sem,hal,ae hal];refine ag f3 (aR _) ?_;simp [go_sem];refine ag f4 (aR _) ?_;simp [go_sem,hyl,ae hyl,hz];refine ag jI aw ?_;simp [go_sem,zl,zt,pd,zl2,ah];exact yc rfl
  ·refine ⟨a,y,false,true,ha,hy,.inr ⟨⟨vo.1 rfl,vk.1 rfl⟩,rfl,rfl,va,vy rfl⟩,?_⟩;refine bO Tryz.func165 Tryz.ntmps165 (rs:=[.cell 2 189,.tmp 3]) (cB b) ?_;simp [go_sem,am,hb,av hb,zd];refine ag f1 (cB _) ?_;simp [go_sem,hal,ae hal,hz];refine ag f2 (aR _) ?_;simp [go_sem,hal,ae hal];refine ag f3 (aR _) ?_;simp [go_sem];refine ag f4 (aR _) ?_;have mp:=Zr hal hyl;have pl1:=bZ hal hyl false;have pt1:=c6 hal hyl false;simp [go_sem,hal,hyl,ae hal,ae hyl,hz,mp,pl1,pt1,pd,zl2,ah];exact yc rfl
def d8 (i:Nat):Nat:=i / 8
def r8 (i:Nat):Nat:=8*(i % 8)
def SY (a:List Int) (k:Nat):Nat:=(IntKind.u8.wrap (Int.fdiv (gI a (d8 k)) (2 ^ r8 k))).toNat
def Ln (a:List Int) (k:Nat) (l:List Nat):List Nat:=l.set (31 - k) (SY a k)
theorem Kt (a:List Int) (k:Nat):IntKind.u8.wrap (Int.fdiv (gI a (d8 k)) (2 ^ r8 k))=((SY a k:Nat):Int):=by
 unfold SY;have:IntKind.u8.wrap (Int.fdiv (gI a (d8 k)) (2 ^ r8 k))=(Int.fdiv (gI a (d8 k)) (2 ^ r8 k)) % 256:=by simp [IntKind.wrap,IntKind.bits,IntKind.signed]
 rw [this];omega
theorem SZ (a:List Int) (k:Nat):SY a k<256:=by
 have h:=Kt a k;have:IntKind.u8.wrap (Int.fdiv (gI a (d8 k)) (2 ^ r8 k))=(Int.fdiv (gI a (d8 k)) (2 ^ r8 k)) % 256:=by simp [IntKind.wrap,IntKind.bits,IntKind.signed]
 rw [this] at h;omega
theorem CL (a:List Int):∀ k,(eU (Ln a) z32 k).length=32∧bytes (eU (Ln a) z32 k) :=
 iZ (P:=fun _ l=>l.length=32∧bytes l) ⟨rfl,fun x hx=>by simp [z32] at hx;omega⟩ fun k l hl=>by
  refine ⟨by unfold Ln;rw [List.length_set];exact hl.1,fun x hx=>?_⟩;rcases List.mem_or_eq_of_mem_set hx with hx | rfl
  ·exact hl.2 x hx
  ·exact SZ _ _
theorem WH {a:List Int} (ha:Wn 4 a) {k:Nat} (hk:k<32):SY a k=(V a).toNat / 256 ^ k % 256:=by
 have hw:=JB ha (j:=k / 8) aq;have hi:=Kt a k;have hu:IntKind.u8.wrap (Int.fdiv (gI a (d8 k)) (2 ^ r8 k))=(Int.fdiv (gI a (d8 k)) (2 ^ r8 k)) % 256:=by simp [IntKind.wrap,IntKind.bits,IntKind.signed]
 have hd:d8 k=k / 8:=rfl;have hr:r8 k=8*(k % 8):=rfl;rw [hu,hd,hr,← hw,Int.fdiv_eq_ediv_of_nonneg _ (Int.le_of_lt (Int.pow_pos aq))] at hi;generalize (V a).toNat=N at *
 have h1:SY a k=N / 2 ^ (64*(k / 8)) % 2 ^ 64 / 2 ^ (8*(k % 8)) % 256:=by
  have e:∀ (z s:Nat),(((z / 2 ^ s % 256:Nat)):Int)=(z:Int) / 2 ^ s % 256:=fun z s=>by rw [Int.natCast_emod,Int.natCast_ediv,Int.natCast_pow];rfl
  exact (Int.ofNat_inj.1 ((e _ _).trans hi)).symm
 rw [h1];have e64:(2:Nat) ^ 64=2 ^ (8*(k % 8))*2 ^ (64 - 8*(k % 8)):=by rw [← Nat.pow_add];congr 1;omega
 have e8:(256:Nat) ∣ 2 ^ (64 - 8*(k % 8)):=⟨2 ^ (56 - 8*(k % 8)),by rw [show (256:Nat)=2 ^ 8 from rfl,← Nat.pow_add];congr 1;omega⟩
 have e256:(256:Nat) ^ k=2 ^ (64*(k / 8))*2 ^ (8*(k % 8)):=by
  rw [show (256:Nat)=2 ^ 8 from rfl,← Nat.pow_mul,← Nat.pow_add];congr 1;omega
 rw [e64,Nat.mod_mul_right_div_self,Nat.mod_mod_of_dvd _ e8,Nat.div_div_eq_div_mul,← e256]
def CM (a:List Int):Nat→List Nat
 | 0=>[]
 | k+1=>SY a k :: CM a k
theorem Aj (a:List Int):∀ k,(CM a k).length=k
 | 0=>rfl
 | k+1=>by rw [CM,List.length_cons,Aj a k]
theorem Ku (x:Nat) (l:List Nat):iY (x :: l)=x*256 ^ l.length+iY l:=by
 have:=sA [x] l;have e:iY [x]=x:=by simp [iY]
 rw [e] at this;exact this
theorem Kv {a:List Int} (ha:Wn 4 a):∀ k,k≤32→iY (CM a k)=(V a).toNat % 256 ^ k
 | 0,_=>by rw [CM,Nat.pow_zero,Nat.mod_one];rfl
 | k+1,h=>by
  rw [CM,Ku,Aj,Kv ha k aq,WH ha aq,Nat.mod_pow_succ,Nat.mul_comm,Nat.add_comm]
theorem ED (a:List Int):∀ k,k≤32→eU (Ln a) z32 k=List.replicate (32 - k) 0 ++ CM a k
 | 0,_=>rfl
 | k+1,h=>by
  rw [eU,ED a k aq];unfold Ln;have e:32 - k=(31 - k)+1:=aq;have e2:32 - (k+1)=31 - k:=aq;rw [e,e2,List.replicate_succ',cA,List.set_append_right _ _ aw,List.length_replicate,Nat.sub_self];rfl
theorem WI {a:List Int} (ha:Wn 4 a):iY (eU (Ln a) z32 32)=(V a).toNat:=by
 rw [ED a 32 aq,Nat.sub_self,List.replicate_zero,List.nil_append,Kv ha 32 aq];have h:=ke ha
 exact Nat.mod_eq_of_lt (by
  have:(256:Nat) ^ 32=115792089237316195423570985008687907853269984665640564039457584007913129639936:=by decide
  omega)
theorem Gw (a:List Int) (ha:Wn 4 a):∃ b:List Nat,b.length=32∧bytes b∧iY b=(V a).toNat∧ax Tryz.prog 85 [.agg (cI a)] (fun r=>r=.agg (cb b)):=by
 refine ⟨eU (Ln a) z32 32,(CL a 32).1,(CL a 32).2,WI ha,?_⟩;refine bO Tryz.func85 Tryz.ntmps85 (rs:=[.cell 2 29]) (aR a) ?_;have hal:=ha.1;simp [go_sem,hal,ae hal];generalize hSS:eU (Ln a) z32=S at *;have hS:=CL a;rw [hSS] at hS
 refine ar (fun k:Nat=>⟨[(1,.ptr 0 0 0 1),(2,.ptr 32 0 0 1),(3,.ptr 64 0 0 1),(5,.d (.int .i64 (k:Int)))],[(64,⟨29,32,[cb (S k)]⟩),(32,⟨29,32,[cb z32]⟩),(0,⟨96,4,[cI a]⟩)],20000⟩)
  (fun k=>k≤32) (fun k=>32 - k) 0 aq (by
   rw [← hSS];simp [aA,ai,fv,lk,AV.low,AV.low1,eU]
   and_intros <;> first | rfl | exact bV _ _ | exact aO _ _) ?_
 intro k hk;obtain ⟨hs1,hs2⟩:=hS k;have w3:=az (k:=k) aq;simp only [go_sem,Nat.reduceEqDiff,Nat.reduceAdd,Nat.reduceLT,↓reduceIte];by_cases h4:k<32
 ·refine ⟨fun h=>?_,fun h=>absurd (by exact_mod_cast h4) h⟩;have hsn:S (k+1)=Ln a k (S k):=by rw [← hSS];rfl
  have hdq:d8 k=k / 8:=rfl;have hrq:r8 k=8*(k % 8):=rfl;have hnk:=ji (l:=a) (k:=d8 k) aq;have w4:IntKind.i64.wrap ((k:Int) / 8)=(d8 k:Int):=by rw [IntWalk.i64_in _ aq];omega
  have w4b:IntKind.i64.wrap ((k:Int).tdiv 8)=(d8 k:Int):=w4;have e2:IntKind.i64.wrap (8*((k:Int) % 8))=(r8 k:Int):=by rw [IntWalk.i64_in _ aq];omega
  have e2b:IntKind.i64.wrap (8*((k:Int).tmod 8))=(r8 k:Int):=e2;have e3:IntKind.i64.wrap (31 - (k:Int))=((31 - k:Nat):Int):=by rw [IntWalk.i64_in _ aq];omega
  have i1:(d8 k:Int)<4:=aq;have hm64:r8 k<64:=aq;have hmn:min (r8 k) 64=r8 k:=aq;have i3:((31 - k:Nat):Int)<32:=aq;have i4:31 - k<32:=aq;simp [go_sem,hnk,hal,e2,e2b,w4,w4b,e3,i1,i3,i4,hm64,hmn,IntKind.bits,Kt,Bn,am,hs1,w3];refine ao (k+1) aq aq ?_;rw [hsn];simp [aA,ai,fv,lk,AV.low,AV.low1,Ln];and_intros <;> first | rfl | exact bV _ _ | exact aO _ _
 ·refine ⟨fun h=>absurd (by exact_mod_cast h) h4,fun h=>?_⟩;have hkl:k=32:=aq;subst hkl;simp [go_sem,am,hs1,av hs1,hJ (l:=z32) rfl,ah];exact aa (dE _) rfl
theorem S3 {Q:AV→Prop} {st:St} {b:List Nat} (hq:Q (.agg (cb b))):dx Q (.agg (cb b)) st:=aa (dE _) hq
theorem vY (x y:List Int) (c:Bool) (hx:Wn 4 x) (hy:Wn 4 y):∃ b:List Nat,b.length=32∧bytes b∧(jq x y c→iY b=(V x).toNat)∧ax Tryz.prog 129 [.agg (cP x y c)] (fun r=>r=.agg (cb b)):=by
 obtain ⟨u,v,d,hu,hv,tv,f1⟩:=pY x y c hx hy;obtain ⟨b,hb,hbb,vb,f2⟩:=Gw u hu;refine ⟨b,hb,hbb,fun h=>by rw [vb,(tv.2.1 h).1],?_⟩;refine bO Tryz.func129 Tryz.ntmps129 (rs:=[.cell 2 29]) (dr _ _ _) ?_;have hxl:=hx.1;have hyl:=hy.1;have ul:=bZ hu.1 hv.1 d;have ux:=SR (y:=v) hu.1 d;have zd:List.drop 32 (cb z32)=[]:=hJ rfl;simp [go_sem,bZ hxl hyl,c6 hxl hyl];refine ag f1 (dr _ _ _) ?_;simp [go_sem,ul,ux];refine ag f2 (aR _) ?_;simp [go_sem,am,hb,av hb,zd,ah];exact S3 rfl
def WJ (a b:List Nat):Nat→AV
 | 0=>.nil
 | 1=>.own 1192 0 a.length a.length
 | _=>.own 1192 0 (a ++ b).length (a ++ b).length
def WL (a b:List Nat):Nat→Hp
 | 0=>[]
 | 1=>[(1192,⟨5,1,rb a⟩)]
 | _=>[(1192,⟨5,1,rb (a ++ b)⟩)]
def Oq:Nat→Nat
 | 0=>1000
 | _=>2000
theorem Gx (a b:List Nat) (ha:a.length=32) (hb:b.length≤1000000):ax Tryz.prog 89 [.d (.ro 1 [[nb a],[nb b]])] (fun r=>r=.d (nb (a ++ b))):=by
 refine bO Tryz.func89 Tryz.ntmps89 (rs:=[.tmp 2]) a9 ?_;simp [go_sem]
 refine ar (fun k:Nat=>⟨[(3,WJ a b k),(6,.d (.ro 1 [[nb a],[nb b]])),(7,.d (.int .i64 2)),(8,.d (.int .i64 (k:Int)))],WL a b k,Oq k⟩)
  (fun k=>k≤2) (fun k=>2 - k) 0 aq (by simp [aA,ai,fv,lk,AV.low,AV.low1,WJ,WL,Oq]) ?_
 intro k hk;simp only [go_sem,Nat.reduceEqDiff,Nat.reduceAdd,Nat.reduceLT,↓reduceIte]
 match k,hk with
 | 0,_ =>
  refine ⟨fun _=>?_,fun h=>absurd (by decide) h⟩;simp [go_sem,WJ,WL,Oq,nb,cE];refine ⟨by rw [aG];omega,?_⟩;have w1:IntKind.i64.wrap 1=1:=by decide
  refine ao 1 aq aq ?_;simp [aA,ai,fv,lk,AV.low,AV.low1,aG,w1];exact bg _ _
 | 1,_ =>
  refine ⟨fun _=>?_,fun h=>absurd (by decide) h⟩;simp [go_sem,WJ,WL,Oq,nb,cE,aG];refine ⟨aq,?_⟩;have w1:IntKind.i64.wrap 2=2:=by decide
  have ra:rb (a ++ b)=rb a ++ rb b:=by simp [rb]
  refine ao 2 aq aq ?_;simp [aA,ai,fv,lk,AV.low,AV.low1,aG,w1,ra];intro r hr;exact hr.elim (bg _ _ r) (bg _ _ r)
 | 2,_ =>
  refine ⟨fun h=>absurd h (by decide),fun _=>?_⟩;simp [go_sem,WJ,WL,ah];have hl2:a.length+b.length=(a ++ b).length:=by rw [b_]
  rw [hl2];exact iL rfl (by simp [nb])
theorem WM (x y:List Int):JV x y zI=none:=by
 show pV fd _ _ (FV zI)=none;rw [x9];exact Ad fd _ _
theorem oW (x y z x' y' z':List Int):∀ v,v ∈ [AV.agg (cV x y z),AV.agg (cV x' y' z')]→v.deep:=by
 intro v hv;simp at hv;rcases hv with rfl | rfl
 ·exact sy _ _ _
 ·exact sy _ _ _
theorem EE (x y z x' y' z':List Int) (hx:Wn 4 x) (hy:Wn 4 y) (hz:Wn 4 z) (hx':Wn 4 x') (hy':Wn 4 y') (hz':Wn 4 z'):∃ (u v w:List Int),Wn 4 u∧Wn 4 v∧Wn 4 w∧(rf x y z→rf x' y' z'→rf u v w∧JV u v w=sum fd (JV x y z) (JV x' y' z'))∧ax Tryz.prog 181 [.agg (cV x y z),.agg (cV x' y' z')] (fun r=>r=.agg (cV u v w)):=by
 obtain ⟨pz2,h1,g1,f1⟩:=mX z hz;obtain ⟨qz2,h2,g2,f2⟩:=mX z' hz';obtain ⟨u1,h4,g4,f4⟩:=gf x qz2 hx h2;obtain ⟨u2,h5,g5,f5⟩:=gf x' pz2 hx' h1;obtain ⟨qz3,h6,g6,f6⟩:=gf qz2 z' h2 hz';obtain ⟨s1,h7,g7,f7⟩:=gf y qz3 hy h6;obtain ⟨pz3,h8,g8,f8⟩:=gf pz2 z h1 hz;obtain ⟨s2,h9,g9,f9⟩:=gf y' pz3 hy' h8;obtain ⟨h,h11,g11,f11⟩:=pX u2 u1 h5 h4;obtain ⟨r,h12,g12,f12⟩:=pX s2 s1 h9 h7;obtain ⟨hh,h13,g13,f13⟩:=mX h h11;obtain ⟨h3,h14,g14,f14⟩:=gf hh h h13 h11;obtain ⟨v,h15,g15,f15⟩:=gf u1 hh h4 h13;obtain ⟨rr,h16,g16,f16⟩:=mX r h12;obtain ⟨d1,h17,g17,f17⟩:=pX rr h3 h16 h14;obtain ⟨w2,h20,g20,f20⟩:=li 2 v ⟨aq,aq⟩ h15;obtain ⟨X,h18,g18,f18⟩:=pX d1 w2 h17 h20;obtain ⟨e1,h21,g21,f21⟩:=pX v X h15 h18;obtain ⟨e2,h22,g22,f22⟩:=gf r e1 h12 h21;obtain ⟨e3,h24,g24,f24⟩:=gf s1 h3 h7 h14;obtain ⟨Y,h19,g19,f19⟩:=pX e2 e3 h22 h24;obtain ⟨zz,h25,g25,f25⟩:=gf z z' hz hz';obtain ⟨Z,h23,g23,f23⟩:=gf h zz h11 h25;obtain ⟨wu,wv,ww,h26,h27,h28,g26,f26⟩:=mY zI zI true jF jF;obtain ⟨du,dv,dw,h29,h30,h31,g29,f29⟩:=t7 x y z hx hy hz;unfold W1 at f1 f2 f13 f16;unfold W2 at f4 f5 f6 f7 f8 f9 f11 f12 f14 f15 f17 f18 f19 f21 f22 f23 f24 f25;have l1:=h1.1;have l2:=h2.1;have l4:=h4.1;have l5:=h5.1;have l6:=h6.1;have l7:=h7.1;have l8:=h8.1;have l9:=h9.1;have l11:=h11.1;have l12:=h12.1;have l13:=h13.1;have l14:=h14.1;have l15:=h15.1;have l16:=h16.1;have l17:=h17.1;have l18:=h18.1;have l19:=h19.1;have l20:=h20.1;have l21:=h21.1;have l22:=h22.1;have l23:=h23.1;have l24:=h24.1;have l25:=h25.1;have l26:=h26.1;have l27:=h27.1;have l28:=h28.1;have l29:=h29.1;have l30:=h30.1;have l31:=h31.1;have hxl:=hx.1;have hyl:=hy.1;have hzl:=hz.1;have hxlb:=hx'.1;have hylb:=hy'.1;have hzlb:=hz'.1;have z4:List.drop 4 (cI zI)=[]:=aZ rfl;have vl:=dP hxl hyl hzl;have vt:=de hxl hyl hzl;have v1:(cV x y z).take 4=cI x:=Oi hxl;have v2:=Oj (z:=z) hxl hyl;have v3:=J9 hxl hyl hzl;have vlb:=dP hxlb hylb hzlb;have vtb:=de hxlb hylb hzlb;have v1b:(cV x' y' z').take 4=cI x':=Oi hxlb;have v2b:=Oj (z:=z') hxlb hylb;have v3b:=J9 hxlb hylb hzlb;have iz:b7 .u64 [AV.d (.int .u64 0),AV.d (.int .u64 0),AV.d (.int .u64 0),AV.d (.int .u64 0)]=some zI:=iu zI;have f0:=nS x y z hx hy hz;have f0b:=nS x' y' z' hx' hy' hz';have wd:(cV zI zI zI).drop 12=[]:=kC rfl rfl rfl;have wl:(cV zI zI zI).length=12:=rfl;have ul:=dP l26 l27 l28;have ut:=de l26 l27 l28;have ul2:=dP l29 l30 l31;have ut2:=de l29 l30 l31;by_cases q1:z=zI
 ·have vv:rf x y z→rf x' y' z'→rf x' y' z'∧JV x' y' z'=sum fd (JV x y z) (JV x' y' z'):=by
   intro _ hj';refine ⟨hj',?_⟩;rw [q1,WM,ga fd hj'.2]
  refine ⟨x',y',z',hx',hy',hz',vv,?_⟩;refine bO Tryz.func181 Tryz.ntmps181 (rs:=[.cell 4 243]) (oW _ _ _ _ _ _) ?_;simp [go_sem,vl,vt,vlb,vtb];refine ag f0 (fD _ _ _) ?_;simp [go_sem,q1,vlb,vtb,wd,wl,ah];exact kM rfl
 by_cases q2:z'=zI
 ·have vv:rf x y z→rf x' y' z'→rf x y z∧JV x y z=sum fd (JV x y z) (JV x' y' z'):=by
   intro hj _;refine ⟨hj,?_⟩;rw [q2,WM,kh fd hj.2]
  refine ⟨x,y,z,hx,hy,hz,vv,?_⟩;refine bO Tryz.func181 Tryz.ntmps181 (rs:=[.cell 4 243]) (oW _ _ _ _ _ _) ?_;simp [go_sem,vl,vt,vlb,vtb];refine ag f0 (fD _ _ _) ?_;simp [go_sem,q1,vl,vt,vlb,vtb];refine ag f0b (fD _ _ _) ?_;simp [go_sem,q2,vl,vt,wd,wl,ah];exact kM rfl
 have key:rf x y z→rf x' y' z'→(FV h ≠ 0→JV X Y Z=sum fd (JV x y z) (JV x' y' z'))∧(FV h=0→FV r=0→JV x y z=JV x' y' z')∧(FV h=0→FV r ≠ 0→sum fd (JV x y z) (JV x' y' z')=none):=by
  intro hj hj';have hz0:FV z ≠ 0:=fun h=>q1 ((lR hz hj.1.2.2).1 h);have hz0':FV z' ≠ 0:=fun h=>q2 ((lR hz' hj'.1.2.2).1 h);have k1:FV u1=FV x*(FV z'*FV z'):=by rw [g4.2,g2.2]
  have k2:FV u2=FV x'*(FV z*FV z):=by rw [g5.2,g1.2]
  have k3:FV s1=FV y*(FV z'*FV z'*FV z'):=by rw [g7.2,g6.2,g2.2]
  have k4:FV s2=FV y'*(FV z*FV z*FV z):=by rw [g9.2,g8.2,g1.2]
  obtain ⟨j1,j2,j3⟩:=JX fd hz0 hz0' hj.2 hj'.2 k1 k2 k3 k4 g11.2 g12.2;refine ⟨fun hh0=>?_,j2,j3⟩;have n2:FV [2,0,0,0]=2:=CG 2 aq
  have eX:FV X=FV r*FV r - FV h*FV h*FV h - 2*(FV u1*(FV h*FV h)):=by
   rw [g18.2,g17.2,g16.2,g14.2,g13.2,g20.2,g15.2,g13.2,n2]
  have eY:FV Y=FV r*(FV u1*(FV h*FV h) - (FV r*FV r - FV h*FV h*FV h - 2*(FV u1*(FV h*FV h)))) - FV s1*(FV h*FV h*FV h):=by
   rw [g19.2,g22.2,g21.2,eX,g24.2,g15.2,g14.2,g13.2]
  have eZ:FV Z=FV h*(FV z*FV z'):=by rw [g23.2,g25.2]
  show pV fd (FV X) (FV Y) (FV Z)=_;rw [eX,eY,eZ];exact j1 hh0
 obtain ⟨Ua,Va,Wa,hU,hV,hW,vv,e1,e2,e3⟩:∃ (Ua Va Wa:List Int),Wn 4 Ua∧Wn 4 Va∧Wn 4 Wa∧(rf x y z→rf x' y' z'→rf Ua Va Wa∧JV Ua Va Wa=sum fd (JV x y z) (JV x' y' z'))∧(h=zI→r=zI→(du=Ua∧dv=Va∧dw=Wa))∧(h=zI→r ≠ zI→(wu=Ua∧wv=Va∧ww=Wa))∧(h ≠ zI→(X=Ua∧Y=Va∧Z=Wa)):=by
  have fz:∀ {l:List Int},l=zI→FV l=0:=fun h=>by rw [h,x9]
  by_cases q3:h=zI
  ·by_cases q4:r=zI
   ·refine ⟨du,dv,dw,h29,h30,h31,fun hj hj'=>?_,fun _ _=>⟨rfl,rfl,rfl⟩,fun _ h=>absurd q4 h,fun h=>absurd q3 h⟩;obtain ⟨m1,m2⟩:=g29 hj;refine ⟨m1,?_⟩;rw [m2,← (key hj hj').2.1 (fz q3) (fz q4)]
   ·refine ⟨wu,wv,ww,h26,h27,h28,fun hj hj'=>?_,fun _ h=>absurd h q4,fun _ _=>⟨rfl,rfl,rfl⟩,fun h=>absurd q3 h⟩;obtain ⟨m1,m2⟩:=g26 tZ;refine ⟨m1,?_⟩;rw [m2,J6,(key hj hj').2.2 (fz q3) (fun h=>q4 ((lR h12 g12.1).1 h))]
  ·refine ⟨X,Y,Z,h18,h19,h23,fun hj hj'=>?_,fun h=>absurd h q3,fun h=>absurd h q3,fun _=>⟨rfl,rfl,rfl⟩⟩;have e:=(key hj hj').1 (fun h=>q3 ((lR h11 g11.1).1 h));exact ⟨⟨⟨g18.1,g19.1,g23.1⟩,by rw [e];exact oU fd hj.2 hj'.2⟩,e⟩
 refine ⟨Ua,Va,Wa,hU,hV,hW,vv,?_⟩;refine bO Tryz.func181 Tryz.ntmps181 (rs:=[.cell 4 243]) (oW _ _ _ _ _ _) ?_;simp [go_sem,vl,vt,vlb,vtb];refine ag f0 (fD _ _ _) ?_;simp [go_sem,q1,vl,vt,vlb,vtb];refine ag f0b (fD _ _ _) ?_;simp [go_sem,q2,vl,vt,vlb,vtb,v1,v2,v3,v1b,v2b,v3b];refine ek [0,1,3,4] [2,5,6,7,8,9] [0,1,3,4] (.alt (bt 2 (.alt (bx 5 (.alt (a_ [6,7,8,9]) (a_ [7,6,8,9]))) (.alt (bt 6 (.alt (a_ [5,7,8,9]) (bt 7 (a_ [5,8,9])))) (bt 7 (.alt (a_ [5,6,8,9]) (bt 6 (a_ [5,8,9]))))))) (.alt (bt 6 (.alt (bt 2 (.alt (a_ [5,7,8,9]) (bt 7 (a_ [5,8,9])))) (bt 7 (bt 2 (a_ [5,8,9]))))) (bt 7 (.alt (bt 2 (.alt (a_ [5,6,8,9]) (bt 6 (a_ [5,8,9])))) (bt 6 (bt 2 (a_ [5,8,9]))))))) ⟨[(2,.ptr 0 0 0 1),(3,.ptr 32 0 0 1),(4,.ptr 64 0 0 1),(5,.ptr 480 0 0 1),(6,.ptr 512 0 0 1)],[(512,⟨96,4,[cI qz2]⟩),(480,⟨96,4,[cI pz2]⟩),(64,⟨243,12,[cV zI zI zI]⟩),(32,⟨243,12,[cV x' y' z']⟩),(0,⟨243,12,[cV x y z]⟩)],9000⟩ (k:=10) ?h3 ?hq
 case h3 =>
  intro G hG
  have hW:∀ (fr:Fr) (hp:Hp),(fv 2 fr=.ptr 0 0 0 1∧fv 3 fr=.ptr 32 0 0 1∧fv 4 fr=.ptr 64 0 0 1∧fv 5 fr=.ptr 480 0 0 1∧fv 6 fr=.ptr 512 0 0 1∧lk 512 hp=some ⟨96,4,[cI qz2]⟩∧lk 480 hp=some ⟨96,4,[cI pz2]⟩∧lk 64 hp=some ⟨243,12,[cV zI zI zI]⟩∧lk 32 hp=some ⟨243,12,[cV x' y' z']⟩∧lk 0 hp=some ⟨243,12,[cV x y z]⟩)→G fr hp:=by
   rintro fr hp ⟨q0,q1,q2,q3,q4,q5,q6,q7,q8,q9⟩;exact hG _ _ rS
  simp [go_sem,l1,l2,ae l1,ae l2,z4,v3,v3b,vl,vlb,dM]
  repeat' first | exact hW _ _ ⟨rfl,rfl,rfl,rfl,rfl,rfl,rfl,rfl,rfl,rfl⟩ | (refine hW _ _ ?_;simp [fv,lk];done) | refine ag f1 (aR _) ?_ | refine ag f2 (aR _) ?_ | apply And.intro | simp [go_sem,l1,l2,ae l1,ae l2,z4,v3,v3b,vl,vlb,dM]
 case hq =>
  simp [go_sem];refine ek [0,1,2,4,5,6] [3,7,8,9,10,11] [0,1,2,4,5,6] (.alt (bt 3 (.alt (bx 7 (.alt (a_ [8,9,10,11]) (a_ [9,8,10,11]))) (.alt (bt 8 (.alt (a_ [7,9,10,11]) (bt 9 (a_ [7,10,11])))) (bt 9 (.alt (a_ [7,8,10,11]) (bt 8 (a_ [7,10,11]))))))) (.alt (bt 8 (.alt (bt 3 (.alt (a_ [7,9,10,11]) (bt 9 (a_ [7,10,11])))) (bt 9 (bt 3 (a_ [7,10,11]))))) (bt 9 (.alt (bt 3 (.alt (a_ [7,8,10,11]) (bt 8 (a_ [7,10,11])))) (bt 8 (bt 3 (a_ [7,10,11]))))))) ⟨[(2,.ptr 0 0 0 1),(3,.ptr 32 0 0 1),(4,.ptr 64 0 0 1),(5,.ptr 480 0 0 1),(6,.ptr 512 0 0 1),(7,.ptr 9256 0 0 1),(8,.ptr 9288 0 0 1)],[(9288,⟨96,4,[cI u2]⟩),(9256,⟨96,4,[cI u1]⟩),(512,⟨96,4,[cI qz2]⟩),(480,⟨96,4,[cI pz2]⟩),(64,⟨243,12,[cV zI zI zI]⟩),(32,⟨243,12,[cV x' y' z']⟩),(0,⟨243,12,[cV x y z]⟩)],20000⟩ (k:=12) ?h3 ?hq
  case h3 =>
   intro G hG
   have hW:∀ (fr:Fr) (hp:Hp),(fv 2 fr=.ptr 0 0 0 1∧fv 3 fr=.ptr 32 0 0 1∧fv 4 fr=.ptr 64 0 0 1∧fv 5 fr=.ptr 480 0 0 1∧fv 6 fr=.ptr 512 0 0 1∧fv 7 fr=.ptr 9256 0 0 1∧fv 8 fr=.ptr 9288 0 0 1∧lk 9288 hp=some ⟨96,4,[cI u2]⟩∧lk 9256 hp=some ⟨96,4,[cI u1]⟩∧lk 512 hp=some ⟨96,4,[cI qz2]⟩∧lk 480 hp=some ⟨96,4,[cI pz2]⟩∧lk 64 hp=some ⟨243,12,[cV zI zI zI]⟩∧lk 32 hp=some ⟨243,12,[cV x' y' z']⟩∧lk 0 hp=some ⟨243,12,[cV x y z]⟩)→G fr hp:=by
    rintro fr hp ⟨q0,q1,q2,q3,q4,q5,q6,q7,q8,q9,q10,q11,q12,q13⟩;exact hG _ _ rS
   simp [go_sem,l1,l2,l4,l5,ae l1,ae l2,ae l4,ae l5,z4,v1,v1b,vl,vlb,dM]
   repeat' first | exact hW _ _ ⟨rfl,rfl,rfl,rfl,rfl,rfl,rfl,rfl,rfl,rfl,rfl,rfl,rfl,rfl⟩ | (refine hW _ _ ?_;simp [fv,lk];done) | refine ag f4 (aK _ _) ?_ | refine ag f5 (aK _ _) ?_ | apply And.intro | simp [go_sem,l1,l2,l4,l5,ae l1,ae l2,ae l4,ae l5,z4,v1,v1b,vl,vlb,dM]
  case hq =>
   simp [go_sem];refine ek [0,1,2,3,4,7,8,9,10,11] [5,6,12,13,14,15,16,17] [0,1,2,3,4,7,8,9,10,11] (.alt (bt 5 (.alt (bt 6 (.alt (bt 12 (.alt (bx 13 (.alt (a_ [14,15,16,17]) (a_ [15,14,16,17]))) (.alt (bt 14 (.alt (a_ [13,15,16,17]) (bt 15 (a_ [13,16,17])))) (bt 15 (.alt (a_ [13,14,16,17]) (bt 14 (a_ [13,16,17]))))))) (.alt (bt 14 (.alt (bt 12 (.alt (a_ [13,15,16,17]) (bt 15 (a_ [13,16,17])))) (bt 15 (bt 12 (a_ [13,16,17]))))) (bt 15 (.alt (bt 12 (.alt (a_ [13,14,16,17]) (bt 14 (a_ [13,16,17])))) (bt 14 (bt 12 (a_ [13,16,17])))))))) (.alt (bt 14 (.alt (bt 6 (.alt (bt 12 (.alt (a_ [13,15,16,17]) (bt 15 (a_ [13,16,17])))) (bt 15 (bt 12 (a_ [13,16,17]))))) (bt 15 (bt 6 (bt 12 (a_ [13,16,17])))))) (bt 15 (.alt (bt 6 (.alt (bt 12 (.alt (a_ [13,14,16,17]) (bt 14 (a_ [13,16,17])))) (bt 14 (bt 12 (a_ [13,16,17]))))) (bt 14 (bt 6 (bt 12 (a_ [13,16,17]))))))))) (.alt (bt 14 (.alt (bt 5 (.alt (bt 6 (.alt (bt 12 (.alt (a_ [13,15,16,17]) (bt 15 (a_ [13,16,17])))) (bt 15 (bt 12 (a_ [13,16,17]))))) (bt 15 (bt 6 (bt 12 (a_ [13,16,17])))))) (bt 15 (bt 5 (bt 6 (bt 12 (a_ [13,16,17]))))))) (bt 15 (.alt (bt 5 (.alt (bt 6 (.alt (bt 12 (.alt (a_ [13,14,16,17]) (bt 14 (a_ [13,16,17])))) (bt 14 (bt 12 (a_ [13,16,17]))))) (bt 14 (bt 6 (bt 12 (a_ [13,16,17])))))) (bt 14 (bt 5 (bt 6 (bt 12 (a_ [13,16,17]))))))))) ⟨[(2,.ptr 0 0 0 1),(3,.ptr 32 0 0 1),(4,.ptr 64 0 0 1),(7,.ptr 9256 0 0 1),(8,.ptr 9288 0 0 1),(9,.ptr 20448 0 0 1),(10,.ptr 20480 0 0 1)],[(20480,⟨96,4,[cI s2]⟩),(20448,⟨96,4,[cI s1]⟩),(9288,⟨96,4,[cI u2]⟩),(9256,⟨96,4,[cI u1]⟩),(64,⟨243,12,[cV zI zI zI]⟩),(32,⟨243,12,[cV x' y' z']⟩),(0,⟨243,12,[cV x y z]⟩)],30000⟩ (k:=18) ?h3 ?hq
   case h3 =>
    intro G hG
    have hW:∀ (fr:Fr) (hp:Hp),(fv 2 fr=.ptr 0 0 0 1∧fv 3 fr=.ptr 32 0 0 1∧fv 4 fr=.ptr 64 0 0 1∧fv 7 fr=.ptr 9256 0 0 1∧fv 8 fr=.ptr 9288 0 0 1∧fv 9 fr=.ptr 20448 0 0 1∧fv 10 fr=.ptr 20480 0 0 1∧lk 20480 hp=some ⟨96,4,[cI s2]⟩∧lk 20448 hp=some ⟨96,4,[cI s1]⟩∧lk 9288 hp=some ⟨96,4,[cI u2]⟩∧lk 9256 hp=some ⟨96,4,[cI u1]⟩∧lk 64 hp=some ⟨243,12,[cV zI zI zI]⟩∧lk 32 hp=some ⟨243,12,[cV x' y' z']⟩∧lk 0 hp=some ⟨243,12,[cV x y z]⟩)→G fr hp:=by
     rintro fr hp ⟨q0,q1,q2,q3,q4,q5,q6,q7,q8,q9,q10,q11,q12,q13⟩;exact hG _ _ rS
    simp [go_sem,l1,l2,l7,l9,ae l1,ae l2,ae l7,ae l9,z4,v2,v2b,v3,v3b,vl,vlb,dM]
    repeat' first | exact hW _ _ ⟨rfl,rfl,rfl,rfl,rfl,rfl,rfl,rfl,rfl,rfl,rfl,rfl,rfl,rfl⟩ | (refine hW _ _ ?_;simp [fv,lk];done) | refine ag f6 (aK _ _) ?_ | refine ag f7 (aK _ _) ?_ | refine ag f8 (aK _ _) ?_ | refine ag f9 (aK _ _) ?_ | apply And.intro | simp [go_sem,l1,l2,l7,l9,ae l1,ae l2,ae l7,ae l9,z4,v2,v2b,v3,v3b,vl,vlb,dM]
   case hq =>
    simp [go_sem];refine ek [0,1,3,4] [2,5,6,7,8,9] [0,1,3,4] (.alt (bt 2 (.alt (bx 5 (.alt (a_ [6,7,8,9]) (a_ [7,6,8,9]))) (.alt (bt 6 (.alt (a_ [5,7,8,9]) (bt 7 (a_ [5,8,9])))) (bt 7 (.alt (a_ [5,6,8,9]) (bt 6 (a_ [5,8,9]))))))) (.alt (bt 6 (.alt (bt 2 (.alt (a_ [5,7,8,9]) (bt 7 (a_ [5,8,9])))) (bt 7 (bt 2 (a_ [5,8,9]))))) (bt 7 (.alt (bt 2 (.alt (a_ [5,6,8,9]) (bt 6 (a_ [5,8,9])))) (bt 6 (bt 2 (a_ [5,8,9]))))))) ⟨[(2,.ptr 0 0 0 1),(3,.ptr 32 0 0 1),(4,.ptr 64 0 0 1),(7,.ptr 9256 0 0 1),(9,.ptr 20448 0 0 1),(11,.ptr 30192 0 0 1),(12,.ptr 30224 0 0 1)],[(30224,⟨96,4,[cI r]⟩),(30192,⟨96,4,[cI h]⟩),(20448,⟨96,4,[cI s1]⟩),(9256,⟨96,4,[cI u1]⟩),(64,⟨243,12,[cV zI zI zI]⟩),(32,⟨243,12,[cV x' y' z']⟩),(0,⟨243,12,[cV x y z]⟩)],40000⟩ (k:=10) ?h3 ?hq
    case h3 =>
     intro G hG
     have hW:∀ (fr:Fr) (hp:Hp),(fv 2 fr=.ptr 0 0 0 1∧fv 3 fr=.ptr 32 0 0 1∧fv 4 fr=.ptr 64 0 0 1∧fv 7 fr=.ptr 9256 0 0 1∧fv 9 fr=.ptr 20448 0 0 1∧fv 11 fr=.ptr 30192 0 0 1∧fv 12 fr=.ptr 30224 0 0 1∧lk 30224 hp=some ⟨96,4,[cI r]⟩∧lk 30192 hp=some ⟨96,4,[cI h]⟩∧lk 20448 hp=some ⟨96,4,[cI s1]⟩∧lk 9256 hp=some ⟨96,4,[cI u1]⟩∧lk 64 hp=some ⟨243,12,[cV zI zI zI]⟩∧lk 32 hp=some ⟨243,12,[cV x' y' z']⟩∧lk 0 hp=some ⟨243,12,[cV x y z]⟩)→G fr hp:=by
      rintro fr hp ⟨q0,q1,q2,q3,q4,q5,q6,q7,q8,q9,q10,q11,q12,q13⟩;exact hG _ _ rS
     simp [go_sem,l4,l5,l7,l9,l11,l12,ae l4,ae l5,ae l7,ae l9,ae l11,ae l12,z4,dM]
     repeat' first | exact hW _ _ ⟨rfl,rfl,rfl,rfl,rfl,rfl,rfl,rfl,rfl,rfl,rfl,rfl,rfl,rfl⟩ | (refine hW _ _ ?_;simp [fv,lk];done) | refine ag f11 (aK _ _) ?_ | refine ag f12 (aK _ _) ?_ | apply And.intro | simp [go_sem,l4,l5,l7,l9,l11,l12,ae l4,ae l5,ae l7,ae l9,ae l11,ae l12,z4,dM]
    case hq =>
     by_cases q3:h=zI
     ·by_cases q4:r=zI
      ·obtain ⟨rfl,rfl,rfl⟩:=e1 q3 q4;simp [go_sem,l11,l12,iu,iz,ae l11,ae l12];refine ⟨fun _=>⟨fun _=>?_,fun h=>absurd q4 h⟩,fun h=>absurd q3 h⟩;simp [go_sem,vl,vt];refine ag f29 (fD _ _ _) ?_;simp [go_sem,ul2,ut2,wd,wl,ah];exact kM rfl
      ·obtain ⟨rfl,rfl,rfl⟩:=e2 q3 q4;simp [go_sem,l11,l12,iu,iz,ae l11,ae l12];refine ⟨fun _=>⟨fun h=>absurd h q4,fun _=>?_⟩,fun h=>absurd q3 h⟩;refine ag jI aw ?_;simp [go_sem];refine ag f26 (dr _ _ _) ?_;simp [go_sem,ul,ut,wd,wl,ah];exact kM rfl
     obtain ⟨rfl,rfl,rfl⟩:=e3 q3;simp [go_sem,l11,l12,iu,iz,ae l11,ae l12];refine ⟨fun h=>absurd h q3,fun _=>?_⟩;refine ag f13 (aR _) ?_;simp [go_sem,l11,l13,ae l11,ae l13,z4];refine ag f14 (aK _ _) ?_;simp [go_sem,l4,l13,l14,ae l4,ae l13,ae l14,z4];refine ag f15 (aK _ _) ?_;simp [go_sem,l15,ae l15,z4];refine ek [0,2,4] [1,3,5,6,7,8] [0,2,4] (.alt (bt 1 (.alt (bt 3 (.alt (bx 5 (.alt (a_ [6,7,8]) (a_ [7,6,8]))) (bt 7 (a_ [5,6,8])))) (bt 7 (bt 3 (a_ [5,6,8]))))) (bt 7 (bt 1 (bt 3 (a_ [5,6,8]))))) ⟨[(2,.ptr 0 0 0 1),(3,.ptr 32 0 0 1),(4,.ptr 64 0 0 1),(9,.ptr 20448 0 0 1),(11,.ptr 30192 0 0 1),(12,.ptr 30224 0 0 1),(14,.ptr 40320 0 0 1),(15,.ptr 40480 0 0 1),(16,.ptr 40768 0 0 1)],[(40768,⟨96,4,[cI X]⟩),(40480,⟨96,4,[cI v]⟩),(40320,⟨96,4,[cI h3]⟩),(30224,⟨96,4,[cI r]⟩),(30192,⟨96,4,[cI h]⟩),(20448,⟨96,4,[cI s1]⟩),(64,⟨243,12,[cV zI zI zI]⟩),(32,⟨243,12,[cV x' y' z']⟩),(0,⟨243,12,[cV x y z]⟩)],50000⟩ (k:=9) ?h3 ?hq
     case h3 =>
      intro G hG
      have hW:∀ (fr:Fr) (hp:Hp),(fv 2 fr=.ptr 0 0 0 1∧fv 3 fr=.ptr 32 0 0 1∧fv 4 fr=.ptr 64 0 0 1∧fv 9 fr=.ptr 20448 0 0 1∧fv 11 fr=.ptr 30192 0 0 1∧fv 12 fr=.ptr 30224 0 0 1∧fv 14 fr=.ptr 40320 0 0 1∧fv 15 fr=.ptr 40480 0 0 1∧fv 16 fr=.ptr 40768 0 0 1∧lk 40768 hp=some ⟨96,4,[cI X]⟩∧lk 40480 hp=some ⟨96,4,[cI v]⟩∧lk 40320 hp=some ⟨96,4,[cI h3]⟩∧lk 30224 hp=some ⟨96,4,[cI r]⟩∧lk 30192 hp=some ⟨96,4,[cI h]⟩∧lk 20448 hp=some ⟨96,4,[cI s1]⟩∧lk 64 hp=some ⟨243,12,[cV zI zI zI]⟩∧lk 32 hp=some ⟨243,12,[cV x' y' z']⟩∧lk 0 hp=some ⟨243,12,[cV x y z]⟩)→G fr hp:=by
       rintro fr hp ⟨q0,q1,q2,q3,q4,q5,q6,q7,q8,q9,q10,q11,q12,q13,q14,q15,q16,q17⟩;exact hG _ _ rS
      simp [go_sem,l12,l14,l15,l18,ae l12,ae l14,ae l15,ae l18,z4,dM]
      repeat' first | exact hW _ _ ⟨rfl,rfl,rfl,rfl,rfl,rfl,rfl,rfl,rfl,rfl,rfl,rfl,rfl,rfl,rfl,rfl,rfl,rfl⟩ | (refine hW _ _ ?_;simp [fv,lk];done) | refine ag f16 (aR _) ?_ | refine ag f17 (aK _ _) ?_ | refine ag f20 (lT _ _) ?_ | refine ag f18 (aK _ _) ?_ | apply And.intro | simp [go_sem,l12,l14,l15,l18,ae l12,ae l14,ae l15,ae l18,z4,dM]
     case hq =>
      simp [go_sem];refine ek [0,1,2,5,6] [3,4,7,8,9,10] [0,1,2,5,6] (.alt (bt 3 (.alt (bt 4 (.alt (bx 7 (.alt (a_ [8,9,10]) (a_ [9,8,10]))) (bt 9 (a_ [7,8,10])))) (bt 9 (bt 4 (a_ [7,8,10]))))) (bt 9 (bt 3 (bt 4 (a_ [7,8,10]))))) ⟨[(2,.ptr 0 0 0 1),(3,.ptr 32 0 0 1),(4,.ptr 64 0 0 1),(11,.ptr 30192 0 0 1),(16,.ptr 40768 0 0 1),(17,.ptr 50288 0 0 1)],[(50288,⟨96,4,[cI Y]⟩),(40768,⟨96,4,[cI X]⟩),(30192,⟨96,4,[cI h]⟩),(64,⟨243,12,[cV zI zI zI]⟩),(32,⟨243,12,[cV x' y' z']⟩),(0,⟨243,12,[cV x y z]⟩)],60000⟩ (k:=11) ?h3 ?hq
      case h3 =>
       intro G hG
       have hW:∀ (fr:Fr) (hp:Hp),(fv 2 fr=.ptr 0 0 0 1∧fv 3 fr=.ptr 32 0 0 1∧fv 4 fr=.ptr 64 0 0 1∧fv 11 fr=.ptr 30192 0 0 1∧fv 16 fr=.ptr 40768 0 0 1∧fv 17 fr=.ptr 50288 0 0 1∧lk 50288 hp=some ⟨96,4,[cI Y]⟩∧lk 40768 hp=some ⟨96,4,[cI X]⟩∧lk 30192 hp=some ⟨96,4,[cI h]⟩∧lk 64 hp=some ⟨243,12,[cV zI zI zI]⟩∧lk 32 hp=some ⟨243,12,[cV x' y' z']⟩∧lk 0 hp=some ⟨243,12,[cV x y z]⟩)→G fr hp:=by
        rintro fr hp ⟨q0,q1,q2,q3,q4,q5,q6,q7,q8,q9,q10,q11⟩;exact hG _ _ rS
       simp [go_sem,l7,l12,l14,l15,l18,l19,ae l7,ae l12,ae l14,ae l15,ae l18,ae l19,z4,dM]
       repeat' first | exact hW _ _ ⟨rfl,rfl,rfl,rfl,rfl,rfl,rfl,rfl,rfl,rfl,rfl,rfl⟩ | (refine hW _ _ ?_;simp [fv,lk];done) | refine ag f21 (aK _ _) ?_ | refine ag f22 (aK _ _) ?_ | refine ag f24 (aK _ _) ?_ | refine ag f19 (aK _ _) ?_ | apply And.intro | simp [go_sem,l7,l12,l14,l15,l18,l19,ae l7,ae l12,ae l14,ae l15,ae l18,ae l19,z4,dM]
      case hq =>
       simp only [go_sem,Nat.reduceEqDiff,Nat.reduceAdd,Nat.reduceLT,↓reduceIte];refine cf [0,1,2,3,4,5,6] [(7,[]),(8,[9]),(10,[])] 2 (k:=11) ?_;intro G hG;simp [go_sem,l18,l19,l11,ae l18,ae l19,ae l11,v3,v3b,vl,vlb];refine ag f25 (aK _ _) ?_;simp [go_sem];refine ag f23 (aK _ _) ?_;have ev:cI X ++ (cI Y ++ cI Z)=cV X Y Z:=rfl;have xl:=dP l18 l19 l23;have xt:=de l18 l19 l23;simp [go_sem,l18,l19,l23,wl,wd,Zq l18 l19,WE l18 l19,ev,xl,dM];refine hG _ _ ?_;simp [go_sem,xl,xt,ah];exact kM rfl
abbrev T3:=List Int × List Int × List Int
def W3 (s:T3):Prop:=Wn 4 s.1∧Wn 4 s.2.1∧Wn 4 s.2.2
def ub (s:T3):Prop:=rf s.1 s.2.1 s.2.2
noncomputable def JV3 (s:T3):Pt pP:=JV s.1 s.2.1 s.2.2
theorem YU:∃ D:T3→T3,∀ s,W3 s→W3 (D s)∧(ub s→ub (D s)∧JV3 (D s)=sum fd (JV3 s) (JV3 s))∧ax Tryz.prog 183 [.agg (cV s.1 s.2.1 s.2.2)] (fun r=>r=.agg (cV (D s).1 (D s).2.1 (D s).2.2)) :=
 pick (α:=T3) (β:=T3) (A:=W3) (B:=fun s t=>W3 t∧(ub s→ub t∧JV3 t=sum fd (JV3 s) (JV3 s))∧ax Tryz.prog 183 [.agg (cV s.1 s.2.1 s.2.2)] (fun r=>r=.agg (cV t.1 t.2.1 t.2.2))) (fun s hs=>by
  obtain ⟨u,v,w,h1,h2,h3,hv,h4⟩:=t7 s.1 s.2.1 s.2.2 hs.1 hs.2.1 hs.2.2
  exact ⟨(u,v,w),⟨h1,h2,h3⟩,hv,h4⟩)
theorem WN:∃ D:T3 × T3→T3,∀ s,(W3 s.1∧W3 s.2)→W3 (D s)∧(ub s.1→ub s.2→ub (D s)∧JV3 (D s)=sum fd (JV3 s.1) (JV3 s.2))∧ax Tryz.prog 181 [.agg (cV s.1.1 s.1.2.1 s.1.2.2),.agg (cV s.2.1 s.2.2.1 s.2.2.2)] (fun r=>r=.agg (cV (D s).1 (D s).2.1 (D s).2.2)) :=
 pick (α:=T3 × T3) (β:=T3) (A:=fun s=>W3 s.1∧W3 s.2) (B:=fun s t=>W3 t∧(ub s.1→ub s.2→ub t∧JV3 t=sum fd (JV3 s.1) (JV3 s.2))∧ax Tryz.prog 181 [.agg (cV s.1.1 s.1.2.1 s.1.2.2),.agg (cV s.2.1 s.2.2.1 s.2.2.2)] (fun r=>r=.agg (cV t.1 t.2.1 t.2.2))) (fun s hs=>by
  obtain ⟨u,v,w,h1,h2,h3,hv,h4⟩:=EE s.1.1 s.1.2.1 s.1.2.2 s.2.1 s.2.2.1 s.2.2.2 hs.1.1 hs.1.2.1 hs.1.2.2 hs.2.1 hs.2.2.1 hs.2.2.2
  exact ⟨(u,v,w),⟨h1,h2,h3⟩,hv,h4⟩)
theorem YV:∃ D:List Int × Nat→Bool,∀ s,(Wn 4 s.1∧s.2<256)→(D s=true ↔ (V s.1).toNat / 2 ^ s.2 % 2=1)∧ax Tryz.prog 184 [.agg (cI s.1),.d (.int .i64 (s.2:Int))] (fun r=>r=.d (.bool (D s))) :=
 pick (α:=List Int × Nat) (β:=Bool) (A:=fun s=>Wn 4 s.1∧s.2<256) (B:=fun s t=>(t=true ↔ (V s.1).toNat / 2 ^ s.2 % 2=1)∧ax Tryz.prog 184 [.agg (cI s.1),.d (.int .i64 (s.2:Int))] (fun r=>r=.d (.bool t))) (fun s hs=>SV s.1 s.2 hs.1 hs.2)
def yd (D:T3→T3) (A:T3 × T3→T3) (B:List Int × Nat→Bool) (a b:List Int) (M:Nat) (one two both:T3) (k:Nat) (s:T3):T3 :=
 if B (a,M - 1 - k) then (if B (b,M - 1 - k) then A (D s,both) else A (D s,one)) else (if B (b,M - 1 - k) then A (D s,two) else D s)
theorem Gy {P Q:Pt pP} (hP:kg P) (hQ:kg Q) (a b:Nat) :
  sum fd (sum fd (mp fd a P) (mp fd b Q)) (sum fd (mp fd a P) (mp fd b Q))=sum fd (mp fd (2*a) P) (mp fd (2*b) Q) ∧
  sum fd (sum fd (mp fd (2*a) P) (mp fd (2*b) Q)) P=sum fd (mp fd (2*a+1) P) (mp fd (2*b) Q) ∧
  sum fd (sum fd (mp fd (2*a) P) (mp fd (2*b) Q)) Q=sum fd (mp fd (2*a) P) (mp fd (2*b+1) Q) ∧
  sum fd (sum fd (mp fd (2*a) P) (mp fd (2*b) Q)) (sum fd P Q)=sum fd (mp fd (2*a+1) P) (mp fd (2*b+1) Q):=by
 have a1:=rO fd hP a;have b1:=rO fd hQ b;have a2:=rO fd hP (2*a);have b2:=rO fd hQ (2*b);refine ⟨?_,?_,?_,?_⟩
 ·rw [Wt fd a1 b1 a1 b1,JU fd hP,JU fd hQ]
 ·rw [mp,gA fd a2 b2 hP,tO fd (mp fd (2*b) Q) P,← gA fd a2 hP b2]
 ·rw [mp,gA fd a2 b2 hQ]
 ·rw [mp,mp,Wt fd a2 b2 hP hQ]
theorem vZ (N M k:Nat) (h:k<M):N / 2 ^ (M - (k+1))=2*(N / 2 ^ (M - k))+N / 2 ^ (M - 1 - k) % 2:=by
 have e:M - k=(M - 1 - k)+1:=aq;have e2:M - (k+1)=M - 1 - k:=aq;rw [e,e2,Nat.pow_succ,← Nat.div_div_eq_div_mul];omega
theorem CN (a b:List Int) (x y x' y':List Int) (c c':Bool):∀ v,v ∈ [AV.agg (cI a),AV.agg (cP x y c),AV.agg (cI b),AV.agg (cP x' y' c')]→v.deep:=by
 intro v hv;simp at hv;rcases hv with rfl | rfl | rfl | rfl
 ·exact eN _
 ·exact jH _ _ _
 ·exact eN _
 ·exact jH _ _ _
theorem Ak (n:List Int) (m:Int):∀ v,v ∈ [AV.agg (cI n),AV.d (.int .i64 m)]→v.deep:=by
 intro v hv;simp at hv;rcases hv with rfl | rfl;exact eN _;trivial
theorem EF (a b x y x' y':List Int) (c c':Bool) (ha:Wn 4 a) (hb:Wn 4 b) (hx:Wn 4 x) (hy:Wn 4 y) (hx':Wn 4 x') (hy':Wn 4 y'):∃ (u v:List Int) (o:Bool),Wn 4 u∧Wn 4 v∧(jq x y c→jq x' y' c'→jq u v o∧PV u v o=sum fd (mp fd (V a).toNat (PV x y c)) (mp fd (V b).toNat (PV x' y' c')))∧ax Tryz.prog 159 [.agg (cI a),.agg (cP x y c),.agg (cI b),.agg (cP x' y' c')] (fun r=>r=.agg (cP u v o)):=by
 obtain ⟨D,hD⟩:=YU;obtain ⟨A,hA⟩:=WN;obtain ⟨B,hB⟩:=YV;obtain ⟨p1,p2,p3,hp1,hp2,tv1,t1⟩:=pY x y c hx hy;obtain ⟨u1,v1,w1,hu1,hv1,hw1,wv1,g1⟩:=mY p1 p2 p3 hp1 hp2;obtain ⟨r1,r2,r3,hr1,hr2,tv2,t2⟩:=pY x' y' c' hx' hy';obtain ⟨u2,v2,w2,hu2,hv2,hw2,wv2,g2⟩:=mY r1 r2 r3 hr1 hr2;obtain ⟨u3,v3,w3,hu3,hv3,hw3,wv3,f3⟩:=EE u1 v1 w1 u2 v2 w2 hu1 hv1 hw1 hu2 hv2 hw2;obtain ⟨u4,v4,w4,hu4,hv4,hw4,wv4,f4⟩:=mY zI zI true jF jF;obtain ⟨La,hLa,vLa,f5⟩:=xW a ha;obtain ⟨Lb,hLb,vLb,f6⟩:=xW b hb;obtain ⟨M,hM⟩:∃ M,M=max La Lb:=⟨_,rfl⟩;have hM2:M≤256:=aq;have hone:W3 (u1,v1,w1):=⟨hu1,hv1,hw1⟩;have htwo:W3 (u2,v2,w2):=⟨hu2,hv2,hw2⟩;have hboth:W3 (u3,v3,w3):=⟨hu3,hv3,hw3⟩
 have hS:∀ k,W3 (eU (yd D A B a b M (u1,v1,w1) (u2,v2,w2) (u3,v3,w3)) (u4,v4,w4) k):=iZ (P:=fun _ s=>W3 s) ⟨hu4,hv4,hw4⟩ fun k s hs=>by
  have hd:=(hD s hs).1;unfold yd
  split
  ·split
   ·exact (hA _ ⟨hd,hboth⟩).1
   ·exact (hA _ ⟨hd,hone⟩).1
  ·split
   ·exact (hA _ ⟨hd,htwo⟩).1
   ·exact hd
 obtain ⟨u,v,o,hu,hv,vp,f7⟩:=Kq _ _ _ (hS M).1 (hS M).2.1 (hS M).2.2
 have vv:jq x y c→jq x' y' c'→jq u v o∧PV u v o=sum fd (mp fd (V a).toNat (PV x y c)) (mp fd (V b).toNat (PV x' y' c')):=by
  intro i1 i2;obtain ⟨q1,q2,q3⟩:=tv1.2.1 i1;obtain ⟨q4,q5,q6⟩:=tv2.2.1 i2;subst q1 q2 q3 q4 q5 q6;have o1:=ya i1;have o2:=ya i2;obtain ⟨j1,e1⟩:=wv1 i1;obtain ⟨j2,e2⟩:=wv2 i2;obtain ⟨j3,e3⟩:=wv3 j1 j2;obtain ⟨j4,e4⟩:=wv4 tZ
  have hbig:∀ (w:List Int) (L:Nat),Wn 4 w→V w<2 ^ L→L≤M→(V w).toNat / 2 ^ M=0:=by
   intro w L hw hL hLM;have h0:=(ke hw).1;have h1:(((V w).toNat:Nat):Int)<((2 ^ L:Nat):Int):=by rw [Int.toNat_of_nonneg h0];exact_mod_cast hL
   have h2:(V w).toNat<2 ^ L:=by exact_mod_cast h1
   exact Nat.div_eq_of_lt (Nat.lt_of_lt_of_le h2 (Nat.pow_le_pow_right aq hLM))
  have main:∀ k,k≤M→ub (eU (yd D A B a b M (u1,v1,w1) (u2,v2,w2) (u3,v3,w3)) (u4,v4,w4) k)∧JV3 (eU (yd D A B a b M (u1,v1,w1) (u2,v2,w2) (u3,v3,w3)) (u4,v4,w4) k)=sum fd (mp fd ((V a).toNat / 2 ^ (M - k)) (PV p1 p2 p3)) (mp fd ((V b).toNat / 2 ^ (M - k)) (PV r1 r2 r3)):=by
   intro k
   induction k with
   | zero =>
    intro _;refine ⟨j4,?_⟩;rw [Nat.sub_zero,hbig a La ha vLa aq,hbig b Lb hb vLb aq];show JV u4 v4 w4=_;rw [e4,J6];exact (ga fd (Q:=none) True.intro).symm
   | succ k ih =>
    intro hk;obtain ⟨i3,i4⟩:=ih aq;have hs:=hS k;rw [eU];generalize eU (yd D A B a b M (u1,v1,w1) (u2,v2,w2) (u3,v3,w3)) (u4,v4,w4) k=s at *;obtain ⟨d1,d2,_⟩:=hD s hs;obtain ⟨d3,d4⟩:=d2 i3;have ba:=(hB (a,M - 1 - k) ⟨ha,aq⟩).1;have bb:=(hB (b,M - 1 - k) ⟨hb,aq⟩).1;obtain ⟨s1,s2,s3,s4⟩:=Gy o1 o2 ((V a).toNat / 2 ^ (M - k)) ((V b).toNat / 2 ^ (M - k));rw [i4,s1] at d4;rw [vZ _ M k aq,vZ (V b).toNat M k aq];dsimp only at ba bb;have m2:∀ n:Nat,n % 2=0 ∨ n % 2=1:=Nat.mod_two_eq_zero_or_one;unfold yd
    cases hb1:B (a,M - 1 - k)
    ·have za:(V a).toNat / 2 ^ (M - 1 - k) % 2=0:=(m2 _).resolve_right (fun h=>by rw [ba.2 h] at hb1;cases hb1);rw [za,Nat.add_zero]
     cases hb2:B (b,M - 1 - k)
     ·have zb:(V b).toNat / 2 ^ (M - 1 - k) % 2=0:=(m2 _).resolve_right (fun h=>by rw [bb.2 h] at hb2;cases hb2);rw [zb,Nat.add_zero];exact ⟨d3,d4⟩
     ·rw [bb.1 hb2];obtain ⟨k1,k2,_⟩:=hA (D s,(u2,v2,w2)) ⟨d1,htwo⟩;obtain ⟨k3,k4⟩:=k2 d3 j2;refine ⟨k3,?_⟩;show JV3 (A (D s,(u2,v2,w2)))=_;rw [k4,d4,← s3];show sum fd _ (JV u2 v2 w2)=_;rw [e2]
    ·rw [ba.1 hb1]
     cases hb2:B (b,M - 1 - k)
     ·have zb:(V b).toNat / 2 ^ (M - 1 - k) % 2=0:=(m2 _).resolve_right (fun h=>by rw [bb.2 h] at hb2;cases hb2);rw [zb,Nat.add_zero (2*((V b).toNat / 2 ^ (M - k)))];obtain ⟨k1,k2,_⟩:=hA (D s,(u1,v1,w1)) ⟨d1,hone⟩;obtain ⟨k3,k4⟩:=k2 d3 j1;refine ⟨k3,?_⟩;show JV3 (A (D s,(u1,v1,w1)))=_;rw [k4,d4,← s2];show sum fd _ (JV u1 v1 w1)=_;rw [e1]
     ·rw [bb.1 hb2];obtain ⟨k1,k2,_⟩:=hA (D s,(u3,v3,w3)) ⟨d1,hboth⟩;obtain ⟨k3,k4⟩:=k2 d3 j3;refine ⟨k3,?_⟩;show JV3 (A (D s,(u3,v3,w3)))=_;rw [k4,d4,← s4];show sum fd _ (JV u3 v3 w3)=_;rw [e3,e1,e2]
  obtain ⟨z1,z2⟩:=main M (cL _);obtain ⟨z3,z4⟩:=vp z1;refine ⟨z3,?_⟩;rw [z4];show JV3 _=_;rw [z2,Nat.sub_self,Nat.pow_zero,Nat.div_one,Nat.div_one]
 refine ⟨u,v,o,hu,hv,vv,?_⟩;refine bO Tryz.func159 Tryz.ntmps159 (rs:=[.cell 8 189]) (CN _ _ _ _ _ _ _ _) ?_;have hal:=ha.1;have hbl:=hb.1;have hxl:=hx.1;have hyl:=hy.1;have hxl':=hx'.1;have hyl':=hy'.1;have z4:List.drop 4 (cI zI)=[]:=aZ rfl;have pl1:=bZ hxl hyl c;have pt1:=c6 hxl hyl c;have pl2:=bZ hxl' hyl' c';have pt2:=c6 hxl' hyl' c';have wl1:=dP hu1.1 hv1.1 hw1.1;have wt1:=de hu1.1 hv1.1 hw1.1;have wl2:=dP hu2.1 hv2.1 hw2.1;have wt2:=de hu2.1 hv2.1 hw2.1;have wl3:=dP hu3.1 hv3.1 hw3.1;have wt3:=de hu3.1 hv3.1 hw3.1;have wl4:=dP hu4.1 hv4.1 hw4.1;have wt4:=de hu4.1 hv4.1 hw4.1;have wd:(cV zI zI zI).drop 12=[]:=kC rfl rfl rfl;have wl:(cV zI zI zI).length=12:=rfl;have pd:(cP zI zI false).drop 9=[]:=nR rfl rfl _;have pl:(cP zI zI false).length=9:=rfl;simp [go_sem,hal,hbl,ae hal,ae hbl,pl1,pt1,pl2,pt2];refine ek [0,3] [1,2,4,5,6,7,8,9] [0,3] (.alt (bt 1 (.alt (bt 2 (.alt (bx 4 (.alt (bx 5 (.alt (a_ [6,7,8,9]) (a_ [7,6,8,9]))) (.alt (bx 6 (.alt (a_ [5,7,8,9]) (a_ [7,5,8,9]))) (bx 7 (.alt (a_ [5,6,8,9]) (a_ [6,5,8,9])))))) (.alt (bt 6 (.alt (bx 4 (.alt (a_ [5,7,8,9]) (a_ [7,5,8,9]))) (bt 7 (a_ [4,5,8,9])))) (bt 7 (.alt (bx 4 (.alt (a_ [5,6,8,9]) (a_ [6,5,8,9]))) (bt 6 (a_ [4,5,8,9]))))))) (.alt (bt 6 (.alt (bt 2 (.alt (bx 4 (.alt (a_ [5,7,8,9]) (a_ [7,5,8,9]))) (bt 7 (a_ [4,5,8,9])))) (bt 7 (bt 2 (a_ [4,5,8,9]))))) (bt 7 (.alt (bt 2 (.alt (bx 4 (.alt (a_ [5,6,8,9]) (a_ [6,5,8,9]))) (bt 6 (a_ [4,5,8,9])))) (bt 6 (bt 2 (a_ [4,5,8,9])))))))) (.alt (bt 6 (.alt (bt 1 (.alt (bt 2 (.alt (bx 4 (.alt (a_ [5,7,8,9]) (a_ [7,5,8,9]))) (bt 7 (a_ [4,5,8,9])))) (bt 7 (bt 2 (a_ [4,5,8,9]))))) (bt 7 (bt 1 (bt 2 (a_ [4,5,8,9])))))) (bt 7 (.alt (bt 1 (.alt (bt 2 (.alt (bx 4 (.alt (a_ [5,6,8,9]) (a_ [6,5,8,9]))) (bt 6 (a_ [4,5,8,9])))) (bt 6 (bt 2 (a_ [4,5,8,9]))))) (bt 6 (bt 1 (bt 2 (a_ [4,5,8,9])))))))) ⟨[(4,.ptr 0 0 0 1),(6,.ptr 64 0 0 1),(8,.ptr 128 0 0 1),(9,.ptr 352 0 0 1),(10,.ptr 384 0 0 1)],[(384,⟨243,12,[cV u2 v2 w2]⟩),(352,⟨243,12,[cV u1 v1 w1]⟩),(128,⟨189,9,[cP zI zI false]⟩),(64,⟨96,4,[cI b]⟩),(0,⟨96,4,[cI a]⟩)],9000⟩ (k:=10) ?h3 ?hq
 case h3 =>
  intro G hG
  have hW:∀ (fr:Fr) (hp:Hp),(fv 4 fr=.ptr 0 0 0 1∧fv 6 fr=.ptr 64 0 0 1∧fv 8 fr=.ptr 128 0 0 1∧fv 9 fr=.ptr 352 0 0 1∧fv 10 fr=.ptr 384 0 0 1∧lk 384 hp=some ⟨243,12,[cV u2 v2 w2]⟩∧lk 352 hp=some ⟨243,12,[cV u1 v1 w1]⟩∧lk 128 hp=some ⟨189,9,[cP zI zI false]⟩∧lk 64 hp=some ⟨96,4,[cI b]⟩∧lk 0 hp=some ⟨96,4,[cI a]⟩)→G fr hp:=by
   rintro fr hp ⟨q0,q1,q2,q3,q4,q5,q6,q7,q8,q9⟩;exact hG _ _ rS
  simp [go_sem,hal,hbl,ae hal,ae hbl,pl1,pt1,pl2,pt2,wl1,wt1,wl2,wt2,wd,z4,dM]
  repeat' first | exact hW _ _ ⟨rfl,rfl,rfl,rfl,rfl,rfl,rfl,rfl,rfl,rfl⟩ | (refine hW _ _ ?_;simp [fv,lk];done) | refine ag t1 (dr _ _ _) ?_ | refine ag t2 (dr _ _ _) ?_ | refine ag g1 (dr _ _ _) ?_ | refine ag g2 (dr _ _ _) ?_ | apply And.intro | simp [go_sem,hal,hbl,ae hal,ae hbl,pl1,pt1,pl2,pt2,wl1,wt1,wl2,wt2,wd,z4,dM]
 case hq =>
  simp [go_sem,wl1,wt1,wl2,wt2];refine ag f3 (oW _ _ _ _ _ _) ?_;simp [go_sem,wl3,wt3,wd];refine ag jI aw ?_;simp [go_sem];refine ag f4 (dr _ _ _) ?_;simp [go_sem,wl4,wt4,wd];refine cf [0,2] [(1,[]),(3,[]),(4,[5,6])] 3 (k:=7) ?_;intro G hG;simp [go_sem,hal,hbl,ae hal,ae hbl];refine ag f5 (aR _) ?_;simp [go_sem,hal,hbl,ae hal,ae hbl];refine ag f6 (aR _) ?_;have w0:IntKind.i64.wrap ((M:Int) - 1)=(M:Int) - 1:=by rw [IntWalk.i64_in _ aq]
  have hMi:max (La:Int) (Lb:Int)=(M:Int):=aq;have hMx:(if La<Lb then (Lb:Int) else (La:Int))=(M:Int):=by split <;> omega
  simp [go_sem,hMi,w0];refine hG _ _ ?_;generalize hSS:eU (yd D A B a b M (u1,v1,w1) (u2,v2,w2) (u3,v3,w3)) (u4,v4,w4)=S at *;have hS0:S 0=(u4,v4,w4):=by rw [← hSS];rfl
  refine ar (fun k:Nat=>⟨[(4,.ptr 0 0 0 1),(6,.ptr 64 0 0 1),(8,.ptr 128 0 0 1),(9,.ptr 352 0 0 1),(10,.ptr 384 0 0 1),(11,.ptr 9096 0 0 1),(12,.ptr 9224 0 0 1),(13,.d (.int .i64 ((M:Int) - 1 - (k:Int))))],[(9224,⟨243,12,[cV (S k).1 (S k).2.1 (S k).2.2]⟩),(9096,⟨243,12,[cV u3 v3 w3]⟩),(384,⟨243,12,[cV u2 v2 w2]⟩),(352,⟨243,12,[cV u1 v1 w1]⟩),(128,⟨189,9,[cP zI zI false]⟩),(64,⟨96,4,[cI b]⟩),(0,⟨96,4,[cI a]⟩)],20000⟩)
   (fun k=>k≤M) (fun k=>M - k) 0 aq (by
    rw [hS0];simp [aA,ai,fv,lk,AV.low,AV.low1]
    and_intros <;> first | exact rh _ _ _ _ | exact bV _ _ | exact lS _ _ _ _ | (rw [hMx,w0])) ?_
  intro k hk;obtain ⟨hs1,hs2,hs3⟩:=hS k;have sl:=dP hs1.1 hs2.1 hs3.1;have st:=de hs1.1 hs2.1 hs3.1;have sd:=kC hs1.1 hs2.1 hs3.1;simp only [go_sem,Nat.reduceEqDiff,Nat.reduceAdd,Nat.reduceLT,↓reduceIte];by_cases h4:k<M
  ·refine ⟨fun h=>?_,fun h=>absurd aq h⟩;have hsn:S (k+1)=yd D A B a b M (u1,v1,w1) (u2,v2,w2) (u3,v3,w3) k (S k):=by rw [← hSS];rfl
   have wq:IntKind.i64.wrap ((M:Int) - 1 - (k:Int) - 1)=(M:Int) - 1 - ((k+1:Nat):Int):=by rw [IntWalk.i64_in _ aq];omega
   obtain ⟨d1,_,d2⟩:=hD (S k) ⟨hs1,hs2,hs3⟩;have dl:=dP d1.1.1 d1.2.1.1 d1.2.2.1;have dt:=de d1.1.1 d1.2.1.1 d1.2.2.1;have dd:=kC d1.1.1 d1.2.1.1 d1.2.2.1;have e1:=(hB (a,M - 1 - k) ⟨ha,aq⟩).2;have e2:=(hB (b,M - 1 - k) ⟨hb,aq⟩).2;have ei:(((M - 1 - k:Nat)):Int)=(M:Int) - 1 - (k:Int):=aq;simp only [ei] at e1 e2;unfold yd at hsn;simp [go_sem,sl,st];refine ag d2 (fD _ _ _) ?_;simp [go_sem,dl,dt,sl,sd];refine cf [0,1,3,4] [(2,[]),(5,[6,7])] 2 (k:=8) ?_;intro G hG;simp [go_sem,hal,hbl,ae hal,ae hbl];refine ag e1 (Ak _ _) ?_;simp [go_sem,hal,hbl,ae hal,ae hbl];refine ag e2 (Ak _ _) ?_;simp [go_sem];refine hG _ _ ?_
   cases hb1:B (a,M - 1 - k)
   ·cases hb2:B (b,M - 1 - k)
    ·simp only [hb1,hb2,if_true,if_false,Bool.false_eq_true] at hsn;simp [go_sem,hb1,hb2,dl,dt,wl1,wt1,wl2,wt2,wl3,wt3];simp [go_sem,wq];refine ao (k+1) aq aq ?_;rw [hsn];simp [aA,ai,fv,lk,AV.low,AV.low1];and_intros <;> first | exact rh _ _ _ _ | exact bV _ _ | exact lS _ _ _ _ | omega
    ·simp only [hb1,hb2,if_true,if_false,Bool.false_eq_true] at hsn;simp [go_sem,hb1,hb2,dl,dt,wl1,wt1,wl2,wt2,wl3,wt3];obtain ⟨m1,_,m2⟩:=hA (D (S k),(u2,v2,w2)) ⟨d1,htwo⟩;refine ag m2 (oW _ _ _ _ _ _) ?_;have ml:=dP m1.1.1 m1.2.1.1 m1.2.2.1;have mt:=de m1.1.1 m1.2.1.1 m1.2.2.1;have md:=kC m1.1.1 m1.2.1.1 m1.2.2.1;generalize A (D (S k),(u2,v2,w2))=z at *;simp [go_sem,ml,mt,dd,dl,wq];refine ao (k+1) aq aq ?_;rw [hsn];simp [aA,ai,fv,lk,AV.low,AV.low1];and_intros <;> first | exact rh _ _ _ _ | exact bV _ _ | exact lS _ _ _ _ | omega
   ·cases hb2:B (b,M - 1 - k)
    ·simp only [hb1,hb2,if_true,if_false,Bool.false_eq_true] at hsn;simp [go_sem,hb1,hb2,dl,dt,wl1,wt1,wl2,wt2,wl3,wt3];obtain ⟨m1,_,m2⟩:=hA (D (S k),(u1,v1,w1)) ⟨d1,hone⟩;refine ag m2 (oW _ _ _ _ _ _) ?_;have ml:=dP m1.1.1 m1.2.1.1 m1.2.2.1;have mt:=de m1.1.1 m1.2.1.1 m1.2.2.1;have md:=kC m1.1.1 m1.2.1.1 m1.2.2.1;generalize A (D (S k),(u1,v1,w1))=z at *;simp [go_sem,ml,mt,dd,dl,wq];refine ao (k+1) aq aq ?_;rw [hsn];simp [aA,ai,fv,lk,AV.low,AV.low1];and_intros <;> first | exact rh _ _ _ _ | exact bV _ _ | exact lS _ _ _ _ | omega
    ·simp only [hb1,hb2,if_true,if_false,Bool.false_eq_true] at hsn;simp [go_sem,hb1,hb2,dl,dt,wl1,wt1,wl2,wt2,wl3,wt3];obtain ⟨m1,_,m2⟩:=hA (D (S k),(u3,v3,w3)) ⟨d1,hboth⟩;refine ag m2 (oW _ _ _ _ _ _) ?_;have ml:=dP m1.1.1 m1.2.1.1 m1.2.2.1;have mt:=de m1.1.1 m1.2.1.1 m1.2.2.1;have md:=kC m1.1.1 m1.2.1.1 m1.2.2.1;generalize A (D (S k),(u3,v3,w3))=z at *;simp [go_sem,ml,mt,dd,dl,wq];refine ao (k+1) aq aq ?_;rw [hsn];simp [aA,ai,fv,lk,AV.low,AV.low1];and_intros <;> first | exact rh _ _ _ _ | exact bV _ _ | exact lS _ _ _ _ | omega
  ·refine ⟨fun h=>absurd aq h4,fun h=>?_⟩;have hkl:k=M:=aq;subst hkl;simp [go_sem,sl,st];refine ag f7 (fD _ _ _) ?_;have ol:=bZ hu.1 hv.1 o;have ot:=c6 hu.1 hv.1 o;simp [go_sem,ol,ot,pl,pd,ah];exact oV rfl
def jJ:List Nat:=[84,97,112,84,119,101,97,107]
theorem ye (t b:List Nat):(fh t b).length=32∧bytes (fh t b):=⟨a8 _,iM _⟩
theorem An (b:List Nat) (d:DV):∀ v,v ∈ [AV.agg (cb b),AV.d d]→v.deep:=by
 intro v hv;simp at hv;rcases hv with rfl | rfl;exact dE _;trivial
theorem CO (inner root:List Nat) (hi:inner.length=32) (hr:root.length≤1000):∃ (t:List Int) (ok:Bool),Wn 4 t∧((iY (fh jJ (inner ++ root))<115792089237316195423570985008687907852837564279074904382605163141518161494337→ok=true∧V t=(iY (fh jJ (inner ++ root)):Int))∧(¬ iY (fh jJ (inner ++ root))<115792089237316195423570985008687907852837564279074904382605163141518161494337→ok=false∧t=zI))∧ax Tryz.prog 166 [.agg (cb inner),.d (nb root)] (fun r=>r=.tup [.agg (cI t),.d (.bool ok)]):=by
 obtain ⟨t,ok,ht,vt,f1⟩:=Ah (fh jJ (inner ++ root)) (ye _ _).1 (ye _ _).2;refine ⟨t,ok,ht,vt,?_⟩;refine bO Tryz.func166 Tryz.ntmps166 (rs:=[.cell 4 96,.tmp 5]) (An _ _) ?_;have htl:=ht.1;have hz:List.drop 4 (cI zI)=[]:=aZ rfl;simp [go_sem,am,hi,av hi];refine bN [0,160] (Gx inner root hi aq) rfl (aj (.one (ak (iH (rows:=[[.sub 0 0 0 1 32 32 1],[.d (nb root)]]) rfl aw rfl (RowsR.cons (.cons (ed rfl aw hi) .nil) (RowsR.cons (.cons (.d _) .nil) .nil)) rfl (by intro r hr;simp at hr;rcases hr with rfl | rfl <;> rfl)))) aD) ?_;simp [go_sem,aE];refine ag (gv jJ (.str [84,97,112,84,119,101,97,107]) rfl (inner ++ root) (by simp [jJ]) (by rw [b_];omega)) a9 ?_;simp [go_sem];refine ag f1 (cB _) ?_;simp [go_sem,htl,ae htl,hz,ah];exact nP rfl
noncomputable def liftPt (n:Nat):Pt pP:=some (PQ pP (n:Int),PQ pP (if og n % 2=0 then og n else (0 - og n) % 115792089237316195423570985008687907853269984665640564039457584007908834671663))
noncomputable def turnQ (n t:Nat):Pt pP:=sum fd (mp fd 1 (liftPt n)) (mp fd t (PV gX gY false))
theorem S4 (R p:Int):(0 - R) % p*((0 - R) % p) % p=R*R % p:=by
 rw [← Int.mul_emod];congr 1;rw [Int.zero_sub,Int.neg_mul_neg]
theorem S5 {x:List Int} {n:Nat} (hx:V x=n):((((FV x*FV x*FV x+7:F)).val:Nat):Int)=mZ n:=by
 have e7:(((7:F).val:Nat):Int)=7 % pZ:=by
  show ((7 % pP:Nat):Int)=_;rw [Int.natCast_emod,jo];rfl
 rw [Gu,rV,rV,Int.natCast_emod,Int.natCast_add,Int.natCast_emod,Int.natCast_mul,Int.natCast_emod,Int.natCast_mul,eg,e7,jo,hx];unfold mZ;show _=((n:Int)*n*n+7) % pZ;rw [← Int.mul_emod (n:Int) n,← Int.mul_emod ((n:Int)*n) n,← Int.add_emod]
theorem Ot {n:Nat} {x y:List Int} {c:Bool} (h:Ks n x y c true):rj n∧c=false∧jq x y c∧PV x y c=liftPt n:=by
 rcases h with ⟨_,h,_⟩ | ⟨h1,_,rfl,hx,hy⟩
 ·cases h
 have hpos:(0:Int)<pZ:=by decide
 have hyl:V y<pZ:=by
  rw [hy]
  split
  ·exact Int.emod_lt_of_pos _ hpos
  ·exact Int.emod_lt_of_pos _ hpos
 have hon:FV y*FV y=FV x*FV x*FV x+7:=by
  refine tY ?_;rw [S5 hx,rV,Int.natCast_emod,Int.natCast_mul,eg,jo,← Int.mul_emod];have hc:mZ n % pZ=mZ n:=by unfold mZ;exact Int.emod_emod _ _
  have hR:og n*og n % pZ=mZ n:=h1.2.trans hc;rw [hy]
  split
  ·exact hR
  ·rw [← hR];exact S4 _ _
 refine ⟨h1,rfl,.inr ⟨rfl,by rw [hx];exact h1.1,hyl,hon⟩,?_⟩;show some (PQ pP (V x),PQ pP (V y))=_;rw [hx,hy];rfl
theorem Ou {n:Nat} {x y:List Int} {c:Bool} (h:Ks n x y c false):¬ rj n:=by
 rcases h with ⟨h,_⟩ | ⟨_,h,_⟩
 ·exact h
 ·cases h
def Kw (n t:Nat) (k:List Nat) (o:Bool) (e:Int):Prop :=
 ((¬ (rj n∧t<115792089237316195423570985008687907852837564279074904382605163141518161494337) ∨ turnQ n t=none)∧e=1∧k=z32∧o=false) ∨
 ((rj n∧t<115792089237316195423570985008687907852837564279074904382605163141518161494337)∧e=0∧∃ x y,turnQ n t=some (x,y)∧iY k=x.val∧(o=true ↔ y.val % 2=1))
theorem PW {x:List Int} (hx:Wn 4 x) (h:V x<pZ):(V x).toNat=(FV x).val:=by
 have e:=eg x;have h0:=(ke hx).1;rw [Int.emod_eq_of_lt h0 h] at e;omega
def E1 (e:Int):Prop:=e=0 ∨ e=1
theorem lU {Q:AV→Prop} {st:St} {b:List Nat} {o:Bool} {e:Int} (hq:Q (.tup [.agg (cb b),.d (.bool o),.d (.int .i64 e)])):dx Q (.tup [.agg (cb b),.d (.bool o),.d (.int .i64 e)]) st :=
 aa (by
  intro c hc;simp at hc;rcases hc with rfl | rfl | rfl
  ·exact .inr ⟨_,rfl,cg _⟩
  ·exact .inl trivial
  ·exact .inl trivial) hq
theorem Ov (inner root:List Nat) (hi:inner.length=32) (hib:bytes inner) (hr:root.length≤1000):∃ (k:List Nat) (o:Bool) (e:Int),k.length=32∧bytes k∧E1 e∧Kw (iY inner) (iY (fh jJ (inner ++ root))) k o e∧ax Tryz.prog 138 [.agg (cb inner),.d (nb root)] (fun r=>r=.tup [.agg (cb k),.d (.bool o),.d (.int .i64 e)]):=by
 obtain ⟨x,y,c,ok,hx,hy,vl,f1⟩:=Ai inner hi hib;obtain ⟨t,ok2,ht,vt,f2⟩:=CO inner root hi hr;obtain ⟨qx,qy,qc,hqx,hqy,vq,f4⟩:=EF [1,0,0,0] t x y gX gY c false (jG ⟨aq,aq⟩) ht hx hy WF WG;obtain ⟨kb,kl,kbb,vk,f5⟩:=vY qx qy qc hqx hqy;obtain ⟨od,vo,f6⟩:=EB qx qy qc hqx hqy;generalize hT:iY (fh jJ (inner ++ root))=T at *;have zb:bytes z32:=fun x hx=>by simp [z32] at hx;omega
 have pl:=bZ hx.1 hy.1 c;have pt:=c6 hx.1 hy.1 c;have pd:(cP zI zI false).drop 9=[]:=nR rfl rfl _;have pl0:(cP zI zI false).length=9:=rfl;have ql:=bZ hqx.1 hqy.1 qc;have qt:=c6 hqx.1 hqy.1 qc;have qb:=Ag hqx.1 hqy.1 qc;have qg:=CH hqx.1 hqy.1 qc;have htl:=ht.1;have hz:List.drop 4 (cI zI)=[]:=aZ rfl;have zd:List.drop 32 (cb z32)=[]:=hJ rfl;have zt:List.take 32 (cb z32)=cb z32:=av rfl
 cases ok
 ·refine ⟨z32,false,1,rfl,zb,.inr rfl,.inl ⟨.inl (fun h=>Ou vl h.1),rfl,rfl,rfl⟩,?_⟩;refine bO Tryz.func138 Tryz.ntmps138 (rs:=[.cell 4 29,.tmp 5,.tmp 6]) (An _ _) ?_;simp [go_sem,am,hi,av hi];refine ag f1 (cB _) ?_;simp [go_sem,pl,pt,pd,pl0,zd,zt,am,ah];exact lU rfl
 ·cases ok2
  ·refine ⟨z32,false,1,rfl,zb,.inr rfl,.inl ⟨.inl (fun h=>absurd (vt.1 h.2).1 (by decide)),rfl,rfl,rfl⟩,?_⟩;refine bO Tryz.func138 Tryz.ntmps138 (rs:=[.cell 4 29,.tmp 5,.tmp 6]) (An _ _) ?_;simp [go_sem,am,hi,av hi];refine ag f1 (cB _) ?_;simp [go_sem,am,hi,av hi,pl,pt,pd,pl0];refine ag f2 (An _ _) ?_;simp [go_sem,htl,ae htl,hz,zd,zt,am,ah];exact lU rfl
  ·obtain ⟨k1,k2,k3,k4⟩:=Ot vl
   have hlt:T<115792089237316195423570985008687907852837564279074904382605163141518161494337:=by
    by_cases h:T<115792089237316195423570985008687907852837564279074904382605163141518161494337
    ·exact h
    ·exact absurd (vt.2 h).1 (by decide)
   obtain ⟨m1,m2⟩:=vq k3 On;have vT:(V t).toNat=T:=by rw [(vt.1 hlt).2];exact Int.toNat_natCast _
   have v1:(V [1,0,0,0]).toNat=1:=by simp [V]
   rw [k4,vT,v1] at m2;have hQ:PV qx qy qc=turnQ (iY inner) T:=m2
   cases qc
   ·have hp:=m1;rcases hp with ⟨hb,_⟩ | ⟨_,hb1,hb2,_⟩
    ·cases hb
    have vR:Kw (iY inner) T kb (!od) 0:=by
     refine .inr ⟨⟨k1,hlt⟩,rfl,FV qx,FV qy,hQ.symm,by rw [vk m1];exact PW hqx hb1,?_⟩;have e:=PW hqy hb2;have hy0:=(ke hqy).1;have ho:=vo m1
     cases od
     ·have:¬ V qy % 2=0:=fun h=>Bool.noConfusion (ho.2 ⟨rfl,h⟩);exact ⟨fun _=>aq,fun _=>rfl⟩
     ·have:=(ho.1 rfl).2;exact ⟨fun h=>Bool.noConfusion h,fun h=>aq⟩
    refine ⟨kb,!od,0,kl,kbb,.inl rfl,vR,?_⟩;refine bO Tryz.func138 Tryz.ntmps138 (rs:=[.cell 4 29,.tmp 5,.tmp 6]) (An _ _) ?_;simp [go_sem,am,hi,av hi];refine ag f1 (cB _) ?_;simp [go_sem,am,hi,av hi,pl,pt,pd,pl0];refine ag f2 (An _ _) ?_;simp [go_sem,htl,ae htl,hz];refine ek [1,2] [0,3,4,5,6] [1,2] (.alt (bt 0 (.alt (bt 3 (.alt (a_ [4,5,6]) (bt 5 (a_ [4,6])))) (bt 5 (bt 3 (a_ [4,6]))))) (bt 5 (bt 0 (bt 3 (a_ [4,6]))))) ⟨[(4,.ptr 32 0 0 1),(10,.ptr 960 0 0 1)],[(960,⟨189,9,[cP qx qy false]⟩),(32,⟨29,32,[cb z32]⟩)],5000⟩ (k:=7) ?h3 ?hq
    case h3 =>
     intro G hG
     have hW:∀ (fr:Fr) (hp:Hp),(fv 4 fr=.ptr 32 0 0 1∧fv 10 fr=.ptr 960 0 0 1∧lk 960 hp=some ⟨189,9,[cP qx qy false]⟩∧lk 32 hp=some ⟨29,32,[cb z32]⟩)→G fr hp:=by
      rintro fr hp ⟨q0,q1,q2,q3⟩;exact hG _ _ rS
     simp [go_sem,htl,ae htl,pl,pt,ql,qt,pd,pl0,hz,dM]
     repeat' first | exact hW _ _ ⟨rfl,rfl,rfl,rfl⟩ | (refine hW _ _ ?_;simp [fv,lk];done) | refine ag (eP 1) a9 ?_ | refine ag yb aw ?_ | refine ag f4 (CN _ _ _ _ _ _ _ _) ?_ | apply And.intro | simp [go_sem,htl,ae htl,pl,pt,ql,qt,pd,pl0,hz,dM]
    case hq =>
     simp [go_sem,qb,qg,ql];refine ek [0,2] [1,3,4,5,6,7] [0,2] (bt 1 (bx 3 (.alt (a_ [4,5,6,7]) (a_ [5,4,6,7])))) ⟨[(4,.ptr 32 0 0 1),(5,.d (.bool (!od))),(6,.d (.int .i64 0))],[(32,⟨29,32,[cb kb]⟩)],9000⟩ (k:=8) ?h3 ?hq
     case h3 =>
      intro G hG
      have hW:∀ (fr:Fr) (hp:Hp),(fv 4 fr=.ptr 32 0 0 1∧fv 5 fr=.d (.bool (!od))∧fv 6 fr=.d (.int .i64 0)∧lk 32 hp=some ⟨29,32,[cb kb]⟩)→G fr hp:=by
       rintro fr hp ⟨q0,q1,q2,q3⟩;exact hG _ _ rS
      simp [go_sem,ql,qt,kl,am,av kl,zd,dM]
      repeat' first | exact hW _ _ ⟨rfl,rfl,rfl,rfl⟩ | (refine hW _ _ ?_;simp [fv,lk];done) | refine ag f5 (dr _ _ _) ?_ | refine ag f6 (dr _ _ _) ?_ | apply And.intro | simp [go_sem,ql,qt,kl,am,av kl,zd,dM]
     case hq =>
      simp [go_sem,am,kl,av kl,ah];exact lU rfl
   ·refine ⟨z32,false,1,rfl,zb,.inr rfl,.inl ⟨.inr hQ.symm,rfl,rfl,rfl⟩,?_⟩;refine bO Tryz.func138 Tryz.ntmps138 (rs:=[.cell 4 29,.tmp 5,.tmp 6]) (An _ _) ?_;simp [go_sem,am,hi,av hi];refine ag f1 (cB _) ?_;simp [go_sem,am,hi,av hi,pl,pt,pd,pl0];refine ag f2 (An _ _) ?_;simp [go_sem,htl,ae htl,hz];refine ek [1,2] [0,3,4,5,6] [1,2] (.alt (bt 0 (.alt (bt 3 (.alt (a_ [4,5,6]) (bt 5 (a_ [4,6])))) (bt 5 (bt 3 (a_ [4,6]))))) (bt 5 (bt 0 (bt 3 (a_ [4,6]))))) ⟨[(4,.ptr 32 0 0 1),(10,.ptr 960 0 0 1)],[(960,⟨189,9,[cP qx qy true]⟩),(32,⟨29,32,[cb z32]⟩)],5000⟩ (k:=7) ?h3 ?hq
    case h3 =>
     intro G hG
     have hW:∀ (fr:Fr) (hp:Hp),(fv 4 fr=.ptr 32 0 0 1∧fv 10 fr=.ptr 960 0 0 1∧lk 960 hp=some ⟨189,9,[cP qx qy true]⟩∧lk 32 hp=some ⟨29,32,[cb z32]⟩)→G fr hp:=by
      rintro fr hp ⟨q0,q1,q2,q3⟩;exact hG _ _ rS
     simp [go_sem,htl,ae htl,pl,pt,ql,qt,pd,pl0,hz,dM]
     repeat' first | exact hW _ _ ⟨rfl,rfl,rfl,rfl⟩ | (refine hW _ _ ?_;simp [fv,lk];done) | refine ag (eP 1) a9 ?_ | refine ag yb aw ?_ | refine ag f4 (CN _ _ _ _ _ _ _ _) ?_ | apply And.intro | simp [go_sem,htl,ae htl,pl,pt,ql,qt,pd,pl0,hz,dM]
    case hq =>
     simp [go_sem,qb,qg,ql,zd,zt,am,ah];exact lU rfl
open Go.Am Go.Sha
def cQ (inner:List Nat) (ps:List (List Nat)) (x:List Nat):AV:=.agg (aT inner (.d (da ps)) (.d (nb x)))
theorem cX (inner:List Nat) (ps:List (List Nat)) (x:List Nat):∀ v,v ∈ [cQ inner ps x]→v.deep:=by
 intro v hv;simp at hv;subst hv;simp [AV.deep,aT,cQ];intro c hc;rcases hc with hc | rfl | rfl
 ·exact cg _ _ hc
 ·trivial
 ·trivial
theorem Ox (k:List Nat) (o:Bool) (e:Int):(AV.tup [.agg (cb k),.d (.bool o),.d (.int .i64 e)]).flat:=by
 intro c hc;simp at hc;rcases hc with rfl | rfl | rfl
 ·refine .inr ⟨_,rfl,fun x hx=>?_⟩;rw [cb,List.mem_map] at hx;obtain ⟨y,_,rfl⟩:=hx
  trivial
 ·exact .inl trivial
 ·exact .inl trivial
theorem Ao {l:List Nat} (h:l.length=32) (r:List AV):List.take 32 (cb l ++ r)=cb l:=by
 rw [List.take_append_of_le_length (by rw [am,h];exact cL _),av h]
theorem rk {inner:List Nat} (hi:inner.length=32) (a b:AV):List.take 34 (cb inner ++ [a,b])=cb inner ++ [a,b]:=cx (by simp [am,hi])
theorem CP (ps:List (List Nat)):∀ h:List Nat,h.length=32→(mJ ps h).length=32:=by
 induction ps with
 | nil=>exact fun h hh=>hh
 | cons p r ih=>exact fun h hh=>ih _ (rH h p)
def Ap (inner:List Nat) (ps:List (List Nat)) (x k:List Nat) (o:Bool) (e:Int):Prop :=
 (¬ (ps.length≤8∧x.length≤1000)∧e=1∧k=z32∧o=false) ∨ ((ps.length≤8∧x.length≤1000)∧Kw (iY inner) (iY (fh jJ (inner ++ mJ ps (jV x)))) k o e)
theorem Gz (inner:List Nat) (ps:List (List Nat)) (x:List Nat) (hi:inner.length=32) (hib:bytes inner) (hp32:∀ p,p ∈ ps→p.length=32) (hps:ps.length≤1000) (hx:x.length≤100000):∃ (k:List Nat) (o:Bool) (e:Int),k.length=32∧bytes k∧E1 e∧ax Tryz.prog 92 [cQ inner ps x] (fun r=>r=.tup [.agg (cb k),.d (.bool o),.d (.int .i64 e)])∧(e=0→ps.length≤8∧x.length≤1000)∧Ap inner ps x k o e:=by
 have hR:=CP ps (jV x) (qK x);have f1:=Nb inner ps x hi hp32 hps hx;unfold Ap;generalize mJ ps (jV x)=R at *;obtain ⟨k,o,e,hk,hkb,he,hT,f2⟩:=Ov inner R hi hib aq;have zb:bytes z32:=fun x hx=>by simp [z32] at hx;omega
 have zd:List.drop 32 (cb z32)=[]:=hJ rfl;have zt:List.take 32 (cb z32)=cb z32:=av rfl;by_cases h1:8<ps.length
 ·refine ⟨z32,false,1,rfl,zb,.inr rfl,?_,fun h=>aq,.inl ⟨aq,rfl,rfl,rfl⟩⟩;refine bO Tryz.func92 Tryz.ntmps92 (rs:=[.cell 2 29,.tmp 3,.tmp 4]) (cX _ _ _) ?_;have i1:(8:Int)<(ps.length:Int):=aq;simp [go_sem,cQ,aT,mL hi,mK hi,da,nb,i1,zd,zt,am,ah];exact lU rfl
 by_cases h2:1000<x.length
 ·refine ⟨z32,false,1,rfl,zb,.inr rfl,?_,fun h=>aq,.inl ⟨aq,rfl,rfl,rfl⟩⟩;refine bO Tryz.func92 Tryz.ntmps92 (rs:=[.cell 2 29,.tmp 3,.tmp 4]) (cX _ _ _) ?_;have i1:¬ (8:Int)<(ps.length:Int):=aq;have i2:(1000:Int)<(x.length:Int):=aq;simp [go_sem,cQ,aT,mL hi,mK hi,da,nb,i1,i2,zd,zt,am,ah];exact lU rfl
 refine ⟨k,o,e,hk,hkb,he,?_,fun _=>aq,.inr ⟨aq,hT⟩⟩;refine bO Tryz.func92 Tryz.ntmps92 (rs:=[.cell 2 29,.tmp 3,.tmp 4]) (cX _ _ _) ?_;have i1:¬ (8:Int)<(ps.length:Int):=aq;have i2:¬ (1000:Int)<(x.length:Int):=aq;simp [go_sem,cQ,aT,mL hi,mK hi,da,nb,i1,i2,hi,rk hi];refine ag (by simpa only [aT,da,nb] using f1) (by simpa only [cQ,aT,da,nb] using cX inner ps x) ?_;simp [go_sem,am,hR,av hR,zd];refine ek [0,1,2] [3,7,8,9] [0,1,2,4,5,6] (.step 3 [4,5,6] true (a_ [7,8,9])) ⟨[(2,.ptr 32 0 0 1),(3,.d (.bool o)),(4,.d (.int .i64 e))],[(32,⟨29,32,[cb k]⟩)],9000⟩ (k:=10) ?h3 ?hq
 case h3 =>
  intro G hG
  have hW:∀ (fr:Fr) (hp:Hp),(fv 2 fr=.ptr 32 0 0 1∧fv 3 fr=.d (.bool o)∧fv 4 fr=.d (.int .i64 e)∧lk 32 hp=some ⟨29,32,[cb k]⟩)→G fr hp:=by
   rintro fr hp ⟨q0,q1,q2,q3⟩;exact hG _ _ rS
  simp [go_sem,aT,mL hi,mK hi,am,hi,hR,hk,av hi,av hR,av hk,zd,Ao hi,dM]
  repeat' first | exact hW _ _ ⟨rfl,rfl,rfl,rfl⟩ | (refine hW _ _ ?_;simp [fv,lk];done) | refine iV f2 rfl (aj (.deep (dE _)) (aj (.one (ak (ed rfl trivial hR))) aD)) (Ox _ _ _) ?_ | apply And.intro | simp [go_sem,aT,mL hi,mK hi,am,hi,hR,hk,av hi,av hR,av hk,zd,Ao hi,dM]
 case hq =>
  simp [go_sem,am,hk,av hk,ah];exact lU rfl
end Go.Proofs.YtmfnimjnneflnaaGreat
namespace Go.Sha
open Go.Proofs.YtmfnimjnneflnaaGreat
structure RnF where
 t:Tn
 n:Nat
 coins:List (Nat × List Nat)
 inner:List Nat
 path:List (List Nat)
 script:List Nat
 annex:List Nat
end Go.Sha
namespace Go.Proofs.YtmfnimjnneflnaaGreat
open Go.Am Go.Sha
def gB (F:RnF):List AV:=eS F.t (F.n:Int) F.coins ++ (aT F.inner (.d (da F.path)) (.d (nb F.script)) ++ [.d (nb F.annex)])
theorem S7 {C:List AV} (h:∀ v,v ∈ C→∃ d,v=.d d) (hl:C.length=41):iD C :=
 ⟨fun v hv ρ=>by obtain ⟨d,rfl⟩:=h v hv;rfl,fun v hv n=>by obtain ⟨d,rfl⟩:=h v hv;trivial,hl⟩
theorem ej {F:RnF} (hi:F.inner.length=32):iD (gB F):=by
 refine S7 (fun v hv=>?_) (by simp [gB,eS,aT,am,hi]);simp only [gB,eS,aT,cD,d_,List.mem_nil_iff,or_false] at hv;rcases hv with (rfl | rfl | rfl | rfl | rfl | rfl) | (h | rfl | rfl) | rfl
 all_goals first | exact ⟨_,rfl⟩ | skip
 obtain ⟨x,_,rfl⟩:=List.mem_map.1 h;exact ⟨_,rfl⟩
theorem PX (F:RnF) (hi:F.inner.length=32) (i:Ip) (hn:F.t.ins[F.n]?=some i) (hio:i.ok) (r:Rn) (J:List Bool) (H:Nat):cO Tryz.prog 3 (aH (gB F)) 230 ⟨r,J,H⟩ [.ptr 0 0 0 1] (fun v s'=>v=.d (.int .i64 (i.seq:Int))∧s'=⟨r,J,H⟩):=by
 refine al Tryz.func230 (by kernel_rfl) rfl Tryz.ntmps230 (rs:=[.tmp 2]) rfl (dT rfl) (by decide) ?_;rw [bE];have h0:F.n<F.t.ins.length:=(ci.1 hn).1;have h0i:(F.n:Int)<(F.t.ins.length:Int):=aq;have hg:F.t.ins[F.n]=i:=Option.some.inj ((cm h0).symm.trans hn);have w1:IntKind.i64.wrap (i.seq:Int)=(i.seq:Int):=IntWalk.i64_in _ (by have:=hio.2.2;omega);simp [go_sem];refine cf [0,1,2,3,4,5,6,7,8,9,10,11,12,13,14,15] [] 0 (k:=16) ?_;intro G hG;simp only [aH,bG,bF,id,gB,eS]
 have h33:∀ a b c:DV,(List.map AV.d (cd i.hash) ++ [AV.d a,AV.d b,AV.d c])[33]?=some (AV.d b):=fun a b c=>by
  rw [dn (by simp [gZ,hio.1])];simp [gZ,hio.1]
 simp [go_sem,hn,h0,h0i,eI,hg,h33,w1];refine hG _ _ ?_;clear hG G;simp [go_sem,ah];exact aC (by simp [lk,aH,bG,bF,gB,eS]) rfl rfl
theorem EG {C:List AV} (hC:iD C) (r:Rn) (J:List Bool) (hk:StOk r.main r.alt) (l:List (Int × Int)) (e:Int) (hc:r.cl.length≤100000) (hl2:l.length≤100000):cO Tryz.prog 3 (aH C) 233 ⟨r,J,0⟩ [.ptr 0 0 0 1,.d (.ro 2 (l.map fl)),.d (.int .i64 e)] (fun v s'=>s'=⟨zP l e r,J,0⟩):=by
 refine al Tryz.func233 (by kernel_rfl) rfl Tryz.ntmps233 (rs:=[]) rfl (dT rfl) (by decide) ?_;have hl:=hC.2.2;simp [go_sem];refine dO (Pp:=[]) hC (eE hC r J 0) aq aw (by simp [AV.renL,AV.ren]) ?_;rintro v s' ρ ⟨rfl,rfl⟩ hρ;by_cases h:r.e=0
 ·have hv:zP l e r=dA (iN true) { ay e r with cl:=r.cl ++ l }:=if_pos h;rw [hv];simp [go_sem,AV.ren,h];refine dO (Pp:=[]) (s:=⟨r,J,0⟩) hC (bA hC r J 0 e) aq aw (by simp [AV.renL,AV.ren]) ?_;rintro v s' ρ rfl hρ;have hkf:StOk (ay e r).main (ay e r).alt:=fZ hk;have hcf:(ay e r).cl=r.cl:=by unfold ay;split <;> rfl
  rw [← hcf];rw [← hcf] at hc;generalize ay e r=r2 at *;obtain ⟨main,alt,br,bud,cl,e2⟩:=r2;simp only at hc hkf;rw [bE];simp only [aH,bG,bF,id];have hT:List.take cl.length (G6 cl 0)=cl.map Uc:=by simp [G6,cx]
  have hln:(G6 cl 0).length=cl.length:=by simp [G6]
  have hm:List.map ((fun r=>List.map AV.d r) ∘ fl) l=l.map Uc:=rfl;have hpt:=oP hC ⟨main,alt,br,bud,cl ++ l,e2⟩ J 0 hkf (iN true) (by simp [iN]);have hidl:gJ ⟨main,alt,br,bud,cl,e2⟩=gJ ⟨main,alt,br,bud,cl ++ l,e2⟩:=rfl;rw [hidl];simp [go_sem,hl,d6,Dn,hT,hln,hm];refine ⟨aq,fun h0=>?_,fun h0=>?_⟩
  ·obtain rfl:l=[]:=List.length_eq_zero_iff.1 aq;simp only [List.append_nil] at hpt ⊢;refine ag (lK true) a9 ?_;simp [go_sem];refine aQ (Pp:=[]) (s:=⟨⟨main,alt,br,bud,cl,e2⟩,J,0⟩) hC hpt (by simp [bE,aH,bG,bF,G6]) aq aw (by simp [AV.renL,AV.ren]) ?_;rintro v s' ρ rfl hρ;rw [bE];generalize dA (iN true) _=r';simp only [aH,bG,bF,id];simp [go_sem,ah];exact aC rfl rfl rfl
  ·refine ag (lK true) a9 ?_;simp [go_sem];refine aQ (Pp:=[]) (s:=⟨⟨main,alt,br,bud,cl ++ l,e2⟩,J,0⟩) hC hpt (by simp [bE,aH,bG,bF,G6]) aq aw (by simp [AV.renL,AV.ren]) ?_;rintro v s' ρ rfl hρ;rw [bE];generalize dA (iN true) _=r';simp only [aH,bG,bF,id];simp [go_sem,ah];exact aC rfl rfl rfl
 ·have hv:zP l e r=r:=if_neg h;rw [hv];simp [go_sem,AV.ren,h,ah];rw [bE];exact aC rfl rfl rfl
theorem yf {r:Rn} (h:StOk r.main r.alt):StOk (kZ r).2.main (kZ r).2.alt∧(kZ r).1.length≤1000∧bytes (kZ r).1:=by
 unfold kZ
 split
 ·exact ⟨fZ h,aw,fun x hx=>by simp at hx⟩
 ·rename_i h2;rcases r.main.eq_nil_or_concat with e | ⟨l,x,hm⟩
  ·exact absurd (by rw [e];rfl) h2
  ·rw [List.concat_eq_append] at hm;have h':=h;rw [hm] at h' ⊢;simp only [List.getLastD_concat];exact ⟨h',(Jq h').2⟩
theorem Kx {C:List AV} (hC:iD C) (r:Rn) (J:List Bool) (H:Nat) (hk:StOk r.main r.alt):cO Tryz.prog 3 (aH C) 229 ⟨r,J,H⟩ [.ptr 0 0 0 1] (fun v s'=>v=.d (.int .i64 (jh r).1)∧s'=⟨(jh r).2,J,H⟩):=by
 refine al Tryz.func229 (by kernel_rfl) rfl Tryz.ntmps229 (rs:=[.tmp 2]) rfl (dT rfl) (by decide) ?_;have hl:=hC.2.2;simp [go_sem];refine dO (Pp:=[]) hC (Jr hC r J H hk) aq aw (by simp [AV.renL,AV.ren]) ?_;rintro v s' ρ ⟨rfl,rfl⟩ hρ;obtain ⟨hk2,hb1,hb2⟩:=yf hk;unfold jh;generalize kZ r=p at *;obtain ⟨b,r2⟩:=p;simp only at hk2 hb1 hb2 ⊢;simp [go_sem,AV.ren];refine dO (Pp:=[]) hC (eE hC r2 J H) aq aw (by simp [AV.renL,AV.ren]) ?_;rintro v s' ρ' ⟨rfl,rfl⟩ hρ';by_cases h:r2.e=0
 ·have hd:=BO 5 b hb2 aq aq;simp [go_sem,AV.ren,h];refine ag hd a9 ?_
  cases hq:fq 5 b with
  | none =>
   simp [go_sem];refine dO (Pp:=[]) (s:=⟨r2,J,H⟩) hC (bA hC r2 J H 15) aq aw (by simp [AV.renL,AV.ren]) ?_;rintro v s' ρ rfl hρ;rw [bE];generalize ay 15 r2=r';simp only [aH,bG,bF,id];simp [go_sem,ah];exact aC rfl rfl rfl
  | some n =>
   have hf:=bA hC r2 J H 0;rw [oO] at hf;simp [go_sem];refine dO (Pp:=[]) (s:=⟨r2,J,H⟩) hC hf aq aw (by simp [AV.renL,AV.ren]) ?_;rintro v s' ρ rfl hρ;by_cases hn:n<0
   ·simp [go_sem,hn];refine dO (Pp:=[]) (s:=⟨r2,J,H⟩) hC (bA hC r2 J H 22) aq aw (by simp [AV.renL,AV.ren]) ?_;rintro v s' ρ rfl hρ;rw [bE];generalize ay 22 r2=r';simp only [aH,bG,bF,id];simp [go_sem,ah];exact aC rfl rfl rfl
   ·rw [bE];simp only [aH,bG,bF,id];simp [go_sem,hn,ah];exact aC rfl rfl rfl
 ·simp [go_sem,AV.ren,h,ah];rw [bE];exact aC rfl rfl rfl
theorem WO (a b:Bool) (K:AV→Hp→Prop) (hp:Hp):cJ Tryz.prog .neq 4 (.d (.bool a)) (.d (.bool b)) K hp=K (.d (.bool (a != b))) hp:=by
 show (_∧_)=_;rw [PG];simp
theorem S9 {C:List AV} (hC:iD C) {s:RnS} {N:Nat} (hN:3≤N):∀ p,p ∈ ie 3 (aH C) s id→p.1<N∧∀ r,r ∈ p.2.es→∀ v,v ∈ r→v.low1 N:=by
 intro p hp;rw [bE] at hp;simp only [d_,List.mem_nil_iff,or_false] at hp;rcases hp with rfl | rfl | rfl
 ·refine ⟨by show 0<N;omega,fun r hr v hv=>?_⟩;simp only [aH,d_,List.mem_nil_iff,or_false] at hr;subst hr;rcases cD.1 hv with h | h
  ·exact hC.2.1 v h N
  ·simp only [bF,d_,List.mem_nil_iff,or_false] at h;rcases h with rfl | rfl | rfl | rfl | rfl | rfl | rfl
   all_goals first | trivial | (show 1<N;omega) | (show 2<N;omega)
 ·refine ⟨by show 1<N;omega,fun r hr v hv=>?_⟩;obtain ⟨b,_,rfl⟩:=List.mem_map.1 hr;simp only [d_,List.mem_nil_iff,or_false] at hv;subst hv;trivial
 ·refine ⟨by show 2<N;omega,fun r hr v hv=>?_⟩;rcases cD.1 hr with h | h
  ·obtain ⟨x,_,rfl⟩:=List.mem_map.1 h;simp only [Uc,d_,List.mem_nil_iff,or_false] at hv;rcases hv with rfl | rfl <;> trivial
  ·rw [List.eq_of_mem_replicate h] at hv;simp only [d_,List.mem_nil_iff,or_false] at hv;rcases hv with rfl | rfl <;> trivial
theorem WP {C:List AV} (hC:iD C) {s:RnS} {hp:Hp} {nx N:Nat} (hN:3≤N) (h:∀ p,p ∈ ie 3 (aH C) s id→lk p.1 hp=some p.2) :
  ∀ p,p ∈ ie 3 (aH C) s id→(lk p.1 hp=some p.2 ∨ (nx≤p.1∧p.2.es=[]))∧p.1<N∧∀ r,r ∈ p.2.es→∀ v,v ∈ r→v.low1 N :=
 fun p hp'=>⟨.inl (h p hp'),S9 hC hN p hp'⟩
theorem qd {C:List AV} {s:RnS} {hp:Hp} (h0:lk 0 hp=some (aH C s id 0)) (h1:lk 1 hp=some (aH C s id 1)) (h2:lk 2 hp=some (aH C s id 2)):∀ p,p ∈ ie 3 (aH C) s id→lk p.1 hp=some p.2:=by
 intro p hp';rw [bE] at hp';simp only [d_,List.mem_nil_iff,or_false] at hp';rcases hp' with rfl | rfl | rfl
 ·exact h0
 ·exact h1
 ·exact h2
theorem Ky (F:RnF) (x:Rx) (hi:F.inner.length=32) (i:Ip) (hn:F.t.ins[F.n]?=some i) (hio:i.ok) (hlk:F.t.lock<4294967296) (hxl:x.lock=(F.t.lock:Int)) (hxs:x.seq=(i.seq:Int)) (r:Rn) (J:List Bool) (H:Nat) (hk:StOk r.main r.alt) :
    cO Tryz.prog 3 (aH (gB F)) 199 ⟨r,J,H⟩ [.ptr 0 0 0 1] (fun v s'=>s'=⟨pQ x r,J,H⟩):=by
  refine al Tryz.func199 (by kernel_rfl) rfl Tryz.ntmps199 (rs:=[]) rfl (dT rfl) (by decide) ?_;have hC:=ej (F:=F) hi;have hlo:=Kx hC r J H hk;have hsq:=PX F hi i hn hio;have w1:IntKind.i64.wrap (F.t.lock:Int)=(F.t.lock:Int):=IntWalk.i64_in _ aq;unfold pQ;generalize jh r=p at *;obtain ⟨n,r2⟩:=p;simp only at hlo ⊢;refine ek [0,2] [1,3,4,5,6,7,8] [0,2,9,10] (.alt (.step 1 [9] false (bx 3 (bx 4 (bx 5 (bx 6 (bx 7 (.step 8 [10] false .done))))))) (bx 3 (.alt (.step 1 [9] false (bx 4 (bx 5 (bx 6 (bx 7 (.step 8 [10] false .done)))))) (bx 4 (.alt (.step 1 [9] false (bx 5 (bx 6 (bx 7 (.step 8 [10] false .done))))) (bx 5 (.alt (.step 1 [9] false (bx 6 (bx 7 (.step 8 [10] false .done)))) (bx 6 (.alt (.step 1 [9] false (bx 7 (.step 8 [10] false .done))) (bx 7 (.alt (.step 1 [9] false (.step 8 [10] false .done)) (bx 8 (.step 1 [9,10] false .done))))))))))))) ⟨[(0,.ptr 0 0 0 1),(2,.d (.int .i64 n)),(3,.d (.int .i64 (F.t.lock:Int)))],ie 3 (aH (gB F)) ⟨r2,J,H⟩ id,9000⟩ (k:=11) ?h3 ?hq
  case h3 =>
    intro G hG;rw [bE];simp only [aH,bG,bF,id,gB,eS];simp (config := { maxSteps := 3000000 }) [go_sem,w1]
    repeat' first
      | apply And.intro
      | (refine aQ (Pp:=[]) (s:=⟨r,J,H⟩) hC hlo (by simp [bE,aH,bG,bF,gB,eS]) aq aw (by simp [AV.renL,AV.ren]) ?_
         rintro v s' ρ ⟨rfl,rfl⟩ hρ;rw [bE];simp only [aH,bG,bF,id,gB,eS]
         simp (config := { maxSteps := 3000000 }) [go_sem,AV.ren,w1])
      | (refine hG _ _ (cz ⟨by simp [ai,fv,lk,AV.low,AV.low1],WP hC (dT rfl) (qd ?_ ?_ ?_),aw⟩) <;> simp [lk,aH,bG,bF,gB,eS])
  case hq =>
    rw [hxl,hxs];by_cases c1:n<500000000 <;> by_cases c2:(F.t.lock:Int)<500000000 <;> by_cases c3:(F.t.lock:Int)<n <;> by_cases c4:(i.seq:Int)=4294967295
    all_goals
      have c2':F.t.lock<500000000 ↔ (F.t.lock:Int)<500000000:=aq;have c4':i.seq=4294967295 ↔ (i.seq:Int)=4294967295:=aq;simp [go_sem,Ba,WO,c1,c2,c3,c4,c2',c4']
    all_goals first
      | (exfalso;omega)
      | (have hz:(n<500000000 ↔ (F.t.lock:Int)<500000000)∧¬ (F.t.lock:Int)<n:=aq
         refine aQ (Pp:=[]) hC (hsq r2 J H) (List.nil_append _).symm (dT rfl) aw (by simp [AV.renL,AV.ren]) ?_;rintro v s' ρ ⟨rfl,rfl⟩ hρ
         simp [go_sem,AV.ren,c4,(show i.seq=4294967295 ↔ (i.seq:Int)=4294967295 by omega)])
      | skip
    all_goals first
      | (have hz:(n<500000000 ↔ (F.t.lock:Int)<500000000)∧¬ (F.t.lock:Int)<n∧¬ (i.seq:Int)=4294967295:=aq
         exact aC rfl rfl rfl)
      | (refine aQ (Pp:=[]) hC (bA hC r2 J H 22) (by first | rfl | exact (List.nil_append _).symm) (dT rfl) aw (by simp [AV.renL,AV.ren]) ?_
         rintro v s' ρ rfl hρ;rw [bE];generalize ay 22 r2=r';simp only [aH,bG,bF,id];simp [go_sem,ah]
         exact aC rfl rfl rfl)
theorem rP (n:Int) (h1:-9223372036854775808≤n) (h2:n<9223372036854775808):(BitVec.ofInt 64 n).toNat=(n % 18446744073709551616).toNat:=by
 rw [BitVec.toNat_ofInt];rfl
theorem EH (n:Int) (m:Nat) (h1:-9223372036854775808≤n) (h2:n<9223372036854775808) (hm:m<4294967296):Go.bits .and .i64 n (m:Int)=(((n % 18446744073709551616).toNat &&& m:Nat):Int):=by
 show IntKind.i64.wrap (((BitVec.ofInt 64 n) &&& (BitVec.ofInt 64 (m:Int))).toNat:Int)=_;rw [BitVec.toNat_and,rP n h1 h2,rP (m:Int) aq aq];have e:((m:Int) % 18446744073709551616).toNat=m:=aq;rw [e];have:(n % 18446744073709551616).toNat &&& m≤m:=Nat.and_le_right;exact IntWalk.i64_in _ aq
theorem yg (x k:Nat):x &&& 2 ^ k=if x.testBit k then 2 ^ k else 0:=by
 apply Nat.eq_of_testBit_eq;intro i;rw [Nat.testBit_and,Nat.testBit_two_pow];by_cases h:k=i
 ·subst h
  cases hb:x.testBit k <;> simp [Nat.testBit_two_pow_self]
 ·cases hb:x.testBit k <;> simp [h,Nat.testBit_two_pow]
theorem EI (n:Int) (k:Nat) (h1:-9223372036854775808≤n) (h2:n<9223372036854775808) (hk:k<32) (hb:((n % 18446744073709551616).toNat / 2 ^ k % 2=1)=(iP k n=true)):Go.bits .and .i64 n ((2 ^ k:Nat):Int)=if iP k n then ((2 ^ k:Nat):Int) else 0:=by
 have hp:2 ^ k<2 ^ 32:=Nat.pow_lt_pow_right aq hk;rw [EH n (2 ^ k) h1 h2 aq,yg,Nat.testBit_eq_decide_div_mod_eq];by_cases h:iP k n=true
 ·rw [if_pos h];rw [h,eq_true rfl] at hb;simp [hb]
 ·rw [if_neg h];have:¬ ((n % 18446744073709551616).toNat / 2 ^ k % 2=1):=by rw [hb];exact h
  simp [this]
theorem Kz (n:Int) (h1:-9223372036854775808≤n) (h2:n<9223372036854775808):Go.bits .and .i64 n 2147483648=if iP 31 n then 2147483648 else 0:=by
 refine EI n 31 h1 h2 aq ?_;unfold iP;rw [Int.fdiv_eq_ediv_of_nonneg _ aq];simp only [decide_eq_true_eq];exact propext aq
theorem KA (n:Int) (h1:-9223372036854775808≤n) (h2:n<9223372036854775808):Go.bits .and .i64 n 4194304=if iP 22 n then 4194304 else 0:=by
 refine EI n 22 h1 h2 aq ?_;unfold iP;rw [Int.fdiv_eq_ediv_of_nonneg _ aq];simp only [decide_eq_true_eq];exact propext aq
theorem CQ (n:Int) (h1:-9223372036854775808≤n) (h2:n<9223372036854775808):Go.bits .and .i64 n 65535=n % 65536:=by
 rw [show (65535:Int)=((2 ^ 16 - 1:Nat):Int) from rfl,EH n _ h1 h2 aq,Nat.and_two_pow_sub_one_eq_mod];omega
theorem KB {b:be} {n:Int} (hb:bytes b) (h:fq 5 b=some n):-9223372036854775808≤n∧n<9223372036854775808:=by
 unfold fq at h
 split at h
 ·rename_i h1;obtain rfl:=Option.some.inj h;have hl:b.length≤5:=aq;rcases dZ b with rfl | ⟨a,x,rfl⟩
  ·decide
  ·have hx:x<256:=hb x aw;have ha:=qP (b:=a) (fun y hy=>hb y (List.mem_append_left _ hy));simp at hl;rw [gw];have hc:a.length=0 ∨ a.length=1 ∨ a.length=2 ∨ a.length=3 ∨ a.length=4:=aq;rcases hc with e | e | e | e | e <;> rw [e] at ha ⊢ <;> simp at ha ⊢ <;> split <;> omega
 ·cases h
theorem GA {r:Rn} (h:StOk r.main r.alt):-9223372036854775808≤(jh r).1∧(jh r).1<9223372036854775808:=by
 unfold jh;obtain ⟨_,_,hb⟩:=yf h;generalize kZ r=p at *;simp only
 split
 ·cases hd:fq 5 p.1 with
  | none=>simp only;omega
  | some n=>exact KB hb hd
 ·simp only;omega
theorem Oy (F:RnF) (x:Rx) (hi:F.inner.length=32) (i:Ip) (hn:F.t.ins[F.n]?=some i) (hio:i.ok) (hvr:F.t.ver<4294967296) (hxv:x.ver=(F.t.ver:Int)) (hxs:x.seq=(i.seq:Int)) (r:Rn) (J:List Bool) (H:Nat) (hk:StOk r.main r.alt) :
    cO Tryz.prog 3 (aH (gB F)) 200 ⟨r,J,H⟩ [.ptr 0 0 0 1] (fun v s'=>s'=⟨xM x r,J,H⟩):=by
  refine al Tryz.func200 (by kernel_rfl) rfl Tryz.ntmps200 (rs:=[]) rfl (dT rfl) (by decide) ?_;have hC:=ej (F:=F) hi;have hlo:=Kx hC r J H hk;have hsq:=PX F hi i hn hio;have hrg:=GA hk;have hsb:=hio.2.2;unfold xM;rw [hxv,hxs];generalize jh r=p at *;obtain ⟨n,r2⟩:=p;simp only at hlo hrg ⊢;have a1:=Kz n hrg.1 hrg.2;have a2:=Kz (i.seq:Int) aq aq;have a3:=KA n hrg.1 hrg.2;have a4:=KA (i.seq:Int) aq aq;have a5:=CQ n hrg.1 hrg.2;have a6:=CQ (i.seq:Int) aq aq;generalize iP 31 n=b1 at *;generalize iP 31 (i.seq:Int)=b2 at *;generalize iP 22 n=b3 at *;generalize iP 22 (i.seq:Int)=b4 at *;generalize n % 65536=m1 at *;generalize (i.seq:Int) % 65536=m2 at *;simp [go_sem];refine dO (Pp:=[]) hC hlo aq aw (by simp [AV.renL,AV.ren]) ?_;rintro v s' ρ ⟨rfl,rfl⟩ hρ;simp [go_sem,AV.ren];refine dO (Pp:=[]) hC (hsq r2 J H) aq aw (by simp [AV.renL,AV.ren]) ?_;rintro v s' ρ ⟨rfl,rfl⟩ hρ;rw [bE];simp only [aH,bG,bF,id,gB,eS]
  cases b1
  case true =>
    simp [go_sem,AV.ren,a1];exact aC (by simp [lk,aH,bG,bF,gB,eS]) rfl rfl
  case false =>
    have hfl:=bA hC r2 J H 22;by_cases c0:F.t.ver<2
    · have c0i:(F.t.ver:Int)<2:=aq
      simp [go_sem,AV.ren,a1,a2,a3,a4,a5,a6,c0,c0i];refine aQ (Pp:=[]) (s:=⟨r2,J,H⟩) hC hfl (by simp [bE,aH,bG,bF,gB,eS]) aq aw (by simp [AV.renL,AV.ren]) ?_;rintro v s' ρ rfl hρ;rw [bE];generalize ay 22 r2=r';simp only [aH,bG,bF,id];simp [go_sem,ah];exact aC rfl rfl rfl
    · have c0i:¬ (F.t.ver:Int)<2:=aq
      cases b2 <;> cases b3 <;> cases b4 <;> by_cases c5:m2<m1
      all_goals simp [go_sem,AV.ren,a1,a2,a3,a4,a5,a6,c0,c0i,c5]
      all_goals first
        | exact aC (by simp [lk,aH,bG,bF,gB,eS]) rfl rfl
        | (refine aQ (Pp:=[]) (s:=⟨r2,J,H⟩) hC hfl (by simp [bE,aH,bG,bF,gB,eS]) aq aw (by simp [AV.renL,AV.ren]) ?_
           rintro v s' ρ rfl hρ;rw [bE];generalize ay 22 r2=r';simp only [aH,bG,bF,id];simp [go_sem,ah]
           exact aC rfl rfl rfl)
end Go.Proofs.YtmfnimjnneflnaaGreat
