/-
 Part 12 of what the claim rests on.
-/
import Derived.Test.YtmfnimjnneflnaaGreatR9
import Derived.Test.YtmfnimjnneflnaaGreatR10
set_option linter.unusedVariables false
set_option linter.unusedSimpArgs false
set_option maxRecDepth 100000
set_option maxHeartbeats 16000000
namespace Go.Proofs.YtmfnimjnneflnaaGreat
open Go.Am Go.Sha Go.Ec
theorem Ah (x:Int):∀ v,v ∈ [AV.d (.int .u64 x)]→v.deep:=by
 intro v hv;simp at hv;subst hv;trivial
theorem Qg {a:List Int} (ha:Wn 4 a):(a.map Int.toNat).length=4∧cI a=cW (a.map Int.toNat):=by
 refine ⟨by simp [ha.1],?_⟩;unfold cI cW;rw [List.map_map];refine List.map_congr_left fun x hx=>?_;have:=(ha.2 x hx).1;simp only [Function.comp_apply];rw [Int.toNat_of_nonneg this]
theorem Y0 {a b:List Int} (ha:Wn 4 a) (hb:Wn 4 b):zF (a.map Int.toNat) (b.map Int.toNat) 4<0 ↔ V a<V b:=by
 obtain ⟨a0,a1,a2,a3,rfl,h0,h1,h2,h3⟩:=je ha;obtain ⟨b0,b1,b2,b3,rfl,k0,k1,k2,k3⟩:=je hb;unfold dr at *;rw [V4,V4];have g0:∀ w x y z:Nat,[w,x,y,z].getD 0 0=w:=fun _ _ _ _=>rfl;have g1:∀ w x y z:Nat,[w,x,y,z].getD 1 0=x:=fun _ _ _ _=>rfl;have g2:∀ w x y z:Nat,[w,x,y,z].getD 2 0=y:=fun _ _ _ _=>rfl;have g3:∀ w x y z:Nat,[w,x,y,z].getD 3 0=z:=fun _ _ _ _=>rfl;simp only [List.map_cons,List.map_nil,zF,g0,g1,g2,g3]
 repeat' split
 all_goals omega
theorem EB (a b:List Int) (ha:Wn 4 a) (hb:Wn 4 b):∃ c:Int,(c<0 ↔ V a<V b)∧av Tryz.prog 206 [.agg (cI a),.agg (cI b)] (fun r=>r=.d (.int .i64 c)):=by
 obtain ⟨hl,e1⟩:=Qg ha;obtain ⟨hm,e2⟩:=Qg hb;rw [e1,e2];exact ⟨_,Y0 ha hb,RS _ _ hl hm⟩
theorem mU (a:List Int) (ha:Wn 4 a):∃ r,Wn 4 r∧(V r<pZ∧FV r=FV a*FV a)∧W1 208 a r:=by
 obtain ⟨r,hr,vr,f1⟩:=fU a a ha ha;unfold W2 at f1;have hal:=ha.1;have hrl:=hr.1;have hz:List.drop 4 (cI zI)=[]:=aW rfl;refine ⟨r,hr,vr,?_⟩;unfold W1;refine bK Tryz.func208 Tryz.ntmps208 (rs:=[.cell 2 96]) (aO a) ?_;simp [go_sem,hal,ae hal];refine ag f1 (aJ _ _) ?_;simp [go_sem,hrl,ae hrl,hz,ah];exact dE rfl
theorem Ai (a:List Int) (ha:Wn 4 a):∃ r,Wn 4 r∧(V r<pZ∧FV r=FV a*FV a*FV a+7)∧W1 190 a r:=by
 obtain ⟨s,hs,vs,f1⟩:=mU a ha;obtain ⟨m,hm,vm,f2⟩:=fU s a hs ha;obtain ⟨r,hr,vr,f3⟩:=WE m [7,0,0,0] hm (jD ⟨aq,aq⟩);have v7:FV [7,0,0,0]=7:=CM 7 aq;rw [v7,vm.2,vs.2] at vr;unfold W1 at f1;unfold W2 at f2 f3;have hal:=ha.1;have hrl:=hr.1;have hz:List.drop 4 (cI zI)=[]:=aW rfl;refine ⟨r,hr,vr,?_⟩;unfold W1;refine bK Tryz.func190 Tryz.ntmps190 (rs:=[.cell 2 96]) (aO a) ?_;simp [go_sem,hal,ae hal];refine ed [0,2] [1,3,4,5,6] [0,2] (bt 1 (a_ [3,4,5,6])) ⟨[(2,.ptr 32 0 0 1)],[(32,⟨96,4,[cI r]⟩)],9000⟩ (k:=7) ?h3 ?hq
 case h3 =>
  intro G hG
  have hW:∀ (fr:Fr) (hp:Hp),(fv 2 fr=.ptr 32 0 0 1∧lk 32 hp=some ⟨96,4,[cI r]⟩)→G fr hp:=by
   rintro fr hp ⟨q0,q1⟩;refine hG _ _ (cj ?_);simp only [ay,ai];refine ⟨fun p hp=>?_,fun p hp=>?_,aw⟩
   ·simp only [et,List.mem_nil_iff,or_false] at hp;subst hp;exact ⟨.inl q0.symm,by simp [AV.low,AV.low1]⟩
   ·simp only [et,List.mem_nil_iff,or_false] at hp;subst hp;exact ⟨.inl q1,aw,by intro r hr;simp only [et,List.mem_nil_iff,or_false] at hr;subst hr;exact bR _ _⟩
  simp [go_sem,hal,ae hal,hrl,ae hrl,hz,dK]
  repeat' first | exact hW _ _ ⟨rfl,rfl⟩ | (refine hW _ _ ?_;simp [fv,lk];done) | refine ag f1 (aO _) ?_ | refine ag f2 (aJ _ _) ?_ | refine ag f3 (aJ _ _) ?_ | refine ag (eD 7) (Ah _) ?_ | apply And.intro | simp [go_sem,hal,ae hal,hrl,ae hrl,hz,dK]
 case hq =>
  simp [go_sem,hrl,ae hrl,ah];exact dE rfl
theorem um (a:List Int) (ha:Wn 4 a):∃ b:Bool,(b=true ↔ V a<pZ)∧av Tryz.prog 188 [.agg (cI a)] (fun r=>r=.d (.bool b)):=by
 obtain ⟨c,vc,f1⟩:=EB a xX ha Aa;have vp:V xX=pZ:=by simp [V,xX]
 rw [vp] at vc;have hal:=ha.1;refine ⟨decide (c<0),by rw [decide_eq_true_iff];exact vc,?_⟩;refine bK Tryz.func188 Tryz.ntmps188 (rs:=[.tmp 2]) (aO a) ?_;simp [go_sem,hal,ae hal];refine b7 [0] [(1,[]),(2,[3,4])] 2 (k:=5) ?_;intro G hG;simp [go_sem,hal,ae hal];refine ag jJ aw ?_;simp [go_sem];refine ag f1 (aJ _ _) ?_;simp [go_sem,dK];refine hG _ _ ?_;simp [go_sem,ah];exact aa a9 rfl
def cP (x y:List Int) (b:Bool):List AV:=cI x ++ (cI y ++ [.d (.bool b)])
theorem bU {x y:List Int} (hx:x.length=4) (hy:y.length=4) (b:Bool):(cP x y b).length=9:=by simp [cP,ew,hx,hy]
theorem cY {x y:List Int} (hx:x.length=4) (hy:y.length=4) (b:Bool):(cP x y b).take 9=cP x y b:=cA (by rw [bU hx hy];omega)
theorem nM {x y:List Int} (hx:x.length=4) (hy:y.length=4) (b:Bool):(cP x y b).drop 9=[]:=dg (by rw [bU hx hy];omega)
theorem Tj {x y:List Int} (hx:x.length=4) (b:Bool):(cP x y b).take 4=cI x:=by
 unfold cP;rw [List.take_append_of_le_length (by rw [ew];omega),ae hx]
theorem WG {x y:List Int} (hx:x.length=4) (hy:y.length=4) (b:Bool):((cP x y b).drop 4).take 4=cI y:=by
 unfold cP;rw [List.drop_append_of_le_length (by rw [ew];omega),aW hx,List.nil_append,List.take_append_of_le_length (by rw [ew];omega),ae hy]
theorem Aj {x y:List Int} (hx:x.length=4) (hy:y.length=4) (b:Bool):(cP x y b)[8]?=some (.d (.bool b)):=by
 unfold cP;rw [dz (by rw [ew];omega),dz (by simp only [ew];omega)];simp [ew,hx,hy]
theorem CN {x y:List Int} (hx:x.length=4) (hy:y.length=4) (b:Bool) (h:8<(cP x y b).length):(cP x y b)[8]=.d (.bool b):=(ci.1 (Aj hx hy b)).2
theorem jE (x y:List Int) (b:Bool):(AV.agg (cP x y b)).deep:=by
 intro v hv;unfold cP at hv;rcases cL.1 hv with hv | hv
 ·exact iT _ v hv
 ·rcases cL.1 hv with hv | hv
  ·exact iT _ v hv
  ·simp at hv;subst hv;trivial
theorem dx (x y:List Int) (b:Bool):∀ v,v ∈ [AV.agg (cP x y b)]→v.deep:=by
 intro v hv;simp at hv;subst hv;exact jE _ _ _
theorem lM (n:Nat) (x y:List Int) (b:Bool):∀ v,v ∈ cP x y b→v.low1 n:=by
 intro v hv;unfold cP at hv;rcases cL.1 hv with hv | hv
 ·exact bR _ _ v hv
 ·rcases cL.1 hv with hv | hv
  ·exact bR _ _ v hv
  ·simp at hv;subst hv;trivial
theorem oU {Q:AV→Prop} {st:St} {x y:List Int} {b:Bool} (hq:Q (.agg (cP x y b))):dy Q (.agg (cP x y b)) st:=aa (jE _ _ _) hq
theorem ZT:eH Tryz.prog 189=some (cP zI zI false):=by kernel_rfl
attribute [go_sem] ZT
theorem jF:av Tryz.prog 160 [] (fun r=>r=.agg (cP zI zI true)):=by
 refine bK Tryz.func160 Tryz.ntmps160 (rs:=[.cell 0 189]) a9 ?_;simp [go_sem,cP,cI,zI,ah];exact oU (x:=zI) (y:=zI) (b:=true) rfl
def lP (x y:List Int) (b:Bool):List L1:=x.map (L1.i .u64) ++ (y.map (L1.i .u64) ++ [L1.b b])
theorem Kw:∀ (x:List Int) (r:List AV),ef (cI x ++ r)=(ef r).map (x.map (L1.i .u64) ++ ·)
 | [],r=>by simp [cI]
 | a :: l,r=>by
  have ih:=Kw l r;show ef (.d (.int .u64 a) :: (cI l ++ r))=_;have e:ef (.d (.int .u64 a) :: (cI l ++ r))=(ef (cI l ++ r)).map (L1.i .u64 a :: ·):=rfl;rw [e,ih,Option.map_map];rfl
theorem EC (x y:List Int) (b:Bool):ef (cP x y b)=some (lP x y b):=by
 unfold cP;rw [Kw,Kw];rfl
theorem ZU:dG Tryz.prog 8 189=some (List.replicate 8 (some .u64) ++ [none]):=by kernel_rfl
theorem Kx {x y:List Int} (hx:x.length=4) (hy:y.length=4) (b:Bool):dG Tryz.prog 8 189=some ((lP x y b).map L1.k):=by
 rw [ZU]
 match x,y,hx,hy with
 | [a,b,c,d],[e,f,g,h],_,_=>rfl
theorem ZV:Tryz.prog.eqGuardType Tryz.prog.depth 189=false:=by kernel_rfl
theorem WH (x y:List Int) (b:Bool) (hx:Wn 4 x) (hy:Wn 4 y):∃ c:Bool,(c=true ↔ jl x y b)∧av Tryz.prog 186 [.agg (cP x y b)] (fun r=>r=.d (.bool c)):=by
 have hxl:=hx.1;have hyl:=hy.1
 cases b
 ·obtain ⟨b1,vb1,f1⟩:=um x hx;obtain ⟨b2,vb2,f2⟩:=um y hy;obtain ⟨s,hs,vs,f3⟩:=mU y hy;obtain ⟨r,hr,vr,f4⟩:=Ai x hx;unfold W1 at f3 f4;have hsl:=hs.1;have hrl:=hr.1;have e1:∀ c:Bool,(cP x y c).take 4=cI x:=Tj hxl;have e2:∀ c:Bool,((cP x y c).drop 4).take 4=cI y:=WG hxl hyl
  have hv:(b1 && (b2 && decide (s=r)))=true ↔ jl x y false:=by
   rw [Bool.and_eq_true,Bool.and_eq_true,decide_eq_true_iff,vb1,vb2];refine ⟨fun ⟨h1,h2,h3⟩=>.inr ⟨rfl,h1,h2,by rw [← vs.2,h3,vr.2]⟩,fun h=>?_⟩;rcases h with ⟨h,_⟩ | ⟨_,h1,h2,h3⟩
   ·cases h
   ·exact ⟨h1,h2,Ku hs hr vs.1 vr.1 (by rw [vs.2,vr.2,h3])⟩
  refine ⟨b1 && (b2 && decide (s=r)),hv,?_⟩;refine bK Tryz.func186 Tryz.ntmps186 (rs:=[.tmp 2]) (dx _ _ _) ?_;simp [go_sem,bU hxl hyl,cY hxl hyl,Aj hxl hyl,CN hxl hyl]
  cases b1
  ·skip;refine b7 [0,1] [(2,[3,4,5]),(6,[7,8,9,10,12,13]),(11,[]),(14,[15,16,17])] 4 (k:=18) ?_;intro G hG;simp [go_sem,bU hxl hyl,e1,e2];refine ag f1 (aO _) ?_;simp [go_sem,dK];refine hG _ _ ?_;simp [go_sem,ah];exact aa a9 rfl
  ·cases b2
   ·skip;refine b7 [0,1] [(2,[3,4,5]),(6,[7,8,9,10,12,13]),(11,[]),(14,[15,16,17])] 4 (k:=18) ?_;intro G hG;simp [go_sem,bU hxl hyl,e1,e2];refine ag f1 (aO _) ?_;simp [go_sem,bU hxl hyl,e1,e2,dK];refine ag f2 (aO _) ?_;simp [go_sem,dK];refine hG _ _ ?_;simp [go_sem,ah];exact aa a9 rfl
   ·skip;refine b7 [0,1] [(2,[3,4,5]),(6,[7,8,9,10,12,13]),(11,[]),(14,[15,16,17])] 4 (k:=18) ?_;intro G hG;simp [go_sem,bU hxl hyl,e1,e2];refine ag f1 (aO _) ?_;simp [go_sem,bU hxl hyl,e1,e2,dK];refine ag f2 (aO _) ?_;simp [go_sem,bU hxl hyl,e1,e2,dK];refine ag f3 (aO _) ?_;simp [go_sem,bU hxl hyl,e1,e2,dK];refine ag f4 (aO _) ?_;simp [go_sem,ij,hsl,hrl,dK];refine hG _ _ ?_;simp [go_sem,ah];exact aa a9 rfl
 ·have hv:decide (lP x y true=lP zI zI true)=true ↔ jl x y true:=by
   rw [decide_eq_true_iff];refine ⟨fun h=>.inl ⟨rfl,?_⟩,fun h=>?_⟩
   ·match x,y,hxl,hyl with
    | [a,b,c,d],[e,f,g,i],_,_ =>
     simp [lP,zI] at h;obtain ⟨rfl,rfl,rfl,rfl,rfl,rfl,rfl,rfl⟩:=h;exact ⟨rfl,rfl⟩
   ·rcases h with ⟨_,rfl,rfl⟩ | ⟨h,_⟩
    ·rfl
    ·cases h
  refine ⟨decide (lP x y true=lP zI zI true),hv,?_⟩;refine bK Tryz.func186 Tryz.ntmps186 (rs:=[.tmp 2]) (dx _ _ _) ?_;simp [go_sem,bU hxl hyl,cY hxl hyl,Aj hxl hyl,CN hxl hyl];refine b7 [0] [(1,[2,3])] 1 (k:=4) ?_;intro G hG;simp [go_sem,bU hxl hyl,cY hxl hyl];refine ag jF aw ?_;have k1:=Kx hxl hyl true;have k2:=Kx (x:=zI) (y:=zI) rfl rfl true;have l1:=EC x y true;have l2:=EC zI zI true;generalize lP x y true=u at *;generalize lP zI zI true=v at *;simp [go_sem,l1,l2,ZV,dK]
  first | refine ⟨k1,k2,hG _ _ ?_⟩ | refine ⟨k1,hG _ _ ?_⟩
  simp [go_sem,ah];exact aa a9 rfl
theorem qe (x y:List Int) (b:Bool) (hx:Wn 4 x) (hy:Wn 4 y):∃ (u v:List Int) (c:Bool),Wn 4 u∧Wn 4 v∧(jl u v c∧(jl x y b→u=x∧v=y∧c=b)∧(¬ jl x y b→u=zI∧v=zI∧c=true))∧av Tryz.prog 161 [.agg (cP x y b)] (fun r=>r=.agg (cP u v c)):=by
 obtain ⟨o,vo,f1⟩:=WH x y b hx hy;have hxl:=hx.1;have hyl:=hy.1;have zd:(cP zI zI false).drop 9=[]:=nM rfl rfl _;have zl:(cP zI zI true).length=9:=rfl;have zt:(cP zI zI true).take 9=cP zI zI true:=cY rfl rfl _;have zl2:(cP zI zI false).length=9:=rfl
 cases o
 ·refine ⟨zI,zI,true,jC,jC,⟨uk,fun h=>absurd (vo.2 h) (by decide),fun _=>⟨rfl,rfl,rfl⟩⟩,?_⟩;refine bK Tryz.func161 Tryz.ntmps161 (rs:=[.cell 2 189]) (dx _ _ _) ?_;simp [go_sem,bU hxl hyl,cY hxl hyl];refine ag f1 (dx _ _ _) ?_;simp [go_sem];refine ag jF aw ?_;simp [go_sem,zl,zt,zd,zl2,ah];exact oU rfl
 ·refine ⟨x,y,b,hx,hy,⟨vo.1 rfl,fun _=>⟨rfl,rfl,rfl⟩,fun h=>absurd (vo.1 rfl) h⟩,?_⟩;refine bK Tryz.func161 Tryz.ntmps161 (rs:=[.cell 2 189]) (dx _ _ _) ?_;simp [go_sem,bU hxl hyl,cY hxl hyl];refine ag f1 (dx _ _ _) ?_;simp [go_sem,bU hxl hyl,cY hxl hyl,zd,zl2,ah];exact oU rfl
def cV (x y z:List Int):List AV:=cI x ++ (cI y ++ cI z)
theorem dP {x y z:List Int} (hx:x.length=4) (hy:y.length=4) (hz:z.length=4):(cV x y z).length=12:=by simp [cV,ew,hx,hy,hz]
theorem db {x y z:List Int} (hx:x.length=4) (hy:y.length=4) (hz:z.length=4):(cV x y z).take 12=cV x y z:=cA (by rw [dP hx hy hz];omega)
theorem kD {x y z:List Int} (hx:x.length=4) (hy:y.length=4) (hz:z.length=4):(cV x y z).drop 12=[]:=dg (by rw [dP hx hy hz];omega)
theorem OF {x y z:List Int} (hx:x.length=4):(cV x y z).take 4=cI x:=by
 unfold cV;rw [List.take_append_of_le_length (by rw [ew];omega),ae hx]
theorem OG {x y z:List Int} (hx:x.length=4) (hy:y.length=4):((cV x y z).drop 4).take 4=cI y:=by
 unfold cV;rw [List.drop_append_of_le_length (by rw [ew];omega),aW hx,List.nil_append,List.take_append_of_le_length (by rw [ew];omega),ae hy]
theorem Ky {x y z:List Int} (hx:x.length=4) (hy:y.length=4) (hz:z.length=4):((cV x y z).drop 8).take 4=cI z:=by
 have e:cV x y z=(cI x ++ cI y) ++ cI z:=by simp [cV]
 rw [e,List.drop_append_of_le_length (by simp [ew,hx,hy]),dg (by simp [ew,hx,hy]),List.nil_append,ae hz]
theorem sN (x y z:List Int):(AV.agg (cV x y z)).deep:=by
 intro v hv;unfold cV at hv;rcases cL.1 hv with hv | hv
 ·exact iT _ v hv
 ·rcases cL.1 hv with hv | hv
  ·exact iT _ v hv
  ·exact iT _ v hv
theorem ff (x y z:List Int):∀ v,v ∈ [AV.agg (cV x y z)]→v.deep:=by
 intro v hv;simp at hv;subst hv;exact sN _ _ _
theorem ru (n:Nat) (x y z:List Int):∀ v,v ∈ cV x y z→v.low1 n:=by
 intro v hv;unfold cV at hv;rcases cL.1 hv with hv | hv
 ·exact bR _ _ v hv
 ·rcases cL.1 hv with hv | hv
  ·exact bR _ _ v hv
  ·exact bR _ _ v hv
theorem kL {Q:AV→Prop} {st:St} {x y z:List Int} (hq:Q (.agg (cV x y z))):dy Q (.agg (cV x y z)) st:=aa (sN _ _ _) hq
theorem ZW:eH Tryz.prog 243=some (cV zI zI zI):=by kernel_rfl
attribute [go_sem] ZW
def kj:List Int:=[1,0,0,0]
theorem CO:Wn 4 kj:=jD ⟨aq,aq⟩
theorem nN (x y z:List Int) (hx:Wn 4 x) (hy:Wn 4 y) (hz:Wn 4 z):av Tryz.prog 207 [.agg (cV x y z)] (fun r=>r=.d (.bool (decide (z=zI)))):=by
 have hxl:=hx.1;have hyl:=hy.1;have hzl:=hz.1;refine bK Tryz.func207 Tryz.ntmps207 (rs:=[.tmp 2]) (ff _ _ _) ?_;have iz:bW .u64 [AV.d (.int .u64 0),AV.d (.int .u64 0),AV.d (.int .u64 0),AV.d (.int .u64 0)]=some zI:=ij zI;simp [go_sem,dP hxl hyl hzl,db hxl hyl hzl,Ky hxl hyl hzl,ij,iz,hzl,ah];exact aa a9 rfl
theorem Kz:V kj=1:=by simp [V,kj]
theorem Tm:FV kj=1:=CM 1 aq
theorem WI:JV kj kj zI=none:=by
 show pY fd (FV kj) (FV kj) (FV zI)=none;rw [yd];exact Ag fd _ _
theorem WJ:rp kj kj zI:=by
 have hz:V zI=0:=by simp [V,zI]
 refine ⟨⟨by rw [Kz];decide,by rw [Kz];decide,by rw [hz];decide⟩,by rw [WI];trivial⟩
theorem KA:(1:F) ≠ 0:=fd.one
theorem Y4 (a:F):a=a*(1*1):=by grobner
theorem WL (a:F):a=a*(1*1*1):=by grobner
theorem To (x y:List Int):JV x y kj=some (FV x,FV y):=by
 show pY fd (FV x) (FV y) (FV kj)=_;rw [Tm];exact ya fd KA (Y4 _) (WL _)
theorem OH {x y:List Int} (h:jl x y false):rp x y kj∧JV x y kj=PV x y false:=by
 have e:JV x y kj=PV x y false:=To x y;have ho:=ye h;rcases h with ⟨h,_⟩ | ⟨_,h1,h2,_⟩
 ·cases h
 ·exact ⟨⟨⟨h1,h2,by rw [Kz];decide⟩,by rw [e];exact ho⟩,e⟩
theorem ZX {x y:List Int} (hx:x.length=4) (hy:y.length=4):List.take 8 (cI x ++ (cI y ++ List.drop 8 (cI x ++ [AV.d (.int .u64 0),AV.d (.int .u64 0),AV.d (.int .u64 0),AV.d (.int .u64 0),AV.d (.int .u64 0),AV.d (.int .u64 0),AV.d (.int .u64 0),AV.d (.int .u64 0)]))) ++ (cI [1,0,0,0] ++ List.drop 12 (cI x ++ (cI y ++ List.drop 8 (cI x ++ [AV.d (.int .u64 0),AV.d (.int .u64 0),AV.d (.int .u64 0),AV.d (.int .u64 0),AV.d (.int .u64 0),AV.d (.int .u64 0),AV.d (.int .u64 0),AV.d (.int .u64 0)]))))=cV x y kj:=by
 match x,y,hx,hy with
 | [a,b,c,d],[e,f,g,h],_,_=>rfl
theorem mV (x y:List Int) (b:Bool) (hx:Wn 4 x) (hy:Wn 4 y):∃ (u v w:List Int),Wn 4 u∧Wn 4 v∧Wn 4 w∧(jl x y b→rp u v w∧JV u v w=PV x y b)∧av Tryz.prog 180 [.agg (cP x y b)] (fun r=>r=.agg (cV u v w)):=by
 have hxl:=hx.1;have hyl:=hy.1
 cases b
 ·refine ⟨x,y,kj,hx,hy,CO,OH,?_⟩;refine bK Tryz.func180 Tryz.ntmps180 (rs:=[.cell 2 243]) (dx _ _ _) ?_;have e1:∀ c:Bool,(cP x y c).take 4=cI x:=Tj hxl;have e2:∀ c:Bool,((cP x y c).drop 4).take 4=cI y:=WG hxl hyl;simp [go_sem,bU hxl hyl,cY hxl hyl,Aj hxl hyl,CN hxl hyl];refine b7 [0,1,2,3] [(4,[5]),(6,[])] 1 (k:=7) ?_;intro G hG;simp [go_sem,bU hxl hyl,e1,e2];refine ag (eD 1) (Ah _) ?_;simp [go_sem,hxl,hyl];rw [ZX hxl hyl];refine hG _ _ ?_;have ol:kj.length=4:=rfl;simp [go_sem,dP hxl hyl ol,db hxl hyl ol,ah];exact kL rfl
 ·refine ⟨kj,kj,zI,CO,CO,jC,fun _=>⟨WJ,WI⟩,?_⟩;refine bK Tryz.func180 Tryz.ntmps180 (rs:=[.cell 2 243]) (dx _ _ _) ?_;simp [go_sem,bU hxl hyl,cY hxl hyl,Aj hxl hyl,CN hxl hyl];refine ag (eD 1) (Ah _) ?_;simp [go_sem];refine ag (eD 1) (Ah _) ?_;simp [go_sem,ah];exact kL (x:=kj) (y:=kj) (z:=zI) rfl
theorem lN (c:Int) (a:List Int):∀ v,v ∈ [AV.d (.int .u64 c),AV.agg (cI a)]→v.deep:=by
 intro v hv;simp at hv;rcases hv with rfl | rfl;trivial;exact eC _
theorem kZ (n:Int) (a:List Int) (hn:dr n) (ha:Wn 4 a):∃ r,Wn 4 r∧(V r<pZ∧FV r=FV [n,0,0,0]*FV a)∧av Tryz.prog 211 [.d (.int .u64 n),.agg (cI a)] (fun x=>x=.agg (cI r)):=by
 obtain ⟨r,hr,vr,f1⟩:=fU [n,0,0,0] a (jD hn) ha;unfold W2 at f1;have hal:=ha.1;have hrl:=hr.1;have hz:List.drop 4 (cI zI)=[]:=aW rfl;refine ⟨r,hr,vr,?_⟩;refine bK Tryz.func211 Tryz.ntmps211 (rs:=[.cell 4 96]) (lN _ _) ?_;simp [go_sem,hal,ae hal];refine ed [0,2] [1,3,4] [0,2] (bt 1 (a_ [3,4])) ⟨[(4,.ptr 32 0 0 1)],[(32,⟨96,4,[cI r]⟩)],9000⟩ (k:=5) ?h3 ?hq
 case h3 =>
  intro G hG
  have hW:∀ (fr:Fr) (hp:Hp),(fv 4 fr=.ptr 32 0 0 1∧lk 32 hp=some ⟨96,4,[cI r]⟩)→G fr hp:=by
   rintro fr hp ⟨q0,q1⟩;exact hG _ _ se
  simp [go_sem,hal,ae hal,hrl,ae hrl,hz,dK]
  repeat' first | exact hW _ _ ⟨rfl,rfl⟩ | (refine hW _ _ ?_;simp [fv,lk];done) | refine ag (eD n) (Ah _) ?_ | refine ag f1 (aJ _ _) ?_ | apply And.intro | simp [go_sem,hal,ae hal,hrl,ae hrl,hz,dK]
 case hq =>
  simp [go_sem,hrl,ae hrl,ah];exact dE rfl
theorem Zz {x y:List Int} (hx:x.length=4) (hy:y.length=4):List.take 8 (cI x ++ (cI y ++ List.drop 8 (cI x ++ [AV.d (.int .u64 0),AV.d (.int .u64 0),AV.d (.int .u64 0),AV.d (.int .u64 0),AV.d (.int .u64 0),AV.d (.int .u64 0),AV.d (.int .u64 0),AV.d (.int .u64 0)])))=cI x ++ cI y:=by
 match x,y,hx,hy with
 | [a,b,c,d],[e,f,g,h],_,_=>rfl
theorem WM {x y:List Int} (hx:x.length=4) (hy:y.length=4):List.drop 12 (cI x ++ (cI y ++ List.drop 8 (cI x ++ [AV.d (.int .u64 0),AV.d (.int .u64 0),AV.d (.int .u64 0),AV.d (.int .u64 0),AV.d (.int .u64 0),AV.d (.int .u64 0),AV.d (.int .u64 0),AV.d (.int .u64 0)])))=[]:=by
 match x,y,hx,hy with
 | [a,b,c,d],[e,f,g,h],_,_=>rfl
theorem uo (x y z:List Int) (hx:Wn 4 x) (hy:Wn 4 y) (hz:Wn 4 z):∃ (u v w:List Int),Wn 4 u∧Wn 4 v∧Wn 4 w∧(rp x y z→rp u v w∧JV u v w=sum fd (JV x y z) (JV x y z))∧av Tryz.prog 183 [.agg (cV x y z)] (fun r=>r=.agg (cV u v w)):=by
 obtain ⟨y2,h1,g1,f1⟩:=mU y hy;obtain ⟨m1,h2,g2,f2⟩:=fU x y2 hx h1;obtain ⟨s,h3,g3,f3⟩:=kZ 4 m1 ⟨aq,aq⟩ h2;obtain ⟨x2,h4,g4,f4⟩:=mU x hx;obtain ⟨m,h5,g5,f5⟩:=kZ 3 x2 ⟨aq,aq⟩ h4;obtain ⟨m2,h6,g6,f6⟩:=mU m h5;obtain ⟨s2,h7,g7,f7⟩:=kZ 2 s ⟨aq,aq⟩ h3;obtain ⟨X,h8,g8,f8⟩:=qd m2 s2 h6 h7;obtain ⟨d,h9,g9,f9⟩:=qd s X h3 h8;obtain ⟨e,h10,g10,f10⟩:=fU m d h5 h9;obtain ⟨y4,h11,g11,f11⟩:=mU y2 h1;obtain ⟨y8,h12,g12,f12⟩:=kZ 8 y4 ⟨aq,aq⟩ h11;obtain ⟨Y,h13,g13,f13⟩:=qd e y8 h10 h12;obtain ⟨yz,h14,g14,f14⟩:=fU y z hy hz;obtain ⟨Z,h15,g15,f15⟩:=kZ 2 yz ⟨aq,aq⟩ h14;obtain ⟨wu,wv,ww,h16,h17,h18,g16,f16⟩:=mV zI zI true jC jC;unfold W1 at f1 f4 f6 f11;unfold W2 at f2 f8 f9 f10 f13 f14;have l1:=h1.1;have l2:=h2.1;have l3:=h3.1;have l4:=h4.1;have l5:=h5.1;have l6:=h6.1;have l7:=h7.1;have l8:=h8.1;have l9:=h9.1;have l10:=h10.1;have l11:=h11.1;have l12:=h12.1;have l13:=h13.1;have l14:=h14.1;have l15:=h15.1;have l16:=h16.1;have l17:=h17.1;have l18:=h18.1;have hxl:=hx.1;have hyl:=hy.1;have hzl:=hz.1;have z4:List.drop 4 (cI zI)=[]:=aW rfl;have vl:=dP hxl hyl hzl;have vt:=db hxl hyl hzl;have v1:(cV x y z).take 4=cI x:=OF hxl;have v2:=OG (z:=z) hxl hyl;have v3:=Ky hxl hyl hzl;have iz:bW .u64 [AV.d (.int .u64 0),AV.d (.int .u64 0),AV.d (.int .u64 0),AV.d (.int .u64 0)]=some zI:=ij zI;have f0:=nN x y z hx hy hz;have wd:(cV zI zI zI).drop 12=[]:=kD rfl rfl rfl;have wl:(cV zI zI zI).length=12:=rfl;have ul:=dP l16 l17 l18;have ut:=db l16 l17 l18;by_cases q0:z=zI ∨ y=zI
 ·have vv:rp x y z→rp wu wv ww∧JV wu wv ww=sum fd (JV x y z) (JV x y z):=by
   intro hj;obtain ⟨k1,k2⟩:=g16 uk;rcases q0 with q | q
   ·have e:JV x y z=none:=by rw [q];show pY fd _ _ (FV zI)=none;rw [yd];exact Ag fd _ _
    exact ⟨k1,by rw [k2,e,Kv];exact (fS fd (Q:=none) True.intro).symm⟩
   ·by_cases q1:z=zI
    ·have e:JV x y z=none:=by rw [q1];show pY fd _ _ (FV zI)=none;rw [yd];exact Ag fd _ _
     exact ⟨k1,by rw [k2,e,Kv];exact (fS fd (Q:=none) True.intro).symm⟩
    ·have hz0:FV z ≠ 0:=fun h=>q1 ((lL hz hj.1.2.2).1 h);exact absurd (by rw [q,yd]) (ug fd hz0 hj.2).2.1
  refine ⟨wu,wv,ww,h16,h17,h18,vv,?_⟩;refine bK Tryz.func183 Tryz.ntmps183 (rs:=[.cell 2 243]) (ff _ _ _) ?_;simp [go_sem,vl,vt];refine ag f0 (ff _ _ _) ?_;by_cases q1:z=zI
  ·simp [go_sem,q1];refine ag jF aw ?_;simp [go_sem];refine ag f16 (dx _ _ _) ?_;simp [go_sem,ul,ut,wd,wl,ah];exact kL rfl
  ·have q2:y=zI:=q0.resolve_left q1;simp [go_sem,q1,v2,vl,ij,iz,hyl];refine ⟨fun _=>?_,fun h=>absurd q2 h⟩;refine ag jF aw ?_;simp [go_sem];refine ag f16 (dx _ _ _) ?_;simp [go_sem,ul,ut,wd,wl,ah];exact kL rfl
 ·have q1:z ≠ zI:=fun h=>q0 (.inl h);have q2:y ≠ zI:=fun h=>q0 (.inr h)
  have vv:rp x y z→rp X Y Z∧JV X Y Z=sum fd (JV x y z) (JV x y z):=by
   intro hj;have hz0:FV z ≠ 0:=fun h=>q1 ((lL hz hj.1.2.2).1 h);obtain ⟨_,_,e⟩:=ug fd hz0 hj.2;have n2:FV [2,0,0,0]=2:=CM 2 aq;have n3:FV [3,0,0,0]=3:=CM 3 aq;have n4:FV [4,0,0,0]=4:=CM 4 aq;have n8:FV [8,0,0,0]=8:=CM 8 aq
   have eX:FV X=3*(FV x*FV x)*(3*(FV x*FV x)) - 2*(4*(FV x*(FV y*FV y))):=by
    rw [g8.2,g6.2,g5.2,g4.2,g7.2,g3.2,g2.2,g1.2,n2,n3,n4]
   have eY:FV Y=3*(FV x*FV x)*(4*(FV x*(FV y*FV y)) - (3*(FV x*FV x)*(3*(FV x*FV x)) - 2*(4*(FV x*(FV y*FV y))))) - 8*(FV y*FV y*(FV y*FV y)):=by
    rw [g13.2,g10.2,g9.2,eX,g5.2,g4.2,g3.2,g2.2,g12.2,g11.2,g1.2,n3,n4,n8]
   have eZ:FV Z=2*(FV y*FV z):=by rw [g15.2,g14.2,n2]
   have e2:JV X Y Z=sum fd (JV x y z) (JV x y z):=by
    show pY fd (FV X) (FV Y) (FV Z)=_;rw [eX,eY,eZ];exact e
   exact ⟨⟨⟨g8.1,g13.1,g15.1⟩,by rw [e2];exact oS fd hj.2 hj.2⟩,e2⟩
  refine ⟨X,Y,Z,h8,h13,h15,vv,?_⟩;refine bK Tryz.func183 Tryz.ntmps183 (rs:=[.cell 2 243]) (ff _ _ _) ?_;simp [go_sem,vl,vt];refine ag f0 (ff _ _ _) ?_;simp [go_sem,q1,q2,v2,vl,ij,iz,hyl];refine ag f1 (aO _) ?_;simp [go_sem,l1,ae l1,z4,v1,vl];refine ag f2 (aJ _ _) ?_;simp [go_sem];refine ag f3 (lN _ _) ?_;simp [go_sem,l3,ae l3,z4,v1,vl];refine ag f4 (aO _) ?_;simp [go_sem];refine ag f5 (lN _ _) ?_;simp [go_sem,l5,ae l5,z4];refine ed [0,2] [1,3,4,5,6] [0,2] (.alt (bt 1 (.alt (bx 3 (.alt (a_ [4,5,6]) (a_ [5,4,6]))) (bt 5 (a_ [3,4,6])))) (bt 5 (bt 1 (a_ [3,4,6])))) ⟨[(1,.ptr 0 0 0 1),(2,.ptr 32 0 0 1),(3,.ptr 416 0 0 1),(4,.ptr 640 0 0 1),(5,.ptr 832 0 0 1),(6,.ptr 1056 0 0 1)],[(1056,⟨96,4,[cI X]⟩),(832,⟨96,4,[cI m]⟩),(640,⟨96,4,[cI s]⟩),(416,⟨96,4,[cI y2]⟩),(32,⟨243,12,[cV zI zI zI]⟩),(0,⟨243,12,[cV x y z]⟩)],9000⟩ (k:=7) ?h3 ?hq
  case h3 =>
   intro G hG
   have hW:∀ (fr:Fr) (hp:Hp),(fv 1 fr=.ptr 0 0 0 1∧fv 2 fr=.ptr 32 0 0 1∧fv 3 fr=.ptr 416 0 0 1∧fv 4 fr=.ptr 640 0 0 1∧fv 5 fr=.ptr 832 0 0 1∧fv 6 fr=.ptr 1056 0 0 1∧lk 1056 hp=some ⟨96,4,[cI X]⟩∧lk 832 hp=some ⟨96,4,[cI m]⟩∧lk 640 hp=some ⟨96,4,[cI s]⟩∧lk 416 hp=some ⟨96,4,[cI y2]⟩∧lk 32 hp=some ⟨243,12,[cV zI zI zI]⟩∧lk 0 hp=some ⟨243,12,[cV x y z]⟩)→G fr hp:=by
    rintro fr hp ⟨q0,q1,q2,q3,q4,q5,q6,q7,q8,q9,q10,q11⟩;exact hG _ _ se
   simp [go_sem,l1,l3,l5,l8,l13,ae l1,ae l3,ae l5,ae l8,ae l13,z4,dK]
   repeat' first | exact hW _ _ ⟨rfl,rfl,rfl,rfl,rfl,rfl,rfl,rfl,rfl,rfl,rfl,rfl⟩ | (refine hW _ _ ?_;simp [fv,lk];done) | refine ag f6 (aO _) ?_ | refine ag f7 (lN _ _) ?_ | refine ag f8 (aJ _ _) ?_ | apply And.intro | simp [go_sem,l1,l3,l5,l8,l13,ae l1,ae l3,ae l5,ae l8,ae l13,z4,dK]
  case hq =>
   simp [go_sem];refine ed [0,1,2,5] [3,4,6,7,8,9,10] [0,1,2,5] (.alt (bt 3 (.alt (bt 4 (.alt (bx 6 (.alt (bx 7 (.alt (a_ [8,9,10]) (a_ [9,8,10]))) (a_ [9,7,8,10]))) (bt 9 (a_ [6,7,8,10])))) (bt 9 (bt 4 (a_ [6,7,8,10]))))) (bt 9 (bt 3 (bt 4 (a_ [6,7,8,10]))))) ⟨[(1,.ptr 0 0 0 1),(2,.ptr 32 0 0 1),(3,.ptr 416 0 0 1),(4,.ptr 640 0 0 1),(5,.ptr 832 0 0 1),(6,.ptr 1056 0 0 1),(7,.ptr 9288 0 0 1)],[(9288,⟨96,4,[cI Y]⟩),(1056,⟨96,4,[cI X]⟩),(832,⟨96,4,[cI m]⟩),(640,⟨96,4,[cI s]⟩),(416,⟨96,4,[cI y2]⟩),(32,⟨243,12,[cV zI zI zI]⟩),(0,⟨243,12,[cV x y z]⟩)],20000⟩ (k:=11) ?h3 ?hq
   case h3 =>
    intro G hG
    have hW:∀ (fr:Fr) (hp:Hp),(fv 1 fr=.ptr 0 0 0 1∧fv 2 fr=.ptr 32 0 0 1∧fv 3 fr=.ptr 416 0 0 1∧fv 4 fr=.ptr 640 0 0 1∧fv 5 fr=.ptr 832 0 0 1∧fv 6 fr=.ptr 1056 0 0 1∧fv 7 fr=.ptr 9288 0 0 1∧lk 9288 hp=some ⟨96,4,[cI Y]⟩∧lk 1056 hp=some ⟨96,4,[cI X]⟩∧lk 832 hp=some ⟨96,4,[cI m]⟩∧lk 640 hp=some ⟨96,4,[cI s]⟩∧lk 416 hp=some ⟨96,4,[cI y2]⟩∧lk 32 hp=some ⟨243,12,[cV zI zI zI]⟩∧lk 0 hp=some ⟨243,12,[cV x y z]⟩)→G fr hp:=by
     rintro fr hp ⟨q0,q1,q2,q3,q4,q5,q6,q7,q8,q9,q10,q11,q12,q13⟩;exact hG _ _ se
    simp [go_sem,l1,l3,l5,l8,l13,ae l1,ae l3,ae l5,ae l8,ae l13,z4,dK]
    repeat' first | exact hW _ _ ⟨rfl,rfl,rfl,rfl,rfl,rfl,rfl,rfl,rfl,rfl,rfl,rfl,rfl,rfl⟩ | (refine hW _ _ ?_;simp [fv,lk];done) | refine ag f9 (aJ _ _) ?_ | refine ag f10 (aJ _ _) ?_ | refine ag f11 (aO _) ?_ | refine ag f12 (lN _ _) ?_ | refine ag f13 (aJ _ _) ?_ | apply And.intro | simp [go_sem,l1,l3,l5,l8,l13,ae l1,ae l3,ae l5,ae l8,ae l13,z4,dK]
   case hq =>
    simp only [go_sem,Nat.reduceEqDiff,Nat.reduceAdd,Nat.reduceLT,↓reduceIte];refine b7 [0,1,2,3,4,5] [(6,[]),(7,[8]),(9,[])] 2 (k:=10) ?_;intro G hG;simp [go_sem,l8,l13,ae l8,ae l13,v2,v3,vl];refine ag f14 (aJ _ _) ?_;simp [go_sem];refine ag f15 (lN _ _) ?_;have ev:cI X ++ (cI Y ++ cI Z)=cV X Y Z:=rfl;have xl:=dP l8 l13 l15;have xt:=db l8 l13 l15;simp [go_sem,l8,l13,l15,wl,wd,Zz l8 l13,WM l8 l13,ev,xl,dK];refine hG _ _ ?_;simp [go_sem,xl,xt,ah];exact kL rfl
theorem ZA {x y:List Int} (hx:x.length=4) (hy:y.length=4):cI x ++ (cI y ++ List.drop 8 (cI x ++ [AV.d (.int .u64 0),AV.d (.int .u64 0),AV.d (.int .u64 0),AV.d (.int .u64 0),AV.d (.bool false)]))=cP x y false:=by
 match x,y,hx,hy with
 | [a,b,c,d],[e,f,g,h],_,_=>rfl
theorem KB (x y z:List Int) (hx:Wn 4 x) (hy:Wn 4 y) (hz:Wn 4 z):∃ (u v:List Int) (c:Bool),Wn 4 u∧Wn 4 v∧(rp x y z→jl u v c∧PV u v c=JV x y z)∧av Tryz.prog 185 [.agg (cV x y z)] (fun r=>r=.agg (cP u v c)):=by
 obtain ⟨i,h1,g1,f1⟩:=WF z hz;obtain ⟨i2,h2,g2,f2⟩:=mU i h1;obtain ⟨X,h3,g3,f3⟩:=fU x i2 hx h2;obtain ⟨i3,h4,g4,f4⟩:=fU i2 i h2 h1;obtain ⟨Y,h5,g5,f5⟩:=fU y i3 hy h4;unfold W1 at f1 f2;unfold W2 at f3 f4 f5;have l1:=h1.1;have l2:=h2.1;have l3:=h3.1;have l5:=h5.1;have hxl:=hx.1;have hyl:=hy.1;have hzl:=hz.1;have z4:List.drop 4 (cI zI)=[]:=aW rfl;have vl:=dP hxl hyl hzl;have vt:=db hxl hyl hzl;have v1:(cV x y z).take 4=cI x:=OF hxl;have v2:=OG (z:=z) hxl hyl;have v3:=Ky hxl hyl hzl;have f0:=nN x y z hx hy hz;have zd:(cP zI zI false).drop 9=[]:=nM rfl rfl _;have zl:(cP zI zI true).length=9:=rfl;have zt:(cP zI zI true).take 9=cP zI zI true:=cY rfl rfl _;have zl2:(cP zI zI false).length=9:=rfl;by_cases q1:z=zI
 ·have vv:rp x y z→jl zI zI true∧PV zI zI true=JV x y z:=by
   intro _;refine ⟨uk,?_⟩;rw [q1,Kv];show none=pY fd _ _ (FV zI);rw [yd];exact (Ag fd _ _).symm
  refine ⟨zI,zI,true,jC,jC,vv,?_⟩;refine bK Tryz.func185 Tryz.ntmps185 (rs:=[.cell 2 189]) (ff _ _ _) ?_;simp [go_sem,vl,vt];refine ag f0 (ff _ _ _) ?_;simp [go_sem,q1];refine ag jF aw ?_;simp [go_sem,zl,zt,zd,zl2,ah];exact oU rfl
 ·have vv:rp x y z→jl X Y false∧PV X Y false=JV x y z:=by
   intro hj;have hz0:FV z ≠ 0:=fun h=>q1 ((lL hz hj.1.2.2).1 h)
   have e:PV X Y false=JV x y z:=by
    show some (FV X,FV Y)=pY fd (FV x) (FV y) (FV z);rw [pY,if_neg hz0,g3.2,g5.2,g4.2,g2.2,g1.2]
   have ho:j8 (PV X Y false):=by rw [e];exact hj.2
   exact ⟨.inr ⟨rfl,g3.1,g5.1,ho⟩,e⟩
  refine ⟨X,Y,false,h3,h5,vv,?_⟩;refine bK Tryz.func185 Tryz.ntmps185 (rs:=[.cell 2 189]) (ff _ _ _) ?_;simp [go_sem,vl,vt];refine ag f0 (ff _ _ _) ?_;simp [go_sem,q1,v3,vl];refine ag f1 (aO _) ?_;simp [go_sem,l1,ae l1,z4];refine ag f2 (aO _) ?_;simp [go_sem,l2,ae l2,z4];refine b7 [0,1,2,4,5,6,7] [(3,[]),(8,[]),(9,[10]),(11,[])] 3 (k:=12) ?_;intro G hG;simp [go_sem,l1,l2,ae l1,ae l2,v1,v2,vl];refine ag f3 (aJ _ _) ?_;simp [go_sem,l1,l2,ae l1,ae l2,v1,v2,vl];refine ag f4 (aJ _ _) ?_;simp [go_sem];refine ag f5 (aJ _ _) ?_;have pl1:=bU l3 l5 false;have pt1:=cY l3 l5 false;have mp:=ZA l3 l5;simp [go_sem,l3,l5,zl2,zd,mp,pl1,dK];refine hG _ _ ?_;simp [go_sem,pl1,pt1,ah];exact oU rfl
theorem Tq (n:List Int) (k:Nat) (hn:Wn 4 n) (hk:k<256):∃ b:Bool,(b=true ↔ (V n).toNat / 2 ^ k % 2=1)∧av Tryz.prog 184 [.agg (cI n),.d (.int .i64 (k:Int))] (fun r=>r=.d (.bool b)):=by
 have hnl:=hn.1;have hdq:dq k=k / 64:=rfl;have hrq:rq k=k % 64:=rfl;have hnk:=jd (l:=n) (k:=dq k) aq;have w4:IntKind.i64.wrap ((k:Int) / 64)=(dq k:Int):=by rw [IntWalk.i64_in _ aq];omega
 have w4b:IntKind.i64.wrap ((k:Int).tdiv 64)=(dq k:Int):=w4;have e2:(k:Int) % 64=(rq k:Int):=aq;have e2b:(k:Int).tmod 64=(rq k:Int):=e2;have i1:(dq k:Int)<4:=aq;have hm64:rq k<64:=aq;have hmn:min (rq k) 64=rq k:=aq;have bv:=P7 hn hk
 have hv:(!decide (Go.bits .and .u64 (Int.fdiv (gI n (dq k)) (2 ^ rq k)) 1=0))=true ↔ (V n).toNat / 2 ^ k % 2=1:=by
  rw [Bool.not_eq_true',decide_eq_false_iff_not];refine ⟨fun h=>bv.2 h,fun h h0=>?_⟩;have:=bv.1 h0;omega
 refine ⟨!decide (Go.bits .and .u64 (Int.fdiv (gI n (dq k)) (2 ^ rq k)) 1=0),hv,?_⟩;refine bK Tryz.func184 Tryz.ntmps184 (rs:=[.tmp 4]) (En _ _) ?_;simp [go_sem,hnl,ae hnl,hnk,e2,e2b,w4,w4b,i1,hm64,hmn,IntKind.bits,ah];exact aa a9 rfl
theorem ED (x y:List Int) (b:Bool) (hx:Wn 4 x) (hy:Wn 4 y):∃ o:Bool,(jl x y b→(o=true ↔ b=false∧V y % 2=0))∧av Tryz.prog 127 [.agg (cP x y b)] (fun r=>r=.d (.bool o)):=by
 obtain ⟨u,v,c,hu,hv,tv,f1⟩:=qe x y b hx hy;have hxl:=hx.1;have hyl:=hy.1;have hul:=hu.1;have hvl:=hv.1;have xd:(cP x y b).drop 9=[]:=nM hxl hyl _
 have g4:(cP u v false)[4]?=some (.d (.int .u64 (gI v 0))):=by
  unfold cP;rw [dz (by rw [ew];omega),ew,hul,List.getElem?_append_left (by rw [ew];omega),Cc,jd aq];rfl
 have g4b:∀ h,(cP u v false)[4]'h=.d (.int .u64 (gI v 0)):=fun h=>(ci.1 g4).2
 cases c
 ·have hpar:Go.bits .and .u64 (gI v 0) 1=0 ↔ V v % 2=0:=by
   have h0:=cX (k:=0) hv;rw [x6 _ h0.1 h0.2];obtain ⟨r0,r1,r2,r3,e,_⟩:=je hv;rw [e,V4];show r0 % 2=0 ↔ _;omega
  have ev:jl x y b→(decide (Go.bits .and .u64 (gI v 0) 1=0)=true ↔ b=false∧V y % 2=0):=by
   intro hp;obtain ⟨_,e2,e3⟩:=tv.2.1 hp;rw [decide_eq_true_iff,hpar,e2];exact ⟨fun h=>⟨e3.symm,h⟩,fun h=>h.2⟩
  refine ⟨decide (Go.bits .and .u64 (gI v 0) 1=0),ev,?_⟩;refine bK Tryz.func127 Tryz.ntmps127 (rs:=[.tmp 2]) (dx _ _ _) ?_;simp [go_sem,bU hxl hyl,cY hxl hyl];refine ag f1 (dx _ _ _) ?_;simp [go_sem,bU hxl hyl,bU hul hvl,xd,Aj hul hvl,CN hul hvl,g4,g4b,ah];exact aa a9 rfl
 ·have ev:jl x y b→(false=true ↔ b=false∧V y % 2=0):=by
   intro hp;obtain ⟨_,_,e3⟩:=tv.2.1 hp;rw [← e3];exact ⟨fun h=>Bool.noConfusion h,fun h=>Bool.noConfusion h.1⟩
  refine ⟨false,ev,?_⟩;refine bK Tryz.func127 Tryz.ntmps127 (rs:=[.tmp 2]) (dx _ _ _) ?_;simp [go_sem,bU hxl hyl,cY hxl hyl];refine ag f1 (dx _ _ _) ?_;simp [go_sem,bU hxl hyl,bU hul hvl,xd,Aj hul hvl,CN hul hvl,ah];exact aa a9 rfl
def gX:List Int:=[6481385041966929816,188021827762530521,6170039885052185351,8772561819708210092]
theorem WN:Wn 4 gX:=⟨rfl,by intro y hy;simp [gX] at hy;rcases hy with rfl | rfl | rfl | rfl <;> exact ⟨aq,aq⟩⟩
def gY:List Int:=[11261198710074299576,18237243440184513561,6747795201694173352,5204712524664259685]
theorem WO:Wn 4 gY:=⟨rfl,by intro y hy;simp [gY] at hy;rcases hy with rfl | rfl | rfl | rfl <;> exact ⟨aq,aq⟩⟩
def OI:List Int:=[13822214165235122497,13451932020343611451,18446744073709551614,18446744073709551615]
theorem KC:Wn 4 OI:=⟨rfl,by intro y hy;simp [OI] at hy;rcases hy with rfl | rfl | rfl | rfl <;> exact ⟨aq,aq⟩⟩
theorem qf:av Tryz.prog 158 [] (fun r=>r=.agg (cI OI)):=by
 refine bK Tryz.func158 Tryz.ntmps158 (rs:=[.cell 0 96]) a9 ?_;simp [go_sem,cI,zI,ah];exact dE (a:=OI) rfl
theorem OJ:jl gX gY false:=by
 have vx:V gX=55066263022277343669578718895168534326250603453777594175500187360389116729240:=by simp [V,gX]
 have vy:V gY=32670510020758816978083085130507043184471273380659243275938904335757337482424:=by simp [V,gY]
 refine .inr ⟨rfl,by rw [vx];decide,by rw [vy];decide,uj ?_⟩
 have e7:(((7:F).val:Nat):Int)=7 % pZ:=by
  show ((7 % pP:Nat):Int)=_;rw [Int.natCast_emod,jk];rfl
 rw [so,GG,so,so,Int.natCast_emod,Int.natCast_mul,Int.natCast_emod,Int.natCast_add,Int.natCast_emod,Int.natCast_mul,Int.natCast_emod,Int.natCast_mul,d6,d6,e7,jk,vx,vy];decide
theorem yf:av Tryz.prog 126 [] (fun r=>r=.agg (cP gX gY false)):=by
 refine bK Tryz.func126 Tryz.ntmps126 (rs:=[.cell 0 189]) a9 ?_;simp [go_sem,cP,cI,zI,ah];exact oU (x:=gX) (y:=gY) (b:=false) rfl
theorem EE:∀ (l:List Nat),(∀ x,x ∈ l→x<256)→∀ a,l.foldl (fun a x=>a*256+x) a<(a+1)*256 ^ l.length
 | [],_,a=>by simp
 | x :: r,h,a=>by
  have h1:=EE r (fun y hy=>h y (by simp [hy])) (a*256+x);have h2:=h x aw;rw [List.foldl_cons,List.length_cons,Nat.pow_succ];have h3:(a*256+x+1)*256 ^ r.length≤((a+1)*256)*256 ^ r.length:=d_ _ aq;have h4:(a+1)*256*256 ^ r.length=(a+1)*(256 ^ r.length*256):=by rw [Nat.mul_assoc,Nat.mul_comm 256]
  omega
theorem BM {l:List Nat} (h:∀ x,x ∈ l→x<256) (hl:l.length≤8):iQ l<18446744073709551616:=by
 have h1:=EE l h 0;have h2:256 ^ l.length≤256 ^ 8:=Nat.pow_le_pow_right aq hl;have h3:(256:Nat) ^ 8=18446744073709551616:=by decide
 unfold iQ;omega
theorem sO (a b:List Nat):iQ (a ++ b)=iQ a*256 ^ b.length+iQ b:=by
 have key:∀ (l:List Nat) (c:Nat),l.foldl (fun a x=>a*256+x) c=c*256 ^ l.length+l.foldl (fun a x=>a*256+x) 0:=by
  intro l
  induction l with
  | nil=>intro c;simp
  | cons x r ih =>
   intro c;rw [List.foldl_cons,List.foldl_cons,ih,ih (0*256+x),List.length_cons,Nat.pow_succ]
   have:(c*256+x)*256 ^ r.length=c*(256 ^ r.length*256)+(0*256+x)*256 ^ r.length:=by
    rw [Nat.add_mul,Nat.mul_assoc,Nat.mul_comm 256,Nat.zero_mul,Nat.zero_add]
   omega
 unfold iQ;rw [List.foldl_append,key]
theorem Tt {b:List Nat} (hb:b.length=32):V ((uR b 32).map fun (x:Nat)=>(x:Int))=(iQ b:Int):=by
 have e:b=Go.Sha.part b 32 3 ++ (Go.Sha.part b 32 2 ++ (Go.Sha.part b 32 1 ++ Go.Sha.part b 32 0)):=by
  unfold Go.Sha.part;have h32:b.take 32=b:=cA aq;rw [h32];have h0:(b.drop (8*(3 - 0))).take 8=b.drop 24:=cA (by rw [e_];omega)
  have s2:(b.drop (8*(3 - 1))).take 8 ++ b.drop 24=b.drop 16:=by
   have:b.drop 24=(b.drop 16).drop 8:=by rw [List.drop_drop]
   rw [this];exact List.take_append_drop 8 _
  have s3:(b.drop (8*(3 - 2))).take 8 ++ b.drop 16=b.drop 8:=by
   have:b.drop 16=(b.drop 8).drop 8:=by rw [List.drop_drop]
   rw [this];exact List.take_append_drop 8 _
  rw [h0,s2,s3];exact (List.take_append_drop 8 b).symm
 have l0:∀ j,j<4→(Go.Sha.part b 32 j).length=8:=by
  intro j hj;unfold Go.Sha.part;rw [List.length_take,e_,List.length_take];omega
 have m:uR b 32=[iQ (Go.Sha.part b 32 0),iQ (Go.Sha.part b 32 1),iQ (Go.Sha.part b 32 2),iQ (Go.Sha.part b 32 3)]:=rfl
 have k:iQ b=((iQ (Go.Sha.part b 32 3)*256 ^ 8+iQ (Go.Sha.part b 32 2))*256 ^ 8+iQ (Go.Sha.part b 32 1))*256 ^ 8+iQ (Go.Sha.part b 32 0):=by
  conv=>lhs;rw [e]
  rw [← cD,← cD,sO,l0 0 aq,sO,l0 1 aq,sO,l0 2 aq]
 rw [m,k];simp only [List.map_cons,List.map_nil,V4];generalize iQ (Go.Sha.part b 32 0)=p0;generalize iQ (Go.Sha.part b 32 1)=p1;generalize iQ (Go.Sha.part b 32 2)=p2;generalize iQ (Go.Sha.part b 32 3)=p3;omega
theorem uq (b:List Nat) (hb:b.length=32) (hby:bytes b):∃ a:List Int,Wn 4 a∧V a=(iQ b:Int)∧av Tryz.prog 164 [.agg (cb b)] (fun r=>r=.agg (cI a)):=by
 refine ⟨(uR b 32).map fun (x:Nat)=>(x:Int),⟨by simp [uR],fun x hx=>?_⟩,Tt hb,?_⟩
 ·rw [List.mem_map] at hx;obtain ⟨y,hy,rfl⟩:=hx;unfold uR at hy;rw [List.mem_map] at hy;obtain ⟨j,_,rfl⟩:=hy;have:=BM (l:=Go.Sha.part b 32 j) (fun x hx=>hby x (List.mem_of_mem_take (List.mem_of_mem_drop (List.mem_of_mem_take hx)))) (by unfold Go.Sha.part;rw [List.length_take];omega);exact ⟨Int.natCast_nonneg _,aq⟩
 ·have e:cI ((uR b 32).map fun (x:Nat)=>(x:Int))=cW (uR b 32):=by unfold cI cW;rw [List.map_map];rfl
  rw [e];exact NN b hb hby
theorem cn (b:List Nat):∀ v,v ∈ [AV.agg (cb b)]→v.deep:=by
 intro v hv;simp at hv;subst hv;exact dC _
theorem Ak (b:List Nat) (hb:b.length=32) (hby:bytes b):∃ (r:List Int) (ok:Bool),Wn 4 r∧((iQ b<115792089237316195423570985008687907852837564279074904382605163141518161494337→ok=true∧V r=(iQ b:Int))∧(¬ iQ b<115792089237316195423570985008687907852837564279074904382605163141518161494337→ok=false∧r=zI))∧av Tryz.prog 178 [.agg (cb b)] (fun x=>x=.tup [.agg (cI r),.d (.bool ok)]):=by
 obtain ⟨a,ha,va,f1⟩:=uq b hb hby;obtain ⟨c,vc,f2⟩:=EB a OI ha KC;have vo:V OI=115792089237316195423570985008687907852837564279074904382605163141518161494337:=by simp [V,OI]
 rw [vo,va] at vc;have hal:=ha.1;have hz:List.drop 4 (cI zI)=[]:=aW rfl;have zd:List.drop 32 (cb b)=[]:=gP hb;by_cases h0:0≤c
 ·refine ⟨zI,false,jC,⟨fun h=>absurd (vc.2 aq) aq,fun _=>⟨rfl,rfl⟩⟩,?_⟩;refine bK Tryz.func178 Tryz.ntmps178 (rs:=[.cell 2 96,.tmp 3]) (cn b) ?_;simp [go_sem,ao,hb,ar hb,zd];refine ag f1 (cn _) ?_;simp [go_sem,hal,ae hal,hz];refine b7 [0] [(1,[]),(2,[3])] 2 (k:=4) ?_;intro G hG;simp [go_sem,hal,ae hal];refine ag qf aw ?_;simp [go_sem];refine ag f2 (aJ _ _) ?_;simp [go_sem,dK];refine hG _ _ ?_;simp [go_sem,h0,hz,ah];exact nK (a:=zI) rfl
 ·refine ⟨a,true,ha,⟨fun _=>⟨rfl,va⟩,fun h=>absurd (vc.1 aq) aq⟩,?_⟩;refine bK Tryz.func178 Tryz.ntmps178 (rs:=[.cell 2 96,.tmp 3]) (cn b) ?_;simp [go_sem,ao,hb,ar hb,zd];refine ag f1 (cn _) ?_;simp [go_sem,hal,ae hal,hz];refine b7 [0] [(1,[]),(2,[3])] 2 (k:=4) ?_;intro G hG;simp [go_sem,hal,ae hal];refine ag qf aw ?_;simp [go_sem];refine ag f2 (aJ _ _) ?_;simp [go_sem,dK];refine hG _ _ ?_;simp [go_sem,h0,hal,ae hal,hz,ah];exact nK rfl
theorem yg {Q:AV→Prop} {st:St} {x y:List Int} {c b:Bool} (hq:Q (.tup [.agg (cP x y c),.d (.bool b)])):dy Q (.tup [.agg (cP x y c),.d (.bool b)]) st :=
 aa (by
  intro c hc;simp at hc;rcases hc with rfl | rfl
  ·exact .inr ⟨_,rfl,jE _ _ _⟩
  ·exact .inl trivial) hq
def mW (n:Nat):Int:=((n:Int)*n*n+7) % 115792089237316195423570985008687907853269984665640564039457584007908834671663
def nY (n:Nat):Int:=mW n ^ 28948022309329048855892746252171976963317496166410141009864396001977208667916 % 115792089237316195423570985008687907853269984665640564039457584007908834671663
def ry (n:Nat):Prop:=(n:Int)<115792089237316195423570985008687907853269984665640564039457584007908834671663∧nY n*nY n % 115792089237316195423570985008687907853269984665640564039457584007908834671663=mW n % 115792089237316195423570985008687907853269984665640564039457584007908834671663
def KD (n:Nat) (x y:List Int) (c ok:Bool):Prop :=
 (¬ ry n∧ok=false∧c=true∧x=zI∧y=zI) ∨ (ry n∧ok=true∧c=false∧V x=n∧V y=if nY n % 2=0 then nY n else (0 - nY n) % 115792089237316195423570985008687907853269984665640564039457584007908834671663)
theorem OK {r a:List Int} {n:Nat} (hr:Wn 4 r) (va:V a=n) (vr:V r<pZ∧FV r=FV a*FV a*FV a+7):V r=mW n:=by
 have e:=congrArg (fun x:F=>((x.val:Nat):Int)) vr.2;simp only [d6] at e
 have e7:(((7:F).val:Nat):Int)=7 % pZ:=by
  show ((7 % pP:Nat):Int)=_;rw [Int.natCast_emod,jk];rfl
 have h0:=(j7 hr).1;rw [Int.emod_eq_of_lt h0 vr.1] at e;rw [e,GG,so,so,Int.natCast_emod,Int.natCast_add,Int.natCast_emod,Int.natCast_mul,Int.natCast_emod,Int.natCast_mul,d6,e7,jk,va];unfold mW;show _=((n:Int)*n*n+7) % pZ;rw [← Int.mul_emod (n:Int) n,← Int.mul_emod ((n:Int)*n) n,← Int.add_emod]
theorem An (b:List Nat) (hb:b.length=32) (hby:bytes b):∃ (x y:List Int) (c ok:Bool),Wn 4 x∧Wn 4 y∧(KD (iQ b) x y c ok)∧av Tryz.prog 165 [.agg (cb b)] (fun r=>r=.tup [.agg (cP x y c),.d (.bool ok)]):=by
 obtain ⟨a,ha,va,f1⟩:=uq b hb hby;obtain ⟨o,vo,f2⟩:=um a ha;obtain ⟨r,hr,vr,f3⟩:=Ai a ha;obtain ⟨y,ok,hy,vk,vy,vno,f4⟩:=JQ r hr;have hrv:V r=mW (iQ b):=OK hr va vr;rw [va] at vo;rw [hrv] at vk vy;unfold W1 at f3;have hal:=ha.1;have hyl:=hy.1;have hz:List.drop 4 (cI zI)=[]:=aW rfl;have zd:List.drop 32 (cb b)=[]:=gP hb;have pd:(cP zI zI false).drop 9=[]:=nM rfl rfl _;have zl:(cP zI zI true).length=9:=rfl;have zt:(cP zI zI true).take 9=cP zI zI true:=cY rfl rfl _;have zl2:(cP zI zI false).length=9:=rfl
 cases o
 ·refine ⟨zI,zI,true,false,jC,jC,.inl ⟨fun h=>absurd (vo.2 h.1) (by decide),rfl,rfl,rfl,rfl⟩,?_⟩;refine bK Tryz.func165 Tryz.ntmps165 (rs:=[.cell 2 189,.tmp 3]) (cn b) ?_;simp [go_sem,ao,hb,ar hb,zd];refine ag f1 (cn _) ?_;simp [go_sem,hal,ae hal,hz];refine ag f2 (aO _) ?_;simp [go_sem];refine ag jF aw ?_;simp [go_sem,zl,zt,pd,zl2,ah];exact yg rfl
 ·cases ok
  ·refine ⟨zI,zI,true,false,jC,jC,.inl ⟨fun h=>absurd (vk.2 h.2) (by decide),rfl,rfl,rfl,rfl⟩,?_⟩;refine bK Tryz.func165 Tryz.ntmps165 (rs:=[.cell 2 189,.tmp 3]) (cn b) ?_;simp [go_sem,ao,hb,ar hb,zd];refine ag f1 (cn _) ?_;simp [go_sem,hal,ae hal,hz];refine ag f2 (aO _) ?_;simp [go_sem,hal,ae hal];refine ag f3 (aO _) ?_;simp [go_sem];refine ag f4 (aO _) ?_;simp [go_sem,hyl,ae hyl,hz];refine ag jF aw ?_;simp [go_sem,zl,zt,pd,zl2,ah];exact yg rfl
  ·refine ⟨a,y,false,true,ha,hy,.inr ⟨⟨vo.1 rfl,vk.1 rfl⟩,rfl,rfl,va,vy rfl⟩,?_⟩;refine bK Tryz.func165 Tryz.ntmps165 (rs:=[.cell 2 189,.tmp 3]) (cn b) ?_;simp [go_sem,ao,hb,ar hb,zd];refine ag f1 (cn _) ?_;simp [go_sem,hal,ae hal,hz];refine ag f2 (aO _) ?_;simp [go_sem,hal,ae hal];refine ag f3 (aO _) ?_;simp [go_sem];refine ag f4 (aO _) ?_;have mp:=ZA hal hyl;have pl1:=bU hal hyl false;have pt1:=cY hal hyl false;simp [go_sem,hal,hyl,ae hal,ae hyl,hz,mp,pl1,pt1,pd,zl2,ah];exact yg rfl
def d8 (i:Nat):Nat:=i / 8
def r8 (i:Nat):Nat:=8*(i % 8)
def Tu (a:List Int) (k:Nat):Nat:=(IntKind.u8.wrap (Int.fdiv (gI a (d8 k)) (2 ^ r8 k))).toNat
def LI (a:List Int) (k:Nat) (l:List Nat):List Nat:=l.set (31 - k) (Tu a k)
theorem KE (a:List Int) (k:Nat):IntKind.u8.wrap (Int.fdiv (gI a (d8 k)) (2 ^ r8 k))=((Tu a k:Nat):Int):=by
 unfold Tu;have:IntKind.u8.wrap (Int.fdiv (gI a (d8 k)) (2 ^ r8 k))=(Int.fdiv (gI a (d8 k)) (2 ^ r8 k)) % 256:=by simp [IntKind.wrap,IntKind.bits,IntKind.signed]
 rw [this];omega
theorem Tv (a:List Int) (k:Nat):Tu a k<256:=by
 have h:=KE a k;have:IntKind.u8.wrap (Int.fdiv (gI a (d8 k)) (2 ^ r8 k))=(Int.fdiv (gI a (d8 k)) (2 ^ r8 k)) % 256:=by simp [IntKind.wrap,IntKind.bits,IntKind.signed]
 rw [this] at h;omega
theorem CP (a:List Int):∀ k,(eF (LI a) z32 k).length=32∧bytes (eF (LI a) z32 k) :=
 iR (P:=fun _ l=>l.length=32∧bytes l) ⟨rfl,fun x hx=>by simp [z32] at hx;omega⟩ fun k l hl=>by
  refine ⟨by unfold LI;rw [List.length_set];exact hl.1,fun x hx=>?_⟩;rcases List.mem_or_eq_of_mem_set hx with hx | rfl
  ·exact hl.2 x hx
  ·exact Tv _ _
theorem WP {a:List Int} (ha:Wn 4 a) {k:Nat} (hk:k<32):Tu a k=(V a).toNat / 256 ^ k % 256:=by
 have hw:=JM ha (j:=k / 8) aq;have hi:=KE a k;have hu:IntKind.u8.wrap (Int.fdiv (gI a (d8 k)) (2 ^ r8 k))=(Int.fdiv (gI a (d8 k)) (2 ^ r8 k)) % 256:=by simp [IntKind.wrap,IntKind.bits,IntKind.signed]
 have hd:d8 k=k / 8:=rfl;have hr:r8 k=8*(k % 8):=rfl;rw [hu,hd,hr,← hw,Int.fdiv_eq_ediv_of_nonneg _ (Int.le_of_lt (Int.pow_pos aq))] at hi;generalize (V a).toNat=N at *
 have h1:Tu a k=N / 2 ^ (64*(k / 8)) % 2 ^ 64 / 2 ^ (8*(k % 8)) % 256:=by
  have e:∀ (z s:Nat),(((z / 2 ^ s % 256:Nat)):Int)=(z:Int) / 2 ^ s % 256:=fun z s=>by rw [Int.natCast_emod,Int.natCast_ediv,Int.natCast_pow];rfl
  exact (Int.ofNat_inj.1 ((e _ _).trans hi)).symm
 rw [h1];have e64:(2:Nat) ^ 64=2 ^ (8*(k % 8))*2 ^ (64 - 8*(k % 8)):=by rw [← Nat.pow_add];congr 1;omega
 have e8:(256:Nat) ∣ 2 ^ (64 - 8*(k % 8)):=⟨2 ^ (56 - 8*(k % 8)),by rw [show (256:Nat)=2 ^ 8 from rfl,← Nat.pow_add];congr 1;omega⟩
 have e256:(256:Nat) ^ k=2 ^ (64*(k / 8))*2 ^ (8*(k % 8)):=by
  rw [show (256:Nat)=2 ^ 8 from rfl,← Nat.pow_mul,← Nat.pow_add];congr 1;omega
 rw [e64,Nat.mod_mul_right_div_self,Nat.mod_mod_of_dvd _ e8,Nat.div_div_eq_div_mul,← e256]
def CQ (a:List Int):Nat→List Nat
 | 0=>[]
 | k+1=>Tu a k :: CQ a k
theorem Ao (a:List Int):∀ k,(CQ a k).length=k
 | 0=>rfl
 | k+1=>by rw [CQ,List.length_cons,Ao a k]
theorem KF (x:Nat) (l:List Nat):iQ (x :: l)=x*256 ^ l.length+iQ l:=by
 have:=sO [x] l;have e:iQ [x]=x:=by simp [iQ]
 rw [e] at this;exact this
theorem KG {a:List Int} (ha:Wn 4 a):∀ k,k≤32→iQ (CQ a k)=(V a).toNat % 256 ^ k
 | 0,_=>by rw [CQ,Nat.pow_zero,Nat.mod_one];rfl
 | k+1,h=>by
  rw [CQ,KF,Ao,KG ha k aq,WP ha aq,Nat.mod_pow_succ,Nat.mul_comm,Nat.add_comm]
theorem EF (a:List Int):∀ k,k≤32→eF (LI a) z32 k=List.replicate (32 - k) 0 ++ CQ a k
 | 0,_=>rfl
 | k+1,h=>by
  rw [eF,EF a k aq];unfold LI;have e:32 - k=(31 - k)+1:=aq;have e2:32 - (k+1)=31 - k:=aq;rw [e,e2,List.replicate_succ',cD,List.set_append_right _ _ aw,List.length_replicate,Nat.sub_self];rfl
theorem WQ {a:List Int} (ha:Wn 4 a):iQ (eF (LI a) z32 32)=(V a).toNat:=by
 rw [EF a 32 aq,Nat.sub_self,List.replicate_zero,List.nil_append,KG ha 32 aq];have h:=j7 ha
 exact Nat.mod_eq_of_lt (by
  have:(256:Nat) ^ 32=115792089237316195423570985008687907853269984665640564039457584007913129639936:=by decide
  omega)
theorem GI (a:List Int) (ha:Wn 4 a):∃ b:List Nat,b.length=32∧bytes b∧iQ b=(V a).toNat∧av Tryz.prog 85 [.agg (cI a)] (fun r=>r=.agg (cb b)):=by
 refine ⟨eF (LI a) z32 32,(CP a 32).1,(CP a 32).2,WQ ha,?_⟩;refine bK Tryz.func85 Tryz.ntmps85 (rs:=[.cell 2 29]) (aO a) ?_;have hal:=ha.1;simp [go_sem,hal,ae hal];generalize hSS:eF (LI a) z32=S at *;have hS:=CP a;rw [hSS] at hS
 refine ax (fun k:Nat=>⟨[(1,.ptr 0 0 0 1),(2,.ptr 32 0 0 1),(3,.ptr 64 0 0 1),(5,.d (.int .i64 (k:Int)))],[(64,⟨29,32,[cb (S k)]⟩),(32,⟨29,32,[cb z32]⟩),(0,⟨96,4,[cI a]⟩)],20000⟩)
  (fun k=>k≤32) (fun k=>32 - k) 0 aq (by
   rw [← hSS];simp [ay,ai,fv,lk,AV.low,AV.low1,eF]
   and_intros <;> first | rfl | exact bR _ _ | exact aL _ _) ?_
 intro k hk;obtain ⟨hs1,hs2⟩:=hS k;have w3:=aA (k:=k) aq;simp only [go_sem,Nat.reduceEqDiff,Nat.reduceAdd,Nat.reduceLT,↓reduceIte];by_cases h4:k<32
 ·refine ⟨fun h=>?_,fun h=>absurd (by exact_mod_cast h4) h⟩;have hsn:S (k+1)=LI a k (S k):=by rw [← hSS];rfl
  have hdq:d8 k=k / 8:=rfl;have hrq:r8 k=8*(k % 8):=rfl;have hnk:=jd (l:=a) (k:=d8 k) aq;have w4:IntKind.i64.wrap ((k:Int) / 8)=(d8 k:Int):=by rw [IntWalk.i64_in _ aq];omega
  have w4b:IntKind.i64.wrap ((k:Int).tdiv 8)=(d8 k:Int):=w4;have e2:IntKind.i64.wrap (8*((k:Int) % 8))=(r8 k:Int):=by rw [IntWalk.i64_in _ aq];omega
  have e2b:IntKind.i64.wrap (8*((k:Int).tmod 8))=(r8 k:Int):=e2;have e3:IntKind.i64.wrap (31 - (k:Int))=((31 - k:Nat):Int):=by rw [IntWalk.i64_in _ aq];omega
  have i1:(d8 k:Int)<4:=aq;have hm64:r8 k<64:=aq;have hmn:min (r8 k) 64=r8 k:=aq;have i3:((31 - k:Nat):Int)<32:=aq;have i4:31 - k<32:=aq;simp [go_sem,hnk,hal,e2,e2b,w4,w4b,e3,i1,i3,i4,hm64,hmn,IntKind.bits,KE,Bv,ao,hs1,w3];refine al (k+1) aq aq ?_;rw [hsn];simp [ay,ai,fv,lk,AV.low,AV.low1,LI];and_intros <;> first | rfl | exact bR _ _ | exact aL _ _
 ·refine ⟨fun h=>absurd (by exact_mod_cast h) h4,fun h=>?_⟩;have hkl:k=32:=aq;subst hkl;simp [go_sem,ao,hs1,ar hs1,gP (l:=z32) rfl,ah];exact aa (dC _) rfl
theorem Tz {Q:AV→Prop} {st:St} {b:List Nat} (hq:Q (.agg (cb b))):dy Q (.agg (cb b)) st:=aa (dC _) hq
theorem wj (x y:List Int) (c:Bool) (hx:Wn 4 x) (hy:Wn 4 y):∃ b:List Nat,b.length=32∧bytes b∧(jl x y c→iQ b=(V x).toNat)∧av Tryz.prog 129 [.agg (cP x y c)] (fun r=>r=.agg (cb b)):=by
 obtain ⟨u,v,d,hu,hv,tv,f1⟩:=qe x y c hx hy;obtain ⟨b,hb,hbb,vb,f2⟩:=GI u hu;refine ⟨b,hb,hbb,fun h=>by rw [vb,(tv.2.1 h).1],?_⟩;refine bK Tryz.func129 Tryz.ntmps129 (rs:=[.cell 2 29]) (dx _ _ _) ?_;have hxl:=hx.1;have hyl:=hy.1;have ul:=bU hu.1 hv.1 d;have ux:=Tj (y:=v) hu.1 d;have zd:List.drop 32 (cb z32)=[]:=gP rfl;simp [go_sem,bU hxl hyl,cY hxl hyl];refine ag f1 (dx _ _ _) ?_;simp [go_sem,ul,ux];refine ag f2 (aO _) ?_;simp [go_sem,ao,hb,ar hb,zd,ah];exact Tz rfl
def WR (a b:List Nat):Nat→AV
 | 0=>.nil
 | 1=>.own 1192 0 a.length a.length
 | _=>.own 1192 0 (a ++ b).length (a ++ b).length
def WS (a b:List Nat):Nat→Hp
 | 0=>[]
 | 1=>[(1192,⟨5,1,rb a⟩)]
 | _=>[(1192,⟨5,1,rb (a ++ b)⟩)]
def OL:Nat→Nat
 | 0=>1000
 | _=>2000
theorem GK (a b:List Nat) (ha:a.length=32) (hb:b.length≤1000000):av Tryz.prog 89 [.d (.ro 1 [[nb a],[nb b]])] (fun r=>r=.d (nb (a ++ b))):=by
 refine bK Tryz.func89 Tryz.ntmps89 (rs:=[.tmp 2]) a9 ?_;simp [go_sem]
 refine ax (fun k:Nat=>⟨[(3,WR a b k),(6,.d (.ro 1 [[nb a],[nb b]])),(7,.d (.int .i64 2)),(8,.d (.int .i64 (k:Int)))],WS a b k,OL k⟩)
  (fun k=>k≤2) (fun k=>2 - k) 0 aq (by simp [ay,ai,fv,lk,AV.low,AV.low1,WR,WS,OL]) ?_
 intro k hk;simp only [go_sem,Nat.reduceEqDiff,Nat.reduceAdd,Nat.reduceLT,↓reduceIte]
 match k,hk with
 | 0,_ =>
  refine ⟨fun _=>?_,fun h=>absurd (by decide) h⟩;simp [go_sem,WR,WS,OL,nb,cC];refine ⟨by rw [aH];omega,?_⟩;have w1:IntKind.i64.wrap 1=1:=by decide
  refine al 1 aq aq ?_;simp [ay,ai,fv,lk,AV.low,AV.low1,aH,w1];exact bp _ _
 | 1,_ =>
  refine ⟨fun _=>?_,fun h=>absurd (by decide) h⟩;simp [go_sem,WR,WS,OL,nb,cC,aH];refine ⟨aq,?_⟩;have w1:IntKind.i64.wrap 2=2:=by decide
  have ra:rb (a ++ b)=rb a ++ rb b:=by simp [rb]
  refine al 2 aq aq ?_;simp [ay,ai,fv,lk,AV.low,AV.low1,aH,w1,ra];intro r hr;exact hr.elim (bp _ _ r) (bp _ _ r)
 | 2,_ =>
  refine ⟨fun h=>absurd h (by decide),fun _=>?_⟩;simp [go_sem,WR,WS,ah];have hl2:a.length+b.length=(a ++ b).length:=by rw [b_]
  rw [hl2];exact iF rfl (by simp [nb])
theorem WT (x y:List Int):JV x y zI=none:=by
 show pY fd _ _ (FV zI)=none;rw [yd];exact Ag fd _ _
theorem oV (x y z x' y' z':List Int):∀ v,v ∈ [AV.agg (cV x y z),AV.agg (cV x' y' z')]→v.deep:=by
 intro v hv;simp at hv;rcases hv with rfl | rfl
 ·exact sN _ _ _
 ·exact sN _ _ _
theorem EG (x y z x' y' z':List Int) (hx:Wn 4 x) (hy:Wn 4 y) (hz:Wn 4 z) (hx':Wn 4 x') (hy':Wn 4 y') (hz':Wn 4 z'):∃ (u v w:List Int),Wn 4 u∧Wn 4 v∧Wn 4 w∧(rp x y z→rp x' y' z'→rp u v w∧JV u v w=sum fd (JV x y z) (JV x' y' z'))∧av Tryz.prog 181 [.agg (cV x y z),.agg (cV x' y' z')] (fun r=>r=.agg (cV u v w)):=by
 obtain ⟨pz2,h1,g1,f1⟩:=mU z hz;obtain ⟨qz2,h2,g2,f2⟩:=mU z' hz';obtain ⟨u1,h4,g4,f4⟩:=fU x qz2 hx h2;obtain ⟨u2,h5,g5,f5⟩:=fU x' pz2 hx' h1;obtain ⟨qz3,h6,g6,f6⟩:=fU qz2 z' h2 hz';obtain ⟨s1,h7,g7,f7⟩:=fU y qz3 hy h6;obtain ⟨pz3,h8,g8,f8⟩:=fU pz2 z h1 hz;obtain ⟨s2,h9,g9,f9⟩:=fU y' pz3 hy' h8;obtain ⟨h,h11,g11,f11⟩:=qd u2 u1 h5 h4;obtain ⟨r,h12,g12,f12⟩:=qd s2 s1 h9 h7;obtain ⟨hh,h13,g13,f13⟩:=mU h h11;obtain ⟨h3,h14,g14,f14⟩:=fU hh h h13 h11;obtain ⟨v,h15,g15,f15⟩:=fU u1 hh h4 h13;obtain ⟨rr,h16,g16,f16⟩:=mU r h12;obtain ⟨d1,h17,g17,f17⟩:=qd rr h3 h16 h14;obtain ⟨w2,h20,g20,f20⟩:=kZ 2 v ⟨aq,aq⟩ h15;obtain ⟨X,h18,g18,f18⟩:=qd d1 w2 h17 h20;obtain ⟨e1,h21,g21,f21⟩:=qd v X h15 h18;obtain ⟨e2,h22,g22,f22⟩:=fU r e1 h12 h21;obtain ⟨e3,h24,g24,f24⟩:=fU s1 h3 h7 h14;obtain ⟨Y,h19,g19,f19⟩:=qd e2 e3 h22 h24;obtain ⟨zz,h25,g25,f25⟩:=fU z z' hz hz';obtain ⟨Z,h23,g23,f23⟩:=fU h zz h11 h25;obtain ⟨wu,wv,ww,h26,h27,h28,g26,f26⟩:=mV zI zI true jC jC;obtain ⟨du,dv,dw,h29,h30,h31,g29,f29⟩:=uo x y z hx hy hz;unfold W1 at f1 f2 f13 f16;unfold W2 at f4 f5 f6 f7 f8 f9 f11 f12 f14 f15 f17 f18 f19 f21 f22 f23 f24 f25;have l1:=h1.1;have l2:=h2.1;have l4:=h4.1;have l5:=h5.1;have l6:=h6.1;have l7:=h7.1;have l8:=h8.1;have l9:=h9.1;have l11:=h11.1;have l12:=h12.1;have l13:=h13.1;have l14:=h14.1;have l15:=h15.1;have l16:=h16.1;have l17:=h17.1;have l18:=h18.1;have l19:=h19.1;have l20:=h20.1;have l21:=h21.1;have l22:=h22.1;have l23:=h23.1;have l24:=h24.1;have l25:=h25.1;have l26:=h26.1;have l27:=h27.1;have l28:=h28.1;have l29:=h29.1;have l30:=h30.1;have l31:=h31.1;have hxl:=hx.1;have hyl:=hy.1;have hzl:=hz.1;have hxlb:=hx'.1;have hylb:=hy'.1;have hzlb:=hz'.1;have z4:List.drop 4 (cI zI)=[]:=aW rfl;have vl:=dP hxl hyl hzl;have vt:=db hxl hyl hzl;have v1:(cV x y z).take 4=cI x:=OF hxl;have v2:=OG (z:=z) hxl hyl;have v3:=Ky hxl hyl hzl;have vlb:=dP hxlb hylb hzlb;have vtb:=db hxlb hylb hzlb;have v1b:(cV x' y' z').take 4=cI x':=OF hxlb;have v2b:=OG (z:=z') hxlb hylb;have v3b:=Ky hxlb hylb hzlb;have iz:bW .u64 [AV.d (.int .u64 0),AV.d (.int .u64 0),AV.d (.int .u64 0),AV.d (.int .u64 0)]=some zI:=ij zI;have f0:=nN x y z hx hy hz;have f0b:=nN x' y' z' hx' hy' hz';have wd:(cV zI zI zI).drop 12=[]:=kD rfl rfl rfl;have wl:(cV zI zI zI).length=12:=rfl;have ul:=dP l26 l27 l28;have ut:=db l26 l27 l28;have ul2:=dP l29 l30 l31;have ut2:=db l29 l30 l31;by_cases q1:z=zI
 ·have vv:rp x y z→rp x' y' z'→rp x' y' z'∧JV x' y' z'=sum fd (JV x y z) (JV x' y' z'):=by
   intro _ hj';refine ⟨hj',?_⟩;rw [q1,WT,fS fd hj'.2]
  refine ⟨x',y',z',hx',hy',hz',vv,?_⟩;refine bK Tryz.func181 Tryz.ntmps181 (rs:=[.cell 4 243]) (oV _ _ _ _ _ _) ?_;simp [go_sem,vl,vt,vlb,vtb];refine ag f0 (ff _ _ _) ?_;simp [go_sem,q1,vlb,vtb,wd,wl,ah];exact kL rfl
 by_cases q2:z'=zI
 ·have vv:rp x y z→rp x' y' z'→rp x y z∧JV x y z=sum fd (JV x y z) (JV x' y' z'):=by
   intro hj _;refine ⟨hj,?_⟩;rw [q2,WT,j9 fd hj.2]
  refine ⟨x,y,z,hx,hy,hz,vv,?_⟩;refine bK Tryz.func181 Tryz.ntmps181 (rs:=[.cell 4 243]) (oV _ _ _ _ _ _) ?_;simp [go_sem,vl,vt,vlb,vtb];refine ag f0 (ff _ _ _) ?_;simp [go_sem,q1,vl,vt,vlb,vtb];refine ag f0b (ff _ _ _) ?_;simp [go_sem,q2,vl,vt,wd,wl,ah];exact kL rfl
 have key:rp x y z→rp x' y' z'→(FV h ≠ 0→JV X Y Z=sum fd (JV x y z) (JV x' y' z'))∧(FV h=0→FV r=0→JV x y z=JV x' y' z')∧(FV h=0→FV r ≠ 0→sum fd (JV x y z) (JV x' y' z')=none):=by
  intro hj hj';have hz0:FV z ≠ 0:=fun h=>q1 ((lL hz hj.1.2.2).1 h);have hz0':FV z' ≠ 0:=fun h=>q2 ((lL hz' hj'.1.2.2).1 h);have k1:FV u1=FV x*(FV z'*FV z'):=by rw [g4.2,g2.2]
  have k2:FV u2=FV x'*(FV z*FV z):=by rw [g5.2,g1.2]
  have k3:FV s1=FV y*(FV z'*FV z'*FV z'):=by rw [g7.2,g6.2,g2.2]
  have k4:FV s2=FV y'*(FV z*FV z*FV z):=by rw [g9.2,g8.2,g1.2]
  obtain ⟨j1,j2,j3⟩:=Ko fd hz0 hz0' hj.2 hj'.2 k1 k2 k3 k4 g11.2 g12.2;refine ⟨fun hh0=>?_,j2,j3⟩;have n2:FV [2,0,0,0]=2:=CM 2 aq
  have eX:FV X=FV r*FV r - FV h*FV h*FV h - 2*(FV u1*(FV h*FV h)):=by
   rw [g18.2,g17.2,g16.2,g14.2,g13.2,g20.2,g15.2,g13.2,n2]
  have eY:FV Y=FV r*(FV u1*(FV h*FV h) - (FV r*FV r - FV h*FV h*FV h - 2*(FV u1*(FV h*FV h)))) - FV s1*(FV h*FV h*FV h):=by
   rw [g19.2,g22.2,g21.2,eX,g24.2,g15.2,g14.2,g13.2]
  have eZ:FV Z=FV h*(FV z*FV z'):=by rw [g23.2,g25.2]
  show pY fd (FV X) (FV Y) (FV Z)=_;rw [eX,eY,eZ];exact j1 hh0
 obtain ⟨Ua,Va,Wa,hU,hV,hW,vv,e1,e2,e3⟩:∃ (Ua Va Wa:List Int),Wn 4 Ua∧Wn 4 Va∧Wn 4 Wa∧(rp x y z→rp x' y' z'→rp Ua Va Wa∧JV Ua Va Wa=sum fd (JV x y z) (JV x' y' z'))∧(h=zI→r=zI→(du=Ua∧dv=Va∧dw=Wa))∧(h=zI→r ≠ zI→(wu=Ua∧wv=Va∧ww=Wa))∧(h ≠ zI→(X=Ua∧Y=Va∧Z=Wa)):=by
  have fz:∀ {l:List Int},l=zI→FV l=0:=fun h=>by rw [h,yd]
  by_cases q3:h=zI
  ·by_cases q4:r=zI
   ·refine ⟨du,dv,dw,h29,h30,h31,fun hj hj'=>?_,fun _ _=>⟨rfl,rfl,rfl⟩,fun _ h=>absurd q4 h,fun h=>absurd q3 h⟩;obtain ⟨m1,m2⟩:=g29 hj;refine ⟨m1,?_⟩;rw [m2,← (key hj hj').2.1 (fz q3) (fz q4)]
   ·refine ⟨wu,wv,ww,h26,h27,h28,fun hj hj'=>?_,fun _ h=>absurd h q4,fun _ _=>⟨rfl,rfl,rfl⟩,fun h=>absurd q3 h⟩;obtain ⟨m1,m2⟩:=g26 uk;refine ⟨m1,?_⟩;rw [m2,Kv,(key hj hj').2.2 (fz q3) (fun h=>q4 ((lL h12 g12.1).1 h))]
  ·refine ⟨X,Y,Z,h18,h19,h23,fun hj hj'=>?_,fun h=>absurd h q3,fun h=>absurd h q3,fun _=>⟨rfl,rfl,rfl⟩⟩;have e:=(key hj hj').1 (fun h=>q3 ((lL h11 g11.1).1 h));exact ⟨⟨⟨g18.1,g19.1,g23.1⟩,by rw [e];exact oS fd hj.2 hj'.2⟩,e⟩
 refine ⟨Ua,Va,Wa,hU,hV,hW,vv,?_⟩;refine bK Tryz.func181 Tryz.ntmps181 (rs:=[.cell 4 243]) (oV _ _ _ _ _ _) ?_;simp [go_sem,vl,vt,vlb,vtb];refine ag f0 (ff _ _ _) ?_;simp [go_sem,q1,vl,vt,vlb,vtb];refine ag f0b (ff _ _ _) ?_;simp [go_sem,q2,vl,vt,vlb,vtb,v1,v2,v3,v1b,v2b,v3b];refine ed [0,1,3,4] [2,5,6,7,8,9] [0,1,3,4] (.alt (bt 2 (.alt (bx 5 (.alt (a_ [6,7,8,9]) (a_ [7,6,8,9]))) (.alt (bt 6 (.alt (a_ [5,7,8,9]) (bt 7 (a_ [5,8,9])))) (bt 7 (.alt (a_ [5,6,8,9]) (bt 6 (a_ [5,8,9]))))))) (.alt (bt 6 (.alt (bt 2 (.alt (a_ [5,7,8,9]) (bt 7 (a_ [5,8,9])))) (bt 7 (bt 2 (a_ [5,8,9]))))) (bt 7 (.alt (bt 2 (.alt (a_ [5,6,8,9]) (bt 6 (a_ [5,8,9])))) (bt 6 (bt 2 (a_ [5,8,9]))))))) ⟨[(2,.ptr 0 0 0 1),(3,.ptr 32 0 0 1),(4,.ptr 64 0 0 1),(5,.ptr 480 0 0 1),(6,.ptr 512 0 0 1)],[(512,⟨96,4,[cI qz2]⟩),(480,⟨96,4,[cI pz2]⟩),(64,⟨243,12,[cV zI zI zI]⟩),(32,⟨243,12,[cV x' y' z']⟩),(0,⟨243,12,[cV x y z]⟩)],9000⟩ (k:=10) ?h3 ?hq
 case h3 =>
  intro G hG
  have hW:∀ (fr:Fr) (hp:Hp),(fv 2 fr=.ptr 0 0 0 1∧fv 3 fr=.ptr 32 0 0 1∧fv 4 fr=.ptr 64 0 0 1∧fv 5 fr=.ptr 480 0 0 1∧fv 6 fr=.ptr 512 0 0 1∧lk 512 hp=some ⟨96,4,[cI qz2]⟩∧lk 480 hp=some ⟨96,4,[cI pz2]⟩∧lk 64 hp=some ⟨243,12,[cV zI zI zI]⟩∧lk 32 hp=some ⟨243,12,[cV x' y' z']⟩∧lk 0 hp=some ⟨243,12,[cV x y z]⟩)→G fr hp:=by
   rintro fr hp ⟨q0,q1,q2,q3,q4,q5,q6,q7,q8,q9⟩;exact hG _ _ se
  simp [go_sem,l1,l2,ae l1,ae l2,z4,v3,v3b,vl,vlb,dK]
  repeat' first | exact hW _ _ ⟨rfl,rfl,rfl,rfl,rfl,rfl,rfl,rfl,rfl,rfl⟩ | (refine hW _ _ ?_;simp [fv,lk];done) | refine ag f1 (aO _) ?_ | refine ag f2 (aO _) ?_ | apply And.intro | simp [go_sem,l1,l2,ae l1,ae l2,z4,v3,v3b,vl,vlb,dK]
 case hq =>
  simp [go_sem];refine ed [0,1,2,4,5,6] [3,7,8,9,10,11] [0,1,2,4,5,6] (.alt (bt 3 (.alt (bx 7 (.alt (a_ [8,9,10,11]) (a_ [9,8,10,11]))) (.alt (bt 8 (.alt (a_ [7,9,10,11]) (bt 9 (a_ [7,10,11])))) (bt 9 (.alt (a_ [7,8,10,11]) (bt 8 (a_ [7,10,11]))))))) (.alt (bt 8 (.alt (bt 3 (.alt (a_ [7,9,10,11]) (bt 9 (a_ [7,10,11])))) (bt 9 (bt 3 (a_ [7,10,11]))))) (bt 9 (.alt (bt 3 (.alt (a_ [7,8,10,11]) (bt 8 (a_ [7,10,11])))) (bt 8 (bt 3 (a_ [7,10,11]))))))) ⟨[(2,.ptr 0 0 0 1),(3,.ptr 32 0 0 1),(4,.ptr 64 0 0 1),(5,.ptr 480 0 0 1),(6,.ptr 512 0 0 1),(7,.ptr 9256 0 0 1),(8,.ptr 9288 0 0 1)],[(9288,⟨96,4,[cI u2]⟩),(9256,⟨96,4,[cI u1]⟩),(512,⟨96,4,[cI qz2]⟩),(480,⟨96,4,[cI pz2]⟩),(64,⟨243,12,[cV zI zI zI]⟩),(32,⟨243,12,[cV x' y' z']⟩),(0,⟨243,12,[cV x y z]⟩)],20000⟩ (k:=12) ?h3 ?hq
  case h3 =>
   intro G hG
   have hW:∀ (fr:Fr) (hp:Hp),(fv 2 fr=.ptr 0 0 0 1∧fv 3 fr=.ptr 32 0 0 1∧fv 4 fr=.ptr 64 0 0 1∧fv 5 fr=.ptr 480 0 0 1∧fv 6 fr=.ptr 512 0 0 1∧fv 7 fr=.ptr 9256 0 0 1∧fv 8 fr=.ptr 9288 0 0 1∧lk 9288 hp=some ⟨96,4,[cI u2]⟩∧lk 9256 hp=some ⟨96,4,[cI u1]⟩∧lk 512 hp=some ⟨96,4,[cI qz2]⟩∧lk 480 hp=some ⟨96,4,[cI pz2]⟩∧lk 64 hp=some ⟨243,12,[cV zI zI zI]⟩∧lk 32 hp=some ⟨243,12,[cV x' y' z']⟩∧lk 0 hp=some ⟨243,12,[cV x y z]⟩)→G fr hp:=by
    rintro fr hp ⟨q0,q1,q2,q3,q4,q5,q6,q7,q8,q9,q10,q11,q12,q13⟩;exact hG _ _ se
   simp [go_sem,l1,l2,l4,l5,ae l1,ae l2,ae l4,ae l5,z4,v1,v1b,vl,vlb,dK]
   repeat' first | exact hW _ _ ⟨rfl,rfl,rfl,rfl,rfl,rfl,rfl,rfl,rfl,rfl,rfl,rfl,rfl,rfl⟩ | (refine hW _ _ ?_;simp [fv,lk];done) | refine ag f4 (aJ _ _) ?_ | refine ag f5 (aJ _ _) ?_ | apply And.intro | simp [go_sem,l1,l2,l4,l5,ae l1,ae l2,ae l4,ae l5,z4,v1,v1b,vl,vlb,dK]
  case hq =>
   simp [go_sem];refine ed [0,1,2,3,4,7,8,9,10,11] [5,6,12,13,14,15,16,17] [0,1,2,3,4,7,8,9,10,11] (.alt (bt 5 (.alt (bt 6 (.alt (bt 12 (.alt (bx 13 (.alt (a_ [14,15,16,17]) (a_ [15,14,16,17]))) (.alt (bt 14 (.alt (a_ [13,15,16,17]) (bt 15 (a_ [13,16,17])))) (bt 15 (.alt (a_ [13,14,16,17]) (bt 14 (a_ [13,16,17]))))))) (.alt (bt 14 (.alt (bt 12 (.alt (a_ [13,15,16,17]) (bt 15 (a_ [13,16,17])))) (bt 15 (bt 12 (a_ [13,16,17]))))) (bt 15 (.alt (bt 12 (.alt (a_ [13,14,16,17]) (bt 14 (a_ [13,16,17])))) (bt 14 (bt 12 (a_ [13,16,17])))))))) (.alt (bt 14 (.alt (bt 6 (.alt (bt 12 (.alt (a_ [13,15,16,17]) (bt 15 (a_ [13,16,17])))) (bt 15 (bt 12 (a_ [13,16,17]))))) (bt 15 (bt 6 (bt 12 (a_ [13,16,17])))))) (bt 15 (.alt (bt 6 (.alt (bt 12 (.alt (a_ [13,14,16,17]) (bt 14 (a_ [13,16,17])))) (bt 14 (bt 12 (a_ [13,16,17]))))) (bt 14 (bt 6 (bt 12 (a_ [13,16,17]))))))))) (.alt (bt 14 (.alt (bt 5 (.alt (bt 6 (.alt (bt 12 (.alt (a_ [13,15,16,17]) (bt 15 (a_ [13,16,17])))) (bt 15 (bt 12 (a_ [13,16,17]))))) (bt 15 (bt 6 (bt 12 (a_ [13,16,17])))))) (bt 15 (bt 5 (bt 6 (bt 12 (a_ [13,16,17]))))))) (bt 15 (.alt (bt 5 (.alt (bt 6 (.alt (bt 12 (.alt (a_ [13,14,16,17]) (bt 14 (a_ [13,16,17])))) (bt 14 (bt 12 (a_ [13,16,17]))))) (bt 14 (bt 6 (bt 12 (a_ [13,16,17])))))) (bt 14 (bt 5 (bt 6 (bt 12 (a_ [13,16,17]))))))))) ⟨[(2,.ptr 0 0 0 1),(3,.ptr 32 0 0 1),(4,.ptr 64 0 0 1),(7,.ptr 9256 0 0 1),(8,.ptr 9288 0 0 1),(9,.ptr 20448 0 0 1),(10,.ptr 20480 0 0 1)],[(20480,⟨96,4,[cI s2]⟩),(20448,⟨96,4,[cI s1]⟩),(9288,⟨96,4,[cI u2]⟩),(9256,⟨96,4,[cI u1]⟩),(64,⟨243,12,[cV zI zI zI]⟩),(32,⟨243,12,[cV x' y' z']⟩),(0,⟨243,12,[cV x y z]⟩)],30000⟩ (k:=18) ?h3 ?hq
   case h3 =>
    intro G hG
    have hW:∀ (fr:Fr) (hp:Hp),(fv 2 fr=.ptr 0 0 0 1∧fv 3 fr=.ptr 32 0 0 1∧fv 4 fr=.ptr 64 0 0 1∧fv 7 fr=.ptr 9256 0 0 1∧fv 8 fr=.ptr 9288 0 0 1∧fv 9 fr=.ptr 20448 0 0 1∧fv 10 fr=.ptr 20480 0 0 1∧lk 20480 hp=some ⟨96,4,[cI s2]⟩∧lk 20448 hp=some ⟨96,4,[cI s1]⟩∧lk 9288 hp=some ⟨96,4,[cI u2]⟩∧lk 9256 hp=some ⟨96,4,[cI u1]⟩∧lk 64 hp=some ⟨243,12,[cV zI zI zI]⟩∧lk 32 hp=some ⟨243,12,[cV x' y' z']⟩∧lk 0 hp=some ⟨243,12,[cV x y z]⟩)→G fr hp:=by
     rintro fr hp ⟨q0,q1,q2,q3,q4,q5,q6,q7,q8,q9,q10,q11,q12,q13⟩;exact hG _ _ se
    simp [go_sem,l1,l2,l7,l9,ae l1,ae l2,ae l7,ae l9,z4,v2,v2b,v3,v3b,vl,vlb,dK]
    repeat' first | exact hW _ _ ⟨rfl,rfl,rfl,rfl,rfl,rfl,rfl,rfl,rfl,rfl,rfl,rfl,rfl,rfl⟩ | (refine hW _ _ ?_;simp [fv,lk];done) | refine ag f6 (aJ _ _) ?_ | refine ag f7 (aJ _ _) ?_ | refine ag f8 (aJ _ _) ?_ | refine ag f9 (aJ _ _) ?_ | apply And.intro | simp [go_sem,l1,l2,l7,l9,ae l1,ae l2,ae l7,ae l9,z4,v2,v2b,v3,v3b,vl,vlb,dK]
   case hq =>
    simp [go_sem];refine ed [0,1,3,4] [2,5,6,7,8,9] [0,1,3,4] (.alt (bt 2 (.alt (bx 5 (.alt (a_ [6,7,8,9]) (a_ [7,6,8,9]))) (.alt (bt 6 (.alt (a_ [5,7,8,9]) (bt 7 (a_ [5,8,9])))) (bt 7 (.alt (a_ [5,6,8,9]) (bt 6 (a_ [5,8,9]))))))) (.alt (bt 6 (.alt (bt 2 (.alt (a_ [5,7,8,9]) (bt 7 (a_ [5,8,9])))) (bt 7 (bt 2 (a_ [5,8,9]))))) (bt 7 (.alt (bt 2 (.alt (a_ [5,6,8,9]) (bt 6 (a_ [5,8,9])))) (bt 6 (bt 2 (a_ [5,8,9]))))))) ⟨[(2,.ptr 0 0 0 1),(3,.ptr 32 0 0 1),(4,.ptr 64 0 0 1),(7,.ptr 9256 0 0 1),(9,.ptr 20448 0 0 1),(11,.ptr 30192 0 0 1),(12,.ptr 30224 0 0 1)],[(30224,⟨96,4,[cI r]⟩),(30192,⟨96,4,[cI h]⟩),(20448,⟨96,4,[cI s1]⟩),(9256,⟨96,4,[cI u1]⟩),(64,⟨243,12,[cV zI zI zI]⟩),(32,⟨243,12,[cV x' y' z']⟩),(0,⟨243,12,[cV x y z]⟩)],40000⟩ (k:=10) ?h3 ?hq
    case h3 =>
     intro G hG
     have hW:∀ (fr:Fr) (hp:Hp),(fv 2 fr=.ptr 0 0 0 1∧fv 3 fr=.ptr 32 0 0 1∧fv 4 fr=.ptr 64 0 0 1∧fv 7 fr=.ptr 9256 0 0 1∧fv 9 fr=.ptr 20448 0 0 1∧fv 11 fr=.ptr 30192 0 0 1∧fv 12 fr=.ptr 30224 0 0 1∧lk 30224 hp=some ⟨96,4,[cI r]⟩∧lk 30192 hp=some ⟨96,4,[cI h]⟩∧lk 20448 hp=some ⟨96,4,[cI s1]⟩∧lk 9256 hp=some ⟨96,4,[cI u1]⟩∧lk 64 hp=some ⟨243,12,[cV zI zI zI]⟩∧lk 32 hp=some ⟨243,12,[cV x' y' z']⟩∧lk 0 hp=some ⟨243,12,[cV x y z]⟩)→G fr hp:=by
      rintro fr hp ⟨q0,q1,q2,q3,q4,q5,q6,q7,q8,q9,q10,q11,q12,q13⟩;exact hG _ _ se
     simp [go_sem,l4,l5,l7,l9,l11,l12,ae l4,ae l5,ae l7,ae l9,ae l11,ae l12,z4,dK]
     repeat' first | exact hW _ _ ⟨rfl,rfl,rfl,rfl,rfl,rfl,rfl,rfl,rfl,rfl,rfl,rfl,rfl,rfl⟩ | (refine hW _ _ ?_;simp [fv,lk];done) | refine ag f11 (aJ _ _) ?_ | refine ag f12 (aJ _ _) ?_ | apply And.intro | simp [go_sem,l4,l5,l7,l9,l11,l12,ae l4,ae l5,ae l7,ae l9,ae l11,ae l12,z4,dK]
    case hq =>
     by_cases q3:h=zI
     ·by_cases q4:r=zI
      ·obtain ⟨rfl,rfl,rfl⟩:=e1 q3 q4;simp [go_sem,l11,l12,ij,iz,ae l11,ae l12];refine ⟨fun _=>⟨fun _=>?_,fun h=>absurd q4 h⟩,fun h=>absurd q3 h⟩;simp [go_sem,vl,vt];refine ag f29 (ff _ _ _) ?_;simp [go_sem,ul2,ut2,wd,wl,ah];exact kL rfl
      ·obtain ⟨rfl,rfl,rfl⟩:=e2 q3 q4;simp [go_sem,l11,l12,ij,iz,ae l11,ae l12];refine ⟨fun _=>⟨fun h=>absurd h q4,fun _=>?_⟩,fun h=>absurd q3 h⟩;refine ag jF aw ?_;simp [go_sem];refine ag f26 (dx _ _ _) ?_;simp [go_sem,ul,ut,wd,wl,ah];exact kL rfl
     obtain ⟨rfl,rfl,rfl⟩:=e3 q3;simp [go_sem,l11,l12,ij,iz,ae l11,ae l12];refine ⟨fun h=>absurd h q3,fun _=>?_⟩;refine ag f13 (aO _) ?_;simp [go_sem,l11,l13,ae l11,ae l13,z4];refine ag f14 (aJ _ _) ?_;simp [go_sem,l4,l13,l14,ae l4,ae l13,ae l14,z4];refine ag f15 (aJ _ _) ?_;simp [go_sem,l15,ae l15,z4];refine ed [0,2,4] [1,3,5,6,7,8] [0,2,4] (.alt (bt 1 (.alt (bt 3 (.alt (bx 5 (.alt (a_ [6,7,8]) (a_ [7,6,8]))) (bt 7 (a_ [5,6,8])))) (bt 7 (bt 3 (a_ [5,6,8]))))) (bt 7 (bt 1 (bt 3 (a_ [5,6,8]))))) ⟨[(2,.ptr 0 0 0 1),(3,.ptr 32 0 0 1),(4,.ptr 64 0 0 1),(9,.ptr 20448 0 0 1),(11,.ptr 30192 0 0 1),(12,.ptr 30224 0 0 1),(14,.ptr 40320 0 0 1),(15,.ptr 40480 0 0 1),(16,.ptr 40768 0 0 1)],[(40768,⟨96,4,[cI X]⟩),(40480,⟨96,4,[cI v]⟩),(40320,⟨96,4,[cI h3]⟩),(30224,⟨96,4,[cI r]⟩),(30192,⟨96,4,[cI h]⟩),(20448,⟨96,4,[cI s1]⟩),(64,⟨243,12,[cV zI zI zI]⟩),(32,⟨243,12,[cV x' y' z']⟩),(0,⟨243,12,[cV x y z]⟩)],50000⟩ (k:=9) ?h3 ?hq
     case h3 =>
      intro G hG
      have hW:∀ (fr:Fr) (hp:Hp),(fv 2 fr=.ptr 0 0 0 1∧fv 3 fr=.ptr 32 0 0 1∧fv 4 fr=.ptr 64 0 0 1∧fv 9 fr=.ptr 20448 0 0 1∧fv 11 fr=.ptr 30192 0 0 1∧fv 12 fr=.ptr 30224 0 0 1∧fv 14 fr=.ptr 40320 0 0 1∧fv 15 fr=.ptr 40480 0 0 1∧fv 16 fr=.ptr 40768 0 0 1∧lk 40768 hp=some ⟨96,4,[cI X]⟩∧lk 40480 hp=some ⟨96,4,[cI v]⟩∧lk 40320 hp=some ⟨96,4,[cI h3]⟩∧lk 30224 hp=some ⟨96,4,[cI r]⟩∧lk 30192 hp=some ⟨96,4,[cI h]⟩∧lk 20448 hp=some ⟨96,4,[cI s1]⟩∧lk 64 hp=some ⟨243,12,[cV zI zI zI]⟩∧lk 32 hp=some ⟨243,12,[cV x' y' z']⟩∧lk 0 hp=some ⟨243,12,[cV x y z]⟩)→G fr hp:=by
       rintro fr hp ⟨q0,q1,q2,q3,q4,q5,q6,q7,q8,q9,q10,q11,q12,q13,q14,q15,q16,q17⟩;exact hG _ _ se
      simp [go_sem,l12,l14,l15,l18,ae l12,ae l14,ae l15,ae l18,z4,dK]
      repeat' first | exact hW _ _ ⟨rfl,rfl,rfl,rfl,rfl,rfl,rfl,rfl,rfl,rfl,rfl,rfl,rfl,rfl,rfl,rfl,rfl,rfl⟩ | (refine hW _ _ ?_;simp [fv,lk];done) | refine ag f16 (aO _) ?_ | refine ag f17 (aJ _ _) ?_ | refine ag f20 (lN _ _) ?_ | refine ag f18 (aJ _ _) ?_ | apply And.intro | simp [go_sem,l12,l14,l15,l18,ae l12,ae l14,ae l15,ae l18,z4,dK]
     case hq =>
      simp [go_sem];refine ed [0,1,2,5,6] [3,4,7,8,9,10] [0,1,2,5,6] (.alt (bt 3 (.alt (bt 4 (.alt (bx 7 (.alt (a_ [8,9,10]) (a_ [9,8,10]))) (bt 9 (a_ [7,8,10])))) (bt 9 (bt 4 (a_ [7,8,10]))))) (bt 9 (bt 3 (bt 4 (a_ [7,8,10]))))) ⟨[(2,.ptr 0 0 0 1),(3,.ptr 32 0 0 1),(4,.ptr 64 0 0 1),(11,.ptr 30192 0 0 1),(16,.ptr 40768 0 0 1),(17,.ptr 50288 0 0 1)],[(50288,⟨96,4,[cI Y]⟩),(40768,⟨96,4,[cI X]⟩),(30192,⟨96,4,[cI h]⟩),(64,⟨243,12,[cV zI zI zI]⟩),(32,⟨243,12,[cV x' y' z']⟩),(0,⟨243,12,[cV x y z]⟩)],60000⟩ (k:=11) ?h3 ?hq
      case h3 =>
       intro G hG
       have hW:∀ (fr:Fr) (hp:Hp),(fv 2 fr=.ptr 0 0 0 1∧fv 3 fr=.ptr 32 0 0 1∧fv 4 fr=.ptr 64 0 0 1∧fv 11 fr=.ptr 30192 0 0 1∧fv 16 fr=.ptr 40768 0 0 1∧fv 17 fr=.ptr 50288 0 0 1∧lk 50288 hp=some ⟨96,4,[cI Y]⟩∧lk 40768 hp=some ⟨96,4,[cI X]⟩∧lk 30192 hp=some ⟨96,4,[cI h]⟩∧lk 64 hp=some ⟨243,12,[cV zI zI zI]⟩∧lk 32 hp=some ⟨243,12,[cV x' y' z']⟩∧lk 0 hp=some ⟨243,12,[cV x y z]⟩)→G fr hp:=by
        rintro fr hp ⟨q0,q1,q2,q3,q4,q5,q6,q7,q8,q9,q10,q11⟩;exact hG _ _ se
       simp [go_sem,l7,l12,l14,l15,l18,l19,ae l7,ae l12,ae l14,ae l15,ae l18,ae l19,z4,dK]
       repeat' first | exact hW _ _ ⟨rfl,rfl,rfl,rfl,rfl,rfl,rfl,rfl,rfl,rfl,rfl,rfl⟩ | (refine hW _ _ ?_;simp [fv,lk];done) | refine ag f21 (aJ _ _) ?_ | refine ag f22 (aJ _ _) ?_ | refine ag f24 (aJ _ _) ?_ | refine ag f19 (aJ _ _) ?_ | apply And.intro | simp [go_sem,l7,l12,l14,l15,l18,l19,ae l7,ae l12,ae l14,ae l15,ae l18,ae l19,z4,dK]
      case hq =>
       simp only [go_sem,Nat.reduceEqDiff,Nat.reduceAdd,Nat.reduceLT,↓reduceIte];refine b7 [0,1,2,3,4,5,6] [(7,[]),(8,[9]),(10,[])] 2 (k:=11) ?_;intro G hG;simp [go_sem,l18,l19,l11,ae l18,ae l19,ae l11,v3,v3b,vl,vlb];refine ag f25 (aJ _ _) ?_;simp [go_sem];refine ag f23 (aJ _ _) ?_;have ev:cI X ++ (cI Y ++ cI Z)=cV X Y Z:=rfl;have xl:=dP l18 l19 l23;have xt:=db l18 l19 l23;simp [go_sem,l18,l19,l23,wl,wd,Zz l18 l19,WM l18 l19,ev,xl,dK];refine hG _ _ ?_;simp [go_sem,xl,xt,ah];exact kL rfl
abbrev T3:=List Int × List Int × List Int
def W3 (s:T3):Prop:=Wn 4 s.1∧Wn 4 s.2.1∧Wn 4 s.2.2
def uu (s:T3):Prop:=rp s.1 s.2.1 s.2.2
noncomputable def JV3 (s:T3):Pt pP:=JV s.1 s.2.1 s.2.2
theorem Y5:∃ D:T3→T3,∀ s,W3 s→W3 (D s)∧(uu s→uu (D s)∧JV3 (D s)=sum fd (JV3 s) (JV3 s))∧av Tryz.prog 183 [.agg (cV s.1 s.2.1 s.2.2)] (fun r=>r=.agg (cV (D s).1 (D s).2.1 (D s).2.2)) :=
 pick (α:=T3) (β:=T3) (A:=W3) (B:=fun s t=>W3 t∧(uu s→uu t∧JV3 t=sum fd (JV3 s) (JV3 s))∧av Tryz.prog 183 [.agg (cV s.1 s.2.1 s.2.2)] (fun r=>r=.agg (cV t.1 t.2.1 t.2.2))) (fun s hs=>by
  obtain ⟨u,v,w,h1,h2,h3,hv,h4⟩:=uo s.1 s.2.1 s.2.2 hs.1 hs.2.1 hs.2.2
  exact ⟨(u,v,w),⟨h1,h2,h3⟩,hv,h4⟩)
theorem WU:∃ D:T3 × T3→T3,∀ s,(W3 s.1∧W3 s.2)→W3 (D s)∧(uu s.1→uu s.2→uu (D s)∧JV3 (D s)=sum fd (JV3 s.1) (JV3 s.2))∧av Tryz.prog 181 [.agg (cV s.1.1 s.1.2.1 s.1.2.2),.agg (cV s.2.1 s.2.2.1 s.2.2.2)] (fun r=>r=.agg (cV (D s).1 (D s).2.1 (D s).2.2)) :=
 pick (α:=T3 × T3) (β:=T3) (A:=fun s=>W3 s.1∧W3 s.2) (B:=fun s t=>W3 t∧(uu s.1→uu s.2→uu t∧JV3 t=sum fd (JV3 s.1) (JV3 s.2))∧av Tryz.prog 181 [.agg (cV s.1.1 s.1.2.1 s.1.2.2),.agg (cV s.2.1 s.2.2.1 s.2.2.2)] (fun r=>r=.agg (cV t.1 t.2.1 t.2.2))) (fun s hs=>by
  obtain ⟨u,v,w,h1,h2,h3,hv,h4⟩:=EG s.1.1 s.1.2.1 s.1.2.2 s.2.1 s.2.2.1 s.2.2.2 hs.1.1 hs.1.2.1 hs.1.2.2 hs.2.1 hs.2.2.1 hs.2.2.2
  exact ⟨(u,v,w),⟨h1,h2,h3⟩,hv,h4⟩)
theorem Y6:∃ D:List Int × Nat→Bool,∀ s,(Wn 4 s.1∧s.2<256)→(D s=true ↔ (V s.1).toNat / 2 ^ s.2 % 2=1)∧av Tryz.prog 184 [.agg (cI s.1),.d (.int .i64 (s.2:Int))] (fun r=>r=.d (.bool (D s))) :=
 pick (α:=List Int × Nat) (β:=Bool) (A:=fun s=>Wn 4 s.1∧s.2<256) (B:=fun s t=>(t=true ↔ (V s.1).toNat / 2 ^ s.2 % 2=1)∧av Tryz.prog 184 [.agg (cI s.1),.d (.int .i64 (s.2:Int))] (fun r=>r=.d (.bool t))) (fun s hs=>Tq s.1 s.2 hs.1 hs.2)
def yh (D:T3→T3) (A:T3 × T3→T3) (B:List Int × Nat→Bool) (a b:List Int) (M:Nat) (one two both:T3) (k:Nat) (s:T3):T3 :=
 if B (a,M - 1 - k) then (if B (b,M - 1 - k) then A (D s,both) else A (D s,one)) else (if B (b,M - 1 - k) then A (D s,two) else D s)
theorem GL {P Q:Pt pP} (hP:j8 P) (hQ:j8 Q) (a b:Nat) :
  sum fd (sum fd (mp fd a P) (mp fd b Q)) (sum fd (mp fd a P) (mp fd b Q))=sum fd (mp fd (2*a) P) (mp fd (2*b) Q) ∧
  sum fd (sum fd (mp fd (2*a) P) (mp fd (2*b) Q)) P=sum fd (mp fd (2*a+1) P) (mp fd (2*b) Q) ∧
  sum fd (sum fd (mp fd (2*a) P) (mp fd (2*b) Q)) Q=sum fd (mp fd (2*a) P) (mp fd (2*b+1) Q) ∧
  sum fd (sum fd (mp fd (2*a) P) (mp fd (2*b) Q)) (sum fd P Q)=sum fd (mp fd (2*a+1) P) (mp fd (2*b+1) Q):=by
 have a1:=rV fd hP a;have b1:=rV fd hQ b;have a2:=rV fd hP (2*a);have b2:=rV fd hQ (2*b);refine ⟨?_,?_,?_,?_⟩
 ·rw [WA fd a1 b1 a1 b1,J8 fd hP,J8 fd hQ]
 ·rw [mp,gu fd a2 b2 hP,ud fd (mp fd (2*b) Q) P,← gu fd a2 hP b2]
 ·rw [mp,gu fd a2 b2 hQ]
 ·rw [mp,mp,WA fd a2 b2 hP hQ]
theorem wm (N M k:Nat) (h:k<M):N / 2 ^ (M - (k+1))=2*(N / 2 ^ (M - k))+N / 2 ^ (M - 1 - k) % 2:=by
 have e:M - k=(M - 1 - k)+1:=aq;have e2:M - (k+1)=M - 1 - k:=aq;rw [e,e2,Nat.pow_succ,← Nat.div_div_eq_div_mul];omega
theorem CS (a b:List Int) (x y x' y':List Int) (c c':Bool):∀ v,v ∈ [AV.agg (cI a),AV.agg (cP x y c),AV.agg (cI b),AV.agg (cP x' y' c')]→v.deep:=by
 intro v hv;simp at hv;rcases hv with rfl | rfl | rfl | rfl
 ·exact eC _
 ·exact jE _ _ _
 ·exact eC _
 ·exact jE _ _ _
theorem Ap (n:List Int) (m:Int):∀ v,v ∈ [AV.agg (cI n),AV.d (.int .i64 m)]→v.deep:=by
 intro v hv;simp at hv;rcases hv with rfl | rfl;exact eC _;trivial
theorem EH (a b x y x' y':List Int) (c c':Bool) (ha:Wn 4 a) (hb:Wn 4 b) (hx:Wn 4 x) (hy:Wn 4 y) (hx':Wn 4 x') (hy':Wn 4 y'):∃ (u v:List Int) (o:Bool),Wn 4 u∧Wn 4 v∧(jl x y c→jl x' y' c'→jl u v o∧PV u v o=sum fd (mp fd (V a).toNat (PV x y c)) (mp fd (V b).toNat (PV x' y' c')))∧av Tryz.prog 159 [.agg (cI a),.agg (cP x y c),.agg (cI b),.agg (cP x' y' c')] (fun r=>r=.agg (cP u v o)):=by
 obtain ⟨D,hD⟩:=Y5;obtain ⟨A,hA⟩:=WU;obtain ⟨B,hB⟩:=Y6;obtain ⟨p1,p2,p3,hp1,hp2,tv1,t1⟩:=qe x y c hx hy;obtain ⟨u1,v1,w1,hu1,hv1,hw1,wv1,g1⟩:=mV p1 p2 p3 hp1 hp2;obtain ⟨r1,r2,r3,hr1,hr2,tv2,t2⟩:=qe x' y' c' hx' hy';obtain ⟨u2,v2,w2,hu2,hv2,hw2,wv2,g2⟩:=mV r1 r2 r3 hr1 hr2;obtain ⟨u3,v3,w3,hu3,hv3,hw3,wv3,f3⟩:=EG u1 v1 w1 u2 v2 w2 hu1 hv1 hw1 hu2 hv2 hw2;obtain ⟨u4,v4,w4,hu4,hv4,hw4,wv4,f4⟩:=mV zI zI true jC jC;obtain ⟨La,hLa,vLa,f5⟩:=x4 a ha;obtain ⟨Lb,hLb,vLb,f6⟩:=x4 b hb;obtain ⟨M,hM⟩:∃ M,M=max La Lb:=⟨_,rfl⟩;have hM2:M≤256:=aq;have hone:W3 (u1,v1,w1):=⟨hu1,hv1,hw1⟩;have htwo:W3 (u2,v2,w2):=⟨hu2,hv2,hw2⟩;have hboth:W3 (u3,v3,w3):=⟨hu3,hv3,hw3⟩
 have hS:∀ k,W3 (eF (yh D A B a b M (u1,v1,w1) (u2,v2,w2) (u3,v3,w3)) (u4,v4,w4) k):=iR (P:=fun _ s=>W3 s) ⟨hu4,hv4,hw4⟩ fun k s hs=>by
  have hd:=(hD s hs).1;unfold yh
  split
  ·split
   ·exact (hA _ ⟨hd,hboth⟩).1
   ·exact (hA _ ⟨hd,hone⟩).1
  ·split
   ·exact (hA _ ⟨hd,htwo⟩).1
   ·exact hd
 obtain ⟨u,v,o,hu,hv,vp,f7⟩:=KB _ _ _ (hS M).1 (hS M).2.1 (hS M).2.2
 have vv:jl x y c→jl x' y' c'→jl u v o∧PV u v o=sum fd (mp fd (V a).toNat (PV x y c)) (mp fd (V b).toNat (PV x' y' c')):=by
  intro i1 i2;obtain ⟨q1,q2,q3⟩:=tv1.2.1 i1;obtain ⟨q4,q5,q6⟩:=tv2.2.1 i2;subst q1 q2 q3 q4 q5 q6;have o1:=ye i1;have o2:=ye i2;obtain ⟨j1,e1⟩:=wv1 i1;obtain ⟨j2,e2⟩:=wv2 i2;obtain ⟨j3,e3⟩:=wv3 j1 j2;obtain ⟨j4,e4⟩:=wv4 uk
  have hbig:∀ (w:List Int) (L:Nat),Wn 4 w→V w<2 ^ L→L≤M→(V w).toNat / 2 ^ M=0:=by
   intro w L hw hL hLM;have h0:=(j7 hw).1;have h1:(((V w).toNat:Nat):Int)<((2 ^ L:Nat):Int):=by rw [Int.toNat_of_nonneg h0];exact_mod_cast hL
   have h2:(V w).toNat<2 ^ L:=by exact_mod_cast h1
   exact Nat.div_eq_of_lt (Nat.lt_of_lt_of_le h2 (Nat.pow_le_pow_right aq hLM))
  have main:∀ k,k≤M→uu (eF (yh D A B a b M (u1,v1,w1) (u2,v2,w2) (u3,v3,w3)) (u4,v4,w4) k)∧JV3 (eF (yh D A B a b M (u1,v1,w1) (u2,v2,w2) (u3,v3,w3)) (u4,v4,w4) k)=sum fd (mp fd ((V a).toNat / 2 ^ (M - k)) (PV p1 p2 p3)) (mp fd ((V b).toNat / 2 ^ (M - k)) (PV r1 r2 r3)):=by
   intro k
   induction k with
   | zero =>
    intro _;refine ⟨j4,?_⟩;rw [Nat.sub_zero,hbig a La ha vLa aq,hbig b Lb hb vLb aq];show JV u4 v4 w4=_;rw [e4,Kv];exact (fS fd (Q:=none) True.intro).symm
   | succ k ih =>
    intro hk;obtain ⟨i3,i4⟩:=ih aq;have hs:=hS k;rw [eF];generalize eF (yh D A B a b M (u1,v1,w1) (u2,v2,w2) (u3,v3,w3)) (u4,v4,w4) k=s at *;obtain ⟨d1,d2,_⟩:=hD s hs;obtain ⟨d3,d4⟩:=d2 i3;have ba:=(hB (a,M - 1 - k) ⟨ha,aq⟩).1;have bb:=(hB (b,M - 1 - k) ⟨hb,aq⟩).1;obtain ⟨s1,s2,s3,s4⟩:=GL o1 o2 ((V a).toNat / 2 ^ (M - k)) ((V b).toNat / 2 ^ (M - k));rw [i4,s1] at d4;rw [wm _ M k aq,wm (V b).toNat M k aq];dsimp only at ba bb;have m2:∀ n:Nat,n % 2=0 ∨ n % 2=1:=Nat.mod_two_eq_zero_or_one;unfold yh
    cases hb1:B (a,M - 1 - k)
    ·have za:(V a).toNat / 2 ^ (M - 1 - k) % 2=0:=(m2 _).resolve_right (fun h=>by rw [ba.2 h] at hb1;cases hb1);rw [za,Nat.add_zero]
     cases hb2:B (b,M - 1 - k)
     ·have zb:(V b).toNat / 2 ^ (M - 1 - k) % 2=0:=(m2 _).resolve_right (fun h=>by rw [bb.2 h] at hb2;cases hb2);rw [zb,Nat.add_zero];exact ⟨d3,d4⟩
     ·rw [bb.1 hb2];obtain ⟨k1,k2,_⟩:=hA (D s,(u2,v2,w2)) ⟨d1,htwo⟩;obtain ⟨k3,k4⟩:=k2 d3 j2;refine ⟨k3,?_⟩;show JV3 (A (D s,(u2,v2,w2)))=_;rw [k4,d4,← s3];show sum fd _ (JV u2 v2 w2)=_;rw [e2]
    ·rw [ba.1 hb1]
     cases hb2:B (b,M - 1 - k)
     ·have zb:(V b).toNat / 2 ^ (M - 1 - k) % 2=0:=(m2 _).resolve_right (fun h=>by rw [bb.2 h] at hb2;cases hb2);rw [zb,Nat.add_zero (2*((V b).toNat / 2 ^ (M - k)))];obtain ⟨k1,k2,_⟩:=hA (D s,(u1,v1,w1)) ⟨d1,hone⟩;obtain ⟨k3,k4⟩:=k2 d3 j1;refine ⟨k3,?_⟩;show JV3 (A (D s,(u1,v1,w1)))=_;rw [k4,d4,← s2];show sum fd _ (JV u1 v1 w1)=_;rw [e1]
     ·rw [bb.1 hb2];obtain ⟨k1,k2,_⟩:=hA (D s,(u3,v3,w3)) ⟨d1,hboth⟩;obtain ⟨k3,k4⟩:=k2 d3 j3;refine ⟨k3,?_⟩;show JV3 (A (D s,(u3,v3,w3)))=_;rw [k4,d4,← s4];show sum fd _ (JV u3 v3 w3)=_;rw [e3,e1,e2]
  obtain ⟨z1,z2⟩:=main M (cR _);obtain ⟨z3,z4⟩:=vp z1;refine ⟨z3,?_⟩;rw [z4];show JV3 _=_;rw [z2,Nat.sub_self,Nat.pow_zero,Nat.div_one,Nat.div_one]
 refine ⟨u,v,o,hu,hv,vv,?_⟩;refine bK Tryz.func159 Tryz.ntmps159 (rs:=[.cell 8 189]) (CS _ _ _ _ _ _ _ _) ?_;have hal:=ha.1;have hbl:=hb.1;have hxl:=hx.1;have hyl:=hy.1;have hxl':=hx'.1;have hyl':=hy'.1;have z4:List.drop 4 (cI zI)=[]:=aW rfl;have pl1:=bU hxl hyl c;have pt1:=cY hxl hyl c;have pl2:=bU hxl' hyl' c';have pt2:=cY hxl' hyl' c';have wl1:=dP hu1.1 hv1.1 hw1.1;have wt1:=db hu1.1 hv1.1 hw1.1;have wl2:=dP hu2.1 hv2.1 hw2.1;have wt2:=db hu2.1 hv2.1 hw2.1;have wl3:=dP hu3.1 hv3.1 hw3.1;have wt3:=db hu3.1 hv3.1 hw3.1;have wl4:=dP hu4.1 hv4.1 hw4.1;have wt4:=db hu4.1 hv4.1 hw4.1;have wd:(cV zI zI zI).drop 12=[]:=kD rfl rfl rfl;have wl:(cV zI zI zI).length=12:=rfl;have pd:(cP zI zI false).drop 9=[]:=nM rfl rfl _;have pl:(cP zI zI false).length=9:=rfl;simp [go_sem,hal,hbl,ae hal,ae hbl,pl1,pt1,pl2,pt2];refine ed [0,3] [1,2,4,5,6,7,8,9] [0,3] (.alt (bt 1 (.alt (bt 2 (.alt (bx 4 (.alt (bx 5 (.alt (a_ [6,7,8,9]) (a_ [7,6,8,9]))) (.alt (bx 6 (.alt (a_ [5,7,8,9]) (a_ [7,5,8,9]))) (bx 7 (.alt (a_ [5,6,8,9]) (a_ [6,5,8,9])))))) (.alt (bt 6 (.alt (bx 4 (.alt (a_ [5,7,8,9]) (a_ [7,5,8,9]))) (bt 7 (a_ [4,5,8,9])))) (bt 7 (.alt (bx 4 (.alt (a_ [5,6,8,9]) (a_ [6,5,8,9]))) (bt 6 (a_ [4,5,8,9]))))))) (.alt (bt 6 (.alt (bt 2 (.alt (bx 4 (.alt (a_ [5,7,8,9]) (a_ [7,5,8,9]))) (bt 7 (a_ [4,5,8,9])))) (bt 7 (bt 2 (a_ [4,5,8,9]))))) (bt 7 (.alt (bt 2 (.alt (bx 4 (.alt (a_ [5,6,8,9]) (a_ [6,5,8,9]))) (bt 6 (a_ [4,5,8,9])))) (bt 6 (bt 2 (a_ [4,5,8,9])))))))) (.alt (bt 6 (.alt (bt 1 (.alt (bt 2 (.alt (bx 4 (.alt (a_ [5,7,8,9]) (a_ [7,5,8,9]))) (bt 7 (a_ [4,5,8,9])))) (bt 7 (bt 2 (a_ [4,5,8,9]))))) (bt 7 (bt 1 (bt 2 (a_ [4,5,8,9])))))) (bt 7 (.alt (bt 1 (.alt (bt 2 (.alt (bx 4 (.alt (a_ [5,6,8,9]) (a_ [6,5,8,9]))) (bt 6 (a_ [4,5,8,9])))) (bt 6 (bt 2 (a_ [4,5,8,9]))))) (bt 6 (bt 1 (bt 2 (a_ [4,5,8,9])))))))) ⟨[(4,.ptr 0 0 0 1),(6,.ptr 64 0 0 1),(8,.ptr 128 0 0 1),(9,.ptr 352 0 0 1),(10,.ptr 384 0 0 1)],[(384,⟨243,12,[cV u2 v2 w2]⟩),(352,⟨243,12,[cV u1 v1 w1]⟩),(128,⟨189,9,[cP zI zI false]⟩),(64,⟨96,4,[cI b]⟩),(0,⟨96,4,[cI a]⟩)],9000⟩ (k:=10) ?h3 ?hq
 case h3 =>
  intro G hG
  have hW:∀ (fr:Fr) (hp:Hp),(fv 4 fr=.ptr 0 0 0 1∧fv 6 fr=.ptr 64 0 0 1∧fv 8 fr=.ptr 128 0 0 1∧fv 9 fr=.ptr 352 0 0 1∧fv 10 fr=.ptr 384 0 0 1∧lk 384 hp=some ⟨243,12,[cV u2 v2 w2]⟩∧lk 352 hp=some ⟨243,12,[cV u1 v1 w1]⟩∧lk 128 hp=some ⟨189,9,[cP zI zI false]⟩∧lk 64 hp=some ⟨96,4,[cI b]⟩∧lk 0 hp=some ⟨96,4,[cI a]⟩)→G fr hp:=by
   rintro fr hp ⟨q0,q1,q2,q3,q4,q5,q6,q7,q8,q9⟩;exact hG _ _ se
  simp [go_sem,hal,hbl,ae hal,ae hbl,pl1,pt1,pl2,pt2,wl1,wt1,wl2,wt2,wd,z4,dK]
  repeat' first | exact hW _ _ ⟨rfl,rfl,rfl,rfl,rfl,rfl,rfl,rfl,rfl,rfl⟩ | (refine hW _ _ ?_;simp [fv,lk];done) | refine ag t1 (dx _ _ _) ?_ | refine ag t2 (dx _ _ _) ?_ | refine ag g1 (dx _ _ _) ?_ | refine ag g2 (dx _ _ _) ?_ | apply And.intro | simp [go_sem,hal,hbl,ae hal,ae hbl,pl1,pt1,pl2,pt2,wl1,wt1,wl2,wt2,wd,z4,dK]
 case hq =>
  simp [go_sem,wl1,wt1,wl2,wt2];refine ag f3 (oV _ _ _ _ _ _) ?_;simp [go_sem,wl3,wt3,wd];refine ag jF aw ?_;simp [go_sem];refine ag f4 (dx _ _ _) ?_;simp [go_sem,wl4,wt4,wd];refine b7 [0,2] [(1,[]),(3,[]),(4,[5,6])] 3 (k:=7) ?_;intro G hG;simp [go_sem,hal,hbl,ae hal,ae hbl];refine ag f5 (aO _) ?_;simp [go_sem,hal,hbl,ae hal,ae hbl];refine ag f6 (aO _) ?_;have w0:IntKind.i64.wrap ((M:Int) - 1)=(M:Int) - 1:=by rw [IntWalk.i64_in _ aq]
  have hMi:max (La:Int) (Lb:Int)=(M:Int):=aq;have hMx:(if La<Lb then (Lb:Int) else (La:Int))=(M:Int):=by split <;> omega
  simp [go_sem,hMi,w0];refine hG _ _ ?_;generalize hSS:eF (yh D A B a b M (u1,v1,w1) (u2,v2,w2) (u3,v3,w3)) (u4,v4,w4)=S at *;have hS0:S 0=(u4,v4,w4):=by rw [← hSS];rfl
  refine ax (fun k:Nat=>⟨[(4,.ptr 0 0 0 1),(6,.ptr 64 0 0 1),(8,.ptr 128 0 0 1),(9,.ptr 352 0 0 1),(10,.ptr 384 0 0 1),(11,.ptr 9096 0 0 1),(12,.ptr 9224 0 0 1),(13,.d (.int .i64 ((M:Int) - 1 - (k:Int))))],[(9224,⟨243,12,[cV (S k).1 (S k).2.1 (S k).2.2]⟩),(9096,⟨243,12,[cV u3 v3 w3]⟩),(384,⟨243,12,[cV u2 v2 w2]⟩),(352,⟨243,12,[cV u1 v1 w1]⟩),(128,⟨189,9,[cP zI zI false]⟩),(64,⟨96,4,[cI b]⟩),(0,⟨96,4,[cI a]⟩)],20000⟩)
   (fun k=>k≤M) (fun k=>M - k) 0 aq (by
    rw [hS0];simp [ay,ai,fv,lk,AV.low,AV.low1]
    and_intros <;> first | exact ru _ _ _ _ | exact bR _ _ | exact lM _ _ _ _ | (rw [hMx,w0])) ?_
  intro k hk;obtain ⟨hs1,hs2,hs3⟩:=hS k;have sl:=dP hs1.1 hs2.1 hs3.1;have st:=db hs1.1 hs2.1 hs3.1;have sd:=kD hs1.1 hs2.1 hs3.1;simp only [go_sem,Nat.reduceEqDiff,Nat.reduceAdd,Nat.reduceLT,↓reduceIte];by_cases h4:k<M
  ·refine ⟨fun h=>?_,fun h=>absurd aq h⟩;have hsn:S (k+1)=yh D A B a b M (u1,v1,w1) (u2,v2,w2) (u3,v3,w3) k (S k):=by rw [← hSS];rfl
   have wq:IntKind.i64.wrap ((M:Int) - 1 - (k:Int) - 1)=(M:Int) - 1 - ((k+1:Nat):Int):=by rw [IntWalk.i64_in _ aq];omega
   obtain ⟨d1,_,d2⟩:=hD (S k) ⟨hs1,hs2,hs3⟩;have dl:=dP d1.1.1 d1.2.1.1 d1.2.2.1;have dt:=db d1.1.1 d1.2.1.1 d1.2.2.1;have dd:=kD d1.1.1 d1.2.1.1 d1.2.2.1;have e1:=(hB (a,M - 1 - k) ⟨ha,aq⟩).2;have e2:=(hB (b,M - 1 - k) ⟨hb,aq⟩).2;have ei:(((M - 1 - k:Nat)):Int)=(M:Int) - 1 - (k:Int):=aq;simp only [ei] at e1 e2;unfold yh at hsn;simp [go_sem,sl,st];refine ag d2 (ff _ _ _) ?_;simp [go_sem,dl,dt,sl,sd];refine b7 [0,1,3,4] [(2,[]),(5,[6,7])] 2 (k:=8) ?_;intro G hG;simp [go_sem,hal,hbl,ae hal,ae hbl];refine ag e1 (Ap _ _) ?_;simp [go_sem,hal,hbl,ae hal,ae hbl];refine ag e2 (Ap _ _) ?_;simp [go_sem];refine hG _ _ ?_
   cases hb1:B (a,M - 1 - k)
   ·cases hb2:B (b,M - 1 - k)
    ·simp only [hb1,hb2,if_true,if_false,Bool.false_eq_true] at hsn;simp [go_sem,hb1,hb2,dl,dt,wl1,wt1,wl2,wt2,wl3,wt3];simp [go_sem,wq];refine al (k+1) aq aq ?_;rw [hsn];simp [ay,ai,fv,lk,AV.low,AV.low1];and_intros <;> first | exact ru _ _ _ _ | exact bR _ _ | exact lM _ _ _ _ | omega
    ·simp only [hb1,hb2,if_true,if_false,Bool.false_eq_true] at hsn;simp [go_sem,hb1,hb2,dl,dt,wl1,wt1,wl2,wt2,wl3,wt3];obtain ⟨m1,_,m2⟩:=hA (D (S k),(u2,v2,w2)) ⟨d1,htwo⟩;refine ag m2 (oV _ _ _ _ _ _) ?_;have ml:=dP m1.1.1 m1.2.1.1 m1.2.2.1;have mt:=db m1.1.1 m1.2.1.1 m1.2.2.1;have md:=kD m1.1.1 m1.2.1.1 m1.2.2.1;generalize A (D (S k),(u2,v2,w2))=z at *;simp [go_sem,ml,mt,dd,dl,wq];refine al (k+1) aq aq ?_;rw [hsn];simp [ay,ai,fv,lk,AV.low,AV.low1];and_intros <;> first | exact ru _ _ _ _ | exact bR _ _ | exact lM _ _ _ _ | omega
   ·cases hb2:B (b,M - 1 - k)
    ·simp only [hb1,hb2,if_true,if_false,Bool.false_eq_true] at hsn;simp [go_sem,hb1,hb2,dl,dt,wl1,wt1,wl2,wt2,wl3,wt3];obtain ⟨m1,_,m2⟩:=hA (D (S k),(u1,v1,w1)) ⟨d1,hone⟩;refine ag m2 (oV _ _ _ _ _ _) ?_;have ml:=dP m1.1.1 m1.2.1.1 m1.2.2.1;have mt:=db m1.1.1 m1.2.1.1 m1.2.2.1;have md:=kD m1.1.1 m1.2.1.1 m1.2.2.1;generalize A (D (S k),(u1,v1,w1))=z at *;simp [go_sem,ml,mt,dd,dl,wq];refine al (k+1) aq aq ?_;rw [hsn];simp [ay,ai,fv,lk,AV.low,AV.low1];and_intros <;> first | exact ru _ _ _ _ | exact bR _ _ | exact lM _ _ _ _ | omega
    ·simp only [hb1,hb2,if_true,if_false,Bool.false_eq_true] at hsn;simp [go_sem,hb1,hb2,dl,dt,wl1,wt1,wl2,wt2,wl3,wt3];obtain ⟨m1,_,m2⟩:=hA (D (S k),(u3,v3,w3)) ⟨d1,hboth⟩;refine ag m2 (oV _ _ _ _ _ _) ?_;have ml:=dP m1.1.1 m1.2.1.1 m1.2.2.1;have mt:=db m1.1.1 m1.2.1.1 m1.2.2.1;have md:=kD m1.1.1 m1.2.1.1 m1.2.2.1;generalize A (D (S k),(u3,v3,w3))=z at *;simp [go_sem,ml,mt,dd,dl,wq];refine al (k+1) aq aq ?_;rw [hsn];simp [ay,ai,fv,lk,AV.low,AV.low1];and_intros <;> first | exact ru _ _ _ _ | exact bR _ _ | exact lM _ _ _ _ | omega
  ·refine ⟨fun h=>absurd aq h4,fun h=>?_⟩;have hkl:k=M:=aq;subst hkl;simp [go_sem,sl,st];refine ag f7 (ff _ _ _) ?_;have ol:=bU hu.1 hv.1 o;have ot:=cY hu.1 hv.1 o;simp [go_sem,ol,ot,pl,pd,ah];exact oU rfl
def jG:List Nat:=[84,97,112,84,119,101,97,107]
theorem yi (t b:List Nat):(eV t b).length=32∧bytes (eV t b):=⟨aZ _,iG _⟩
theorem Aq (b:List Nat) (d:DV):∀ v,v ∈ [AV.agg (cb b),AV.d d]→v.deep:=by
 intro v hv;simp at hv;rcases hv with rfl | rfl;exact dC _;trivial
theorem CU (inner root:List Nat) (hi:inner.length=32) (hr:root.length≤1000):∃ (t:List Int) (ok:Bool),Wn 4 t∧((iQ (eV jG (inner ++ root))<115792089237316195423570985008687907852837564279074904382605163141518161494337→ok=true∧V t=(iQ (eV jG (inner ++ root)):Int))∧(¬ iQ (eV jG (inner ++ root))<115792089237316195423570985008687907852837564279074904382605163141518161494337→ok=false∧t=zI))∧av Tryz.prog 166 [.agg (cb inner),.d (nb root)] (fun r=>r=.tup [.agg (cI t),.d (.bool ok)]):=by
 obtain ⟨t,ok,ht,vt,f1⟩:=Ak (eV jG (inner ++ root)) (yi _ _).1 (yi _ _).2;refine ⟨t,ok,ht,vt,?_⟩;refine bK Tryz.func166 Tryz.ntmps166 (rs:=[.cell 4 96,.tmp 5]) (Aq _ _) ?_;have htl:=ht.1;have hz:List.drop 4 (cI zI)=[]:=aW rfl;simp [go_sem,ao,hi,ar hi];refine bL [0,160] (GK inner root hi aq) rfl (aj (.one (ak (gA (rows:=[[.sub 0 0 0 1 32 32 1],[.d (nb root)]]) rfl aw rfl (RowsR.cons (.cons (dZ rfl aw hi) .nil) (RowsR.cons (.cons (.d _) .nil) .nil)) rfl (by intro r hr;simp at hr;rcases hr with rfl | rfl <;> rfl)))) aD) ?_;simp [go_sem,aC];refine ag (gl jG (.str [84,97,112,84,119,101,97,107]) rfl (inner ++ root) (by simp [jG]) (by rw [b_];omega)) a9 ?_;simp [go_sem];refine ag f1 (cn _) ?_;simp [go_sem,htl,ae htl,hz,ah];exact nK rfl
noncomputable def liftPt (n:Nat):Pt pP:=some (Qc pP (n:Int),Qc pP (if nY n % 2=0 then nY n else (0 - nY n) % 115792089237316195423570985008687907853269984665640564039457584007908834671663))
noncomputable def turnQ (n t:Nat):Pt pP:=sum fd (mp fd 1 (liftPt n)) (mp fd t (PV gX gY false))
theorem TA (R p:Int):(0 - R) % p*((0 - R) % p) % p=R*R % p:=by
 rw [← Int.mul_emod];congr 1;rw [Int.zero_sub,Int.neg_mul_neg]
theorem TB {x:List Int} {n:Nat} (hx:V x=n):((((FV x*FV x*FV x+7:F)).val:Nat):Int)=mW n:=by
 have e7:(((7:F).val:Nat):Int)=7 % pZ:=by
  show ((7 % pP:Nat):Int)=_;rw [Int.natCast_emod,jk];rfl
 rw [GG,so,so,Int.natCast_emod,Int.natCast_add,Int.natCast_emod,Int.natCast_mul,Int.natCast_emod,Int.natCast_mul,d6,e7,jk,hx];unfold mW;show _=((n:Int)*n*n+7) % pZ;rw [← Int.mul_emod (n:Int) n,← Int.mul_emod ((n:Int)*n) n,← Int.add_emod]
theorem OM {n:Nat} {x y:List Int} {c:Bool} (h:KD n x y c true):ry n∧c=false∧jl x y c∧PV x y c=liftPt n:=by
 rcases h with ⟨_,h,_⟩ | ⟨h1,_,rfl,hx,hy⟩
 ·cases h
 have hpos:(0:Int)<pZ:=by decide
 have hyl:V y<pZ:=by
  rw [hy]
  split
  ·exact Int.emod_lt_of_pos _ hpos
  ·exact Int.emod_lt_of_pos _ hpos
 have hon:FV y*FV y=FV x*FV x*FV x+7:=by
  refine uj ?_;rw [TB hx,so,Int.natCast_emod,Int.natCast_mul,d6,jk,← Int.mul_emod];have hc:mW n % pZ=mW n:=by unfold mW;exact Int.emod_emod _ _
  have hR:nY n*nY n % pZ=mW n:=h1.2.trans hc;rw [hy]
  split
  ·exact hR
  ·rw [← hR];exact TA _ _
 refine ⟨h1,rfl,.inr ⟨rfl,by rw [hx];exact h1.1,hyl,hon⟩,?_⟩;show some (Qc pP (V x),Qc pP (V y))=_;rw [hx,hy];rfl
theorem ON {n:Nat} {x y:List Int} {c:Bool} (h:KD n x y c false):¬ ry n:=by
 rcases h with ⟨h,_⟩ | ⟨_,h,_⟩
 ·exact h
 ·cases h
def KH (n t:Nat) (k:List Nat) (o:Bool) (e:Int):Prop :=
 ((¬ (ry n∧t<115792089237316195423570985008687907852837564279074904382605163141518161494337) ∨ turnQ n t=none)∧e=1∧k=z32∧o=false) ∨
 ((ry n∧t<115792089237316195423570985008687907852837564279074904382605163141518161494337)∧e=0∧∃ x y,turnQ n t=some (x,y)∧iQ k=x.val∧(o=true ↔ y.val % 2=1))
theorem Qh {x:List Int} (hx:Wn 4 x) (h:V x<pZ):(V x).toNat=(FV x).val:=by
 have e:=d6 x;have h0:=(j7 hx).1;rw [Int.emod_eq_of_lt h0 h] at e;omega
def E1 (e:Int):Prop:=e=0 ∨ e=1
theorem lO {Q:AV→Prop} {st:St} {b:List Nat} {o:Bool} {e:Int} (hq:Q (.tup [.agg (cb b),.d (.bool o),.d (.int .i64 e)])):dy Q (.tup [.agg (cb b),.d (.bool o),.d (.int .i64 e)]) st :=
 aa (by
  intro c hc;simp at hc;rcases hc with rfl | rfl | rfl
  ·exact .inr ⟨_,rfl,bZ _⟩
  ·exact .inl trivial
  ·exact .inl trivial) hq
theorem OO (inner root:List Nat) (hi:inner.length=32) (hib:bytes inner) (hr:root.length≤1000):∃ (k:List Nat) (o:Bool) (e:Int),k.length=32∧bytes k∧E1 e∧KH (iQ inner) (iQ (eV jG (inner ++ root))) k o e∧av Tryz.prog 138 [.agg (cb inner),.d (nb root)] (fun r=>r=.tup [.agg (cb k),.d (.bool o),.d (.int .i64 e)]):=by
 obtain ⟨x,y,c,ok,hx,hy,vl,f1⟩:=An inner hi hib;obtain ⟨t,ok2,ht,vt,f2⟩:=CU inner root hi hr;obtain ⟨qx,qy,qc,hqx,hqy,vq,f4⟩:=EH [1,0,0,0] t x y gX gY c false (jD ⟨aq,aq⟩) ht hx hy WN WO;obtain ⟨kb,kl,kbb,vk,f5⟩:=wj qx qy qc hqx hqy;obtain ⟨od,vo,f6⟩:=ED qx qy qc hqx hqy;generalize hT:iQ (eV jG (inner ++ root))=T at *;have zb:bytes z32:=fun x hx=>by simp [z32] at hx;omega
 have pl:=bU hx.1 hy.1 c;have pt:=cY hx.1 hy.1 c;have pd:(cP zI zI false).drop 9=[]:=nM rfl rfl _;have pl0:(cP zI zI false).length=9:=rfl;have ql:=bU hqx.1 hqy.1 qc;have qt:=cY hqx.1 hqy.1 qc;have qb:=Aj hqx.1 hqy.1 qc;have qg:=CN hqx.1 hqy.1 qc;have htl:=ht.1;have hz:List.drop 4 (cI zI)=[]:=aW rfl;have zd:List.drop 32 (cb z32)=[]:=gP rfl;have zt:List.take 32 (cb z32)=cb z32:=ar rfl
 cases ok
 ·refine ⟨z32,false,1,rfl,zb,.inr rfl,.inl ⟨.inl (fun h=>ON vl h.1),rfl,rfl,rfl⟩,?_⟩;refine bK Tryz.func138 Tryz.ntmps138 (rs:=[.cell 4 29,.tmp 5,.tmp 6]) (Aq _ _) ?_;simp [go_sem,ao,hi,ar hi];refine ag f1 (cn _) ?_;simp [go_sem,pl,pt,pd,pl0,zd,zt,ao,ah];exact lO rfl
 ·cases ok2
  ·refine ⟨z32,false,1,rfl,zb,.inr rfl,.inl ⟨.inl (fun h=>absurd (vt.1 h.2).1 (by decide)),rfl,rfl,rfl⟩,?_⟩;refine bK Tryz.func138 Tryz.ntmps138 (rs:=[.cell 4 29,.tmp 5,.tmp 6]) (Aq _ _) ?_;simp [go_sem,ao,hi,ar hi];refine ag f1 (cn _) ?_;simp [go_sem,ao,hi,ar hi,pl,pt,pd,pl0];refine ag f2 (Aq _ _) ?_;simp [go_sem,htl,ae htl,hz,zd,zt,ao,ah];exact lO rfl
  ·obtain ⟨k1,k2,k3,k4⟩:=OM vl
   have hlt:T<115792089237316195423570985008687907852837564279074904382605163141518161494337:=by
    by_cases h:T<115792089237316195423570985008687907852837564279074904382605163141518161494337
    ·exact h
    ·exact absurd (vt.2 h).1 (by decide)
   obtain ⟨m1,m2⟩:=vq k3 OJ;have vT:(V t).toNat=T:=by rw [(vt.1 hlt).2];exact Int.toNat_natCast _
   have v1:(V [1,0,0,0]).toNat=1:=by simp [V]
   rw [k4,vT,v1] at m2;have hQ:PV qx qy qc=turnQ (iQ inner) T:=m2
   cases qc
   ·have hp:=m1;rcases hp with ⟨hb,_⟩ | ⟨_,hb1,hb2,_⟩
    ·cases hb
    have vR:KH (iQ inner) T kb (!od) 0:=by
     refine .inr ⟨⟨k1,hlt⟩,rfl,FV qx,FV qy,hQ.symm,by rw [vk m1];exact Qh hqx hb1,?_⟩;have e:=Qh hqy hb2;have hy0:=(j7 hqy).1;have ho:=vo m1
     cases od
     ·have:¬ V qy % 2=0:=fun h=>Bool.noConfusion (ho.2 ⟨rfl,h⟩);exact ⟨fun _=>aq,fun _=>rfl⟩
     ·have:=(ho.1 rfl).2;exact ⟨fun h=>Bool.noConfusion h,fun h=>aq⟩
    refine ⟨kb,!od,0,kl,kbb,.inl rfl,vR,?_⟩;refine bK Tryz.func138 Tryz.ntmps138 (rs:=[.cell 4 29,.tmp 5,.tmp 6]) (Aq _ _) ?_;simp [go_sem,ao,hi,ar hi];refine ag f1 (cn _) ?_;simp [go_sem,ao,hi,ar hi,pl,pt,pd,pl0];refine ag f2 (Aq _ _) ?_;simp [go_sem,htl,ae htl,hz];refine ed [1,2] [0,3,4,5,6] [1,2] (.alt (bt 0 (.alt (bt 3 (.alt (a_ [4,5,6]) (bt 5 (a_ [4,6])))) (bt 5 (bt 3 (a_ [4,6]))))) (bt 5 (bt 0 (bt 3 (a_ [4,6]))))) ⟨[(4,.ptr 32 0 0 1),(10,.ptr 960 0 0 1)],[(960,⟨189,9,[cP qx qy false]⟩),(32,⟨29,32,[cb z32]⟩)],5000⟩ (k:=7) ?h3 ?hq
    case h3 =>
     intro G hG
     have hW:∀ (fr:Fr) (hp:Hp),(fv 4 fr=.ptr 32 0 0 1∧fv 10 fr=.ptr 960 0 0 1∧lk 960 hp=some ⟨189,9,[cP qx qy false]⟩∧lk 32 hp=some ⟨29,32,[cb z32]⟩)→G fr hp:=by
      rintro fr hp ⟨q0,q1,q2,q3⟩;exact hG _ _ se
     simp [go_sem,htl,ae htl,pl,pt,ql,qt,pd,pl0,hz,dK]
     repeat' first | exact hW _ _ ⟨rfl,rfl,rfl,rfl⟩ | (refine hW _ _ ?_;simp [fv,lk];done) | refine ag (eD 1) a9 ?_ | refine ag yf aw ?_ | refine ag f4 (CS _ _ _ _ _ _ _ _) ?_ | apply And.intro | simp [go_sem,htl,ae htl,pl,pt,ql,qt,pd,pl0,hz,dK]
    case hq =>
     simp [go_sem,qb,qg,ql];refine ed [0,2] [1,3,4,5,6,7] [0,2] (bt 1 (bx 3 (.alt (a_ [4,5,6,7]) (a_ [5,4,6,7])))) ⟨[(4,.ptr 32 0 0 1),(5,.d (.bool (!od))),(6,.d (.int .i64 0))],[(32,⟨29,32,[cb kb]⟩)],9000⟩ (k:=8) ?h3 ?hq
     case h3 =>
      intro G hG
      have hW:∀ (fr:Fr) (hp:Hp),(fv 4 fr=.ptr 32 0 0 1∧fv 5 fr=.d (.bool (!od))∧fv 6 fr=.d (.int .i64 0)∧lk 32 hp=some ⟨29,32,[cb kb]⟩)→G fr hp:=by
       rintro fr hp ⟨q0,q1,q2,q3⟩;exact hG _ _ se
      simp [go_sem,ql,qt,kl,ao,ar kl,zd,dK]
      repeat' first | exact hW _ _ ⟨rfl,rfl,rfl,rfl⟩ | (refine hW _ _ ?_;simp [fv,lk];done) | refine ag f5 (dx _ _ _) ?_ | refine ag f6 (dx _ _ _) ?_ | apply And.intro | simp [go_sem,ql,qt,kl,ao,ar kl,zd,dK]
     case hq =>
      simp [go_sem,ao,kl,ar kl,ah];exact lO rfl
   ·refine ⟨z32,false,1,rfl,zb,.inr rfl,.inl ⟨.inr hQ.symm,rfl,rfl,rfl⟩,?_⟩;refine bK Tryz.func138 Tryz.ntmps138 (rs:=[.cell 4 29,.tmp 5,.tmp 6]) (Aq _ _) ?_;simp [go_sem,ao,hi,ar hi];refine ag f1 (cn _) ?_;simp [go_sem,ao,hi,ar hi,pl,pt,pd,pl0];refine ag f2 (Aq _ _) ?_;simp [go_sem,htl,ae htl,hz];refine ed [1,2] [0,3,4,5,6] [1,2] (.alt (bt 0 (.alt (bt 3 (.alt (a_ [4,5,6]) (bt 5 (a_ [4,6])))) (bt 5 (bt 3 (a_ [4,6]))))) (bt 5 (bt 0 (bt 3 (a_ [4,6]))))) ⟨[(4,.ptr 32 0 0 1),(10,.ptr 960 0 0 1)],[(960,⟨189,9,[cP qx qy true]⟩),(32,⟨29,32,[cb z32]⟩)],5000⟩ (k:=7) ?h3 ?hq
    case h3 =>
     intro G hG
     have hW:∀ (fr:Fr) (hp:Hp),(fv 4 fr=.ptr 32 0 0 1∧fv 10 fr=.ptr 960 0 0 1∧lk 960 hp=some ⟨189,9,[cP qx qy true]⟩∧lk 32 hp=some ⟨29,32,[cb z32]⟩)→G fr hp:=by
      rintro fr hp ⟨q0,q1,q2,q3⟩;exact hG _ _ se
     simp [go_sem,htl,ae htl,pl,pt,ql,qt,pd,pl0,hz,dK]
     repeat' first | exact hW _ _ ⟨rfl,rfl,rfl,rfl⟩ | (refine hW _ _ ?_;simp [fv,lk];done) | refine ag (eD 1) a9 ?_ | refine ag yf aw ?_ | refine ag f4 (CS _ _ _ _ _ _ _ _) ?_ | apply And.intro | simp [go_sem,htl,ae htl,pl,pt,ql,qt,pd,pl0,hz,dK]
    case hq =>
     simp [go_sem,qb,qg,ql,zd,zt,ao,ah];exact lO rfl
open Go.Am Go.Sha
def cN (inner:List Nat) (ps:List (List Nat)) (x:List Nat):AV:=.agg (aP inner (.d (c7 ps)) (.d (nb x)))
theorem cQ (inner:List Nat) (ps:List (List Nat)) (x:List Nat):∀ v,v ∈ [cN inner ps x]→v.deep:=by
 intro v hv;simp at hv;subst hv;simp [AV.deep,aP,cN];intro c hc;rcases hc with hc | rfl | rfl
 ·exact bZ _ _ hc
 ·trivial
 ·trivial
theorem OP (k:List Nat) (o:Bool) (e:Int):(AV.tup [.agg (cb k),.d (.bool o),.d (.int .i64 e)]).flat:=by
 intro c hc;simp at hc;rcases hc with rfl | rfl | rfl
 ·refine .inr ⟨_,rfl,fun x hx=>?_⟩;rw [cb,List.mem_map] at hx;obtain ⟨y,_,rfl⟩:=hx
  trivial
 ·exact .inl trivial
 ·exact .inl trivial
theorem Ar {l:List Nat} (h:l.length=32) (r:List AV):List.take 32 (cb l ++ r)=cb l:=by
 rw [List.take_append_of_le_length (by rw [ao,h];exact cR _),ar h]
theorem rA {inner:List Nat} (hi:inner.length=32) (a b:AV):List.take 34 (cb inner ++ [a,b])=cb inner ++ [a,b]:=cA (by simp [ao,hi])
theorem CV (ps:List (List Nat)):∀ h:List Nat,h.length=32→(mF ps h).length=32:=by
 induction ps with
 | nil=>exact fun h hh=>hh
 | cons p r ih=>exact fun h hh=>ih _ (rO h p)
def As (inner:List Nat) (ps:List (List Nat)) (x k:List Nat) (o:Bool) (e:Int):Prop :=
 (¬ (ps.length≤8∧x.length≤1000)∧e=1∧k=z32∧o=false) ∨ ((ps.length≤8∧x.length≤1000)∧KH (iQ inner) (iQ (eV jG (inner ++ mF ps (jT x)))) k o e)
theorem GM (inner:List Nat) (ps:List (List Nat)) (x:List Nat) (hi:inner.length=32) (hib:bytes inner) (hp32:∀ p,p ∈ ps→p.length=32) (hps:ps.length≤1000) (hx:x.length≤100000):∃ (k:List Nat) (o:Bool) (e:Int),k.length=32∧bytes k∧E1 e∧av Tryz.prog 92 [cN inner ps x] (fun r=>r=.tup [.agg (cb k),.d (.bool o),.d (.int .i64 e)])∧(e=0→ps.length≤8∧x.length≤1000)∧As inner ps x k o e:=by
 have hR:=CV ps (jT x) (qP x);have f1:=Nz inner ps x hi hp32 hps hx;unfold As;generalize mF ps (jT x)=R at *;obtain ⟨k,o,e,hk,hkb,he,hT,f2⟩:=OO inner R hi hib aq;have zb:bytes z32:=fun x hx=>by simp [z32] at hx;omega
 have zd:List.drop 32 (cb z32)=[]:=gP rfl;have zt:List.take 32 (cb z32)=cb z32:=ar rfl;by_cases h1:8<ps.length
 ·refine ⟨z32,false,1,rfl,zb,.inr rfl,?_,fun h=>aq,.inl ⟨aq,rfl,rfl,rfl⟩⟩;refine bK Tryz.func92 Tryz.ntmps92 (rs:=[.cell 2 29,.tmp 3,.tmp 4]) (cQ _ _ _) ?_;have i1:(8:Int)<(ps.length:Int):=aq;simp [go_sem,cN,aP,mH hi,mG hi,c7,nb,i1,zd,zt,ao,ah];exact lO rfl
 by_cases h2:1000<x.length
 ·refine ⟨z32,false,1,rfl,zb,.inr rfl,?_,fun h=>aq,.inl ⟨aq,rfl,rfl,rfl⟩⟩;refine bK Tryz.func92 Tryz.ntmps92 (rs:=[.cell 2 29,.tmp 3,.tmp 4]) (cQ _ _ _) ?_;have i1:¬ (8:Int)<(ps.length:Int):=aq;have i2:(1000:Int)<(x.length:Int):=aq;simp [go_sem,cN,aP,mH hi,mG hi,c7,nb,i1,i2,zd,zt,ao,ah];exact lO rfl
 refine ⟨k,o,e,hk,hkb,he,?_,fun _=>aq,.inr ⟨aq,hT⟩⟩;refine bK Tryz.func92 Tryz.ntmps92 (rs:=[.cell 2 29,.tmp 3,.tmp 4]) (cQ _ _ _) ?_;have i1:¬ (8:Int)<(ps.length:Int):=aq;have i2:¬ (1000:Int)<(x.length:Int):=aq;simp [go_sem,cN,aP,mH hi,mG hi,c7,nb,i1,i2,hi,rA hi];refine ag (by simpa only [aP,c7,nb] using f1) (by simpa only [cN,aP,c7,nb] using cQ inner ps x) ?_;simp [go_sem,ao,hR,ar hR,zd];refine ed [0,1,2] [3,7,8,9] [0,1,2,4,5,6] (.step 3 [4,5,6] true (a_ [7,8,9])) ⟨[(2,.ptr 32 0 0 1),(3,.d (.bool o)),(4,.d (.int .i64 e))],[(32,⟨29,32,[cb k]⟩)],9000⟩ (k:=10) ?h3 ?hq
 case h3 =>
  intro G hG
  have hW:∀ (fr:Fr) (hp:Hp),(fv 2 fr=.ptr 32 0 0 1∧fv 3 fr=.d (.bool o)∧fv 4 fr=.d (.int .i64 e)∧lk 32 hp=some ⟨29,32,[cb k]⟩)→G fr hp:=by
   rintro fr hp ⟨q0,q1,q2,q3⟩;exact hG _ _ se
  simp [go_sem,aP,mH hi,mG hi,ao,hi,hR,hk,ar hi,ar hR,ar hk,zd,Ar hi,dK]
  repeat' first | exact hW _ _ ⟨rfl,rfl,rfl,rfl⟩ | (refine hW _ _ ?_;simp [fv,lk];done) | refine iO f2 rfl (aj (.deep (dC _)) (aj (.one (ak (dZ rfl trivial hR))) aD)) (OP _ _ _) ?_ | apply And.intro | simp [go_sem,aP,mH hi,mG hi,ao,hi,hR,hk,ar hi,ar hR,ar hk,zd,Ar hi,dK]
 case hq =>
  simp [go_sem,ao,hk,ar hk,ah];exact lO rfl
end Go.Proofs.YtmfnimjnneflnaaGreat
namespace Go.Sha
open Go.Proofs.YtmfnimjnneflnaaGreat
structure RnF where
 t:Tn
 n:Nat
 coins:List (Nat × List Nat)
 inner:List Nat
 path:List (List Nat)
 script:List Nat
 annex:List Nat
end Go.Sha
namespace Go.Proofs.YtmfnimjnneflnaaGreat
open Go.Am Go.Sha
def gv (F:RnF):List AV:=eS F.t (F.n:Int) F.coins ++ (aP F.inner (.d (c7 F.path)) (.d (nb F.script)) ++ [.d (nb F.annex)])
theorem TC {C:List AV} (h:∀ v,v ∈ C→∃ d,v=.d d) (hl:C.length=41):iq C :=
 ⟨fun v hv ρ=>by obtain ⟨d,rfl⟩:=h v hv;rfl,fun v hv n=>by obtain ⟨d,rfl⟩:=h v hv;trivial,hl⟩
theorem ec {F:RnF} (hi:F.inner.length=32):iq (gv F):=by
 refine TC (fun v hv=>?_) (by simp [gv,eS,aP,ao,hi]);simp only [gv,eS,aP,cL,et,List.mem_nil_iff,or_false] at hv;rcases hv with (rfl | rfl | rfl | rfl | rfl | rfl) | (h | rfl | rfl) | rfl
 all_goals first | exact ⟨_,rfl⟩ | skip
 obtain ⟨x,_,rfl⟩:=List.mem_map.1 h;exact ⟨_,rfl⟩
theorem Qi (F:RnF) (hi:F.inner.length=32) (i:Ip) (hn:F.t.ins[F.n]?=some i) (hio:i.ok) (r:Rn) (J:List Bool) (H:Nat):cJ Tryz.prog 3 (aF (gv F)) 230 ⟨r,J,H⟩ [.ptr 0 0 0 1] (fun v s'=>v=.d (.int .i64 (i.seq:Int))∧s'=⟨r,J,H⟩):=by
 refine am Tryz.func230 (by kernel_rfl) rfl Tryz.ntmps230 (rs:=[.tmp 2]) rfl (dV rfl) (by decide) ?_;rw [bA];have h0:F.n<F.t.ins.length:=(ci.1 hn).1;have h0i:(F.n:Int)<(F.t.ins.length:Int):=aq;have hg:F.t.ins[F.n]=i:=Option.some.inj ((cm h0).symm.trans hn);have w1:IntKind.i64.wrap (i.seq:Int)=(i.seq:Int):=IntWalk.i64_in _ (by have:=hio.2.2;omega);simp [go_sem];refine b7 [0,1,2,3,4,5,6,7,8,9,10,11,12,13,14,15] [] 0 (k:=16) ?_;intro G hG;simp only [aF,bC,bB,id,gv,eS]
 have h33:∀ a b c:DV,(List.map AV.d (cd i.hash) ++ [AV.d a,AV.d b,AV.d c])[33]?=some (AV.d b):=fun a b c=>by
  rw [dz (by simp [kJ,hio.1])];simp [kJ,hio.1]
 simp [go_sem,hn,h0,h0i,eI,hg,h33,w1];refine hG _ _ ?_;clear hG G;simp [go_sem,ah];exact aB (by simp [lk,aF,bC,bB,gv,eS]) rfl rfl
theorem EI {C:List AV} (hC:iq C) (r:Rn) (J:List Bool) (hk:StOk r.main r.alt) (l:List (Int × Int)) (e:Int) (hc:r.cl.length≤100000) (hl2:l.length≤100000):cJ Tryz.prog 3 (aF C) 233 ⟨r,J,0⟩ [.ptr 0 0 0 1,.d (.ro 2 (l.map dm)),.d (.int .i64 e)] (fun v s'=>s'=⟨zS l e r,J,0⟩):=by
 refine am Tryz.func233 (by kernel_rfl) rfl Tryz.ntmps233 (rs:=[]) rfl (dV rfl) (by decide) ?_;have hl:=hC.2.2;simp [go_sem];refine dO (Pp:=[]) hC (eu hC r J 0) aq aw (by simp [AV.renL,AV.ren]) ?_;rintro v s' ρ ⟨rfl,rfl⟩ hρ;by_cases h:r.e=0
 ·have hv:zS l e r=c6 (iH true) { au e r with cl:=r.cl ++ l }:=if_pos h;rw [hv];simp [go_sem,AV.ren,h];refine dO (Pp:=[]) (s:=⟨r,J,0⟩) hC (bw hC r J 0 e) aq aw (by simp [AV.renL,AV.ren]) ?_;rintro v s' ρ rfl hρ;have hkf:StOk (au e r).main (au e r).alt:=fQ hk;have hcf:(au e r).cl=r.cl:=by unfold au;split <;> rfl
  rw [← hcf];rw [← hcf] at hc;generalize au e r=r2 at *;obtain ⟨main,alt,br,bud,cl,e2⟩:=r2;simp only at hc hkf;rw [bA];simp only [aF,bC,bB,id];have hT:List.take cl.length (Hj cl 0)=cl.map Up:=by simp [Hj,cA]
  have hln:(Hj cl 0).length=cl.length:=by simp [Hj]
  have hm:List.map ((fun r=>List.map AV.d r) ∘ dm) l=l.map Up:=rfl;have hpt:=oO hC ⟨main,alt,br,bud,cl ++ l,e2⟩ J 0 hkf (iH true) (by simp [iH]);have hidl:fx ⟨main,alt,br,bud,cl,e2⟩=fx ⟨main,alt,br,bud,cl ++ l,e2⟩:=rfl;rw [hidl];simp [go_sem,hl,dX,Ds,hT,hln,hm];refine ⟨aq,fun h0=>?_,fun h0=>?_⟩
  ·obtain rfl:l=[]:=List.length_eq_zero_iff.1 aq;simp only [List.append_nil] at hpt ⊢;refine ag (lG true) a9 ?_;simp [go_sem];refine aN (Pp:=[]) (s:=⟨⟨main,alt,br,bud,cl,e2⟩,J,0⟩) hC hpt (by simp [bA,aF,bC,bB,Hj]) aq aw (by simp [AV.renL,AV.ren]) ?_;rintro v s' ρ rfl hρ;rw [bA];generalize c6 (iH true) _=r';simp only [aF,bC,bB,id];simp [go_sem,ah];exact aB rfl rfl rfl
  ·refine ag (lG true) a9 ?_;simp [go_sem];refine aN (Pp:=[]) (s:=⟨⟨main,alt,br,bud,cl ++ l,e2⟩,J,0⟩) hC hpt (by simp [bA,aF,bC,bB,Hj]) aq aw (by simp [AV.renL,AV.ren]) ?_;rintro v s' ρ rfl hρ;rw [bA];generalize c6 (iH true) _=r';simp only [aF,bC,bB,id];simp [go_sem,ah];exact aB rfl rfl rfl
 ·have hv:zS l e r=r:=if_neg h;rw [hv];simp [go_sem,AV.ren,h,ah];rw [bA];exact aB rfl rfl rfl
theorem yj {r:Rn} (h:StOk r.main r.alt):StOk (mf r).2.main (mf r).2.alt∧(mf r).1.length≤1000∧bytes (mf r).1:=by
 unfold mf
 split
 ·exact ⟨fQ h,aw,fun x hx=>by simp at hx⟩
 ·rename_i h2;rcases r.main.eq_nil_or_concat with e | ⟨l,x,hm⟩
  ·exact absurd (by rw [e];rfl) h2
  ·rw [List.concat_eq_append] at hm;have h':=h;rw [hm] at h' ⊢;simp only [List.getLastD_concat];exact ⟨h',(JB h').2⟩
theorem KI {C:List AV} (hC:iq C) (r:Rn) (J:List Bool) (H:Nat) (hk:StOk r.main r.alt):cJ Tryz.prog 3 (aF C) 229 ⟨r,J,H⟩ [.ptr 0 0 0 1] (fun v s'=>v=.d (.int .i64 (lW r).1)∧s'=⟨(lW r).2,J,H⟩):=by
 refine am Tryz.func229 (by kernel_rfl) rfl Tryz.ntmps229 (rs:=[.tmp 2]) rfl (dV rfl) (by decide) ?_;have hl:=hC.2.2;simp [go_sem];refine dO (Pp:=[]) hC (JC hC r J H hk) aq aw (by simp [AV.renL,AV.ren]) ?_;rintro v s' ρ ⟨rfl,rfl⟩ hρ;obtain ⟨hk2,hb1,hb2⟩:=yj hk;unfold lW;generalize mf r=p at *;obtain ⟨b,r2⟩:=p;simp only at hk2 hb1 hb2 ⊢;simp [go_sem,AV.ren];refine dO (Pp:=[]) hC (eu hC r2 J H) aq aw (by simp [AV.renL,AV.ren]) ?_;rintro v s' ρ' ⟨rfl,rfl⟩ hρ';by_cases h:r2.e=0
 ·have hd:=BQ 5 b hb2 aq aq;simp [go_sem,AV.ren,h];refine ag hd a9 ?_
  cases hq:fO 5 b with
  | none =>
   simp [go_sem];refine dO (Pp:=[]) (s:=⟨r2,J,H⟩) hC (bw hC r2 J H 15) aq aw (by simp [AV.renL,AV.ren]) ?_;rintro v s' ρ rfl hρ;rw [bA];generalize au 15 r2=r';simp only [aF,bC,bB,id];simp [go_sem,ah];exact aB rfl rfl rfl
  | some n =>
   have hf:=bw hC r2 J H 0;rw [oN] at hf;simp [go_sem];refine dO (Pp:=[]) (s:=⟨r2,J,H⟩) hC hf aq aw (by simp [AV.renL,AV.ren]) ?_;rintro v s' ρ rfl hρ;by_cases hn:n<0
   ·simp [go_sem,hn];refine dO (Pp:=[]) (s:=⟨r2,J,H⟩) hC (bw hC r2 J H 22) aq aw (by simp [AV.renL,AV.ren]) ?_;rintro v s' ρ rfl hρ;rw [bA];generalize au 22 r2=r';simp only [aF,bC,bB,id];simp [go_sem,ah];exact aB rfl rfl rfl
   ·rw [bA];simp only [aF,bC,bB,id];simp [go_sem,hn,ah];exact aB rfl rfl rfl
 ·simp [go_sem,AV.ren,h,ah];rw [bA];exact aB rfl rfl rfl
theorem WV (a b:Bool) (K:AV→Hp→Prop) (hp:Hp):cz Tryz.prog .neq 4 (.d (.bool a)) (.d (.bool b)) K hp=K (.d (.bool (a != b))) hp:=by
 show (_∧_)=_;rw [P3];simp
theorem TD {C:List AV} (hC:iq C) {s:RnS} {N:Nat} (hN:3≤N):∀ p,p ∈ gR 3 (aF C) s id→p.1<N∧∀ r,r ∈ p.2.es→∀ v,v ∈ r→v.low1 N:=by
 intro p hp;rw [bA] at hp;simp only [et,List.mem_nil_iff,or_false] at hp;rcases hp with rfl | rfl | rfl
 ·refine ⟨by show 0<N;omega,fun r hr v hv=>?_⟩;simp only [aF,et,List.mem_nil_iff,or_false] at hr;subst hr;rcases cL.1 hv with h | h
  ·exact hC.2.1 v h N
  ·simp only [bB,et,List.mem_nil_iff,or_false] at h;rcases h with rfl | rfl | rfl | rfl | rfl | rfl | rfl
   all_goals first | trivial | (show 1<N;omega) | (show 2<N;omega)
 ·refine ⟨by show 1<N;omega,fun r hr v hv=>?_⟩;obtain ⟨b,_,rfl⟩:=List.mem_map.1 hr;simp only [et,List.mem_nil_iff,or_false] at hv;subst hv;trivial
 ·refine ⟨by show 2<N;omega,fun r hr v hv=>?_⟩;rcases cL.1 hr with h | h
  ·obtain ⟨x,_,rfl⟩:=List.mem_map.1 h;simp only [Up,et,List.mem_nil_iff,or_false] at hv;rcases hv with rfl | rfl <;> trivial
  ·rw [List.eq_of_mem_replicate h] at hv;simp only [et,List.mem_nil_iff,or_false] at hv;rcases hv with rfl | rfl <;> trivial
theorem WW {C:List AV} (hC:iq C) {s:RnS} {hp:Hp} {nx N:Nat} (hN:3≤N) (h:∀ p,p ∈ gR 3 (aF C) s id→lk p.1 hp=some p.2) :
  ∀ p,p ∈ gR 3 (aF C) s id→(lk p.1 hp=some p.2 ∨ (nx≤p.1∧p.2.es=[]))∧p.1<N∧∀ r,r ∈ p.2.es→∀ v,v ∈ r→v.low1 N :=
 fun p hp'=>⟨.inl (h p hp'),TD hC hN p hp'⟩
theorem qh {C:List AV} {s:RnS} {hp:Hp} (h0:lk 0 hp=some (aF C s id 0)) (h1:lk 1 hp=some (aF C s id 1)) (h2:lk 2 hp=some (aF C s id 2)):∀ p,p ∈ gR 3 (aF C) s id→lk p.1 hp=some p.2:=by
 intro p hp';rw [bA] at hp';simp only [et,List.mem_nil_iff,or_false] at hp';rcases hp' with rfl | rfl | rfl
 ·exact h0
 ·exact h1
 ·exact h2
theorem KJ (F:RnF) (x:Rx) (hi:F.inner.length=32) (i:Ip) (hn:F.t.ins[F.n]?=some i) (hio:i.ok) (hlk:F.t.lock<4294967296) (hxl:x.lock=(F.t.lock:Int)) (hxs:x.seq=(i.seq:Int)) (r:Rn) (J:List Bool) (H:Nat) (hk:StOk r.main r.alt) :
    cJ Tryz.prog 3 (aF (gv F)) 199 ⟨r,J,H⟩ [.ptr 0 0 0 1] (fun v s'=>s'=⟨ua x r,J,H⟩):=by
  refine am Tryz.func199 (by kernel_rfl) rfl Tryz.ntmps199 (rs:=[]) rfl (dV rfl) (by decide) ?_;have hC:=ec (F:=F) hi;have hlo:=KI hC r J H hk;have hsq:=Qi F hi i hn hio;have w1:IntKind.i64.wrap (F.t.lock:Int)=(F.t.lock:Int):=IntWalk.i64_in _ aq;unfold ua;generalize lW r=p at *;obtain ⟨n,r2⟩:=p;simp only at hlo ⊢;refine ed [0,2] [1,3,4,5,6,7,8] [0,2,9,10] (.alt (.step 1 [9] false (bx 3 (bx 4 (bx 5 (bx 6 (bx 7 (.step 8 [10] false .done))))))) (bx 3 (.alt (.step 1 [9] false (bx 4 (bx 5 (bx 6 (bx 7 (.step 8 [10] false .done)))))) (bx 4 (.alt (.step 1 [9] false (bx 5 (bx 6 (bx 7 (.step 8 [10] false .done))))) (bx 5 (.alt (.step 1 [9] false (bx 6 (bx 7 (.step 8 [10] false .done)))) (bx 6 (.alt (.step 1 [9] false (bx 7 (.step 8 [10] false .done))) (bx 7 (.alt (.step 1 [9] false (.step 8 [10] false .done)) (bx 8 (.step 1 [9,10] false .done))))))))))))) ⟨[(0,.ptr 0 0 0 1),(2,.d (.int .i64 n)),(3,.d (.int .i64 (F.t.lock:Int)))],gR 3 (aF (gv F)) ⟨r2,J,H⟩ id,9000⟩ (k:=11) ?h3 ?hq
  case h3 =>
    intro G hG;rw [bA];simp only [aF,bC,bB,id,gv,eS];simp (config := { maxSteps := 3000000 }) [go_sem,w1]
    repeat' first
      | apply And.intro
      | (refine aN (Pp:=[]) (s:=⟨r,J,H⟩) hC hlo (by simp [bA,aF,bC,bB,gv,eS]) aq aw (by simp [AV.renL,AV.ren]) ?_
         rintro v s' ρ ⟨rfl,rfl⟩ hρ;rw [bA];simp only [aF,bC,bB,id,gv,eS]
         simp (config := { maxSteps := 3000000 }) [go_sem,AV.ren,w1])
      | (refine hG _ _ (cj ⟨by simp [ai,fv,lk,AV.low,AV.low1],WW hC (dV rfl) (qh ?_ ?_ ?_),aw⟩) <;> simp [lk,aF,bC,bB,gv,eS])
  case hq =>
    rw [hxl,hxs];by_cases c1:n<500000000 <;> by_cases c2:(F.t.lock:Int)<500000000 <;> by_cases c3:(F.t.lock:Int)<n <;> by_cases c4:(i.seq:Int)=4294967295
    all_goals
      have c2':F.t.lock<500000000 ↔ (F.t.lock:Int)<500000000:=aq;have c4':i.seq=4294967295 ↔ (i.seq:Int)=4294967295:=aq;simp [go_sem,Bg,WV,c1,c2,c3,c4,c2',c4']
    all_goals first
      | (exfalso;omega)
      | (have hz:(n<500000000 ↔ (F.t.lock:Int)<500000000)∧¬ (F.t.lock:Int)<n:=aq
         refine aN (Pp:=[]) hC (hsq r2 J H) (List.nil_append _).symm (dV rfl) aw (by simp [AV.renL,AV.ren]) ?_;rintro v s' ρ ⟨rfl,rfl⟩ hρ
         simp [go_sem,AV.ren,c4,(show i.seq=4294967295 ↔ (i.seq:Int)=4294967295 by omega)])
      | skip
    all_goals first
      | (have hz:(n<500000000 ↔ (F.t.lock:Int)<500000000)∧¬ (F.t.lock:Int)<n∧¬ (i.seq:Int)=4294967295:=aq
         exact aB rfl rfl rfl)
      | (refine aN (Pp:=[]) hC (bw hC r2 J H 22) (by first | rfl | exact (List.nil_append _).symm) (dV rfl) aw (by simp [AV.renL,AV.ren]) ?_
         rintro v s' ρ rfl hρ;rw [bA];generalize au 22 r2=r';simp only [aF,bC,bB,id];simp [go_sem,ah]
         exact aB rfl rfl rfl)
theorem rW (n:Int) (h1:-9223372036854775808≤n) (h2:n<9223372036854775808):(BitVec.ofInt 64 n).toNat=(n % 18446744073709551616).toNat:=by
 rw [BitVec.toNat_ofInt];rfl
theorem EJ (n:Int) (m:Nat) (h1:-9223372036854775808≤n) (h2:n<9223372036854775808) (hm:m<4294967296):Go.bits .and .i64 n (m:Int)=(((n % 18446744073709551616).toNat &&& m:Nat):Int):=by
 show IntKind.i64.wrap (((BitVec.ofInt 64 n) &&& (BitVec.ofInt 64 (m:Int))).toNat:Int)=_;rw [BitVec.toNat_and,rW n h1 h2,rW (m:Int) aq aq];have e:((m:Int) % 18446744073709551616).toNat=m:=aq;rw [e];have:(n % 18446744073709551616).toNat &&& m≤m:=Nat.and_le_right;exact IntWalk.i64_in _ aq
theorem OQ (x k:Nat):x &&& 2 ^ k=if x.testBit k then 2 ^ k else 0:=by
 apply Nat.eq_of_testBit_eq;intro i;rw [Nat.testBit_and,Nat.testBit_two_pow];by_cases h:k=i
 ·subst h
  cases hb:x.testBit k <;> simp [Nat.testBit_two_pow_self]
 ·cases hb:x.testBit k <;> simp [h,Nat.testBit_two_pow]
theorem EK (n:Int) (k:Nat) (h1:-9223372036854775808≤n) (h2:n<9223372036854775808) (hk:k<32) (hb:((n % 18446744073709551616).toNat / 2 ^ k % 2=1)=(oK k n=true)):Go.bits .and .i64 n ((2 ^ k:Nat):Int)=if oK k n then ((2 ^ k:Nat):Int) else 0:=by
 have hp:2 ^ k<2 ^ 32:=Nat.pow_lt_pow_right aq hk;rw [EJ n (2 ^ k) h1 h2 aq,OQ,Nat.testBit_eq_decide_div_mod_eq];by_cases h:oK k n=true
 ·rw [if_pos h];rw [h,eq_true rfl] at hb;simp [hb]
 ·rw [if_neg h];have:¬ ((n % 18446744073709551616).toNat / 2 ^ k % 2=1):=by rw [hb];exact h
  simp [this]
theorem KL (n:Int) (h1:-9223372036854775808≤n) (h2:n<9223372036854775808):Go.bits .and .i64 n 2147483648=if oK 31 n then 2147483648 else 0:=by
 refine EK n 31 h1 h2 aq ?_;unfold oK;rw [Int.fdiv_eq_ediv_of_nonneg _ aq];simp only [decide_eq_true_eq];exact propext aq
theorem KN (n:Int) (h1:-9223372036854775808≤n) (h2:n<9223372036854775808):Go.bits .and .i64 n 4194304=if oK 22 n then 4194304 else 0:=by
 refine EK n 22 h1 h2 aq ?_;unfold oK;rw [Int.fdiv_eq_ediv_of_nonneg _ aq];simp only [decide_eq_true_eq];exact propext aq
theorem KO (n:Int) (h1:-9223372036854775808≤n) (h2:n<9223372036854775808):Go.bits .and .i64 n 65535=n % 65536:=by
 rw [show (65535:Int)=((2 ^ 16 - 1:Nat):Int) from rfl,EJ n _ h1 h2 aq,Nat.and_two_pow_sub_one_eq_mod];omega
theorem KP {b:aS} {n:Int} (hb:bytes b) (h:fO 5 b=some n):-9223372036854775808≤n∧n<9223372036854775808:=by
 unfold fO at h
 split at h
 ·rename_i h1;obtain rfl:=Option.some.inj h;have hl:b.length≤5:=aq;rcases eo b with rfl | ⟨a,x,rfl⟩
  ·decide
  ·have hx:x<256:=hb x aw;have ha:=qV (b:=a) (fun y hy=>hb y (List.mem_append_left _ hy));simp at hl;rw [ny];have hc:a.length=0 ∨ a.length=1 ∨ a.length=2 ∨ a.length=3 ∨ a.length=4:=aq;rcases hc with e | e | e | e | e <;> rw [e] at ha ⊢ <;> simp at ha ⊢ <;> split <;> omega
 ·cases h
theorem GN {r:Rn} (h:StOk r.main r.alt):-9223372036854775808≤(lW r).1∧(lW r).1<9223372036854775808:=by
 unfold lW;obtain ⟨_,_,hb⟩:=yj h;generalize mf r=p at *;simp only
 split
 ·cases hd:fO 5 p.1 with
  | none=>simp only;omega
  | some n=>exact KP hb hd
 ·simp only;omega
theorem OR (F:RnF) (x:Rx) (hi:F.inner.length=32) (i:Ip) (hn:F.t.ins[F.n]?=some i) (hio:i.ok) (hvr:F.t.ver<4294967296) (hxv:x.ver=(F.t.ver:Int)) (hxs:x.seq=(i.seq:Int)) (r:Rn) (J:List Bool) (H:Nat) (hk:StOk r.main r.alt) :
    cJ Tryz.prog 3 (aF (gv F)) 200 ⟨r,J,H⟩ [.ptr 0 0 0 1] (fun v s'=>s'=⟨BZ x r,J,H⟩):=by
  refine am Tryz.func200 (by kernel_rfl) rfl Tryz.ntmps200 (rs:=[]) rfl (dV rfl) (by decide) ?_;have hC:=ec (F:=F) hi;have hlo:=KI hC r J H hk;have hsq:=Qi F hi i hn hio;have hrg:=GN hk;have hsb:=hio.2.2;unfold BZ;rw [hxv,hxs];generalize lW r=p at *;obtain ⟨n,r2⟩:=p;simp only at hlo hrg ⊢;have a1:=KL n hrg.1 hrg.2;have a2:=KL (i.seq:Int) aq aq;have a3:=KN n hrg.1 hrg.2;have a4:=KN (i.seq:Int) aq aq;have a5:=KO n hrg.1 hrg.2;have a6:=KO (i.seq:Int) aq aq;generalize oK 31 n=b1 at *;generalize oK 31 (i.seq:Int)=b2 at *;generalize oK 22 n=b3 at *;generalize oK 22 (i.seq:Int)=b4 at *;generalize n % 65536=m1 at *;generalize (i.seq:Int) % 65536=m2 at *;simp [go_sem];refine dO (Pp:=[]) hC hlo aq aw (by simp [AV.renL,AV.ren]) ?_;rintro v s' ρ ⟨rfl,rfl⟩ hρ;simp [go_sem,AV.ren];refine dO (Pp:=[]) hC (hsq r2 J H) aq aw (by simp [AV.renL,AV.ren]) ?_;rintro v s' ρ ⟨rfl,rfl⟩ hρ;rw [bA];simp only [aF,bC,bB,id,gv,eS]
  cases b1
  case true =>
    simp [go_sem,AV.ren,a1];exact aB (by simp [lk,aF,bC,bB,gv,eS]) rfl rfl
  case false =>
    have hfl:=bw hC r2 J H 22;by_cases c0:F.t.ver<2
    · have c0i:(F.t.ver:Int)<2:=aq
      simp [go_sem,AV.ren,a1,a2,a3,a4,a5,a6,c0,c0i];refine aN (Pp:=[]) (s:=⟨r2,J,H⟩) hC hfl (by simp [bA,aF,bC,bB,gv,eS]) aq aw (by simp [AV.renL,AV.ren]) ?_;rintro v s' ρ rfl hρ;rw [bA];generalize au 22 r2=r';simp only [aF,bC,bB,id];simp [go_sem,ah];exact aB rfl rfl rfl
    · have c0i:¬ (F.t.ver:Int)<2:=aq
      cases b2 <;> cases b3 <;> cases b4 <;> by_cases c5:m2<m1
      all_goals simp [go_sem,AV.ren,a1,a2,a3,a4,a5,a6,c0,c0i,c5]
      all_goals first
        | exact aB (by simp [lk,aF,bC,bB,gv,eS]) rfl rfl
        | (refine aN (Pp:=[]) (s:=⟨r2,J,H⟩) hC hfl (by simp [bA,aF,bC,bB,gv,eS]) aq aw (by simp [AV.renL,AV.ren]) ?_
           rintro v s' ρ rfl hρ;rw [bA];generalize au 22 r2=r';simp only [aF,bC,bB,id];simp [go_sem,ah]
           exact aB rfl rfl rfl)
end Go.Proofs.YtmfnimjnneflnaaGreat
