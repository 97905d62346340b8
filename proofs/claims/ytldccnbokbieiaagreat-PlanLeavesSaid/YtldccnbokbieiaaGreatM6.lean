/-
 Part 7 of what the claim rests on.
-/
import Derived.Test.YtldccnbokbieiaaGreatM4
import Derived.Test.YtldccnbokbieiaaGreatM5
set_option linter.unusedVariables false
set_option linter.unusedSimpArgs false
set_option maxRecDepth 100000
set_option maxHeartbeats 16000000
namespace Go.Proofs.YtldccnbokbieiaaGreat
open Go.Am Go.Sha Go.Ec
abbrev pZ:Int:=115792089237316195423570985008687907853269984665640564039457584007908834671663
theorem eO:(pP:Int)=pZ:=by rw [rQ];rfl
def FV (l:List Int):F:=CX pP (V l)
theorem cp (l:List Int):(((FV l).val:Nat):Int)=V l % pZ:=by unfold FV;rw [kV,eO]
theorem kW {a b:F} (h:((a.val:Nat):Int)=((b.val:Nat):Int)):a=b:=ke h
theorem FG {a b:List Int} (h:V a % pZ=V b % pZ):FV a=FV b:=kW (by rw [cp,cp,h])
theorem rR {a b:List Int} (ha:Wn 4 a) (hb:Wn 4 b) (h1:V a<pZ) (h2:V b<pZ) (h:FV a=FV b):a=b:=by
 have e:=congrArg (fun x:F=>((x.val:Nat):Int)) h
 simp only [cp] at e
 have:=(cy ha).1
 have:=(cy hb).1
 rw [Int.emod_eq_of_lt (by omega) h1,Int.emod_eq_of_lt (by omega) h2] at e
 exact pv ha hb e
theorem FH {r a b:List Int} (h:V r=(V a*V b) % pZ):V r<pZ∧FV r=FV a*FV b:=by
 refine ⟨by rw [h];exact Int.emod_lt_of_pos _ (by decide),kW ?_⟩
 rw [cp,oO,Int.natCast_emod,Int.natCast_mul,cp,cp,eO,h,Int.emod_emod,← Int.mul_emod]
theorem FI {r a b:List Int} (h:V r=(V a+V b) % pZ):V r<pZ∧FV r=FV a+FV b:=by
 refine ⟨by rw [h];exact Int.emod_lt_of_pos _ (by decide),kW ?_⟩
 rw [cp,CE,Int.natCast_emod,Int.natCast_add,cp,cp,eO,h,Int.emod_emod,← Int.add_emod]
theorem CG {a b c:F} (h:c+b=a):c=a - b:=by grobner
theorem FJ {r a b:List Int} (h:V r=(V a - V b) % pZ):V r<pZ∧FV r=FV a - FV b:=by
 refine ⟨by rw [h];exact Int.emod_lt_of_pos _ (by decide),CG (kW ?_)⟩
 rw [CE,Int.natCast_emod,Int.natCast_add,cp,cp,cp,eO,h,Int.emod_emod,← Int.add_emod]
 congr 1
 omega
theorem mS:FV zI=0:=by
 refine kW ?_
 rw [cp]
 have:V zI=0:=by simp [V,zI]
 rw [this];rfl
theorem fg {a:List Int} (ha:Wn 4 a) (h:V a<pZ):FV a=0 ↔ a=zI:=by
 have hz:V zI=0:=by simp [V,zI]
 have hz2:V zI<pZ:=by rw [hz];decide
 exact ⟨fun h0=>rR ha cG h hz2 (by rw [h0,mS]),fun h0=>by rw [h0,mS]⟩
theorem oP (k:Nat) (hk:(k:Int)<18446744073709551616):FV [(k:Int),0,0,0]=Fin.ofNat pP k:=by
 have:V [(k:Int),0,0,0]=(k:Int):=by simp [V]
 unfold FV
 rw [this]
 exact fS k
theorem LL {r a:List Int} {k:Nat} (hk:k=pP - 2) (h:V r=V a ^ k % pZ):V r<pZ∧FV r=fd.inv (FV a):=by
 refine ⟨by rw [h];exact Int.emod_lt_of_pos _ (by decide),kW ?_⟩
 have e:fd.inv (FV a)=⟨(FV a).val ^ (pP - 2) % pP,Nat.mod_lt _ (by have:=It;omega)⟩:=rfl
 rw [e,← hk]
 show _=((((FV a).val ^ k % pP:Nat)):Int)
 rw [cp,h,Int.emod_emod,Int.natCast_emod,Int.natCast_pow,cp,eO]
 have pm:∀ (x m:Int) (k:Nat),x ^ k % m=(x % m) ^ k % m:=by
  intro x m k
  induction k with
  | zero=>rw [Int.pow_zero,Int.pow_zero]
  | succ k ih=>rw [Int.pow_succ,Int.pow_succ,Int.mul_emod,ih,Int.mul_emod ((x % m) ^ k),Int.emod_emod]
 exact pm _ _ _
theorem eW (a b:List Int) (ha:Wn 4 a) (hb:Wn 4 b):∃ r,Wn 4 r∧(V r<pZ∧FV r=FV a*FV b)∧W2 205 a b r:=by
 obtain ⟨r,h1,h2,h3⟩:=vi a b ha hb
 exact ⟨r,h1,FH h2,h3⟩
theorem Ok (a b:List Int) (ha:Wn 4 a) (hb:Wn 4 b):∃ r,Wn 4 r∧(V r<pZ∧FV r=FV a+FV b)∧W2 208 a b r:=by
 obtain ⟨r,h1,h2,h3⟩:=Ic a b ha hb
 exact ⟨r,h1,FI h2,h3⟩
theorem nQ (a b:List Int) (ha:Wn 4 a) (hb:Wn 4 b):∃ r,Wn 4 r∧(V r<pZ∧FV r=FV a - FV b)∧W2 213 a b r:=by
 obtain ⟨r,h1,h2,h3⟩:=Bg a b ha hb
 exact ⟨r,h1,FJ h2,h3⟩
theorem Ol (a:List Int) (ha:Wn 4 a):∃ r,Wn 4 r∧(V r<pZ∧FV r=fd.inv (FV a))∧W1 216 a r:=by
 obtain ⟨r,h1,h2,h3⟩:=Ik a ha
 exact ⟨r,h1,LL (by rw [rQ]) h2,h3⟩
def PV (x y:List Int) (b:Bool):Pt pP:=if b then none else some (FV x,FV y)
def dB (x y:List Int) (b:Bool):Prop:=(b=true∧x=zI∧y=zI) ∨ (b=false∧V x<pZ∧V y<pZ∧FV y*FV y=FV x*FV x*FV x+7)
theorem gZ {x y:List Int} {b:Bool} (h:dB x y b):fC (PV x y b):=by
 rcases h with ⟨rfl,_,_⟩ | ⟨rfl,_,_,h⟩
 ·trivial
 ·exact h
theorem kX:dB zI zI true:=.inl ⟨rfl,rfl,rfl⟩
theorem FK:PV zI zI true=none:=rfl
noncomputable def JV (x y z:List Int):Pt pP:=nO fd (FV x) (FV y) (FV z)
def oQ (x y z:List Int):Prop:=(V x<pZ∧V y<pZ∧V z<pZ)∧fC (JV x y z)
theorem rS (x:Int):∀ v,v ∈ [AV.d (.int .u64 x)]→v.deep:=by
 intro v hv;simp at hv;subst hv;trivial
theorem Bt {a:List Int} (ha:Wn 4 a):(a.map Int.toNat).length=4∧cI a=cW (a.map Int.toNat):=by
 refine ⟨by simp [ha.1],?_⟩
 unfold cI cW
 rw [List.map_map]
 refine List.map_congr_left fun x hx=>?_
 have:=(ha.2 x hx).1
 simp only [Function.comp_apply]
 rw [Int.toNat_of_nonneg this]
theorem Om {a b:List Int} (ha:Wn 4 a) (hb:Wn 4 b):oK (a.map Int.toNat) (b.map Int.toNat) 4<0 ↔ V a<V b:=by
 obtain ⟨a0,a1,a2,a3,rfl,h0,h1,h2,h3⟩:=eV ha
 obtain ⟨b0,b1,b2,b3,rfl,k0,k1,k2,k3⟩:=eV hb
 unfold cD at *
 rw [V4,V4]
 have g0:∀ w x y z:Nat,[w,x,y,z].getD 0 0=w:=fun _ _ _ _=>rfl
 have g1:∀ w x y z:Nat,[w,x,y,z].getD 1 0=x:=fun _ _ _ _=>rfl
 have g2:∀ w x y z:Nat,[w,x,y,z].getD 2 0=y:=fun _ _ _ _=>rfl
 have g3:∀ w x y z:Nat,[w,x,y,z].getD 3 0=z:=fun _ _ _ _=>rfl
 simp only [List.map_cons,List.map_nil,oK,g0,g1,g2,g3]
 repeat' split
 all_goals omega
theorem Bu (a b:List Int) (ha:Wn 4 a) (hb:Wn 4 b):∃ c:Int,(c<0 ↔ V a<V b)∧aq Tryz.prog 200 [.agg (cI a),.agg (cI b)] (fun r=>r=.d (.int .i64 c)):=by
 obtain ⟨hl,e1⟩:=Bt ha
 obtain ⟨hm,e2⟩:=Bt hb
 rw [e1,e2]
 exact ⟨_,Om ha hb,Lk _ _ hl hm⟩
theorem kY (a:List Int) (ha:Wn 4 a):∃ r,Wn 4 r∧(V r<pZ∧FV r=FV a*FV a)∧W1 209 a r:=by
 obtain ⟨r,hr,vr,f1⟩:=eW a a ha ha
 unfold W2 at f1
 have hal:=ha.1
 have hrl:=hr.1
 have hz:List.drop 4 (cI zI)=[]:=ao rfl
 refine ⟨r,hr,vr,?_⟩
 unfold W1
 refine aS Tryz.func209 Tryz.ntmps209 (rs:=[.cell 2 160]) (ar a) ?_
 simp [go_sem,hal,aa hal]
 refine ab f1 (ah _ _) ?_
 simp [go_sem,hrl,aa hrl,hz,ak]
 exact bm rfl
theorem yt (a:List Int) (ha:Wn 4 a):∃ r,Wn 4 r∧(V r<pZ∧FV r=FV a*FV a*FV a+7)∧W1 164 a r:=by
 obtain ⟨s,hs,vs,f1⟩:=kY a ha
 obtain ⟨m,hm,vm,f2⟩:=eW s a hs ha
 obtain ⟨r,hr,vr,f3⟩:=Ok m [7,0,0,0] hm (cO ⟨by omega,by omega⟩)
 have v7:FV [7,0,0,0]=7:=oP 7 (by omega)
 rw [v7,vm.2,vs.2] at vr
 unfold W1 at f1
 unfold W2 at f2 f3
 have hal:=ha.1
 have hrl:=hr.1
 have hz:List.drop 4 (cI zI)=[]:=ao rfl
 refine ⟨r,hr,vr,?_⟩
 unfold W1
 refine aS Tryz.func164 Tryz.ntmps164 (rs:=[.cell 2 160]) (ar a) ?_
 simp [go_sem,hal,aa hal]
 refine bD [0,2] [1,3,4,5,6] [0,2] (.step 1 [] true (.step 3 [] false (.step 4 [] false (.step 5 [] false (.step 6 [] false .done))))) ⟨[(2,.ptr 32 0 0 1)],[(32,⟨160,4,[cI r]⟩)],9000⟩ (k:=7) ?h3 ?hq
 case h3 =>
  intro G hG
  have hW:∀ (fr:Fr) (hp:Hp),(fv 2 fr=.ptr 32 0 0 1∧lk 32 hp=some ⟨160,4,[cI r]⟩)→G fr hp:=by
   rintro fr hp ⟨q0,q1⟩
   refine hG _ _ (cK ?_)
   simp only [av,ag]
   refine ⟨fun p hp=>?_,fun p hp=>?_,by simp⟩
   ·simp only [List.mem_cons,List.mem_nil_iff,or_false] at hp
    subst hp
    exact ⟨.inl q0.symm,by simp [AV.low,AV.low1]⟩
   ·simp only [List.mem_cons,List.mem_nil_iff,or_false] at hp
    subst hp
    exact ⟨.inl q1,by simp,by intro r hr;simp only [List.mem_cons,List.mem_nil_iff,or_false] at hr;subst hr;exact aA _ _⟩
  simp [go_sem,hal,aa hal,hrl,aa hrl,hz,be]
  repeat' first | exact hW _ _ ⟨rfl,rfl⟩ | (refine hW _ _ ?_;simp [fv,lk];done) | refine ab f1 (ar _) ?_ | refine ab f2 (ah _ _) ?_ | refine ab f3 (ah _ _) ?_ | refine ab (dZ 7) (rS _) ?_ | apply And.intro | simp [go_sem,hal,aa hal,hrl,aa hrl,hz,be]
 case hq =>
  simp [go_sem,hrl,aa hrl,ak]
  exact bm rfl
theorem rT (a:List Int) (ha:Wn 4 a):∃ b:Bool,(b=true ↔ V a<pZ)∧aq Tryz.prog 161 [.agg (cI a)] (fun r=>r=.d (.bool b)):=by
 obtain ⟨c,vc,f1⟩:=Bu a lS ha mq
 have vp:V lS=pZ:=by simp [V,lS]
 rw [vp] at vc
 have hal:=ha.1
 refine ⟨decide (c<0),by rw [decide_eq_true_iff];exact vc,?_⟩
 refine aS Tryz.func161 Tryz.ntmps161 (rs:=[.tmp 2]) (ar a) ?_
 simp [go_sem,hal,aa hal]
 refine bk [0] [(1,[]),(2,[3,4])] 2 (k:=5) ?_
 intro G hG
 simp [go_sem,hal,aa hal]
 refine ab ig (by simp) ?_
 simp [go_sem]
 refine ab f1 (ah _ _) ?_
 simp [go_sem,be]
 refine hG _ _ ?_
 simp [go_sem,ak]
 exact ae (by simp [AV.deep,AV.deep1]) rfl
def cP (x y:List Int) (b:Bool):List AV:=cI x ++ (cI y ++ [.d (.bool b)])
theorem aD {x y:List Int} (hx:x.length=4) (hy:y.length=4) (b:Bool):(cP x y b).length=9:=by simp [cP,dc,hx,hy]
theorem aH {x y:List Int} (hx:x.length=4) (hy:y.length=4) (b:Bool):(cP x y b).take 9=cP x y b:=List.take_of_length_le (by rw [aD hx hy];omega)
theorem dG {x y:List Int} (hx:x.length=4) (hy:y.length=4) (b:Bool):(cP x y b).drop 9=[]:=List.drop_eq_nil_of_le (by rw [aD hx hy];omega)
theorem yu {x y:List Int} (hx:x.length=4) (b:Bool):(cP x y b).take 4=cI x:=by
 unfold cP;rw [List.take_append_of_le_length (by rw [dc];omega),aa hx]
theorem CH {x y:List Int} (hx:x.length=4) (hy:y.length=4) (b:Bool):((cP x y b).drop 4).take 4=cI y:=by
 unfold cP;rw [List.drop_append_of_le_length (by rw [dc];omega),ao hx,List.nil_append,List.take_append_of_le_length (by rw [dc];omega),aa hy]
theorem kw {x y:List Int} (hx:x.length=4) (hy:y.length=4) (b:Bool):(cP x y b)[8]?=some (.d (.bool b)):=by
 unfold cP;rw [List.getElem?_append_right (by rw [dc];omega),List.getElem?_append_right (by simp only [dc];omega)]
 simp [dc,hx,hy]
theorem kZ {x y:List Int} (hx:x.length=4) (hy:y.length=4) (b:Bool) (h:8<(cP x y b).length):(cP x y b)[8]=.d (.bool b):=(List.getElem?_eq_some_iff.1 (kw hx hy b)).2
theorem kf (x y:List Int) (b:Bool):(AV.agg (cP x y b)).deep:=by
 intro v hv
 unfold cP at hv
 rcases List.mem_append.1 hv with hv | hv
 ·exact gw _ v hv
 ·rcases List.mem_append.1 hv with hv | hv
  ·exact gw _ v hv
  ·simp at hv;subst hv;trivial
theorem bp (x y:List Int) (b:Bool):∀ v,v ∈ [AV.agg (cP x y b)]→v.deep:=by
 intro v hv;simp at hv;subst hv;exact kf _ _ _
theorem gP (n:Nat) (x y:List Int) (b:Bool):∀ v,v ∈ cP x y b→v.low1 n:=by
 intro v hv
 unfold cP at hv
 rcases List.mem_append.1 hv with hv | hv
 ·exact aA _ _ v hv
 ·rcases List.mem_append.1 hv with hv | hv
  ·exact aA _ _ v hv
  ·simp at hv;subst hv;trivial
theorem dK {Q:AV→Prop} {st:St} {x y:List Int} {b:Bool} (hq:Q (.agg (cP x y b))):dW Q (.agg (cP x y b)) st:=ae (kf _ _ _) hq
theorem Rm:eH Tryz.prog 162=some (cP zI zI false):=by kernel_rfl
attribute [go_sem] Rm
theorem hJ:aq Tryz.prog 162 [] (fun r=>r=.agg (cP zI zI true)):=by
 refine aS Tryz.func162 Tryz.ntmps162 (rs:=[.cell 0 162]) (by simp [AV.deep,AV.deep1]) ?_
 simp [go_sem,cP,cI,zI,ak]
 exact dK (x:=zI) (y:=zI) (b:=true) rfl
def lP (x y:List Int) (b:Bool):List L1:=x.map (L1.i .u64) ++ (y.map (L1.i .u64) ++ [L1.b b])
theorem FL:∀ (x:List Int) (r:List AV),dR (cI x ++ r)=(dR r).map (x.map (L1.i .u64) ++ ·)
 | [],r=>by simp [cI]
 | a :: l,r=>by
  have ih:=FL l r
  show dR (.d (.int .u64 a) :: (cI l ++ r))=_
  have e:dR (.d (.int .u64 a) :: (cI l ++ r))=(dR (cI l ++ r)).map (L1.i .u64 a :: ·):=rfl
  rw [e,ih,Option.map_map]
  rfl
theorem qe (x y:List Int) (b:Bool):dR (cP x y b)=some (lP x y b):=by
 unfold cP
 rw [FL,FL]
 rfl
theorem Qv:dp Tryz.prog 8 162=some (List.replicate 8 (some .u64) ++ [none]):=by kernel_rfl
theorem vP {x y:List Int} (hx:x.length=4) (hy:y.length=4) (b:Bool):dp Tryz.prog 8 162=some ((lP x y b).map L1.k):=by
 rw [Qv]
 match x,y,hx,hy with
 | [a,b,c,d],[e,f,g,h],_,_=>rfl
theorem Rb:Tryz.prog.eqGuardType Tryz.prog.depth 162=false:=by kernel_rfl
theorem On (x y:List Int) (b:Bool) (hx:Wn 4 x) (hy:Wn 4 y):∃ c:Bool,(c=true ↔ dB x y b)∧aq Tryz.prog 211 [.agg (cP x y b)] (fun r=>r=.d (.bool c)):=by
 have hxl:=hx.1
 have hyl:=hy.1
 cases b
 ·obtain ⟨b1,vb1,f1⟩:=rT x hx
  obtain ⟨b2,vb2,f2⟩:=rT y hy
  obtain ⟨s,hs,vs,f3⟩:=kY y hy
  obtain ⟨r,hr,vr,f4⟩:=yt x hx
  unfold W1 at f3 f4
  have hsl:=hs.1
  have hrl:=hr.1
  have e1:∀ c:Bool,(cP x y c).take 4=cI x:=yu hxl
  have e2:∀ c:Bool,((cP x y c).drop 4).take 4=cI y:=CH hxl hyl
  have hv:(b1 && (b2 && decide (s=r)))=true ↔ dB x y false:=by
   rw [Bool.and_eq_true,Bool.and_eq_true,decide_eq_true_iff,vb1,vb2]
   refine ⟨fun ⟨h1,h2,h3⟩=>.inr ⟨rfl,h1,h2,by rw [← vs.2,h3,vr.2]⟩,fun h=>?_⟩
   rcases h with ⟨h,_⟩ | ⟨_,h1,h2,h3⟩
   ·cases h
   ·exact ⟨h1,h2,rR hs hr vs.1 vr.1 (by rw [vs.2,vr.2,h3])⟩
  refine ⟨b1 && (b2 && decide (s=r)),hv,?_⟩
  refine aS Tryz.func211 Tryz.ntmps211 (rs:=[.tmp 2]) (bp _ _ _) ?_
  simp [go_sem,aD hxl hyl,aH hxl hyl,kw hxl hyl,kZ hxl hyl]
  cases b1
  ·skip
   refine bk [0,1] [(2,[3,4,5]),(6,[7,8,9,10,12,13]),(11,[]),(14,[15,16,17])] 4 (k:=18) ?_
   intro G hG
   simp [go_sem,aD hxl hyl,e1,e2]
   refine ab f1 (ar _) ?_
   simp [go_sem,be]
   refine hG _ _ ?_
   simp [go_sem,ak]
   exact ae (by simp [AV.deep,AV.deep1]) rfl
  ·cases b2
   ·skip
    refine bk [0,1] [(2,[3,4,5]),(6,[7,8,9,10,12,13]),(11,[]),(14,[15,16,17])] 4 (k:=18) ?_
    intro G hG
    simp [go_sem,aD hxl hyl,e1,e2]
    refine ab f1 (ar _) ?_
    simp [go_sem,aD hxl hyl,e1,e2,be]
    refine ab f2 (ar _) ?_
    simp [go_sem,be]
    refine hG _ _ ?_
    simp [go_sem,ak]
    exact ae (by simp [AV.deep,AV.deep1]) rfl
   ·skip
    refine bk [0,1] [(2,[3,4,5]),(6,[7,8,9,10,12,13]),(11,[]),(14,[15,16,17])] 4 (k:=18) ?_
    intro G hG
    simp [go_sem,aD hxl hyl,e1,e2]
    refine ab f1 (ar _) ?_
    simp [go_sem,aD hxl hyl,e1,e2,be]
    refine ab f2 (ar _) ?_
    simp [go_sem,aD hxl hyl,e1,e2,be]
    refine ab f3 (ar _) ?_
    simp [go_sem,aD hxl hyl,e1,e2,be]
    refine ab f4 (ar _) ?_
    simp [go_sem,aW,hsl,hrl,be]
    refine hG _ _ ?_
    simp [go_sem,ak]
    exact ae (by simp [AV.deep,AV.deep1]) rfl
 ·have hv:decide (lP x y true=lP zI zI true)=true ↔ dB x y true:=by
   rw [decide_eq_true_iff]
   refine ⟨fun h=>.inl ⟨rfl,?_⟩,fun h=>?_⟩
   ·match x,y,hxl,hyl with
    | [a,b,c,d],[e,f,g,i],_,_ =>
     simp [lP,zI] at h
     obtain ⟨rfl,rfl,rfl,rfl,rfl,rfl,rfl,rfl⟩:=h
     exact ⟨rfl,rfl⟩
   ·rcases h with ⟨_,rfl,rfl⟩ | ⟨h,_⟩
    ·rfl
    ·cases h
  refine ⟨decide (lP x y true=lP zI zI true),hv,?_⟩
  refine aS Tryz.func211 Tryz.ntmps211 (rs:=[.tmp 2]) (bp _ _ _) ?_
  simp [go_sem,aD hxl hyl,aH hxl hyl,kw hxl hyl,kZ hxl hyl]
  refine bk [0] [(1,[2,3])] 1 (k:=4) ?_
  intro G hG
  simp [go_sem,aD hxl hyl,aH hxl hyl]
  refine ab hJ (by simp) ?_
  have k1:=vP hxl hyl true
  have k2:=vP (x:=zI) (y:=zI) rfl rfl true
  have l1:=qe x y true
  have l2:=qe zI zI true
  generalize lP x y true=u at *
  generalize lP zI zI true=v at *
  simp [go_sem,l1,l2,Rb,be]
  first | refine ⟨k1,k2,hG _ _ ?_⟩ | refine ⟨k1,hG _ _ ?_⟩
  simp [go_sem,ak]
  exact ae (by simp [AV.deep,AV.deep1]) rfl
theorem nR (x y:List Int) (b:Bool) (hx:Wn 4 x) (hy:Wn 4 y):∃ (u v:List Int) (c:Bool),Wn 4 u∧Wn 4 v∧(dB u v c∧(dB x y b→u=x∧v=y∧c=b)∧(¬ dB x y b→u=zI∧v=zI∧c=true))∧aq Tryz.prog 168 [.agg (cP x y b)] (fun r=>r=.agg (cP u v c)):=by
 obtain ⟨o,vo,f1⟩:=On x y b hx hy
 have hxl:=hx.1
 have hyl:=hy.1
 have zd:(cP zI zI false).drop 9=[]:=dG rfl rfl _
 have zl:(cP zI zI true).length=9:=rfl
 have zt:(cP zI zI true).take 9=cP zI zI true:=aH rfl rfl _
 have zl2:(cP zI zI false).length=9:=rfl
 cases o
 ·refine ⟨zI,zI,true,cG,cG,⟨kX,fun h=>absurd (vo.2 h) (by decide),fun _=>⟨rfl,rfl,rfl⟩⟩,?_⟩
  refine aS Tryz.func168 Tryz.ntmps168 (rs:=[.cell 2 162]) (bp _ _ _) ?_
  simp [go_sem,aD hxl hyl,aH hxl hyl]
  refine ab f1 (bp _ _ _) ?_
  simp [go_sem]
  refine ab hJ (by simp) ?_
  simp [go_sem,zl,zt,zd,zl2,ak]
  exact dK rfl
 ·refine ⟨x,y,b,hx,hy,⟨vo.1 rfl,fun _=>⟨rfl,rfl,rfl⟩,fun h=>absurd (vo.1 rfl) h⟩,?_⟩
  refine aS Tryz.func168 Tryz.ntmps168 (rs:=[.cell 2 162]) (bp _ _ _) ?_
  simp [go_sem,aD hxl hyl,aH hxl hyl]
  refine ab f1 (bp _ _ _) ?_
  simp [go_sem,aD hxl hyl,aH hxl hyl,zd,zl2,ak]
  exact dK rfl
def cV (x y z:List Int):List AV:=cI x ++ (cI y ++ cI z)
theorem bq {x y z:List Int} (hx:x.length=4) (hy:y.length=4) (hz:z.length=4):(cV x y z).length=12:=by simp [cV,dc,hx,hy,hz]
theorem aZ {x y z:List Int} (hx:x.length=4) (hy:y.length=4) (hz:z.length=4):(cV x y z).take 12=cV x y z:=List.take_of_length_le (by rw [bq hx hy hz];omega)
theorem ek {x y z:List Int} (hx:x.length=4) (hy:y.length=4) (hz:z.length=4):(cV x y z).drop 12=[]:=List.drop_eq_nil_of_le (by rw [bq hx hy hz];omega)
theorem vQ {x y z:List Int} (hx:x.length=4):(cV x y z).take 4=cI x:=by
 unfold cV;rw [List.take_append_of_le_length (by rw [dc];omega),aa hx]
theorem vS {x y z:List Int} (hx:x.length=4) (hy:y.length=4):((cV x y z).drop 4).take 4=cI y:=by
 unfold cV;rw [List.drop_append_of_le_length (by rw [dc];omega),ao hx,List.nil_append,List.take_append_of_le_length (by rw [dc];omega),aa hy]
theorem pI {x y z:List Int} (hx:x.length=4) (hy:y.length=4) (hz:z.length=4):((cV x y z).drop 8).take 4=cI z:=by
 have e:cV x y z=(cI x ++ cI y) ++ cI z:=by simp [cV]
 rw [e,List.drop_append_of_le_length (by simp [dc,hx,hy]),List.drop_eq_nil_of_le (by simp [dc,hx,hy]),List.nil_append,aa hz]
theorem lU (x y z:List Int):(AV.agg (cV x y z)).deep:=by
 intro v hv
 unfold cV at hv
 rcases List.mem_append.1 hv with hv | hv
 ·exact gw _ v hv
 ·rcases List.mem_append.1 hv with hv | hv
  ·exact gw _ v hv
  ·exact gw _ v hv
theorem dC (x y z:List Int):∀ v,v ∈ [AV.agg (cV x y z)]→v.deep:=by
 intro v hv;simp at hv;subst hv;exact lU _ _ _
theorem gQ (n:Nat) (x y z:List Int):∀ v,v ∈ cV x y z→v.low1 n:=by
 intro v hv
 unfold cV at hv
 rcases List.mem_append.1 hv with hv | hv
 ·exact aA _ _ v hv
 ·rcases List.mem_append.1 hv with hv | hv
  ·exact aA _ _ v hv
  ·exact aA _ _ v hv
theorem eP {Q:AV→Prop} {st:St} {x y z:List Int} (hq:Q (.agg (cV x y z))):dW Q (.agg (cV x y z)) st:=ae (lU _ _ _) hq
theorem Rn:eH Tryz.prog 199=some (cV zI zI zI):=by kernel_rfl
attribute [go_sem] Rn
def dm:List Int:=[1,0,0,0]
theorem oR:Wn 4 dm:=cO ⟨by omega,by omega⟩
theorem lV (x y z:List Int) (hx:Wn 4 x) (hy:Wn 4 y) (hz:Wn 4 z):aq Tryz.prog 212 [.agg (cV x y z)] (fun r=>r=.d (.bool (decide (z=zI)))):=by
 have hxl:=hx.1
 have hyl:=hy.1
 have hzl:=hz.1
 refine aS Tryz.func212 Tryz.ntmps212 (rs:=[.tmp 2]) (dC _ _ _) ?_
 have iz:bz .u64 [AV.d (.int .u64 0),AV.d (.int .u64 0),AV.d (.int .u64 0),AV.d (.int .u64 0)]=some zI:=aW zI
 simp [go_sem,bq hxl hyl hzl,aZ hxl hyl hzl,pI hxl hyl hzl,aW,iz,hzl,ak]
 exact ae (by simp [AV.deep,AV.deep1]) rfl
theorem tJ:V dm=1:=by simp [V,dm]
theorem FM:FV dm=1:=oP 1 (by omega)
theorem Oo:JV dm dm zI=none:=by
 show nO fd (FV dm) (FV dm) (FV zI)=none
 rw [mS];exact yq fd _ _
theorem Oq:oQ dm dm zI:=by
 have hz:V zI=0:=by simp [V,zI]
 refine ⟨⟨by rw [tJ];decide,by rw [tJ];decide,by rw [hz];decide⟩,by rw [Oo];trivial⟩
theorem yv:(1:F) ≠ 0:=fd.one
theorem Qw (a:F):a=a*(1*1):=by grobner
theorem Ot (a:F):a=a*(1*1*1):=by grobner
theorem LM (x y:List Int):JV x y dm=some (FV x,FV y):=by
 show nO fd (FV x) (FV y) (FV dm)=_
 rw [FM]
 exact vK fd yv (Qw _) (Ot _)
theorem Iz {x y:List Int} (h:dB x y false):oQ x y dm∧JV x y dm=PV x y false:=by
 have e:JV x y dm=PV x y false:=LM x y
 have ho:=gZ h
 rcases h with ⟨h,_⟩ | ⟨_,h1,h2,_⟩
 ·cases h
 ·exact ⟨⟨⟨h1,h2,by rw [tJ];decide⟩,by rw [e];exact ho⟩,e⟩
theorem Rc {x y:List Int} (hx:x.length=4) (hy:y.length=4):List.take 8 (cI x ++ (cI y ++ List.drop 8 (cI x ++ [AV.d (.int .u64 0),AV.d (.int .u64 0),AV.d (.int .u64 0),AV.d (.int .u64 0),AV.d (.int .u64 0),AV.d (.int .u64 0),AV.d (.int .u64 0),AV.d (.int .u64 0)]))) ++ (cI [1,0,0,0] ++ List.drop 12 (cI x ++ (cI y ++ List.drop 8 (cI x ++ [AV.d (.int .u64 0),AV.d (.int .u64 0),AV.d (.int .u64 0),AV.d (.int .u64 0),AV.d (.int .u64 0),AV.d (.int .u64 0),AV.d (.int .u64 0),AV.d (.int .u64 0)]))))=cV x y dm:=by
 match x,y,hx,hy with
 | [a,b,c,d],[e,f,g,h],_,_=>rfl
theorem la (x y:List Int) (b:Bool) (hx:Wn 4 x) (hy:Wn 4 y):∃ (u v w:List Int),Wn 4 u∧Wn 4 v∧Wn 4 w∧(dB x y b→oQ u v w∧JV u v w=PV x y b)∧aq Tryz.prog 167 [.agg (cP x y b)] (fun r=>r=.agg (cV u v w)):=by
 have hxl:=hx.1
 have hyl:=hy.1
 cases b
 ·refine ⟨x,y,dm,hx,hy,oR,Iz,?_⟩
  refine aS Tryz.func167 Tryz.ntmps167 (rs:=[.cell 2 199]) (bp _ _ _) ?_
  have e1:∀ c:Bool,(cP x y c).take 4=cI x:=yu hxl
  have e2:∀ c:Bool,((cP x y c).drop 4).take 4=cI y:=CH hxl hyl
  simp [go_sem,aD hxl hyl,aH hxl hyl,kw hxl hyl,kZ hxl hyl]
  refine bk [0,1,2,3] [(4,[5]),(6,[])] 1 (k:=7) ?_
  intro G hG
  simp [go_sem,aD hxl hyl,e1,e2]
  refine ab (dZ 1) (rS _) ?_
  simp [go_sem,hxl,hyl]
  rw [Rc hxl hyl]
  refine hG _ _ ?_
  have ol:dm.length=4:=rfl
  simp [go_sem,bq hxl hyl ol,aZ hxl hyl ol,ak]
  exact eP rfl
 ·refine ⟨dm,dm,zI,oR,oR,cG,fun _=>⟨Oq,Oo⟩,?_⟩
  refine aS Tryz.func167 Tryz.ntmps167 (rs:=[.cell 2 199]) (bp _ _ _) ?_
  simp [go_sem,aD hxl hyl,aH hxl hyl,kw hxl hyl,kZ hxl hyl]
  refine ab (dZ 1) (rS _) ?_
  simp [go_sem]
  refine ab (dZ 1) (rS _) ?_
  simp [go_sem,ak]
  exact eP (x:=dm) (y:=dm) (z:=zI) rfl
theorem kg (c:Int) (a:List Int):∀ v,v ∈ [AV.d (.int .u64 c),AV.agg (cI a)]→v.deep:=by
 intro v hv;simp at hv;rcases hv with rfl | rfl;trivial;exact dY _
theorem jD (n:Int) (a:List Int) (hn:cD n) (ha:Wn 4 a):∃ r,Wn 4 r∧(V r<pZ∧FV r=FV [n,0,0,0]*FV a)∧aq Tryz.prog 214 [.d (.int .u64 n),.agg (cI a)] (fun x=>x=.agg (cI r)):=by
 obtain ⟨r,hr,vr,f1⟩:=eW [n,0,0,0] a (cO hn) ha
 unfold W2 at f1
 have hal:=ha.1
 have hrl:=hr.1
 have hz:List.drop 4 (cI zI)=[]:=ao rfl
 refine ⟨r,hr,vr,?_⟩
 refine aS Tryz.func214 Tryz.ntmps214 (rs:=[.cell 4 160]) (kg _ _) ?_
 simp [go_sem,hal,aa hal]
 refine bD [0,2] [1,3,4] [0,2] (.step 1 [] true (.step 3 [] false (.step 4 [] false .done))) ⟨[(4,.ptr 32 0 0 1)],[(32,⟨160,4,[cI r]⟩)],9000⟩ (k:=5) ?h3 ?hq
 case h3 =>
  intro G hG
  have hW:∀ (fr:Fr) (hp:Hp),(fv 4 fr=.ptr 32 0 0 1∧lk 32 hp=some ⟨160,4,[cI r]⟩)→G fr hp:=by
   rintro fr hp ⟨q0,q1⟩
   exact hG _ _ fc
  simp [go_sem,hal,aa hal,hrl,aa hrl,hz,be]
  repeat' first | exact hW _ _ ⟨rfl,rfl⟩ | (refine hW _ _ ?_;simp [fv,lk];done) | refine ab (dZ n) (rS _) ?_ | refine ab f1 (ah _ _) ?_ | apply And.intro | simp [go_sem,hal,aa hal,hrl,aa hrl,hz,be]
 case hq =>
  simp [go_sem,hrl,aa hrl,ak]
  exact bm rfl
theorem O0 {x y:List Int} (hx:x.length=4) (hy:y.length=4):List.take 8 (cI x ++ (cI y ++ List.drop 8 (cI x ++ [AV.d (.int .u64 0),AV.d (.int .u64 0),AV.d (.int .u64 0),AV.d (.int .u64 0),AV.d (.int .u64 0),AV.d (.int .u64 0),AV.d (.int .u64 0),AV.d (.int .u64 0)])))=cI x ++ cI y:=by
 match x,y,hx,hy with
 | [a,b,c,d],[e,f,g,h],_,_=>rfl
theorem IA {x y:List Int} (hx:x.length=4) (hy:y.length=4):List.drop 12 (cI x ++ (cI y ++ List.drop 8 (cI x ++ [AV.d (.int .u64 0),AV.d (.int .u64 0),AV.d (.int .u64 0),AV.d (.int .u64 0),AV.d (.int .u64 0),AV.d (.int .u64 0),AV.d (.int .u64 0),AV.d (.int .u64 0)])))=[]:=by
 match x,y,hx,hy with
 | [a,b,c,d],[e,f,g,h],_,_=>rfl
theorem rU (x y z:List Int) (hx:Wn 4 x) (hy:Wn 4 y) (hz:Wn 4 z):∃ (u v w:List Int),Wn 4 u∧Wn 4 v∧Wn 4 w∧(oQ x y z→oQ u v w∧JV u v w=sum fd (JV x y z) (JV x y z))∧aq Tryz.prog 171 [.agg (cV x y z)] (fun r=>r=.agg (cV u v w)):=by
 obtain ⟨y2,h1,g1,f1⟩:=kY y hy
 obtain ⟨m1,h2,g2,f2⟩:=eW x y2 hx h1
 obtain ⟨s,h3,g3,f3⟩:=jD 4 m1 ⟨by omega,by omega⟩ h2
 obtain ⟨x2,h4,g4,f4⟩:=kY x hx
 obtain ⟨m,h5,g5,f5⟩:=jD 3 x2 ⟨by omega,by omega⟩ h4
 obtain ⟨m2,h6,g6,f6⟩:=kY m h5
 obtain ⟨s2,h7,g7,f7⟩:=jD 2 s ⟨by omega,by omega⟩ h3
 obtain ⟨X,h8,g8,f8⟩:=nQ m2 s2 h6 h7
 obtain ⟨d,h9,g9,f9⟩:=nQ s X h3 h8
 obtain ⟨e,h10,g10,f10⟩:=eW m d h5 h9
 obtain ⟨y4,h11,g11,f11⟩:=kY y2 h1
 obtain ⟨y8,h12,g12,f12⟩:=jD 8 y4 ⟨by omega,by omega⟩ h11
 obtain ⟨Y,h13,g13,f13⟩:=nQ e y8 h10 h12
 obtain ⟨yz,h14,g14,f14⟩:=eW y z hy hz
 obtain ⟨Z,h15,g15,f15⟩:=jD 2 yz ⟨by omega,by omega⟩ h14
 obtain ⟨wu,wv,ww,h16,h17,h18,g16,f16⟩:=la zI zI true cG cG
 unfold W1 at f1 f4 f6 f11
 unfold W2 at f2 f8 f9 f10 f13 f14
 have l1:=h1.1
 have l2:=h2.1
 have l3:=h3.1
 have l4:=h4.1
 have l5:=h5.1
 have l6:=h6.1
 have l7:=h7.1
 have l8:=h8.1
 have l9:=h9.1
 have l10:=h10.1
 have l11:=h11.1
 have l12:=h12.1
 have l13:=h13.1
 have l14:=h14.1
 have l15:=h15.1
 have l16:=h16.1
 have l17:=h17.1
 have l18:=h18.1
 have hxl:=hx.1
 have hyl:=hy.1
 have hzl:=hz.1
 have z4:List.drop 4 (cI zI)=[]:=ao rfl
 have vl:=bq hxl hyl hzl
 have vt:=aZ hxl hyl hzl
 have v1:(cV x y z).take 4=cI x:=vQ hxl
 have v2:=vS (z:=z) hxl hyl
 have v3:=pI hxl hyl hzl
 have iz:bz .u64 [AV.d (.int .u64 0),AV.d (.int .u64 0),AV.d (.int .u64 0),AV.d (.int .u64 0)]=some zI:=aW zI
 have f0:=lV x y z hx hy hz
 have wd:(cV zI zI zI).drop 12=[]:=ek rfl rfl rfl
 have wl:(cV zI zI zI).length=12:=rfl
 have ul:=bq l16 l17 l18
 have ut:=aZ l16 l17 l18
 by_cases q0:z=zI ∨ y=zI
 ·have vv:oQ x y z→oQ wu wv ww∧JV wu wv ww=sum fd (JV x y z) (JV x y z):=by
   intro hj
   obtain ⟨k1,k2⟩:=g16 kX
   rcases q0 with q | q
   ·have e:JV x y z=none:=by rw [q];show nO fd _ _ (FV zI)=none;rw [mS];exact yq fd _ _
    exact ⟨k1,by rw [k2,e,FK];exact (dx fd (Q:=none) True.intro).symm⟩
   ·by_cases q1:z=zI
    ·have e:JV x y z=none:=by rw [q1];show nO fd _ _ (FV zI)=none;rw [mS];exact yq fd _ _
     exact ⟨k1,by rw [k2,e,FK];exact (dx fd (Q:=none) True.intro).symm⟩
    ·have hz0:FV z ≠ 0:=fun h=>q1 ((fg hz hj.1.2.2).1 h)
     exact absurd (by rw [q,mS]) (rN fd hz0 hj.2).2.1
  refine ⟨wu,wv,ww,h16,h17,h18,vv,?_⟩
  refine aS Tryz.func171 Tryz.ntmps171 (rs:=[.cell 2 199]) (dC _ _ _) ?_
  simp [go_sem,vl,vt]
  refine ab f0 (dC _ _ _) ?_
  by_cases q1:z=zI
  ·simp [go_sem,q1]
   refine ab hJ (by simp) ?_
   simp [go_sem]
   refine ab f16 (bp _ _ _) ?_
   simp [go_sem,ul,ut,wd,wl,ak]
   exact eP rfl
  ·have q2:y=zI:=q0.resolve_left q1
   simp [go_sem,q1,v2,vl,aW,iz,hyl]
   refine ⟨fun _=>?_,fun h=>absurd q2 h⟩
   refine ab hJ (by simp) ?_
   simp [go_sem]
   refine ab f16 (bp _ _ _) ?_
   simp [go_sem,ul,ut,wd,wl,ak]
   exact eP rfl
 ·have q1:z ≠ zI:=fun h=>q0 (.inl h)
  have q2:y ≠ zI:=fun h=>q0 (.inr h)
  have vv:oQ x y z→oQ X Y Z∧JV X Y Z=sum fd (JV x y z) (JV x y z):=by
   intro hj
   have hz0:FV z ≠ 0:=fun h=>q1 ((fg hz hj.1.2.2).1 h)
   obtain ⟨_,_,e⟩:=rN fd hz0 hj.2
   have n2:FV [2,0,0,0]=2:=oP 2 (by omega)
   have n3:FV [3,0,0,0]=3:=oP 3 (by omega)
   have n4:FV [4,0,0,0]=4:=oP 4 (by omega)
   have n8:FV [8,0,0,0]=8:=oP 8 (by omega)
   have eX:FV X=3*(FV x*FV x)*(3*(FV x*FV x)) - 2*(4*(FV x*(FV y*FV y))):=by
    rw [g8.2,g6.2,g5.2,g4.2,g7.2,g3.2,g2.2,g1.2,n2,n3,n4]
   have eY:FV Y=3*(FV x*FV x)*(4*(FV x*(FV y*FV y)) - (3*(FV x*FV x)*(3*(FV x*FV x)) - 2*(4*(FV x*(FV y*FV y))))) - 8*(FV y*FV y*(FV y*FV y)):=by
    rw [g13.2,g10.2,g9.2,eX,g5.2,g4.2,g3.2,g2.2,g12.2,g11.2,g1.2,n3,n4,n8]
   have eZ:FV Z=2*(FV y*FV z):=by rw [g15.2,g14.2,n2]
   have e2:JV X Y Z=sum fd (JV x y z) (JV x y z):=by
    show nO fd (FV X) (FV Y) (FV Z)=_
    rw [eX,eY,eZ]
    exact e
   exact ⟨⟨⟨g8.1,g13.1,g15.1⟩,by rw [e2];exact iI fd hj.2 hj.2⟩,e2⟩
  refine ⟨X,Y,Z,h8,h13,h15,vv,?_⟩
  refine aS Tryz.func171 Tryz.ntmps171 (rs:=[.cell 2 199]) (dC _ _ _) ?_
  simp [go_sem,vl,vt]
  refine ab f0 (dC _ _ _) ?_
  simp [go_sem,q1,q2,v2,vl,aW,iz,hyl]
  refine ab f1 (ar _) ?_
  simp [go_sem,l1,aa l1,z4,v1,vl]
  refine ab f2 (ah _ _) ?_
  simp [go_sem]
  refine ab f3 (kg _ _) ?_
  simp [go_sem,l3,aa l3,z4,v1,vl]
  refine ab f4 (ar _) ?_
  simp [go_sem]
  refine ab f5 (kg _ _) ?_
  simp [go_sem,l5,aa l5,z4]
  refine bD [0,2] [1,3,4,5,6] [0,2] (.alt (.step 1 [] true (.alt (.step 3 [] false (.alt (.step 4 [] false (.step 5 [] false (.step 6 [] false .done))) (.step 5 [] false (.step 4 [] false (.step 6 [] false .done))))) (.step 5 [] true (.step 3 [] false (.step 4 [] false (.step 6 [] false .done)))))) (.step 5 [] true (.step 1 [] true (.step 3 [] false (.step 4 [] false (.step 6 [] false .done)))))) ⟨[(1,.ptr 0 0 0 1),(2,.ptr 32 0 0 1),(3,.ptr 416 0 0 1),(4,.ptr 640 0 0 1),(5,.ptr 832 0 0 1),(6,.ptr 1056 0 0 1)],[(1056,⟨160,4,[cI X]⟩),(832,⟨160,4,[cI m]⟩),(640,⟨160,4,[cI s]⟩),(416,⟨160,4,[cI y2]⟩),(32,⟨199,12,[cV zI zI zI]⟩),(0,⟨199,12,[cV x y z]⟩)],9000⟩ (k:=7) ?h3 ?hq
  case h3 =>
   intro G hG
   have hW:∀ (fr:Fr) (hp:Hp),(fv 1 fr=.ptr 0 0 0 1∧fv 2 fr=.ptr 32 0 0 1∧fv 3 fr=.ptr 416 0 0 1∧fv 4 fr=.ptr 640 0 0 1∧fv 5 fr=.ptr 832 0 0 1∧fv 6 fr=.ptr 1056 0 0 1∧lk 1056 hp=some ⟨160,4,[cI X]⟩∧lk 832 hp=some ⟨160,4,[cI m]⟩∧lk 640 hp=some ⟨160,4,[cI s]⟩∧lk 416 hp=some ⟨160,4,[cI y2]⟩∧lk 32 hp=some ⟨199,12,[cV zI zI zI]⟩∧lk 0 hp=some ⟨199,12,[cV x y z]⟩)→G fr hp:=by
    rintro fr hp ⟨q0,q1,q2,q3,q4,q5,q6,q7,q8,q9,q10,q11⟩
    exact hG _ _ fc
   simp [go_sem,l1,l3,l5,l8,l13,aa l1,aa l3,aa l5,aa l8,aa l13,z4,be]
   repeat' first | exact hW _ _ ⟨rfl,rfl,rfl,rfl,rfl,rfl,rfl,rfl,rfl,rfl,rfl,rfl⟩ | (refine hW _ _ ?_;simp [fv,lk];done) | refine ab f6 (ar _) ?_ | refine ab f7 (kg _ _) ?_ | refine ab f8 (ah _ _) ?_ | apply And.intro | simp [go_sem,l1,l3,l5,l8,l13,aa l1,aa l3,aa l5,aa l8,aa l13,z4,be]
  case hq =>
   simp [go_sem]
   refine bD [0,1,2,5] [3,4,6,7,8,9,10] [0,1,2,5] (.alt (.step 3 [] true (.alt (.step 4 [] true (.alt (.step 6 [] false (.alt (.step 7 [] false (.alt (.step 8 [] false (.step 9 [] false (.step 10 [] false .done))) (.step 9 [] false (.step 8 [] false (.step 10 [] false .done))))) (.step 9 [] false (.step 7 [] false (.step 8 [] false (.step 10 [] false .done)))))) (.step 9 [] true (.step 6 [] false (.step 7 [] false (.step 8 [] false (.step 10 [] false .done))))))) (.step 9 [] true (.step 4 [] true (.step 6 [] false (.step 7 [] false (.step 8 [] false (.step 10 [] false .done)))))))) (.step 9 [] true (.step 3 [] true (.step 4 [] true (.step 6 [] false (.step 7 [] false (.step 8 [] false (.step 10 [] false .done)))))))) ⟨[(1,.ptr 0 0 0 1),(2,.ptr 32 0 0 1),(3,.ptr 416 0 0 1),(4,.ptr 640 0 0 1),(5,.ptr 832 0 0 1),(6,.ptr 1056 0 0 1),(7,.ptr 9288 0 0 1)],[(9288,⟨160,4,[cI Y]⟩),(1056,⟨160,4,[cI X]⟩),(832,⟨160,4,[cI m]⟩),(640,⟨160,4,[cI s]⟩),(416,⟨160,4,[cI y2]⟩),(32,⟨199,12,[cV zI zI zI]⟩),(0,⟨199,12,[cV x y z]⟩)],20000⟩ (k:=11) ?h3 ?hq
   case h3 =>
    intro G hG
    have hW:∀ (fr:Fr) (hp:Hp),(fv 1 fr=.ptr 0 0 0 1∧fv 2 fr=.ptr 32 0 0 1∧fv 3 fr=.ptr 416 0 0 1∧fv 4 fr=.ptr 640 0 0 1∧fv 5 fr=.ptr 832 0 0 1∧fv 6 fr=.ptr 1056 0 0 1∧fv 7 fr=.ptr 9288 0 0 1∧lk 9288 hp=some ⟨160,4,[cI Y]⟩∧lk 1056 hp=some ⟨160,4,[cI X]⟩∧lk 832 hp=some ⟨160,4,[cI m]⟩∧lk 640 hp=some ⟨160,4,[cI s]⟩∧lk 416 hp=some ⟨160,4,[cI y2]⟩∧lk 32 hp=some ⟨199,12,[cV zI zI zI]⟩∧lk 0 hp=some ⟨199,12,[cV x y z]⟩)→G fr hp:=by
     rintro fr hp ⟨q0,q1,q2,q3,q4,q5,q6,q7,q8,q9,q10,q11,q12,q13⟩
     exact hG _ _ fc
    simp [go_sem,l1,l3,l5,l8,l13,aa l1,aa l3,aa l5,aa l8,aa l13,z4,be]
    repeat' first | exact hW _ _ ⟨rfl,rfl,rfl,rfl,rfl,rfl,rfl,rfl,rfl,rfl,rfl,rfl,rfl,rfl⟩ | (refine hW _ _ ?_;simp [fv,lk];done) | refine ab f9 (ah _ _) ?_ | refine ab f10 (ah _ _) ?_ | refine ab f11 (ar _) ?_ | refine ab f12 (kg _ _) ?_ | refine ab f13 (ah _ _) ?_ | apply And.intro | simp [go_sem,l1,l3,l5,l8,l13,aa l1,aa l3,aa l5,aa l8,aa l13,z4,be]
   case hq =>
    simp only [go_sem,Nat.reduceEqDiff,Nat.reduceAdd,Nat.reduceLT,↓reduceIte]
    refine bk [0,1,2,3,4,5] [(6,[]),(7,[8]),(9,[])] 2 (k:=10) ?_
    intro G hG
    simp [go_sem,l8,l13,aa l8,aa l13,v2,v3,vl]
    refine ab f14 (ah _ _) ?_
    simp [go_sem]
    refine ab f15 (kg _ _) ?_
    have ev:cI X ++ (cI Y ++ cI Z)=cV X Y Z:=rfl
    have xl:=bq l8 l13 l15
    have xt:=aZ l8 l13 l15
    simp [go_sem,l8,l13,l15,wl,wd,O0 l8 l13,IA l8 l13,ev,xl,be]
    refine hG _ _ ?_
    simp [go_sem,xl,xt,ak]
    exact eP rfl
theorem LN {x y:List Int} (hx:x.length=4) (hy:y.length=4):cI x ++ (cI y ++ List.drop 8 (cI x ++ [AV.d (.int .u64 0),AV.d (.int .u64 0),AV.d (.int .u64 0),AV.d (.int .u64 0),AV.d (.bool false)]))=cP x y false:=by
 match x,y,hx,hy with
 | [a,b,c,d],[e,f,g,h],_,_=>rfl
theorem FN (x y z:List Int) (hx:Wn 4 x) (hy:Wn 4 y) (hz:Wn 4 z):∃ (u v:List Int) (c:Bool),Wn 4 u∧Wn 4 v∧(oQ x y z→dB u v c∧PV u v c=JV x y z)∧aq Tryz.prog 173 [.agg (cV x y z)] (fun r=>r=.agg (cP u v c)):=by
 obtain ⟨i,h1,g1,f1⟩:=Ol z hz
 obtain ⟨i2,h2,g2,f2⟩:=kY i h1
 obtain ⟨X,h3,g3,f3⟩:=eW x i2 hx h2
 obtain ⟨i3,h4,g4,f4⟩:=eW i2 i h2 h1
 obtain ⟨Y,h5,g5,f5⟩:=eW y i3 hy h4
 unfold W1 at f1 f2
 unfold W2 at f3 f4 f5
 have l1:=h1.1
 have l2:=h2.1
 have l3:=h3.1
 have l5:=h5.1
 have hxl:=hx.1
 have hyl:=hy.1
 have hzl:=hz.1
 have z4:List.drop 4 (cI zI)=[]:=ao rfl
 have vl:=bq hxl hyl hzl
 have vt:=aZ hxl hyl hzl
 have v1:(cV x y z).take 4=cI x:=vQ hxl
 have v2:=vS (z:=z) hxl hyl
 have v3:=pI hxl hyl hzl
 have f0:=lV x y z hx hy hz
 have zd:(cP zI zI false).drop 9=[]:=dG rfl rfl _
 have zl:(cP zI zI true).length=9:=rfl
 have zt:(cP zI zI true).take 9=cP zI zI true:=aH rfl rfl _
 have zl2:(cP zI zI false).length=9:=rfl
 by_cases q1:z=zI
 ·have vv:oQ x y z→dB zI zI true∧PV zI zI true=JV x y z:=by
   intro _
   refine ⟨kX,?_⟩
   rw [q1,FK]
   show none=nO fd _ _ (FV zI)
   rw [mS];exact (yq fd _ _).symm
  refine ⟨zI,zI,true,cG,cG,vv,?_⟩
  refine aS Tryz.func173 Tryz.ntmps173 (rs:=[.cell 2 162]) (dC _ _ _) ?_
  simp [go_sem,vl,vt]
  refine ab f0 (dC _ _ _) ?_
  simp [go_sem,q1]
  refine ab hJ (by simp) ?_
  simp [go_sem,zl,zt,zd,zl2,ak]
  exact dK rfl
 ·have vv:oQ x y z→dB X Y false∧PV X Y false=JV x y z:=by
   intro hj
   have hz0:FV z ≠ 0:=fun h=>q1 ((fg hz hj.1.2.2).1 h)
   have e:PV X Y false=JV x y z:=by
    show some (FV X,FV Y)=nO fd (FV x) (FV y) (FV z)
    rw [nO,if_neg hz0,g3.2,g5.2,g4.2,g2.2,g1.2]
   have ho:fC (PV X Y false):=by rw [e];exact hj.2
   exact ⟨.inr ⟨rfl,g3.1,g5.1,ho⟩,e⟩
  refine ⟨X,Y,false,h3,h5,vv,?_⟩
  refine aS Tryz.func173 Tryz.ntmps173 (rs:=[.cell 2 162]) (dC _ _ _) ?_
  simp [go_sem,vl,vt]
  refine ab f0 (dC _ _ _) ?_
  simp [go_sem,q1,v3,vl]
  refine ab f1 (ar _) ?_
  simp [go_sem,l1,aa l1,z4]
  refine ab f2 (ar _) ?_
  simp [go_sem,l2,aa l2,z4]
  refine bk [0,1,2,4,5,6,7] [(3,[]),(8,[]),(9,[10]),(11,[])] 3 (k:=12) ?_
  intro G hG
  simp [go_sem,l1,l2,aa l1,aa l2,v1,v2,vl]
  refine ab f3 (ah _ _) ?_
  simp [go_sem,l1,l2,aa l1,aa l2,v1,v2,vl]
  refine ab f4 (ah _ _) ?_
  simp [go_sem]
  refine ab f5 (ah _ _) ?_
  have pl1:=aD l3 l5 false
  have pt1:=aH l3 l5 false
  have mp:=LN l3 l5
  simp [go_sem,l3,l5,zl2,zd,mp,pl1,be]
  refine hG _ _ ?_
  simp [go_sem,pl1,pt1,ak]
  exact dK rfl
theorem LO (n:List Int) (k:Nat) (hn:Wn 4 n) (hk:k<256):∃ b:Bool,(b=true ↔ (V n).toNat / 2 ^ k % 2=1)∧aq Tryz.prog 172 [.agg (cI n),.d (.int .i64 (k:Int))] (fun r=>r=.d (.bool b)):=by
 have hnl:=hn.1
 have hdq:dq k=k / 64:=rfl
 have hrq:rq k=k % 64:=rfl
 have hnk:=bw (l:=n) (k:=dq k) (by omega)
 have w4:IntKind.i64.wrap ((k:Int) / 64)=(dq k:Int):=by rw [IntWalk.i64_in _ (by omega)];omega
 have w4b:IntKind.i64.wrap ((k:Int).tdiv 64)=(dq k:Int):=w4
 have e2:(k:Int) % 64=(rq k:Int):=by omega
 have e2b:(k:Int).tmod 64=(rq k:Int):=e2
 have i1:(dq k:Int)<4:=by omega
 have hm64:rq k<64:=by omega
 have hmn:min (rq k) 64=rq k:=by omega
 have bv:=Fa hn hk
 have hv:(!decide (Go.bits .and .u64 (Int.fdiv (gI n (dq k)) (2 ^ rq k)) 1=0))=true ↔ (V n).toNat / 2 ^ k % 2=1:=by
  rw [Bool.not_eq_true',decide_eq_false_iff_not]
  refine ⟨fun h=>bv.2 h,fun h h0=>?_⟩
  have:=bv.1 h0
  omega
 refine ⟨!decide (Go.bits .and .u64 (Int.fdiv (gI n (dq k)) (2 ^ rq k)) 1=0),hv,?_⟩
 refine aS Tryz.func172 Tryz.ntmps172 (rs:=[.tmp 4]) (gx _ _) ?_
 simp [go_sem,hnl,aa hnl,hnk,e2,e2b,w4,w4b,i1,hm64,hmn,IntKind.bits,ak]
 exact ae (by simp [AV.deep,AV.deep1]) rfl
theorem IB (x y:List Int) (b:Bool) (hx:Wn 4 x) (hy:Wn 4 y):∃ o:Bool,(dB x y b→(o=true ↔ b=false∧V y % 2=0))∧aq Tryz.prog 127 [.agg (cP x y b)] (fun r=>r=.d (.bool o)):=by
 obtain ⟨u,v,c,hu,hv,tv,f1⟩:=nR x y b hx hy
 have hxl:=hx.1
 have hyl:=hy.1
 have hul:=hu.1
 have hvl:=hv.1
 have xd:(cP x y b).drop 9=[]:=dG hxl hyl _
 have g4:(cP u v false)[4]?=some (.d (.int .u64 (gI v 0))):=by
  unfold cP
  rw [List.getElem?_append_right (by rw [dc];omega),dc,hul,List.getElem?_append_left (by rw [dc];omega),iH,bw (by omega)]
  rfl
 have g4b:∀ h,(cP u v false)[4]'h=.d (.int .u64 (gI v 0)):=fun h=>(List.getElem?_eq_some_iff.1 g4).2
 cases c
 ·have hpar:Go.bits .and .u64 (gI v 0) 1=0 ↔ V v % 2=0:=by
   have h0:=aP (k:=0) hv
   rw [p9 _ h0.1 h0.2]
   obtain ⟨r0,r1,r2,r3,e,_⟩:=eV hv
   rw [e,V4]
   show r0 % 2=0 ↔ _
   omega
  have ev:dB x y b→(decide (Go.bits .and .u64 (gI v 0) 1=0)=true ↔ b=false∧V y % 2=0):=by
   intro hp
   obtain ⟨_,e2,e3⟩:=tv.2.1 hp
   rw [decide_eq_true_iff,hpar,e2]
   exact ⟨fun h=>⟨e3.symm,h⟩,fun h=>h.2⟩
  refine ⟨decide (Go.bits .and .u64 (gI v 0) 1=0),ev,?_⟩
  refine aS Tryz.func127 Tryz.ntmps127 (rs:=[.tmp 2]) (bp _ _ _) ?_
  simp [go_sem,aD hxl hyl,aH hxl hyl]
  refine ab f1 (bp _ _ _) ?_
  simp [go_sem,aD hxl hyl,aD hul hvl,xd,kw hul hvl,kZ hul hvl,g4,g4b,ak]
  exact ae (by simp [AV.deep,AV.deep1]) rfl
 ·have ev:dB x y b→(false=true ↔ b=false∧V y % 2=0):=by
   intro hp
   obtain ⟨_,_,e3⟩:=tv.2.1 hp
   rw [← e3]
   exact ⟨fun h=>Bool.noConfusion h,fun h=>Bool.noConfusion h.1⟩
  refine ⟨false,ev,?_⟩
  refine aS Tryz.func127 Tryz.ntmps127 (rs:=[.tmp 2]) (bp _ _ _) ?_
  simp [go_sem,aD hxl hyl,aH hxl hyl]
  refine ab f1 (bp _ _ _) ?_
  simp [go_sem,aD hxl hyl,aD hul hvl,xd,kw hul hvl,kZ hul hvl,ak]
  exact ae (by simp [AV.deep,AV.deep1]) rfl
def gX:List Int:=[6481385041966929816,188021827762530521,6170039885052185351,8772561819708210092]
theorem IC:Wn 4 gX:=⟨rfl,by intro y hy;simp [gX] at hy;rcases hy with rfl | rfl | rfl | rfl <;> exact ⟨by omega,by omega⟩⟩
def gY:List Int:=[11261198710074299576,18237243440184513561,6747795201694173352,5204712524664259685]
theorem LP:Wn 4 gY:=⟨rfl,by intro y hy;simp [gY] at hy;rcases hy with rfl | rfl | rfl | rfl <;> exact ⟨by omega,by omega⟩⟩
def CY:List Int:=[13822214165235122497,13451932020343611451,18446744073709551614,18446744073709551615]
theorem Jp:Wn 4 CY:=⟨rfl,by intro y hy;simp [CY] at hy;rcases hy with rfl | rfl | rfl | rfl <;> exact ⟨by omega,by omega⟩⟩
theorem yw:aq Tryz.prog 210 [] (fun r=>r=.agg (cI CY)):=by
 refine aS Tryz.func210 Tryz.ntmps210 (rs:=[.cell 0 160]) (by simp [AV.deep,AV.deep1]) ?_
 simp [go_sem,cI,zI,ak]
 exact bm (a:=CY) rfl
theorem qf:dB gX gY false:=by
 have vx:V gX=55066263022277343669578718895168534326250603453777594175500187360389116729240:=by simp [V,gX]
 have vy:V gY=32670510020758816978083085130507043184471273380659243275938904335757337482424:=by simp [V,gY]
 refine .inr ⟨rfl,by rw [vx];decide,by rw [vy];decide,kW ?_⟩
 have e7:(((7:F).val:Nat):Int)=7 % pZ:=by
  show ((7 % pP:Nat):Int)=_
  rw [Int.natCast_emod,eO];rfl
 rw [oO,CE,oO,oO,Int.natCast_emod,Int.natCast_mul,Int.natCast_emod,Int.natCast_add,Int.natCast_emod,Int.natCast_mul,Int.natCast_emod,Int.natCast_mul,cp,cp,e7,eO,vx,vy]
 decide
theorem Bv:aq Tryz.prog 125 [] (fun r=>r=.agg (cP gX gY false)):=by
 refine aS Tryz.func125 Tryz.ntmps125 (rs:=[.cell 0 162]) (by simp [AV.deep,AV.deep1]) ?_
 simp [go_sem,cP,cI,zI,ak]
 exact dK (x:=gX) (y:=gY) (b:=false) rfl
theorem qh:∀ (l:List Nat),(∀ x,x ∈ l→x<256)→∀ a,l.foldl (fun a x=>a*256+x) a<(a+1)*256 ^ l.length
 | [],_,a=>by simp
 | x :: r,h,a=>by
  have h1:=qh r (fun y hy=>h y (by simp [hy])) (a*256+x)
  have h2:=h x (by simp)
  rw [List.foldl_cons,List.length_cons,Nat.pow_succ]
  have h3:(a*256+x+1)*256 ^ r.length≤((a+1)*256)*256 ^ r.length:=Nat.mul_le_mul_right _ (by omega)
  have h4:(a+1)*256*256 ^ r.length=(a+1)*(256 ^ r.length*256):=by rw [Nat.mul_assoc,Nat.mul_comm 256]
  omega
theorem rI {l:List Nat} (h:∀ x,x ∈ l→x<256) (hl:l.length≤8):db l<18446744073709551616:=by
 have h1:=qh l h 0
 have h2:256 ^ l.length≤256 ^ 8:=Nat.pow_le_pow_right (by omega) hl
 have h3:(256:Nat) ^ 8=18446744073709551616:=by decide
 unfold db
 omega
theorem qi (a b:List Nat):db (a ++ b)=db a*256 ^ b.length+db b:=by
 have key:∀ (l:List Nat) (c:Nat),l.foldl (fun a x=>a*256+x) c=c*256 ^ l.length+l.foldl (fun a x=>a*256+x) 0:=by
  intro l
  induction l with
  | nil=>intro c;simp
  | cons x r ih =>
   intro c
   rw [List.foldl_cons,List.foldl_cons,ih,ih (0*256+x),List.length_cons,Nat.pow_succ]
   have:(c*256+x)*256 ^ r.length=c*(256 ^ r.length*256)+(0*256+x)*256 ^ r.length:=by
    rw [Nat.add_mul,Nat.mul_assoc,Nat.mul_comm 256,Nat.zero_mul,Nat.zero_add]
   omega
 unfold db
 rw [List.foldl_append,key]
theorem FO {b:List Nat} (hb:b.length=32):V ((fl b 32).map fun (x:Nat)=>(x:Int))=(db b:Int):=by
 have e:b=Go.Sha.part b 32 3 ++ (Go.Sha.part b 32 2 ++ (Go.Sha.part b 32 1 ++ Go.Sha.part b 32 0)):=by
  unfold Go.Sha.part
  have h32:b.take 32=b:=List.take_of_length_le (by omega)
  rw [h32]
  have h0:(b.drop (8*(3 - 0))).take 8=b.drop 24:=List.take_of_length_le (by rw [List.length_drop];omega)
  have s2:(b.drop (8*(3 - 1))).take 8 ++ b.drop 24=b.drop 16:=by
   have:b.drop 24=(b.drop 16).drop 8:=by rw [List.drop_drop]
   rw [this];exact List.take_append_drop 8 _
  have s3:(b.drop (8*(3 - 2))).take 8 ++ b.drop 16=b.drop 8:=by
   have:b.drop 16=(b.drop 8).drop 8:=by rw [List.drop_drop]
   rw [this];exact List.take_append_drop 8 _
  rw [h0,s2,s3]
  exact (List.take_append_drop 8 b).symm
 have l0:∀ j,j<4→(Go.Sha.part b 32 j).length=8:=by
  intro j hj
  unfold Go.Sha.part
  rw [List.length_take,List.length_drop,List.length_take]
  omega
 have m:fl b 32=[db (Go.Sha.part b 32 0),db (Go.Sha.part b 32 1),db (Go.Sha.part b 32 2),db (Go.Sha.part b 32 3)]:=rfl
 have k:db b=((db (Go.Sha.part b 32 3)*256 ^ 8+db (Go.Sha.part b 32 2))*256 ^ 8+db (Go.Sha.part b 32 1))*256 ^ 8+db (Go.Sha.part b 32 0):=by
  conv=>lhs;rw [e]
  rw [← List.append_assoc,← List.append_assoc,qi,l0 0 (by omega),qi,l0 1 (by omega),qi,l0 2 (by omega)]
 rw [m,k]
 simp only [List.map_cons,List.map_nil,V4]
 generalize db (Go.Sha.part b 32 0)=p0
 generalize db (Go.Sha.part b 32 1)=p1
 generalize db (Go.Sha.part b 32 2)=p2
 generalize db (Go.Sha.part b 32 3)=p3
 omega
theorem yx (b:List Nat) (hb:b.length=32) (hby:bytes b):∃ a:List Int,Wn 4 a∧V a=(db b:Int)∧aq Tryz.prog 160 [.agg (cb b)] (fun r=>r=.agg (cI a)):=by
 refine ⟨(fl b 32).map fun (x:Nat)=>(x:Int),⟨by simp [fl],fun x hx=>?_⟩,FO hb,?_⟩
 ·rw [List.mem_map] at hx
  obtain ⟨y,hy,rfl⟩:=hx
  unfold fl at hy
  rw [List.mem_map] at hy
  obtain ⟨j,_,rfl⟩:=hy
  have:=rI (l:=Go.Sha.part b 32 j) (fun x hx=>hby x (List.mem_of_mem_take (List.mem_of_mem_drop (List.mem_of_mem_take hx)))) (by unfold Go.Sha.part;rw [List.length_take];omega)
  exact ⟨Int.natCast_nonneg _,by omega⟩
 ·have e:cI ((fl b 32).map fun (x:Nat)=>(x:Int))=cW (fl b 32):=by unfold cI cW;rw [List.map_map];rfl
  rw [e]
  exact H7 b hb hby
theorem bu (b:List Nat):∀ v,v ∈ [AV.agg (cb b)]→v.deep:=by
 intro v hv;simp at hv;subst hv;exact fQ _
theorem FP (b:List Nat) (hb:b.length=32) (hby:bytes b):∃ (r:List Int) (ok:Bool),Wn 4 r∧((db b<115792089237316195423570985008687907852837564279074904382605163141518161494337→ok=true∧V r=(db b:Int))∧(¬ db b<115792089237316195423570985008687907852837564279074904382605163141518161494337→ok=false∧r=zI))∧aq Tryz.prog 165 [.agg (cb b)] (fun x=>x=.tup [.agg (cI r),.d (.bool ok)]):=by
 obtain ⟨a,ha,va,f1⟩:=yx b hb hby
 obtain ⟨c,vc,f2⟩:=Bu a CY ha Jp
 have vo:V CY=115792089237316195423570985008687907852837564279074904382605163141518161494337:=by simp [V,CY]
 rw [vo,va] at vc
 have hal:=ha.1
 have hz:List.drop 4 (cI zI)=[]:=ao rfl
 have zd:List.drop 32 (cb b)=[]:=dr hb
 by_cases h0:0≤c
 ·refine ⟨zI,false,cG,⟨fun h=>absurd (vc.2 (by omega)) (by omega),fun _=>⟨rfl,rfl⟩⟩,?_⟩
  refine aS Tryz.func165 Tryz.ntmps165 (rs:=[.cell 2 160,.tmp 3]) (bu b) ?_
  simp [go_sem,am,hb,aj hb,zd]
  refine ab f1 (bu _) ?_
  simp [go_sem,hal,aa hal,hz]
  refine bk [0] [(1,[]),(2,[3])] 2 (k:=4) ?_
  intro G hG
  simp [go_sem,hal,aa hal]
  refine ab yw (by simp) ?_
  simp [go_sem]
  refine ab f2 (ah _ _) ?_
  simp [go_sem,be]
  refine hG _ _ ?_
  simp [go_sem,h0,hz,ak]
  exact ff (a:=zI) rfl
 ·refine ⟨a,true,ha,⟨fun _=>⟨rfl,va⟩,fun h=>absurd (vc.1 (by omega)) (by omega)⟩,?_⟩
  refine aS Tryz.func165 Tryz.ntmps165 (rs:=[.cell 2 160,.tmp 3]) (bu b) ?_
  simp [go_sem,am,hb,aj hb,zd]
  refine ab f1 (bu _) ?_
  simp [go_sem,hal,aa hal,hz]
  refine bk [0] [(1,[]),(2,[3])] 2 (k:=4) ?_
  intro G hG
  simp [go_sem,hal,aa hal]
  refine ab yw (by simp) ?_
  simp [go_sem]
  refine ab f2 (ah _ _) ?_
  simp [go_sem,be]
  refine hG _ _ ?_
  simp [go_sem,h0,hal,aa hal,hz,ak]
  exact ff rfl
theorem lW {Q:AV→Prop} {st:St} {x y:List Int} {c b:Bool} (hq:Q (.tup [.agg (cP x y c),.d (.bool b)])):dW Q (.tup [.agg (cP x y c),.d (.bool b)]) st :=
 ae (by
  intro c hc
  simp at hc
  rcases hc with rfl | rfl
  ·exact .inr ⟨_,rfl,kf _ _ _⟩
  ·exact .inl trivial) hq
def fX (n:Nat):Int:=((n:Int)*n*n+7) % 115792089237316195423570985008687907853269984665640564039457584007908834671663
def iJ (n:Nat):Int:=fX n ^ 28948022309329048855892746252171976963317496166410141009864396001977208667916 % 115792089237316195423570985008687907853269984665640564039457584007908834671663
def lb (n:Nat):Prop:=(n:Int)<115792089237316195423570985008687907853269984665640564039457584007908834671663∧iJ n*iJ n % 115792089237316195423570985008687907853269984665640564039457584007908834671663=fX n % 115792089237316195423570985008687907853269984665640564039457584007908834671663
def yA (n:Nat) (x y:List Int) (c ok:Bool):Prop :=
 (¬ lb n∧ok=false∧c=true∧x=zI∧y=zI) ∨ (lb n∧ok=true∧c=false∧V x=n∧V y=if iJ n % 2=0 then iJ n else (0 - iJ n) % 115792089237316195423570985008687907853269984665640564039457584007908834671663)
theorem Bw {r a:List Int} {n:Nat} (hr:Wn 4 r) (va:V a=n) (vr:V r<pZ∧FV r=FV a*FV a*FV a+7):V r=fX n:=by
 have e:=congrArg (fun x:F=>((x.val:Nat):Int)) vr.2
 simp only [cp] at e
 have e7:(((7:F).val:Nat):Int)=7 % pZ:=by
  show ((7 % pP:Nat):Int)=_
  rw [Int.natCast_emod,eO];rfl
 have h0:=(cy hr).1
 rw [Int.emod_eq_of_lt h0 vr.1] at e
 rw [e,CE,oO,oO,Int.natCast_emod,Int.natCast_add,Int.natCast_emod,Int.natCast_mul,Int.natCast_emod,Int.natCast_mul,cp,e7,eO,va]
 unfold fX
 show _=((n:Int)*n*n+7) % pZ
 rw [← Int.mul_emod (n:Int) n,← Int.mul_emod ((n:Int)*n) n,← Int.add_emod]
theorem FQ (b:List Nat) (hb:b.length=32) (hby:bytes b):∃ (x y:List Int) (c ok:Bool),Wn 4 x∧Wn 4 y∧(yA (db b) x y c ok)∧aq Tryz.prog 121 [.agg (cb b)] (fun r=>r=.tup [.agg (cP x y c),.d (.bool ok)]):=by
 obtain ⟨a,ha,va,f1⟩:=yx b hb hby
 obtain ⟨o,vo,f2⟩:=rT a ha
 obtain ⟨r,hr,vr,f3⟩:=yt a ha
 obtain ⟨y,ok,hy,vk,vy,vno,f4⟩:=Fe r hr
 have hrv:V r=fX (db b):=Bw hr va vr
 rw [va] at vo
 rw [hrv] at vk vy
 unfold W1 at f3
 have hal:=ha.1
 have hyl:=hy.1
 have hz:List.drop 4 (cI zI)=[]:=ao rfl
 have zd:List.drop 32 (cb b)=[]:=dr hb
 have pd:(cP zI zI false).drop 9=[]:=dG rfl rfl _
 have zl:(cP zI zI true).length=9:=rfl
 have zt:(cP zI zI true).take 9=cP zI zI true:=aH rfl rfl _
 have zl2:(cP zI zI false).length=9:=rfl
 cases o
 ·refine ⟨zI,zI,true,false,cG,cG,.inl ⟨fun h=>absurd (vo.2 h.1) (by decide),rfl,rfl,rfl,rfl⟩,?_⟩
  refine aS Tryz.func121 Tryz.ntmps121 (rs:=[.cell 2 162,.tmp 3]) (bu b) ?_
  simp [go_sem,am,hb,aj hb,zd]
  refine ab f1 (bu _) ?_
  simp [go_sem,hal,aa hal,hz]
  refine ab f2 (ar _) ?_
  simp [go_sem]
  refine ab hJ (by simp) ?_
  simp [go_sem,zl,zt,pd,zl2,ak]
  exact lW rfl
 ·cases ok
  ·refine ⟨zI,zI,true,false,cG,cG,.inl ⟨fun h=>absurd (vk.2 h.2) (by decide),rfl,rfl,rfl,rfl⟩,?_⟩
   refine aS Tryz.func121 Tryz.ntmps121 (rs:=[.cell 2 162,.tmp 3]) (bu b) ?_
   simp [go_sem,am,hb,aj hb,zd]
   refine ab f1 (bu _) ?_
   simp [go_sem,hal,aa hal,hz]
   refine ab f2 (ar _) ?_
   simp [go_sem,hal,aa hal]
   refine ab f3 (ar _) ?_
   simp [go_sem]
   refine ab f4 (ar _) ?_
   simp [go_sem,hyl,aa hyl,hz]
   refine ab hJ (by simp) ?_
   simp [go_sem,zl,zt,pd,zl2,ak]
   exact lW rfl
  ·refine ⟨a,y,false,true,ha,hy,.inr ⟨⟨vo.1 rfl,vk.1 rfl⟩,rfl,rfl,va,vy rfl⟩,?_⟩
   refine aS Tryz.func121 Tryz.ntmps121 (rs:=[.cell 2 162,.tmp 3]) (bu b) ?_
   simp [go_sem,am,hb,aj hb,zd]
   refine ab f1 (bu _) ?_
   simp [go_sem,hal,aa hal,hz]
   refine ab f2 (ar _) ?_
   simp [go_sem,hal,aa hal]
   refine ab f3 (ar _) ?_
   simp [go_sem]
   refine ab f4 (ar _) ?_
   have mp:=LN hal hyl
   have pl1:=aD hal hyl false
   have pt1:=aH hal hyl false
   simp [go_sem,hal,hyl,aa hal,aa hyl,hz,mp,pl1,pt1,pd,zl2,ak]
   exact lW rfl
def d8 (i:Nat):Nat:=i / 8
def r8 (i:Nat):Nat:=8*(i % 8)
def LQ (a:List Int) (k:Nat):Nat:=(IntKind.u8.wrap (Int.fdiv (gI a (d8 k)) (2 ^ r8 k))).toNat
def Bx (a:List Int) (k:Nat) (l:List Nat):List Nat:=l.set (31 - k) (LQ a k)
theorem By (a:List Int) (k:Nat):IntKind.u8.wrap (Int.fdiv (gI a (d8 k)) (2 ^ r8 k))=((LQ a k:Nat):Int):=by
 unfold LQ
 have:IntKind.u8.wrap (Int.fdiv (gI a (d8 k)) (2 ^ r8 k))=(Int.fdiv (gI a (d8 k)) (2 ^ r8 k)) % 256:=by simp [IntKind.wrap,IntKind.bits,IntKind.signed]
 rw [this]
 omega
theorem LR (a:List Int) (k:Nat):LQ a k<256:=by
 have h:=By a k
 have:IntKind.u8.wrap (Int.fdiv (gI a (d8 k)) (2 ^ r8 k))=(Int.fdiv (gI a (d8 k)) (2 ^ r8 k)) % 256:=by simp [IntKind.wrap,IntKind.bits,IntKind.signed]
 rw [this] at h
 omega
theorem oS (a:List Int):∀ k,(bd (Bx a) z32 k).length=32∧bytes (bd (Bx a) z32 k) :=
 ej (P:=fun _ l=>l.length=32∧bytes l) ⟨rfl,fun x hx=>by simp [z32] at hx;omega⟩ fun k l hl=>by
  refine ⟨by unfold Bx;rw [List.length_set];exact hl.1,fun x hx=>?_⟩
  rcases List.mem_or_eq_of_mem_set hx with hx | rfl
  ·exact hl.2 x hx
  ·exact LR _ _
theorem Ou {a:List Int} (ha:Wn 4 a) {k:Nat} (hk:k<32):LQ a k=(V a).toNat / 256 ^ k % 256:=by
 have hw:=E9 ha (j:=k / 8) (by omega)
 have hi:=By a k
 have hu:IntKind.u8.wrap (Int.fdiv (gI a (d8 k)) (2 ^ r8 k))=(Int.fdiv (gI a (d8 k)) (2 ^ r8 k)) % 256:=by simp [IntKind.wrap,IntKind.bits,IntKind.signed]
 have hd:d8 k=k / 8:=rfl
 have hr:r8 k=8*(k % 8):=rfl
 rw [hu,hd,hr,← hw,Int.fdiv_eq_ediv_of_nonneg _ (Int.le_of_lt (Int.pow_pos (by omega)))] at hi
 generalize (V a).toNat=N at *
 have h1:LQ a k=N / 2 ^ (64*(k / 8)) % 2 ^ 64 / 2 ^ (8*(k % 8)) % 256:=by
  have e:∀ (z s:Nat),(((z / 2 ^ s % 256:Nat)):Int)=(z:Int) / 2 ^ s % 256:=fun z s=>by rw [Int.natCast_emod,Int.natCast_ediv,Int.natCast_pow];rfl
  exact (Int.ofNat_inj.1 ((e _ _).trans hi)).symm
 rw [h1]
 have e64:(2:Nat) ^ 64=2 ^ (8*(k % 8))*2 ^ (64 - 8*(k % 8)):=by rw [← Nat.pow_add];congr 1;omega
 have e8:(256:Nat) ∣ 2 ^ (64 - 8*(k % 8)):=⟨2 ^ (56 - 8*(k % 8)),by rw [show (256:Nat)=2 ^ 8 from rfl,← Nat.pow_add];congr 1;omega⟩
 have e256:(256:Nat) ^ k=2 ^ (64*(k / 8))*2 ^ (8*(k % 8)):=by
  rw [show (256:Nat)=2 ^ 8 from rfl,← Nat.pow_mul,← Nat.pow_add];congr 1;omega
 rw [e64,Nat.mod_mul_right_div_self,Nat.mod_mod_of_dvd _ e8,Nat.div_div_eq_div_mul,← e256]
def Af (a:List Int):Nat→List Nat
 | 0=>[]
 | k+1=>LQ a k :: Af a k
theorem yB (a:List Int):∀ k,(Af a k).length=k
 | 0=>rfl
 | k+1=>by rw [Af,List.length_cons,yB a k]
theorem rV (x:Nat) (l:List Nat):db (x :: l)=x*256 ^ l.length+db l:=by
 have:=qi [x] l
 have e:db [x]=x:=by simp [db]
 rw [e] at this
 exact this
theorem FR {a:List Int} (ha:Wn 4 a):∀ k,k≤32→db (Af a k)=(V a).toNat % 256 ^ k
 | 0,_=>by rw [Af,Nat.pow_zero,Nat.mod_one];rfl
 | k+1,h=>by
  rw [Af,rV,yB,FR ha k (by omega),Ou ha (by omega),Nat.mod_pow_succ,Nat.mul_comm,Nat.add_comm]
theorem Bz (a:List Int):∀ k,k≤32→bd (Bx a) z32 k=List.replicate (32 - k) 0 ++ Af a k
 | 0,_=>rfl
 | k+1,h=>by
  rw [bd,Bz a k (by omega)]
  unfold Bx
  have e:32 - k=(31 - k)+1:=by omega
  have e2:32 - (k+1)=31 - k:=by omega
  rw [e,e2,List.replicate_succ',List.append_assoc,List.set_append_right _ _ (by simp),List.length_replicate,Nat.sub_self]
  rfl
theorem Jq {a:List Int} (ha:Wn 4 a):db (bd (Bx a) z32 32)=(V a).toNat:=by
 rw [Bz a 32 (by omega),Nat.sub_self,List.replicate_zero,List.nil_append,FR ha 32 (by omega)]
 have h:=cy ha
 exact Nat.mod_eq_of_lt (by
  have:(256:Nat) ^ 32=115792089237316195423570985008687907853269984665640564039457584007913129639936:=by decide
  omega)
theorem CI (a:List Int) (ha:Wn 4 a):∃ b:List Nat,b.length=32∧bytes b∧db b=(V a).toNat∧aq Tryz.prog 174 [.agg (cI a)] (fun r=>r=.agg (cb b)):=by
 refine ⟨bd (Bx a) z32 32,(oS a 32).1,(oS a 32).2,Jq ha,?_⟩
 refine aS Tryz.func174 Tryz.ntmps174 (rs:=[.cell 2 23]) (ar a) ?_
 have hal:=ha.1
 simp [go_sem,hal,aa hal]
 generalize hSS:bd (Bx a) z32=S at *
 have hS:=oS a
 rw [hSS] at hS
 refine au (fun k:Nat=>⟨[(1,.ptr 0 0 0 1),(2,.ptr 32 0 0 1),(3,.ptr 64 0 0 1),(5,.d (.int .i64 (k:Int)))],[(64,⟨23,32,[cb (S k)]⟩),(32,⟨23,32,[cb z32]⟩),(0,⟨160,4,[cI a]⟩)],20000⟩)
  (fun k=>k≤32) (fun k=>32 - k) 0 (by omega) (by
   rw [← hSS]
   simp [av,ag,fv,lk,AV.low,AV.low1,bd]
   and_intros <;> first | rfl | exact aA _ _ | exact aF _ _) ?_
 intro k hk
 obtain ⟨hs1,hs2⟩:=hS k
 have w3:=ax (k:=k) (by omega)
 simp only [go_sem,Nat.reduceEqDiff,Nat.reduceAdd,Nat.reduceLT,↓reduceIte]
 by_cases h4:k<32
 ·refine ⟨fun h=>?_,fun h=>absurd (by exact_mod_cast h4) h⟩
  have hsn:S (k+1)=Bx a k (S k):=by rw [← hSS];rfl
  have hdq:d8 k=k / 8:=rfl
  have hrq:r8 k=8*(k % 8):=rfl
  have hnk:=bw (l:=a) (k:=d8 k) (by omega)
  have w4:IntKind.i64.wrap ((k:Int) / 8)=(d8 k:Int):=by rw [IntWalk.i64_in _ (by omega)];omega
  have w4b:IntKind.i64.wrap ((k:Int).tdiv 8)=(d8 k:Int):=w4
  have e2:IntKind.i64.wrap (8*((k:Int) % 8))=(r8 k:Int):=by rw [IntWalk.i64_in _ (by omega)];omega
  have e2b:IntKind.i64.wrap (8*((k:Int).tmod 8))=(r8 k:Int):=e2
  have e3:IntKind.i64.wrap (31 - (k:Int))=((31 - k:Nat):Int):=by rw [IntWalk.i64_in _ (by omega)];omega
  have i1:(d8 k:Int)<4:=by omega
  have hm64:r8 k<64:=by omega
  have hmn:min (r8 k) 64=r8 k:=by omega
  have i3:((31 - k:Nat):Int)<32:=by omega
  have i4:31 - k<32:=by omega
  simp [go_sem,hnk,hal,e2,e2b,w4,w4b,e3,i1,i3,i4,hm64,hmn,IntKind.bits,By,rt,am,hs1,w3]
  refine ai (k+1) (by omega) (by omega) ?_
  rw [hsn]
  simp [av,ag,fv,lk,AV.low,AV.low1,Bx]
  and_intros <;> first | rfl | exact aA _ _ | exact aF _ _
 ·refine ⟨fun h=>absurd (by exact_mod_cast h) h4,fun h=>?_⟩
  have hkl:k=32:=by omega
  subst hkl
  simp [go_sem,am,hs1,aj hs1,dr (l:=z32) rfl,ak]
  exact ae (fQ _) rfl
theorem FSa {Q:AV→Prop} {st:St} {b:List Nat} (hq:Q (.agg (cb b))):dW Q (.agg (cb b)) st:=ae (fQ _) hq
theorem CJ (x y:List Int) (c:Bool) (hx:Wn 4 x) (hy:Wn 4 y):∃ b:List Nat,b.length=32∧bytes b∧(dB x y c→db b=(V x).toNat)∧aq Tryz.prog 126 [.agg (cP x y c)] (fun r=>r=.agg (cb b)):=by
 obtain ⟨u,v,d,hu,hv,tv,f1⟩:=nR x y c hx hy
 obtain ⟨b,hb,hbb,vb,f2⟩:=CI u hu
 refine ⟨b,hb,hbb,fun h=>by rw [vb,(tv.2.1 h).1],?_⟩
 refine aS Tryz.func126 Tryz.ntmps126 (rs:=[.cell 2 23]) (bp _ _ _) ?_
 have hxl:=hx.1
 have hyl:=hy.1
 have ul:=aD hu.1 hv.1 d
 have ux:=yu (y:=v) hu.1 d
 have zd:List.drop 32 (cb z32)=[]:=dr rfl
 simp [go_sem,aD hxl hyl,aH hxl hyl]
 refine ab f1 (bp _ _ _) ?_
 simp [go_sem,ul,ux]
 refine ab f2 (ar _) ?_
 simp [go_sem,am,hb,aj hb,zd,ak]
 exact FSa rfl
def Ov (a b:List Nat):Nat→AV
 | 0=>.nil
 | 1=>.own 1192 0 a.length a.length
 | _=>.own 1192 0 (a ++ b).length (a ++ b).length
def Ow (a b:List Nat):Nat→Hp
 | 0=>[]
 | 1=>[(1192,⟨5,1,rb a⟩)]
 | _=>[(1192,⟨5,1,rb (a ++ b)⟩)]
def O4:Nat→Nat
 | 0=>1000
 | _=>2000
theorem CK (a b:List Nat) (ha:a.length=32) (hb:b.length≤1000000):aq Tryz.prog 166 [.d (.ro 1 [[nb a],[nb b]])] (fun r=>r=.d (nb (a ++ b))):=by
 refine aS Tryz.func166 Tryz.ntmps166 (rs:=[.tmp 2]) (by simp [AV.deep,AV.deep1]) ?_
 simp [go_sem]
 refine au (fun k:Nat=>⟨[(3,Ov a b k),(6,.d (.ro 1 [[nb a],[nb b]])),(7,.d (.int .i64 2)),(8,.d (.int .i64 (k:Int)))],Ow a b k,O4 k⟩)
  (fun k=>k≤2) (fun k=>2 - k) 0 (by omega) (by simp [av,ag,fv,lk,AV.low,AV.low1,Ov,Ow,O4]) ?_
 intro k hk
 simp only [go_sem,Nat.reduceEqDiff,Nat.reduceAdd,Nat.reduceLT,↓reduceIte]
 match k,hk with
 | 0,_ =>
  refine ⟨fun _=>?_,fun h=>absurd (by decide) h⟩
  simp [go_sem,Ov,Ow,O4,nb,cB]
  refine ⟨by rw [aC];omega,?_⟩
  have w1:IntKind.i64.wrap 1=1:=by decide
  refine ai 1 (by omega) (by omega) ?_
  simp [av,ag,fv,lk,AV.low,AV.low1,aC,w1]
  exact aV _ _
 | 1,_ =>
  refine ⟨fun _=>?_,fun h=>absurd (by decide) h⟩
  simp [go_sem,Ov,Ow,O4,nb,cB,aC]
  refine ⟨by omega,?_⟩
  have w1:IntKind.i64.wrap 2=2:=by decide
  have ra:rb (a ++ b)=rb a ++ rb b:=by simp [rb]
  refine ai 2 (by omega) (by omega) ?_
  simp [av,ag,fv,lk,AV.low,AV.low1,aC,w1,ra]
  intro r hr
  exact hr.elim (aV _ _ r) (aV _ _ r)
 | 2,_ =>
  refine ⟨fun h=>absurd h (by decide),fun _=>?_⟩
  simp [go_sem,Ov,Ow,ak]
  have hl2:a.length+b.length=(a ++ b).length:=by rw [List.length_append]
  rw [hl2]
  exact gc rfl (by simp [nb])
end Go.Proofs.YtldccnbokbieiaaGreat
