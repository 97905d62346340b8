/-
 Part 7 of what the claim rests on.
-/
import Derived.Test.YtldccnbokbieiaaGreatO4
import Derived.Test.YtldccnbokbieiaaGreatO5
set_option linter.unusedVariables false
set_option linter.unusedSimpArgs false
set_option maxRecDepth 100000
set_option maxHeartbeats 16000000
namespace Go.Proofs.YtldccnbokbieiaaGreat
open Go.Am Go.Sha Go.Ec
abbrev pZ:Int:=115792089237316195423570985008687907853269984665640564039457584007908834671663
theorem Rp:(pP:Int)=pZ:=by rw [aaI];rfl
def FV (l:List Int):F:=icF pP (V l)
theorem G3 (l:List Int):(((FV l).val:Nat):Int)=V l % pZ:=by unfold FV;rw [VX,Rp]
theorem VY {a b:F} (h:((a.val:Nat):Int)=((b.val:Nat):Int)):a=b:=Vk h
theorem ams {a b:List Int} (h:V a % pZ=V b % pZ):FV a=FV b:=VY (by rw [G3,G3,h])
theorem aaJ {a b:List Int} (ha:Wn 4 a) (hb:Wn 4 b) (h1:V a<pZ) (h2:V b<pZ) (h:FV a=FV b):a=b:=by
 have e:=congrArg (fun x:F=>((x.val:Nat):Int)) h;simp only [G3] at e;have:=(G5 ha).1;have:=(G5 hb).1;rw [Int.emod_eq_of_lt aa h1,Int.emod_eq_of_lt aa h2] at e;exact Zl ha hb e
theorem amt {r a b:List Int} (h:V r=(V a*V b) % pZ):V r<pZ∧FV r=FV a*FV b:=by
 refine ⟨by rw [h];exact Int.emod_lt_of_pos _ (by decide),VY ?_⟩;rw [G3,YR,Int.natCast_emod,Int.natCast_mul,G3,G3,Rp,h,Int.emod_emod,← Int.mul_emod]
theorem amu {r a b:List Int} (h:V r=(V a+V b) % pZ):V r<pZ∧FV r=FV a+FV b:=by
 refine ⟨by rw [h];exact Int.emod_lt_of_pos _ (by decide),VY ?_⟩;rw [G3,ajs,Int.natCast_emod,Int.natCast_add,G3,G3,Rp,h,Int.emod_emod,← Int.add_emod]
theorem aju {a b c:F} (h:c+b=a):c=a - b:=by grobner
theorem amv {r a b:List Int} (h:V r=(V a - V b) % pZ):V r<pZ∧FV r=FV a - FV b:=by
 refine ⟨by rw [h];exact Int.emod_lt_of_pos _ (by decide),aju (VY ?_)⟩;rw [ajs,Int.natCast_emod,Int.natCast_add,G3,G3,G3,Rp,h,Int.emod_emod,← Int.add_emod];congr 1;omega
theorem Xp:FV zI=0:=by
 refine VY ?_;rw [G3];have:V zI=0:=by simp [V,zI]
 rw [this];rfl
theorem RD {a:List Int} (ha:Wn 4 a) (h:V a<pZ):FV a=0 ↔ a=zI:=by
 have hz:V zI=0:=by simp [V,zI]
 have hz2:V zI<pZ:=by rw [hz];decide
 exact ⟨fun h0=>aaJ ha H4 h hz2 (by rw [h0,Xp]),fun h0=>by rw [h0,Xp]⟩
theorem YS (k:Nat) (hk:(k:Int)<18446744073709551616):FV [(k:Int),0,0,0]=Fin.ofNat pP k:=by
 have:V [(k:Int),0,0,0]=(k:Int):=by simp [V]
 unfold FV;rw [this];exact So k
theorem asR {r a:List Int} {k:Nat} (hk:k=pP - 2) (h:V r=V a ^ k % pZ):V r<pZ∧FV r=fd.inv (FV a):=by
 refine ⟨by rw [h];exact Int.emod_lt_of_pos _ (by decide),VY ?_⟩;have e:fd.inv (FV a)=⟨(FV a).val ^ (pP - 2) % pP,Nat.mod_lt _ (by have:=apk;omega)⟩:=rfl;rw [e,← hk];show _=((((FV a).val ^ k % pP:Nat)):Int);rw [G3,h,Int.emod_emod,Int.natCast_emod,Int.natCast_pow,G3,Rp]
 have pm:∀ (x m:Int) (k:Nat),x ^ k % m=(x % m) ^ k % m:=by
  intro x m k
  induction k with
  | zero=>rw [Int.pow_zero,Int.pow_zero]
  | succ k ih=>rw [Int.pow_succ,Int.pow_succ,Int.mul_emod,ih,Int.mul_emod ((x % m) ^ k),Int.emod_emod]
 exact pm _ _ _
theorem Rw (a b:List Int) (ha:Wn 4 a) (hb:Wn 4 b):∃ r,Wn 4 r∧(V r<pZ∧FV r=FV a*FV b)∧W2 205 a b r:=by
 obtain ⟨r,h1,h2,h3⟩:=adi a b ha hb;exact ⟨r,h1,amt h2,h3⟩
theorem avy (a b:List Int) (ha:Wn 4 a) (hb:Wn 4 b):∃ r,Wn 4 r∧(V r<pZ∧FV r=FV a+FV b)∧W2 208 a b r:=by
 obtain ⟨r,h1,h2,h3⟩:=ao5 a b ha hb;exact ⟨r,h1,amu h2,h3⟩
theorem Yc (a b:List Int) (ha:Wn 4 a) (hb:Wn 4 b):∃ r,Wn 4 r∧(V r<pZ∧FV r=FV a - FV b)∧W2 213 a b r:=by
 obtain ⟨r,h1,h2,h3⟩:=ahU a b ha hb;exact ⟨r,h1,amv h2,h3⟩
theorem avz (a:List Int) (ha:Wn 4 a):∃ r,Wn 4 r∧(V r<pZ∧FV r=fd.inv (FV a))∧W1 216 a r:=by
 obtain ⟨r,h1,h2,h3⟩:=apd a ha;exact ⟨r,h1,asR (by rw [aaI]) h2,h3⟩
def PV (x y:List Int) (b:Bool):Pt pP:=if b then none else some (FV x,FV y)
def L2 (x y:List Int) (b:Bool):Prop:=(b=true∧x=zI∧y=zI) ∨ (b=false∧V x<pZ∧V y<pZ∧FV y*FV y=FV x*FV x*FV x+7)
theorem TA {x y:List Int} {b:Bool} (h:L2 x y b):RZ (PV x y b):=by
 rcases h with ⟨rfl,_,_⟩ | ⟨rfl,_,_,h⟩
 ·trivial
 ·exact h
theorem VZ:L2 zI zI true:=.inl ⟨rfl,rfl,rfl⟩
theorem amw:PV zI zI true=none:=rfl
noncomputable def JV (x y z:List Int):Pt pP:=Ya fd (FV x) (FV y) (FV z)
def YT (x y z:List Int):Prop:=(V x<pZ∧V y<pZ∧V z<pZ)∧RZ (JV x y z)
theorem aaK (x:Int):∀ v,v ∈ [AV.d (.int .u64 x)]→v.deep:=by
 intro v hv;simp at hv;subst hv;trivial
theorem ah7 {a:List Int} (ha:Wn 4 a):(a.map Int.toNat).length=4∧cI a=cW (a.map Int.toNat):=by
 refine ⟨by simp [ha.1],?_⟩;unfold cI cW;rw [List.map_map];refine List.map_congr_left fun x hx=>?_;have:=(ha.2 x hx).1;simp only [Function.comp_apply];rw [Int.toNat_of_nonneg this]
theorem avA {a b:List Int} (ha:Wn 4 a) (hb:Wn 4 b):YN (a.map Int.toNat) (b.map Int.toNat) 4<0 ↔ V a<V b:=by
 obtain ⟨a0,a1,a2,a3,rfl,h0,h1,h2,h3⟩:=Rv ha;obtain ⟨b0,b1,b2,b3,rfl,k0,k1,k2,k3⟩:=Rv hb;unfold H1 at *;rw [V4,V4];have g0:∀ w x y z:Nat,[w,x,y,z].getD 0 0=w:=fun _ _ _ _=>rfl;have g1:∀ w x y z:Nat,[w,x,y,z].getD 1 0=x:=fun _ _ _ _=>rfl;have g2:∀ w x y z:Nat,[w,x,y,z].getD 2 0=y:=fun _ _ _ _=>rfl;have g3:∀ w x y z:Nat,[w,x,y,z].getD 3 0=z:=fun _ _ _ _=>rfl;simp only [List.map_cons,List.map_nil,YN,g0,g1,g2,g3]
 repeat' split
 all_goals omega
theorem ah8 (a b:List Int) (ha:Wn 4 a) (hb:Wn 4 b):∃ c:Int,(c<0 ↔ V a<V b)∧m6 Tryz.prog 200 [.agg (cI a),.agg (cI b)] (fun r=>r=.d (.int .i64 c)):=by
 obtain ⟨hl,e1⟩:=ah7 ha;obtain ⟨hm,e2⟩:=ah7 hb;rw [e1,e2];exact ⟨_,avA ha hb,asr _ _ hl hm⟩
theorem V0 (a:List Int) (ha:Wn 4 a):∃ r,Wn 4 r∧(V r<pZ∧FV r=FV a*FV a)∧W1 209 a r:=by
 obtain ⟨r,hr,vr,f1⟩:=Rw a a ha ha;unfold W2 at f1;have hal:=ha.1;have hrl:=hr.1;have hz:List.drop 4 (cI zI)=[]:=i9 rfl;refine ⟨r,hr,vr,?_⟩;unfold W1;refine t6 Tryz.func209 Tryz.ntmps209 (rs:=[.cell 2 160]) (m9 a) ?_;simp [go_sem,hal,a8 hal];refine a9 f1 (d5 _ _) ?_;simp [go_sem,hrl,a8 hrl,hz,d7];exact A7 rfl
theorem ae5 (a:List Int) (ha:Wn 4 a):∃ r,Wn 4 r∧(V r<pZ∧FV r=FV a*FV a*FV a+7)∧W1 164 a r:=by
 obtain ⟨s,hs,vs,f1⟩:=V0 a ha;obtain ⟨m,hm,vm,f2⟩:=Rw s a hs ha;obtain ⟨r,hr,vr,f3⟩:=avy m [7,0,0,0] hm (H8 ⟨aa,aa⟩);have v7:FV [7,0,0,0]=7:=YS 7 aa;rw [v7,vm.2,vs.2] at vr;unfold W1 at f1;unfold W2 at f2 f3;have hal:=ha.1;have hrl:=hr.1;have hz:List.drop 4 (cI zI)=[]:=i9 rfl;refine ⟨r,hr,vr,?_⟩;unfold W1;refine t6 Tryz.func164 Tryz.ntmps164 (rs:=[.cell 2 160]) (m9 a) ?_;simp [go_sem,hal,a8 hal];refine C4 [0,2] [1,3,4,5,6] [0,2] (ah 1 (ag [3,4,5,6])) ⟨[(2,.ptr 32 0 0 1)],[(32,⟨160,4,[cI r]⟩)],9000⟩ (k:=7) ?h3 ?hq
 case h3 =>
  intro G hG
  have hW:∀ (fr:Fr) (hp:Hp),(fv 2 fr=.ptr 32 0 0 1∧lk 32 hp=some ⟨160,4,[cI r]⟩)→G fr hp:=by
   rintro fr hp ⟨q0,q1⟩;refine hG _ _ (E5 ?_);simp only [m7,c6];refine ⟨fun p hp=>?_,fun p hp=>?_,ab⟩
   ·simp only [aF,List.mem_nil_iff,or_false] at hp;subst hp;exact ⟨.inl q0.symm,by simp [AV.low,AV.low1]⟩
   ·simp only [aF,List.mem_nil_iff,or_false] at hp;subst hp;exact ⟨.inl q1,ab,by intro r hr;simp only [aF,List.mem_nil_iff,or_false] at hr;subst hr;exact o9 _ _⟩
  simp [go_sem,hal,a8 hal,hrl,a8 hrl,hz,A6]
  repeat' first | exact hW _ _ ⟨rfl,rfl⟩ | (refine hW _ _ ?_;simp [fv,lk];done) | refine a9 f1 (m9 _) ?_ | refine a9 f2 (d5 _ _) ?_ | refine a9 f3 (d5 _ _) ?_ | refine a9 (N8 7) (aaK _) ?_ | apply And.intro | simp [go_sem,hal,a8 hal,hrl,a8 hrl,hz,A6]
 case hq =>
  simp [go_sem,hrl,a8 hrl,d7];exact A7 rfl
theorem aaL (a:List Int) (ha:Wn 4 a):∃ b:Bool,(b=true ↔ V a<pZ)∧m6 Tryz.prog 161 [.agg (cI a)] (fun r=>r=.d (.bool b)):=by
 obtain ⟨c,vc,f1⟩:=ah8 a WF ha W7;have vp:V WF=pZ:=by simp [V,WF]
 rw [vp] at vc;have hal:=ha.1;refine ⟨decide (c<0),by rw [decide_eq_true_iff];exact vc,?_⟩;refine t6 Tryz.func161 Tryz.ntmps161 (rs:=[.tmp 2]) (m9 a) ?_;simp [go_sem,hal,a8 hal];refine B7 [0] [(1,[]),(2,[3,4])] 2 (k:=5) ?_;intro G hG;simp [go_sem,hal,a8 hal];refine a9 TJ ab ?_;simp [go_sem];refine a9 f1 (d5 _ _) ?_;simp [go_sem,A6];refine hG _ _ ?_;simp [go_sem,d7];exact b7 ae rfl
def cP (x y:List Int) (b:Bool):List AV:=cI x ++ (cI y ++ [.d (.bool b)])
theorem rP {x y:List Int} (hx:x.length=4) (hy:y.length=4) (b:Bool):(cP x y b).length=9:=by simp [cP,J3,hx,hy]
theorem t4 {x y:List Int} (hx:x.length=4) (hy:y.length=4) (b:Bool):(cP x y b).take 9=cP x y b:=aq (by rw [rP hx hy];omega)
theorem L5 {x y:List Int} (hx:x.length=4) (hy:y.length=4) (b:Bool):(cP x y b).drop 9=[]:=az (by rw [rP hx hy];omega)
theorem ae6 {x y:List Int} (hx:x.length=4) (b:Bool):(cP x y b).take 4=cI x:=by
 unfold cP;rw [List.take_append_of_le_length (by rw [J3];omega),a8 hx]
theorem ajv {x y:List Int} (hx:x.length=4) (hy:y.length=4) (b:Bool):((cP x y b).drop 4).take 4=cI y:=by
 unfold cP;rw [List.drop_append_of_le_length (by rw [J3];omega),i9 hx,List.nil_append,List.take_append_of_le_length (by rw [J3];omega),a8 hy]
theorem VG {x y:List Int} (hx:x.length=4) (hy:y.length=4) (b:Bool):(cP x y b)[8]?=some (.d (.bool b)):=by
 unfold cP;rw [aB (by rw [J3];omega),aB (by simp only [J3];omega)];simp [J3,hx,hy]
theorem V1 {x y:List Int} (hx:x.length=4) (hy:y.length=4) (b:Bool) (h:8<(cP x y b).length):(cP x y b)[8]=.d (.bool b):=(ak.1 (VG hx hy b)).2
theorem Vl (x y:List Int) (b:Bool):(AV.agg (cP x y b)).deep:=by
 intro v hv;unfold cP at hv;rcases au.1 hv with hv | hv
 ·exact SS _ v hv
 ·rcases au.1 hv with hv | hv
  ·exact SS _ v hv
  ·simp at hv;subst hv;trivial
theorem B4 (x y:List Int) (b:Bool):∀ v,v ∈ [AV.agg (cP x y b)]→v.deep:=by
 intro v hv;simp at hv;subst hv;exact Vl _ _ _
theorem Tl (n:Nat) (x y:List Int) (b:Bool):∀ v,v ∈ cP x y b→v.low1 n:=by
 intro v hv;unfold cP at hv;rcases au.1 hv with hv | hv
 ·exact o9 _ _ v hv
 ·rcases au.1 hv with hv | hv
  ·exact o9 _ _ v hv
  ·simp at hv;subst hv;trivial
theorem L9 {Q:AV→Prop} {st:St} {x y:List Int} {b:Bool} (hq:Q (.agg (cP x y b))):N6 Q (.agg (cP x y b)) st:=b7 (Vl _ _ _) hq
theorem zzP:O6 Tryz.prog 162=some (cP zI zI false):=by kernel_rfl
attribute [go_sem] zzP
theorem TB:m6 Tryz.prog 162 [] (fun r=>r=.agg (cP zI zI true)):=by
 refine t6 Tryz.func162 Tryz.ntmps162 (rs:=[.cell 0 162]) ae ?_;simp [go_sem,cP,cI,zI,d7];exact L9 (x:=zI) (y:=zI) (b:=true) rfl
def lP (x y:List Int) (b:Bool):List L1:=x.map (L1.i .u64) ++ (y.map (L1.i .u64) ++ [L1.b b])
theorem amx:∀ (x:List Int) (r:List AV),M8 (cI x ++ r)=(M8 r).map (x.map (L1.i .u64) ++ ·)
 | [],r=>by simp [cI]
 | a :: l,r=>by
  have ih:=amx l r;show M8 (.d (.int .u64 a) :: (cI l ++ r))=_;have e:M8 (.d (.int .u64 a) :: (cI l ++ r))=(M8 (cI l ++ r)).map (L1.i .u64 a :: ·):=rfl;rw [e,ih,Option.map_map];rfl
theorem ZN (x y:List Int) (b:Bool):M8 (cP x y b)=some (lP x y b):=by
 unfold cP;rw [amx,amx];rfl
theorem ksP:K3 Tryz.prog 8 162=some (List.replicate 8 (some .u64) ++ [none]):=by kernel_rfl
theorem adu {x y:List Int} (hx:x.length=4) (hy:y.length=4) (b:Bool):K3 Tryz.prog 8 162=some ((lP x y b).map L1.k):=by
 rw [ksP]
 match x,y,hx,hy with
 | [a,b,c,d],[e,f,g,h],_,_=>rfl
theorem egP:Tryz.prog.eqGuardType Tryz.prog.depth 162=false:=by kernel_rfl
theorem avB (x y:List Int) (b:Bool) (hx:Wn 4 x) (hy:Wn 4 y):∃ c:Bool,(c=true ↔ L2 x y b)∧m6 Tryz.prog 211 [.agg (cP x y b)] (fun r=>r=.d (.bool c)):=by
 have hxl:=hx.1;have hyl:=hy.1
 cases b
 ·obtain ⟨b1,vb1,f1⟩:=aaL x hx;obtain ⟨b2,vb2,f2⟩:=aaL y hy;obtain ⟨s,hs,vs,f3⟩:=V0 y hy;obtain ⟨r,hr,vr,f4⟩:=ae5 x hx;unfold W1 at f3 f4;have hsl:=hs.1;have hrl:=hr.1;have e1:∀ c:Bool,(cP x y c).take 4=cI x:=ae6 hxl;have e2:∀ c:Bool,((cP x y c).drop 4).take 4=cI y:=ajv hxl hyl
  have hv:(b1 && (b2 && decide (s=r)))=true ↔ L2 x y false:=by
   rw [Bool.and_eq_true,Bool.and_eq_true,decide_eq_true_iff,vb1,vb2];refine ⟨fun ⟨h1,h2,h3⟩=>.inr ⟨rfl,h1,h2,by rw [← vs.2,h3,vr.2]⟩,fun h=>?_⟩;rcases h with ⟨h,_⟩ | ⟨_,h1,h2,h3⟩
   ·cases h
   ·exact ⟨h1,h2,aaJ hs hr vs.1 vr.1 (by rw [vs.2,vr.2,h3])⟩
  refine ⟨b1 && (b2 && decide (s=r)),hv,?_⟩;refine t6 Tryz.func211 Tryz.ntmps211 (rs:=[.tmp 2]) (B4 _ _ _) ?_;simp [go_sem,rP hxl hyl,t4 hxl hyl,VG hxl hyl,V1 hxl hyl]
  cases b1
  ·skip;refine B7 [0,1] [(2,[3,4,5]),(6,[7,8,9,10,12,13]),(11,[]),(14,[15,16,17])] 4 (k:=18) ?_;intro G hG;simp [go_sem,rP hxl hyl,e1,e2];refine a9 f1 (m9 _) ?_;simp [go_sem,A6];refine hG _ _ ?_;simp [go_sem,d7];exact b7 ae rfl
  ·cases b2
   ·skip;refine B7 [0,1] [(2,[3,4,5]),(6,[7,8,9,10,12,13]),(11,[]),(14,[15,16,17])] 4 (k:=18) ?_;intro G hG;simp [go_sem,rP hxl hyl,e1,e2];refine a9 f1 (m9 _) ?_;simp [go_sem,rP hxl hyl,e1,e2,A6];refine a9 f2 (m9 _) ?_;simp [go_sem,A6];refine hG _ _ ?_;simp [go_sem,d7];exact b7 ae rfl
   ·skip;refine B7 [0,1] [(2,[3,4,5]),(6,[7,8,9,10,12,13]),(11,[]),(14,[15,16,17])] 4 (k:=18) ?_;intro G hG;simp [go_sem,rP hxl hyl,e1,e2];refine a9 f1 (m9 _) ?_;simp [go_sem,rP hxl hyl,e1,e2,A6];refine a9 f2 (m9 _) ?_;simp [go_sem,rP hxl hyl,e1,e2,A6];refine a9 f3 (m9 _) ?_;simp [go_sem,rP hxl hyl,e1,e2,A6];refine a9 f4 (m9 _) ?_;simp [go_sem,y6,hsl,hrl,A6];refine hG _ _ ?_;simp [go_sem,d7];exact b7 ae rfl
 ·have hv:decide (lP x y true=lP zI zI true)=true ↔ L2 x y true:=by
   rw [decide_eq_true_iff];refine ⟨fun h=>.inl ⟨rfl,?_⟩,fun h=>?_⟩
   ·match x,y,hxl,hyl with
    | [a,b,c,d],[e,f,g,i],_,_ =>
     simp [lP,zI] at h;obtain ⟨rfl,rfl,rfl,rfl,rfl,rfl,rfl,rfl⟩:=h;exact ⟨rfl,rfl⟩
   ·rcases h with ⟨_,rfl,rfl⟩ | ⟨h,_⟩
    ·rfl
    ·cases h
  refine ⟨decide (lP x y true=lP zI zI true),hv,?_⟩;refine t6 Tryz.func211 Tryz.ntmps211 (rs:=[.tmp 2]) (B4 _ _ _) ?_;simp [go_sem,rP hxl hyl,t4 hxl hyl,VG hxl hyl,V1 hxl hyl];refine B7 [0] [(1,[2,3])] 1 (k:=4) ?_;intro G hG;simp [go_sem,rP hxl hyl,t4 hxl hyl];refine a9 TB ab ?_;have k1:=adu hxl hyl true;have k2:=adu (x:=zI) (y:=zI) rfl rfl true;have l1:=ZN x y true;have l2:=ZN zI zI true;generalize lP x y true=u at *;generalize lP zI zI true=v at *;simp [go_sem,l1,l2,egP,A6]
  first | refine ⟨k1,k2,hG _ _ ?_⟩ | refine ⟨k1,hG _ _ ?_⟩
  simp [go_sem,d7];exact b7 ae rfl
theorem Yd (x y:List Int) (b:Bool) (hx:Wn 4 x) (hy:Wn 4 y):∃ (u v:List Int) (c:Bool),Wn 4 u∧Wn 4 v∧(L2 u v c∧(L2 x y b→u=x∧v=y∧c=b)∧(¬ L2 x y b→u=zI∧v=zI∧c=true))∧m6 Tryz.prog 168 [.agg (cP x y b)] (fun r=>r=.agg (cP u v c)):=by
 obtain ⟨o,vo,f1⟩:=avB x y b hx hy;have hxl:=hx.1;have hyl:=hy.1;have zd:(cP zI zI false).drop 9=[]:=L5 rfl rfl _;have zl:(cP zI zI true).length=9:=rfl;have zt:(cP zI zI true).take 9=cP zI zI true:=t4 rfl rfl _;have zl2:(cP zI zI false).length=9:=rfl
 cases o
 ·refine ⟨zI,zI,true,H4,H4,⟨VZ,fun h=>absurd (vo.2 h) (by decide),fun _=>⟨rfl,rfl,rfl⟩⟩,?_⟩;refine t6 Tryz.func168 Tryz.ntmps168 (rs:=[.cell 2 162]) (B4 _ _ _) ?_;simp [go_sem,rP hxl hyl,t4 hxl hyl];refine a9 f1 (B4 _ _ _) ?_;simp [go_sem];refine a9 TB ab ?_;simp [go_sem,zl,zt,zd,zl2,d7];exact L9 rfl
 ·refine ⟨x,y,b,hx,hy,⟨vo.1 rfl,fun _=>⟨rfl,rfl,rfl⟩,fun h=>absurd (vo.1 rfl) h⟩,?_⟩;refine t6 Tryz.func168 Tryz.ntmps168 (rs:=[.cell 2 162]) (B4 _ _ _) ?_;simp [go_sem,rP hxl hyl,t4 hxl hyl];refine a9 f1 (B4 _ _ _) ?_;simp [go_sem,rP hxl hyl,t4 hxl hyl,zd,zl2,d7];exact L9 rfl
def cV (x y z:List Int):List AV:=cI x ++ (cI y ++ cI z)
theorem B5 {x y z:List Int} (hx:x.length=4) (hy:y.length=4) (hz:z.length=4):(cV x y z).length=12:=by simp [cV,J3,hx,hy,hz]
theorem y7 {x y z:List Int} (hx:x.length=4) (hy:y.length=4) (hz:z.length=4):(cV x y z).take 12=cV x y z:=aq (by rw [B5 hx hy hz];omega)
theorem P0 {x y z:List Int} (hx:x.length=4) (hy:y.length=4) (hz:z.length=4):(cV x y z).drop 12=[]:=az (by rw [B5 hx hy hz];omega)
theorem adv {x y z:List Int} (hx:x.length=4):(cV x y z).take 4=cI x:=by
 unfold cV;rw [List.take_append_of_le_length (by rw [J3];omega),a8 hx]
theorem adw {x y z:List Int} (hx:x.length=4) (hy:y.length=4):((cV x y z).drop 4).take 4=cI y:=by
 unfold cV;rw [List.drop_append_of_le_length (by rw [J3];omega),i9 hx,List.nil_append,List.take_append_of_le_length (by rw [J3];omega),a8 hy]
theorem ZE {x y z:List Int} (hx:x.length=4) (hy:y.length=4) (hz:z.length=4):((cV x y z).drop 8).take 4=cI z:=by
 have e:cV x y z=(cI x ++ cI y) ++ cI z:=by simp [cV]
 rw [e,List.drop_append_of_le_length (by simp [J3,hx,hy]),az (by simp [J3,hx,hy]),List.nil_append,a8 hz]
theorem WH (x y z:List Int):(AV.agg (cV x y z)).deep:=by
 intro v hv;unfold cV at hv;rcases au.1 hv with hv | hv
 ·exact SS _ v hv
 ·rcases au.1 hv with hv | hv
  ·exact SS _ v hv
  ·exact SS _ v hv
theorem L3 (x y z:List Int):∀ v,v ∈ [AV.agg (cV x y z)]→v.deep:=by
 intro v hv;simp at hv;subst hv;exact WH _ _ _
theorem Tm (n:Nat) (x y z:List Int):∀ v,v ∈ cV x y z→v.low1 n:=by
 intro v hv;unfold cV at hv;rcases au.1 hv with hv | hv
 ·exact o9 _ _ v hv
 ·rcases au.1 hv with hv | hv
  ·exact o9 _ _ v hv
  ·exact o9 _ _ v hv
theorem Rq {Q:AV→Prop} {st:St} {x y z:List Int} (hq:Q (.agg (cV x y z))):N6 Q (.agg (cV x y z)) st:=b7 (WH _ _ _) hq
theorem zzV:O6 Tryz.prog 199=some (cV zI zI zI):=by kernel_rfl
attribute [go_sem] zzV
def K1:List Int:=[1,0,0,0]
theorem YU:Wn 4 K1:=H8 ⟨aa,aa⟩
theorem WI (x y z:List Int) (hx:Wn 4 x) (hy:Wn 4 y) (hz:Wn 4 z):m6 Tryz.prog 212 [.agg (cV x y z)] (fun r=>r=.d (.bool (decide (z=zI)))):=by
 have hxl:=hx.1;have hyl:=hy.1;have hzl:=hz.1;refine t6 Tryz.func212 Tryz.ntmps212 (rs:=[.tmp 2]) (L3 _ _ _) ?_;have iz:C0 .u64 [AV.d (.int .u64 0),AV.d (.int .u64 0),AV.d (.int .u64 0),AV.d (.int .u64 0)]=some zI:=y6 zI;simp [go_sem,B5 hxl hyl hzl,y7 hxl hyl hzl,ZE hxl hyl hzl,y6,iz,hzl,d7];exact b7 ae rfl
theorem acd:V K1=1:=by simp [V,K1]
theorem amy:FV K1=1:=YS 1 aa
theorem avC:JV K1 K1 zI=none:=by
 show Ya fd (FV K1) (FV K1) (FV zI)=none;rw [Xp];exact ae3 fd _ _
theorem avD:YT K1 K1 zI:=by
 have hz:V zI=0:=by simp [V,zI]
 refine ⟨⟨by rw [acd];decide,by rw [acd];decide,by rw [hz];decide⟩,by rw [avC];trivial⟩
theorem ae7:(1:F) ≠ 0:=fd.one
theorem axV (a:F):a=a*(1*1):=by grobner
theorem avE (a:F):a=a*(1*1*1):=by grobner
theorem asS (x y:List Int):JV x y K1=some (FV x,FV y):=by
 show Ya fd (FV x) (FV y) (FV K1)=_;rw [amy];exact adr fd ae7 (axV _) (avE _)
theorem apr {x y:List Int} (h:L2 x y false):YT x y K1∧JV x y K1=PV x y false:=by
 have e:JV x y K1=PV x y false:=asS x y;have ho:=TA h;rcases h with ⟨h,_⟩ | ⟨_,h1,h2,_⟩
 ·cases h
 ·exact ⟨⟨⟨h1,h2,by rw [acd];decide⟩,by rw [e];exact ho⟩,e⟩
theorem mkV {x y:List Int} (hx:x.length=4) (hy:y.length=4):List.take 8 (cI x ++ (cI y ++ List.drop 8 (cI x ++ [AV.d (.int .u64 0),AV.d (.int .u64 0),AV.d (.int .u64 0),AV.d (.int .u64 0),AV.d (.int .u64 0),AV.d (.int .u64 0),AV.d (.int .u64 0),AV.d (.int .u64 0)]))) ++ (cI [1,0,0,0] ++ List.drop 12 (cI x ++ (cI y ++ List.drop 8 (cI x ++ [AV.d (.int .u64 0),AV.d (.int .u64 0),AV.d (.int .u64 0),AV.d (.int .u64 0),AV.d (.int .u64 0),AV.d (.int .u64 0),AV.d (.int .u64 0),AV.d (.int .u64 0)]))))=cV x y K1:=by
 match x,y,hx,hy with
 | [a,b,c,d],[e,f,g,h],_,_=>rfl
theorem V2 (x y:List Int) (b:Bool) (hx:Wn 4 x) (hy:Wn 4 y):∃ (u v w:List Int),Wn 4 u∧Wn 4 v∧Wn 4 w∧(L2 x y b→YT u v w∧JV u v w=PV x y b)∧m6 Tryz.prog 167 [.agg (cP x y b)] (fun r=>r=.agg (cV u v w)):=by
 have hxl:=hx.1;have hyl:=hy.1
 cases b
 ·refine ⟨x,y,K1,hx,hy,YU,apr,?_⟩;refine t6 Tryz.func167 Tryz.ntmps167 (rs:=[.cell 2 199]) (B4 _ _ _) ?_;have e1:∀ c:Bool,(cP x y c).take 4=cI x:=ae6 hxl;have e2:∀ c:Bool,((cP x y c).drop 4).take 4=cI y:=ajv hxl hyl;simp [go_sem,rP hxl hyl,t4 hxl hyl,VG hxl hyl,V1 hxl hyl];refine B7 [0,1,2,3] [(4,[5]),(6,[])] 1 (k:=7) ?_;intro G hG;simp [go_sem,rP hxl hyl,e1,e2];refine a9 (N8 1) (aaK _) ?_;simp [go_sem,hxl,hyl];rw [mkV hxl hyl];refine hG _ _ ?_;have ol:K1.length=4:=rfl;simp [go_sem,B5 hxl hyl ol,y7 hxl hyl ol,d7];exact Rq rfl
 ·refine ⟨K1,K1,zI,YU,YU,H4,fun _=>⟨avD,avC⟩,?_⟩;refine t6 Tryz.func167 Tryz.ntmps167 (rs:=[.cell 2 199]) (B4 _ _ _) ?_;simp [go_sem,rP hxl hyl,t4 hxl hyl,VG hxl hyl,V1 hxl hyl];refine a9 (N8 1) (aaK _) ?_;simp [go_sem];refine a9 (N8 1) (aaK _) ?_;simp [go_sem,d7];exact Rq (x:=K1) (y:=K1) (z:=zI) rfl
theorem Vm (c:Int) (a:List Int):∀ v,v ∈ [AV.d (.int .u64 c),AV.agg (cI a)]→v.deep:=by
 intro v hv;simp at hv;rcases hv with rfl | rfl;trivial;exact N7 _
theorem UL (n:Int) (a:List Int) (hn:H1 n) (ha:Wn 4 a):∃ r,Wn 4 r∧(V r<pZ∧FV r=FV [n,0,0,0]*FV a)∧m6 Tryz.prog 214 [.d (.int .u64 n),.agg (cI a)] (fun x=>x=.agg (cI r)):=by
 obtain ⟨r,hr,vr,f1⟩:=Rw [n,0,0,0] a (H8 hn) ha;unfold W2 at f1;have hal:=ha.1;have hrl:=hr.1;have hz:List.drop 4 (cI zI)=[]:=i9 rfl;refine ⟨r,hr,vr,?_⟩;refine t6 Tryz.func214 Tryz.ntmps214 (rs:=[.cell 4 160]) (Vm _ _) ?_;simp [go_sem,hal,a8 hal];refine C4 [0,2] [1,3,4] [0,2] (ah 1 (ag [3,4])) ⟨[(4,.ptr 32 0 0 1)],[(32,⟨160,4,[cI r]⟩)],9000⟩ (k:=5) ?h3 ?hq
 case h3 =>
  intro G hG
  have hW:∀ (fr:Fr) (hp:Hp),(fv 4 fr=.ptr 32 0 0 1∧lk 32 hp=some ⟨160,4,[cI r]⟩)→G fr hp:=by
   rintro fr hp ⟨q0,q1⟩;exact hG _ _ Rz
  simp [go_sem,hal,a8 hal,hrl,a8 hrl,hz,A6]
  repeat' first | exact hW _ _ ⟨rfl,rfl⟩ | (refine hW _ _ ?_;simp [fv,lk];done) | refine a9 (N8 n) (aaK _) ?_ | refine a9 f1 (d5 _ _) ?_ | apply And.intro | simp [go_sem,hal,a8 hal,hrl,a8 hrl,hz,A6]
 case hq =>
  simp [go_sem,hrl,a8 hrl,d7];exact A7 rfl
theorem mk8 {x y:List Int} (hx:x.length=4) (hy:y.length=4):List.take 8 (cI x ++ (cI y ++ List.drop 8 (cI x ++ [AV.d (.int .u64 0),AV.d (.int .u64 0),AV.d (.int .u64 0),AV.d (.int .u64 0),AV.d (.int .u64 0),AV.d (.int .u64 0),AV.d (.int .u64 0),AV.d (.int .u64 0)])))=cI x ++ cI y:=by
 match x,y,hx,hy with
 | [a,b,c,d],[e,f,g,h],_,_=>rfl
theorem aps {x y:List Int} (hx:x.length=4) (hy:y.length=4):List.drop 12 (cI x ++ (cI y ++ List.drop 8 (cI x ++ [AV.d (.int .u64 0),AV.d (.int .u64 0),AV.d (.int .u64 0),AV.d (.int .u64 0),AV.d (.int .u64 0),AV.d (.int .u64 0),AV.d (.int .u64 0),AV.d (.int .u64 0)])))=[]:=by
 match x,y,hx,hy with
 | [a,b,c,d],[e,f,g,h],_,_=>rfl
theorem aaM (x y z:List Int) (hx:Wn 4 x) (hy:Wn 4 y) (hz:Wn 4 z):∃ (u v w:List Int),Wn 4 u∧Wn 4 v∧Wn 4 w∧(YT x y z→YT u v w∧JV u v w=sum fd (JV x y z) (JV x y z))∧m6 Tryz.prog 171 [.agg (cV x y z)] (fun r=>r=.agg (cV u v w)):=by
 obtain ⟨y2,h1,g1,f1⟩:=V0 y hy;obtain ⟨m1,h2,g2,f2⟩:=Rw x y2 hx h1;obtain ⟨s,h3,g3,f3⟩:=UL 4 m1 ⟨aa,aa⟩ h2;obtain ⟨x2,h4,g4,f4⟩:=V0 x hx;obtain ⟨m,h5,g5,f5⟩:=UL 3 x2 ⟨aa,aa⟩ h4;obtain ⟨m2,h6,g6,f6⟩:=V0 m h5;obtain ⟨s2,h7,g7,f7⟩:=UL 2 s ⟨aa,aa⟩ h3;obtain ⟨X,h8,g8,f8⟩:=Yc m2 s2 h6 h7;obtain ⟨d,h9,g9,f9⟩:=Yc s X h3 h8;obtain ⟨e,h10,g10,f10⟩:=Rw m d h5 h9;obtain ⟨y4,h11,g11,f11⟩:=V0 y2 h1;obtain ⟨y8,h12,g12,f12⟩:=UL 8 y4 ⟨aa,aa⟩ h11;obtain ⟨Y,h13,g13,f13⟩:=Yc e y8 h10 h12;obtain ⟨yz,h14,g14,f14⟩:=Rw y z hy hz;obtain ⟨Z,h15,g15,f15⟩:=UL 2 yz ⟨aa,aa⟩ h14;obtain ⟨wu,wv,ww,h16,h17,h18,g16,f16⟩:=V2 zI zI true H4 H4;unfold W1 at f1 f4 f6 f11;unfold W2 at f2 f8 f9 f10 f13 f14;have l1:=h1.1;have l2:=h2.1;have l3:=h3.1;have l4:=h4.1;have l5:=h5.1;have l6:=h6.1;have l7:=h7.1;have l8:=h8.1;have l9:=h9.1;have l10:=h10.1;have l11:=h11.1;have l12:=h12.1;have l13:=h13.1;have l14:=h14.1;have l15:=h15.1;have l16:=h16.1;have l17:=h17.1;have l18:=h18.1;have hxl:=hx.1;have hyl:=hy.1;have hzl:=hz.1;have z4:List.drop 4 (cI zI)=[]:=i9 rfl;have vl:=B5 hxl hyl hzl;have vt:=y7 hxl hyl hzl;have v1:(cV x y z).take 4=cI x:=adv hxl;have v2:=adw (z:=z) hxl hyl;have v3:=ZE hxl hyl hzl;have iz:C0 .u64 [AV.d (.int .u64 0),AV.d (.int .u64 0),AV.d (.int .u64 0),AV.d (.int .u64 0)]=some zI:=y6 zI;have f0:=WI x y z hx hy hz;have wd:(cV zI zI zI).drop 12=[]:=P0 rfl rfl rfl;have wl:(cV zI zI zI).length=12:=rfl;have ul:=B5 l16 l17 l18;have ut:=y7 l16 l17 l18;by_cases q0:z=zI ∨ y=zI
 ·have vv:YT x y z→YT wu wv ww∧JV wu wv ww=sum fd (JV x y z) (JV x y z):=by
   intro hj;obtain ⟨k1,k2⟩:=g16 VZ;rcases q0 with q | q
   ·have e:JV x y z=none:=by rw [q];show Ya fd _ _ (FV zI)=none;rw [Xp];exact ae3 fd _ _
    exact ⟨k1,by rw [k2,e,amw];exact (K6 fd (Q:=none) True.intro).symm⟩
   ·by_cases q1:z=zI
    ·have e:JV x y z=none:=by rw [q1];show Ya fd _ _ (FV zI)=none;rw [Xp];exact ae3 fd _ _
     exact ⟨k1,by rw [k2,e,amw];exact (K6 fd (Q:=none) True.intro).symm⟩
    ·have hz0:FV z ≠ 0:=fun h=>q1 ((RD hz hj.1.2.2).1 h);exact absurd (by rw [q,Xp]) (aaG fd hz0 hj.2).2.1
  refine ⟨wu,wv,ww,h16,h17,h18,vv,?_⟩;refine t6 Tryz.func171 Tryz.ntmps171 (rs:=[.cell 2 199]) (L3 _ _ _) ?_;simp [go_sem,vl,vt];refine a9 f0 (L3 _ _ _) ?_;by_cases q1:z=zI
  ·simp [go_sem,q1];refine a9 TB ab ?_;simp [go_sem];refine a9 f16 (B4 _ _ _) ?_;simp [go_sem,ul,ut,wd,wl,d7];exact Rq rfl
  ·have q2:y=zI:=q0.resolve_left q1;simp [go_sem,q1,v2,vl,y6,iz,hyl];refine ⟨fun _=>?_,fun h=>absurd q2 h⟩;refine a9 TB ab ?_;simp [go_sem];refine a9 f16 (B4 _ _ _) ?_;simp [go_sem,ul,ut,wd,wl,d7];exact Rq rfl
 ·have q1:z ≠ zI:=fun h=>q0 (.inl h);have q2:y ≠ zI:=fun h=>q0 (.inr h)
  have vv:YT x y z→YT X Y Z∧JV X Y Z=sum fd (JV x y z) (JV x y z):=by
   intro hj;have hz0:FV z ≠ 0:=fun h=>q1 ((RD hz hj.1.2.2).1 h);obtain ⟨_,_,e⟩:=aaG fd hz0 hj.2;have n2:FV [2,0,0,0]=2:=YS 2 aa;have n3:FV [3,0,0,0]=3:=YS 3 aa;have n4:FV [4,0,0,0]=4:=YS 4 aa;have n8:FV [8,0,0,0]=8:=YS 8 aa
   have eX:FV X=3*(FV x*FV x)*(3*(FV x*FV x)) - 2*(4*(FV x*(FV y*FV y))):=by
    rw [g8.2,g6.2,g5.2,g4.2,g7.2,g3.2,g2.2,g1.2,n2,n3,n4]
   have eY:FV Y=3*(FV x*FV x)*(4*(FV x*(FV y*FV y)) - (3*(FV x*FV x)*(3*(FV x*FV x)) - 2*(4*(FV x*(FV y*FV y))))) - 8*(FV y*FV y*(FV y*FV y)):=by
    rw [g13.2,g10.2,g9.2,eX,g5.2,g4.2,g3.2,g2.2,g12.2,g11.2,g1.2,n3,n4,n8]
   have eZ:FV Z=2*(FV y*FV z):=by rw [g15.2,g14.2,n2]
   have e2:JV X Y Z=sum fd (JV x y z) (JV x y z):=by
    show Ya fd (FV X) (FV Y) (FV Z)=_;rw [eX,eY,eZ];exact e
   exact ⟨⟨⟨g8.1,g13.1,g15.1⟩,by rw [e2];exact TY fd hj.2 hj.2⟩,e2⟩
  refine ⟨X,Y,Z,h8,h13,h15,vv,?_⟩;refine t6 Tryz.func171 Tryz.ntmps171 (rs:=[.cell 2 199]) (L3 _ _ _) ?_;simp [go_sem,vl,vt];refine a9 f0 (L3 _ _ _) ?_;simp [go_sem,q1,q2,v2,vl,y6,iz,hyl];refine a9 f1 (m9 _) ?_;simp [go_sem,l1,a8 l1,z4,v1,vl];refine a9 f2 (d5 _ _) ?_;simp [go_sem];refine a9 f3 (Vm _ _) ?_;simp [go_sem,l3,a8 l3,z4,v1,vl];refine a9 f4 (m9 _) ?_;simp [go_sem];refine a9 f5 (Vm _ _) ?_;simp [go_sem,l5,a8 l5,z4];refine C4 [0,2] [1,3,4,5,6] [0,2] (.alt (ah 1 (.alt (ai 3 (.alt (ag [4,5,6]) (ag [5,4,6]))) (ah 5 (ag [3,4,6])))) (ah 5 (ah 1 (ag [3,4,6])))) ⟨[(1,.ptr 0 0 0 1),(2,.ptr 32 0 0 1),(3,.ptr 416 0 0 1),(4,.ptr 640 0 0 1),(5,.ptr 832 0 0 1),(6,.ptr 1056 0 0 1)],[(1056,⟨160,4,[cI X]⟩),(832,⟨160,4,[cI m]⟩),(640,⟨160,4,[cI s]⟩),(416,⟨160,4,[cI y2]⟩),(32,⟨199,12,[cV zI zI zI]⟩),(0,⟨199,12,[cV x y z]⟩)],9000⟩ (k:=7) ?h3 ?hq
  case h3 =>
   intro G hG
   have hW:∀ (fr:Fr) (hp:Hp),(fv 1 fr=.ptr 0 0 0 1∧fv 2 fr=.ptr 32 0 0 1∧fv 3 fr=.ptr 416 0 0 1∧fv 4 fr=.ptr 640 0 0 1∧fv 5 fr=.ptr 832 0 0 1∧fv 6 fr=.ptr 1056 0 0 1∧lk 1056 hp=some ⟨160,4,[cI X]⟩∧lk 832 hp=some ⟨160,4,[cI m]⟩∧lk 640 hp=some ⟨160,4,[cI s]⟩∧lk 416 hp=some ⟨160,4,[cI y2]⟩∧lk 32 hp=some ⟨199,12,[cV zI zI zI]⟩∧lk 0 hp=some ⟨199,12,[cV x y z]⟩)→G fr hp:=by
    rintro fr hp ⟨q0,q1,q2,q3,q4,q5,q6,q7,q8,q9,q10,q11⟩;exact hG _ _ Rz
   simp [go_sem,l1,l3,l5,l8,l13,a8 l1,a8 l3,a8 l5,a8 l8,a8 l13,z4,A6]
   repeat' first | exact hW _ _ ⟨rfl,rfl,rfl,rfl,rfl,rfl,rfl,rfl,rfl,rfl,rfl,rfl⟩ | (refine hW _ _ ?_;simp [fv,lk];done) | refine a9 f6 (m9 _) ?_ | refine a9 f7 (Vm _ _) ?_ | refine a9 f8 (d5 _ _) ?_ | apply And.intro | simp [go_sem,l1,l3,l5,l8,l13,a8 l1,a8 l3,a8 l5,a8 l8,a8 l13,z4,A6]
  case hq =>
   simp [go_sem];refine C4 [0,1,2,5] [3,4,6,7,8,9,10] [0,1,2,5] (.alt (ah 3 (.alt (ah 4 (.alt (ai 6 (.alt (ai 7 (.alt (ag [8,9,10]) (ag [9,8,10]))) (ag [9,7,8,10]))) (ah 9 (ag [6,7,8,10])))) (ah 9 (ah 4 (ag [6,7,8,10]))))) (ah 9 (ah 3 (ah 4 (ag [6,7,8,10]))))) ⟨[(1,.ptr 0 0 0 1),(2,.ptr 32 0 0 1),(3,.ptr 416 0 0 1),(4,.ptr 640 0 0 1),(5,.ptr 832 0 0 1),(6,.ptr 1056 0 0 1),(7,.ptr 9288 0 0 1)],[(9288,⟨160,4,[cI Y]⟩),(1056,⟨160,4,[cI X]⟩),(832,⟨160,4,[cI m]⟩),(640,⟨160,4,[cI s]⟩),(416,⟨160,4,[cI y2]⟩),(32,⟨199,12,[cV zI zI zI]⟩),(0,⟨199,12,[cV x y z]⟩)],20000⟩ (k:=11) ?h3 ?hq
   case h3 =>
    intro G hG
    have hW:∀ (fr:Fr) (hp:Hp),(fv 1 fr=.ptr 0 0 0 1∧fv 2 fr=.ptr 32 0 0 1∧fv 3 fr=.ptr 416 0 0 1∧fv 4 fr=.ptr 640 0 0 1∧fv 5 fr=.ptr 832 0 0 1∧fv 6 fr=.ptr 1056 0 0 1∧fv 7 fr=.ptr 9288 0 0 1∧lk 9288 hp=some ⟨160,4,[cI Y]⟩∧lk 1056 hp=some ⟨160,4,[cI X]⟩∧lk 832 hp=some ⟨160,4,[cI m]⟩∧lk 640 hp=some ⟨160,4,[cI s]⟩∧lk 416 hp=some ⟨160,4,[cI y2]⟩∧lk 32 hp=some ⟨199,12,[cV zI zI zI]⟩∧lk 0 hp=some ⟨199,12,[cV x y z]⟩)→G fr hp:=by
     rintro fr hp ⟨q0,q1,q2,q3,q4,q5,q6,q7,q8,q9,q10,q11,q12,q13⟩;exact hG _ _ Rz
    simp [go_sem,l1,l3,l5,l8,l13,a8 l1,a8 l3,a8 l5,a8 l8,a8 l13,z4,A6]
    repeat' first | exact hW _ _ ⟨rfl,rfl,rfl,rfl,rfl,rfl,rfl,rfl,rfl,rfl,rfl,rfl,rfl,rfl⟩ | (refine hW _ _ ?_;simp [fv,lk];done) | refine a9 f9 (d5 _ _) ?_ | refine a9 f10 (d5 _ _) ?_ | refine a9 f11 (m9 _) ?_ | refine a9 f12 (Vm _ _) ?_ | refine a9 f13 (d5 _ _) ?_ | apply And.intro | simp [go_sem,l1,l3,l5,l8,l13,a8 l1,a8 l3,a8 l5,a8 l8,a8 l13,z4,A6]
   case hq =>
    simp only [go_sem,Nat.reduceEqDiff,Nat.reduceAdd,Nat.reduceLT,↓reduceIte];refine B7 [0,1,2,3,4,5] [(6,[]),(7,[8]),(9,[])] 2 (k:=10) ?_;intro G hG;simp [go_sem,l8,l13,a8 l8,a8 l13,v2,v3,vl];refine a9 f14 (d5 _ _) ?_;simp [go_sem];refine a9 f15 (Vm _ _) ?_;have ev:cI X ++ (cI Y ++ cI Z)=cV X Y Z:=rfl;have xl:=B5 l8 l13 l15;have xt:=y7 l8 l13 l15;simp [go_sem,l8,l13,l15,wl,wd,mk8 l8 l13,aps l8 l13,ev,xl,A6];refine hG _ _ ?_;simp [go_sem,xl,xt,d7];exact Rq rfl
theorem mkP {x y:List Int} (hx:x.length=4) (hy:y.length=4):cI x ++ (cI y ++ List.drop 8 (cI x ++ [AV.d (.int .u64 0),AV.d (.int .u64 0),AV.d (.int .u64 0),AV.d (.int .u64 0),AV.d (.bool false)]))=cP x y false:=by
 match x,y,hx,hy with
 | [a,b,c,d],[e,f,g,h],_,_=>rfl
theorem amz (x y z:List Int) (hx:Wn 4 x) (hy:Wn 4 y) (hz:Wn 4 z):∃ (u v:List Int) (c:Bool),Wn 4 u∧Wn 4 v∧(YT x y z→L2 u v c∧PV u v c=JV x y z)∧m6 Tryz.prog 173 [.agg (cV x y z)] (fun r=>r=.agg (cP u v c)):=by
 obtain ⟨i,h1,g1,f1⟩:=avz z hz;obtain ⟨i2,h2,g2,f2⟩:=V0 i h1;obtain ⟨X,h3,g3,f3⟩:=Rw x i2 hx h2;obtain ⟨i3,h4,g4,f4⟩:=Rw i2 i h2 h1;obtain ⟨Y,h5,g5,f5⟩:=Rw y i3 hy h4;unfold W1 at f1 f2;unfold W2 at f3 f4 f5;have l1:=h1.1;have l2:=h2.1;have l3:=h3.1;have l5:=h5.1;have hxl:=hx.1;have hyl:=hy.1;have hzl:=hz.1;have z4:List.drop 4 (cI zI)=[]:=i9 rfl;have vl:=B5 hxl hyl hzl;have vt:=y7 hxl hyl hzl;have v1:(cV x y z).take 4=cI x:=adv hxl;have v2:=adw (z:=z) hxl hyl;have v3:=ZE hxl hyl hzl;have f0:=WI x y z hx hy hz;have zd:(cP zI zI false).drop 9=[]:=L5 rfl rfl _;have zl:(cP zI zI true).length=9:=rfl;have zt:(cP zI zI true).take 9=cP zI zI true:=t4 rfl rfl _;have zl2:(cP zI zI false).length=9:=rfl;by_cases q1:z=zI
 ·have vv:YT x y z→L2 zI zI true∧PV zI zI true=JV x y z:=by
   intro _;refine ⟨VZ,?_⟩;rw [q1,amw];show none=Ya fd _ _ (FV zI);rw [Xp];exact (ae3 fd _ _).symm
  refine ⟨zI,zI,true,H4,H4,vv,?_⟩;refine t6 Tryz.func173 Tryz.ntmps173 (rs:=[.cell 2 162]) (L3 _ _ _) ?_;simp [go_sem,vl,vt];refine a9 f0 (L3 _ _ _) ?_;simp [go_sem,q1];refine a9 TB ab ?_;simp [go_sem,zl,zt,zd,zl2,d7];exact L9 rfl
 ·have vv:YT x y z→L2 X Y false∧PV X Y false=JV x y z:=by
   intro hj;have hz0:FV z ≠ 0:=fun h=>q1 ((RD hz hj.1.2.2).1 h)
   have e:PV X Y false=JV x y z:=by
    show some (FV X,FV Y)=Ya fd (FV x) (FV y) (FV z);rw [Ya,if_neg hz0,g3.2,g5.2,g4.2,g2.2,g1.2]
   have ho:RZ (PV X Y false):=by rw [e];exact hj.2
   exact ⟨.inr ⟨rfl,g3.1,g5.1,ho⟩,e⟩
  refine ⟨X,Y,false,h3,h5,vv,?_⟩;refine t6 Tryz.func173 Tryz.ntmps173 (rs:=[.cell 2 162]) (L3 _ _ _) ?_;simp [go_sem,vl,vt];refine a9 f0 (L3 _ _ _) ?_;simp [go_sem,q1,v3,vl];refine a9 f1 (m9 _) ?_;simp [go_sem,l1,a8 l1,z4];refine a9 f2 (m9 _) ?_;simp [go_sem,l2,a8 l2,z4];refine B7 [0,1,2,4,5,6,7] [(3,[]),(8,[]),(9,[10]),(11,[])] 3 (k:=12) ?_;intro G hG;simp [go_sem,l1,l2,a8 l1,a8 l2,v1,v2,vl];refine a9 f3 (d5 _ _) ?_;simp [go_sem,l1,l2,a8 l1,a8 l2,v1,v2,vl];refine a9 f4 (d5 _ _) ?_;simp [go_sem];refine a9 f5 (d5 _ _) ?_;have pl1:=rP l3 l5 false;have pt1:=t4 l3 l5 false;have mp:=mkP l3 l5;simp [go_sem,l3,l5,zl2,zd,mp,pl1,A6];refine hG _ _ ?_;simp [go_sem,pl1,pt1,d7];exact L9 rfl
theorem asU (n:List Int) (k:Nat) (hn:Wn 4 n) (hk:k<256):∃ b:Bool,(b=true ↔ (V n).toNat / 2 ^ k % 2=1)∧m6 Tryz.prog 172 [.agg (cI n),.d (.int .i64 (k:Int))] (fun r=>r=.d (.bool b)):=by
 have hnl:=hn.1;have hdq:dq k=k / 64:=rfl;have hrq:rq k=k % 64:=rfl;have hnk:=B9 (l:=n) (k:=dq k) aa;have w4:IntKind.i64.wrap ((k:Int) / 64)=(dq k:Int):=by rw [IntWalk.i64_in _ aa];omega
 have w4b:IntKind.i64.wrap ((k:Int).tdiv 64)=(dq k:Int):=w4;have e2:(k:Int) % 64=(rq k:Int):=aa;have e2b:(k:Int).tmod 64=(rq k:Int):=e2;have i1:(dq k:Int)<4:=aa;have hm64:rq k<64:=aa;have hmn:min (rq k) 64=rq k:=aa;have bv:=alV hn hk
 have hv:(!decide (Go.bits .and .u64 (Int.fdiv (gI n (dq k)) (2 ^ rq k)) 1=0))=true ↔ (V n).toNat / 2 ^ k % 2=1:=by
  rw [Bool.not_eq_true',decide_eq_false_iff_not];refine ⟨fun h=>bv.2 h,fun h h0=>?_⟩;have:=bv.1 h0;omega
 refine ⟨!decide (Go.bits .and .u64 (Int.fdiv (gI n (dq k)) (2 ^ rq k)) 1=0),hv,?_⟩;refine t6 Tryz.func172 Tryz.ntmps172 (rs:=[.tmp 4]) (SU _ _) ?_;simp [go_sem,hnl,a8 hnl,hnk,e2,e2b,w4,w4b,i1,hm64,hmn,IntKind.bits,d7];exact b7 ae rfl
theorem apt (x y:List Int) (b:Bool) (hx:Wn 4 x) (hy:Wn 4 y):∃ o:Bool,(L2 x y b→(o=true ↔ b=false∧V y % 2=0))∧m6 Tryz.prog 127 [.agg (cP x y b)] (fun r=>r=.d (.bool o)):=by
 obtain ⟨u,v,c,hu,hv,tv,f1⟩:=Yd x y b hx hy;have hxl:=hx.1;have hyl:=hy.1;have hul:=hu.1;have hvl:=hv.1;have xd:(cP x y b).drop 9=[]:=L5 hxl hyl _
 have g4:(cP u v false)[4]?=some (.d (.int .u64 (gI v 0))):=by
  unfold cP;rw [aB (by rw [J3];omega),J3,hul,List.getElem?_append_left (by rw [J3];omega),TX,B9 aa];rfl
 have g4b:∀ h,(cP u v false)[4]'h=.d (.int .u64 (gI v 0)):=fun h=>(ak.1 g4).2
 cases c
 ·have hpar:Go.bits .and .u64 (gI v 0) 1=0 ↔ V v % 2=0:=by
   have h0:=x5 (k:=0) hv;rw [ZM _ h0.1 h0.2];obtain ⟨r0,r1,r2,r3,e,_⟩:=Rv hv;rw [e,V4];show r0 % 2=0 ↔ _;omega
  have ev:L2 x y b→(decide (Go.bits .and .u64 (gI v 0) 1=0)=true ↔ b=false∧V y % 2=0):=by
   intro hp;obtain ⟨_,e2,e3⟩:=tv.2.1 hp;rw [decide_eq_true_iff,hpar,e2];exact ⟨fun h=>⟨e3.symm,h⟩,fun h=>h.2⟩
  refine ⟨decide (Go.bits .and .u64 (gI v 0) 1=0),ev,?_⟩;refine t6 Tryz.func127 Tryz.ntmps127 (rs:=[.tmp 2]) (B4 _ _ _) ?_;simp [go_sem,rP hxl hyl,t4 hxl hyl];refine a9 f1 (B4 _ _ _) ?_;simp [go_sem,rP hxl hyl,rP hul hvl,xd,VG hul hvl,V1 hul hvl,g4,g4b,d7];exact b7 ae rfl
 ·have ev:L2 x y b→(false=true ↔ b=false∧V y % 2=0):=by
   intro hp;obtain ⟨_,_,e3⟩:=tv.2.1 hp;rw [← e3];exact ⟨fun h=>Bool.noConfusion h,fun h=>Bool.noConfusion h.1⟩
  refine ⟨false,ev,?_⟩;refine t6 Tryz.func127 Tryz.ntmps127 (rs:=[.tmp 2]) (B4 _ _ _) ?_;simp [go_sem,rP hxl hyl,t4 hxl hyl];refine a9 f1 (B4 _ _ _) ?_;simp [go_sem,rP hxl hyl,rP hul hvl,xd,VG hul hvl,V1 hul hvl,d7];exact b7 ae rfl
def gX:List Int:=[6481385041966929816,188021827762530521,6170039885052185351,8772561819708210092]
theorem apu:Wn 4 gX:=⟨rfl,by intro y hy;simp [gX] at hy;rcases hy with rfl | rfl | rfl | rfl <;> exact ⟨aa,aa⟩⟩
def gY:List Int:=[11261198710074299576,18237243440184513561,6747795201694173352,5204712524664259685]
theorem asV:Wn 4 gY:=⟨rfl,by intro y hy;simp [gY] at hy;rcases hy with rfl | rfl | rfl | rfl <;> exact ⟨aa,aa⟩⟩
def odI:List Int:=[13822214165235122497,13451932020343611451,18446744073709551614,18446744073709551615]
theorem aqH:Wn 4 odI:=⟨rfl,by intro y hy;simp [odI] at hy;rcases hy with rfl | rfl | rfl | rfl <;> exact ⟨aa,aa⟩⟩
theorem ae8:m6 Tryz.prog 210 [] (fun r=>r=.agg (cI odI)):=by
 refine t6 Tryz.func210 Tryz.ntmps210 (rs:=[.cell 0 160]) ae ?_;simp [go_sem,cI,zI,d7];exact A7 (a:=odI) rfl
theorem ZO:L2 gX gY false:=by
 have vx:V gX=55066263022277343669578718895168534326250603453777594175500187360389116729240:=by simp [V,gX]
 have vy:V gY=32670510020758816978083085130507043184471273380659243275938904335757337482424:=by simp [V,gY]
 refine .inr ⟨rfl,by rw [vx];decide,by rw [vy];decide,VY ?_⟩
 have e7:(((7:F).val:Nat):Int)=7 % pZ:=by
  show ((7 % pP:Nat):Int)=_;rw [Int.natCast_emod,Rp];rfl
 rw [YR,ajs,YR,YR,Int.natCast_emod,Int.natCast_mul,Int.natCast_emod,Int.natCast_add,Int.natCast_emod,Int.natCast_mul,Int.natCast_emod,Int.natCast_mul,G3,G3,e7,Rp,vx,vy];decide
theorem ah9:m6 Tryz.prog 125 [] (fun r=>r=.agg (cP gX gY false)):=by
 refine t6 Tryz.func125 Tryz.ntmps125 (rs:=[.cell 0 162]) ae ?_;simp [go_sem,cP,cI,zI,d7];exact L9 (x:=gX) (y:=gY) (b:=false) rfl
theorem ZP:∀ (l:List Nat),(∀ x,x ∈ l→x<256)→∀ a,l.foldl (fun a x=>a*256+x) a<(a+1)*256 ^ l.length
 | [],_,a=>by simp
 | x :: r,h,a=>by
  have h1:=ZP r (fun y hy=>h y (by simp [hy])) (a*256+x);have h2:=h x ab;rw [List.foldl_cons,List.length_cons,Nat.pow_succ];have h3:(a*256+x+1)*256 ^ r.length≤((a+1)*256)*256 ^ r.length:=aE _ aa;have h4:(a+1)*256*256 ^ r.length=(a+1)*(256 ^ r.length*256):=by rw [Nat.mul_assoc,Nat.mul_comm 256]
  omega
theorem aaC {l:List Nat} (h:∀ x,x ∈ l→x<256) (hl:l.length≤8):J2 l<18446744073709551616:=by
 have h1:=ZP l h 0;have h2:256 ^ l.length≤256 ^ 8:=Nat.pow_le_pow_right aa hl;have h3:(256:Nat) ^ 8=18446744073709551616:=by decide
 unfold J2;omega
theorem ZQ (a b:List Nat):J2 (a ++ b)=J2 a*256 ^ b.length+J2 b:=by
 have key:∀ (l:List Nat) (c:Nat),l.foldl (fun a x=>a*256+x) c=c*256 ^ l.length+l.foldl (fun a x=>a*256+x) 0:=by
  intro l
  induction l with
  | nil=>intro c;simp
  | cons x r ih =>
   intro c;rw [List.foldl_cons,List.foldl_cons,ih,ih (0*256+x),List.length_cons,Nat.pow_succ]
   have:(c*256+x)*256 ^ r.length=c*(256 ^ r.length*256)+(0*256+x)*256 ^ r.length:=by
    rw [Nat.add_mul,Nat.mul_assoc,Nat.mul_comm 256,Nat.zero_mul,Nat.zero_add]
   omega
 unfold J2;rw [List.foldl_append,key]
theorem amA {b:List Nat} (hb:b.length=32):V ((RJ b 32).map fun (x:Nat)=>(x:Int))=(J2 b:Int):=by
 have e:b=Go.Sha.part b 32 3 ++ (Go.Sha.part b 32 2 ++ (Go.Sha.part b 32 1 ++ Go.Sha.part b 32 0)):=by
  unfold Go.Sha.part;have h32:b.take 32=b:=aq aa;rw [h32];have h0:(b.drop (8*(3 - 0))).take 8=b.drop 24:=aq (by rw [aG];omega)
  have s2:(b.drop (8*(3 - 1))).take 8 ++ b.drop 24=b.drop 16:=by
   have:b.drop 24=(b.drop 16).drop 8:=by rw [List.drop_drop]
   rw [this];exact List.take_append_drop 8 _
  have s3:(b.drop (8*(3 - 2))).take 8 ++ b.drop 16=b.drop 8:=by
   have:b.drop 16=(b.drop 8).drop 8:=by rw [List.drop_drop]
   rw [this];exact List.take_append_drop 8 _
  rw [h0,s2,s3];exact (List.take_append_drop 8 b).symm
 have l0:∀ j,j<4→(Go.Sha.part b 32 j).length=8:=by
  intro j hj;unfold Go.Sha.part;rw [List.length_take,aG,List.length_take];omega
 have m:RJ b 32=[J2 (Go.Sha.part b 32 0),J2 (Go.Sha.part b 32 1),J2 (Go.Sha.part b 32 2),J2 (Go.Sha.part b 32 3)]:=rfl
 have k:J2 b=((J2 (Go.Sha.part b 32 3)*256 ^ 8+J2 (Go.Sha.part b 32 2))*256 ^ 8+J2 (Go.Sha.part b 32 1))*256 ^ 8+J2 (Go.Sha.part b 32 0):=by
  conv=>lhs;rw [e]
  rw [← ar,← ar,ZQ,l0 0 aa,ZQ,l0 1 aa,ZQ,l0 2 aa]
 rw [m,k];simp only [List.map_cons,List.map_nil,V4];generalize J2 (Go.Sha.part b 32 0)=p0;generalize J2 (Go.Sha.part b 32 1)=p1;generalize J2 (Go.Sha.part b 32 2)=p2;generalize J2 (Go.Sha.part b 32 3)=p3;omega
theorem ae9 (b:List Nat) (hb:b.length=32) (hby:bytes b):∃ a:List Int,Wn 4 a∧V a=(J2 b:Int)∧m6 Tryz.prog 160 [.agg (cb b)] (fun r=>r=.agg (cI a)):=by
 refine ⟨(RJ b 32).map fun (x:Nat)=>(x:Int),⟨by simp [RJ],fun x hx=>?_⟩,amA hb,?_⟩
 ·rw [List.mem_map] at hx;obtain ⟨y,hy,rfl⟩:=hx;unfold RJ at hy;rw [List.mem_map] at hy;obtain ⟨j,_,rfl⟩:=hy;have:=aaC (l:=Go.Sha.part b 32 j) (fun x hx=>hby x (List.mem_of_mem_take (List.mem_of_mem_drop (List.mem_of_mem_take hx)))) (by unfold Go.Sha.part;rw [List.length_take];omega);exact ⟨Int.natCast_nonneg _,aa⟩
 ·have e:cI ((RJ b 32).map fun (x:Nat)=>(x:Int))=cW (RJ b 32):=by unfold cI cW;rw [List.map_map];rfl
  rw [e];exact ao0 b hb hby
theorem B8 (b:List Nat):∀ v,v ∈ [AV.agg (cb b)]→v.deep:=by
 intro v hv;simp at hv;subst hv;exact Sk _
theorem amB (b:List Nat) (hb:b.length=32) (hby:bytes b):∃ (r:List Int) (ok:Bool),Wn 4 r∧((J2 b<115792089237316195423570985008687907852837564279074904382605163141518161494337→ok=true∧V r=(J2 b:Int))∧(¬ J2 b<115792089237316195423570985008687907852837564279074904382605163141518161494337→ok=false∧r=zI))∧m6 Tryz.prog 165 [.agg (cb b)] (fun x=>x=.tup [.agg (cI r),.d (.bool ok)]):=by
 obtain ⟨a,ha,va,f1⟩:=ae9 b hb hby;obtain ⟨c,vc,f2⟩:=ah8 a odI ha aqH;have vo:V odI=115792089237316195423570985008687907852837564279074904382605163141518161494337:=by simp [V,odI]
 rw [vo,va] at vc;have hal:=ha.1;have hz:List.drop 4 (cI zI)=[]:=i9 rfl;have zd:List.drop 32 (cb b)=[]:=K5 hb;by_cases h0:0≤c
 ·refine ⟨zI,false,H4,⟨fun h=>absurd (vc.2 aa) aa,fun _=>⟨rfl,rfl⟩⟩,?_⟩;refine t6 Tryz.func165 Tryz.ntmps165 (rs:=[.cell 2 160,.tmp 3]) (B8 b) ?_;simp [go_sem,d0,hb,d6 hb,zd];refine a9 f1 (B8 _) ?_;simp [go_sem,hal,a8 hal,hz];refine B7 [0] [(1,[]),(2,[3])] 2 (k:=4) ?_;intro G hG;simp [go_sem,hal,a8 hal];refine a9 ae8 ab ?_;simp [go_sem];refine a9 f2 (d5 _ _) ?_;simp [go_sem,A6];refine hG _ _ ?_;simp [go_sem,h0,hz,d7];exact RB (a:=zI) rfl
 ·refine ⟨a,true,ha,⟨fun _=>⟨rfl,va⟩,fun h=>absurd (vc.1 aa) aa⟩,?_⟩;refine t6 Tryz.func165 Tryz.ntmps165 (rs:=[.cell 2 160,.tmp 3]) (B8 b) ?_;simp [go_sem,d0,hb,d6 hb,zd];refine a9 f1 (B8 _) ?_;simp [go_sem,hal,a8 hal,hz];refine B7 [0] [(1,[]),(2,[3])] 2 (k:=4) ?_;intro G hG;simp [go_sem,hal,a8 hal];refine a9 ae8 ab ?_;simp [go_sem];refine a9 f2 (d5 _ _) ?_;simp [go_sem,A6];refine hG _ _ ?_;simp [go_sem,h0,hal,a8 hal,hz,d7];exact RB rfl
theorem WJ {Q:AV→Prop} {st:St} {x y:List Int} {c b:Bool} (hq:Q (.tup [.agg (cP x y c),.d (.bool b)])):N6 Q (.tup [.agg (cP x y c),.d (.bool b)]) st :=
 b7 (by
  intro c hc;simp at hc;rcases hc with rfl | rfl
  ·exact .inr ⟨_,rfl,Vl _ _ _⟩
  ·exact .inl trivial) hq
def Sw (n:Nat):Int:=((n:Int)*n*n+7) % 115792089237316195423570985008687907853269984665640564039457584007908834671663
def TZ (n:Nat):Int:=Sw n ^ 28948022309329048855892746252171976963317496166410141009864396001977208667916 % 115792089237316195423570985008687907853269984665640564039457584007908834671663
def V3 (n:Nat):Prop:=(n:Int)<115792089237316195423570985008687907853269984665640564039457584007908834671663∧TZ n*TZ n % 115792089237316195423570985008687907853269984665640564039457584007908834671663=Sw n % 115792089237316195423570985008687907853269984665640564039457584007908834671663
def afa (n:Nat) (x y:List Int) (c ok:Bool):Prop :=
 (¬ V3 n∧ok=false∧c=true∧x=zI∧y=zI) ∨ (V3 n∧ok=true∧c=false∧V x=n∧V y=if TZ n % 2=0 then TZ n else (0 - TZ n) % 115792089237316195423570985008687907853269984665640564039457584007908834671663)
theorem aia {r a:List Int} {n:Nat} (hr:Wn 4 r) (va:V a=n) (vr:V r<pZ∧FV r=FV a*FV a*FV a+7):V r=Sw n:=by
 have e:=congrArg (fun x:F=>((x.val:Nat):Int)) vr.2;simp only [G3] at e
 have e7:(((7:F).val:Nat):Int)=7 % pZ:=by
  show ((7 % pP:Nat):Int)=_;rw [Int.natCast_emod,Rp];rfl
 have h0:=(G5 hr).1;rw [Int.emod_eq_of_lt h0 vr.1] at e;rw [e,ajs,YR,YR,Int.natCast_emod,Int.natCast_add,Int.natCast_emod,Int.natCast_mul,Int.natCast_emod,Int.natCast_mul,G3,e7,Rp,va];unfold Sw;show _=((n:Int)*n*n+7) % pZ;rw [← Int.mul_emod (n:Int) n,← Int.mul_emod ((n:Int)*n) n,← Int.add_emod]
theorem amC (b:List Nat) (hb:b.length=32) (hby:bytes b):∃ (x y:List Int) (c ok:Bool),Wn 4 x∧Wn 4 y∧(afa (J2 b) x y c ok)∧m6 Tryz.prog 121 [.agg (cb b)] (fun r=>r=.tup [.agg (cP x y c),.d (.bool ok)]):=by
 obtain ⟨a,ha,va,f1⟩:=ae9 b hb hby;obtain ⟨o,vo,f2⟩:=aaL a ha;obtain ⟨r,hr,vr,f3⟩:=ae5 a ha;obtain ⟨y,ok,hy,vk,vy,vno,f4⟩:=al0 r hr;have hrv:V r=Sw (J2 b):=aia hr va vr;rw [va] at vo;rw [hrv] at vk vy;unfold W1 at f3;have hal:=ha.1;have hyl:=hy.1;have hz:List.drop 4 (cI zI)=[]:=i9 rfl;have zd:List.drop 32 (cb b)=[]:=K5 hb;have pd:(cP zI zI false).drop 9=[]:=L5 rfl rfl _;have zl:(cP zI zI true).length=9:=rfl;have zt:(cP zI zI true).take 9=cP zI zI true:=t4 rfl rfl _;have zl2:(cP zI zI false).length=9:=rfl
 cases o
 ·refine ⟨zI,zI,true,false,H4,H4,.inl ⟨fun h=>absurd (vo.2 h.1) (by decide),rfl,rfl,rfl,rfl⟩,?_⟩;refine t6 Tryz.func121 Tryz.ntmps121 (rs:=[.cell 2 162,.tmp 3]) (B8 b) ?_;simp [go_sem,d0,hb,d6 hb,zd];refine a9 f1 (B8 _) ?_;simp [go_sem,hal,a8 hal,hz];refine a9 f2 (m9 _) ?_;simp [go_sem];refine a9 TB ab ?_;simp [go_sem,zl,zt,pd,zl2,d7];exact WJ rfl
 ·cases ok
  ·refine ⟨zI,zI,true,false,H4,H4,.inl ⟨fun h=>absurd (vk.2 h.2) (by decide),rfl,rfl,rfl,rfl⟩,?_⟩;refine t6 Tryz.func121 Tryz.ntmps121 (rs:=[.cell 2 162,.tmp 3]) (B8 b) ?_;simp [go_sem,d0,hb,d6 hb,zd];refine a9 f1 (B8 _) ?_;simp [go_sem,hal,a8 hal,hz];refine a9 f2 (m9 _) ?_;simp [go_sem,hal,a8 hal];refine a9 f3 (m9 _) ?_;simp [go_sem];refine a9 f4 (m9 _) ?_;simp [go_sem,hyl,a8 hyl,hz];refine a9 TB ab ?_;simp [go_sem,zl,zt,pd,zl2,d7];exact WJ rfl
  ·refine ⟨a,y,false,true,ha,hy,.inr ⟨⟨vo.1 rfl,vk.1 rfl⟩,rfl,rfl,va,vy rfl⟩,?_⟩;refine t6 Tryz.func121 Tryz.ntmps121 (rs:=[.cell 2 162,.tmp 3]) (B8 b) ?_;simp [go_sem,d0,hb,d6 hb,zd];refine a9 f1 (B8 _) ?_;simp [go_sem,hal,a8 hal,hz];refine a9 f2 (m9 _) ?_;simp [go_sem,hal,a8 hal];refine a9 f3 (m9 _) ?_;simp [go_sem];refine a9 f4 (m9 _) ?_;have mp:=mkP hal hyl;have pl1:=rP hal hyl false;have pt1:=t4 hal hyl false;simp [go_sem,hal,hyl,a8 hal,a8 hyl,hz,mp,pl1,pt1,pd,zl2,d7];exact WJ rfl
def d8 (i:Nat):Nat:=i / 8
def r8 (i:Nat):Nat:=8*(i % 8)
def byt (a:List Int) (k:Nat):Nat:=(IntKind.u8.wrap (Int.fdiv (gI a (d8 k)) (2 ^ r8 k))).toNat
def bst (a:List Int) (k:Nat) (l:List Nat):List Nat:=l.set (31 - k) (byt a k)
theorem aic (a:List Int) (k:Nat):IntKind.u8.wrap (Int.fdiv (gI a (d8 k)) (2 ^ r8 k))=((byt a k:Nat):Int):=by
 unfold byt;have:IntKind.u8.wrap (Int.fdiv (gI a (d8 k)) (2 ^ r8 k))=(Int.fdiv (gI a (d8 k)) (2 ^ r8 k)) % 256:=by simp [IntKind.wrap,IntKind.bits,IntKind.signed]
 rw [this];omega
theorem asX (a:List Int) (k:Nat):byt a k<256:=by
 have h:=aic a k;have:IntKind.u8.wrap (Int.fdiv (gI a (d8 k)) (2 ^ r8 k))=(Int.fdiv (gI a (d8 k)) (2 ^ r8 k)) % 256:=by simp [IntKind.wrap,IntKind.bits,IntKind.signed]
 rw [this] at h;omega
theorem YV (a:List Int):∀ k,(A4 (bst a) z32 k).length=32∧bytes (A4 (bst a) z32 k) :=
 O9 (P:=fun _ l=>l.length=32∧bytes l) ⟨rfl,fun x hx=>by simp [z32] at hx;omega⟩ fun k l hl=>by
  refine ⟨by unfold bst;rw [List.length_set];exact hl.1,fun x hx=>?_⟩;rcases List.mem_or_eq_of_mem_set hx with hx | rfl
  ·exact hl.2 x hx
  ·exact asX _ _
theorem avF {a:List Int} (ha:Wn 4 a) {k:Nat} (hk:k<32):byt a k=(V a).toNat / 256 ^ k % 256:=by
 have hw:=alU ha (j:=k / 8) aa;have hi:=aic a k;have hu:IntKind.u8.wrap (Int.fdiv (gI a (d8 k)) (2 ^ r8 k))=(Int.fdiv (gI a (d8 k)) (2 ^ r8 k)) % 256:=by simp [IntKind.wrap,IntKind.bits,IntKind.signed]
 have hd:d8 k=k / 8:=rfl;have hr:r8 k=8*(k % 8):=rfl;rw [hu,hd,hr,← hw,Int.fdiv_eq_ediv_of_nonneg _ (Int.le_of_lt (Int.pow_pos aa))] at hi;generalize (V a).toNat=N at *
 have h1:byt a k=N / 2 ^ (64*(k / 8)) % 2 ^ 64 / 2 ^ (8*(k % 8)) % 256:=by
  have e:∀ (z s:Nat),(((z / 2 ^ s % 256:Nat)):Int)=(z:Int) / 2 ^ s % 256:=fun z s=>by rw [Int.natCast_emod,Int.natCast_ediv,Int.natCast_pow];rfl
  exact (Int.ofNat_inj.1 ((e _ _).trans hi)).symm
 rw [h1];have e64:(2:Nat) ^ 64=2 ^ (8*(k % 8))*2 ^ (64 - 8*(k % 8)):=by rw [← Nat.pow_add];congr 1;omega
 have e8:(256:Nat) ∣ 2 ^ (64 - 8*(k % 8)):=⟨2 ^ (56 - 8*(k % 8)),by rw [show (256:Nat)=2 ^ 8 from rfl,← Nat.pow_add];congr 1;omega⟩
 have e256:(256:Nat) ^ k=2 ^ (64*(k / 8))*2 ^ (8*(k % 8)):=by
  rw [show (256:Nat)=2 ^ 8 from rfl,← Nat.pow_mul,← Nat.pow_add];congr 1;omega
 rw [e64,Nat.mod_mul_right_div_self,Nat.mod_mod_of_dvd _ e8,Nat.div_div_eq_div_mul,← e256]
def agM (a:List Int):Nat→List Nat
 | 0=>[]
 | k+1=>byt a k :: agM a k
theorem afb (a:List Int):∀ k,(agM a k).length=k
 | 0=>rfl
 | k+1=>by rw [agM,List.length_cons,afb a k]
theorem aaN (x:Nat) (l:List Nat):J2 (x :: l)=x*256 ^ l.length+J2 l:=by
 have:=ZQ [x] l;have e:J2 [x]=x:=by simp [J2]
 rw [e] at this;exact this
theorem amD {a:List Int} (ha:Wn 4 a):∀ k,k≤32→J2 (agM a k)=(V a).toNat % 256 ^ k
 | 0,_=>by rw [agM,Nat.pow_zero,Nat.mod_one];rfl
 | k+1,h=>by
  rw [agM,aaN,afb,amD ha k aa,avF ha aa,Nat.mod_pow_succ,Nat.mul_comm,Nat.add_comm]
theorem aid (a:List Int):∀ k,k≤32→A4 (bst a) z32 k=List.replicate (32 - k) 0 ++ agM a k
 | 0,_=>rfl
 | k+1,h=>by
  rw [A4,aid a k aa];unfold bst;have e:32 - k=(31 - k)+1:=aa;have e2:32 - (k+1)=31 - k:=aa;rw [e,e2,List.replicate_succ',ar,List.set_append_right _ _ ab,List.length_replicate,Nat.sub_self];rfl
theorem aqI {a:List Int} (ha:Wn 4 a):J2 (A4 (bst a) z32 32)=(V a).toNat:=by
 rw [aid a 32 aa,Nat.sub_self,List.replicate_zero,List.nil_append,amD ha 32 aa];have h:=G5 ha
 exact Nat.mod_eq_of_lt (by
  have:(256:Nat) ^ 32=115792089237316195423570985008687907853269984665640564039457584007913129639936:=by decide
  omega)
theorem ajw (a:List Int) (ha:Wn 4 a):∃ b:List Nat,b.length=32∧bytes b∧J2 b=(V a).toNat∧m6 Tryz.prog 174 [.agg (cI a)] (fun r=>r=.agg (cb b)):=by
 refine ⟨A4 (bst a) z32 32,(YV a 32).1,(YV a 32).2,aqI ha,?_⟩;refine t6 Tryz.func174 Tryz.ntmps174 (rs:=[.cell 2 23]) (m9 a) ?_;have hal:=ha.1;simp [go_sem,hal,a8 hal];generalize hSS:A4 (bst a) z32=S at *;have hS:=YV a;rw [hSS] at hS
 refine j9 (fun k:Nat=>⟨[(1,.ptr 0 0 0 1),(2,.ptr 32 0 0 1),(3,.ptr 64 0 0 1),(5,.d (.int .i64 (k:Int)))],[(64,⟨23,32,[cb (S k)]⟩),(32,⟨23,32,[cb z32]⟩),(0,⟨160,4,[cI a]⟩)],20000⟩)
  (fun k=>k≤32) (fun k=>32 - k) 0 aa (by
   rw [← hSS];simp [m7,c6,fv,lk,AV.low,AV.low1,A4]
   and_intros <;> first | rfl | exact o9 _ _ | exact o5 _ _) ?_
 intro k hk;obtain ⟨hs1,hs2⟩:=hS k;have w3:=j6 (k:=k) aa;simp only [go_sem,Nat.reduceEqDiff,Nat.reduceAdd,Nat.reduceLT,↓reduceIte];by_cases h4:k<32
 ·refine ⟨fun h=>?_,fun h=>absurd (by exact_mod_cast h4) h⟩;have hsn:S (k+1)=bst a k (S k):=by rw [← hSS];rfl
  have hdq:d8 k=k / 8:=rfl;have hrq:r8 k=8*(k % 8):=rfl;have hnk:=B9 (l:=a) (k:=d8 k) aa;have w4:IntKind.i64.wrap ((k:Int) / 8)=(d8 k:Int):=by rw [IntWalk.i64_in _ aa];omega
  have w4b:IntKind.i64.wrap ((k:Int).tdiv 8)=(d8 k:Int):=w4;have e2:IntKind.i64.wrap (8*((k:Int) % 8))=(r8 k:Int):=by rw [IntWalk.i64_in _ aa];omega
  have e2b:IntKind.i64.wrap (8*((k:Int).tmod 8))=(r8 k:Int):=e2;have e3:IntKind.i64.wrap (31 - (k:Int))=((31 - k:Nat):Int):=by rw [IntWalk.i64_in _ aa];omega
  have i1:(d8 k:Int)<4:=aa;have hm64:r8 k<64:=aa;have hmn:min (r8 k) 64=r8 k:=aa;have i3:((31 - k:Nat):Int)<32:=aa;have i4:31 - k<32:=aa;simp [go_sem,hnk,hal,e2,e2b,w4,w4b,e3,i1,i3,i4,hm64,hmn,IntKind.bits,aic,aan,d0,hs1,w3];refine c8 (k+1) aa aa ?_;rw [hsn];simp [m7,c6,fv,lk,AV.low,AV.low1,bst];and_intros <;> first | rfl | exact o9 _ _ | exact o5 _ _
 ·refine ⟨fun h=>absurd (by exact_mod_cast h) h4,fun h=>?_⟩;have hkl:k=32:=aa;subst hkl;simp [go_sem,d0,hs1,d6 hs1,K5 (l:=z32) rfl,d7];exact b7 (Sk _) rfl
theorem amE {Q:AV→Prop} {st:St} {b:List Nat} (hq:Q (.agg (cb b))):N6 Q (.agg (cb b)) st:=b7 (Sk _) hq
theorem ajx (x y:List Int) (c:Bool) (hx:Wn 4 x) (hy:Wn 4 y):∃ b:List Nat,b.length=32∧bytes b∧(L2 x y c→J2 b=(V x).toNat)∧m6 Tryz.prog 126 [.agg (cP x y c)] (fun r=>r=.agg (cb b)):=by
 obtain ⟨u,v,d,hu,hv,tv,f1⟩:=Yd x y c hx hy;obtain ⟨b,hb,hbb,vb,f2⟩:=ajw u hu;refine ⟨b,hb,hbb,fun h=>by rw [vb,(tv.2.1 h).1],?_⟩;refine t6 Tryz.func126 Tryz.ntmps126 (rs:=[.cell 2 23]) (B4 _ _ _) ?_;have hxl:=hx.1;have hyl:=hy.1;have ul:=rP hu.1 hv.1 d;have ux:=ae6 (y:=v) hu.1 d;have zd:List.drop 32 (cb z32)=[]:=K5 rfl;simp [go_sem,rP hxl hyl,t4 hxl hyl];refine a9 f1 (B4 _ _ _) ?_;simp [go_sem,ul,ux];refine a9 f2 (m9 _) ?_;simp [go_sem,d0,hb,d6 hb,zd,d7];exact amE rfl
def jnV (a b:List Nat):Nat→AV
 | 0=>.nil
 | 1=>.own 1192 0 a.length a.length
 | _=>.own 1192 0 (a ++ b).length (a ++ b).length
def jnH (a b:List Nat):Nat→Hp
 | 0=>[]
 | 1=>[(1192,⟨5,1,rb a⟩)]
 | _=>[(1192,⟨5,1,rb (a ++ b)⟩)]
def jnN:Nat→Nat
 | 0=>1000
 | _=>2000
theorem ajy (a b:List Nat) (ha:a.length=32) (hb:b.length≤1000000):m6 Tryz.prog 166 [.d (.ro 1 [[nb a],[nb b]])] (fun r=>r=.d (nb (a ++ b))):=by
 refine t6 Tryz.func166 Tryz.ntmps166 (rs:=[.tmp 2]) ae ?_;simp [go_sem]
 refine j9 (fun k:Nat=>⟨[(3,jnV a b k),(6,.d (.ro 1 [[nb a],[nb b]])),(7,.d (.int .i64 2)),(8,.d (.int .i64 (k:Int)))],jnH a b k,jnN k⟩)
  (fun k=>k≤2) (fun k=>2 - k) 0 aa (by simp [m7,c6,fv,lk,AV.low,AV.low1,jnV,jnH,jnN]) ?_
 intro k hk;simp only [go_sem,Nat.reduceEqDiff,Nat.reduceAdd,Nat.reduceLT,↓reduceIte]
 match k,hk with
 | 0,_ =>
  refine ⟨fun _=>?_,fun h=>absurd (by decide) h⟩;simp [go_sem,jnV,jnH,jnN,nb,E6];refine ⟨by rw [o6];omega,?_⟩;have w1:IntKind.i64.wrap 1=1:=by decide
  refine c8 1 aa aa ?_;simp [m7,c6,fv,lk,AV.low,AV.low1,o6,w1];exact s7 _ _
 | 1,_ =>
  refine ⟨fun _=>?_,fun h=>absurd (by decide) h⟩;simp [go_sem,jnV,jnH,jnN,nb,E6,o6];refine ⟨aa,?_⟩;have w1:IntKind.i64.wrap 2=2:=by decide
  have ra:rb (a ++ b)=rb a ++ rb b:=by simp [rb]
  refine c8 2 aa aa ?_;simp [m7,c6,fv,lk,AV.low,AV.low1,o6,w1,ra];intro r hr;exact hr.elim (s7 _ _ r) (s7 _ _ r)
 | 2,_ =>
  refine ⟨fun h=>absurd h (by decide),fun _=>?_⟩;simp [go_sem,jnV,jnH,d7];have hl2:a.length+b.length=(a ++ b).length:=by rw [aj]
  rw [hl2];exact SC rfl (by simp [nb])
end Go.Proofs.YtldccnbokbieiaaGreat
