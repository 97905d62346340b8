/-
 Part 7 of what the claim rests on.
-/
import Derived.Test.YtldccnbokbieiaaGreatN4
import Derived.Test.YtldccnbokbieiaaGreatN5
set_option linter.unusedVariables false
set_option linter.unusedSimpArgs false
set_option maxRecDepth 100000
set_option maxHeartbeats 16000000
namespace Go.Proofs.YtldccnbokbieiaaGreat
open Go.Am Go.Sha Go.Ec
abbrev pZ:Int:=115792089237316195423570985008687907853269984665640564039457584007908834671663
theorem P6:(pP:Int)=pZ:=by rw [aaa];rfl
def FV (l:List Int):F:=icF pP (V l)
theorem E5 (l:List Int):(((FV l).val:Nat):Int)=V l % pZ:=by unfold FV;rw [Vv,P6]
theorem Vw {a b:F} (h:((a.val:Nat):Int)=((b.val:Nat):Int)):a=b:=UN h
theorem alj {a b:List Int} (h:V a % pZ=V b % pZ):FV a=FV b:=Vw (by rw [E5,E5,h])
theorem aab {a b:List Int} (ha:Wn 4 a) (hb:Wn 4 b) (h1:V a<pZ) (h2:V b<pZ) (h:FV a=FV b):a=b:=by
 have e:=congrArg (fun x:F=>((x.val:Nat):Int)) h;simp only [E5] at e;have:=(E9 ha).1;have:=(E9 hb).1;rw [Int.emod_eq_of_lt aa h1,Int.emod_eq_of_lt aa h2] at e;exact YL ha hb e
theorem alk {r a b:List Int} (h:V r=(V a*V b) % pZ):V r<pZ∧FV r=FV a*FV b:=by
 refine ⟨by rw [h];exact Int.emod_lt_of_pos _ (by decide),Vw ?_⟩;rw [E5,Yk,Int.natCast_emod,Int.natCast_mul,E5,E5,P6,h,Int.emod_emod,← Int.mul_emod]
theorem alm {r a b:List Int} (h:V r=(V a+V b) % pZ):V r<pZ∧FV r=FV a+FV b:=by
 refine ⟨by rw [h];exact Int.emod_lt_of_pos _ (by decide),Vw ?_⟩;rw [E5,aiD,Int.natCast_emod,Int.natCast_add,E5,E5,P6,h,Int.emod_emod,← Int.add_emod]
theorem aiF {a b c:F} (h:c+b=a):c=a - b:=by grobner
theorem aln {r a b:List Int} (h:V r=(V a - V b) % pZ):V r<pZ∧FV r=FV a - FV b:=by
 refine ⟨by rw [h];exact Int.emod_lt_of_pos _ (by decide),aiF (Vw ?_)⟩;rw [aiD,Int.natCast_emod,Int.natCast_add,E5,E5,E5,P6,h,Int.emod_emod,← Int.add_emod];congr 1;omega
theorem WO:FV zI=0:=by
 refine Vw ?_;rw [E5];have:V zI=0:=by simp [V,zI]
 rw [this];rfl
theorem Q9 {a:List Int} (ha:Wn 4 a) (h:V a<pZ):FV a=0 ↔ a=zI:=by
 have hz:V zI=0:=by simp [V,zI]
 have hz2:V zI<pZ:=by rw [hz];decide
 exact ⟨fun h0=>aab ha F9 h hz2 (by rw [h0,WO]),fun h0=>by rw [h0,WO]⟩
theorem Yl (k:Nat) (hk:(k:Int)<18446744073709551616):FV [(k:Int),0,0,0]=Fin.ofNat pP k:=by
 have:V [(k:Int),0,0,0]=(k:Int):=by simp [V]
 unfold FV;rw [this];exact RZ k
theorem arx {r a:List Int} {k:Nat} (hk:k=pP - 2) (h:V r=V a ^ k % pZ):V r<pZ∧FV r=fd.inv (FV a):=by
 refine ⟨by rw [h];exact Int.emod_lt_of_pos _ (by decide),Vw ?_⟩;have e:fd.inv (FV a)=⟨(FV a).val ^ (pP - 2) % pP,Nat.mod_lt _ (by have:=aog;omega)⟩:=rfl;rw [e,← hk];show _=((((FV a).val ^ k % pP:Nat)):Int);rw [E5,h,Int.emod_emod,Int.natCast_emod,Int.natCast_pow,E5,P6]
 have pm:∀ (x m:Int) (k:Nat),x ^ k % m=(x % m) ^ k % m:=by
  intro x m k
  induction k with
  | zero=>rw [Int.pow_zero,Int.pow_zero]
  | succ k ih=>rw [Int.pow_succ,Int.pow_succ,Int.mul_emod,ih,Int.mul_emod ((x % m) ^ k),Int.emod_emod]
 exact pm _ _ _
theorem Q4 (a b:List Int) (ha:Wn 4 a) (hb:Wn 4 b):∃ r,Wn 4 r∧(V r<pZ∧FV r=FV a*FV b)∧W2 205 a b r:=by
 obtain ⟨r,h1,h2,h3⟩:=acC a b ha hb;exact ⟨r,h1,alk h2,h3⟩
theorem at5 (a b:List Int) (ha:Wn 4 a) (hb:Wn 4 b):∃ r,Wn 4 r∧(V r<pZ∧FV r=FV a+FV b)∧W2 208 a b r:=by
 obtain ⟨r,h1,h2,h3⟩:=an1 a b ha hb;exact ⟨r,h1,alm h2,h3⟩
theorem XA (a b:List Int) (ha:Wn 4 a) (hb:Wn 4 b):∃ r,Wn 4 r∧(V r<pZ∧FV r=FV a - FV b)∧W2 213 a b r:=by
 obtain ⟨r,h1,h2,h3⟩:=ahb a b ha hb;exact ⟨r,h1,aln h2,h3⟩
theorem at6 (a:List Int) (ha:Wn 4 a):∃ r,Wn 4 r∧(V r<pZ∧FV r=fd.inv (FV a))∧W1 216 a r:=by
 obtain ⟨r,h1,h2,h3⟩:=an9 a ha;exact ⟨r,h1,arx (by rw [aaa]) h2,h3⟩
def PV (x y:List Int) (b:Bool):Pt pP:=if b then none else some (FV x,FV y)
def J7 (x y:List Int) (b:Bool):Prop:=(b=true∧x=zI∧y=zI) ∨ (b=false∧V x<pZ∧V y<pZ∧FV y*FV y=FV x*FV x*FV x+7)
theorem S3 {x y:List Int} {b:Bool} (h:J7 x y b):Rz (PV x y b):=by
 rcases h with ⟨rfl,_,_⟩ | ⟨rfl,_,_,h⟩
 ·trivial
 ·exact h
theorem Vx:J7 zI zI true:=.inl ⟨rfl,rfl,rfl⟩
theorem alo:PV zI zI true=none:=rfl
noncomputable def JV (x y z:List Int):Pt pP:=Xy fd (FV x) (FV y) (FV z)
def Ym (x y z:List Int):Prop:=(V x<pZ∧V y<pZ∧V z<pZ)∧Rz (JV x y z)
theorem aac (x:Int):∀ v,v ∈ [AV.d (.int .u64 x)]→v.deep:=by
 intro v hv;simp at hv;subst hv;trivial
theorem aho {a:List Int} (ha:Wn 4 a):(a.map Int.toNat).length=4∧cI a=cW (a.map Int.toNat):=by
 refine ⟨by simp [ha.1],?_⟩;unfold cI cW;rw [List.map_map];refine List.map_congr_left fun x hx=>?_;have:=(ha.2 x hx).1;simp only [Function.comp_apply];rw [Int.toNat_of_nonneg this]
theorem at7 {a b:List Int} (ha:Wn 4 a) (hb:Wn 4 b):Yg (a.map Int.toNat) (b.map Int.toNat) 4<0 ↔ V a<V b:=by
 obtain ⟨a0,a1,a2,a3,rfl,h0,h1,h2,h3⟩:=Q3 ha;obtain ⟨b0,b1,b2,b3,rfl,k0,k1,k2,k3⟩:=Q3 hb;unfold F7 at *;rw [V4,V4];have g0:∀ w x y z:Nat,[w,x,y,z].getD 0 0=w:=fun _ _ _ _=>rfl;have g1:∀ w x y z:Nat,[w,x,y,z].getD 1 0=x:=fun _ _ _ _=>rfl;have g2:∀ w x y z:Nat,[w,x,y,z].getD 2 0=y:=fun _ _ _ _=>rfl;have g3:∀ w x y z:Nat,[w,x,y,z].getD 3 0=z:=fun _ _ _ _=>rfl;simp only [List.map_cons,List.map_nil,Yg,g0,g1,g2,g3]
 repeat' split
 all_goals omega
theorem ahp (a b:List Int) (ha:Wn 4 a) (hb:Wn 4 b):∃ c:Int,(c<0 ↔ V a<V b)∧d9 Tryz.prog 200 [.agg (cI a),.agg (cI b)] (fun r=>r=.d (.int .i64 c)):=by
 obtain ⟨hl,e1⟩:=aho ha;obtain ⟨hm,e2⟩:=aho hb;rw [e1,e2];exact ⟨_,at7 ha hb,aq4 _ _ hl hm⟩
theorem Vy (a:List Int) (ha:Wn 4 a):∃ r,Wn 4 r∧(V r<pZ∧FV r=FV a*FV a)∧W1 209 a r:=by
 obtain ⟨r,hr,vr,f1⟩:=Q4 a a ha ha;unfold W2 at f1;have hal:=ha.1;have hrl:=hr.1;have hz:List.drop 4 (cI zI)=[]:=d7 rfl;refine ⟨r,hr,vr,?_⟩;unfold W1;refine s8 Tryz.func209 Tryz.ntmps209 (rs:=[.cell 2 160]) (j9 a) ?_;simp [go_sem,hal,a8 hal];refine a9 f1 (c7 _ _) ?_;simp [go_sem,hrl,a8 hrl,hz,d6];exact z8 rfl
theorem aen (a:List Int) (ha:Wn 4 a):∃ r,Wn 4 r∧(V r<pZ∧FV r=FV a*FV a*FV a+7)∧W1 164 a r:=by
 obtain ⟨s,hs,vs,f1⟩:=Vy a ha;obtain ⟨m,hm,vm,f2⟩:=Q4 s a hs ha;obtain ⟨r,hr,vr,f3⟩:=at5 m [7,0,0,0] hm (G4 ⟨aa,aa⟩);have v7:FV [7,0,0,0]=7:=Yl 7 aa;rw [v7,vm.2,vs.2] at vr;unfold W1 at f1;unfold W2 at f2 f3;have hal:=ha.1;have hrl:=hr.1;have hz:List.drop 4 (cI zI)=[]:=d7 rfl;refine ⟨r,hr,vr,?_⟩;unfold W1;refine s8 Tryz.func164 Tryz.ntmps164 (rs:=[.cell 2 160]) (j9 a) ?_;simp [go_sem,hal,a8 hal];refine B3 [0,2] [1,3,4,5,6] [0,2] (ah 1 (ag [3,4,5,6])) ⟨[(2,.ptr 32 0 0 1)],[(32,⟨160,4,[cI r]⟩)],9000⟩ (k:=7) ?h3 ?hq
 case h3 =>
  intro G hG
  have hW:∀ (fr:Fr) (hp:Hp),(fv 2 fr=.ptr 32 0 0 1∧lk 32 hp=some ⟨160,4,[cI r]⟩)→G fr hp:=by
   rintro fr hp ⟨q0,q1⟩;refine hG _ _ (G2 ?_);simp only [m6,c6];refine ⟨fun p hp=>?_,fun p hp=>?_,ab⟩
   ·simp only [List.mem_cons,List.mem_nil_iff,or_false] at hp;subst hp;exact ⟨.inl q0.symm,by simp [AV.low,AV.low1]⟩
   ·simp only [List.mem_cons,List.mem_nil_iff,or_false] at hp;subst hp;exact ⟨.inl q1,ab,by intro r hr;simp only [List.mem_cons,List.mem_nil_iff,or_false] at hr;subst hr;exact o5 _ _⟩
  simp [go_sem,hal,a8 hal,hrl,a8 hrl,hz,y9]
  repeat' first | exact hW _ _ ⟨rfl,rfl⟩ | (refine hW _ _ ?_;simp [fv,lk];done) | refine a9 f1 (j9 _) ?_ | refine a9 f2 (c7 _ _) ?_ | refine a9 f3 (c7 _ _) ?_ | refine a9 (M2 7) (aac _) ?_ | apply And.intro | simp [go_sem,hal,a8 hal,hrl,a8 hrl,hz,y9]
 case hq =>
  simp [go_sem,hrl,a8 hrl,d6];exact z8 rfl
theorem aad (a:List Int) (ha:Wn 4 a):∃ b:Bool,(b=true ↔ V a<pZ)∧d9 Tryz.prog 161 [.agg (cI a)] (fun r=>r=.d (.bool b)):=by
 obtain ⟨c,vc,f1⟩:=ahp a V6 ha Wv;have vp:V V6=pZ:=by simp [V,V6]
 rw [vp] at vc;have hal:=ha.1;refine ⟨decide (c<0),by rw [decide_eq_true_iff];exact vc,?_⟩;refine s8 Tryz.func161 Tryz.ntmps161 (rs:=[.tmp 2]) (j9 a) ?_;simp [go_sem,hal,a8 hal];refine z6 [0] [(1,[]),(2,[3,4])] 2 (k:=5) ?_;intro G hG;simp [go_sem,hal,a8 hal];refine a9 S9 ab ?_;simp [go_sem];refine a9 f1 (c7 _ _) ?_;simp [go_sem,y9];refine hG _ _ ?_;simp [go_sem,d6];exact b7 ae rfl
def cP (x y:List Int) (b:Bool):List AV:=cI x ++ (cI y ++ [.d (.bool b)])
theorem o6 {x y:List Int} (hx:x.length=4) (hy:y.length=4) (b:Bool):(cP x y b).length=9:=by simp [cP,I2,hx,hy]
theorem rC {x y:List Int} (hx:x.length=4) (hy:y.length=4) (b:Bool):(cP x y b).take 9=cP x y b:=List.take_of_length_le (by rw [o6 hx hy];omega)
theorem K1 {x y:List Int} (hx:x.length=4) (hy:y.length=4) (b:Bool):(cP x y b).drop 9=[]:=List.drop_eq_nil_of_le (by rw [o6 hx hy];omega)
theorem aeo {x y:List Int} (hx:x.length=4) (b:Bool):(cP x y b).take 4=cI x:=by
 unfold cP;rw [List.take_append_of_le_length (by rw [I2];omega),a8 hx]
theorem aiG {x y:List Int} (hx:x.length=4) (hy:y.length=4) (b:Bool):((cP x y b).drop 4).take 4=cI y:=by
 unfold cP;rw [List.drop_append_of_le_length (by rw [I2];omega),d7 hx,List.nil_append,List.take_append_of_le_length (by rw [I2];omega),a8 hy]
theorem Ve {x y:List Int} (hx:x.length=4) (hy:y.length=4) (b:Bool):(cP x y b)[8]?=some (.d (.bool b)):=by
 unfold cP;rw [List.getElem?_append_right (by rw [I2];omega),List.getElem?_append_right (by simp only [I2];omega)];simp [I2,hx,hy]
theorem Vz {x y:List Int} (hx:x.length=4) (hy:y.length=4) (b:Bool) (h:8<(cP x y b).length):(cP x y b)[8]=.d (.bool b):=(List.getElem?_eq_some_iff.1 (Ve hx hy b)).2
theorem UO (x y:List Int) (b:Bool):(AV.agg (cP x y b)).deep:=by
 intro v hv;unfold cP at hv;rcases List.mem_append.1 hv with hv | hv
 ·exact Sp _ v hv
 ·rcases List.mem_append.1 hv with hv | hv
  ·exact Sp _ v hv
  ·simp at hv;subst hv;trivial
theorem A4 (x y:List Int) (b:Bool):∀ v,v ∈ [AV.agg (cP x y b)]→v.deep:=by
 intro v hv;simp at hv;subst hv;exact UO _ _ _
theorem SN (n:Nat) (x y:List Int) (b:Bool):∀ v,v ∈ cP x y b→v.low1 n:=by
 intro v hv;unfold cP at hv;rcases List.mem_append.1 hv with hv | hv
 ·exact o5 _ _ v hv
 ·rcases List.mem_append.1 hv with hv | hv
  ·exact o5 _ _ v hv
  ·simp at hv;subst hv;trivial
theorem K5 {Q:AV→Prop} {st:St} {x y:List Int} {b:Bool} (hq:Q (.agg (cP x y b))):K9 Q (.agg (cP x y b)) st:=b7 (UO _ _ _) hq
theorem zzP:P2 Tryz.prog 162=some (cP zI zI false):=by kernel_rfl
attribute [go_sem] zzP
theorem S4:d9 Tryz.prog 162 [] (fun r=>r=.agg (cP zI zI true)):=by
 refine s8 Tryz.func162 Tryz.ntmps162 (rs:=[.cell 0 162]) ae ?_;simp [go_sem,cP,cI,zI,d6];exact K5 (x:=zI) (y:=zI) (b:=true) rfl
def lP (x y:List Int) (b:Bool):List L1:=x.map (L1.i .u64) ++ (y.map (L1.i .u64) ++ [L1.b b])
theorem alp:∀ (x:List Int) (r:List AV),L3 (cI x ++ r)=(L3 r).map (x.map (L1.i .u64) ++ ·)
 | [],r=>by simp [cI]
 | a :: l,r=>by
  have ih:=alp l r;show L3 (.d (.int .u64 a) :: (cI l ++ r))=_;have e:L3 (.d (.int .u64 a) :: (cI l ++ r))=(L3 (cI l ++ r)).map (L1.i .u64 a :: ·):=rfl;rw [e,ih,Option.map_map];rfl
theorem Zf (x y:List Int) (b:Bool):L3 (cP x y b)=some (lP x y b):=by
 unfold cP;rw [alp,alp];rfl
theorem ksP:J2 Tryz.prog 8 162=some (List.replicate 8 (some .u64) ++ [none]):=by kernel_rfl
theorem acO {x y:List Int} (hx:x.length=4) (hy:y.length=4) (b:Bool):J2 Tryz.prog 8 162=some ((lP x y b).map L1.k):=by
 rw [ksP]
 match x,y,hx,hy with
 | [a,b,c,d],[e,f,g,h],_,_=>rfl
theorem egP:Tryz.prog.eqGuardType Tryz.prog.depth 162=false:=by kernel_rfl
theorem at8 (x y:List Int) (b:Bool) (hx:Wn 4 x) (hy:Wn 4 y):∃ c:Bool,(c=true ↔ J7 x y b)∧d9 Tryz.prog 211 [.agg (cP x y b)] (fun r=>r=.d (.bool c)):=by
 have hxl:=hx.1;have hyl:=hy.1
 cases b
 ·obtain ⟨b1,vb1,f1⟩:=aad x hx;obtain ⟨b2,vb2,f2⟩:=aad y hy;obtain ⟨s,hs,vs,f3⟩:=Vy y hy;obtain ⟨r,hr,vr,f4⟩:=aen x hx;unfold W1 at f3 f4;have hsl:=hs.1;have hrl:=hr.1;have e1:∀ c:Bool,(cP x y c).take 4=cI x:=aeo hxl;have e2:∀ c:Bool,((cP x y c).drop 4).take 4=cI y:=aiG hxl hyl
  have hv:(b1 && (b2 && decide (s=r)))=true ↔ J7 x y false:=by
   rw [Bool.and_eq_true,Bool.and_eq_true,decide_eq_true_iff,vb1,vb2];refine ⟨fun ⟨h1,h2,h3⟩=>.inr ⟨rfl,h1,h2,by rw [← vs.2,h3,vr.2]⟩,fun h=>?_⟩;rcases h with ⟨h,_⟩ | ⟨_,h1,h2,h3⟩
   ·cases h
   ·exact ⟨h1,h2,aab hs hr vs.1 vr.1 (by rw [vs.2,vr.2,h3])⟩
  refine ⟨b1 && (b2 && decide (s=r)),hv,?_⟩;refine s8 Tryz.func211 Tryz.ntmps211 (rs:=[.tmp 2]) (A4 _ _ _) ?_;simp [go_sem,o6 hxl hyl,rC hxl hyl,Ve hxl hyl,Vz hxl hyl]
  cases b1
  ·skip;refine z6 [0,1] [(2,[3,4,5]),(6,[7,8,9,10,12,13]),(11,[]),(14,[15,16,17])] 4 (k:=18) ?_;intro G hG;simp [go_sem,o6 hxl hyl,e1,e2];refine a9 f1 (j9 _) ?_;simp [go_sem,y9];refine hG _ _ ?_;simp [go_sem,d6];exact b7 ae rfl
  ·cases b2
   ·skip;refine z6 [0,1] [(2,[3,4,5]),(6,[7,8,9,10,12,13]),(11,[]),(14,[15,16,17])] 4 (k:=18) ?_;intro G hG;simp [go_sem,o6 hxl hyl,e1,e2];refine a9 f1 (j9 _) ?_;simp [go_sem,o6 hxl hyl,e1,e2,y9];refine a9 f2 (j9 _) ?_;simp [go_sem,y9];refine hG _ _ ?_;simp [go_sem,d6];exact b7 ae rfl
   ·skip;refine z6 [0,1] [(2,[3,4,5]),(6,[7,8,9,10,12,13]),(11,[]),(14,[15,16,17])] 4 (k:=18) ?_;intro G hG;simp [go_sem,o6 hxl hyl,e1,e2];refine a9 f1 (j9 _) ?_;simp [go_sem,o6 hxl hyl,e1,e2,y9];refine a9 f2 (j9 _) ?_;simp [go_sem,o6 hxl hyl,e1,e2,y9];refine a9 f3 (j9 _) ?_;simp [go_sem,o6 hxl hyl,e1,e2,y9];refine a9 f4 (j9 _) ?_;simp [go_sem,x7,hsl,hrl,y9];refine hG _ _ ?_;simp [go_sem,d6];exact b7 ae rfl
 ·have hv:decide (lP x y true=lP zI zI true)=true ↔ J7 x y true:=by
   rw [decide_eq_true_iff];refine ⟨fun h=>.inl ⟨rfl,?_⟩,fun h=>?_⟩
   ·match x,y,hxl,hyl with
    | [a,b,c,d],[e,f,g,i],_,_ =>
     simp [lP,zI] at h;obtain ⟨rfl,rfl,rfl,rfl,rfl,rfl,rfl,rfl⟩:=h;exact ⟨rfl,rfl⟩
   ·rcases h with ⟨_,rfl,rfl⟩ | ⟨h,_⟩
    ·rfl
    ·cases h
  refine ⟨decide (lP x y true=lP zI zI true),hv,?_⟩;refine s8 Tryz.func211 Tryz.ntmps211 (rs:=[.tmp 2]) (A4 _ _ _) ?_;simp [go_sem,o6 hxl hyl,rC hxl hyl,Ve hxl hyl,Vz hxl hyl];refine z6 [0] [(1,[2,3])] 1 (k:=4) ?_;intro G hG;simp [go_sem,o6 hxl hyl,rC hxl hyl];refine a9 S4 ab ?_;have k1:=acO hxl hyl true;have k2:=acO (x:=zI) (y:=zI) rfl rfl true;have l1:=Zf x y true;have l2:=Zf zI zI true;generalize lP x y true=u at *;generalize lP zI zI true=v at *;simp [go_sem,l1,l2,egP,y9]
  first | refine ⟨k1,k2,hG _ _ ?_⟩ | refine ⟨k1,hG _ _ ?_⟩
  simp [go_sem,d6];exact b7 ae rfl
theorem XB (x y:List Int) (b:Bool) (hx:Wn 4 x) (hy:Wn 4 y):∃ (u v:List Int) (c:Bool),Wn 4 u∧Wn 4 v∧(J7 u v c∧(J7 x y b→u=x∧v=y∧c=b)∧(¬ J7 x y b→u=zI∧v=zI∧c=true))∧d9 Tryz.prog 168 [.agg (cP x y b)] (fun r=>r=.agg (cP u v c)):=by
 obtain ⟨o,vo,f1⟩:=at8 x y b hx hy;have hxl:=hx.1;have hyl:=hy.1;have zd:(cP zI zI false).drop 9=[]:=K1 rfl rfl _;have zl:(cP zI zI true).length=9:=rfl;have zt:(cP zI zI true).take 9=cP zI zI true:=rC rfl rfl _;have zl2:(cP zI zI false).length=9:=rfl
 cases o
 ·refine ⟨zI,zI,true,F9,F9,⟨Vx,fun h=>absurd (vo.2 h) (by decide),fun _=>⟨rfl,rfl,rfl⟩⟩,?_⟩;refine s8 Tryz.func168 Tryz.ntmps168 (rs:=[.cell 2 162]) (A4 _ _ _) ?_;simp [go_sem,o6 hxl hyl,rC hxl hyl];refine a9 f1 (A4 _ _ _) ?_;simp [go_sem];refine a9 S4 ab ?_;simp [go_sem,zl,zt,zd,zl2,d6];exact K5 rfl
 ·refine ⟨x,y,b,hx,hy,⟨vo.1 rfl,fun _=>⟨rfl,rfl,rfl⟩,fun h=>absurd (vo.1 rfl) h⟩,?_⟩;refine s8 Tryz.func168 Tryz.ntmps168 (rs:=[.cell 2 162]) (A4 _ _ _) ?_;simp [go_sem,o6 hxl hyl,rC hxl hyl];refine a9 f1 (A4 _ _ _) ?_;simp [go_sem,o6 hxl hyl,rC hxl hyl,zd,zl2,d6];exact K5 rfl
def cV (x y z:List Int):List AV:=cI x ++ (cI y ++ cI z)
theorem A5 {x y z:List Int} (hx:x.length=4) (hy:y.length=4) (hz:z.length=4):(cV x y z).length=12:=by simp [cV,I2,hx,hy,hz]
theorem x8 {x y z:List Int} (hx:x.length=4) (hy:y.length=4) (hz:z.length=4):(cV x y z).take 12=cV x y z:=List.take_of_length_le (by rw [A5 hx hy hz];omega)
theorem M9 {x y z:List Int} (hx:x.length=4) (hy:y.length=4) (hz:z.length=4):(cV x y z).drop 12=[]:=List.drop_eq_nil_of_le (by rw [A5 hx hy hz];omega)
theorem acP {x y z:List Int} (hx:x.length=4):(cV x y z).take 4=cI x:=by
 unfold cV;rw [List.take_append_of_le_length (by rw [I2];omega),a8 hx]
theorem acQ {x y z:List Int} (hx:x.length=4) (hy:y.length=4):((cV x y z).drop 4).take 4=cI y:=by
 unfold cV;rw [List.drop_append_of_le_length (by rw [I2];omega),d7 hx,List.nil_append,List.take_append_of_le_length (by rw [I2];omega),a8 hy]
theorem Y5 {x y z:List Int} (hx:x.length=4) (hy:y.length=4) (hz:z.length=4):((cV x y z).drop 8).take 4=cI z:=by
 have e:cV x y z=(cI x ++ cI y) ++ cI z:=by simp [cV]
 rw [e,List.drop_append_of_le_length (by simp [I2,hx,hy]),List.drop_eq_nil_of_le (by simp [I2,hx,hy]),List.nil_append,a8 hz]
theorem V9 (x y z:List Int):(AV.agg (cV x y z)).deep:=by
 intro v hv;unfold cV at hv;rcases List.mem_append.1 hv with hv | hv
 ·exact Sp _ v hv
 ·rcases List.mem_append.1 hv with hv | hv
  ·exact Sp _ v hv
  ·exact Sp _ v hv
theorem J8 (x y z:List Int):∀ v,v ∈ [AV.agg (cV x y z)]→v.deep:=by
 intro v hv;simp at hv;subst hv;exact V9 _ _ _
theorem SO (n:Nat) (x y z:List Int):∀ v,v ∈ cV x y z→v.low1 n:=by
 intro v hv;unfold cV at hv;rcases List.mem_append.1 hv with hv | hv
 ·exact o5 _ _ v hv
 ·rcases List.mem_append.1 hv with hv | hv
  ·exact o5 _ _ v hv
  ·exact o5 _ _ v hv
theorem P7 {Q:AV→Prop} {st:St} {x y z:List Int} (hq:Q (.agg (cV x y z))):K9 Q (.agg (cV x y z)) st:=b7 (V9 _ _ _) hq
theorem zzV:P2 Tryz.prog 199=some (cV zI zI zI):=by kernel_rfl
attribute [go_sem] zzV
def I9:List Int:=[1,0,0,0]
theorem Yn:Wn 4 I9:=G4 ⟨aa,aa⟩
theorem Wb (x y z:List Int) (hx:Wn 4 x) (hy:Wn 4 y) (hz:Wn 4 z):d9 Tryz.prog 212 [.agg (cV x y z)] (fun r=>r=.d (.bool (decide (z=zI)))):=by
 have hxl:=hx.1;have hyl:=hy.1;have hzl:=hz.1;refine s8 Tryz.func212 Tryz.ntmps212 (rs:=[.tmp 2]) (J8 _ _ _) ?_;have iz:B8 .u64 [AV.d (.int .u64 0),AV.d (.int .u64 0),AV.d (.int .u64 0),AV.d (.int .u64 0)]=some zI:=x7 zI;simp [go_sem,A5 hxl hyl hzl,x8 hxl hyl hzl,Y5 hxl hyl hzl,x7,iz,hzl,d6];exact b7 ae rfl
theorem abE:V I9=1:=by simp [V,I9]
theorem alq:FV I9=1:=Yl 1 aa
theorem at9:JV I9 I9 zI=none:=by
 show Xy fd (FV I9) (FV I9) (FV zI)=none;rw [WO];exact ael fd _ _
theorem aua:Ym I9 I9 zI:=by
 have hz:V zI=0:=by simp [V,zI]
 refine ⟨⟨by rw [abE];decide,by rw [abE];decide,by rw [hz];decide⟩,by rw [at9];trivial⟩
theorem aep:(1:F) ≠ 0:=fd.one
theorem awm (a:F):a=a*(1*1):=by grobner
theorem aub (a:F):a=a*(1*1*1):=by grobner
theorem ary (x y:List Int):JV x y I9=some (FV x,FV y):=by
 show Xy fd (FV x) (FV y) (FV I9)=_;rw [alq];exact acL fd aep (awm _) (aub _)
theorem aom {x y:List Int} (h:J7 x y false):Ym x y I9∧JV x y I9=PV x y false:=by
 have e:JV x y I9=PV x y false:=ary x y;have ho:=S3 h;rcases h with ⟨h,_⟩ | ⟨_,h1,h2,_⟩
 ·cases h
 ·exact ⟨⟨⟨h1,h2,by rw [abE];decide⟩,by rw [e];exact ho⟩,e⟩
theorem mkV {x y:List Int} (hx:x.length=4) (hy:y.length=4):List.take 8 (cI x ++ (cI y ++ List.drop 8 (cI x ++ [AV.d (.int .u64 0),AV.d (.int .u64 0),AV.d (.int .u64 0),AV.d (.int .u64 0),AV.d (.int .u64 0),AV.d (.int .u64 0),AV.d (.int .u64 0),AV.d (.int .u64 0)]))) ++ (cI [1,0,0,0] ++ List.drop 12 (cI x ++ (cI y ++ List.drop 8 (cI x ++ [AV.d (.int .u64 0),AV.d (.int .u64 0),AV.d (.int .u64 0),AV.d (.int .u64 0),AV.d (.int .u64 0),AV.d (.int .u64 0),AV.d (.int .u64 0),AV.d (.int .u64 0)]))))=cV x y I9:=by
 match x,y,hx,hy with
 | [a,b,c,d],[e,f,g,h],_,_=>rfl
theorem VA (x y:List Int) (b:Bool) (hx:Wn 4 x) (hy:Wn 4 y):∃ (u v w:List Int),Wn 4 u∧Wn 4 v∧Wn 4 w∧(J7 x y b→Ym u v w∧JV u v w=PV x y b)∧d9 Tryz.prog 167 [.agg (cP x y b)] (fun r=>r=.agg (cV u v w)):=by
 have hxl:=hx.1;have hyl:=hy.1
 cases b
 ·refine ⟨x,y,I9,hx,hy,Yn,aom,?_⟩;refine s8 Tryz.func167 Tryz.ntmps167 (rs:=[.cell 2 199]) (A4 _ _ _) ?_;have e1:∀ c:Bool,(cP x y c).take 4=cI x:=aeo hxl;have e2:∀ c:Bool,((cP x y c).drop 4).take 4=cI y:=aiG hxl hyl;simp [go_sem,o6 hxl hyl,rC hxl hyl,Ve hxl hyl,Vz hxl hyl];refine z6 [0,1,2,3] [(4,[5]),(6,[])] 1 (k:=7) ?_;intro G hG;simp [go_sem,o6 hxl hyl,e1,e2];refine a9 (M2 1) (aac _) ?_;simp [go_sem,hxl,hyl];rw [mkV hxl hyl];refine hG _ _ ?_;have ol:I9.length=4:=rfl;simp [go_sem,A5 hxl hyl ol,x8 hxl hyl ol,d6];exact P7 rfl
 ·refine ⟨I9,I9,zI,Yn,Yn,F9,fun _=>⟨aua,at9⟩,?_⟩;refine s8 Tryz.func167 Tryz.ntmps167 (rs:=[.cell 2 199]) (A4 _ _ _) ?_;simp [go_sem,o6 hxl hyl,rC hxl hyl,Ve hxl hyl,Vz hxl hyl];refine a9 (M2 1) (aac _) ?_;simp [go_sem];refine a9 (M2 1) (aac _) ?_;simp [go_sem,d6];exact P7 (x:=I9) (y:=I9) (z:=zI) rfl
theorem UP (c:Int) (a:List Int):∀ v,v ∈ [AV.d (.int .u64 c),AV.agg (cI a)]→v.deep:=by
 intro v hv;simp at hv;rcases hv with rfl | rfl;trivial;exact M1 _
theorem Uj (n:Int) (a:List Int) (hn:F7 n) (ha:Wn 4 a):∃ r,Wn 4 r∧(V r<pZ∧FV r=FV [n,0,0,0]*FV a)∧d9 Tryz.prog 214 [.d (.int .u64 n),.agg (cI a)] (fun x=>x=.agg (cI r)):=by
 obtain ⟨r,hr,vr,f1⟩:=Q4 [n,0,0,0] a (G4 hn) ha;unfold W2 at f1;have hal:=ha.1;have hrl:=hr.1;have hz:List.drop 4 (cI zI)=[]:=d7 rfl;refine ⟨r,hr,vr,?_⟩;refine s8 Tryz.func214 Tryz.ntmps214 (rs:=[.cell 4 160]) (UP _ _) ?_;simp [go_sem,hal,a8 hal];refine B3 [0,2] [1,3,4] [0,2] (ah 1 (ag [3,4])) ⟨[(4,.ptr 32 0 0 1)],[(32,⟨160,4,[cI r]⟩)],9000⟩ (k:=5) ?h3 ?hq
 case h3 =>
  intro G hG
  have hW:∀ (fr:Fr) (hp:Hp),(fv 4 fr=.ptr 32 0 0 1∧lk 32 hp=some ⟨160,4,[cI r]⟩)→G fr hp:=by
   rintro fr hp ⟨q0,q1⟩;exact hG _ _ Q6
  simp [go_sem,hal,a8 hal,hrl,a8 hrl,hz,y9]
  repeat' first | exact hW _ _ ⟨rfl,rfl⟩ | (refine hW _ _ ?_;simp [fv,lk];done) | refine a9 (M2 n) (aac _) ?_ | refine a9 f1 (c7 _ _) ?_ | apply And.intro | simp [go_sem,hal,a8 hal,hrl,a8 hrl,hz,y9]
 case hq =>
  simp [go_sem,hrl,a8 hrl,d6];exact z8 rfl
theorem mk8 {x y:List Int} (hx:x.length=4) (hy:y.length=4):List.take 8 (cI x ++ (cI y ++ List.drop 8 (cI x ++ [AV.d (.int .u64 0),AV.d (.int .u64 0),AV.d (.int .u64 0),AV.d (.int .u64 0),AV.d (.int .u64 0),AV.d (.int .u64 0),AV.d (.int .u64 0),AV.d (.int .u64 0)])))=cI x ++ cI y:=by
 match x,y,hx,hy with
 | [a,b,c,d],[e,f,g,h],_,_=>rfl
theorem aon {x y:List Int} (hx:x.length=4) (hy:y.length=4):List.drop 12 (cI x ++ (cI y ++ List.drop 8 (cI x ++ [AV.d (.int .u64 0),AV.d (.int .u64 0),AV.d (.int .u64 0),AV.d (.int .u64 0),AV.d (.int .u64 0),AV.d (.int .u64 0),AV.d (.int .u64 0),AV.d (.int .u64 0)])))=[]:=by
 match x,y,hx,hy with
 | [a,b,c,d],[e,f,g,h],_,_=>rfl
theorem aae (x y z:List Int) (hx:Wn 4 x) (hy:Wn 4 y) (hz:Wn 4 z):∃ (u v w:List Int),Wn 4 u∧Wn 4 v∧Wn 4 w∧(Ym x y z→Ym u v w∧JV u v w=sum fd (JV x y z) (JV x y z))∧d9 Tryz.prog 171 [.agg (cV x y z)] (fun r=>r=.agg (cV u v w)):=by
 obtain ⟨y2,h1,g1,f1⟩:=Vy y hy;obtain ⟨m1,h2,g2,f2⟩:=Q4 x y2 hx h1;obtain ⟨s,h3,g3,f3⟩:=Uj 4 m1 ⟨aa,aa⟩ h2;obtain ⟨x2,h4,g4,f4⟩:=Vy x hx;obtain ⟨m,h5,g5,f5⟩:=Uj 3 x2 ⟨aa,aa⟩ h4;obtain ⟨m2,h6,g6,f6⟩:=Vy m h5;obtain ⟨s2,h7,g7,f7⟩:=Uj 2 s ⟨aa,aa⟩ h3;obtain ⟨X,h8,g8,f8⟩:=XA m2 s2 h6 h7;obtain ⟨d,h9,g9,f9⟩:=XA s X h3 h8;obtain ⟨e,h10,g10,f10⟩:=Q4 m d h5 h9;obtain ⟨y4,h11,g11,f11⟩:=Vy y2 h1;obtain ⟨y8,h12,g12,f12⟩:=Uj 8 y4 ⟨aa,aa⟩ h11;obtain ⟨Y,h13,g13,f13⟩:=XA e y8 h10 h12;obtain ⟨yz,h14,g14,f14⟩:=Q4 y z hy hz;obtain ⟨Z,h15,g15,f15⟩:=Uj 2 yz ⟨aa,aa⟩ h14;obtain ⟨wu,wv,ww,h16,h17,h18,g16,f16⟩:=VA zI zI true F9 F9;unfold W1 at f1 f4 f6 f11;unfold W2 at f2 f8 f9 f10 f13 f14;have l1:=h1.1;have l2:=h2.1;have l3:=h3.1;have l4:=h4.1;have l5:=h5.1;have l6:=h6.1;have l7:=h7.1;have l8:=h8.1;have l9:=h9.1;have l10:=h10.1;have l11:=h11.1;have l12:=h12.1;have l13:=h13.1;have l14:=h14.1;have l15:=h15.1;have l16:=h16.1;have l17:=h17.1;have l18:=h18.1;have hxl:=hx.1;have hyl:=hy.1;have hzl:=hz.1;have z4:List.drop 4 (cI zI)=[]:=d7 rfl;have vl:=A5 hxl hyl hzl;have vt:=x8 hxl hyl hzl;have v1:(cV x y z).take 4=cI x:=acP hxl;have v2:=acQ (z:=z) hxl hyl;have v3:=Y5 hxl hyl hzl;have iz:B8 .u64 [AV.d (.int .u64 0),AV.d (.int .u64 0),AV.d (.int .u64 0),AV.d (.int .u64 0)]=some zI:=x7 zI;have f0:=Wb x y z hx hy hz;have wd:(cV zI zI zI).drop 12=[]:=M9 rfl rfl rfl;have wl:(cV zI zI zI).length=12:=rfl;have ul:=A5 l16 l17 l18;have ut:=x8 l16 l17 l18;by_cases q0:z=zI ∨ y=zI
 ·have vv:Ym x y z→Ym wu wv ww∧JV wu wv ww=sum fd (JV x y z) (JV x y z):=by
   intro hj;obtain ⟨k1,k2⟩:=g16 Vx;rcases q0 with q | q
   ·have e:JV x y z=none:=by rw [q];show Xy fd _ _ (FV zI)=none;rw [WO];exact ael fd _ _
    exact ⟨k1,by rw [k2,e,alo];exact (J3 fd (Q:=none) True.intro).symm⟩
   ·by_cases q1:z=zI
    ·have e:JV x y z=none:=by rw [q1];show Xy fd _ _ (FV zI)=none;rw [WO];exact ael fd _ _
     exact ⟨k1,by rw [k2,e,alo];exact (J3 fd (Q:=none) True.intro).symm⟩
    ·have hz0:FV z ≠ 0:=fun h=>q1 ((Q9 hz hj.1.2.2).1 h);exact absurd (by rw [q,WO]) (Z8 fd hz0 hj.2).2.1
  refine ⟨wu,wv,ww,h16,h17,h18,vv,?_⟩;refine s8 Tryz.func171 Tryz.ntmps171 (rs:=[.cell 2 199]) (J8 _ _ _) ?_;simp [go_sem,vl,vt];refine a9 f0 (J8 _ _ _) ?_;by_cases q1:z=zI
  ·simp [go_sem,q1];refine a9 S4 ab ?_;simp [go_sem];refine a9 f16 (A4 _ _ _) ?_;simp [go_sem,ul,ut,wd,wl,d6];exact P7 rfl
  ·have q2:y=zI:=q0.resolve_left q1;simp [go_sem,q1,v2,vl,x7,iz,hyl];refine ⟨fun _=>?_,fun h=>absurd q2 h⟩;refine a9 S4 ab ?_;simp [go_sem];refine a9 f16 (A4 _ _ _) ?_;simp [go_sem,ul,ut,wd,wl,d6];exact P7 rfl
 ·have q1:z ≠ zI:=fun h=>q0 (.inl h);have q2:y ≠ zI:=fun h=>q0 (.inr h)
  have vv:Ym x y z→Ym X Y Z∧JV X Y Z=sum fd (JV x y z) (JV x y z):=by
   intro hj;have hz0:FV z ≠ 0:=fun h=>q1 ((Q9 hz hj.1.2.2).1 h);obtain ⟨_,_,e⟩:=Z8 fd hz0 hj.2;have n2:FV [2,0,0,0]=2:=Yl 2 aa;have n3:FV [3,0,0,0]=3:=Yl 3 aa;have n4:FV [4,0,0,0]=4:=Yl 4 aa;have n8:FV [8,0,0,0]=8:=Yl 8 aa
   have eX:FV X=3*(FV x*FV x)*(3*(FV x*FV x)) - 2*(4*(FV x*(FV y*FV y))):=by
    rw [g8.2,g6.2,g5.2,g4.2,g7.2,g3.2,g2.2,g1.2,n2,n3,n4]
   have eY:FV Y=3*(FV x*FV x)*(4*(FV x*(FV y*FV y)) - (3*(FV x*FV x)*(3*(FV x*FV x)) - 2*(4*(FV x*(FV y*FV y))))) - 8*(FV y*FV y*(FV y*FV y)):=by
    rw [g13.2,g10.2,g9.2,eX,g5.2,g4.2,g3.2,g2.2,g12.2,g11.2,g1.2,n3,n4,n8]
   have eZ:FV Z=2*(FV y*FV z):=by rw [g15.2,g14.2,n2]
   have e2:JV X Y Z=sum fd (JV x y z) (JV x y z):=by
    show Xy fd (FV X) (FV Y) (FV Z)=_;rw [eX,eY,eZ];exact e
   exact ⟨⟨⟨g8.1,g13.1,g15.1⟩,by rw [e2];exact Tt fd hj.2 hj.2⟩,e2⟩
  refine ⟨X,Y,Z,h8,h13,h15,vv,?_⟩;refine s8 Tryz.func171 Tryz.ntmps171 (rs:=[.cell 2 199]) (J8 _ _ _) ?_;simp [go_sem,vl,vt];refine a9 f0 (J8 _ _ _) ?_;simp [go_sem,q1,q2,v2,vl,x7,iz,hyl];refine a9 f1 (j9 _) ?_;simp [go_sem,l1,a8 l1,z4,v1,vl];refine a9 f2 (c7 _ _) ?_;simp [go_sem];refine a9 f3 (UP _ _) ?_;simp [go_sem,l3,a8 l3,z4,v1,vl];refine a9 f4 (j9 _) ?_;simp [go_sem];refine a9 f5 (UP _ _) ?_;simp [go_sem,l5,a8 l5,z4];refine B3 [0,2] [1,3,4,5,6] [0,2] (.alt (ah 1 (.alt (ai 3 (.alt (ag [4,5,6]) (ag [5,4,6]))) (ah 5 (ag [3,4,6])))) (ah 5 (ah 1 (ag [3,4,6])))) ⟨[(1,.ptr 0 0 0 1),(2,.ptr 32 0 0 1),(3,.ptr 416 0 0 1),(4,.ptr 640 0 0 1),(5,.ptr 832 0 0 1),(6,.ptr 1056 0 0 1)],[(1056,⟨160,4,[cI X]⟩),(832,⟨160,4,[cI m]⟩),(640,⟨160,4,[cI s]⟩),(416,⟨160,4,[cI y2]⟩),(32,⟨199,12,[cV zI zI zI]⟩),(0,⟨199,12,[cV x y z]⟩)],9000⟩ (k:=7) ?h3 ?hq
  case h3 =>
   intro G hG
   have hW:∀ (fr:Fr) (hp:Hp),(fv 1 fr=.ptr 0 0 0 1∧fv 2 fr=.ptr 32 0 0 1∧fv 3 fr=.ptr 416 0 0 1∧fv 4 fr=.ptr 640 0 0 1∧fv 5 fr=.ptr 832 0 0 1∧fv 6 fr=.ptr 1056 0 0 1∧lk 1056 hp=some ⟨160,4,[cI X]⟩∧lk 832 hp=some ⟨160,4,[cI m]⟩∧lk 640 hp=some ⟨160,4,[cI s]⟩∧lk 416 hp=some ⟨160,4,[cI y2]⟩∧lk 32 hp=some ⟨199,12,[cV zI zI zI]⟩∧lk 0 hp=some ⟨199,12,[cV x y z]⟩)→G fr hp:=by
    rintro fr hp ⟨q0,q1,q2,q3,q4,q5,q6,q7,q8,q9,q10,q11⟩;exact hG _ _ Q6
   simp [go_sem,l1,l3,l5,l8,l13,a8 l1,a8 l3,a8 l5,a8 l8,a8 l13,z4,y9]
   repeat' first | exact hW _ _ ⟨rfl,rfl,rfl,rfl,rfl,rfl,rfl,rfl,rfl,rfl,rfl,rfl⟩ | (refine hW _ _ ?_;simp [fv,lk];done) | refine a9 f6 (j9 _) ?_ | refine a9 f7 (UP _ _) ?_ | refine a9 f8 (c7 _ _) ?_ | apply And.intro | simp [go_sem,l1,l3,l5,l8,l13,a8 l1,a8 l3,a8 l5,a8 l8,a8 l13,z4,y9]
  case hq =>
   simp [go_sem];refine B3 [0,1,2,5] [3,4,6,7,8,9,10] [0,1,2,5] (.alt (ah 3 (.alt (ah 4 (.alt (ai 6 (.alt (ai 7 (.alt (ag [8,9,10]) (ag [9,8,10]))) (ag [9,7,8,10]))) (ah 9 (ag [6,7,8,10])))) (ah 9 (ah 4 (ag [6,7,8,10]))))) (ah 9 (ah 3 (ah 4 (ag [6,7,8,10]))))) ⟨[(1,.ptr 0 0 0 1),(2,.ptr 32 0 0 1),(3,.ptr 416 0 0 1),(4,.ptr 640 0 0 1),(5,.ptr 832 0 0 1),(6,.ptr 1056 0 0 1),(7,.ptr 9288 0 0 1)],[(9288,⟨160,4,[cI Y]⟩),(1056,⟨160,4,[cI X]⟩),(832,⟨160,4,[cI m]⟩),(640,⟨160,4,[cI s]⟩),(416,⟨160,4,[cI y2]⟩),(32,⟨199,12,[cV zI zI zI]⟩),(0,⟨199,12,[cV x y z]⟩)],20000⟩ (k:=11) ?h3 ?hq
   case h3 =>
    intro G hG
    have hW:∀ (fr:Fr) (hp:Hp),(fv 1 fr=.ptr 0 0 0 1∧fv 2 fr=.ptr 32 0 0 1∧fv 3 fr=.ptr 416 0 0 1∧fv 4 fr=.ptr 640 0 0 1∧fv 5 fr=.ptr 832 0 0 1∧fv 6 fr=.ptr 1056 0 0 1∧fv 7 fr=.ptr 9288 0 0 1∧lk 9288 hp=some ⟨160,4,[cI Y]⟩∧lk 1056 hp=some ⟨160,4,[cI X]⟩∧lk 832 hp=some ⟨160,4,[cI m]⟩∧lk 640 hp=some ⟨160,4,[cI s]⟩∧lk 416 hp=some ⟨160,4,[cI y2]⟩∧lk 32 hp=some ⟨199,12,[cV zI zI zI]⟩∧lk 0 hp=some ⟨199,12,[cV x y z]⟩)→G fr hp:=by
     rintro fr hp ⟨q0,q1,q2,q3,q4,q5,q6,q7,q8,q9,q10,q11,q12,q13⟩;exact hG _ _ Q6
    simp [go_sem,l1,l3,l5,l8,l13,a8 l1,a8 l3,a8 l5,a8 l8,a8 l13,z4,y9]
    repeat' first | exact hW _ _ ⟨rfl,rfl,rfl,rfl,rfl,rfl,rfl,rfl,rfl,rfl,rfl,rfl,rfl,rfl⟩ | (refine hW _ _ ?_;simp [fv,lk];done) | refine a9 f9 (c7 _ _) ?_ | refine a9 f10 (c7 _ _) ?_ | refine a9 f11 (j9 _) ?_ | refine a9 f12 (UP _ _) ?_ | refine a9 f13 (c7 _ _) ?_ | apply And.intro | simp [go_sem,l1,l3,l5,l8,l13,a8 l1,a8 l3,a8 l5,a8 l8,a8 l13,z4,y9]
   case hq =>
    simp only [go_sem,Nat.reduceEqDiff,Nat.reduceAdd,Nat.reduceLT,↓reduceIte];refine z6 [0,1,2,3,4,5] [(6,[]),(7,[8]),(9,[])] 2 (k:=10) ?_;intro G hG;simp [go_sem,l8,l13,a8 l8,a8 l13,v2,v3,vl];refine a9 f14 (c7 _ _) ?_;simp [go_sem];refine a9 f15 (UP _ _) ?_;have ev:cI X ++ (cI Y ++ cI Z)=cV X Y Z:=rfl;have xl:=A5 l8 l13 l15;have xt:=x8 l8 l13 l15;simp [go_sem,l8,l13,l15,wl,wd,mk8 l8 l13,aon l8 l13,ev,xl,y9];refine hG _ _ ?_;simp [go_sem,xl,xt,d6];exact P7 rfl
theorem mkP {x y:List Int} (hx:x.length=4) (hy:y.length=4):cI x ++ (cI y ++ List.drop 8 (cI x ++ [AV.d (.int .u64 0),AV.d (.int .u64 0),AV.d (.int .u64 0),AV.d (.int .u64 0),AV.d (.bool false)]))=cP x y false:=by
 match x,y,hx,hy with
 | [a,b,c,d],[e,f,g,h],_,_=>rfl
theorem alr (x y z:List Int) (hx:Wn 4 x) (hy:Wn 4 y) (hz:Wn 4 z):∃ (u v:List Int) (c:Bool),Wn 4 u∧Wn 4 v∧(Ym x y z→J7 u v c∧PV u v c=JV x y z)∧d9 Tryz.prog 173 [.agg (cV x y z)] (fun r=>r=.agg (cP u v c)):=by
 obtain ⟨i,h1,g1,f1⟩:=at6 z hz;obtain ⟨i2,h2,g2,f2⟩:=Vy i h1;obtain ⟨X,h3,g3,f3⟩:=Q4 x i2 hx h2;obtain ⟨i3,h4,g4,f4⟩:=Q4 i2 i h2 h1;obtain ⟨Y,h5,g5,f5⟩:=Q4 y i3 hy h4;unfold W1 at f1 f2;unfold W2 at f3 f4 f5;have l1:=h1.1;have l2:=h2.1;have l3:=h3.1;have l5:=h5.1;have hxl:=hx.1;have hyl:=hy.1;have hzl:=hz.1;have z4:List.drop 4 (cI zI)=[]:=d7 rfl;have vl:=A5 hxl hyl hzl;have vt:=x8 hxl hyl hzl;have v1:(cV x y z).take 4=cI x:=acP hxl;have v2:=acQ (z:=z) hxl hyl;have v3:=Y5 hxl hyl hzl;have f0:=Wb x y z hx hy hz;have zd:(cP zI zI false).drop 9=[]:=K1 rfl rfl _;have zl:(cP zI zI true).length=9:=rfl;have zt:(cP zI zI true).take 9=cP zI zI true:=rC rfl rfl _;have zl2:(cP zI zI false).length=9:=rfl;by_cases q1:z=zI
 ·have vv:Ym x y z→J7 zI zI true∧PV zI zI true=JV x y z:=by
   intro _;refine ⟨Vx,?_⟩;rw [q1,alo];show none=Xy fd _ _ (FV zI);rw [WO];exact (ael fd _ _).symm
  refine ⟨zI,zI,true,F9,F9,vv,?_⟩;refine s8 Tryz.func173 Tryz.ntmps173 (rs:=[.cell 2 162]) (J8 _ _ _) ?_;simp [go_sem,vl,vt];refine a9 f0 (J8 _ _ _) ?_;simp [go_sem,q1];refine a9 S4 ab ?_;simp [go_sem,zl,zt,zd,zl2,d6];exact K5 rfl
 ·have vv:Ym x y z→J7 X Y false∧PV X Y false=JV x y z:=by
   intro hj;have hz0:FV z ≠ 0:=fun h=>q1 ((Q9 hz hj.1.2.2).1 h)
   have e:PV X Y false=JV x y z:=by
    show some (FV X,FV Y)=Xy fd (FV x) (FV y) (FV z);rw [Xy,if_neg hz0,g3.2,g5.2,g4.2,g2.2,g1.2]
   have ho:Rz (PV X Y false):=by rw [e];exact hj.2
   exact ⟨.inr ⟨rfl,g3.1,g5.1,ho⟩,e⟩
  refine ⟨X,Y,false,h3,h5,vv,?_⟩;refine s8 Tryz.func173 Tryz.ntmps173 (rs:=[.cell 2 162]) (J8 _ _ _) ?_;simp [go_sem,vl,vt];refine a9 f0 (J8 _ _ _) ?_;simp [go_sem,q1,v3,vl];refine a9 f1 (j9 _) ?_;simp [go_sem,l1,a8 l1,z4];refine a9 f2 (j9 _) ?_;simp [go_sem,l2,a8 l2,z4];refine z6 [0,1,2,4,5,6,7] [(3,[]),(8,[]),(9,[10]),(11,[])] 3 (k:=12) ?_;intro G hG;simp [go_sem,l1,l2,a8 l1,a8 l2,v1,v2,vl];refine a9 f3 (c7 _ _) ?_;simp [go_sem,l1,l2,a8 l1,a8 l2,v1,v2,vl];refine a9 f4 (c7 _ _) ?_;simp [go_sem];refine a9 f5 (c7 _ _) ?_;have pl1:=o6 l3 l5 false;have pt1:=rC l3 l5 false;have mp:=mkP l3 l5;simp [go_sem,l3,l5,zl2,zd,mp,pl1,y9];refine hG _ _ ?_;simp [go_sem,pl1,pt1,d6];exact K5 rfl
theorem arA (n:List Int) (k:Nat) (hn:Wn 4 n) (hk:k<256):∃ b:Bool,(b=true ↔ (V n).toNat / 2 ^ k % 2=1)∧d9 Tryz.prog 172 [.agg (cI n),.d (.int .i64 (k:Int))] (fun r=>r=.d (.bool b)):=by
 have hnl:=hn.1;have hdq:dq k=k / 64:=rfl;have hrq:rq k=k % 64:=rfl;have hnk:=A9 (l:=n) (k:=dq k) aa;have w4:IntKind.i64.wrap ((k:Int) / 64)=(dq k:Int):=by rw [IntWalk.i64_in _ aa];omega
 have w4b:IntKind.i64.wrap ((k:Int).tdiv 64)=(dq k:Int):=w4;have e2:(k:Int) % 64=(rq k:Int):=aa;have e2b:(k:Int).tmod 64=(rq k:Int):=e2;have i1:(dq k:Int)<4:=aa;have hm64:rq k<64:=aa;have hmn:min (rq k) 64=rq k:=aa;have bv:=akP hn hk
 have hv:(!decide (Go.bits .and .u64 (Int.fdiv (gI n (dq k)) (2 ^ rq k)) 1=0))=true ↔ (V n).toNat / 2 ^ k % 2=1:=by
  rw [Bool.not_eq_true',decide_eq_false_iff_not];refine ⟨fun h=>bv.2 h,fun h h0=>?_⟩;have:=bv.1 h0;omega
 refine ⟨!decide (Go.bits .and .u64 (Int.fdiv (gI n (dq k)) (2 ^ rq k)) 1=0),hv,?_⟩;refine s8 Tryz.func172 Tryz.ntmps172 (rs:=[.tmp 4]) (Sr _ _) ?_;simp [go_sem,hnl,a8 hnl,hnk,e2,e2b,w4,w4b,i1,hm64,hmn,IntKind.bits,d6];exact b7 ae rfl
theorem aoo (x y:List Int) (b:Bool) (hx:Wn 4 x) (hy:Wn 4 y):∃ o:Bool,(J7 x y b→(o=true ↔ b=false∧V y % 2=0))∧d9 Tryz.prog 127 [.agg (cP x y b)] (fun r=>r=.d (.bool o)):=by
 obtain ⟨u,v,c,hu,hv,tv,f1⟩:=XB x y b hx hy;have hxl:=hx.1;have hyl:=hy.1;have hul:=hu.1;have hvl:=hv.1;have xd:(cP x y b).drop 9=[]:=K1 hxl hyl _
 have g4:(cP u v false)[4]?=some (.d (.int .u64 (gI v 0))):=by
  unfold cP;rw [List.getElem?_append_right (by rw [I2];omega),I2,hul,List.getElem?_append_left (by rw [I2];omega),Ts,A9 aa];rfl
 have g4b:∀ h,(cP u v false)[4]'h=.d (.int .u64 (gI v 0)):=fun h=>(List.getElem?_eq_some_iff.1 g4).2
 cases c
 ·have hpar:Go.bits .and .u64 (gI v 0) 1=0 ↔ V v % 2=0:=by
   have h0:=u6 (k:=0) hv;rw [Ze _ h0.1 h0.2];obtain ⟨r0,r1,r2,r3,e,_⟩:=Q3 hv;rw [e,V4];show r0 % 2=0 ↔ _;omega
  have ev:J7 x y b→(decide (Go.bits .and .u64 (gI v 0) 1=0)=true ↔ b=false∧V y % 2=0):=by
   intro hp;obtain ⟨_,e2,e3⟩:=tv.2.1 hp;rw [decide_eq_true_iff,hpar,e2];exact ⟨fun h=>⟨e3.symm,h⟩,fun h=>h.2⟩
  refine ⟨decide (Go.bits .and .u64 (gI v 0) 1=0),ev,?_⟩;refine s8 Tryz.func127 Tryz.ntmps127 (rs:=[.tmp 2]) (A4 _ _ _) ?_;simp [go_sem,o6 hxl hyl,rC hxl hyl];refine a9 f1 (A4 _ _ _) ?_;simp [go_sem,o6 hxl hyl,o6 hul hvl,xd,Ve hul hvl,Vz hul hvl,g4,g4b,d6];exact b7 ae rfl
 ·have ev:J7 x y b→(false=true ↔ b=false∧V y % 2=0):=by
   intro hp;obtain ⟨_,_,e3⟩:=tv.2.1 hp;rw [← e3];exact ⟨fun h=>Bool.noConfusion h,fun h=>Bool.noConfusion h.1⟩
  refine ⟨false,ev,?_⟩;refine s8 Tryz.func127 Tryz.ntmps127 (rs:=[.tmp 2]) (A4 _ _ _) ?_;simp [go_sem,o6 hxl hyl,rC hxl hyl];refine a9 f1 (A4 _ _ _) ?_;simp [go_sem,o6 hxl hyl,o6 hul hvl,xd,Ve hul hvl,Vz hul hvl,d6];exact b7 ae rfl
def gX:List Int:=[6481385041966929816,188021827762530521,6170039885052185351,8772561819708210092]
theorem aop:Wn 4 gX:=⟨rfl,by intro y hy;simp [gX] at hy;rcases hy with rfl | rfl | rfl | rfl <;> exact ⟨aa,aa⟩⟩
def gY:List Int:=[11261198710074299576,18237243440184513561,6747795201694173352,5204712524664259685]
theorem arB:Wn 4 gY:=⟨rfl,by intro y hy;simp [gY] at hy;rcases hy with rfl | rfl | rfl | rfl <;> exact ⟨aa,aa⟩⟩
def odI:List Int:=[13822214165235122497,13451932020343611451,18446744073709551614,18446744073709551615]
theorem aps:Wn 4 odI:=⟨rfl,by intro y hy;simp [odI] at hy;rcases hy with rfl | rfl | rfl | rfl <;> exact ⟨aa,aa⟩⟩
theorem aeq:d9 Tryz.prog 210 [] (fun r=>r=.agg (cI odI)):=by
 refine s8 Tryz.func210 Tryz.ntmps210 (rs:=[.cell 0 160]) ae ?_;simp [go_sem,cI,zI,d6];exact z8 (a:=odI) rfl
theorem Zg:J7 gX gY false:=by
 have vx:V gX=55066263022277343669578718895168534326250603453777594175500187360389116729240:=by simp [V,gX]
 have vy:V gY=32670510020758816978083085130507043184471273380659243275938904335757337482424:=by simp [V,gY]
 refine .inr ⟨rfl,by rw [vx];decide,by rw [vy];decide,Vw ?_⟩
 have e7:(((7:F).val:Nat):Int)=7 % pZ:=by
  show ((7 % pP:Nat):Int)=_;rw [Int.natCast_emod,P6];rfl
 rw [Yk,aiD,Yk,Yk,Int.natCast_emod,Int.natCast_mul,Int.natCast_emod,Int.natCast_add,Int.natCast_emod,Int.natCast_mul,Int.natCast_emod,Int.natCast_mul,E5,E5,e7,P6,vx,vy];decide
theorem ahq:d9 Tryz.prog 125 [] (fun r=>r=.agg (cP gX gY false)):=by
 refine s8 Tryz.func125 Tryz.ntmps125 (rs:=[.cell 0 162]) ae ?_;simp [go_sem,cP,cI,zI,d6];exact K5 (x:=gX) (y:=gY) (b:=false) rfl
theorem Zh:∀ (l:List Nat),(∀ x,x ∈ l→x<256)→∀ a,l.foldl (fun a x=>a*256+x) a<(a+1)*256 ^ l.length
 | [],_,a=>by simp
 | x :: r,h,a=>by
  have h1:=Zh r (fun y hy=>h y (by simp [hy])) (a*256+x);have h2:=h x ab;rw [List.foldl_cons,List.length_cons,Nat.pow_succ];have h3:(a*256+x+1)*256 ^ r.length≤((a+1)*256)*256 ^ r.length:=Nat.mul_le_mul_right _ aa;have h4:(a+1)*256*256 ^ r.length=(a+1)*(256 ^ r.length*256):=by rw [Nat.mul_assoc,Nat.mul_comm 256]
  omega
theorem Z4 {l:List Nat} (h:∀ x,x ∈ l→x<256) (hl:l.length≤8):I1 l<18446744073709551616:=by
 have h1:=Zh l h 0;have h2:256 ^ l.length≤256 ^ 8:=Nat.pow_le_pow_right aa hl;have h3:(256:Nat) ^ 8=18446744073709551616:=by decide
 unfold I1;omega
theorem Zi (a b:List Nat):I1 (a ++ b)=I1 a*256 ^ b.length+I1 b:=by
 have key:∀ (l:List Nat) (c:Nat),l.foldl (fun a x=>a*256+x) c=c*256 ^ l.length+l.foldl (fun a x=>a*256+x) 0:=by
  intro l
  induction l with
  | nil=>intro c;simp
  | cons x r ih =>
   intro c;rw [List.foldl_cons,List.foldl_cons,ih,ih (0*256+x),List.length_cons,Nat.pow_succ]
   have:(c*256+x)*256 ^ r.length=c*(256 ^ r.length*256)+(0*256+x)*256 ^ r.length:=by
    rw [Nat.add_mul,Nat.mul_assoc,Nat.mul_comm 256,Nat.zero_mul,Nat.zero_add]
   omega
 unfold I1;rw [List.foldl_append,key]
theorem als {b:List Nat} (hb:b.length=32):V ((Rr b 32).map fun (x:Nat)=>(x:Int))=(I1 b:Int):=by
 have e:b=Go.Sha.part b 32 3 ++ (Go.Sha.part b 32 2 ++ (Go.Sha.part b 32 1 ++ Go.Sha.part b 32 0)):=by
  unfold Go.Sha.part;have h32:b.take 32=b:=List.take_of_length_le aa;rw [h32];have h0:(b.drop (8*(3 - 0))).take 8=b.drop 24:=List.take_of_length_le (by rw [List.length_drop];omega)
  have s2:(b.drop (8*(3 - 1))).take 8 ++ b.drop 24=b.drop 16:=by
   have:b.drop 24=(b.drop 16).drop 8:=by rw [List.drop_drop]
   rw [this];exact List.take_append_drop 8 _
  have s3:(b.drop (8*(3 - 2))).take 8 ++ b.drop 16=b.drop 8:=by
   have:b.drop 16=(b.drop 8).drop 8:=by rw [List.drop_drop]
   rw [this];exact List.take_append_drop 8 _
  rw [h0,s2,s3];exact (List.take_append_drop 8 b).symm
 have l0:∀ j,j<4→(Go.Sha.part b 32 j).length=8:=by
  intro j hj;unfold Go.Sha.part;rw [List.length_take,List.length_drop,List.length_take];omega
 have m:Rr b 32=[I1 (Go.Sha.part b 32 0),I1 (Go.Sha.part b 32 1),I1 (Go.Sha.part b 32 2),I1 (Go.Sha.part b 32 3)]:=rfl
 have k:I1 b=((I1 (Go.Sha.part b 32 3)*256 ^ 8+I1 (Go.Sha.part b 32 2))*256 ^ 8+I1 (Go.Sha.part b 32 1))*256 ^ 8+I1 (Go.Sha.part b 32 0):=by
  conv=>lhs;rw [e]
  rw [← List.append_assoc,← List.append_assoc,Zi,l0 0 aa,Zi,l0 1 aa,Zi,l0 2 aa]
 rw [m,k];simp only [List.map_cons,List.map_nil,V4];generalize I1 (Go.Sha.part b 32 0)=p0;generalize I1 (Go.Sha.part b 32 1)=p1;generalize I1 (Go.Sha.part b 32 2)=p2;generalize I1 (Go.Sha.part b 32 3)=p3;omega
theorem aer (b:List Nat) (hb:b.length=32) (hby:bytes b):∃ a:List Int,Wn 4 a∧V a=(I1 b:Int)∧d9 Tryz.prog 160 [.agg (cb b)] (fun r=>r=.agg (cI a)):=by
 refine ⟨(Rr b 32).map fun (x:Nat)=>(x:Int),⟨by simp [Rr],fun x hx=>?_⟩,als hb,?_⟩
 ·rw [List.mem_map] at hx;obtain ⟨y,hy,rfl⟩:=hx;unfold Rr at hy;rw [List.mem_map] at hy;obtain ⟨j,_,rfl⟩:=hy;have:=Z4 (l:=Go.Sha.part b 32 j) (fun x hx=>hby x (List.mem_of_mem_take (List.mem_of_mem_drop (List.mem_of_mem_take hx)))) (by unfold Go.Sha.part;rw [List.length_take];omega);exact ⟨Int.natCast_nonneg _,aa⟩
 ·have e:cI ((Rr b 32).map fun (x:Nat)=>(x:Int))=cW (Rr b 32):=by unfold cI cW;rw [List.map_map];rfl
  rw [e];exact anW b hb hby
theorem A8 (b:List Nat):∀ v,v ∈ [AV.agg (cb b)]→v.deep:=by
 intro v hv;simp at hv;subst hv;exact RX _
theorem alu (b:List Nat) (hb:b.length=32) (hby:bytes b):∃ (r:List Int) (ok:Bool),Wn 4 r∧((I1 b<115792089237316195423570985008687907852837564279074904382605163141518161494337→ok=true∧V r=(I1 b:Int))∧(¬ I1 b<115792089237316195423570985008687907852837564279074904382605163141518161494337→ok=false∧r=zI))∧d9 Tryz.prog 165 [.agg (cb b)] (fun x=>x=.tup [.agg (cI r),.d (.bool ok)]):=by
 obtain ⟨a,ha,va,f1⟩:=aer b hb hby;obtain ⟨c,vc,f2⟩:=ahp a odI ha aps;have vo:V odI=115792089237316195423570985008687907852837564279074904382605163141518161494337:=by simp [V,odI]
 rw [vo,va] at vc;have hal:=ha.1;have hz:List.drop 4 (cI zI)=[]:=d7 rfl;have zd:List.drop 32 (cb b)=[]:=F5 hb;by_cases h0:0≤c
 ·refine ⟨zI,false,F9,⟨fun h=>absurd (vc.2 aa) aa,fun _=>⟨rfl,rfl⟩⟩,?_⟩;refine s8 Tryz.func165 Tryz.ntmps165 (rs:=[.cell 2 160,.tmp 3]) (A8 b) ?_;simp [go_sem,d0,hb,d5 hb,zd];refine a9 f1 (A8 _) ?_;simp [go_sem,hal,a8 hal,hz];refine z6 [0] [(1,[]),(2,[3])] 2 (k:=4) ?_;intro G hG;simp [go_sem,hal,a8 hal];refine a9 aeq ab ?_;simp [go_sem];refine a9 f2 (c7 _ _) ?_;simp [go_sem,y9];refine hG _ _ ?_;simp [go_sem,h0,hz,d6];exact Q8 (a:=zI) rfl
 ·refine ⟨a,true,ha,⟨fun _=>⟨rfl,va⟩,fun h=>absurd (vc.1 aa) aa⟩,?_⟩;refine s8 Tryz.func165 Tryz.ntmps165 (rs:=[.cell 2 160,.tmp 3]) (A8 b) ?_;simp [go_sem,d0,hb,d5 hb,zd];refine a9 f1 (A8 _) ?_;simp [go_sem,hal,a8 hal,hz];refine z6 [0] [(1,[]),(2,[3])] 2 (k:=4) ?_;intro G hG;simp [go_sem,hal,a8 hal];refine a9 aeq ab ?_;simp [go_sem];refine a9 f2 (c7 _ _) ?_;simp [go_sem,y9];refine hG _ _ ?_;simp [go_sem,h0,hal,a8 hal,hz,d6];exact Q8 rfl
theorem Wc {Q:AV→Prop} {st:St} {x y:List Int} {c b:Bool} (hq:Q (.tup [.agg (cP x y c),.d (.bool b)])):K9 Q (.tup [.agg (cP x y c),.d (.bool b)]) st :=
 b7 (by
  intro c hc;simp at hc;rcases hc with rfl | rfl
  ·exact .inr ⟨_,rfl,UO _ _ _⟩
  ·exact .inl trivial) hq
def R6 (n:Nat):Int:=((n:Int)*n*n+7) % 115792089237316195423570985008687907853269984665640564039457584007908834671663
def Tu (n:Nat):Int:=R6 n ^ 28948022309329048855892746252171976963317496166410141009864396001977208667916 % 115792089237316195423570985008687907853269984665640564039457584007908834671663
def VB (n:Nat):Prop:=(n:Int)<115792089237316195423570985008687907853269984665640564039457584007908834671663∧Tu n*Tu n % 115792089237316195423570985008687907853269984665640564039457584007908834671663=R6 n % 115792089237316195423570985008687907853269984665640564039457584007908834671663
def aes (n:Nat) (x y:List Int) (c ok:Bool):Prop :=
 (¬ VB n∧ok=false∧c=true∧x=zI∧y=zI) ∨ (VB n∧ok=true∧c=false∧V x=n∧V y=if Tu n % 2=0 then Tu n else (0 - Tu n) % 115792089237316195423570985008687907853269984665640564039457584007908834671663)
theorem ahr {r a:List Int} {n:Nat} (hr:Wn 4 r) (va:V a=n) (vr:V r<pZ∧FV r=FV a*FV a*FV a+7):V r=R6 n:=by
 have e:=congrArg (fun x:F=>((x.val:Nat):Int)) vr.2;simp only [E5] at e
 have e7:(((7:F).val:Nat):Int)=7 % pZ:=by
  show ((7 % pP:Nat):Int)=_;rw [Int.natCast_emod,P6];rfl
 have h0:=(E9 hr).1;rw [Int.emod_eq_of_lt h0 vr.1] at e;rw [e,aiD,Yk,Yk,Int.natCast_emod,Int.natCast_add,Int.natCast_emod,Int.natCast_mul,Int.natCast_emod,Int.natCast_mul,E5,e7,P6,va];unfold R6;show _=((n:Int)*n*n+7) % pZ;rw [← Int.mul_emod (n:Int) n,← Int.mul_emod ((n:Int)*n) n,← Int.add_emod]
theorem alv (b:List Nat) (hb:b.length=32) (hby:bytes b):∃ (x y:List Int) (c ok:Bool),Wn 4 x∧Wn 4 y∧(aes (I1 b) x y c ok)∧d9 Tryz.prog 121 [.agg (cb b)] (fun r=>r=.tup [.agg (cP x y c),.d (.bool ok)]):=by
 obtain ⟨a,ha,va,f1⟩:=aer b hb hby;obtain ⟨o,vo,f2⟩:=aad a ha;obtain ⟨r,hr,vr,f3⟩:=aen a ha;obtain ⟨y,ok,hy,vk,vy,vno,f4⟩:=akS r hr;have hrv:V r=R6 (I1 b):=ahr hr va vr;rw [va] at vo;rw [hrv] at vk vy;unfold W1 at f3;have hal:=ha.1;have hyl:=hy.1;have hz:List.drop 4 (cI zI)=[]:=d7 rfl;have zd:List.drop 32 (cb b)=[]:=F5 hb;have pd:(cP zI zI false).drop 9=[]:=K1 rfl rfl _;have zl:(cP zI zI true).length=9:=rfl;have zt:(cP zI zI true).take 9=cP zI zI true:=rC rfl rfl _;have zl2:(cP zI zI false).length=9:=rfl
 cases o
 ·refine ⟨zI,zI,true,false,F9,F9,.inl ⟨fun h=>absurd (vo.2 h.1) (by decide),rfl,rfl,rfl,rfl⟩,?_⟩;refine s8 Tryz.func121 Tryz.ntmps121 (rs:=[.cell 2 162,.tmp 3]) (A8 b) ?_;simp [go_sem,d0,hb,d5 hb,zd];refine a9 f1 (A8 _) ?_;simp [go_sem,hal,a8 hal,hz];refine a9 f2 (j9 _) ?_;simp [go_sem];refine a9 S4 ab ?_;simp [go_sem,zl,zt,pd,zl2,d6];exact Wc rfl
 ·cases ok
  ·refine ⟨zI,zI,true,false,F9,F9,.inl ⟨fun h=>absurd (vk.2 h.2) (by decide),rfl,rfl,rfl,rfl⟩,?_⟩;refine s8 Tryz.func121 Tryz.ntmps121 (rs:=[.cell 2 162,.tmp 3]) (A8 b) ?_;simp [go_sem,d0,hb,d5 hb,zd];refine a9 f1 (A8 _) ?_;simp [go_sem,hal,a8 hal,hz];refine a9 f2 (j9 _) ?_;simp [go_sem,hal,a8 hal];refine a9 f3 (j9 _) ?_;simp [go_sem];refine a9 f4 (j9 _) ?_;simp [go_sem,hyl,a8 hyl,hz];refine a9 S4 ab ?_;simp [go_sem,zl,zt,pd,zl2,d6];exact Wc rfl
  ·refine ⟨a,y,false,true,ha,hy,.inr ⟨⟨vo.1 rfl,vk.1 rfl⟩,rfl,rfl,va,vy rfl⟩,?_⟩;refine s8 Tryz.func121 Tryz.ntmps121 (rs:=[.cell 2 162,.tmp 3]) (A8 b) ?_;simp [go_sem,d0,hb,d5 hb,zd];refine a9 f1 (A8 _) ?_;simp [go_sem,hal,a8 hal,hz];refine a9 f2 (j9 _) ?_;simp [go_sem,hal,a8 hal];refine a9 f3 (j9 _) ?_;simp [go_sem];refine a9 f4 (j9 _) ?_;have mp:=mkP hal hyl;have pl1:=o6 hal hyl false;have pt1:=rC hal hyl false;simp [go_sem,hal,hyl,a8 hal,a8 hyl,hz,mp,pl1,pt1,pd,zl2,d6];exact Wc rfl
def d8 (i:Nat):Nat:=i / 8
def r8 (i:Nat):Nat:=8*(i % 8)
def byt (a:List Int) (k:Nat):Nat:=(IntKind.u8.wrap (Int.fdiv (gI a (d8 k)) (2 ^ r8 k))).toNat
def bst (a:List Int) (k:Nat) (l:List Nat):List Nat:=l.set (31 - k) (byt a k)
theorem aht (a:List Int) (k:Nat):IntKind.u8.wrap (Int.fdiv (gI a (d8 k)) (2 ^ r8 k))=((byt a k:Nat):Int):=by
 unfold byt;have:IntKind.u8.wrap (Int.fdiv (gI a (d8 k)) (2 ^ r8 k))=(Int.fdiv (gI a (d8 k)) (2 ^ r8 k)) % 256:=by simp [IntKind.wrap,IntKind.bits,IntKind.signed]
 rw [this];omega
theorem arD (a:List Int) (k:Nat):byt a k<256:=by
 have h:=aht a k;have:IntKind.u8.wrap (Int.fdiv (gI a (d8 k)) (2 ^ r8 k))=(Int.fdiv (gI a (d8 k)) (2 ^ r8 k)) % 256:=by simp [IntKind.wrap,IntKind.bits,IntKind.signed]
 rw [this] at h;omega
theorem Yo (a:List Int):∀ k,(y7 (bst a) z32 k).length=32∧bytes (y7 (bst a) z32 k) :=
 M8 (P:=fun _ l=>l.length=32∧bytes l) ⟨rfl,fun x hx=>by simp [z32] at hx;omega⟩ fun k l hl=>by
  refine ⟨by unfold bst;rw [List.length_set];exact hl.1,fun x hx=>?_⟩;rcases List.mem_or_eq_of_mem_set hx with hx | rfl
  ·exact hl.2 x hx
  ·exact arD _ _
theorem auc {a:List Int} (ha:Wn 4 a) {k:Nat} (hk:k<32):byt a k=(V a).toNat / 256 ^ k % 256:=by
 have hw:=akO ha (j:=k / 8) aa;have hi:=aht a k;have hu:IntKind.u8.wrap (Int.fdiv (gI a (d8 k)) (2 ^ r8 k))=(Int.fdiv (gI a (d8 k)) (2 ^ r8 k)) % 256:=by simp [IntKind.wrap,IntKind.bits,IntKind.signed]
 have hd:d8 k=k / 8:=rfl;have hr:r8 k=8*(k % 8):=rfl;rw [hu,hd,hr,← hw,Int.fdiv_eq_ediv_of_nonneg _ (Int.le_of_lt (Int.pow_pos aa))] at hi;generalize (V a).toNat=N at *
 have h1:byt a k=N / 2 ^ (64*(k / 8)) % 2 ^ 64 / 2 ^ (8*(k % 8)) % 256:=by
  have e:∀ (z s:Nat),(((z / 2 ^ s % 256:Nat)):Int)=(z:Int) / 2 ^ s % 256:=fun z s=>by rw [Int.natCast_emod,Int.natCast_ediv,Int.natCast_pow];rfl
  exact (Int.ofNat_inj.1 ((e _ _).trans hi)).symm
 rw [h1];have e64:(2:Nat) ^ 64=2 ^ (8*(k % 8))*2 ^ (64 - 8*(k % 8)):=by rw [← Nat.pow_add];congr 1;omega
 have e8:(256:Nat) ∣ 2 ^ (64 - 8*(k % 8)):=⟨2 ^ (56 - 8*(k % 8)),by rw [show (256:Nat)=2 ^ 8 from rfl,← Nat.pow_add];congr 1;omega⟩
 have e256:(256:Nat) ^ k=2 ^ (64*(k / 8))*2 ^ (8*(k % 8)):=by
  rw [show (256:Nat)=2 ^ 8 from rfl,← Nat.pow_mul,← Nat.pow_add];congr 1;omega
 rw [e64,Nat.mod_mul_right_div_self,Nat.mod_mod_of_dvd _ e8,Nat.div_div_eq_div_mul,← e256]
def af2 (a:List Int):Nat→List Nat
 | 0=>[]
 | k+1=>byt a k :: af2 a k
theorem aet (a:List Int):∀ k,(af2 a k).length=k
 | 0=>rfl
 | k+1=>by rw [af2,List.length_cons,aet a k]
theorem aaf (x:Nat) (l:List Nat):I1 (x :: l)=x*256 ^ l.length+I1 l:=by
 have:=Zi [x] l;have e:I1 [x]=x:=by simp [I1]
 rw [e] at this;exact this
theorem alw {a:List Int} (ha:Wn 4 a):∀ k,k≤32→I1 (af2 a k)=(V a).toNat % 256 ^ k
 | 0,_=>by rw [af2,Nat.pow_zero,Nat.mod_one];rfl
 | k+1,h=>by
  rw [af2,aaf,aet,alw ha k aa,auc ha aa,Nat.mod_pow_succ,Nat.mul_comm,Nat.add_comm]
theorem ahu (a:List Int):∀ k,k≤32→y7 (bst a) z32 k=List.replicate (32 - k) 0 ++ af2 a k
 | 0,_=>rfl
 | k+1,h=>by
  rw [y7,ahu a k aa];unfold bst;have e:32 - k=(31 - k)+1:=aa;have e2:32 - (k+1)=31 - k:=aa;rw [e,e2,List.replicate_succ',List.append_assoc,List.set_append_right _ _ ab,List.length_replicate,Nat.sub_self];rfl
theorem apt {a:List Int} (ha:Wn 4 a):I1 (y7 (bst a) z32 32)=(V a).toNat:=by
 rw [ahu a 32 aa,Nat.sub_self,List.replicate_zero,List.nil_append,alw ha 32 aa];have h:=E9 ha
 exact Nat.mod_eq_of_lt (by
  have:(256:Nat) ^ 32=115792089237316195423570985008687907853269984665640564039457584007913129639936:=by decide
  omega)
theorem aiH (a:List Int) (ha:Wn 4 a):∃ b:List Nat,b.length=32∧bytes b∧I1 b=(V a).toNat∧d9 Tryz.prog 174 [.agg (cI a)] (fun r=>r=.agg (cb b)):=by
 refine ⟨y7 (bst a) z32 32,(Yo a 32).1,(Yo a 32).2,apt ha,?_⟩;refine s8 Tryz.func174 Tryz.ntmps174 (rs:=[.cell 2 23]) (j9 a) ?_;have hal:=ha.1;simp [go_sem,hal,a8 hal];generalize hSS:y7 (bst a) z32=S at *;have hS:=Yo a;rw [hSS] at hS
 refine j6 (fun k:Nat=>⟨[(1,.ptr 0 0 0 1),(2,.ptr 32 0 0 1),(3,.ptr 64 0 0 1),(5,.d (.int .i64 (k:Int)))],[(64,⟨23,32,[cb (S k)]⟩),(32,⟨23,32,[cb z32]⟩),(0,⟨160,4,[cI a]⟩)],20000⟩)
  (fun k=>k≤32) (fun k=>32 - k) 0 aa (by
   rw [← hSS];simp [m6,c6,fv,lk,AV.low,AV.low1,y7]
   and_intros <;> first | rfl | exact o5 _ _ | exact p9 _ _) ?_
 intro k hk;obtain ⟨hs1,hs2⟩:=hS k;have w3:=m9 (k:=k) aa;simp only [go_sem,Nat.reduceEqDiff,Nat.reduceAdd,Nat.reduceLT,↓reduceIte];by_cases h4:k<32
 ·refine ⟨fun h=>?_,fun h=>absurd (by exact_mod_cast h4) h⟩;have hsn:S (k+1)=bst a k (S k):=by rw [← hSS];rfl
  have hdq:d8 k=k / 8:=rfl;have hrq:r8 k=8*(k % 8):=rfl;have hnk:=A9 (l:=a) (k:=d8 k) aa;have w4:IntKind.i64.wrap ((k:Int) / 8)=(d8 k:Int):=by rw [IntWalk.i64_in _ aa];omega
  have w4b:IntKind.i64.wrap ((k:Int).tdiv 8)=(d8 k:Int):=w4;have e2:IntKind.i64.wrap (8*((k:Int) % 8))=(r8 k:Int):=by rw [IntWalk.i64_in _ aa];omega
  have e2b:IntKind.i64.wrap (8*((k:Int).tmod 8))=(r8 k:Int):=e2;have e3:IntKind.i64.wrap (31 - (k:Int))=((31 - k:Nat):Int):=by rw [IntWalk.i64_in _ aa];omega
  have i1:(d8 k:Int)<4:=aa;have hm64:r8 k<64:=aa;have hmn:min (r8 k) 64=r8 k:=aa;have i3:((31 - k:Nat):Int)<32:=aa;have i4:31 - k<32:=aa;simp [go_sem,hnk,hal,e2,e2b,w4,w4b,e3,i1,i3,i4,hm64,hmn,IntKind.bits,aht,ZQ,d0,hs1,w3];refine c8 (k+1) aa aa ?_;rw [hsn];simp [m6,c6,fv,lk,AV.low,AV.low1,bst];and_intros <;> first | rfl | exact o5 _ _ | exact p9 _ _
 ·refine ⟨fun h=>absurd (by exact_mod_cast h) h4,fun h=>?_⟩;have hkl:k=32:=aa;subst hkl;simp [go_sem,d0,hs1,d5 hs1,F5 (l:=z32) rfl,d6];exact b7 (RX _) rfl
theorem alx {Q:AV→Prop} {st:St} {b:List Nat} (hq:Q (.agg (cb b))):K9 Q (.agg (cb b)) st:=b7 (RX _) hq
theorem aiI (x y:List Int) (c:Bool) (hx:Wn 4 x) (hy:Wn 4 y):∃ b:List Nat,b.length=32∧bytes b∧(J7 x y c→I1 b=(V x).toNat)∧d9 Tryz.prog 126 [.agg (cP x y c)] (fun r=>r=.agg (cb b)):=by
 obtain ⟨u,v,d,hu,hv,tv,f1⟩:=XB x y c hx hy;obtain ⟨b,hb,hbb,vb,f2⟩:=aiH u hu;refine ⟨b,hb,hbb,fun h=>by rw [vb,(tv.2.1 h).1],?_⟩;refine s8 Tryz.func126 Tryz.ntmps126 (rs:=[.cell 2 23]) (A4 _ _ _) ?_;have hxl:=hx.1;have hyl:=hy.1;have ul:=o6 hu.1 hv.1 d;have ux:=aeo (y:=v) hu.1 d;have zd:List.drop 32 (cb z32)=[]:=F5 rfl;simp [go_sem,o6 hxl hyl,rC hxl hyl];refine a9 f1 (A4 _ _ _) ?_;simp [go_sem,ul,ux];refine a9 f2 (j9 _) ?_;simp [go_sem,d0,hb,d5 hb,zd,d6];exact alx rfl
def jnV (a b:List Nat):Nat→AV
 | 0=>.nil
 | 1=>.own 1192 0 a.length a.length
 | _=>.own 1192 0 (a ++ b).length (a ++ b).length
def jnH (a b:List Nat):Nat→Hp
 | 0=>[]
 | 1=>[(1192,⟨5,1,rb a⟩)]
 | _=>[(1192,⟨5,1,rb (a ++ b)⟩)]
def jnN:Nat→Nat
 | 0=>1000
 | _=>2000
theorem aiJ (a b:List Nat) (ha:a.length=32) (hb:b.length≤1000000):d9 Tryz.prog 166 [.d (.ro 1 [[nb a],[nb b]])] (fun r=>r=.d (nb (a ++ b))):=by
 refine s8 Tryz.func166 Tryz.ntmps166 (rs:=[.tmp 2]) ae ?_;simp [go_sem]
 refine j6 (fun k:Nat=>⟨[(3,jnV a b k),(6,.d (.ro 1 [[nb a],[nb b]])),(7,.d (.int .i64 2)),(8,.d (.int .i64 (k:Int)))],jnH a b k,jnN k⟩)
  (fun k=>k≤2) (fun k=>2 - k) 0 aa (by simp [m6,c6,fv,lk,AV.low,AV.low1,jnV,jnH,jnN]) ?_
 intro k hk;simp only [go_sem,Nat.reduceEqDiff,Nat.reduceAdd,Nat.reduceLT,↓reduceIte]
 match k,hk with
 | 0,_ =>
  refine ⟨fun _=>?_,fun h=>absurd (by decide) h⟩;simp [go_sem,jnV,jnH,jnN,nb,F2];refine ⟨by rw [n9];omega,?_⟩;have w1:IntKind.i64.wrap 1=1:=by decide
  refine c8 1 aa aa ?_;simp [m6,c6,fv,lk,AV.low,AV.low1,n9,w1];exact r5 _ _
 | 1,_ =>
  refine ⟨fun _=>?_,fun h=>absurd (by decide) h⟩;simp [go_sem,jnV,jnH,jnN,nb,F2,n9];refine ⟨aa,?_⟩;have w1:IntKind.i64.wrap 2=2:=by decide
  have ra:rb (a ++ b)=rb a ++ rb b:=by simp [rb]
  refine c8 2 aa aa ?_;simp [m6,c6,fv,lk,AV.low,AV.low1,n9,w1,ra];intro r hr;exact hr.elim (r5 _ _ r) (r5 _ _ r)
 | 2,_ =>
  refine ⟨fun h=>absurd h (by decide),fun _=>?_⟩;simp [go_sem,jnV,jnH,d6];have hl2:a.length+b.length=(a ++ b).length:=by rw [List.length_append]
  rw [hl2];exact Sa rfl (by simp [nb])
end Go.Proofs.YtldccnbokbieiaaGreat
