/-
  Part 7 of what the claim rests on.
-/
import Derived.Test.YtfahccoobfjkeaaGreatT4
import Derived.Test.YtfahccoobfjkeaaGreatT5
set_option linter.unusedVariables false
set_option linter.unusedSimpArgs false
set_option maxRecDepth 100000
set_option maxHeartbeats 16000000
namespace Go.Proofs.YtfahccoobfjkeaaGreat
open Go.Am Go.Sha Go.Ec
abbrev pZ:Int:=115792089237316195423570985008687907853269984665640564039457584007908834671663
theorem pP_int:(pP:Int)=pZ:=by rw [pP_lit];rfl
def FV (l:List Int):F:=icF pP (V l)
theorem FV_val (l:List Int):(((FV l).val:Nat):Int)=V l % pZ:=by unfold FV;rw [icF_v,pP_int]
theorem F_ext {a b:F} (h:((a.val:Nat):Int)=((b.val:Nat):Int)):a=b:=fin_int h
theorem FV_inj {a b:List Int} (ha:Wn 4 a) (hb:Wn 4 b) (h1:V a<pZ) (h2:V b<pZ) (h:FV a=FV b):a=b:=by
  have e:=congrArg (fun x:F=>((x.val:Nat):Int)) h
  simp only [FV_val] at e
  have:=(V_lt ha).1
  have:=(V_lt hb).1
  rw [Int.emod_eq_of_lt (by omega) h1,Int.emod_eq_of_lt (by omega) h2] at e
  exact V_inj ha hb e
theorem FV_mul {r a b:List Int} (h:V r=(V a*V b) % pZ):V r<pZ∧FV r=FV a*FV b:=by
  refine ⟨by rw [h];exact Int.emod_lt_of_pos _ (by decide),F_ext ?_⟩
  rw [FV_val,valM,Int.natCast_emod,Int.natCast_mul,FV_val,FV_val,pP_int,h,Int.emod_emod,← Int.mul_emod]
theorem FV_add {r a b:List Int} (h:V r=(V a+V b) % pZ):V r<pZ∧FV r=FV a+FV b:=by
  refine ⟨by rw [h];exact Int.emod_lt_of_pos _ (by decide),F_ext ?_⟩
  rw [FV_val,valA,Int.natCast_emod,Int.natCast_add,FV_val,FV_val,pP_int,h,Int.emod_emod,← Int.add_emod]
theorem sub_add_F {a b c:F} (h:c+b=a):c=a - b:=by grobner
theorem FV_sub {r a b:List Int} (h:V r=(V a - V b) % pZ):V r<pZ∧FV r=FV a - FV b:=by
  refine ⟨by rw [h];exact Int.emod_lt_of_pos _ (by decide),sub_add_F (F_ext ?_)⟩
  rw [valA,Int.natCast_emod,Int.natCast_add,FV_val,FV_val,FV_val,pP_int,h,Int.emod_emod,← Int.add_emod]
  congr 1
  omega
theorem FV_z:FV zI=0:=by
  refine F_ext ?_
  rw [FV_val]
  have:V zI=0:=by simp [V,zI]
  rw [this];rfl
theorem FV_zero {a:List Int} (ha:Wn 4 a) (h:V a<pZ):FV a=0 ↔ a=zI:=by
  have hz:V zI=0:=by simp [V,zI]
  have hz2:V zI<pZ:=by rw [hz];decide
  exact ⟨fun h0=>FV_inj ha zI_W h hz2 (by rw [h0,FV_z]),fun h0=>by rw [h0,FV_z]⟩
theorem FV_n (k:Nat) (hk:(k:Int)<18446744073709551616):FV [(k:Int),0,0,0]=Fin.ofNat pP k:=by
  have:V [(k:Int),0,0,0]=(k:Int):=by simp [V]
  unfold FV
  rw [this]
  exact icF_nat k
theorem FV_inv {r a:List Int} {k:Nat} (hk:k=pP - 2) (h:V r=V a ^ k % pZ):V r<pZ∧FV r=fd.inv (FV a):=by
  refine ⟨by rw [h];exact Int.emod_lt_of_pos _ (by decide),F_ext ?_⟩
  have e:fd.inv (FV a)=⟨(FV a).val ^ (pP - 2) % pP,Nat.mod_lt _ (by have:=pP_8;omega)⟩:=rfl
  rw [e,← hk]
  show _=((((FV a).val ^ k % pP:Nat)):Int)
  rw [FV_val,h,Int.emod_emod,Int.natCast_emod,Int.natCast_pow,FV_val,pP_int]
  have pm:∀ (x m:Int) (k:Nat),x ^ k % m=(x % m) ^ k % m:=by
    intro x m k
    induction k with
    | zero=>rw [Int.pow_zero,Int.pow_zero]
    | succ k ih=>rw [Int.pow_succ,Int.pow_succ,Int.mul_emod,ih,Int.mul_emod ((x % m) ^ k),Int.emod_emod]
  exact pm _ _ _
theorem fmulv (a b:List Int) (ha:Wn 4 a) (hb:Wn 4 b):∃ r,Wn 4 r∧(V r<pZ∧FV r=FV a*FV b)∧W2 203 a b r:=by
  obtain ⟨r,h1,h2,h3⟩:=fmul_ex a b ha hb
  exact ⟨r,h1,FV_mul h2,h3⟩
theorem faddv (a b:List Int) (ha:Wn 4 a) (hb:Wn 4 b):∃ r,Wn 4 r∧(V r<pZ∧FV r=FV a+FV b)∧W2 206 a b r:=by
  obtain ⟨r,h1,h2,h3⟩:=fadd_ex a b ha hb
  exact ⟨r,h1,FV_add h2,h3⟩
theorem fsubv (a b:List Int) (ha:Wn 4 a) (hb:Wn 4 b):∃ r,Wn 4 r∧(V r<pZ∧FV r=FV a - FV b)∧W2 211 a b r:=by
  obtain ⟨r,h1,h2,h3⟩:=fsub_ex a b ha hb
  exact ⟨r,h1,FV_sub h2,h3⟩
theorem finvv (a:List Int) (ha:Wn 4 a):∃ r,Wn 4 r∧(V r<pZ∧FV r=fd.inv (FV a))∧W1 214 a r:=by
  obtain ⟨r,h1,h2,h3⟩:=finv_ex a ha
  exact ⟨r,h1,FV_inv (by rw [pP_lit]) h2,h3⟩
def PV (x y:List Int) (b:Bool):Pt pP:=if b then none else some (FV x,FV y)
def isPt (x y:List Int) (b:Bool):Prop:=(b=true∧x=zI∧y=zI) ∨ (b=false∧V x<pZ∧V y<pZ∧FV y*FV y=FV x*FV x*FV x+7)
theorem isPt_on {x y:List Int} {b:Bool} (h:isPt x y b):onC (PV x y b):=by
  rcases h with ⟨rfl,_,_⟩ | ⟨rfl,_,_,h⟩
  · trivial
  · exact h
theorem isPt_z:isPt zI zI true:=.inl ⟨rfl,rfl,rfl⟩
theorem PV_z:PV zI zI true=none:=rfl
noncomputable def JV (x y z:List Int):Pt pP:=jac fd (FV x) (FV y) (FV z)
def isJ (x y z:List Int):Prop:=(V x<pZ∧V y<pZ∧V z<pZ)∧onC (JV x y z)
theorem one_i (x:Int):∀ v,v ∈ [AV.d (.int .u64 x)]→v.deep:=by
  intro v hv;simp at hv;subst hv;trivial
theorem cI_cN {a:List Int} (ha:Wn 4 a):(a.map Int.toNat).length=4∧cI a=cW (a.map Int.toNat):=by
  refine ⟨by simp [ha.1],?_⟩
  unfold cI cW
  rw [List.map_map]
  refine List.map_congr_left fun x hx=>?_
  have:=(ha.2 x hx).1
  simp only [Function.comp_apply]
  rw [Int.toNat_of_nonneg this]
theorem cmpV {a b:List Int} (ha:Wn 4 a) (hb:Wn 4 b):cmpF (a.map Int.toNat) (b.map Int.toNat) 4<0 ↔ V a<V b:=by
  obtain ⟨a0,a1,a2,a3,rfl,h0,h1,h2,h3⟩:=W4_ex ha
  obtain ⟨b0,b1,b2,b3,rfl,k0,k1,k2,k3⟩:=W4_ex hb
  unfold R64 at *
  rw [V4,V4]
  have g0:∀ w x y z:Nat,[w,x,y,z].getD 0 0=w:=fun _ _ _ _=>rfl
  have g1:∀ w x y z:Nat,[w,x,y,z].getD 1 0=x:=fun _ _ _ _=>rfl
  have g2:∀ w x y z:Nat,[w,x,y,z].getD 2 0=y:=fun _ _ _ _=>rfl
  have g3:∀ w x y z:Nat,[w,x,y,z].getD 3 0=z:=fun _ _ _ _=>rfl
  simp only [List.map_cons,List.map_nil,cmpF,g0,g1,g2,g3]
  repeat' split
  all_goals omega
theorem cmpI_ex (a b:List Int) (ha:Wn 4 a) (hb:Wn 4 b):∃ c:Int,(c<0 ↔ V a<V b)∧Rets Tryz.prog 198 [.agg (cI a),.agg (cI b)] (fun r=>r=.d (.int .i64 c)):=by
  obtain ⟨hl,e1⟩:=cI_cN ha
  obtain ⟨hm,e2⟩:=cI_cN hb
  rw [e1,e2]
  exact ⟨_,cmpV ha hb,cmp_fn _ _ hl hm⟩
theorem sq_ex (a:List Int) (ha:Wn 4 a):∃ r,Wn 4 r∧(V r<pZ∧FV r=FV a*FV a)∧W1 207 a r:=by
  obtain ⟨r,hr,vr,f1⟩:=fmulv a a ha ha
  unfold W2 at f1
  have hal:=ha.1
  have hrl:=hr.1
  have hz:List.drop 4 (cI zI)=[]:=cI_drop rfl
  refine ⟨r,hr,vr,?_⟩
  unfold W1
  refine fna Tryz.func207 Tryz.ntmps207 (rs:=[.cell 2 198]) (one_cI a) ?_
  simp [go_sem,hal,cI_take hal]
  refine cl_eq f1 (two_cI _ _) ?_
  simp [go_sem,hrl,cI_take hrl,hz,resV]
  exact post_w rfl
theorem right_ex (a:List Int) (ha:Wn 4 a):∃ r,Wn 4 r∧(V r<pZ∧FV r=FV a*FV a*FV a+7)∧W1 165 a r:=by
  obtain ⟨s,hs,vs,f1⟩:=sq_ex a ha
  obtain ⟨m,hm,vm,f2⟩:=fmulv s a hs ha
  obtain ⟨r,hr,vr,f3⟩:=faddv m [7,0,0,0] hm (fromI_W ⟨by omega,by omega⟩)
  have v7:FV [7,0,0,0]=7:=FV_n 7 (by omega)
  rw [v7,vm.2,vs.2] at vr
  unfold W1 at f1
  unfold W2 at f2 f3
  have hal:=ha.1
  have hrl:=hr.1
  have hz:List.drop 4 (cI zI)=[]:=cI_drop rfl
  refine ⟨r,hr,vr,?_⟩
  unfold W1
  refine fna Tryz.func165 Tryz.ntmps165 (rs:=[.cell 2 198]) (one_cI a) ?_
  simp [go_sem,hal,cI_take hal]
  refine drw3 [0,2] [1,3,4,5,6] [0,2] (.step 1 [] true (.step 3 [] false (.step 4 [] false (.step 5 [] false (.step 6 [] false .done))))) ⟨[(2,.ptr 32 0 0 1)],[(32,⟨198,4,[cI r]⟩)],9000⟩ (k:=7) ?h3 ?hq
  case h3 =>
    intro G hG
    have hW:∀ (fr:Fr) (hp:Hp),(fv 2 fr=.ptr 32 0 0 1∧lk 32 hp=some ⟨198,4,[cI r]⟩)→G fr hp:=by
      rintro fr hp ⟨q0,q1⟩
      refine hG _ _ (weak_wk ?_)
      simp only [Weak,slotOk]
      refine ⟨fun p hp=>?_,fun p hp=>?_,by simp⟩
      · simp only [List.mem_cons,List.mem_nil_iff,or_false] at hp
        subst hp
        exact ⟨.inl q0.symm,by simp [AV.low,AV.low1]⟩
      · simp only [List.mem_cons,List.mem_nil_iff,or_false] at hp
        subst hp
        exact ⟨.inl q1,by simp,by intro r hr;simp only [List.mem_cons,List.mem_nil_iff,or_false] at hr;subst hr;exact cI_low _ _⟩
    simp [go_sem,hal,cI_take hal,hrl,cI_take hrl,hz,SaW]
    repeat' first | exact hW _ _ ⟨rfl,rfl⟩ | (refine hW _ _ ?_;simp [fv,lk];done) | refine cl_eq f1 (one_cI _) ?_ | refine cl_eq f2 (two_cI _ _) ?_ | refine cl_eq f3 (two_cI _ _) ?_ | refine cl_eq (fromI_fn 7) (one_i _) ?_ | apply And.intro | simp [go_sem,hal,cI_take hal,hrl,cI_take hrl,hz,SaW]
  case hq =>
    simp [go_sem,hrl,cI_take hrl,resV]
    exact post_w rfl
theorem below_ex (a:List Int) (ha:Wn 4 a):∃ b:Bool,(b=true ↔ V a<pZ)∧Rets Tryz.prog 162 [.agg (cI a)] (fun r=>r=.d (.bool b)):=by
  obtain ⟨c,vc,f1⟩:=cmpI_ex a prI ha prI_W
  have vp:V prI=pZ:=by simp [V,prI]
  rw [vp] at vc
  have hal:=ha.1
  refine ⟨decide (c<0),by rw [decide_eq_true_iff];exact vc,?_⟩
  refine fna Tryz.func162 Tryz.ntmps162 (rs:=[.tmp 2]) (one_cI a) ?_
  simp [go_sem,hal,cI_take hal]
  refine drw2 [0] [(1,[]),(2,[3,4])] 2 (k:=5) ?_
  intro G hG
  simp [go_sem,hal,cI_take hal]
  refine cl_eq primeI_fn (by simp) ?_
  simp [go_sem]
  refine cl_eq f1 (two_cI _ _) ?_
  simp [go_sem,SaW]
  refine hG _ _ ?_
  simp [go_sem,resV]
  exact post_same (by simp [AV.deep,AV.deep1]) rfl
def cP (x y:List Int) (b:Bool):List AV:=cI x ++ (cI y ++ [.d (.bool b)])
theorem cP_len {x y:List Int} (hx:x.length=4) (hy:y.length=4) (b:Bool):(cP x y b).length=9:=by simp [cP,cI_len,hx,hy]
theorem cP_take {x y:List Int} (hx:x.length=4) (hy:y.length=4) (b:Bool):(cP x y b).take 9=cP x y b:=List.take_of_length_le (by rw [cP_len hx hy];omega)
theorem cP_drop {x y:List Int} (hx:x.length=4) (hy:y.length=4) (b:Bool):(cP x y b).drop 9=[]:=List.drop_eq_nil_of_le (by rw [cP_len hx hy];omega)
theorem cP_x {x y:List Int} (hx:x.length=4) (b:Bool):(cP x y b).take 4=cI x:=by
  unfold cP;rw [List.take_append_of_le_length (by rw [cI_len];omega),cI_take hx]
theorem cP_y {x y:List Int} (hx:x.length=4) (hy:y.length=4) (b:Bool):((cP x y b).drop 4).take 4=cI y:=by
  unfold cP;rw [List.drop_append_of_le_length (by rw [cI_len];omega),cI_drop hx,List.nil_append,List.take_append_of_le_length (by rw [cI_len];omega),cI_take hy]
theorem cP_b {x y:List Int} (hx:x.length=4) (hy:y.length=4) (b:Bool):(cP x y b)[8]?=some (.d (.bool b)):=by
  unfold cP;rw [List.getElem?_append_right (by rw [cI_len];omega),List.getElem?_append_right (by simp only [cI_len];omega)]
  simp [cI_len,hx,hy]
theorem cP_g {x y:List Int} (hx:x.length=4) (hy:y.length=4) (b:Bool) (h:8<(cP x y b).length):(cP x y b)[8]=.d (.bool b):=(List.getElem?_eq_some_iff.1 (cP_b hx hy b)).2
theorem cP_deep (x y:List Int) (b:Bool):(AV.agg (cP x y b)).deep:=by
  intro v hv
  unfold cP at hv
  rcases List.mem_append.1 hv with hv | hv
  · exact cI_deep _ v hv
  · rcases List.mem_append.1 hv with hv | hv
    · exact cI_deep _ v hv
    · simp at hv;subst hv;trivial
theorem one_cP (x y:List Int) (b:Bool):∀ v,v ∈ [AV.agg (cP x y b)]→v.deep:=by
  intro v hv;simp at hv;subst hv;exact cP_deep _ _ _
theorem cP_low (n:Nat) (x y:List Int) (b:Bool):∀ v,v ∈ cP x y b→v.low1 n:=by
  intro v hv
  unfold cP at hv
  rcases List.mem_append.1 hv with hv | hv
  · exact cI_low _ _ v hv
  · rcases List.mem_append.1 hv with hv | hv
    · exact cI_low _ _ v hv
    · simp at hv;subst hv;trivial
theorem post_p {Q:AV→Prop} {st:St} {x y:List Int} {b:Bool} (hq:Q (.agg (cP x y b))):PostK Q (.agg (cP x y b)) st:=post_same (cP_deep _ _ _) hq
theorem zzP:tzO Tryz.prog 200=some (cP zI zI false):=by kernel_rfl
attribute [go_sem] zzP
theorem zero_fn:Rets Tryz.prog 163 [] (fun r=>r=.agg (cP zI zI true)):=by
  refine fna Tryz.func163 Tryz.ntmps163 (rs:=[.cell 0 200]) (by simp [AV.deep,AV.deep1]) ?_
  simp [go_sem,cP,cI,zI,resV]
  exact post_p (x:=zI) (y:=zI) (b:=true) rfl
def lP (x y:List Int) (b:Bool):List L1:=x.map (L1.i .u64) ++ (y.map (L1.i .u64) ++ [L1.b b])
theorem litsI:∀ (x:List Int) (r:List AV),litsOf (cI x ++ r)=(litsOf r).map (x.map (L1.i .u64) ++ ·)
  | [],r=>by simp [cI]
  | a :: l,r=>by
    have ih:=litsI l r
    show litsOf (.d (.int .u64 a) :: (cI l ++ r))=_
    have e:litsOf (.d (.int .u64 a) :: (cI l ++ r))=(litsOf (cI l ++ r)).map (L1.i .u64 a :: ·):=rfl
    rw [e,ih,Option.map_map]
    rfl
theorem cP_lits (x y:List Int) (b:Bool):litsOf (cP x y b)=some (lP x y b):=by
  unfold cP
  rw [litsI,litsI]
  rfl
theorem ksP:kindsOf Tryz.prog 8 200=some (List.replicate 8 (some .u64) ++ [none]):=by kernel_rfl
theorem ksP_of {x y:List Int} (hx:x.length=4) (hy:y.length=4) (b:Bool):kindsOf Tryz.prog 8 200=some ((lP x y b).map L1.k):=by
  rw [ksP]
  match x,y,hx,hy with
  | [a,b,c,d],[e,f,g,h],_,_=>rfl
theorem egP:Tryz.prog.eqGuardType Tryz.prog.depth 200=false:=by kernel_rfl
theorem on_ex (x y:List Int) (b:Bool) (hx:Wn 4 x) (hy:Wn 4 y):∃ c:Bool,(c=true ↔ isPt x y b)∧Rets Tryz.prog 209 [.agg (cP x y b)] (fun r=>r=.d (.bool c)):=by
  have hxl:=hx.1
  have hyl:=hy.1
  cases b
  · obtain ⟨b1,vb1,f1⟩:=below_ex x hx
    obtain ⟨b2,vb2,f2⟩:=below_ex y hy
    obtain ⟨s,hs,vs,f3⟩:=sq_ex y hy
    obtain ⟨r,hr,vr,f4⟩:=right_ex x hx
    unfold W1 at f3 f4
    have hsl:=hs.1
    have hrl:=hr.1
    have e1:∀ c:Bool,(cP x y c).take 4=cI x:=cP_x hxl
    have e2:∀ c:Bool,((cP x y c).drop 4).take 4=cI y:=cP_y hxl hyl
    have hv:(b1 && (b2 && decide (s=r)))=true ↔ isPt x y false:=by
      rw [Bool.and_eq_true,Bool.and_eq_true,decide_eq_true_iff,vb1,vb2]
      refine ⟨fun ⟨h1,h2,h3⟩=>.inr ⟨rfl,h1,h2,by rw [← vs.2,h3,vr.2]⟩,fun h=>?_⟩
      rcases h with ⟨h,_⟩ | ⟨_,h1,h2,h3⟩
      · cases h
      · exact ⟨h1,h2,FV_inj hs hr vs.1 vr.1 (by rw [vs.2,vr.2,h3])⟩
    refine ⟨b1 && (b2 && decide (s=r)),hv,?_⟩
    refine fna Tryz.func209 Tryz.ntmps209 (rs:=[.tmp 2]) (one_cP _ _ _) ?_
    simp [go_sem,cP_len hxl hyl,cP_take hxl hyl,cP_b hxl hyl,cP_g hxl hyl]
    cases b1
    · skip
      refine drw2 [0,1] [(2,[3,4,5]),(6,[7,8,9,10,12,13]),(11,[]),(14,[15,16,17])] 4 (k:=18) ?_
      intro G hG
      simp [go_sem,cP_len hxl hyl,e1,e2]
      refine cl_eq f1 (one_cI _) ?_
      simp [go_sem,SaW]
      refine hG _ _ ?_
      simp [go_sem,resV]
      exact post_same (by simp [AV.deep,AV.deep1]) rfl
    · cases b2
      · skip
        refine drw2 [0,1] [(2,[3,4,5]),(6,[7,8,9,10,12,13]),(11,[]),(14,[15,16,17])] 4 (k:=18) ?_
        intro G hG
        simp [go_sem,cP_len hxl hyl,e1,e2]
        refine cl_eq f1 (one_cI _) ?_
        simp [go_sem,cP_len hxl hyl,e1,e2,SaW]
        refine cl_eq f2 (one_cI _) ?_
        simp [go_sem,SaW]
        refine hG _ _ ?_
        simp [go_sem,resV]
        exact post_same (by simp [AV.deep,AV.deep1]) rfl
      · skip
        refine drw2 [0,1] [(2,[3,4,5]),(6,[7,8,9,10,12,13]),(11,[]),(14,[15,16,17])] 4 (k:=18) ?_
        intro G hG
        simp [go_sem,cP_len hxl hyl,e1,e2]
        refine cl_eq f1 (one_cI _) ?_
        simp [go_sem,cP_len hxl hyl,e1,e2,SaW]
        refine cl_eq f2 (one_cI _) ?_
        simp [go_sem,cP_len hxl hyl,e1,e2,SaW]
        refine cl_eq f3 (one_cI _) ?_
        simp [go_sem,cP_len hxl hyl,e1,e2,SaW]
        refine cl_eq f4 (one_cI _) ?_
        simp [go_sem,ints_cI,hsl,hrl,SaW]
        refine hG _ _ ?_
        simp [go_sem,resV]
        exact post_same (by simp [AV.deep,AV.deep1]) rfl
  · have hv:decide (lP x y true=lP zI zI true)=true ↔ isPt x y true:=by
      rw [decide_eq_true_iff]
      refine ⟨fun h=>.inl ⟨rfl,?_⟩,fun h=>?_⟩
      · match x,y,hxl,hyl with
        | [a,b,c,d],[e,f,g,i],_,_ =>
          simp [lP,zI] at h
          obtain ⟨rfl,rfl,rfl,rfl,rfl,rfl,rfl,rfl⟩:=h
          exact ⟨rfl,rfl⟩
      · rcases h with ⟨_,rfl,rfl⟩ | ⟨h,_⟩
        · rfl
        · cases h
    refine ⟨decide (lP x y true=lP zI zI true),hv,?_⟩
    refine fna Tryz.func209 Tryz.ntmps209 (rs:=[.tmp 2]) (one_cP _ _ _) ?_
    simp [go_sem,cP_len hxl hyl,cP_take hxl hyl,cP_b hxl hyl,cP_g hxl hyl]
    refine drw2 [0] [(1,[2,3])] 1 (k:=4) ?_
    intro G hG
    simp [go_sem,cP_len hxl hyl,cP_take hxl hyl]
    refine cl_eq zero_fn (by simp) ?_
    have k1:=ksP_of hxl hyl true
    have k2:=ksP_of (x:=zI) (y:=zI) rfl rfl true
    have l1:=cP_lits x y true
    have l2:=cP_lits zI zI true
    generalize lP x y true=u at *
    generalize lP zI zI true=v at *
    simp [go_sem,l1,l2,egP,SaW]
    first | refine ⟨k1,k2,hG _ _ ?_⟩ | refine ⟨k1,hG _ _ ?_⟩
    simp [go_sem,resV]
    exact post_same (by simp [AV.deep,AV.deep1]) rfl
theorem taken_ex (x y:List Int) (b:Bool) (hx:Wn 4 x) (hy:Wn 4 y):∃ (u v:List Int) (c:Bool),Wn 4 u∧Wn 4 v∧(isPt u v c∧(isPt x y b→u=x∧v=y∧c=b)∧(¬ isPt x y b→u=zI∧v=zI∧c=true))∧Rets Tryz.prog 169 [.agg (cP x y b)] (fun r=>r=.agg (cP u v c)):=by
  obtain ⟨o,vo,f1⟩:=on_ex x y b hx hy
  have hxl:=hx.1
  have hyl:=hy.1
  have zd:(cP zI zI false).drop 9=[]:=cP_drop rfl rfl _
  have zl:(cP zI zI true).length=9:=rfl
  have zt:(cP zI zI true).take 9=cP zI zI true:=cP_take rfl rfl _
  have zl2:(cP zI zI false).length=9:=rfl
  cases o
  · refine ⟨zI,zI,true,zI_W,zI_W,⟨isPt_z,fun h=>absurd (vo.2 h) (by decide),fun _=>⟨rfl,rfl,rfl⟩⟩,?_⟩
    refine fna Tryz.func169 Tryz.ntmps169 (rs:=[.cell 2 200]) (one_cP _ _ _) ?_
    simp [go_sem,cP_len hxl hyl,cP_take hxl hyl]
    refine cl_eq f1 (one_cP _ _ _) ?_
    simp [go_sem]
    refine cl_eq zero_fn (by simp) ?_
    simp [go_sem,zl,zt,zd,zl2,resV]
    exact post_p rfl
  · refine ⟨x,y,b,hx,hy,⟨vo.1 rfl,fun _=>⟨rfl,rfl,rfl⟩,fun h=>absurd (vo.1 rfl) h⟩,?_⟩
    refine fna Tryz.func169 Tryz.ntmps169 (rs:=[.cell 2 200]) (one_cP _ _ _) ?_
    simp [go_sem,cP_len hxl hyl,cP_take hxl hyl]
    refine cl_eq f1 (one_cP _ _ _) ?_
    simp [go_sem,cP_len hxl hyl,cP_take hxl hyl,zd,zl2,resV]
    exact post_p rfl
def cV (x y z:List Int):List AV:=cI x ++ (cI y ++ cI z)
theorem cV_len {x y z:List Int} (hx:x.length=4) (hy:y.length=4) (hz:z.length=4):(cV x y z).length=12:=by simp [cV,cI_len,hx,hy,hz]
theorem cV_take {x y z:List Int} (hx:x.length=4) (hy:y.length=4) (hz:z.length=4):(cV x y z).take 12=cV x y z:=List.take_of_length_le (by rw [cV_len hx hy hz];omega)
theorem cV_drop {x y z:List Int} (hx:x.length=4) (hy:y.length=4) (hz:z.length=4):(cV x y z).drop 12=[]:=List.drop_eq_nil_of_le (by rw [cV_len hx hy hz];omega)
theorem cV_x {x y z:List Int} (hx:x.length=4):(cV x y z).take 4=cI x:=by
  unfold cV;rw [List.take_append_of_le_length (by rw [cI_len];omega),cI_take hx]
theorem cV_y {x y z:List Int} (hx:x.length=4) (hy:y.length=4):((cV x y z).drop 4).take 4=cI y:=by
  unfold cV;rw [List.drop_append_of_le_length (by rw [cI_len];omega),cI_drop hx,List.nil_append,List.take_append_of_le_length (by rw [cI_len];omega),cI_take hy]
theorem cV_z {x y z:List Int} (hx:x.length=4) (hy:y.length=4) (hz:z.length=4):((cV x y z).drop 8).take 4=cI z:=by
  have e:cV x y z=(cI x ++ cI y) ++ cI z:=by simp [cV]
  rw [e,List.drop_append_of_le_length (by simp [cI_len,hx,hy]),List.drop_eq_nil_of_le (by simp [cI_len,hx,hy]),List.nil_append,cI_take hz]
theorem cV_deep (x y z:List Int):(AV.agg (cV x y z)).deep:=by
  intro v hv
  unfold cV at hv
  rcases List.mem_append.1 hv with hv | hv
  · exact cI_deep _ v hv
  · rcases List.mem_append.1 hv with hv | hv
    · exact cI_deep _ v hv
    · exact cI_deep _ v hv
theorem one_cV (x y z:List Int):∀ v,v ∈ [AV.agg (cV x y z)]→v.deep:=by
  intro v hv;simp at hv;subst hv;exact cV_deep _ _ _
theorem cV_low (n:Nat) (x y z:List Int):∀ v,v ∈ cV x y z→v.low1 n:=by
  intro v hv
  unfold cV at hv
  rcases List.mem_append.1 hv with hv | hv
  · exact cI_low _ _ v hv
  · rcases List.mem_append.1 hv with hv | hv
    · exact cI_low _ _ v hv
    · exact cI_low _ _ v hv
theorem post_v {Q:AV→Prop} {st:St} {x y z:List Int} (hq:Q (.agg (cV x y z))):PostK Q (.agg (cV x y z)) st:=post_same (cV_deep _ _ _) hq
theorem zzV:tzO Tryz.prog 236=some (cV zI zI zI):=by kernel_rfl
attribute [go_sem] zzV
def oneI:List Int:=[1,0,0,0]
theorem oneI_W:Wn 4 oneI:=fromI_W ⟨by omega,by omega⟩
theorem isZero_ex (x y z:List Int) (hx:Wn 4 x) (hy:Wn 4 y) (hz:Wn 4 z):Rets Tryz.prog 210 [.agg (cV x y z)] (fun r=>r=.d (.bool (decide (z=zI)))):=by
  have hxl:=hx.1
  have hyl:=hy.1
  have hzl:=hz.1
  refine fna Tryz.func210 Tryz.ntmps210 (rs:=[.tmp 2]) (one_cV _ _ _) ?_
  have iz:intsOf .u64 [AV.d (.int .u64 0),AV.d (.int .u64 0),AV.d (.int .u64 0),AV.d (.int .u64 0)]=some zI:=ints_cI zI
  simp [go_sem,cV_len hxl hyl hzl,cV_take hxl hyl hzl,cV_z hxl hyl hzl,ints_cI,iz,hzl,resV]
  exact post_same (by simp [AV.deep,AV.deep1]) rfl
theorem V_one:V oneI=1:=by simp [V,oneI]
theorem FV_one:FV oneI=1:=FV_n 1 (by omega)
theorem JV_z:JV oneI oneI zI=none:=by
  show jac fd (FV oneI) (FV oneI) (FV zI)=none
  rw [FV_z];exact jac_z fd _ _
theorem isJ_z:isJ oneI oneI zI:=by
  have hz:V zI=0:=by simp [V,zI]
  refine ⟨⟨by rw [V_one];decide,by rw [V_one];decide,by rw [hz];decide⟩,by rw [JV_z];trivial⟩
theorem F_one_ne:(1:F) ≠ 0:=fd.one
theorem mul1 (a:F):a=a*(1*1):=by grobner
theorem mul1' (a:F):a=a*(1*1*1):=by grobner
theorem JV_one (x y:List Int):JV x y oneI=some (FV x,FV y):=by
  show jac fd (FV x) (FV y) (FV oneI)=_
  rw [FV_one]
  exact jac_is fd F_one_ne (mul1 _) (mul1' _)
theorem weigh_V {x y:List Int} (h:isPt x y false):isJ x y oneI∧JV x y oneI=PV x y false:=by
  have e:JV x y oneI=PV x y false:=JV_one x y
  have ho:=isPt_on h
  rcases h with ⟨h,_⟩ | ⟨_,h1,h2,_⟩
  · cases h
  · exact ⟨⟨⟨h1,h2,by rw [V_one];decide⟩,by rw [e];exact ho⟩,e⟩
theorem mkV {x y:List Int} (hx:x.length=4) (hy:y.length=4):List.take 8 (cI x ++ (cI y ++ List.drop 8 (cI x ++ [AV.d (.int .u64 0),AV.d (.int .u64 0),AV.d (.int .u64 0),AV.d (.int .u64 0),AV.d (.int .u64 0),AV.d (.int .u64 0),AV.d (.int .u64 0),AV.d (.int .u64 0)]))) ++ (cI [1,0,0,0] ++ List.drop 12 (cI x ++ (cI y ++ List.drop 8 (cI x ++ [AV.d (.int .u64 0),AV.d (.int .u64 0),AV.d (.int .u64 0),AV.d (.int .u64 0),AV.d (.int .u64 0),AV.d (.int .u64 0),AV.d (.int .u64 0),AV.d (.int .u64 0)]))))=cV x y oneI:=by
  match x,y,hx,hy with
  | [a,b,c,d],[e,f,g,h],_,_=>rfl
theorem weigh_ex (x y:List Int) (b:Bool) (hx:Wn 4 x) (hy:Wn 4 y):∃ (u v w:List Int),Wn 4 u∧Wn 4 v∧Wn 4 w∧(isPt x y b→isJ u v w∧JV u v w=PV x y b)∧Rets Tryz.prog 168 [.agg (cP x y b)] (fun r=>r=.agg (cV u v w)):=by
  have hxl:=hx.1
  have hyl:=hy.1
  cases b
  · refine ⟨x,y,oneI,hx,hy,oneI_W,weigh_V,?_⟩
    refine fna Tryz.func168 Tryz.ntmps168 (rs:=[.cell 2 236]) (one_cP _ _ _) ?_
    have e1:∀ c:Bool,(cP x y c).take 4=cI x:=cP_x hxl
    have e2:∀ c:Bool,((cP x y c).drop 4).take 4=cI y:=cP_y hxl hyl
    simp [go_sem,cP_len hxl hyl,cP_take hxl hyl,cP_b hxl hyl,cP_g hxl hyl]
    refine drw2 [0,1,2,3] [(4,[5]),(6,[])] 1 (k:=7) ?_
    intro G hG
    simp [go_sem,cP_len hxl hyl,e1,e2]
    refine cl_eq (fromI_fn 1) (one_i _) ?_
    simp [go_sem,hxl,hyl]
    rw [mkV hxl hyl]
    refine hG _ _ ?_
    have ol:oneI.length=4:=rfl
    simp [go_sem,cV_len hxl hyl ol,cV_take hxl hyl ol,resV]
    exact post_v rfl
  · refine ⟨oneI,oneI,zI,oneI_W,oneI_W,zI_W,fun _=>⟨isJ_z,JV_z⟩,?_⟩
    refine fna Tryz.func168 Tryz.ntmps168 (rs:=[.cell 2 236]) (one_cP _ _ _) ?_
    simp [go_sem,cP_len hxl hyl,cP_take hxl hyl,cP_b hxl hyl,cP_g hxl hyl]
    refine cl_eq (fromI_fn 1) (one_i _) ?_
    simp [go_sem]
    refine cl_eq (fromI_fn 1) (one_i _) ?_
    simp [go_sem,resV]
    exact post_v (x:=oneI) (y:=oneI) (z:=zI) rfl
theorem lw_deep (c:Int) (a:List Int):∀ v,v ∈ [AV.d (.int .u64 c),AV.agg (cI a)]→v.deep:=by
  intro v hv;simp at hv;rcases hv with rfl | rfl;trivial;exact cI_deepA _
theorem times_ex (n:Int) (a:List Int) (hn:R64 n) (ha:Wn 4 a):∃ r,Wn 4 r∧(V r<pZ∧FV r=FV [n,0,0,0]*FV a)∧Rets Tryz.prog 212 [.d (.int .u64 n),.agg (cI a)] (fun x=>x=.agg (cI r)):=by
  obtain ⟨r,hr,vr,f1⟩:=fmulv [n,0,0,0] a (fromI_W hn) ha
  unfold W2 at f1
  have hal:=ha.1
  have hrl:=hr.1
  have hz:List.drop 4 (cI zI)=[]:=cI_drop rfl
  refine ⟨r,hr,vr,?_⟩
  refine fna Tryz.func212 Tryz.ntmps212 (rs:=[.cell 4 198]) (lw_deep _ _) ?_
  simp [go_sem,hal,cI_take hal]
  refine drw3 [0,2] [1,3,4] [0,2] (.step 1 [] true (.step 3 [] false (.step 4 [] false .done))) ⟨[(4,.ptr 32 0 0 1)],[(32,⟨198,4,[cI r]⟩)],9000⟩ (k:=5) ?h3 ?hq
  case h3 =>
    intro G hG
    have hW:∀ (fr:Fr) (hp:Hp),(fv 4 fr=.ptr 32 0 0 1∧lk 32 hp=some ⟨198,4,[cI r]⟩)→G fr hp:=by
      rintro fr hp ⟨q0,q1⟩
      exact hG _ _ wkA
    simp [go_sem,hal,cI_take hal,hrl,cI_take hrl,hz,SaW]
    repeat' first | exact hW _ _ ⟨rfl,rfl⟩ | (refine hW _ _ ?_;simp [fv,lk];done) | refine cl_eq (fromI_fn n) (one_i _) ?_ | refine cl_eq f1 (two_cI _ _) ?_ | apply And.intro | simp [go_sem,hal,cI_take hal,hrl,cI_take hrl,hz,SaW]
  case hq =>
    simp [go_sem,hrl,cI_take hrl,resV]
    exact post_w rfl
theorem mk8 {x y:List Int} (hx:x.length=4) (hy:y.length=4):List.take 8 (cI x ++ (cI y ++ List.drop 8 (cI x ++ [AV.d (.int .u64 0),AV.d (.int .u64 0),AV.d (.int .u64 0),AV.d (.int .u64 0),AV.d (.int .u64 0),AV.d (.int .u64 0),AV.d (.int .u64 0),AV.d (.int .u64 0)])))=cI x ++ cI y:=by
  match x,y,hx,hy with
  | [a,b,c,d],[e,f,g,h],_,_=>rfl
theorem mk12 {x y:List Int} (hx:x.length=4) (hy:y.length=4):List.drop 12 (cI x ++ (cI y ++ List.drop 8 (cI x ++ [AV.d (.int .u64 0),AV.d (.int .u64 0),AV.d (.int .u64 0),AV.d (.int .u64 0),AV.d (.int .u64 0),AV.d (.int .u64 0),AV.d (.int .u64 0),AV.d (.int .u64 0)])))=[]:=by
  match x,y,hx,hy with
  | [a,b,c,d],[e,f,g,h],_,_=>rfl
theorem doubled_ex (x y z:List Int) (hx:Wn 4 x) (hy:Wn 4 y) (hz:Wn 4 z):∃ (u v w:List Int),Wn 4 u∧Wn 4 v∧Wn 4 w∧(isJ x y z→isJ u v w∧JV u v w=sum fd (JV x y z) (JV x y z))∧Rets Tryz.prog 172 [.agg (cV x y z)] (fun r=>r=.agg (cV u v w)):=by
  obtain ⟨y2,h1,g1,f1⟩:=sq_ex y hy
  obtain ⟨m1,h2,g2,f2⟩:=fmulv x y2 hx h1
  obtain ⟨s,h3,g3,f3⟩:=times_ex 4 m1 ⟨by omega,by omega⟩ h2
  obtain ⟨x2,h4,g4,f4⟩:=sq_ex x hx
  obtain ⟨m,h5,g5,f5⟩:=times_ex 3 x2 ⟨by omega,by omega⟩ h4
  obtain ⟨m2,h6,g6,f6⟩:=sq_ex m h5
  obtain ⟨s2,h7,g7,f7⟩:=times_ex 2 s ⟨by omega,by omega⟩ h3
  obtain ⟨X,h8,g8,f8⟩:=fsubv m2 s2 h6 h7
  obtain ⟨d,h9,g9,f9⟩:=fsubv s X h3 h8
  obtain ⟨e,h10,g10,f10⟩:=fmulv m d h5 h9
  obtain ⟨y4,h11,g11,f11⟩:=sq_ex y2 h1
  obtain ⟨y8,h12,g12,f12⟩:=times_ex 8 y4 ⟨by omega,by omega⟩ h11
  obtain ⟨Y,h13,g13,f13⟩:=fsubv e y8 h10 h12
  obtain ⟨yz,h14,g14,f14⟩:=fmulv y z hy hz
  obtain ⟨Z,h15,g15,f15⟩:=times_ex 2 yz ⟨by omega,by omega⟩ h14
  obtain ⟨wu,wv,ww,h16,h17,h18,g16,f16⟩:=weigh_ex zI zI true zI_W zI_W
  unfold W1 at f1 f4 f6 f11
  unfold W2 at f2 f8 f9 f10 f13 f14
  have l1:=h1.1
  have l2:=h2.1
  have l3:=h3.1
  have l4:=h4.1
  have l5:=h5.1
  have l6:=h6.1
  have l7:=h7.1
  have l8:=h8.1
  have l9:=h9.1
  have l10:=h10.1
  have l11:=h11.1
  have l12:=h12.1
  have l13:=h13.1
  have l14:=h14.1
  have l15:=h15.1
  have l16:=h16.1
  have l17:=h17.1
  have l18:=h18.1
  have hxl:=hx.1
  have hyl:=hy.1
  have hzl:=hz.1
  have z4:List.drop 4 (cI zI)=[]:=cI_drop rfl
  have vl:=cV_len hxl hyl hzl
  have vt:=cV_take hxl hyl hzl
  have v1:(cV x y z).take 4=cI x:=cV_x hxl
  have v2:=cV_y (z:=z) hxl hyl
  have v3:=cV_z hxl hyl hzl
  have iz:intsOf .u64 [AV.d (.int .u64 0),AV.d (.int .u64 0),AV.d (.int .u64 0),AV.d (.int .u64 0)]=some zI:=ints_cI zI
  have f0:=isZero_ex x y z hx hy hz
  have wd:(cV zI zI zI).drop 12=[]:=cV_drop rfl rfl rfl
  have wl:(cV zI zI zI).length=12:=rfl
  have ul:=cV_len l16 l17 l18
  have ut:=cV_take l16 l17 l18
  by_cases q0:z=zI ∨ y=zI
  · have vv:isJ x y z→isJ wu wv ww∧JV wu wv ww=sum fd (JV x y z) (JV x y z):=by
      intro hj
      obtain ⟨k1,k2⟩:=g16 isPt_z
      rcases q0 with q | q
      · have e:JV x y z=none:=by rw [q];show jac fd _ _ (FV zI)=none;rw [FV_z];exact jac_z fd _ _
        exact ⟨k1,by rw [k2,e,PV_z];exact (sum_none fd (Q:=none) True.intro).symm⟩
      · by_cases q1:z=zI
        · have e:JV x y z=none:=by rw [q1];show jac fd _ _ (FV zI)=none;rw [FV_z];exact jac_z fd _ _
          exact ⟨k1,by rw [k2,e,PV_z];exact (sum_none fd (Q:=none) True.intro).symm⟩
        · have hz0:FV z ≠ 0:=fun h=>q1 ((FV_zero hz hj.1.2.2).1 h)
          exact absurd (by rw [q,FV_z]) (jac_double fd hz0 hj.2).2.1
    refine ⟨wu,wv,ww,h16,h17,h18,vv,?_⟩
    refine fna Tryz.func172 Tryz.ntmps172 (rs:=[.cell 2 236]) (one_cV _ _ _) ?_
    simp [go_sem,vl,vt]
    refine cl_eq f0 (one_cV _ _ _) ?_
    by_cases q1:z=zI
    · simp [go_sem,q1]
      refine cl_eq zero_fn (by simp) ?_
      simp [go_sem]
      refine cl_eq f16 (one_cP _ _ _) ?_
      simp [go_sem,ul,ut,wd,wl,resV]
      exact post_v rfl
    · have q2:y=zI:=q0.resolve_left q1
      simp [go_sem,q1,v2,vl,ints_cI,iz,hyl]
      refine ⟨fun _=>?_,fun h=>absurd q2 h⟩
      refine cl_eq zero_fn (by simp) ?_
      simp [go_sem]
      refine cl_eq f16 (one_cP _ _ _) ?_
      simp [go_sem,ul,ut,wd,wl,resV]
      exact post_v rfl
  · have q1:z ≠ zI:=fun h=>q0 (.inl h)
    have q2:y ≠ zI:=fun h=>q0 (.inr h)
    have vv:isJ x y z→isJ X Y Z∧JV X Y Z=sum fd (JV x y z) (JV x y z):=by
      intro hj
      have hz0:FV z ≠ 0:=fun h=>q1 ((FV_zero hz hj.1.2.2).1 h)
      obtain ⟨_,_,e⟩:=jac_double fd hz0 hj.2
      have n2:FV [2,0,0,0]=2:=FV_n 2 (by omega)
      have n3:FV [3,0,0,0]=3:=FV_n 3 (by omega)
      have n4:FV [4,0,0,0]=4:=FV_n 4 (by omega)
      have n8:FV [8,0,0,0]=8:=FV_n 8 (by omega)
      have eX:FV X=3*(FV x*FV x)*(3*(FV x*FV x)) - 2*(4*(FV x*(FV y*FV y))):=by
        rw [g8.2,g6.2,g5.2,g4.2,g7.2,g3.2,g2.2,g1.2,n2,n3,n4]
      have eY:FV Y=3*(FV x*FV x)*(4*(FV x*(FV y*FV y)) - (3*(FV x*FV x)*(3*(FV x*FV x)) - 2*(4*(FV x*(FV y*FV y))))) - 8*(FV y*FV y*(FV y*FV y)):=by
        rw [g13.2,g10.2,g9.2,eX,g5.2,g4.2,g3.2,g2.2,g12.2,g11.2,g1.2,n3,n4,n8]
      have eZ:FV Z=2*(FV y*FV z):=by rw [g15.2,g14.2,n2]
      have e2:JV X Y Z=sum fd (JV x y z) (JV x y z):=by
        show jac fd (FV X) (FV Y) (FV Z)=_
        rw [eX,eY,eZ]
        exact e
      exact ⟨⟨⟨g8.1,g13.1,g15.1⟩,by rw [e2];exact sum_on fd hj.2 hj.2⟩,e2⟩
    refine ⟨X,Y,Z,h8,h13,h15,vv,?_⟩
    refine fna Tryz.func172 Tryz.ntmps172 (rs:=[.cell 2 236]) (one_cV _ _ _) ?_
    simp [go_sem,vl,vt]
    refine cl_eq f0 (one_cV _ _ _) ?_
    simp [go_sem,q1,q2,v2,vl,ints_cI,iz,hyl]
    refine cl_eq f1 (one_cI _) ?_
    simp [go_sem,l1,cI_take l1,z4,v1,vl]
    refine cl_eq f2 (two_cI _ _) ?_
    simp [go_sem]
    refine cl_eq f3 (lw_deep _ _) ?_
    simp [go_sem,l3,cI_take l3,z4,v1,vl]
    refine cl_eq f4 (one_cI _) ?_
    simp [go_sem]
    refine cl_eq f5 (lw_deep _ _) ?_
    simp [go_sem,l5,cI_take l5,z4]
    refine drw3 [0,2] [1,3,4,5,6] [0,2] (.alt (.step 1 [] true (.alt (.step 3 [] false (.alt (.step 4 [] false (.step 5 [] false (.step 6 [] false .done))) (.step 5 [] false (.step 4 [] false (.step 6 [] false .done))))) (.step 5 [] true (.step 3 [] false (.step 4 [] false (.step 6 [] false .done)))))) (.step 5 [] true (.step 1 [] true (.step 3 [] false (.step 4 [] false (.step 6 [] false .done)))))) ⟨[(1,.ptr 0 0 0 1),(2,.ptr 32 0 0 1),(3,.ptr 416 0 0 1),(4,.ptr 640 0 0 1),(5,.ptr 832 0 0 1),(6,.ptr 1056 0 0 1)],[(1056,⟨198,4,[cI X]⟩),(832,⟨198,4,[cI m]⟩),(640,⟨198,4,[cI s]⟩),(416,⟨198,4,[cI y2]⟩),(32,⟨236,12,[cV zI zI zI]⟩),(0,⟨236,12,[cV x y z]⟩)],9000⟩ (k:=7) ?h3 ?hq
    case h3 =>
      intro G hG
      have hW:∀ (fr:Fr) (hp:Hp),(fv 1 fr=.ptr 0 0 0 1∧fv 2 fr=.ptr 32 0 0 1∧fv 3 fr=.ptr 416 0 0 1∧fv 4 fr=.ptr 640 0 0 1∧fv 5 fr=.ptr 832 0 0 1∧fv 6 fr=.ptr 1056 0 0 1∧lk 1056 hp=some ⟨198,4,[cI X]⟩∧lk 832 hp=some ⟨198,4,[cI m]⟩∧lk 640 hp=some ⟨198,4,[cI s]⟩∧lk 416 hp=some ⟨198,4,[cI y2]⟩∧lk 32 hp=some ⟨236,12,[cV zI zI zI]⟩∧lk 0 hp=some ⟨236,12,[cV x y z]⟩)→G fr hp:=by
        rintro fr hp ⟨q0,q1,q2,q3,q4,q5,q6,q7,q8,q9,q10,q11⟩
        exact hG _ _ wkA
      simp [go_sem,l1,l3,l5,l8,l13,cI_take l1,cI_take l3,cI_take l5,cI_take l8,cI_take l13,z4,SaW]
      repeat' first | exact hW _ _ ⟨rfl,rfl,rfl,rfl,rfl,rfl,rfl,rfl,rfl,rfl,rfl,rfl⟩ | (refine hW _ _ ?_;simp [fv,lk];done) | refine cl_eq f6 (one_cI _) ?_ | refine cl_eq f7 (lw_deep _ _) ?_ | refine cl_eq f8 (two_cI _ _) ?_ | apply And.intro | simp [go_sem,l1,l3,l5,l8,l13,cI_take l1,cI_take l3,cI_take l5,cI_take l8,cI_take l13,z4,SaW]
    case hq =>
      simp [go_sem]
      refine drw3 [0,1,2,5] [3,4,6,7,8,9,10] [0,1,2,5] (.alt (.step 3 [] true (.alt (.step 4 [] true (.alt (.step 6 [] false (.alt (.step 7 [] false (.alt (.step 8 [] false (.step 9 [] false (.step 10 [] false .done))) (.step 9 [] false (.step 8 [] false (.step 10 [] false .done))))) (.step 9 [] false (.step 7 [] false (.step 8 [] false (.step 10 [] false .done)))))) (.step 9 [] true (.step 6 [] false (.step 7 [] false (.step 8 [] false (.step 10 [] false .done))))))) (.step 9 [] true (.step 4 [] true (.step 6 [] false (.step 7 [] false (.step 8 [] false (.step 10 [] false .done)))))))) (.step 9 [] true (.step 3 [] true (.step 4 [] true (.step 6 [] false (.step 7 [] false (.step 8 [] false (.step 10 [] false .done)))))))) ⟨[(1,.ptr 0 0 0 1),(2,.ptr 32 0 0 1),(3,.ptr 416 0 0 1),(4,.ptr 640 0 0 1),(5,.ptr 832 0 0 1),(6,.ptr 1056 0 0 1),(7,.ptr 9288 0 0 1)],[(9288,⟨198,4,[cI Y]⟩),(1056,⟨198,4,[cI X]⟩),(832,⟨198,4,[cI m]⟩),(640,⟨198,4,[cI s]⟩),(416,⟨198,4,[cI y2]⟩),(32,⟨236,12,[cV zI zI zI]⟩),(0,⟨236,12,[cV x y z]⟩)],20000⟩ (k:=11) ?h3 ?hq
      case h3 =>
        intro G hG
        have hW:∀ (fr:Fr) (hp:Hp),(fv 1 fr=.ptr 0 0 0 1∧fv 2 fr=.ptr 32 0 0 1∧fv 3 fr=.ptr 416 0 0 1∧fv 4 fr=.ptr 640 0 0 1∧fv 5 fr=.ptr 832 0 0 1∧fv 6 fr=.ptr 1056 0 0 1∧fv 7 fr=.ptr 9288 0 0 1∧lk 9288 hp=some ⟨198,4,[cI Y]⟩∧lk 1056 hp=some ⟨198,4,[cI X]⟩∧lk 832 hp=some ⟨198,4,[cI m]⟩∧lk 640 hp=some ⟨198,4,[cI s]⟩∧lk 416 hp=some ⟨198,4,[cI y2]⟩∧lk 32 hp=some ⟨236,12,[cV zI zI zI]⟩∧lk 0 hp=some ⟨236,12,[cV x y z]⟩)→G fr hp:=by
          rintro fr hp ⟨q0,q1,q2,q3,q4,q5,q6,q7,q8,q9,q10,q11,q12,q13⟩
          exact hG _ _ wkA
        simp [go_sem,l1,l3,l5,l8,l13,cI_take l1,cI_take l3,cI_take l5,cI_take l8,cI_take l13,z4,SaW]
        repeat' first | exact hW _ _ ⟨rfl,rfl,rfl,rfl,rfl,rfl,rfl,rfl,rfl,rfl,rfl,rfl,rfl,rfl⟩ | (refine hW _ _ ?_;simp [fv,lk];done) | refine cl_eq f9 (two_cI _ _) ?_ | refine cl_eq f10 (two_cI _ _) ?_ | refine cl_eq f11 (one_cI _) ?_ | refine cl_eq f12 (lw_deep _ _) ?_ | refine cl_eq f13 (two_cI _ _) ?_ | apply And.intro | simp [go_sem,l1,l3,l5,l8,l13,cI_take l1,cI_take l3,cI_take l5,cI_take l8,cI_take l13,z4,SaW]
      case hq =>
        simp only [go_sem,Nat.reduceEqDiff,Nat.reduceAdd,Nat.reduceLT,↓reduceIte]
        refine drw2 [0,1,2,3,4,5] [(6,[]),(7,[8]),(9,[])] 2 (k:=10) ?_
        intro G hG
        simp [go_sem,l8,l13,cI_take l8,cI_take l13,v2,v3,vl]
        refine cl_eq f14 (two_cI _ _) ?_
        simp [go_sem]
        refine cl_eq f15 (lw_deep _ _) ?_
        have ev:cI X ++ (cI Y ++ cI Z)=cV X Y Z:=rfl
        have xl:=cV_len l8 l13 l15
        have xt:=cV_take l8 l13 l15
        simp [go_sem,l8,l13,l15,wl,wd,mk8 l8 l13,mk12 l8 l13,ev,xl,SaW]
        refine hG _ _ ?_
        simp [go_sem,xl,xt,resV]
        exact post_v rfl
theorem mkP {x y:List Int} (hx:x.length=4) (hy:y.length=4):cI x ++ (cI y ++ List.drop 8 (cI x ++ [AV.d (.int .u64 0),AV.d (.int .u64 0),AV.d (.int .u64 0),AV.d (.int .u64 0),AV.d (.bool false)]))=cP x y false:=by
  match x,y,hx,hy with
  | [a,b,c,d],[e,f,g,h],_,_=>rfl
theorem plain_ex (x y z:List Int) (hx:Wn 4 x) (hy:Wn 4 y) (hz:Wn 4 z):∃ (u v:List Int) (c:Bool),Wn 4 u∧Wn 4 v∧(isJ x y z→isPt u v c∧PV u v c=JV x y z)∧Rets Tryz.prog 174 [.agg (cV x y z)] (fun r=>r=.agg (cP u v c)):=by
  obtain ⟨i,h1,g1,f1⟩:=finvv z hz
  obtain ⟨i2,h2,g2,f2⟩:=sq_ex i h1
  obtain ⟨X,h3,g3,f3⟩:=fmulv x i2 hx h2
  obtain ⟨i3,h4,g4,f4⟩:=fmulv i2 i h2 h1
  obtain ⟨Y,h5,g5,f5⟩:=fmulv y i3 hy h4
  unfold W1 at f1 f2
  unfold W2 at f3 f4 f5
  have l1:=h1.1
  have l2:=h2.1
  have l3:=h3.1
  have l5:=h5.1
  have hxl:=hx.1
  have hyl:=hy.1
  have hzl:=hz.1
  have z4:List.drop 4 (cI zI)=[]:=cI_drop rfl
  have vl:=cV_len hxl hyl hzl
  have vt:=cV_take hxl hyl hzl
  have v1:(cV x y z).take 4=cI x:=cV_x hxl
  have v2:=cV_y (z:=z) hxl hyl
  have v3:=cV_z hxl hyl hzl
  have f0:=isZero_ex x y z hx hy hz
  have zd:(cP zI zI false).drop 9=[]:=cP_drop rfl rfl _
  have zl:(cP zI zI true).length=9:=rfl
  have zt:(cP zI zI true).take 9=cP zI zI true:=cP_take rfl rfl _
  have zl2:(cP zI zI false).length=9:=rfl
  by_cases q1:z=zI
  · have vv:isJ x y z→isPt zI zI true∧PV zI zI true=JV x y z:=by
      intro _
      refine ⟨isPt_z,?_⟩
      rw [q1,PV_z]
      show none=jac fd _ _ (FV zI)
      rw [FV_z];exact (jac_z fd _ _).symm
    refine ⟨zI,zI,true,zI_W,zI_W,vv,?_⟩
    refine fna Tryz.func174 Tryz.ntmps174 (rs:=[.cell 2 200]) (one_cV _ _ _) ?_
    simp [go_sem,vl,vt]
    refine cl_eq f0 (one_cV _ _ _) ?_
    simp [go_sem,q1]
    refine cl_eq zero_fn (by simp) ?_
    simp [go_sem,zl,zt,zd,zl2,resV]
    exact post_p rfl
  · have vv:isJ x y z→isPt X Y false∧PV X Y false=JV x y z:=by
      intro hj
      have hz0:FV z ≠ 0:=fun h=>q1 ((FV_zero hz hj.1.2.2).1 h)
      have e:PV X Y false=JV x y z:=by
        show some (FV X,FV Y)=jac fd (FV x) (FV y) (FV z)
        rw [jac,if_neg hz0,g3.2,g5.2,g4.2,g2.2,g1.2]
      have ho:onC (PV X Y false):=by rw [e];exact hj.2
      exact ⟨.inr ⟨rfl,g3.1,g5.1,ho⟩,e⟩
    refine ⟨X,Y,false,h3,h5,vv,?_⟩
    refine fna Tryz.func174 Tryz.ntmps174 (rs:=[.cell 2 200]) (one_cV _ _ _) ?_
    simp [go_sem,vl,vt]
    refine cl_eq f0 (one_cV _ _ _) ?_
    simp [go_sem,q1,v3,vl]
    refine cl_eq f1 (one_cI _) ?_
    simp [go_sem,l1,cI_take l1,z4]
    refine cl_eq f2 (one_cI _) ?_
    simp [go_sem,l2,cI_take l2,z4]
    refine drw2 [0,1,2,4,5,6,7] [(3,[]),(8,[]),(9,[10]),(11,[])] 3 (k:=12) ?_
    intro G hG
    simp [go_sem,l1,l2,cI_take l1,cI_take l2,v1,v2,vl]
    refine cl_eq f3 (two_cI _ _) ?_
    simp [go_sem,l1,l2,cI_take l1,cI_take l2,v1,v2,vl]
    refine cl_eq f4 (two_cI _ _) ?_
    simp [go_sem]
    refine cl_eq f5 (two_cI _ _) ?_
    have pl1:=cP_len l3 l5 false
    have pt1:=cP_take l3 l5 false
    have mp:=mkP l3 l5
    simp [go_sem,l3,l5,zl2,zd,mp,pl1,SaW]
    refine hG _ _ ?_
    simp [go_sem,pl1,pt1,resV]
    exact post_p rfl
theorem bit_ex (n:List Int) (k:Nat) (hn:Wn 4 n) (hk:k<256):∃ b:Bool,(b=true ↔ (V n).toNat / 2 ^ k % 2=1)∧Rets Tryz.prog 173 [.agg (cI n),.d (.int .i64 (k:Int))] (fun r=>r=.d (.bool b)):=by
  have hnl:=hn.1
  have hdq:dq k=k / 64:=rfl
  have hrq:rq k=k % 64:=rfl
  have hnk:=get_D (l:=n) (k:=dq k) (by omega)
  have w4:IntKind.i64.wrap ((k:Int) / 64)=(dq k:Int):=by rw [IntWalk.i64_in _ (by omega)];omega
  have w4b:IntKind.i64.wrap ((k:Int).tdiv 64)=(dq k:Int):=w4
  have e2:(k:Int) % 64=(rq k:Int):=by omega
  have e2b:(k:Int).tmod 64=(rq k:Int):=e2
  have i1:(dq k:Int)<4:=by omega
  have hm64:rq k<64:=by omega
  have hmn:min (rq k) 64=rq k:=by omega
  have bv:=bit_V hn hk
  have hv:(!decide (Go.bits .and .u64 (Int.fdiv (gI n (dq k)) (2 ^ rq k)) 1=0))=true ↔ (V n).toNat / 2 ^ k % 2=1:=by
    rw [Bool.not_eq_true',decide_eq_false_iff_not]
    refine ⟨fun h=>bv.2 h,fun h h0=>?_⟩
    have:=bv.1 h0
    omega
  refine ⟨!decide (Go.bits .and .u64 (Int.fdiv (gI n (dq k)) (2 ^ rq k)) 1=0),hv,?_⟩
  refine fna Tryz.func173 Tryz.ntmps173 (rs:=[.tmp 4]) (wi_deep _ _) ?_
  simp [go_sem,hnl,cI_take hnl,hnk,e2,e2b,w4,w4b,i1,hm64,hmn,IntKind.bits,resV]
  exact post_same (by simp [AV.deep,AV.deep1]) rfl
theorem even_ex (x y:List Int) (b:Bool) (hx:Wn 4 x) (hy:Wn 4 y):∃ o:Bool,(isPt x y b→(o=true ↔ b=false∧V y % 2=0))∧Rets Tryz.prog 132 [.agg (cP x y b)] (fun r=>r=.d (.bool o)):=by
  obtain ⟨u,v,c,hu,hv,tv,f1⟩:=taken_ex x y b hx hy
  have hxl:=hx.1
  have hyl:=hy.1
  have hul:=hu.1
  have hvl:=hv.1
  have xd:(cP x y b).drop 9=[]:=cP_drop hxl hyl _
  have g4:(cP u v false)[4]?=some (.d (.int .u64 (gI v 0))):=by
    unfold cP
    rw [List.getElem?_append_right (by rw [cI_len];omega),cI_len,hul,List.getElem?_append_left (by rw [cI_len];omega),cI_get,get_D (by omega)]
    rfl
  have g4b:∀ h,(cP u v false)[4]'h=.d (.int .u64 (gI v 0)):=fun h=>(List.getElem?_eq_some_iff.1 g4).2
  cases c
  · have hpar:Go.bits .and .u64 (gI v 0) 1=0 ↔ V v % 2=0:=by
      have h0:=Wn_getD (k:=0) hv
      rw [and1_64 _ h0.1 h0.2]
      obtain ⟨r0,r1,r2,r3,e,_⟩:=W4_ex hv
      rw [e,V4]
      show r0 % 2=0 ↔ _
      omega
    have ev:isPt x y b→(decide (Go.bits .and .u64 (gI v 0) 1=0)=true ↔ b=false∧V y % 2=0):=by
      intro hp
      obtain ⟨_,e2,e3⟩:=tv.2.1 hp
      rw [decide_eq_true_iff,hpar,e2]
      exact ⟨fun h=>⟨e3.symm,h⟩,fun h=>h.2⟩
    refine ⟨decide (Go.bits .and .u64 (gI v 0) 1=0),ev,?_⟩
    refine fna Tryz.func132 Tryz.ntmps132 (rs:=[.tmp 2]) (one_cP _ _ _) ?_
    simp [go_sem,cP_len hxl hyl,cP_take hxl hyl]
    refine cl_eq f1 (one_cP _ _ _) ?_
    simp [go_sem,cP_len hxl hyl,cP_len hul hvl,xd,cP_b hul hvl,cP_g hul hvl,g4,g4b,resV]
    exact post_same (by simp [AV.deep,AV.deep1]) rfl
  · have ev:isPt x y b→(false=true ↔ b=false∧V y % 2=0):=by
      intro hp
      obtain ⟨_,_,e3⟩:=tv.2.1 hp
      rw [← e3]
      exact ⟨fun h=>Bool.noConfusion h,fun h=>Bool.noConfusion h.1⟩
    refine ⟨false,ev,?_⟩
    refine fna Tryz.func132 Tryz.ntmps132 (rs:=[.tmp 2]) (one_cP _ _ _) ?_
    simp [go_sem,cP_len hxl hyl,cP_take hxl hyl]
    refine cl_eq f1 (one_cP _ _ _) ?_
    simp [go_sem,cP_len hxl hyl,cP_len hul hvl,xd,cP_b hul hvl,cP_g hul hvl,resV]
    exact post_same (by simp [AV.deep,AV.deep1]) rfl
def gX:List Int:=[6481385041966929816,188021827762530521,6170039885052185351,8772561819708210092]
theorem gX_W:Wn 4 gX:=⟨rfl,by intro y hy;simp [gX] at hy;rcases hy with rfl | rfl | rfl | rfl <;> exact ⟨by omega,by omega⟩⟩
def gY:List Int:=[11261198710074299576,18237243440184513561,6747795201694173352,5204712524664259685]
theorem gY_W:Wn 4 gY:=⟨rfl,by intro y hy;simp [gY] at hy;rcases hy with rfl | rfl | rfl | rfl <;> exact ⟨by omega,by omega⟩⟩
def odI:List Int:=[13822214165235122497,13451932020343611451,18446744073709551614,18446744073709551615]
theorem odI_W:Wn 4 odI:=⟨rfl,by intro y hy;simp [odI] at hy;rcases hy with rfl | rfl | rfl | rfl <;> exact ⟨by omega,by omega⟩⟩
theorem order_fn:Rets Tryz.prog 208 [] (fun r=>r=.agg (cI odI)):=by
  refine fna Tryz.func208 Tryz.ntmps208 (rs:=[.cell 0 198]) (by simp [AV.deep,AV.deep1]) ?_
  simp [go_sem,cI,zI,resV]
  exact post_w (a:=odI) rfl
theorem base_pt:isPt gX gY false:=by
  have vx:V gX=55066263022277343669578718895168534326250603453777594175500187360389116729240:=by simp [V,gX]
  have vy:V gY=32670510020758816978083085130507043184471273380659243275938904335757337482424:=by simp [V,gY]
  refine .inr ⟨rfl,by rw [vx];decide,by rw [vy];decide,F_ext ?_⟩
  have e7:(((7:F).val:Nat):Int)=7 % pZ:=by
    show ((7 % pP:Nat):Int)=_
    rw [Int.natCast_emod,pP_int];rfl
  rw [valM,valA,valM,valM,Int.natCast_emod,Int.natCast_mul,Int.natCast_emod,Int.natCast_add,Int.natCast_emod,Int.natCast_mul,Int.natCast_emod,Int.natCast_mul,FV_val,FV_val,e7,pP_int,vx,vy]
  decide
theorem base_fn:Rets Tryz.prog 130 [] (fun r=>r=.agg (cP gX gY false)):=by
  refine fna Tryz.func130 Tryz.ntmps130 (rs:=[.cell 0 200]) (by simp [AV.deep,AV.deep1]) ?_
  simp [go_sem,cP,cI,zI,resV]
  exact post_p (x:=gX) (y:=gY) (b:=false) rfl
theorem fold_lt:∀ (l:List Nat),(∀ x,x ∈ l→x<256)→∀ a,l.foldl (fun a x=>a*256+x) a<(a+1)*256 ^ l.length
  | [],_,a=>by simp
  | x :: r,h,a=>by
    have h1:=fold_lt r (fun y hy=>h y (by simp [hy])) (a*256+x)
    have h2:=h x (by simp)
    rw [List.foldl_cons,List.length_cons,Nat.pow_succ]
    have h3:(a*256+x+1)*256 ^ r.length≤((a+1)*256)*256 ^ r.length:=Nat.mul_le_mul_right _ (by omega)
    have h4:(a+1)*256*256 ^ r.length=(a+1)*(256 ^ r.length*256):=by rw [Nat.mul_assoc,Nat.mul_comm 256]
    omega
theorem beN_lt {l:List Nat} (h:∀ x,x ∈ l→x<256) (hl:l.length≤8):beN l<18446744073709551616:=by
  have h1:=fold_lt l h 0
  have h2:256 ^ l.length≤256 ^ 8:=Nat.pow_le_pow_right (by omega) hl
  have h3:(256:Nat) ^ 8=18446744073709551616:=by decide
  unfold beN
  omega
theorem beN_app (a b:List Nat):beN (a ++ b)=beN a*256 ^ b.length+beN b:=by
  have key:∀ (l:List Nat) (c:Nat),l.foldl (fun a x=>a*256+x) c=c*256 ^ l.length+l.foldl (fun a x=>a*256+x) 0:=by
    intro l
    induction l with
    | nil=>intro c;simp
    | cons x r ih =>
      intro c
      rw [List.foldl_cons,List.foldl_cons,ih,ih (0*256+x),List.length_cons,Nat.pow_succ]
      have:(c*256+x)*256 ^ r.length=c*(256 ^ r.length*256)+(0*256+x)*256 ^ r.length:=by
        rw [Nat.add_mul,Nat.mul_assoc,Nat.mul_comm 256,Nat.zero_mul,Nat.zero_add]
      omega
  unfold beN
  rw [List.foldl_append,key]
theorem read_V {b:List Nat} (hb:b.length=32):V ((mulW b 32).map fun (x:Nat)=>(x:Int))=(beN b:Int):=by
  have e:b=Go.Sha.part b 32 3 ++ (Go.Sha.part b 32 2 ++ (Go.Sha.part b 32 1 ++ Go.Sha.part b 32 0)):=by
    unfold Go.Sha.part
    have h32:b.take 32=b:=List.take_of_length_le (by omega)
    rw [h32]
    have h0:(b.drop (8*(3 - 0))).take 8=b.drop 24:=List.take_of_length_le (by rw [List.length_drop];omega)
    have s2:(b.drop (8*(3 - 1))).take 8 ++ b.drop 24=b.drop 16:=by
      have:b.drop 24=(b.drop 16).drop 8:=by rw [List.drop_drop]
      rw [this];exact List.take_append_drop 8 _
    have s3:(b.drop (8*(3 - 2))).take 8 ++ b.drop 16=b.drop 8:=by
      have:b.drop 16=(b.drop 8).drop 8:=by rw [List.drop_drop]
      rw [this];exact List.take_append_drop 8 _
    rw [h0,s2,s3]
    exact (List.take_append_drop 8 b).symm
  have l0:∀ j,j<4→(Go.Sha.part b 32 j).length=8:=by
    intro j hj
    unfold Go.Sha.part
    rw [List.length_take,List.length_drop,List.length_take]
    omega
  have m:mulW b 32=[beN (Go.Sha.part b 32 0),beN (Go.Sha.part b 32 1),beN (Go.Sha.part b 32 2),beN (Go.Sha.part b 32 3)]:=rfl
  have k:beN b=((beN (Go.Sha.part b 32 3)*256 ^ 8+beN (Go.Sha.part b 32 2))*256 ^ 8+beN (Go.Sha.part b 32 1))*256 ^ 8+beN (Go.Sha.part b 32 0):=by
    conv=>lhs;rw [e]
    rw [← List.append_assoc,← List.append_assoc,beN_app,l0 0 (by omega),beN_app,l0 1 (by omega),beN_app,l0 2 (by omega)]
  rw [m,k]
  simp only [List.map_cons,List.map_nil,V4]
  generalize beN (Go.Sha.part b 32 0)=p0
  generalize beN (Go.Sha.part b 32 1)=p1
  generalize beN (Go.Sha.part b 32 2)=p2
  generalize beN (Go.Sha.part b 32 3)=p3
  omega
theorem readI_ex (b:List Nat) (hb:b.length=32) (hby:bytes b):∃ a:List Int,Wn 4 a∧V a=(beN b:Int)∧Rets Tryz.prog 161 [.agg (cb b)] (fun r=>r=.agg (cI a)):=by
  refine ⟨(mulW b 32).map fun (x:Nat)=>(x:Int),⟨by simp [mulW],fun x hx=>?_⟩,read_V hb,?_⟩
  · rw [List.mem_map] at hx
    obtain ⟨y,hy,rfl⟩:=hx
    unfold mulW at hy
    rw [List.mem_map] at hy
    obtain ⟨j,_,rfl⟩:=hy
    have:=beN_lt (l:=Go.Sha.part b 32 j) (fun x hx=>hby x (List.mem_of_mem_take (List.mem_of_mem_drop (List.mem_of_mem_take hx)))) (by unfold Go.Sha.part;rw [List.length_take];omega)
    exact ⟨Int.natCast_nonneg _,by omega⟩
  · have e:cI ((mulW b 32).map fun (x:Nat)=>(x:Int))=cW (mulW b 32):=by unfold cI cW;rw [List.map_map];rfl
    rw [e]
    exact read_fn b hb hby
theorem one_cb1 (b:List Nat):∀ v,v ∈ [AV.agg (cb b)]→v.deep:=by
  intro v hv;simp at hv;subst hv;exact cb_deepA _
theorem sread_ex (b:List Nat) (hb:b.length=32) (hby:bytes b):∃ (r:List Int) (ok:Bool),Wn 4 r∧((beN b<115792089237316195423570985008687907852837564279074904382605163141518161494337→ok=true∧V r=(beN b:Int))∧(¬ beN b<115792089237316195423570985008687907852837564279074904382605163141518161494337→ok=false∧r=zI))∧Rets Tryz.prog 166 [.agg (cb b)] (fun x=>x=.tup [.agg (cI r),.d (.bool ok)]):=by
  obtain ⟨a,ha,va,f1⟩:=readI_ex b hb hby
  obtain ⟨c,vc,f2⟩:=cmpI_ex a odI ha odI_W
  have vo:V odI=115792089237316195423570985008687907852837564279074904382605163141518161494337:=by simp [V,odI]
  rw [vo,va] at vc
  have hal:=ha.1
  have hz:List.drop 4 (cI zI)=[]:=cI_drop rfl
  have zd:List.drop 32 (cb b)=[]:=cb_drop hb
  by_cases h0:0≤c
  · refine ⟨zI,false,zI_W,⟨fun h=>absurd (vc.2 (by omega)) (by omega),fun _=>⟨rfl,rfl⟩⟩,?_⟩
    refine fna Tryz.func166 Tryz.ntmps166 (rs:=[.cell 2 198,.tmp 3]) (one_cb1 b) ?_
    simp [go_sem,cb_len,hb,cb_take hb,zd]
    refine cl_eq f1 (one_cb1 _) ?_
    simp [go_sem,hal,cI_take hal,hz]
    refine drw2 [0] [(1,[]),(2,[3])] 2 (k:=4) ?_
    intro G hG
    simp [go_sem,hal,cI_take hal]
    refine cl_eq order_fn (by simp) ?_
    simp [go_sem]
    refine cl_eq f2 (two_cI _ _) ?_
    simp [go_sem,SaW]
    refine hG _ _ ?_
    simp [go_sem,h0,hz,resV]
    exact post_wb (a:=zI) rfl
  · refine ⟨a,true,ha,⟨fun _=>⟨rfl,va⟩,fun h=>absurd (vc.1 (by omega)) (by omega)⟩,?_⟩
    refine fna Tryz.func166 Tryz.ntmps166 (rs:=[.cell 2 198,.tmp 3]) (one_cb1 b) ?_
    simp [go_sem,cb_len,hb,cb_take hb,zd]
    refine cl_eq f1 (one_cb1 _) ?_
    simp [go_sem,hal,cI_take hal,hz]
    refine drw2 [0] [(1,[]),(2,[3])] 2 (k:=4) ?_
    intro G hG
    simp [go_sem,hal,cI_take hal]
    refine cl_eq order_fn (by simp) ?_
    simp [go_sem]
    refine cl_eq f2 (two_cI _ _) ?_
    simp [go_sem,SaW]
    refine hG _ _ ?_
    simp [go_sem,h0,hal,cI_take hal,hz,resV]
    exact post_wb rfl
theorem post_pb {Q:AV→Prop} {st:St} {x y:List Int} {c b:Bool} (hq:Q (.tup [.agg (cP x y c),.d (.bool b)])):PostK Q (.tup [.agg (cP x y c),.d (.bool b)]) st :=
  post_same (by
    intro c hc
    simp at hc
    rcases hc with rfl | rfl
    · exact .inr ⟨_,rfl,cP_deep _ _ _⟩
    · exact .inl trivial) hq
def liftC (n:Nat):Int:=((n:Int)*n*n+7) % 115792089237316195423570985008687907853269984665640564039457584007908834671663
def liftR (n:Nat):Int:=liftC n ^ 28948022309329048855892746252171976963317496166410141009864396001977208667916 % 115792089237316195423570985008687907853269984665640564039457584007908834671663
def liftOk (n:Nat):Prop:=(n:Int)<115792089237316195423570985008687907853269984665640564039457584007908834671663∧liftR n*liftR n % 115792089237316195423570985008687907853269984665640564039457584007908834671663=liftC n % 115792089237316195423570985008687907853269984665640564039457584007908834671663
def liftS (n:Nat) (x y:List Int) (c ok:Bool):Prop :=
  (¬ liftOk n∧ok=false∧c=true∧x=zI∧y=zI) ∨ (liftOk n∧ok=true∧c=false∧V x=n∧V y=if liftR n % 2=0 then liftR n else (0 - liftR n) % 115792089237316195423570985008687907853269984665640564039457584007908834671663)
theorem right_V {r a:List Int} {n:Nat} (hr:Wn 4 r) (va:V a=n) (vr:V r<pZ∧FV r=FV a*FV a*FV a+7):V r=liftC n:=by
  have e:=congrArg (fun x:F=>((x.val:Nat):Int)) vr.2
  simp only [FV_val] at e
  have e7:(((7:F).val:Nat):Int)=7 % pZ:=by
    show ((7 % pP:Nat):Int)=_
    rw [Int.natCast_emod,pP_int];rfl
  have h0:=(V_lt hr).1
  rw [Int.emod_eq_of_lt h0 vr.1] at e
  rw [e,valA,valM,valM,Int.natCast_emod,Int.natCast_add,Int.natCast_emod,Int.natCast_mul,Int.natCast_emod,Int.natCast_mul,FV_val,e7,pP_int,va]
  unfold liftC
  show _=((n:Int)*n*n+7) % pZ
  rw [← Int.mul_emod (n:Int) n,← Int.mul_emod ((n:Int)*n) n,← Int.add_emod]
theorem liftP_ex (b:List Nat) (hb:b.length=32) (hby:bytes b):∃ (x y:List Int) (c ok:Bool),Wn 4 x∧Wn 4 y∧(liftS (beN b) x y c ok)∧Rets Tryz.prog 126 [.agg (cb b)] (fun r=>r=.tup [.agg (cP x y c),.d (.bool ok)]):=by
  obtain ⟨a,ha,va,f1⟩:=readI_ex b hb hby
  obtain ⟨o,vo,f2⟩:=below_ex a ha
  obtain ⟨r,hr,vr,f3⟩:=right_ex a ha
  obtain ⟨y,ok,hy,vk,vy,vno,f4⟩:=froot_ex r hr
  have hrv:V r=liftC (beN b):=right_V hr va vr
  rw [va] at vo
  rw [hrv] at vk vy
  unfold W1 at f3
  have hal:=ha.1
  have hyl:=hy.1
  have hz:List.drop 4 (cI zI)=[]:=cI_drop rfl
  have zd:List.drop 32 (cb b)=[]:=cb_drop hb
  have pd:(cP zI zI false).drop 9=[]:=cP_drop rfl rfl _
  have zl:(cP zI zI true).length=9:=rfl
  have zt:(cP zI zI true).take 9=cP zI zI true:=cP_take rfl rfl _
  have zl2:(cP zI zI false).length=9:=rfl
  cases o
  · refine ⟨zI,zI,true,false,zI_W,zI_W,.inl ⟨fun h=>absurd (vo.2 h.1) (by decide),rfl,rfl,rfl,rfl⟩,?_⟩
    refine fna Tryz.func126 Tryz.ntmps126 (rs:=[.cell 2 200,.tmp 3]) (one_cb1 b) ?_
    simp [go_sem,cb_len,hb,cb_take hb,zd]
    refine cl_eq f1 (one_cb1 _) ?_
    simp [go_sem,hal,cI_take hal,hz]
    refine cl_eq f2 (one_cI _) ?_
    simp [go_sem]
    refine cl_eq zero_fn (by simp) ?_
    simp [go_sem,zl,zt,pd,zl2,resV]
    exact post_pb rfl
  · cases ok
    · refine ⟨zI,zI,true,false,zI_W,zI_W,.inl ⟨fun h=>absurd (vk.2 h.2) (by decide),rfl,rfl,rfl,rfl⟩,?_⟩
      refine fna Tryz.func126 Tryz.ntmps126 (rs:=[.cell 2 200,.tmp 3]) (one_cb1 b) ?_
      simp [go_sem,cb_len,hb,cb_take hb,zd]
      refine cl_eq f1 (one_cb1 _) ?_
      simp [go_sem,hal,cI_take hal,hz]
      refine cl_eq f2 (one_cI _) ?_
      simp [go_sem,hal,cI_take hal]
      refine cl_eq f3 (one_cI _) ?_
      simp [go_sem]
      refine cl_eq f4 (one_cI _) ?_
      simp [go_sem,hyl,cI_take hyl,hz]
      refine cl_eq zero_fn (by simp) ?_
      simp [go_sem,zl,zt,pd,zl2,resV]
      exact post_pb rfl
    · refine ⟨a,y,false,true,ha,hy,.inr ⟨⟨vo.1 rfl,vk.1 rfl⟩,rfl,rfl,va,vy rfl⟩,?_⟩
      refine fna Tryz.func126 Tryz.ntmps126 (rs:=[.cell 2 200,.tmp 3]) (one_cb1 b) ?_
      simp [go_sem,cb_len,hb,cb_take hb,zd]
      refine cl_eq f1 (one_cb1 _) ?_
      simp [go_sem,hal,cI_take hal,hz]
      refine cl_eq f2 (one_cI _) ?_
      simp [go_sem,hal,cI_take hal]
      refine cl_eq f3 (one_cI _) ?_
      simp [go_sem]
      refine cl_eq f4 (one_cI _) ?_
      have mp:=mkP hal hyl
      have pl1:=cP_len hal hyl false
      have pt1:=cP_take hal hyl false
      simp [go_sem,hal,hyl,cI_take hal,cI_take hyl,hz,mp,pl1,pt1,pd,zl2,resV]
      exact post_pb rfl
def d8 (i:Nat):Nat:=i / 8
def r8 (i:Nat):Nat:=8*(i % 8)
def byt (a:List Int) (k:Nat):Nat:=(IntKind.u8.wrap (Int.fdiv (gI a (d8 k)) (2 ^ r8 k))).toNat
def bst (a:List Int) (k:Nat) (l:List Nat):List Nat:=l.set (31 - k) (byt a k)
theorem byt_i (a:List Int) (k:Nat):IntKind.u8.wrap (Int.fdiv (gI a (d8 k)) (2 ^ r8 k))=((byt a k:Nat):Int):=by
  unfold byt
  have:IntKind.u8.wrap (Int.fdiv (gI a (d8 k)) (2 ^ r8 k))=(Int.fdiv (gI a (d8 k)) (2 ^ r8 k)) % 256:=by simp [IntKind.wrap,IntKind.bits,IntKind.signed]
  rw [this]
  omega
theorem byt_lt (a:List Int) (k:Nat):byt a k<256:=by
  have h:=byt_i a k
  have:IntKind.u8.wrap (Int.fdiv (gI a (d8 k)) (2 ^ r8 k))=(Int.fdiv (gI a (d8 k)) (2 ^ r8 k)) % 256:=by simp [IntKind.wrap,IntKind.bits,IntKind.signed]
  rw [this] at h
  omega
theorem bst_ok (a:List Int):∀ k,(itr (bst a) z32 k).length=32∧bytes (itr (bst a) z32 k) :=
  itr_inv (P:=fun _ l=>l.length=32∧bytes l) ⟨rfl,fun x hx=>by simp [z32] at hx;omega⟩ fun k l hl=>by
    refine ⟨by unfold bst;rw [List.length_set];exact hl.1,fun x hx=>?_⟩
    rcases List.mem_or_eq_of_mem_set hx with hx | rfl
    · exact hl.2 x hx
    · exact byt_lt _ _
theorem byt_V {a:List Int} (ha:Wn 4 a) {k:Nat} (hk:k<32):byt a k=(V a).toNat / 256 ^ k % 256:=by
  have hw:=word_V ha (j:=k / 8) (by omega)
  have hi:=byt_i a k
  have hu:IntKind.u8.wrap (Int.fdiv (gI a (d8 k)) (2 ^ r8 k))=(Int.fdiv (gI a (d8 k)) (2 ^ r8 k)) % 256:=by simp [IntKind.wrap,IntKind.bits,IntKind.signed]
  have hd:d8 k=k / 8:=rfl
  have hr:r8 k=8*(k % 8):=rfl
  rw [hu,hd,hr,← hw,Int.fdiv_eq_ediv_of_nonneg _ (Int.le_of_lt (Int.pow_pos (by omega)))] at hi
  generalize (V a).toNat=N at *
  have h1:byt a k=N / 2 ^ (64*(k / 8)) % 2 ^ 64 / 2 ^ (8*(k % 8)) % 256:=by
    have e:∀ (z s:Nat),(((z / 2 ^ s % 256:Nat)):Int)=(z:Int) / 2 ^ s % 256:=fun z s=>by rw [Int.natCast_emod,Int.natCast_ediv,Int.natCast_pow];rfl
    exact (Int.ofNat_inj.1 ((e _ _).trans hi)).symm
  rw [h1]
  have e64:(2:Nat) ^ 64=2 ^ (8*(k % 8))*2 ^ (64 - 8*(k % 8)):=by rw [← Nat.pow_add];congr 1;omega
  have e8:(256:Nat) ∣ 2 ^ (64 - 8*(k % 8)):=⟨2 ^ (56 - 8*(k % 8)),by rw [show (256:Nat)=2 ^ 8 from rfl,← Nat.pow_add];congr 1;omega⟩
  have e256:(256:Nat) ^ k=2 ^ (64*(k / 8))*2 ^ (8*(k % 8)):=by
    rw [show (256:Nat)=2 ^ 8 from rfl,← Nat.pow_mul,← Nat.pow_add];congr 1;omega
  rw [e64,Nat.mod_mul_right_div_self,Nat.mod_mod_of_dvd _ e8,Nat.div_div_eq_div_mul,← e256]
def lowB (a:List Int):Nat→List Nat
  | 0=>[]
  | k+1=>byt a k :: lowB a k
theorem lowB_len (a:List Int):∀ k,(lowB a k).length=k
  | 0=>rfl
  | k+1=>by rw [lowB,List.length_cons,lowB_len a k]
theorem beN_cons (x:Nat) (l:List Nat):beN (x :: l)=x*256 ^ l.length+beN l:=by
  have:=beN_app [x] l
  have e:beN [x]=x:=by simp [beN]
  rw [e] at this
  exact this
theorem lowB_V {a:List Int} (ha:Wn 4 a):∀ k,k≤32→beN (lowB a k)=(V a).toNat % 256 ^ k
  | 0,_=>by rw [lowB,Nat.pow_zero,Nat.mod_one];rfl
  | k+1,h=>by
    rw [lowB,beN_cons,lowB_len,lowB_V ha k (by omega),byt_V ha (by omega),Nat.mod_pow_succ,Nat.mul_comm,Nat.add_comm]
theorem bst_low (a:List Int):∀ k,k≤32→itr (bst a) z32 k=List.replicate (32 - k) 0 ++ lowB a k
  | 0,_=>rfl
  | k+1,h=>by
    rw [itr,bst_low a k (by omega)]
    unfold bst
    have e:32 - k=(31 - k)+1:=by omega
    have e2:32 - (k+1)=31 - k:=by omega
    rw [e,e2,List.replicate_succ',List.append_assoc,List.set_append_right _ _ (by simp),List.length_replicate,Nat.sub_self]
    rfl
theorem bst_V {a:List Int} (ha:Wn 4 a):beN (itr (bst a) z32 32)=(V a).toNat:=by
  rw [bst_low a 32 (by omega),Nat.sub_self,List.replicate_zero,List.nil_append,lowB_V ha 32 (by omega)]
  have h:=V_lt ha
  exact Nat.mod_eq_of_lt (by
    have:(256:Nat) ^ 32=115792089237316195423570985008687907853269984665640564039457584007913129639936:=by decide
    omega)
theorem wbytes_ex (a:List Int) (ha:Wn 4 a):∃ b:List Nat,b.length=32∧bytes b∧beN b=(V a).toNat∧Rets Tryz.prog 175 [.agg (cI a)] (fun r=>r=.agg (cb b)):=by
  refine ⟨itr (bst a) z32 32,(bst_ok a 32).1,(bst_ok a 32).2,bst_V ha,?_⟩
  refine fna Tryz.func175 Tryz.ntmps175 (rs:=[.cell 2 22]) (one_cI a) ?_
  have hal:=ha.1
  simp [go_sem,hal,cI_take hal]
  generalize hSS:itr (bst a) z32=S at *
  have hS:=bst_ok a
  rw [hSS] at hS
  refine loop_of (fun k:Nat=>⟨[(1,.ptr 0 0 0 1),(2,.ptr 32 0 0 1),(3,.ptr 64 0 0 1),(5,.d (.int .i64 (k:Int)))],[(64,⟨22,32,[cb (S k)]⟩),(32,⟨22,32,[cb z32]⟩),(0,⟨198,4,[cI a]⟩)],20000⟩)
    (fun k=>k≤32) (fun k=>32 - k) 0 (by omega) (by
      rw [← hSS]
      simp [Weak,slotOk,fv,lk,AV.low,AV.low1,itr]
      and_intros <;> first | rfl | exact cI_low _ _ | exact cb_low _ _) ?_
  intro k hk
  obtain ⟨hs1,hs2⟩:=hS k
  have w3:=next_i64 (k:=k) (by omega)
  simp only [go_sem,Nat.reduceEqDiff,Nat.reduceAdd,Nat.reduceLT,↓reduceIte]
  by_cases h4:k<32
  · refine ⟨fun h=>?_,fun h=>absurd (by exact_mod_cast h4) h⟩
    have hsn:S (k+1)=bst a k (S k):=by rw [← hSS];rfl
    have hdq:d8 k=k / 8:=rfl
    have hrq:r8 k=8*(k % 8):=rfl
    have hnk:=get_D (l:=a) (k:=d8 k) (by omega)
    have w4:IntKind.i64.wrap ((k:Int) / 8)=(d8 k:Int):=by rw [IntWalk.i64_in _ (by omega)];omega
    have w4b:IntKind.i64.wrap ((k:Int).tdiv 8)=(d8 k:Int):=w4
    have e2:IntKind.i64.wrap (8*((k:Int) % 8))=(r8 k:Int):=by rw [IntWalk.i64_in _ (by omega)];omega
    have e2b:IntKind.i64.wrap (8*((k:Int).tmod 8))=(r8 k:Int):=e2
    have e3:IntKind.i64.wrap (31 - (k:Int))=((31 - k:Nat):Int):=by rw [IntWalk.i64_in _ (by omega)];omega
    have i1:(d8 k:Int)<4:=by omega
    have hm64:r8 k<64:=by omega
    have hmn:min (r8 k) 64=r8 k:=by omega
    have i3:((31 - k:Nat):Int)<32:=by omega
    have i4:31 - k<32:=by omega
    simp [go_sem,hnk,hal,e2,e2b,w4,w4b,e3,i1,i3,i4,hm64,hmn,IntKind.bits,byt_i,cb_set,cb_len,hs1,w3]
    refine next_of (k+1) (by omega) (by omega) ?_
    rw [hsn]
    simp [Weak,slotOk,fv,lk,AV.low,AV.low1,bst]
    and_intros <;> first | rfl | exact cI_low _ _ | exact cb_low _ _
  · refine ⟨fun h=>absurd (by exact_mod_cast h) h4,fun h=>?_⟩
    have hkl:k=32:=by omega
    subst hkl
    simp [go_sem,cb_len,hs1,cb_take hs1,cb_drop (l:=z32) rfl,resV]
    exact post_same (cb_deepA _) rfl
theorem post_b {Q:AV→Prop} {st:St} {b:List Nat} (hq:Q (.agg (cb b))):PostK Q (.agg (cb b)) st:=post_same (cb_deepA _) hq
theorem pbytes_ex (x y:List Int) (c:Bool) (hx:Wn 4 x) (hy:Wn 4 y):∃ b:List Nat,b.length=32∧bytes b∧(isPt x y c→beN b=(V x).toNat)∧Rets Tryz.prog 131 [.agg (cP x y c)] (fun r=>r=.agg (cb b)):=by
  obtain ⟨u,v,d,hu,hv,tv,f1⟩:=taken_ex x y c hx hy
  obtain ⟨b,hb,hbb,vb,f2⟩:=wbytes_ex u hu
  refine ⟨b,hb,hbb,fun h=>by rw [vb,(tv.2.1 h).1],?_⟩
  refine fna Tryz.func131 Tryz.ntmps131 (rs:=[.cell 2 22]) (one_cP _ _ _) ?_
  have hxl:=hx.1
  have hyl:=hy.1
  have ul:=cP_len hu.1 hv.1 d
  have ux:=cP_x (y:=v) hu.1 d
  have zd:List.drop 32 (cb z32)=[]:=cb_drop rfl
  simp [go_sem,cP_len hxl hyl,cP_take hxl hyl]
  refine cl_eq f1 (one_cP _ _ _) ?_
  simp [go_sem,ul,ux]
  refine cl_eq f2 (one_cI _) ?_
  simp [go_sem,cb_len,hb,cb_take hb,zd,resV]
  exact post_b rfl
def jnV (a b:List Nat):Nat→AV
  | 0=>.nil
  | 1=>.own 1192 0 a.length a.length
  | _=>.own 1192 0 (a ++ b).length (a ++ b).length
def jnH (a b:List Nat):Nat→Hp
  | 0=>[]
  | 1=>[(1192,⟨5,1,rb a⟩)]
  | _=>[(1192,⟨5,1,rb (a ++ b)⟩)]
def jnN:Nat→Nat
  | 0=>1000
  | _=>2000
theorem joined_fn (a b:List Nat) (ha:a.length=32) (hb:b.length≤1000000):Rets Tryz.prog 167 [.d (.ro 1 [[nb a],[nb b]])] (fun r=>r=.d (nb (a ++ b))):=by
  refine fna Tryz.func167 Tryz.ntmps167 (rs:=[.tmp 2]) (by simp [AV.deep,AV.deep1]) ?_
  simp [go_sem]
  refine loop_of (fun k:Nat=>⟨[(3,jnV a b k),(6,.d (.ro 1 [[nb a],[nb b]])),(7,.d (.int .i64 2)),(8,.d (.int .i64 (k:Int)))],jnH a b k,jnN k⟩)
    (fun k=>k≤2) (fun k=>2 - k) 0 (by omega) (by simp [Weak,slotOk,fv,lk,AV.low,AV.low1,jnV,jnH,jnN]) ?_
  intro k hk
  simp only [go_sem,Nat.reduceEqDiff,Nat.reduceAdd,Nat.reduceLT,↓reduceIte]
  match k,hk with
  | 0,_ =>
    refine ⟨fun _=>?_,fun h=>absurd (by decide) h⟩
    simp [go_sem,jnV,jnH,jnN,nb,rb_of]
    refine ⟨by rw [rb_len];omega,?_⟩
    have w1:IntKind.i64.wrap 1=1:=by decide
    refine next_of 1 (by omega) (by omega) ?_
    simp [Weak,slotOk,fv,lk,AV.low,AV.low1,rb_len,w1]
    exact rb_low _ _
  | 1,_ =>
    refine ⟨fun _=>?_,fun h=>absurd (by decide) h⟩
    simp [go_sem,jnV,jnH,jnN,nb,rb_of,rb_len]
    refine ⟨by omega,?_⟩
    have w1:IntKind.i64.wrap 2=2:=by decide
    have ra:rb (a ++ b)=rb a ++ rb b:=by simp [rb]
    refine next_of 2 (by omega) (by omega) ?_
    simp [Weak,slotOk,fv,lk,AV.low,AV.low1,rb_len,w1,ra]
    intro r hr
    exact hr.elim (rb_low _ _ r) (rb_low _ _ r)
  | 2,_ =>
    refine ⟨fun h=>absurd h (by decide),fun _=>?_⟩
    simp [go_sem,jnV,jnH,resV]
    have hl2:a.length+b.length=(a ++ b).length:=by rw [List.length_append]
    rw [hl2]
    exact post_bytes rfl (by simp [nb])
end Go.Proofs.YtfahccoobfjkeaaGreat
