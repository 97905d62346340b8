/-
  Part 8 of what the claim rests on.
-/
import Derived.Test.YtfahccoobfjkeaaGreatT6
set_option linter.unusedVariables false
set_option linter.unusedSimpArgs false
set_option maxRecDepth 100000
set_option maxHeartbeats 16000000
namespace Go.Proofs.YtfahccoobfjkeaaGreat
open Go.Am Go.Sha Go.Ec
theorem JV_0 (x y:List Int):JV x y zI=none:=by
  show jac fd _ _ (FV zI)=none
  rw [FV_z];exact jac_z fd _ _
theorem two_cV (x y z x' y' z':List Int):∀ v,v ∈ [AV.agg (cV x y z),AV.agg (cV x' y' z')]→v.deep:=by
  intro v hv;simp at hv;rcases hv with rfl | rfl
  · exact cV_deep _ _ _
  · exact cV_deep _ _ _
theorem plus_ex (x y z x' y' z':List Int) (hx:Wn 4 x) (hy:Wn 4 y) (hz:Wn 4 z) (hx':Wn 4 x') (hy':Wn 4 y') (hz':Wn 4 z'):∃ (u v w:List Int),Wn 4 u∧Wn 4 v∧Wn 4 w∧(isJ x y z→isJ x' y' z'→isJ u v w∧JV u v w=sum fd (JV x y z) (JV x' y' z'))∧Rets Tryz.prog 170 [.agg (cV x y z),.agg (cV x' y' z')] (fun r=>r=.agg (cV u v w)):=by
  obtain ⟨pz2,h1,g1,f1⟩:=sq_ex z hz
  obtain ⟨qz2,h2,g2,f2⟩:=sq_ex z' hz'
  obtain ⟨u1,h4,g4,f4⟩:=fmulv x qz2 hx h2
  obtain ⟨u2,h5,g5,f5⟩:=fmulv x' pz2 hx' h1
  obtain ⟨qz3,h6,g6,f6⟩:=fmulv qz2 z' h2 hz'
  obtain ⟨s1,h7,g7,f7⟩:=fmulv y qz3 hy h6
  obtain ⟨pz3,h8,g8,f8⟩:=fmulv pz2 z h1 hz
  obtain ⟨s2,h9,g9,f9⟩:=fmulv y' pz3 hy' h8
  obtain ⟨h,h11,g11,f11⟩:=fsubv u2 u1 h5 h4
  obtain ⟨r,h12,g12,f12⟩:=fsubv s2 s1 h9 h7
  obtain ⟨hh,h13,g13,f13⟩:=sq_ex h h11
  obtain ⟨h3,h14,g14,f14⟩:=fmulv hh h h13 h11
  obtain ⟨v,h15,g15,f15⟩:=fmulv u1 hh h4 h13
  obtain ⟨rr,h16,g16,f16⟩:=sq_ex r h12
  obtain ⟨d1,h17,g17,f17⟩:=fsubv rr h3 h16 h14
  obtain ⟨w2,h20,g20,f20⟩:=times_ex 2 v ⟨by omega,by omega⟩ h15
  obtain ⟨X,h18,g18,f18⟩:=fsubv d1 w2 h17 h20
  obtain ⟨e1,h21,g21,f21⟩:=fsubv v X h15 h18
  obtain ⟨e2,h22,g22,f22⟩:=fmulv r e1 h12 h21
  obtain ⟨e3,h24,g24,f24⟩:=fmulv s1 h3 h7 h14
  obtain ⟨Y,h19,g19,f19⟩:=fsubv e2 e3 h22 h24
  obtain ⟨zz,h25,g25,f25⟩:=fmulv z z' hz hz'
  obtain ⟨Z,h23,g23,f23⟩:=fmulv h zz h11 h25
  obtain ⟨wu,wv,ww,h26,h27,h28,g26,f26⟩:=weigh_ex zI zI true zI_W zI_W
  obtain ⟨du,dv,dw,h29,h30,h31,g29,f29⟩:=doubled_ex x y z hx hy hz
  unfold W1 at f1 f2 f13 f16
  unfold W2 at f4 f5 f6 f7 f8 f9 f11 f12 f14 f15 f17 f18 f19 f21 f22 f23 f24 f25
  have l1:=h1.1
  have l2:=h2.1
  have l4:=h4.1
  have l5:=h5.1
  have l6:=h6.1
  have l7:=h7.1
  have l8:=h8.1
  have l9:=h9.1
  have l11:=h11.1
  have l12:=h12.1
  have l13:=h13.1
  have l14:=h14.1
  have l15:=h15.1
  have l16:=h16.1
  have l17:=h17.1
  have l18:=h18.1
  have l19:=h19.1
  have l20:=h20.1
  have l21:=h21.1
  have l22:=h22.1
  have l23:=h23.1
  have l24:=h24.1
  have l25:=h25.1
  have l26:=h26.1
  have l27:=h27.1
  have l28:=h28.1
  have l29:=h29.1
  have l30:=h30.1
  have l31:=h31.1
  have hxl:=hx.1
  have hyl:=hy.1
  have hzl:=hz.1
  have hxlb:=hx'.1
  have hylb:=hy'.1
  have hzlb:=hz'.1
  have z4:List.drop 4 (cI zI)=[]:=cI_drop rfl
  have vl:=cV_len hxl hyl hzl
  have vt:=cV_take hxl hyl hzl
  have v1:(cV x y z).take 4=cI x:=cV_x hxl
  have v2:=cV_y (z:=z) hxl hyl
  have v3:=cV_z hxl hyl hzl
  have vlb:=cV_len hxlb hylb hzlb
  have vtb:=cV_take hxlb hylb hzlb
  have v1b:(cV x' y' z').take 4=cI x':=cV_x hxlb
  have v2b:=cV_y (z:=z') hxlb hylb
  have v3b:=cV_z hxlb hylb hzlb
  have iz:intsOf .u64 [AV.d (.int .u64 0),AV.d (.int .u64 0),AV.d (.int .u64 0),AV.d (.int .u64 0)]=some zI:=ints_cI zI
  have f0:=isZero_ex x y z hx hy hz
  have f0b:=isZero_ex x' y' z' hx' hy' hz'
  have wd:(cV zI zI zI).drop 12=[]:=cV_drop rfl rfl rfl
  have wl:(cV zI zI zI).length=12:=rfl
  have ul:=cV_len l26 l27 l28
  have ut:=cV_take l26 l27 l28
  have ul2:=cV_len l29 l30 l31
  have ut2:=cV_take l29 l30 l31
  by_cases q1:z=zI
  · have vv:isJ x y z→isJ x' y' z'→isJ x' y' z'∧JV x' y' z'=sum fd (JV x y z) (JV x' y' z'):=by
      intro _ hj'
      refine ⟨hj',?_⟩
      rw [q1,JV_0,sum_none fd hj'.2]
    refine ⟨x',y',z',hx',hy',hz',vv,?_⟩
    refine fna Tryz.func170 Tryz.ntmps170 (rs:=[.cell 4 236]) (two_cV _ _ _ _ _ _) ?_
    simp [go_sem,vl,vt,vlb,vtb]
    refine cl_eq f0 (one_cV _ _ _) ?_
    simp [go_sem,q1,vlb,vtb,wd,wl,resV]
    exact post_v rfl
  by_cases q2:z'=zI
  · have vv:isJ x y z→isJ x' y' z'→isJ x y z∧JV x y z=sum fd (JV x y z) (JV x' y' z'):=by
      intro hj _
      refine ⟨hj,?_⟩
      rw [q2,JV_0,none_sum fd hj.2]
    refine ⟨x,y,z,hx,hy,hz,vv,?_⟩
    refine fna Tryz.func170 Tryz.ntmps170 (rs:=[.cell 4 236]) (two_cV _ _ _ _ _ _) ?_
    simp [go_sem,vl,vt,vlb,vtb]
    refine cl_eq f0 (one_cV _ _ _) ?_
    simp [go_sem,q1,vl,vt,vlb,vtb]
    refine cl_eq f0b (one_cV _ _ _) ?_
    simp [go_sem,q2,vl,vt,wd,wl,resV]
    exact post_v rfl
  have key:isJ x y z→isJ x' y' z'→(FV h ≠ 0→JV X Y Z=sum fd (JV x y z) (JV x' y' z'))∧(FV h=0→FV r=0→JV x y z=JV x' y' z')∧(FV h=0→FV r ≠ 0→sum fd (JV x y z) (JV x' y' z')=none):=by
    intro hj hj'
    have hz0:FV z ≠ 0:=fun h=>q1 ((FV_zero hz hj.1.2.2).1 h)
    have hz0':FV z' ≠ 0:=fun h=>q2 ((FV_zero hz' hj'.1.2.2).1 h)
    have k1:FV u1=FV x*(FV z'*FV z'):=by rw [g4.2,g2.2]
    have k2:FV u2=FV x'*(FV z*FV z):=by rw [g5.2,g1.2]
    have k3:FV s1=FV y*(FV z'*FV z'*FV z'):=by rw [g7.2,g6.2,g2.2]
    have k4:FV s2=FV y'*(FV z*FV z*FV z):=by rw [g9.2,g8.2,g1.2]
    obtain ⟨j1,j2,j3⟩:=jac_plus fd hz0 hz0' hj.2 hj'.2 k1 k2 k3 k4 g11.2 g12.2
    refine ⟨fun hh0=>?_,j2,j3⟩
    have n2:FV [2,0,0,0]=2:=FV_n 2 (by omega)
    have eX:FV X=FV r*FV r - FV h*FV h*FV h - 2*(FV u1*(FV h*FV h)):=by
      rw [g18.2,g17.2,g16.2,g14.2,g13.2,g20.2,g15.2,g13.2,n2]
    have eY:FV Y=FV r*(FV u1*(FV h*FV h) - (FV r*FV r - FV h*FV h*FV h - 2*(FV u1*(FV h*FV h)))) - FV s1*(FV h*FV h*FV h):=by
      rw [g19.2,g22.2,g21.2,eX,g24.2,g15.2,g14.2,g13.2]
    have eZ:FV Z=FV h*(FV z*FV z'):=by rw [g23.2,g25.2]
    show jac fd (FV X) (FV Y) (FV Z)=_
    rw [eX,eY,eZ]
    exact j1 hh0
  obtain ⟨Ua,Va,Wa,hU,hV,hW,vv,e1,e2,e3⟩:∃ (Ua Va Wa:List Int),Wn 4 Ua∧Wn 4 Va∧Wn 4 Wa∧(isJ x y z→isJ x' y' z'→isJ Ua Va Wa∧JV Ua Va Wa=sum fd (JV x y z) (JV x' y' z'))∧(h=zI→r=zI→(du=Ua∧dv=Va∧dw=Wa))∧(h=zI→r ≠ zI→(wu=Ua∧wv=Va∧ww=Wa))∧(h ≠ zI→(X=Ua∧Y=Va∧Z=Wa)):=by
    have fz:∀ {l:List Int},l=zI→FV l=0:=fun h=>by rw [h,FV_z]
    by_cases q3:h=zI
    · by_cases q4:r=zI
      · refine ⟨du,dv,dw,h29,h30,h31,fun hj hj'=>?_,fun _ _=>⟨rfl,rfl,rfl⟩,fun _ h=>absurd q4 h,fun h=>absurd q3 h⟩
        obtain ⟨m1,m2⟩:=g29 hj
        refine ⟨m1,?_⟩
        rw [m2,← (key hj hj').2.1 (fz q3) (fz q4)]
      · refine ⟨wu,wv,ww,h26,h27,h28,fun hj hj'=>?_,fun _ h=>absurd h q4,fun _ _=>⟨rfl,rfl,rfl⟩,fun h=>absurd q3 h⟩
        obtain ⟨m1,m2⟩:=g26 isPt_z
        refine ⟨m1,?_⟩
        rw [m2,PV_z,(key hj hj').2.2 (fz q3) (fun h=>q4 ((FV_zero h12 g12.1).1 h))]
    · refine ⟨X,Y,Z,h18,h19,h23,fun hj hj'=>?_,fun h=>absurd h q3,fun h=>absurd h q3,fun _=>⟨rfl,rfl,rfl⟩⟩
      have e:=(key hj hj').1 (fun h=>q3 ((FV_zero h11 g11.1).1 h))
      exact ⟨⟨⟨g18.1,g19.1,g23.1⟩,by rw [e];exact sum_on fd hj.2 hj'.2⟩,e⟩
  refine ⟨Ua,Va,Wa,hU,hV,hW,vv,?_⟩
  refine fna Tryz.func170 Tryz.ntmps170 (rs:=[.cell 4 236]) (two_cV _ _ _ _ _ _) ?_
  simp [go_sem,vl,vt,vlb,vtb]
  refine cl_eq f0 (one_cV _ _ _) ?_
  simp [go_sem,q1,vl,vt,vlb,vtb]
  refine cl_eq f0b (one_cV _ _ _) ?_
  simp [go_sem,q2,vl,vt,vlb,vtb,v1,v2,v3,v1b,v2b,v3b]
  refine drw3 [0,1,3,4] [2,5,6,7,8,9] [0,1,3,4] (.alt (.step 2 [] true (.alt (.step 5 [] false (.alt (.step 6 [] false (.step 7 [] false (.step 8 [] false (.step 9 [] false .done)))) (.step 7 [] false (.step 6 [] false (.step 8 [] false (.step 9 [] false .done)))))) (.alt (.step 6 [] true (.alt (.step 5 [] false (.step 7 [] false (.step 8 [] false (.step 9 [] false .done)))) (.step 7 [] true (.step 5 [] false (.step 8 [] false (.step 9 [] false .done)))))) (.step 7 [] true (.alt (.step 5 [] false (.step 6 [] false (.step 8 [] false (.step 9 [] false .done)))) (.step 6 [] true (.step 5 [] false (.step 8 [] false (.step 9 [] false .done))))))))) (.alt (.step 6 [] true (.alt (.step 2 [] true (.alt (.step 5 [] false (.step 7 [] false (.step 8 [] false (.step 9 [] false .done)))) (.step 7 [] true (.step 5 [] false (.step 8 [] false (.step 9 [] false .done)))))) (.step 7 [] true (.step 2 [] true (.step 5 [] false (.step 8 [] false (.step 9 [] false .done))))))) (.step 7 [] true (.alt (.step 2 [] true (.alt (.step 5 [] false (.step 6 [] false (.step 8 [] false (.step 9 [] false .done)))) (.step 6 [] true (.step 5 [] false (.step 8 [] false (.step 9 [] false .done)))))) (.step 6 [] true (.step 2 [] true (.step 5 [] false (.step 8 [] false (.step 9 [] false .done))))))))) ⟨[(2,.ptr 0 0 0 1),(3,.ptr 32 0 0 1),(4,.ptr 64 0 0 1),(5,.ptr 480 0 0 1),(6,.ptr 512 0 0 1)],[(512,⟨198,4,[cI qz2]⟩),(480,⟨198,4,[cI pz2]⟩),(64,⟨236,12,[cV zI zI zI]⟩),(32,⟨236,12,[cV x' y' z']⟩),(0,⟨236,12,[cV x y z]⟩)],9000⟩ (k:=10) ?h3 ?hq
  case h3 =>
    intro G hG
    have hW:∀ (fr:Fr) (hp:Hp),(fv 2 fr=.ptr 0 0 0 1∧fv 3 fr=.ptr 32 0 0 1∧fv 4 fr=.ptr 64 0 0 1∧fv 5 fr=.ptr 480 0 0 1∧fv 6 fr=.ptr 512 0 0 1∧lk 512 hp=some ⟨198,4,[cI qz2]⟩∧lk 480 hp=some ⟨198,4,[cI pz2]⟩∧lk 64 hp=some ⟨236,12,[cV zI zI zI]⟩∧lk 32 hp=some ⟨236,12,[cV x' y' z']⟩∧lk 0 hp=some ⟨236,12,[cV x y z]⟩)→G fr hp:=by
      rintro fr hp ⟨q0,q1,q2,q3,q4,q5,q6,q7,q8,q9⟩
      exact hG _ _ wkA
    simp [go_sem,l1,l2,cI_take l1,cI_take l2,z4,v3,v3b,vl,vlb,SaW]
    repeat' first | exact hW _ _ ⟨rfl,rfl,rfl,rfl,rfl,rfl,rfl,rfl,rfl,rfl⟩ | (refine hW _ _ ?_;simp [fv,lk];done) | refine cl_eq f1 (one_cI _) ?_ | refine cl_eq f2 (one_cI _) ?_ | apply And.intro | simp [go_sem,l1,l2,cI_take l1,cI_take l2,z4,v3,v3b,vl,vlb,SaW]
  case hq =>
    simp [go_sem]
    refine drw3 [0,1,2,4,5,6] [3,7,8,9,10,11] [0,1,2,4,5,6] (.alt (.step 3 [] true (.alt (.step 7 [] false (.alt (.step 8 [] false (.step 9 [] false (.step 10 [] false (.step 11 [] false .done)))) (.step 9 [] false (.step 8 [] false (.step 10 [] false (.step 11 [] false .done)))))) (.alt (.step 8 [] true (.alt (.step 7 [] false (.step 9 [] false (.step 10 [] false (.step 11 [] false .done)))) (.step 9 [] true (.step 7 [] false (.step 10 [] false (.step 11 [] false .done)))))) (.step 9 [] true (.alt (.step 7 [] false (.step 8 [] false (.step 10 [] false (.step 11 [] false .done)))) (.step 8 [] true (.step 7 [] false (.step 10 [] false (.step 11 [] false .done))))))))) (.alt (.step 8 [] true (.alt (.step 3 [] true (.alt (.step 7 [] false (.step 9 [] false (.step 10 [] false (.step 11 [] false .done)))) (.step 9 [] true (.step 7 [] false (.step 10 [] false (.step 11 [] false .done)))))) (.step 9 [] true (.step 3 [] true (.step 7 [] false (.step 10 [] false (.step 11 [] false .done))))))) (.step 9 [] true (.alt (.step 3 [] true (.alt (.step 7 [] false (.step 8 [] false (.step 10 [] false (.step 11 [] false .done)))) (.step 8 [] true (.step 7 [] false (.step 10 [] false (.step 11 [] false .done)))))) (.step 8 [] true (.step 3 [] true (.step 7 [] false (.step 10 [] false (.step 11 [] false .done))))))))) ⟨[(2,.ptr 0 0 0 1),(3,.ptr 32 0 0 1),(4,.ptr 64 0 0 1),(5,.ptr 480 0 0 1),(6,.ptr 512 0 0 1),(7,.ptr 9256 0 0 1),(8,.ptr 9288 0 0 1)],[(9288,⟨198,4,[cI u2]⟩),(9256,⟨198,4,[cI u1]⟩),(512,⟨198,4,[cI qz2]⟩),(480,⟨198,4,[cI pz2]⟩),(64,⟨236,12,[cV zI zI zI]⟩),(32,⟨236,12,[cV x' y' z']⟩),(0,⟨236,12,[cV x y z]⟩)],20000⟩ (k:=12) ?h3 ?hq
    case h3 =>
      intro G hG
      have hW:∀ (fr:Fr) (hp:Hp),(fv 2 fr=.ptr 0 0 0 1∧fv 3 fr=.ptr 32 0 0 1∧fv 4 fr=.ptr 64 0 0 1∧fv 5 fr=.ptr 480 0 0 1∧fv 6 fr=.ptr 512 0 0 1∧fv 7 fr=.ptr 9256 0 0 1∧fv 8 fr=.ptr 9288 0 0 1∧lk 9288 hp=some ⟨198,4,[cI u2]⟩∧lk 9256 hp=some ⟨198,4,[cI u1]⟩∧lk 512 hp=some ⟨198,4,[cI qz2]⟩∧lk 480 hp=some ⟨198,4,[cI pz2]⟩∧lk 64 hp=some ⟨236,12,[cV zI zI zI]⟩∧lk 32 hp=some ⟨236,12,[cV x' y' z']⟩∧lk 0 hp=some ⟨236,12,[cV x y z]⟩)→G fr hp:=by
        rintro fr hp ⟨q0,q1,q2,q3,q4,q5,q6,q7,q8,q9,q10,q11,q12,q13⟩
        exact hG _ _ wkA
      simp [go_sem,l1,l2,l4,l5,cI_take l1,cI_take l2,cI_take l4,cI_take l5,z4,v1,v1b,vl,vlb,SaW]
      repeat' first | exact hW _ _ ⟨rfl,rfl,rfl,rfl,rfl,rfl,rfl,rfl,rfl,rfl,rfl,rfl,rfl,rfl⟩ | (refine hW _ _ ?_;simp [fv,lk];done) | refine cl_eq f4 (two_cI _ _) ?_ | refine cl_eq f5 (two_cI _ _) ?_ | apply And.intro | simp [go_sem,l1,l2,l4,l5,cI_take l1,cI_take l2,cI_take l4,cI_take l5,z4,v1,v1b,vl,vlb,SaW]
    case hq =>
      simp [go_sem]
      refine drw3 [0,1,2,3,4,7,8,9,10,11] [5,6,12,13,14,15,16,17] [0,1,2,3,4,7,8,9,10,11] (.alt (.step 5 [] true (.alt (.step 6 [] true (.alt (.step 12 [] true (.alt (.step 13 [] false (.alt (.step 14 [] false (.step 15 [] false (.step 16 [] false (.step 17 [] false .done)))) (.step 15 [] false (.step 14 [] false (.step 16 [] false (.step 17 [] false .done)))))) (.alt (.step 14 [] true (.alt (.step 13 [] false (.step 15 [] false (.step 16 [] false (.step 17 [] false .done)))) (.step 15 [] true (.step 13 [] false (.step 16 [] false (.step 17 [] false .done)))))) (.step 15 [] true (.alt (.step 13 [] false (.step 14 [] false (.step 16 [] false (.step 17 [] false .done)))) (.step 14 [] true (.step 13 [] false (.step 16 [] false (.step 17 [] false .done))))))))) (.alt (.step 14 [] true (.alt (.step 12 [] true (.alt (.step 13 [] false (.step 15 [] false (.step 16 [] false (.step 17 [] false .done)))) (.step 15 [] true (.step 13 [] false (.step 16 [] false (.step 17 [] false .done)))))) (.step 15 [] true (.step 12 [] true (.step 13 [] false (.step 16 [] false (.step 17 [] false .done))))))) (.step 15 [] true (.alt (.step 12 [] true (.alt (.step 13 [] false (.step 14 [] false (.step 16 [] false (.step 17 [] false .done)))) (.step 14 [] true (.step 13 [] false (.step 16 [] false (.step 17 [] false .done)))))) (.step 14 [] true (.step 12 [] true (.step 13 [] false (.step 16 [] false (.step 17 [] false .done)))))))))) (.alt (.step 14 [] true (.alt (.step 6 [] true (.alt (.step 12 [] true (.alt (.step 13 [] false (.step 15 [] false (.step 16 [] false (.step 17 [] false .done)))) (.step 15 [] true (.step 13 [] false (.step 16 [] false (.step 17 [] false .done)))))) (.step 15 [] true (.step 12 [] true (.step 13 [] false (.step 16 [] false (.step 17 [] false .done))))))) (.step 15 [] true (.step 6 [] true (.step 12 [] true (.step 13 [] false (.step 16 [] false (.step 17 [] false .done)))))))) (.step 15 [] true (.alt (.step 6 [] true (.alt (.step 12 [] true (.alt (.step 13 [] false (.step 14 [] false (.step 16 [] false (.step 17 [] false .done)))) (.step 14 [] true (.step 13 [] false (.step 16 [] false (.step 17 [] false .done)))))) (.step 14 [] true (.step 12 [] true (.step 13 [] false (.step 16 [] false (.step 17 [] false .done))))))) (.step 14 [] true (.step 6 [] true (.step 12 [] true (.step 13 [] false (.step 16 [] false (.step 17 [] false .done))))))))))) (.alt (.step 14 [] true (.alt (.step 5 [] true (.alt (.step 6 [] true (.alt (.step 12 [] true (.alt (.step 13 [] false (.step 15 [] false (.step 16 [] false (.step 17 [] false .done)))) (.step 15 [] true (.step 13 [] false (.step 16 [] false (.step 17 [] false .done)))))) (.step 15 [] true (.step 12 [] true (.step 13 [] false (.step 16 [] false (.step 17 [] false .done))))))) (.step 15 [] true (.step 6 [] true (.step 12 [] true (.step 13 [] false (.step 16 [] false (.step 17 [] false .done)))))))) (.step 15 [] true (.step 5 [] true (.step 6 [] true (.step 12 [] true (.step 13 [] false (.step 16 [] false (.step 17 [] false .done))))))))) (.step 15 [] true (.alt (.step 5 [] true (.alt (.step 6 [] true (.alt (.step 12 [] true (.alt (.step 13 [] false (.step 14 [] false (.step 16 [] false (.step 17 [] false .done)))) (.step 14 [] true (.step 13 [] false (.step 16 [] false (.step 17 [] false .done)))))) (.step 14 [] true (.step 12 [] true (.step 13 [] false (.step 16 [] false (.step 17 [] false .done))))))) (.step 14 [] true (.step 6 [] true (.step 12 [] true (.step 13 [] false (.step 16 [] false (.step 17 [] false .done)))))))) (.step 14 [] true (.step 5 [] true (.step 6 [] true (.step 12 [] true (.step 13 [] false (.step 16 [] false (.step 17 [] false .done))))))))))) ⟨[(2,.ptr 0 0 0 1),(3,.ptr 32 0 0 1),(4,.ptr 64 0 0 1),(7,.ptr 9256 0 0 1),(8,.ptr 9288 0 0 1),(9,.ptr 20448 0 0 1),(10,.ptr 20480 0 0 1)],[(20480,⟨198,4,[cI s2]⟩),(20448,⟨198,4,[cI s1]⟩),(9288,⟨198,4,[cI u2]⟩),(9256,⟨198,4,[cI u1]⟩),(64,⟨236,12,[cV zI zI zI]⟩),(32,⟨236,12,[cV x' y' z']⟩),(0,⟨236,12,[cV x y z]⟩)],30000⟩ (k:=18) ?h3 ?hq
      case h3 =>
        intro G hG
        have hW:∀ (fr:Fr) (hp:Hp),(fv 2 fr=.ptr 0 0 0 1∧fv 3 fr=.ptr 32 0 0 1∧fv 4 fr=.ptr 64 0 0 1∧fv 7 fr=.ptr 9256 0 0 1∧fv 8 fr=.ptr 9288 0 0 1∧fv 9 fr=.ptr 20448 0 0 1∧fv 10 fr=.ptr 20480 0 0 1∧lk 20480 hp=some ⟨198,4,[cI s2]⟩∧lk 20448 hp=some ⟨198,4,[cI s1]⟩∧lk 9288 hp=some ⟨198,4,[cI u2]⟩∧lk 9256 hp=some ⟨198,4,[cI u1]⟩∧lk 64 hp=some ⟨236,12,[cV zI zI zI]⟩∧lk 32 hp=some ⟨236,12,[cV x' y' z']⟩∧lk 0 hp=some ⟨236,12,[cV x y z]⟩)→G fr hp:=by
          rintro fr hp ⟨q0,q1,q2,q3,q4,q5,q6,q7,q8,q9,q10,q11,q12,q13⟩
          exact hG _ _ wkA
        simp [go_sem,l1,l2,l7,l9,cI_take l1,cI_take l2,cI_take l7,cI_take l9,z4,v2,v2b,v3,v3b,vl,vlb,SaW]
        repeat' first | exact hW _ _ ⟨rfl,rfl,rfl,rfl,rfl,rfl,rfl,rfl,rfl,rfl,rfl,rfl,rfl,rfl⟩ | (refine hW _ _ ?_;simp [fv,lk];done) | refine cl_eq f6 (two_cI _ _) ?_ | refine cl_eq f7 (two_cI _ _) ?_ | refine cl_eq f8 (two_cI _ _) ?_ | refine cl_eq f9 (two_cI _ _) ?_ | apply And.intro | simp [go_sem,l1,l2,l7,l9,cI_take l1,cI_take l2,cI_take l7,cI_take l9,z4,v2,v2b,v3,v3b,vl,vlb,SaW]
      case hq =>
        simp [go_sem]
        refine drw3 [0,1,3,4] [2,5,6,7,8,9] [0,1,3,4] (.alt (.step 2 [] true (.alt (.step 5 [] false (.alt (.step 6 [] false (.step 7 [] false (.step 8 [] false (.step 9 [] false .done)))) (.step 7 [] false (.step 6 [] false (.step 8 [] false (.step 9 [] false .done)))))) (.alt (.step 6 [] true (.alt (.step 5 [] false (.step 7 [] false (.step 8 [] false (.step 9 [] false .done)))) (.step 7 [] true (.step 5 [] false (.step 8 [] false (.step 9 [] false .done)))))) (.step 7 [] true (.alt (.step 5 [] false (.step 6 [] false (.step 8 [] false (.step 9 [] false .done)))) (.step 6 [] true (.step 5 [] false (.step 8 [] false (.step 9 [] false .done))))))))) (.alt (.step 6 [] true (.alt (.step 2 [] true (.alt (.step 5 [] false (.step 7 [] false (.step 8 [] false (.step 9 [] false .done)))) (.step 7 [] true (.step 5 [] false (.step 8 [] false (.step 9 [] false .done)))))) (.step 7 [] true (.step 2 [] true (.step 5 [] false (.step 8 [] false (.step 9 [] false .done))))))) (.step 7 [] true (.alt (.step 2 [] true (.alt (.step 5 [] false (.step 6 [] false (.step 8 [] false (.step 9 [] false .done)))) (.step 6 [] true (.step 5 [] false (.step 8 [] false (.step 9 [] false .done)))))) (.step 6 [] true (.step 2 [] true (.step 5 [] false (.step 8 [] false (.step 9 [] false .done))))))))) ⟨[(2,.ptr 0 0 0 1),(3,.ptr 32 0 0 1),(4,.ptr 64 0 0 1),(7,.ptr 9256 0 0 1),(9,.ptr 20448 0 0 1),(11,.ptr 30192 0 0 1),(12,.ptr 30224 0 0 1)],[(30224,⟨198,4,[cI r]⟩),(30192,⟨198,4,[cI h]⟩),(20448,⟨198,4,[cI s1]⟩),(9256,⟨198,4,[cI u1]⟩),(64,⟨236,12,[cV zI zI zI]⟩),(32,⟨236,12,[cV x' y' z']⟩),(0,⟨236,12,[cV x y z]⟩)],40000⟩ (k:=10) ?h3 ?hq
        case h3 =>
          intro G hG
          have hW:∀ (fr:Fr) (hp:Hp),(fv 2 fr=.ptr 0 0 0 1∧fv 3 fr=.ptr 32 0 0 1∧fv 4 fr=.ptr 64 0 0 1∧fv 7 fr=.ptr 9256 0 0 1∧fv 9 fr=.ptr 20448 0 0 1∧fv 11 fr=.ptr 30192 0 0 1∧fv 12 fr=.ptr 30224 0 0 1∧lk 30224 hp=some ⟨198,4,[cI r]⟩∧lk 30192 hp=some ⟨198,4,[cI h]⟩∧lk 20448 hp=some ⟨198,4,[cI s1]⟩∧lk 9256 hp=some ⟨198,4,[cI u1]⟩∧lk 64 hp=some ⟨236,12,[cV zI zI zI]⟩∧lk 32 hp=some ⟨236,12,[cV x' y' z']⟩∧lk 0 hp=some ⟨236,12,[cV x y z]⟩)→G fr hp:=by
            rintro fr hp ⟨q0,q1,q2,q3,q4,q5,q6,q7,q8,q9,q10,q11,q12,q13⟩
            exact hG _ _ wkA
          simp [go_sem,l4,l5,l7,l9,l11,l12,cI_take l4,cI_take l5,cI_take l7,cI_take l9,cI_take l11,cI_take l12,z4,SaW]
          repeat' first | exact hW _ _ ⟨rfl,rfl,rfl,rfl,rfl,rfl,rfl,rfl,rfl,rfl,rfl,rfl,rfl,rfl⟩ | (refine hW _ _ ?_;simp [fv,lk];done) | refine cl_eq f11 (two_cI _ _) ?_ | refine cl_eq f12 (two_cI _ _) ?_ | apply And.intro | simp [go_sem,l4,l5,l7,l9,l11,l12,cI_take l4,cI_take l5,cI_take l7,cI_take l9,cI_take l11,cI_take l12,z4,SaW]
        case hq =>
          by_cases q3:h=zI
          · by_cases q4:r=zI
            · obtain ⟨rfl,rfl,rfl⟩:=e1 q3 q4
              simp [go_sem,l11,l12,ints_cI,iz,cI_take l11,cI_take l12]
              refine ⟨fun _=>⟨fun _=>?_,fun h=>absurd q4 h⟩,fun h=>absurd q3 h⟩
              simp [go_sem,vl,vt]
              refine cl_eq f29 (one_cV _ _ _) ?_
              simp [go_sem,ul2,ut2,wd,wl,resV]
              exact post_v rfl
            · obtain ⟨rfl,rfl,rfl⟩:=e2 q3 q4
              simp [go_sem,l11,l12,ints_cI,iz,cI_take l11,cI_take l12]
              refine ⟨fun _=>⟨fun h=>absurd h q4,fun _=>?_⟩,fun h=>absurd q3 h⟩
              refine cl_eq zero_fn (by simp) ?_
              simp [go_sem]
              refine cl_eq f26 (one_cP _ _ _) ?_
              simp [go_sem,ul,ut,wd,wl,resV]
              exact post_v rfl
          obtain ⟨rfl,rfl,rfl⟩:=e3 q3
          simp [go_sem,l11,l12,ints_cI,iz,cI_take l11,cI_take l12]
          refine ⟨fun h=>absurd h q3,fun _=>?_⟩
          refine cl_eq f13 (one_cI _) ?_
          simp [go_sem,l11,l13,cI_take l11,cI_take l13,z4]
          refine cl_eq f14 (two_cI _ _) ?_
          simp [go_sem,l4,l13,l14,cI_take l4,cI_take l13,cI_take l14,z4]
          refine cl_eq f15 (two_cI _ _) ?_
          simp [go_sem,l15,cI_take l15,z4]
          refine drw3 [0,2,4] [1,3,5,6,7,8] [0,2,4] (.alt (.step 1 [] true (.alt (.step 3 [] true (.alt (.step 5 [] false (.alt (.step 6 [] false (.step 7 [] false (.step 8 [] false .done))) (.step 7 [] false (.step 6 [] false (.step 8 [] false .done))))) (.step 7 [] true (.step 5 [] false (.step 6 [] false (.step 8 [] false .done)))))) (.step 7 [] true (.step 3 [] true (.step 5 [] false (.step 6 [] false (.step 8 [] false .done))))))) (.step 7 [] true (.step 1 [] true (.step 3 [] true (.step 5 [] false (.step 6 [] false (.step 8 [] false .done))))))) ⟨[(2,.ptr 0 0 0 1),(3,.ptr 32 0 0 1),(4,.ptr 64 0 0 1),(9,.ptr 20448 0 0 1),(11,.ptr 30192 0 0 1),(12,.ptr 30224 0 0 1),(14,.ptr 40320 0 0 1),(15,.ptr 40480 0 0 1),(16,.ptr 40768 0 0 1)],[(40768,⟨198,4,[cI X]⟩),(40480,⟨198,4,[cI v]⟩),(40320,⟨198,4,[cI h3]⟩),(30224,⟨198,4,[cI r]⟩),(30192,⟨198,4,[cI h]⟩),(20448,⟨198,4,[cI s1]⟩),(64,⟨236,12,[cV zI zI zI]⟩),(32,⟨236,12,[cV x' y' z']⟩),(0,⟨236,12,[cV x y z]⟩)],50000⟩ (k:=9) ?h3 ?hq
          case h3 =>
            intro G hG
            have hW:∀ (fr:Fr) (hp:Hp),(fv 2 fr=.ptr 0 0 0 1∧fv 3 fr=.ptr 32 0 0 1∧fv 4 fr=.ptr 64 0 0 1∧fv 9 fr=.ptr 20448 0 0 1∧fv 11 fr=.ptr 30192 0 0 1∧fv 12 fr=.ptr 30224 0 0 1∧fv 14 fr=.ptr 40320 0 0 1∧fv 15 fr=.ptr 40480 0 0 1∧fv 16 fr=.ptr 40768 0 0 1∧lk 40768 hp=some ⟨198,4,[cI X]⟩∧lk 40480 hp=some ⟨198,4,[cI v]⟩∧lk 40320 hp=some ⟨198,4,[cI h3]⟩∧lk 30224 hp=some ⟨198,4,[cI r]⟩∧lk 30192 hp=some ⟨198,4,[cI h]⟩∧lk 20448 hp=some ⟨198,4,[cI s1]⟩∧lk 64 hp=some ⟨236,12,[cV zI zI zI]⟩∧lk 32 hp=some ⟨236,12,[cV x' y' z']⟩∧lk 0 hp=some ⟨236,12,[cV x y z]⟩)→G fr hp:=by
              rintro fr hp ⟨q0,q1,q2,q3,q4,q5,q6,q7,q8,q9,q10,q11,q12,q13,q14,q15,q16,q17⟩
              exact hG _ _ wkA
            simp [go_sem,l12,l14,l15,l18,cI_take l12,cI_take l14,cI_take l15,cI_take l18,z4,SaW]
            repeat' first | exact hW _ _ ⟨rfl,rfl,rfl,rfl,rfl,rfl,rfl,rfl,rfl,rfl,rfl,rfl,rfl,rfl,rfl,rfl,rfl,rfl⟩ | (refine hW _ _ ?_;simp [fv,lk];done) | refine cl_eq f16 (one_cI _) ?_ | refine cl_eq f17 (two_cI _ _) ?_ | refine cl_eq f20 (lw_deep _ _) ?_ | refine cl_eq f18 (two_cI _ _) ?_ | apply And.intro | simp [go_sem,l12,l14,l15,l18,cI_take l12,cI_take l14,cI_take l15,cI_take l18,z4,SaW]
          case hq =>
            simp [go_sem]
            refine drw3 [0,1,2,5,6] [3,4,7,8,9,10] [0,1,2,5,6] (.alt (.step 3 [] true (.alt (.step 4 [] true (.alt (.step 7 [] false (.alt (.step 8 [] false (.step 9 [] false (.step 10 [] false .done))) (.step 9 [] false (.step 8 [] false (.step 10 [] false .done))))) (.step 9 [] true (.step 7 [] false (.step 8 [] false (.step 10 [] false .done)))))) (.step 9 [] true (.step 4 [] true (.step 7 [] false (.step 8 [] false (.step 10 [] false .done))))))) (.step 9 [] true (.step 3 [] true (.step 4 [] true (.step 7 [] false (.step 8 [] false (.step 10 [] false .done))))))) ⟨[(2,.ptr 0 0 0 1),(3,.ptr 32 0 0 1),(4,.ptr 64 0 0 1),(11,.ptr 30192 0 0 1),(16,.ptr 40768 0 0 1),(17,.ptr 50288 0 0 1)],[(50288,⟨198,4,[cI Y]⟩),(40768,⟨198,4,[cI X]⟩),(30192,⟨198,4,[cI h]⟩),(64,⟨236,12,[cV zI zI zI]⟩),(32,⟨236,12,[cV x' y' z']⟩),(0,⟨236,12,[cV x y z]⟩)],60000⟩ (k:=11) ?h3 ?hq
            case h3 =>
              intro G hG
              have hW:∀ (fr:Fr) (hp:Hp),(fv 2 fr=.ptr 0 0 0 1∧fv 3 fr=.ptr 32 0 0 1∧fv 4 fr=.ptr 64 0 0 1∧fv 11 fr=.ptr 30192 0 0 1∧fv 16 fr=.ptr 40768 0 0 1∧fv 17 fr=.ptr 50288 0 0 1∧lk 50288 hp=some ⟨198,4,[cI Y]⟩∧lk 40768 hp=some ⟨198,4,[cI X]⟩∧lk 30192 hp=some ⟨198,4,[cI h]⟩∧lk 64 hp=some ⟨236,12,[cV zI zI zI]⟩∧lk 32 hp=some ⟨236,12,[cV x' y' z']⟩∧lk 0 hp=some ⟨236,12,[cV x y z]⟩)→G fr hp:=by
                rintro fr hp ⟨q0,q1,q2,q3,q4,q5,q6,q7,q8,q9,q10,q11⟩
                exact hG _ _ wkA
              simp [go_sem,l7,l12,l14,l15,l18,l19,cI_take l7,cI_take l12,cI_take l14,cI_take l15,cI_take l18,cI_take l19,z4,SaW]
              repeat' first | exact hW _ _ ⟨rfl,rfl,rfl,rfl,rfl,rfl,rfl,rfl,rfl,rfl,rfl,rfl⟩ | (refine hW _ _ ?_;simp [fv,lk];done) | refine cl_eq f21 (two_cI _ _) ?_ | refine cl_eq f22 (two_cI _ _) ?_ | refine cl_eq f24 (two_cI _ _) ?_ | refine cl_eq f19 (two_cI _ _) ?_ | apply And.intro | simp [go_sem,l7,l12,l14,l15,l18,l19,cI_take l7,cI_take l12,cI_take l14,cI_take l15,cI_take l18,cI_take l19,z4,SaW]
            case hq =>
              simp only [go_sem,Nat.reduceEqDiff,Nat.reduceAdd,Nat.reduceLT,↓reduceIte]
              refine drw2 [0,1,2,3,4,5,6] [(7,[]),(8,[9]),(10,[])] 2 (k:=11) ?_
              intro G hG
              simp [go_sem,l18,l19,l11,cI_take l18,cI_take l19,cI_take l11,v3,v3b,vl,vlb]
              refine cl_eq f25 (two_cI _ _) ?_
              simp [go_sem]
              refine cl_eq f23 (two_cI _ _) ?_
              have ev:cI X ++ (cI Y ++ cI Z)=cV X Y Z:=rfl
              have xl:=cV_len l18 l19 l23
              have xt:=cV_take l18 l19 l23
              simp [go_sem,l18,l19,l23,wl,wd,mk8 l18 l19,mk12 l18 l19,ev,xl,SaW]
              refine hG _ _ ?_
              simp [go_sem,xl,xt,resV]
              exact post_v rfl
abbrev T3:=List Int × List Int × List Int
def W3 (s:T3):Prop:=Wn 4 s.1∧Wn 4 s.2.1∧Wn 4 s.2.2
def isJ3 (s:T3):Prop:=isJ s.1 s.2.1 s.2.2
noncomputable def JV3 (s:T3):Pt pP:=JV s.1 s.2.1 s.2.2
theorem dblF:∃ D:T3→T3,∀ s,W3 s→W3 (D s)∧(isJ3 s→isJ3 (D s)∧JV3 (D s)=sum fd (JV3 s) (JV3 s))∧Rets Tryz.prog 172 [.agg (cV s.1 s.2.1 s.2.2)] (fun r=>r=.agg (cV (D s).1 (D s).2.1 (D s).2.2)) :=
  pick (α:=T3) (β:=T3) (A:=W3) (B:=fun s t=>W3 t∧(isJ3 s→isJ3 t∧JV3 t=sum fd (JV3 s) (JV3 s))∧Rets Tryz.prog 172 [.agg (cV s.1 s.2.1 s.2.2)] (fun r=>r=.agg (cV t.1 t.2.1 t.2.2))) (fun s hs=>by
    obtain ⟨u,v,w,h1,h2,h3,hv,h4⟩:=doubled_ex s.1 s.2.1 s.2.2 hs.1 hs.2.1 hs.2.2
    exact ⟨(u,v,w),⟨h1,h2,h3⟩,hv,h4⟩)
theorem plusF:∃ D:T3 × T3→T3,∀ s,(W3 s.1∧W3 s.2)→W3 (D s)∧(isJ3 s.1→isJ3 s.2→isJ3 (D s)∧JV3 (D s)=sum fd (JV3 s.1) (JV3 s.2))∧Rets Tryz.prog 170 [.agg (cV s.1.1 s.1.2.1 s.1.2.2),.agg (cV s.2.1 s.2.2.1 s.2.2.2)] (fun r=>r=.agg (cV (D s).1 (D s).2.1 (D s).2.2)) :=
  pick (α:=T3 × T3) (β:=T3) (A:=fun s=>W3 s.1∧W3 s.2) (B:=fun s t=>W3 t∧(isJ3 s.1→isJ3 s.2→isJ3 t∧JV3 t=sum fd (JV3 s.1) (JV3 s.2))∧Rets Tryz.prog 170 [.agg (cV s.1.1 s.1.2.1 s.1.2.2),.agg (cV s.2.1 s.2.2.1 s.2.2.2)] (fun r=>r=.agg (cV t.1 t.2.1 t.2.2))) (fun s hs=>by
    obtain ⟨u,v,w,h1,h2,h3,hv,h4⟩:=plus_ex s.1.1 s.1.2.1 s.1.2.2 s.2.1 s.2.2.1 s.2.2.2 hs.1.1 hs.1.2.1 hs.1.2.2 hs.2.1 hs.2.2.1 hs.2.2.2
    exact ⟨(u,v,w),⟨h1,h2,h3⟩,hv,h4⟩)
theorem bitF:∃ D:List Int × Nat→Bool,∀ s,(Wn 4 s.1∧s.2<256)→(D s=true ↔ (V s.1).toNat / 2 ^ s.2 % 2=1)∧Rets Tryz.prog 173 [.agg (cI s.1),.d (.int .i64 (s.2:Int))] (fun r=>r=.d (.bool (D s))) :=
  pick (α:=List Int × Nat) (β:=Bool) (A:=fun s=>Wn 4 s.1∧s.2<256) (B:=fun s t=>(t=true ↔ (V s.1).toNat / 2 ^ s.2 % 2=1)∧Rets Tryz.prog 173 [.agg (cI s.1),.d (.int .i64 (s.2:Int))] (fun r=>r=.d (.bool t))) (fun s hs=>bit_ex s.1 s.2 hs.1 hs.2)
def stpO (D:T3→T3) (A:T3 × T3→T3) (B:List Int × Nat→Bool) (a b:List Int) (M:Nat) (one two both:T3) (k:Nat) (s:T3):T3 :=
  if B (a,M - 1 - k) then (if B (b,M - 1 - k) then A (D s,both) else A (D s,one)) else (if B (b,M - 1 - k) then A (D s,two) else D s)
theorem both_step {P Q:Pt pP} (hP:onC P) (hQ:onC Q) (a b:Nat) :
    sum fd (sum fd (mp fd a P) (mp fd b Q)) (sum fd (mp fd a P) (mp fd b Q))=sum fd (mp fd (2*a) P) (mp fd (2*b) Q) ∧
    sum fd (sum fd (mp fd (2*a) P) (mp fd (2*b) Q)) P=sum fd (mp fd (2*a+1) P) (mp fd (2*b) Q) ∧
    sum fd (sum fd (mp fd (2*a) P) (mp fd (2*b) Q)) Q=sum fd (mp fd (2*a) P) (mp fd (2*b+1) Q) ∧
    sum fd (sum fd (mp fd (2*a) P) (mp fd (2*b) Q)) (sum fd P Q)=sum fd (mp fd (2*a+1) P) (mp fd (2*b+1) Q):=by
  have a1:=mp_on fd hP a
  have b1:=mp_on fd hQ b
  have a2:=mp_on fd hP (2*a)
  have b2:=mp_on fd hQ (2*b)
  refine ⟨?_,?_,?_,?_⟩
  · rw [sum4 fd a1 b1 a1 b1,mp_two fd hP,mp_two fd hQ]
  · rw [mp,sum_assoc fd a2 b2 hP,sum_comm fd (mp fd (2*b) Q) P,← sum_assoc fd a2 hP b2]
  · rw [mp,sum_assoc fd a2 b2 hQ]
  · rw [mp,mp,sum4 fd a2 b2 hP hQ]
theorem half_step (N M k:Nat) (h:k<M):N / 2 ^ (M - (k+1))=2*(N / 2 ^ (M - k))+N / 2 ^ (M - 1 - k) % 2:=by
  have e:M - k=(M - 1 - k)+1:=by omega
  have e2:M - (k+1)=M - 1 - k:=by omega
  rw [e,e2,Nat.pow_succ,← Nat.div_div_eq_div_mul]
  omega
theorem four_d (a b:List Int) (x y x' y':List Int) (c c':Bool):∀ v,v ∈ [AV.agg (cI a),AV.agg (cP x y c),AV.agg (cI b),AV.agg (cP x' y' c')]→v.deep:=by
  intro v hv;simp at hv
  rcases hv with rfl | rfl | rfl | rfl
  · exact cI_deepA _
  · exact cP_deep _ _ _
  · exact cI_deepA _
  · exact cP_deep _ _ _
theorem wi2_deep (n:List Int) (m:Int):∀ v,v ∈ [AV.agg (cI n),AV.d (.int .i64 m)]→v.deep:=by
  intro v hv;simp at hv;rcases hv with rfl | rfl;exact cI_deepA _;trivial
theorem both_ex (a b x y x' y':List Int) (c c':Bool) (ha:Wn 4 a) (hb:Wn 4 b) (hx:Wn 4 x) (hy:Wn 4 y) (hx':Wn 4 x') (hy':Wn 4 y'):∃ (u v:List Int) (o:Bool),Wn 4 u∧Wn 4 v∧(isPt x y c→isPt x' y' c'→isPt u v o∧PV u v o=sum fd (mp fd (V a).toNat (PV x y c)) (mp fd (V b).toNat (PV x' y' c')))∧Rets Tryz.prog 128 [.agg (cI a),.agg (cP x y c),.agg (cI b),.agg (cP x' y' c')] (fun r=>r=.agg (cP u v o)):=by
  obtain ⟨D,hD⟩:=dblF
  obtain ⟨A,hA⟩:=plusF
  obtain ⟨B,hB⟩:=bitF
  obtain ⟨p1,p2,p3,hp1,hp2,tv1,t1⟩:=taken_ex x y c hx hy
  obtain ⟨u1,v1,w1,hu1,hv1,hw1,wv1,g1⟩:=weigh_ex p1 p2 p3 hp1 hp2
  obtain ⟨r1,r2,r3,hr1,hr2,tv2,t2⟩:=taken_ex x' y' c' hx' hy'
  obtain ⟨u2,v2,w2,hu2,hv2,hw2,wv2,g2⟩:=weigh_ex r1 r2 r3 hr1 hr2
  obtain ⟨u3,v3,w3,hu3,hv3,hw3,wv3,f3⟩:=plus_ex u1 v1 w1 u2 v2 w2 hu1 hv1 hw1 hu2 hv2 hw2
  obtain ⟨u4,v4,w4,hu4,hv4,hw4,wv4,f4⟩:=weigh_ex zI zI true zI_W zI_W
  obtain ⟨La,hLa,vLa,f5⟩:=wlen_ex a ha
  obtain ⟨Lb,hLb,vLb,f6⟩:=wlen_ex b hb
  obtain ⟨M,hM⟩:∃ M,M=max La Lb:=⟨_,rfl⟩
  have hM2:M≤256:=by omega
  have hone:W3 (u1,v1,w1):=⟨hu1,hv1,hw1⟩
  have htwo:W3 (u2,v2,w2):=⟨hu2,hv2,hw2⟩
  have hboth:W3 (u3,v3,w3):=⟨hu3,hv3,hw3⟩
  have hS:∀ k,W3 (itr (stpO D A B a b M (u1,v1,w1) (u2,v2,w2) (u3,v3,w3)) (u4,v4,w4) k):=itr_inv (P:=fun _ s=>W3 s) ⟨hu4,hv4,hw4⟩ fun k s hs=>by
    have hd:=(hD s hs).1
    unfold stpO
    split
    · split
      · exact (hA _ ⟨hd,hboth⟩).1
      · exact (hA _ ⟨hd,hone⟩).1
    · split
      · exact (hA _ ⟨hd,htwo⟩).1
      · exact hd
  obtain ⟨u,v,o,hu,hv,vp,f7⟩:=plain_ex _ _ _ (hS M).1 (hS M).2.1 (hS M).2.2
  have vv:isPt x y c→isPt x' y' c'→isPt u v o∧PV u v o=sum fd (mp fd (V a).toNat (PV x y c)) (mp fd (V b).toNat (PV x' y' c')):=by
    intro i1 i2
    obtain ⟨q1,q2,q3⟩:=tv1.2.1 i1
    obtain ⟨q4,q5,q6⟩:=tv2.2.1 i2
    subst q1 q2 q3 q4 q5 q6
    have o1:=isPt_on i1
    have o2:=isPt_on i2
    obtain ⟨j1,e1⟩:=wv1 i1
    obtain ⟨j2,e2⟩:=wv2 i2
    obtain ⟨j3,e3⟩:=wv3 j1 j2
    obtain ⟨j4,e4⟩:=wv4 isPt_z
    have hbig:∀ (w:List Int) (L:Nat),Wn 4 w→V w<2 ^ L→L≤M→(V w).toNat / 2 ^ M=0:=by
      intro w L hw hL hLM
      have h0:=(V_lt hw).1
      have h1:(((V w).toNat:Nat):Int)<((2 ^ L:Nat):Int):=by rw [Int.toNat_of_nonneg h0];exact_mod_cast hL
      have h2:(V w).toNat<2 ^ L:=by exact_mod_cast h1
      exact Nat.div_eq_of_lt (Nat.lt_of_lt_of_le h2 (Nat.pow_le_pow_right (by omega) hLM))
    have main:∀ k,k≤M→isJ3 (itr (stpO D A B a b M (u1,v1,w1) (u2,v2,w2) (u3,v3,w3)) (u4,v4,w4) k)∧JV3 (itr (stpO D A B a b M (u1,v1,w1) (u2,v2,w2) (u3,v3,w3)) (u4,v4,w4) k)=sum fd (mp fd ((V a).toNat / 2 ^ (M - k)) (PV p1 p2 p3)) (mp fd ((V b).toNat / 2 ^ (M - k)) (PV r1 r2 r3)):=by
      intro k
      induction k with
      | zero =>
        intro _
        refine ⟨j4,?_⟩
        rw [Nat.sub_zero,hbig a La ha vLa (by omega),hbig b Lb hb vLb (by omega)]
        show JV u4 v4 w4=_
        rw [e4,PV_z]
        exact (sum_none fd (Q:=none) True.intro).symm
      | succ k ih =>
        intro hk
        obtain ⟨i3,i4⟩:=ih (by omega)
        have hs:=hS k
        rw [itr]
        generalize itr (stpO D A B a b M (u1,v1,w1) (u2,v2,w2) (u3,v3,w3)) (u4,v4,w4) k=s at *
        obtain ⟨d1,d2,_⟩:=hD s hs
        obtain ⟨d3,d4⟩:=d2 i3
        have ba:=(hB (a,M - 1 - k) ⟨ha,by omega⟩).1
        have bb:=(hB (b,M - 1 - k) ⟨hb,by omega⟩).1
        obtain ⟨s1,s2,s3,s4⟩:=both_step o1 o2 ((V a).toNat / 2 ^ (M - k)) ((V b).toNat / 2 ^ (M - k))
        rw [i4,s1] at d4
        rw [half_step _ M k (by omega),half_step (V b).toNat M k (by omega)]
        dsimp only at ba bb
        have m2:∀ n:Nat,n % 2=0 ∨ n % 2=1:=Nat.mod_two_eq_zero_or_one
        unfold stpO
        cases hb1:B (a,M - 1 - k)
        · have za:(V a).toNat / 2 ^ (M - 1 - k) % 2=0:=(m2 _).resolve_right (fun h=>by rw [ba.2 h] at hb1;cases hb1)
          rw [za,Nat.add_zero]
          cases hb2:B (b,M - 1 - k)
          · have zb:(V b).toNat / 2 ^ (M - 1 - k) % 2=0:=(m2 _).resolve_right (fun h=>by rw [bb.2 h] at hb2;cases hb2)
            rw [zb,Nat.add_zero]
            exact ⟨d3,d4⟩
          · rw [bb.1 hb2]
            obtain ⟨k1,k2,_⟩:=hA (D s,(u2,v2,w2)) ⟨d1,htwo⟩
            obtain ⟨k3,k4⟩:=k2 d3 j2
            refine ⟨k3,?_⟩
            show JV3 (A (D s,(u2,v2,w2)))=_
            rw [k4,d4,← s3]
            show sum fd _ (JV u2 v2 w2)=_
            rw [e2]
        · rw [ba.1 hb1]
          cases hb2:B (b,M - 1 - k)
          · have zb:(V b).toNat / 2 ^ (M - 1 - k) % 2=0:=(m2 _).resolve_right (fun h=>by rw [bb.2 h] at hb2;cases hb2)
            rw [zb,Nat.add_zero (2*((V b).toNat / 2 ^ (M - k)))]
            obtain ⟨k1,k2,_⟩:=hA (D s,(u1,v1,w1)) ⟨d1,hone⟩
            obtain ⟨k3,k4⟩:=k2 d3 j1
            refine ⟨k3,?_⟩
            show JV3 (A (D s,(u1,v1,w1)))=_
            rw [k4,d4,← s2]
            show sum fd _ (JV u1 v1 w1)=_
            rw [e1]
          · rw [bb.1 hb2]
            obtain ⟨k1,k2,_⟩:=hA (D s,(u3,v3,w3)) ⟨d1,hboth⟩
            obtain ⟨k3,k4⟩:=k2 d3 j3
            refine ⟨k3,?_⟩
            show JV3 (A (D s,(u3,v3,w3)))=_
            rw [k4,d4,← s4]
            show sum fd _ (JV u3 v3 w3)=_
            rw [e3,e1,e2]
    obtain ⟨z1,z2⟩:=main M (Nat.le_refl _)
    obtain ⟨z3,z4⟩:=vp z1
    refine ⟨z3,?_⟩
    rw [z4]
    show JV3 _=_
    rw [z2,Nat.sub_self,Nat.pow_zero,Nat.div_one,Nat.div_one]
  refine ⟨u,v,o,hu,hv,vv,?_⟩
  refine fna Tryz.func128 Tryz.ntmps128 (rs:=[.cell 8 200]) (four_d _ _ _ _ _ _ _ _) ?_
  have hal:=ha.1
  have hbl:=hb.1
  have hxl:=hx.1
  have hyl:=hy.1
  have hxl':=hx'.1
  have hyl':=hy'.1
  have z4:List.drop 4 (cI zI)=[]:=cI_drop rfl
  have pl1:=cP_len hxl hyl c
  have pt1:=cP_take hxl hyl c
  have pl2:=cP_len hxl' hyl' c'
  have pt2:=cP_take hxl' hyl' c'
  have wl1:=cV_len hu1.1 hv1.1 hw1.1
  have wt1:=cV_take hu1.1 hv1.1 hw1.1
  have wl2:=cV_len hu2.1 hv2.1 hw2.1
  have wt2:=cV_take hu2.1 hv2.1 hw2.1
  have wl3:=cV_len hu3.1 hv3.1 hw3.1
  have wt3:=cV_take hu3.1 hv3.1 hw3.1
  have wl4:=cV_len hu4.1 hv4.1 hw4.1
  have wt4:=cV_take hu4.1 hv4.1 hw4.1
  have wd:(cV zI zI zI).drop 12=[]:=cV_drop rfl rfl rfl
  have wl:(cV zI zI zI).length=12:=rfl
  have pd:(cP zI zI false).drop 9=[]:=cP_drop rfl rfl _
  have pl:(cP zI zI false).length=9:=rfl
  simp [go_sem,hal,hbl,cI_take hal,cI_take hbl,pl1,pt1,pl2,pt2]
  refine drw3 [0,3] [1,2,4,5,6,7,8,9] [0,3] (.alt (.step 1 [] true (.alt (.step 2 [] true (.alt (.step 4 [] false (.alt (.step 5 [] false (.alt (.step 6 [] false (.step 7 [] false (.step 8 [] false (.step 9 [] false .done)))) (.step 7 [] false (.step 6 [] false (.step 8 [] false (.step 9 [] false .done)))))) (.alt (.step 6 [] false (.alt (.step 5 [] false (.step 7 [] false (.step 8 [] false (.step 9 [] false .done)))) (.step 7 [] false (.step 5 [] false (.step 8 [] false (.step 9 [] false .done)))))) (.step 7 [] false (.alt (.step 5 [] false (.step 6 [] false (.step 8 [] false (.step 9 [] false .done)))) (.step 6 [] false (.step 5 [] false (.step 8 [] false (.step 9 [] false .done))))))))) (.alt (.step 6 [] true (.alt (.step 4 [] false (.alt (.step 5 [] false (.step 7 [] false (.step 8 [] false (.step 9 [] false .done)))) (.step 7 [] false (.step 5 [] false (.step 8 [] false (.step 9 [] false .done)))))) (.step 7 [] true (.step 4 [] false (.step 5 [] false (.step 8 [] false (.step 9 [] false .done))))))) (.step 7 [] true (.alt (.step 4 [] false (.alt (.step 5 [] false (.step 6 [] false (.step 8 [] false (.step 9 [] false .done)))) (.step 6 [] false (.step 5 [] false (.step 8 [] false (.step 9 [] false .done)))))) (.step 6 [] true (.step 4 [] false (.step 5 [] false (.step 8 [] false (.step 9 [] false .done)))))))))) (.alt (.step 6 [] true (.alt (.step 2 [] true (.alt (.step 4 [] false (.alt (.step 5 [] false (.step 7 [] false (.step 8 [] false (.step 9 [] false .done)))) (.step 7 [] false (.step 5 [] false (.step 8 [] false (.step 9 [] false .done)))))) (.step 7 [] true (.step 4 [] false (.step 5 [] false (.step 8 [] false (.step 9 [] false .done))))))) (.step 7 [] true (.step 2 [] true (.step 4 [] false (.step 5 [] false (.step 8 [] false (.step 9 [] false .done)))))))) (.step 7 [] true (.alt (.step 2 [] true (.alt (.step 4 [] false (.alt (.step 5 [] false (.step 6 [] false (.step 8 [] false (.step 9 [] false .done)))) (.step 6 [] false (.step 5 [] false (.step 8 [] false (.step 9 [] false .done)))))) (.step 6 [] true (.step 4 [] false (.step 5 [] false (.step 8 [] false (.step 9 [] false .done))))))) (.step 6 [] true (.step 2 [] true (.step 4 [] false (.step 5 [] false (.step 8 [] false (.step 9 [] false .done))))))))))) (.alt (.step 6 [] true (.alt (.step 1 [] true (.alt (.step 2 [] true (.alt (.step 4 [] false (.alt (.step 5 [] false (.step 7 [] false (.step 8 [] false (.step 9 [] false .done)))) (.step 7 [] false (.step 5 [] false (.step 8 [] false (.step 9 [] false .done)))))) (.step 7 [] true (.step 4 [] false (.step 5 [] false (.step 8 [] false (.step 9 [] false .done))))))) (.step 7 [] true (.step 2 [] true (.step 4 [] false (.step 5 [] false (.step 8 [] false (.step 9 [] false .done)))))))) (.step 7 [] true (.step 1 [] true (.step 2 [] true (.step 4 [] false (.step 5 [] false (.step 8 [] false (.step 9 [] false .done))))))))) (.step 7 [] true (.alt (.step 1 [] true (.alt (.step 2 [] true (.alt (.step 4 [] false (.alt (.step 5 [] false (.step 6 [] false (.step 8 [] false (.step 9 [] false .done)))) (.step 6 [] false (.step 5 [] false (.step 8 [] false (.step 9 [] false .done)))))) (.step 6 [] true (.step 4 [] false (.step 5 [] false (.step 8 [] false (.step 9 [] false .done))))))) (.step 6 [] true (.step 2 [] true (.step 4 [] false (.step 5 [] false (.step 8 [] false (.step 9 [] false .done)))))))) (.step 6 [] true (.step 1 [] true (.step 2 [] true (.step 4 [] false (.step 5 [] false (.step 8 [] false (.step 9 [] false .done))))))))))) ⟨[(4,.ptr 0 0 0 1),(6,.ptr 64 0 0 1),(8,.ptr 128 0 0 1),(9,.ptr 352 0 0 1),(10,.ptr 384 0 0 1)],[(384,⟨236,12,[cV u2 v2 w2]⟩),(352,⟨236,12,[cV u1 v1 w1]⟩),(128,⟨200,9,[cP zI zI false]⟩),(64,⟨198,4,[cI b]⟩),(0,⟨198,4,[cI a]⟩)],9000⟩ (k:=10) ?h3 ?hq
  case h3 =>
    intro G hG
    have hW:∀ (fr:Fr) (hp:Hp),(fv 4 fr=.ptr 0 0 0 1∧fv 6 fr=.ptr 64 0 0 1∧fv 8 fr=.ptr 128 0 0 1∧fv 9 fr=.ptr 352 0 0 1∧fv 10 fr=.ptr 384 0 0 1∧lk 384 hp=some ⟨236,12,[cV u2 v2 w2]⟩∧lk 352 hp=some ⟨236,12,[cV u1 v1 w1]⟩∧lk 128 hp=some ⟨200,9,[cP zI zI false]⟩∧lk 64 hp=some ⟨198,4,[cI b]⟩∧lk 0 hp=some ⟨198,4,[cI a]⟩)→G fr hp:=by
      rintro fr hp ⟨q0,q1,q2,q3,q4,q5,q6,q7,q8,q9⟩
      exact hG _ _ wkA
    simp [go_sem,hal,hbl,cI_take hal,cI_take hbl,pl1,pt1,pl2,pt2,wl1,wt1,wl2,wt2,wd,z4,SaW]
    repeat' first | exact hW _ _ ⟨rfl,rfl,rfl,rfl,rfl,rfl,rfl,rfl,rfl,rfl⟩ | (refine hW _ _ ?_;simp [fv,lk];done) | refine cl_eq t1 (one_cP _ _ _) ?_ | refine cl_eq t2 (one_cP _ _ _) ?_ | refine cl_eq g1 (one_cP _ _ _) ?_ | refine cl_eq g2 (one_cP _ _ _) ?_ | apply And.intro | simp [go_sem,hal,hbl,cI_take hal,cI_take hbl,pl1,pt1,pl2,pt2,wl1,wt1,wl2,wt2,wd,z4,SaW]
  case hq =>
    simp [go_sem,wl1,wt1,wl2,wt2]
    refine cl_eq f3 (two_cV _ _ _ _ _ _) ?_
    simp [go_sem,wl3,wt3,wd]
    refine cl_eq zero_fn (by simp) ?_
    simp [go_sem]
    refine cl_eq f4 (one_cP _ _ _) ?_
    simp [go_sem,wl4,wt4,wd]
    refine drw2 [0,2] [(1,[]),(3,[]),(4,[5,6])] 3 (k:=7) ?_
    intro G hG
    simp [go_sem,hal,hbl,cI_take hal,cI_take hbl]
    refine cl_eq f5 (one_cI _) ?_
    simp [go_sem,hal,hbl,cI_take hal,cI_take hbl]
    refine cl_eq f6 (one_cI _) ?_
    have w0:IntKind.i64.wrap ((M:Int) - 1)=(M:Int) - 1:=by rw [IntWalk.i64_in _ (by omega)]
    have hMi:max (La:Int) (Lb:Int)=(M:Int):=by omega
    have hMx:(if La<Lb then (Lb:Int) else (La:Int))=(M:Int):=by split <;> omega
    simp [go_sem,hMi,w0]
    refine hG _ _ ?_
    generalize hSS:itr (stpO D A B a b M (u1,v1,w1) (u2,v2,w2) (u3,v3,w3)) (u4,v4,w4)=S at *
    have hS0:S 0=(u4,v4,w4):=by rw [← hSS];rfl
    refine loop_of (fun k:Nat=>⟨[(4,.ptr 0 0 0 1),(6,.ptr 64 0 0 1),(8,.ptr 128 0 0 1),(9,.ptr 352 0 0 1),(10,.ptr 384 0 0 1),(11,.ptr 9096 0 0 1),(12,.ptr 9224 0 0 1),(13,.d (.int .i64 ((M:Int) - 1 - (k:Int))))],[(9224,⟨236,12,[cV (S k).1 (S k).2.1 (S k).2.2]⟩),(9096,⟨236,12,[cV u3 v3 w3]⟩),(384,⟨236,12,[cV u2 v2 w2]⟩),(352,⟨236,12,[cV u1 v1 w1]⟩),(128,⟨200,9,[cP zI zI false]⟩),(64,⟨198,4,[cI b]⟩),(0,⟨198,4,[cI a]⟩)],20000⟩)
      (fun k=>k≤M) (fun k=>M - k) 0 (by omega) (by
        rw [hS0]
        simp [Weak,slotOk,fv,lk,AV.low,AV.low1]
        and_intros <;> first | exact cV_low _ _ _ _ | exact cI_low _ _ | exact cP_low _ _ _ _ | (rw [hMx,w0])) ?_
    intro k hk
    obtain ⟨hs1,hs2,hs3⟩:=hS k
    have sl:=cV_len hs1.1 hs2.1 hs3.1
    have st:=cV_take hs1.1 hs2.1 hs3.1
    have sd:=cV_drop hs1.1 hs2.1 hs3.1
    simp only [go_sem,Nat.reduceEqDiff,Nat.reduceAdd,Nat.reduceLT,↓reduceIte]
    by_cases h4:k<M
    · refine ⟨fun h=>?_,fun h=>absurd (by omega) h⟩
      have hsn:S (k+1)=stpO D A B a b M (u1,v1,w1) (u2,v2,w2) (u3,v3,w3) k (S k):=by rw [← hSS];rfl
      have wq:IntKind.i64.wrap ((M:Int) - 1 - (k:Int) - 1)=(M:Int) - 1 - ((k+1:Nat):Int):=by rw [IntWalk.i64_in _ (by omega)];omega
      obtain ⟨d1,_,d2⟩:=hD (S k) ⟨hs1,hs2,hs3⟩
      have dl:=cV_len d1.1.1 d1.2.1.1 d1.2.2.1
      have dt:=cV_take d1.1.1 d1.2.1.1 d1.2.2.1
      have dd:=cV_drop d1.1.1 d1.2.1.1 d1.2.2.1
      have e1:=(hB (a,M - 1 - k) ⟨ha,by omega⟩).2
      have e2:=(hB (b,M - 1 - k) ⟨hb,by omega⟩).2
      have ei:(((M - 1 - k:Nat)):Int)=(M:Int) - 1 - (k:Int):=by omega
      simp only [ei] at e1 e2
      unfold stpO at hsn
      simp [go_sem,sl,st]
      refine cl_eq d2 (one_cV _ _ _) ?_
      simp [go_sem,dl,dt,sl,sd]
      refine drw2 [0,1,3,4] [(2,[]),(5,[6,7])] 2 (k:=8) ?_
      intro G hG
      simp [go_sem,hal,hbl,cI_take hal,cI_take hbl]
      refine cl_eq e1 (wi2_deep _ _) ?_
      simp [go_sem,hal,hbl,cI_take hal,cI_take hbl]
      refine cl_eq e2 (wi2_deep _ _) ?_
      simp [go_sem]
      refine hG _ _ ?_
      cases hb1:B (a,M - 1 - k)
      · cases hb2:B (b,M - 1 - k)
        · simp only [hb1,hb2,if_true,if_false,Bool.false_eq_true] at hsn
          simp [go_sem,hb1,hb2,dl,dt,wl1,wt1,wl2,wt2,wl3,wt3]
          simp [go_sem,wq]
          refine next_of (k+1) (by omega) (by omega) ?_
          rw [hsn]
          simp [Weak,slotOk,fv,lk,AV.low,AV.low1]
          and_intros <;> first | exact cV_low _ _ _ _ | exact cI_low _ _ | exact cP_low _ _ _ _ | omega
        · simp only [hb1,hb2,if_true,if_false,Bool.false_eq_true] at hsn
          simp [go_sem,hb1,hb2,dl,dt,wl1,wt1,wl2,wt2,wl3,wt3]
          obtain ⟨m1,_,m2⟩:=hA (D (S k),(u2,v2,w2)) ⟨d1,htwo⟩
          refine cl_eq m2 (two_cV _ _ _ _ _ _) ?_
          have ml:=cV_len m1.1.1 m1.2.1.1 m1.2.2.1
          have mt:=cV_take m1.1.1 m1.2.1.1 m1.2.2.1
          have md:=cV_drop m1.1.1 m1.2.1.1 m1.2.2.1
          generalize A (D (S k),(u2,v2,w2))=z at *
          simp [go_sem,ml,mt,dd,dl,wq]
          refine next_of (k+1) (by omega) (by omega) ?_
          rw [hsn]
          simp [Weak,slotOk,fv,lk,AV.low,AV.low1]
          and_intros <;> first | exact cV_low _ _ _ _ | exact cI_low _ _ | exact cP_low _ _ _ _ | omega
      · cases hb2:B (b,M - 1 - k)
        · simp only [hb1,hb2,if_true,if_false,Bool.false_eq_true] at hsn
          simp [go_sem,hb1,hb2,dl,dt,wl1,wt1,wl2,wt2,wl3,wt3]
          obtain ⟨m1,_,m2⟩:=hA (D (S k),(u1,v1,w1)) ⟨d1,hone⟩
          refine cl_eq m2 (two_cV _ _ _ _ _ _) ?_
          have ml:=cV_len m1.1.1 m1.2.1.1 m1.2.2.1
          have mt:=cV_take m1.1.1 m1.2.1.1 m1.2.2.1
          have md:=cV_drop m1.1.1 m1.2.1.1 m1.2.2.1
          generalize A (D (S k),(u1,v1,w1))=z at *
          simp [go_sem,ml,mt,dd,dl,wq]
          refine next_of (k+1) (by omega) (by omega) ?_
          rw [hsn]
          simp [Weak,slotOk,fv,lk,AV.low,AV.low1]
          and_intros <;> first | exact cV_low _ _ _ _ | exact cI_low _ _ | exact cP_low _ _ _ _ | omega
        · simp only [hb1,hb2,if_true,if_false,Bool.false_eq_true] at hsn
          simp [go_sem,hb1,hb2,dl,dt,wl1,wt1,wl2,wt2,wl3,wt3]
          obtain ⟨m1,_,m2⟩:=hA (D (S k),(u3,v3,w3)) ⟨d1,hboth⟩
          refine cl_eq m2 (two_cV _ _ _ _ _ _) ?_
          have ml:=cV_len m1.1.1 m1.2.1.1 m1.2.2.1
          have mt:=cV_take m1.1.1 m1.2.1.1 m1.2.2.1
          have md:=cV_drop m1.1.1 m1.2.1.1 m1.2.2.1
          generalize A (D (S k),(u3,v3,w3))=z at *
          simp [go_sem,ml,mt,dd,dl,wq]
          refine next_of (k+1) (by omega) (by omega) ?_
          rw [hsn]
          simp [Weak,slotOk,fv,lk,AV.low,AV.low1]
          and_intros <;> first | exact cV_low _ _ _ _ | exact cI_low _ _ | exact cP_low _ _ _ _ | omega
    · refine ⟨fun h=>absurd (by omega) h4,fun h=>?_⟩
      have hkl:k=M:=by omega
      subst hkl
      simp [go_sem,sl,st]
      refine cl_eq f7 (one_cV _ _ _) ?_
      have ol:=cP_len hu.1 hv.1 o
      have ot:=cP_take hu.1 hv.1 o
      simp [go_sem,ol,ot,pl,pd,resV]
      exact post_p rfl
def turnTag:List Nat:=[84,97,112,84,119,101,97,107]
theorem tagB_b (t b:List Nat):(tagB t b).length=32∧bytes (tagB t b):=⟨sumB_len _,sumB_bytes _⟩
theorem b_nb (b:List Nat) (d:DV):∀ v,v ∈ [AV.agg (cb b),AV.d d]→v.deep:=by
  intro v hv;simp at hv;rcases hv with rfl | rfl;exact cb_deepA _;trivial
theorem turning_ex (inner root:List Nat) (hi:inner.length=32) (hr:root.length≤1000):∃ (t:List Int) (ok:Bool),Wn 4 t∧((beN (tagB turnTag (inner ++ root))<115792089237316195423570985008687907852837564279074904382605163141518161494337→ok=true∧V t=(beN (tagB turnTag (inner ++ root)):Int))∧(¬ beN (tagB turnTag (inner ++ root))<115792089237316195423570985008687907852837564279074904382605163141518161494337→ok=false∧t=zI))∧Rets Tryz.prog 127 [.agg (cb inner),.d (nb root)] (fun r=>r=.tup [.agg (cI t),.d (.bool ok)]):=by
  obtain ⟨t,ok,ht,vt,f1⟩:=sread_ex (tagB turnTag (inner ++ root)) (tagB_b _ _).1 (tagB_b _ _).2
  refine ⟨t,ok,ht,vt,?_⟩
  refine fna Tryz.func127 Tryz.ntmps127 (rs:=[.cell 4 198,.tmp 5]) (b_nb _ _) ?_
  have htl:=ht.1
  have hz:List.drop 4 (cI zI)=[]:=cI_drop rfl
  simp [go_sem,cb_len,hi,cb_take hi]
  refine cl_froz [0,160] (joined_fn inner root hi (by omega)) rfl (snap_cons (.one (snap1_d (own_of (rows:=[[.sub 0 0 0 1 32 32 1],[.d (nb root)]]) rfl (by simp) rfl (RowsR.cons (.cons (snap_arr rfl (by simp) hi) .nil) (RowsR.cons (.cons (.d _) .nil) .nil)) rfl (by intro r hr;simp at hr;rcases hr with rfl | rfl <;> rfl)))) snap_nil) ?_
  simp [go_sem,dropH]
  refine cl_eq (tagged_fn turnTag (.str [84,97,112,84,119,101,97,107]) rfl (inner ++ root) (by simp [turnTag]) (by rw [List.length_append];omega)) (by simp [AV.deep,AV.deep1]) ?_
  simp [go_sem]
  refine cl_eq f1 (one_cb1 _) ?_
  simp [go_sem,htl,cI_take htl,hz,resV]
  exact post_wb rfl
noncomputable def liftPt (n:Nat):Pt pP:=some (icF pP (n:Int),icF pP (if liftR n % 2=0 then liftR n else (0 - liftR n) % 115792089237316195423570985008687907853269984665640564039457584007908834671663))
noncomputable def turnQ (n t:Nat):Pt pP:=sum fd (mp fd 1 (liftPt n)) (mp fd t (PV gX gY false))
theorem sq_mod (R p:Int):(0 - R) % p*((0 - R) % p) % p=R*R % p:=by
  rw [← Int.mul_emod]
  congr 1
  rw [Int.zero_sub,Int.neg_mul_neg]
theorem cube_V {x:List Int} {n:Nat} (hx:V x=n):((((FV x*FV x*FV x+7:F)).val:Nat):Int)=liftC n:=by
  have e7:(((7:F).val:Nat):Int)=7 % pZ:=by
    show ((7 % pP:Nat):Int)=_
    rw [Int.natCast_emod,pP_int];rfl
  rw [valA,valM,valM,Int.natCast_emod,Int.natCast_add,Int.natCast_emod,Int.natCast_mul,Int.natCast_emod,Int.natCast_mul,FV_val,e7,pP_int,hx]
  unfold liftC
  show _=((n:Int)*n*n+7) % pZ
  rw [← Int.mul_emod (n:Int) n,← Int.mul_emod ((n:Int)*n) n,← Int.add_emod]
theorem lift_pt {n:Nat} {x y:List Int} {c:Bool} (h:liftS n x y c true):liftOk n∧c=false∧isPt x y c∧PV x y c=liftPt n:=by
  rcases h with ⟨_,h,_⟩ | ⟨h1,_,rfl,hx,hy⟩
  · cases h
  have hpos:(0:Int)<pZ:=by decide
  have hyl:V y<pZ:=by
    rw [hy]
    split
    · exact Int.emod_lt_of_pos _ hpos
    · exact Int.emod_lt_of_pos _ hpos
  have hon:FV y*FV y=FV x*FV x*FV x+7:=by
    refine F_ext ?_
    rw [cube_V hx,valM,Int.natCast_emod,Int.natCast_mul,FV_val,pP_int,← Int.mul_emod]
    have hc:liftC n % pZ=liftC n:=by unfold liftC;exact Int.emod_emod _ _
    have hR:liftR n*liftR n % pZ=liftC n:=h1.2.trans hc
    rw [hy]
    split
    · exact hR
    · rw [← hR];exact sq_mod _ _
  refine ⟨h1,rfl,.inr ⟨rfl,by rw [hx];exact h1.1,hyl,hon⟩,?_⟩
  show some (icF pP (V x),icF pP (V y))=_
  rw [hx,hy]
  rfl
theorem lift_no {n:Nat} {x y:List Int} {c:Bool} (h:liftS n x y c false):¬ liftOk n:=by
  rcases h with ⟨h,_⟩ | ⟨_,h,_⟩
  · exact h
  · cases h
def turnR (n t:Nat) (k:List Nat) (o:Bool) (e:Int):Prop :=
  ((¬ (liftOk n∧t<115792089237316195423570985008687907852837564279074904382605163141518161494337) ∨ turnQ n t=none)∧e=1∧k=z32∧o=false) ∨
  ((liftOk n∧t<115792089237316195423570985008687907852837564279074904382605163141518161494337)∧e=0∧∃ x y,turnQ n t=some (x,y)∧beN k=x.val∧(o=true ↔ y.val % 2=1))
theorem val_V {x:List Int} (hx:Wn 4 x) (h:V x<pZ):(V x).toNat=(FV x).val:=by
  have e:=FV_val x
  have h0:=(V_lt hx).1
  rw [Int.emod_eq_of_lt h0 h] at e
  omega
def E1 (e:Int):Prop:=e=0 ∨ e=1
theorem post_be {Q:AV→Prop} {st:St} {b:List Nat} {o:Bool} {e:Int} (hq:Q (.tup [.agg (cb b),.d (.bool o),.d (.int .i64 e)])):PostK Q (.tup [.agg (cb b),.d (.bool o),.d (.int .i64 e)]) st :=
  post_same (by
    intro c hc
    simp at hc
    rcases hc with rfl | rfl | rfl
    · exact .inr ⟨_,rfl,cb_deep _⟩
    · exact .inl trivial
    · exact .inl trivial) hq
theorem turn_ex (inner root:List Nat) (hi:inner.length=32) (hib:bytes inner) (hr:root.length≤1000):∃ (k:List Nat) (o:Bool) (e:Int),k.length=32∧bytes k∧E1 e∧turnR (beN inner) (beN (tagB turnTag (inner ++ root))) k o e∧Rets Tryz.prog 90 [.agg (cb inner),.d (nb root)] (fun r=>r=.tup [.agg (cb k),.d (.bool o),.d (.int .i64 e)]):=by
  obtain ⟨x,y,c,ok,hx,hy,vl,f1⟩:=liftP_ex inner hi hib
  obtain ⟨t,ok2,ht,vt,f2⟩:=turning_ex inner root hi hr
  obtain ⟨qx,qy,qc,hqx,hqy,vq,f4⟩:=both_ex [1,0,0,0] t x y gX gY c false (fromI_W ⟨by omega,by omega⟩) ht hx hy gX_W gY_W
  obtain ⟨kb,kl,kbb,vk,f5⟩:=pbytes_ex qx qy qc hqx hqy
  obtain ⟨od,vo,f6⟩:=even_ex qx qy qc hqx hqy
  generalize hT:beN (tagB turnTag (inner ++ root))=T at *
  have zb:bytes z32:=fun x hx=>by simp [z32] at hx;omega
  have pl:=cP_len hx.1 hy.1 c
  have pt:=cP_take hx.1 hy.1 c
  have pd:(cP zI zI false).drop 9=[]:=cP_drop rfl rfl _
  have pl0:(cP zI zI false).length=9:=rfl
  have ql:=cP_len hqx.1 hqy.1 qc
  have qt:=cP_take hqx.1 hqy.1 qc
  have qb:=cP_b hqx.1 hqy.1 qc
  have qg:=cP_g hqx.1 hqy.1 qc
  have htl:=ht.1
  have hz:List.drop 4 (cI zI)=[]:=cI_drop rfl
  have zd:List.drop 32 (cb z32)=[]:=cb_drop rfl
  have zt:List.take 32 (cb z32)=cb z32:=cb_take rfl
  cases ok
  · refine ⟨z32,false,1,rfl,zb,.inr rfl,.inl ⟨.inl (fun h=>lift_no vl h.1),rfl,rfl,rfl⟩,?_⟩
    refine fna Tryz.func90 Tryz.ntmps90 (rs:=[.cell 4 22,.tmp 5,.tmp 6]) (b_nb _ _) ?_
    simp [go_sem,cb_len,hi,cb_take hi]
    refine cl_eq f1 (one_cb1 _) ?_
    simp [go_sem,pl,pt,pd,pl0,zd,zt,cb_len,resV]
    exact post_be rfl
  · cases ok2
    · refine ⟨z32,false,1,rfl,zb,.inr rfl,.inl ⟨.inl (fun h=>absurd (vt.1 h.2).1 (by decide)),rfl,rfl,rfl⟩,?_⟩
      refine fna Tryz.func90 Tryz.ntmps90 (rs:=[.cell 4 22,.tmp 5,.tmp 6]) (b_nb _ _) ?_
      simp [go_sem,cb_len,hi,cb_take hi]
      refine cl_eq f1 (one_cb1 _) ?_
      simp [go_sem,cb_len,hi,cb_take hi,pl,pt,pd,pl0]
      refine cl_eq f2 (b_nb _ _) ?_
      simp [go_sem,htl,cI_take htl,hz,zd,zt,cb_len,resV]
      exact post_be rfl
    · obtain ⟨k1,k2,k3,k4⟩:=lift_pt vl
      have hlt:T<115792089237316195423570985008687907852837564279074904382605163141518161494337:=by
        by_cases h:T<115792089237316195423570985008687907852837564279074904382605163141518161494337
        · exact h
        · exact absurd (vt.2 h).1 (by decide)
      obtain ⟨m1,m2⟩:=vq k3 base_pt
      have vT:(V t).toNat=T:=by rw [(vt.1 hlt).2];exact Int.toNat_natCast _
      have v1:(V [1,0,0,0]).toNat=1:=by simp [V]
      rw [k4,vT,v1] at m2
      have hQ:PV qx qy qc=turnQ (beN inner) T:=m2
      cases qc
      · have hp:=m1
        rcases hp with ⟨hb,_⟩ | ⟨_,hb1,hb2,_⟩
        · cases hb
        have vR:turnR (beN inner) T kb (!od) 0:=by
          refine .inr ⟨⟨k1,hlt⟩,rfl,FV qx,FV qy,hQ.symm,by rw [vk m1];exact val_V hqx hb1,?_⟩
          have e:=val_V hqy hb2
          have hy0:=(V_lt hqy).1
          have ho:=vo m1
          cases od
          · have:¬ V qy % 2=0:=fun h=>Bool.noConfusion (ho.2 ⟨rfl,h⟩)
            exact ⟨fun _=>by omega,fun _=>rfl⟩
          · have:=(ho.1 rfl).2
            exact ⟨fun h=>Bool.noConfusion h,fun h=>by omega⟩
        refine ⟨kb,!od,0,kl,kbb,.inl rfl,vR,?_⟩
        refine fna Tryz.func90 Tryz.ntmps90 (rs:=[.cell 4 22,.tmp 5,.tmp 6]) (b_nb _ _) ?_
        simp [go_sem,cb_len,hi,cb_take hi]
        refine cl_eq f1 (one_cb1 _) ?_
        simp [go_sem,cb_len,hi,cb_take hi,pl,pt,pd,pl0]
        refine cl_eq f2 (b_nb _ _) ?_
        simp [go_sem,htl,cI_take htl,hz]
        refine drw3 [1,2] [0,3,4,5,6] [1,2] (.alt (.step 0 [] true (.alt (.step 3 [] true (.alt (.step 4 [] false (.step 5 [] false (.step 6 [] false .done))) (.step 5 [] true (.step 4 [] false (.step 6 [] false .done))))) (.step 5 [] true (.step 3 [] true (.step 4 [] false (.step 6 [] false .done)))))) (.step 5 [] true (.step 0 [] true (.step 3 [] true (.step 4 [] false (.step 6 [] false .done)))))) ⟨[(4,.ptr 32 0 0 1),(10,.ptr 960 0 0 1)],[(960,⟨200,9,[cP qx qy false]⟩),(32,⟨22,32,[cb z32]⟩)],5000⟩ (k:=7) ?h3 ?hq
        case h3 =>
          intro G hG
          have hW:∀ (fr:Fr) (hp:Hp),(fv 4 fr=.ptr 32 0 0 1∧fv 10 fr=.ptr 960 0 0 1∧lk 960 hp=some ⟨200,9,[cP qx qy false]⟩∧lk 32 hp=some ⟨22,32,[cb z32]⟩)→G fr hp:=by
            rintro fr hp ⟨q0,q1,q2,q3⟩
            exact hG _ _ wkA
          simp [go_sem,htl,cI_take htl,pl,pt,ql,qt,pd,pl0,hz,SaW]
          repeat' first | exact hW _ _ ⟨rfl,rfl,rfl,rfl⟩ | (refine hW _ _ ?_;simp [fv,lk];done) | refine cl_eq (fromI_fn 1) (by simp [AV.deep,AV.deep1]) ?_ | refine cl_eq base_fn (by simp) ?_ | refine cl_eq f4 (four_d _ _ _ _ _ _ _ _) ?_ | apply And.intro | simp [go_sem,htl,cI_take htl,pl,pt,ql,qt,pd,pl0,hz,SaW]
        case hq =>
          simp [go_sem,qb,qg,ql]
          refine drw3 [0,2] [1,3,4,5,6,7] [0,2] (.step 1 [] true (.step 3 [] false (.alt (.step 4 [] false (.step 5 [] false (.step 6 [] false (.step 7 [] false .done)))) (.step 5 [] false (.step 4 [] false (.step 6 [] false (.step 7 [] false .done))))))) ⟨[(4,.ptr 32 0 0 1),(5,.d (.bool (!od))),(6,.d (.int .i64 0))],[(32,⟨22,32,[cb kb]⟩)],9000⟩ (k:=8) ?h3 ?hq
          case h3 =>
            intro G hG
            have hW:∀ (fr:Fr) (hp:Hp),(fv 4 fr=.ptr 32 0 0 1∧fv 5 fr=.d (.bool (!od))∧fv 6 fr=.d (.int .i64 0)∧lk 32 hp=some ⟨22,32,[cb kb]⟩)→G fr hp:=by
              rintro fr hp ⟨q0,q1,q2,q3⟩
              exact hG _ _ wkA
            simp [go_sem,ql,qt,kl,cb_len,cb_take kl,zd,SaW]
            repeat' first | exact hW _ _ ⟨rfl,rfl,rfl,rfl⟩ | (refine hW _ _ ?_;simp [fv,lk];done) | refine cl_eq f5 (one_cP _ _ _) ?_ | refine cl_eq f6 (one_cP _ _ _) ?_ | apply And.intro | simp [go_sem,ql,qt,kl,cb_len,cb_take kl,zd,SaW]
          case hq =>
            simp [go_sem,cb_len,kl,cb_take kl,resV]
            exact post_be rfl
      · refine ⟨z32,false,1,rfl,zb,.inr rfl,.inl ⟨.inr hQ.symm,rfl,rfl,rfl⟩,?_⟩
        refine fna Tryz.func90 Tryz.ntmps90 (rs:=[.cell 4 22,.tmp 5,.tmp 6]) (b_nb _ _) ?_
        simp [go_sem,cb_len,hi,cb_take hi]
        refine cl_eq f1 (one_cb1 _) ?_
        simp [go_sem,cb_len,hi,cb_take hi,pl,pt,pd,pl0]
        refine cl_eq f2 (b_nb _ _) ?_
        simp [go_sem,htl,cI_take htl,hz]
        refine drw3 [1,2] [0,3,4,5,6] [1,2] (.alt (.step 0 [] true (.alt (.step 3 [] true (.alt (.step 4 [] false (.step 5 [] false (.step 6 [] false .done))) (.step 5 [] true (.step 4 [] false (.step 6 [] false .done))))) (.step 5 [] true (.step 3 [] true (.step 4 [] false (.step 6 [] false .done)))))) (.step 5 [] true (.step 0 [] true (.step 3 [] true (.step 4 [] false (.step 6 [] false .done)))))) ⟨[(4,.ptr 32 0 0 1),(10,.ptr 960 0 0 1)],[(960,⟨200,9,[cP qx qy true]⟩),(32,⟨22,32,[cb z32]⟩)],5000⟩ (k:=7) ?h3 ?hq
        case h3 =>
          intro G hG
          have hW:∀ (fr:Fr) (hp:Hp),(fv 4 fr=.ptr 32 0 0 1∧fv 10 fr=.ptr 960 0 0 1∧lk 960 hp=some ⟨200,9,[cP qx qy true]⟩∧lk 32 hp=some ⟨22,32,[cb z32]⟩)→G fr hp:=by
            rintro fr hp ⟨q0,q1,q2,q3⟩
            exact hG _ _ wkA
          simp [go_sem,htl,cI_take htl,pl,pt,ql,qt,pd,pl0,hz,SaW]
          repeat' first | exact hW _ _ ⟨rfl,rfl,rfl,rfl⟩ | (refine hW _ _ ?_;simp [fv,lk];done) | refine cl_eq (fromI_fn 1) (by simp [AV.deep,AV.deep1]) ?_ | refine cl_eq base_fn (by simp) ?_ | refine cl_eq f4 (four_d _ _ _ _ _ _ _ _) ?_ | apply And.intro | simp [go_sem,htl,cI_take htl,pl,pt,ql,qt,pd,pl0,hz,SaW]
        case hq =>
          simp [go_sem,qb,qg,ql,zd,zt,cb_len,resV]
          exact post_be rfl
open Go.Am Go.Sha
def leafV (inner:List Nat) (ps:List (List Nat)) (x:List Nat):AV:=.agg (leafC inner (.d (hs32 ps)) (.d (nb x)))
theorem leafV_deep (inner:List Nat) (ps:List (List Nat)) (x:List Nat):∀ v,v ∈ [leafV inner ps x]→v.deep:=by
  intro v hv
  simp at hv
  subst hv
  simp [AV.deep,leafC,leafV]
  intro c hc
  rcases hc with hc | rfl | rfl
  · exact cb_deep _ _ hc
  · trivial
  · trivial
theorem flat_be (k:List Nat) (o:Bool) (e:Int):(AV.tup [.agg (cb k),.d (.bool o),.d (.int .i64 e)]).flat:=by
  intro c hc
  simp at hc
  rcases hc with rfl | rfl | rfl
  · refine .inr ⟨_,rfl,fun x hx=>?_⟩
    rw [cb,List.mem_map] at hx
    obtain ⟨y,_,rfl⟩:=hx
    trivial
  · exact .inl trivial
  · exact .inl trivial
theorem cb_takeA {l:List Nat} (h:l.length=32) (r:List AV):List.take 32 (cb l ++ r)=cb l:=by
  rw [List.take_append_of_le_length (by rw [cb_len,h];exact Nat.le_refl _),cb_take h]
theorem leaf_take {inner:List Nat} (hi:inner.length=32) (a b:AV):List.take 34 (cb inner ++ [a,b])=cb inner ++ [a,b]:=List.take_of_length_le (by simp [cb_len,hi])
theorem rootB_lenA (ps:List (List Nat)):∀ h:List Nat,h.length=32→(rootB ps h).length=32:=by
  induction ps with
  | nil=>exact fun h hh=>hh
  | cons p r ih=>exact fun h hh=>ih _ (branchB_len h p)
def leafTurn (inner:List Nat) (ps:List (List Nat)) (x k:List Nat) (o:Bool) (e:Int):Prop :=
  (¬ (ps.length≤8∧x.length≤1000)∧e=1∧k=z32∧o=false) ∨ ((ps.length≤8∧x.length≤1000)∧turnR (beN inner) (beN (tagB turnTag (inner ++ rootB ps (leafB x)))) k o e)
theorem turned_ex (inner:List Nat) (ps:List (List Nat)) (x:List Nat) (hi:inner.length=32) (hib:bytes inner) (hp32:∀ p,p ∈ ps→p.length=32) (hps:ps.length≤1000) (hx:x.length≤100000):∃ (k:List Nat) (o:Bool) (e:Int),k.length=32∧bytes k∧E1 e∧Rets Tryz.prog 52 [leafV inner ps x] (fun r=>r=.tup [.agg (cb k),.d (.bool o),.d (.int .i64 e)])∧(e=0→ps.length≤8∧x.length≤1000)∧leafTurn inner ps x k o e:=by
  have hR:=rootB_lenA ps (leafB x) (leafB_len x)
  have f1:=root_fn inner ps x hi hp32 hps hx
  unfold leafTurn
  generalize rootB ps (leafB x)=R at *
  obtain ⟨k,o,e,hk,hkb,he,hT,f2⟩:=turn_ex inner R hi hib (by omega)
  have zb:bytes z32:=fun x hx=>by simp [z32] at hx;omega
  have zd:List.drop 32 (cb z32)=[]:=cb_drop rfl
  have zt:List.take 32 (cb z32)=cb z32:=cb_take rfl
  by_cases h1:8<ps.length
  · refine ⟨z32,false,1,rfl,zb,.inr rfl,?_,fun h=>by omega,.inl ⟨by omega,rfl,rfl,rfl⟩⟩
    refine fna Tryz.func52 Tryz.ntmps52 (rs:=[.cell 2 22,.tmp 3,.tmp 4]) (leafV_deep _ _ _) ?_
    have i1:(8:Int)<(ps.length:Int):=by omega
    simp [go_sem,leafV,leafC,leaf33 hi,leaf32 hi,hs32,nb,i1,zd,zt,cb_len,resV]
    exact post_be rfl
  by_cases h2:1000<x.length
  · refine ⟨z32,false,1,rfl,zb,.inr rfl,?_,fun h=>by omega,.inl ⟨by omega,rfl,rfl,rfl⟩⟩
    refine fna Tryz.func52 Tryz.ntmps52 (rs:=[.cell 2 22,.tmp 3,.tmp 4]) (leafV_deep _ _ _) ?_
    have i1:¬ (8:Int)<(ps.length:Int):=by omega
    have i2:(1000:Int)<(x.length:Int):=by omega
    simp [go_sem,leafV,leafC,leaf33 hi,leaf32 hi,hs32,nb,i1,i2,zd,zt,cb_len,resV]
    exact post_be rfl
  refine ⟨k,o,e,hk,hkb,he,?_,fun _=>by omega,.inr ⟨by omega,hT⟩⟩
  refine fna Tryz.func52 Tryz.ntmps52 (rs:=[.cell 2 22,.tmp 3,.tmp 4]) (leafV_deep _ _ _) ?_
  have i1:¬ (8:Int)<(ps.length:Int):=by omega
  have i2:¬ (1000:Int)<(x.length:Int):=by omega
  simp [go_sem,leafV,leafC,leaf33 hi,leaf32 hi,hs32,nb,i1,i2,hi,leaf_take hi]
  refine cl_eq (by simpa only [leafC,hs32,nb] using f1) (by simpa only [leafV,leafC,hs32,nb] using leafV_deep inner ps x) ?_
  simp [go_sem,cb_len,hR,cb_take hR,zd]
  refine drw3 [0,1,2] [3,7,8,9] [0,1,2,4,5,6] (.step 3 [4,5,6] true (.step 7 [] false (.step 8 [] false (.step 9 [] false .done)))) ⟨[(2,.ptr 32 0 0 1),(3,.d (.bool o)),(4,.d (.int .i64 e))],[(32,⟨22,32,[cb k]⟩)],9000⟩ (k:=10) ?h3 ?hq
  case h3 =>
    intro G hG
    have hW:∀ (fr:Fr) (hp:Hp),(fv 2 fr=.ptr 32 0 0 1∧fv 3 fr=.d (.bool o)∧fv 4 fr=.d (.int .i64 e)∧lk 32 hp=some ⟨22,32,[cb k]⟩)→G fr hp:=by
      rintro fr hp ⟨q0,q1,q2,q3⟩
      exact hG _ _ wkA
    simp [go_sem,leafC,leaf33 hi,leaf32 hi,cb_len,hi,hR,hk,cb_take hi,cb_take hR,cb_take hk,zd,cb_takeA hi,SaW]
    repeat' first | exact hW _ _ ⟨rfl,rfl,rfl,rfl⟩ | (refine hW _ _ ?_;simp [fv,lk];done) | refine cl_snap f2 rfl (snap_cons (.deep (cb_deepA _)) (snap_cons (.one (snap1_d (snap_arr rfl trivial hR))) snap_nil)) (flat_be _ _ _) ?_ | apply And.intro | simp [go_sem,leafC,leaf33 hi,leaf32 hi,cb_len,hi,hR,hk,cb_take hi,cb_take hR,cb_take hk,zd,cb_takeA hi,SaW]
  case hq =>
    simp [go_sem,cb_len,hk,cb_take hk,resV]
    exact post_be rfl
theorem cb_rows {b:List Nat} (hb:b.length=32):(List.range 32).map (fun k=>((cb b).drop k).take 1)=rb b:=by
  rw [arr_rows hb,rb_of]
theorem post_bldn {Q:AV→Prop} {st:St} {id n:Nat} {e:Int} {L:List Nat} (hl:L.length=n) (hb:lk id st.hp=some ⟨5,1,rb L⟩) (hq:Q (.tup [.d (nb L),.d (.int .i64 e)])):PostK Q (.tup [.own id 0 n n,.d (.int .i64 e)]) st :=
  post_tup (snap1_cons (snap1_d (snap_full hl hb trivial)) (snap1_cons (snap1_same trivial) snap1_nil)) rfl (by simp [AV.deep,AV.deep1]) hq
theorem post_bld0 {Q:AV→Prop} {st:St} {e:Int} (hq:Q (.tup [.d (nb []),.d (.int .i64 e)])):PostK Q (.tup [.nil,.d (.int .i64 e)]) st :=
  post_tup (snap1_cons (snap1_d (.nil 1)) (snap1_cons (snap1_same trivial) snap1_nil)) rfl (by simp [AV.deep,AV.deep1]) hq
theorem output_no {inner x k:List Nat} {ps:List (List Nat)} {o:Bool} (hi:inner.length=32) (hk:k.length=32) (f:Rets Tryz.prog 52 [leafV inner ps x] (fun r=>r=.tup [.agg (cb k),.d (.bool o),.d (.int .i64 1)])) :
    Rets Tryz.prog 31 [leafV inner ps x] (fun r=>r=.tup [.d (nb []),.d (.int .i64 1)]):=by
  refine fna Tryz.func31 Tryz.ntmps31 (rs:=[.tmp 2,.tmp 3]) (leafV_deep _ _ _) ?_
  have zd:List.drop 32 (cb z32)=[]:=cb_drop rfl
  simp [go_sem,leafV,leafC,leaf33 hi,leaf32 hi,hs32,nb,hi,leaf_take hi]
  refine cl_eq f (leafV_deep _ _ _) ?_
  simp [go_sem,cb_len,hk,cb_take hk,zd,resV]
  exact post_bld0 rfl
theorem output_ok {inner x k:List Nat} {ps:List (List Nat)} {o:Bool} (hi:inner.length=32) (hk:k.length=32) (f:Rets Tryz.prog 52 [leafV inner ps x] (fun r=>r=.tup [.agg (cb k),.d (.bool o),.d (.int .i64 0)])) :
    Rets Tryz.prog 31 [leafV inner ps x] (fun r=>r=.tup [.d (nb (81 :: 32 :: k)),.d (.int .i64 0)]):=by
  refine fna Tryz.func31 Tryz.ntmps31 (rs:=[.tmp 2,.tmp 3]) (leafV_deep _ _ _) ?_
  have zd:List.drop 32 (cb z32)=[]:=cb_drop rfl
  simp [go_sem,leafV,leafC,leaf33 hi,leaf32 hi,hs32,nb,hi,leaf_take hi]
  refine cl_eq f (leafV_deep _ _ _) ?_
  have hx1:=cb_rows hk
  simp [go_sem] at hx1
  simp [go_sem,cb_len,hk,cb_take hk,zd,hx1,rb_len,resV]
  have e:rb (81 :: 32 :: k)=[AV.d (.int .u8 81)] :: [AV.d (.int .u8 32)] :: rb k:=by simp [rb]
  have h34:(81 :: 32 :: k).length=34:=by simp [hk]
  exact post_bldn (L:=81 :: 32 :: k) h34 (by rw [e];rfl) (by simp [nb])
end Go.Proofs.YtfahccoobfjkeaaGreat
