/-
  Part 10 of what the claim rests on.
-/
import Derived.Test.YtldccnbokbieiaaGreatL8
set_option linter.unusedVariables false
set_option linter.unusedSimpArgs false
set_option maxRecDepth 100000
set_option maxHeartbeats 16000000
namespace Go.Proofs.YtldccnbokbieiaaGreat
open Go.Am Go.Sha Go.Ec
theorem rplus (x y z x' y' z':List Int) (hx:Wn 4 x) (hy:Wn 4 y) (hz:Wn 4 z) (hx':Wn 4 x') (hy':Wn 4 y') (hz':Wn 4 z'):∃ (X Y Z:List Int),Wn 4 X∧Wn 4 Y∧Wn 4 Z∧(isF x y z→isF x' y' z'→isF X Y Z∧FrV X Y Z=sum fd (FrV x y z) (FrV x' y' z'))∧Rets Tryz.prog 185 [.agg (cV x y z),.agg (cV x' y' z')] (fun r=>r=.agg (cV X Y Z)):=by
  obtain ⟨px,h1,g1,f1⟩:=rmul x z' hx hz'
  obtain ⟨py,h2,g2,f2⟩:=rmul y z' hy hz'
  obtain ⟨u1,h3,g3,f3⟩:=rmul y' z hy' hz
  obtain ⟨u,h4,g4,f4⟩:=rsub u1 py h3 h2
  obtain ⟨v0,h5,g5,f5⟩:=rmul x' z hx' hz
  obtain ⟨v,h6,g6,f6⟩:=rsub v0 px h5 h1
  obtain ⟨zz,h7,g7,f7⟩:=rmul z z' hz hz'
  obtain ⟨v2,h8,g8,f8⟩:=rmul v v h6 h6
  obtain ⟨v3w,h9,g9,f9⟩:=rmul v2 v h8 h6
  obtain ⟨r,h10,g10,f10⟩:=rmul v2 px h8 h1
  obtain ⟨uu,h11,g11,f11⟩:=rmul u u h4 h4
  obtain ⟨uz,h12,g12,f12⟩:=rmul uu zz h11 h7
  obtain ⟨c1,h13,g13,f13⟩:=rsub uz v3w h12 h9
  obtain ⟨rr,h14,g14,f14⟩:=radd r r h10 h10
  obtain ⟨a,h15,g15,f15⟩:=rsub c1 rr h13 h14
  obtain ⟨ra,h16,g16,f16⟩:=rsub r a h10 h15
  obtain ⟨ura,h17,g17,f17⟩:=rmul u ra h4 h16
  obtain ⟨vpy,h18,g18,f18⟩:=rmul v3w py h9 h2
  obtain ⟨Y,h19,g19,f19⟩:=rsub ura vpy h17 h18
  obtain ⟨X,h20,g20,f20⟩:=rmul v a h6 h15
  obtain ⟨Z,h21,g21,f21⟩:=rmul v3w zz h9 h7
  obtain ⟨tx,ty,tz,h22,h23,h24,g22,f22⟩:=rtwice x y z hx hy hz
  unfold W2 at f1 f2 f3 f4 f5 f6 f7 f8 f9 f10 f11 f12 f13 f14 f15 f16 f17 f18 f19 f20 f21
  have l1:=h1.1
  have l2:=h2.1
  have l4:=h4.1
  have l6:=h6.1
  have l7:=h7.1
  have l8:=h8.1
  have l9:=h9.1
  have l10:=h10.1
  have l15:=h15.1
  have l19:=h19.1
  have l20:=h20.1
  have l21:=h21.1
  have l22:=h22.1
  have l23:=h23.1
  have l24:=h24.1
  have hxl:=hx.1
  have hyl:=hy.1
  have hzl:=hz.1
  have hxl':=hx'.1
  have hyl':=hy'.1
  have hzl':=hz'.1
  have z4:List.drop 4 (cI zI)=[]:=cI_drop rfl
  have iz:intsOf .u64 [AV.d (.int .u64 0),AV.d (.int .u64 0),AV.d (.int .u64 0),AV.d (.int .u64 0)]=some zI:=ints_cI zI
  have vl:=cV_len hxl hyl hzl
  have vt:=cV_take hxl hyl hzl
  have v1:(cV x y z).take 4=cI x:=cV_x hxl
  have v2':=cV_y (z:=z) hxl hyl
  have v3:=cV_z hxl hyl hzl
  have vlb:=cV_len hxl' hyl' hzl'
  have vtb:=cV_take hxl' hyl' hzl'
  have v1b:(cV x' y' z').take 4=cI x':=cV_x hxl'
  have v2b:=cV_y (z:=z') hxl' hyl'
  have v3b:=cV_z hxl' hyl' hzl'
  have wd:(cV zI zI zI).drop 12=[]:=cV_drop rfl rfl rfl
  have wl:(cV zI zI zI).length=12:=rfl
  have ul:=cV_len l22 l23 l24
  have ut:=cV_take l22 l23 l24
  by_cases q1:z=zI
  · refine ⟨x',y',z',hx',hy',hz',fun _ hj=>⟨hj,by rw [q1,FrV_z];exact (sum_none fd hj.2).symm⟩,?_⟩
    subst q1
    refine fna Tryz.func185 Tryz.ntmps185 (rs:=[.cell 4 208]) (two_cF _ _ _ _ _ _) ?_
    simp [go_sem,vl,vt,vlb,vtb,v3,v3b,ints_cI,iz,hzl,hzl',wl,wd,resV]
    exact post_v rfl
  by_cases q2:z'=zI
  · refine ⟨x,y,z,hx,hy,hz,fun hj _=>⟨hj,by rw [q2,FrV_z];exact (none_sum fd hj.2).symm⟩,?_⟩
    subst q2
    refine fna Tryz.func185 Tryz.ntmps185 (rs:=[.cell 4 208]) (two_cF _ _ _ _ _ _) ?_
    simp [go_sem,vl,vt,vlb,vtb,v3,v3b,ints_cI,iz,hzl,hzl',q1,wl,wd,resV]
    exact post_v rfl
  have hne:isF x y z→FV z ≠ 0:=fun hj h=>q1 ((FV_zero hz hj.1.2.2).1 h)
  have hne':isF x' y' z'→FV z' ≠ 0:=fun hj h=>q2 ((FV_zero hz' hj.1.2.2).1 h)
  have main:isF x y z→isF x' y' z'→_:=fun hj hj'=>fr_plus fd (px:=FV px) (py:=FV py) (u:=FV u) (v:=FV v) (hne hj) (hne' hj') hj.2 hj'.2 g1.2 g2.2 (by rw [g4.2,g3.2]) (by rw [g6.2,g5.2])
  have hv0:FV v=0 ↔ v=zI:=FV_zero h6 g6.1
  have hu0:FV u=0 ↔ u=zI:=FV_zero h4 g4.1
  by_cases q3:v=zI
  · by_cases q4:u=zI
    · refine ⟨tx,ty,tz,h22,h23,h24,fun hj hj'=>?_,?_⟩
      · obtain ⟨k1,k2⟩:=g22 hj
        have e:=(main hj hj').2.1 (hv0.2 q3) (hu0.2 q4)
        exact ⟨k1,by rw [k2];exact congrArg (sum fd (FrV x y z)) e⟩
      refine fna Tryz.func185 Tryz.ntmps185 (rs:=[.cell 4 208]) (two_cF _ _ _ _ _ _) ?_
      simp [go_sem,vl,vt,vlb,vtb,v3,v3b,ints_cI,iz,hzl,hzl',q1,q2]
      refine drw3 [0,1,2,3,5,6,7,8] [4,9,10,11,12,13] [0,1,2,3,5,6,7,8] (.alt (.step 4 [] true (.alt (.step 9 [] false (.alt (.step 10 [] false (.step 11 [] false (.step 12 [] false (.step 13 [] false .done)))) (.step 11 [] false (.step 10 [] false (.step 12 [] false (.step 13 [] false .done)))))) (.alt (.step 10 [] true (.alt (.step 9 [] false (.step 11 [] false (.step 12 [] false (.step 13 [] false .done)))) (.step 11 [] true (.step 9 [] false (.step 12 [] false (.step 13 [] false .done)))))) (.step 11 [] true (.alt (.step 9 [] false (.step 10 [] false (.step 12 [] false (.step 13 [] false .done)))) (.step 10 [] true (.step 9 [] false (.step 12 [] false (.step 13 [] false .done))))))))) (.alt (.step 10 [] true (.alt (.step 4 [] true (.alt (.step 9 [] false (.step 11 [] false (.step 12 [] false (.step 13 [] false .done)))) (.step 11 [] true (.step 9 [] false (.step 12 [] false (.step 13 [] false .done)))))) (.step 11 [] true (.step 4 [] true (.step 9 [] false (.step 12 [] false (.step 13 [] false .done))))))) (.step 11 [] true (.alt (.step 4 [] true (.alt (.step 9 [] false (.step 10 [] false (.step 12 [] false (.step 13 [] false .done)))) (.step 10 [] true (.step 9 [] false (.step 12 [] false (.step 13 [] false .done)))))) (.step 10 [] true (.step 4 [] true (.step 9 [] false (.step 12 [] false (.step 13 [] false .done))))))))) ⟨[(2,.ptr 0 0 0 1),(3,.ptr 32 0 0 1),(4,.ptr 64 0 0 1),(5,.ptr 672 0 0 1),(6,.ptr 704 0 0 1)],[(704,⟨160,4,[cI py]⟩),(672,⟨160,4,[cI px]⟩),(64,⟨208,12,[cV zI zI zI]⟩),(32,⟨208,12,[cV x' y' z']⟩),(0,⟨208,12,[cV x y z]⟩)],4000⟩ (k:=14) ?h3 ?hq
      case h3 =>
        intro G hG
        have hW:∀ (fr:Fr) (hp:Hp),(fv 2 fr=.ptr 0 0 0 1∧fv 3 fr=.ptr 32 0 0 1∧fv 4 fr=.ptr 64 0 0 1∧fv 5 fr=.ptr 672 0 0 1∧fv 6 fr=.ptr 704 0 0 1∧lk 704 hp=some ⟨160,4,[cI py]⟩∧lk 672 hp=some ⟨160,4,[cI px]⟩∧lk 64 hp=some ⟨208,12,[cV zI zI zI]⟩∧lk 32 hp=some ⟨208,12,[cV x' y' z']⟩∧lk 0 hp=some ⟨208,12,[cV x y z]⟩)→G fr hp:=by
          rintro fr hp ⟨q0,q1,q2,q3,q4,q5,q6,q7,q8,q9⟩
          exact hG _ _ wkA
        simp [go_sem,v1,v2',v3,vl,v1b,v2b,v3b,vlb,l1,l2,cI_take l1,cI_take l2,z4,SaW]
        repeat' first | exact hW _ _ ⟨rfl,rfl,rfl,rfl,rfl,rfl,rfl,rfl,rfl,rfl⟩ | (refine hW _ _ ?_;simp [fv,lk];done) | refine cl_eq f1 (two_cI _ _) ?_ | refine cl_eq f2 (two_cI _ _) ?_ | apply And.intro | simp [go_sem,v1,v2',v3,vl,v1b,v2b,v3b,vlb,l1,l2,cI_take l1,cI_take l2,z4,SaW]
      case hq =>
        simp [go_sem]
        refine drw3 [0,1,2,3,5] [4,6,7,8] [0,1,2,3,5] (.alt (.step 4 [] true (.alt (.step 6 [] false (.step 7 [] false (.step 8 [] false .done))) (.step 7 [] true (.step 6 [] false (.step 8 [] false .done))))) (.step 7 [] true (.step 4 [] true (.step 6 [] false (.step 8 [] false .done))))) ⟨[(2,.ptr 0 0 0 1),(3,.ptr 32 0 0 1),(4,.ptr 64 0 0 1),(5,.ptr 672 0 0 1),(6,.ptr 704 0 0 1),(7,.ptr 4224 0 0 1)],[(4224,⟨160,4,[cI u]⟩),(704,⟨160,4,[cI py]⟩),(672,⟨160,4,[cI px]⟩),(64,⟨208,12,[cV zI zI zI]⟩),(32,⟨208,12,[cV x' y' z']⟩),(0,⟨208,12,[cV x y z]⟩)],9000⟩ (k:=9) ?h3 ?hq
        case h3 =>
          intro G hG
          have hW:∀ (fr:Fr) (hp:Hp),(fv 2 fr=.ptr 0 0 0 1∧fv 3 fr=.ptr 32 0 0 1∧fv 4 fr=.ptr 64 0 0 1∧fv 5 fr=.ptr 672 0 0 1∧fv 6 fr=.ptr 704 0 0 1∧fv 7 fr=.ptr 4224 0 0 1∧lk 4224 hp=some ⟨160,4,[cI u]⟩∧lk 704 hp=some ⟨160,4,[cI py]⟩∧lk 672 hp=some ⟨160,4,[cI px]⟩∧lk 64 hp=some ⟨208,12,[cV zI zI zI]⟩∧lk 32 hp=some ⟨208,12,[cV x' y' z']⟩∧lk 0 hp=some ⟨208,12,[cV x y z]⟩)→G fr hp:=by
            rintro fr hp ⟨q0,q1,q2,q3,q4,q5,q6,q7,q8,q9,q10,q11⟩
            exact hG _ _ wkA
          simp [go_sem,v1,v2',v3,vl,v1b,v2b,v3b,vlb,l2,l4,cI_take l2,cI_take l4,z4,SaW]
          repeat' first | exact hW _ _ ⟨rfl,rfl,rfl,rfl,rfl,rfl,rfl,rfl,rfl,rfl,rfl,rfl⟩ | (refine hW _ _ ?_;simp [fv,lk];done) | refine cl_eq f3 (two_cI _ _) ?_ | refine cl_eq f4 (two_cI _ _) ?_ | apply And.intro | simp [go_sem,v1,v2',v3,vl,v1b,v2b,v3b,vlb,l2,l4,cI_take l2,cI_take l4,z4,SaW]
        case hq =>
          simp [go_sem]
          refine drw3 [0,1,2,3,5] [4,6,7,8] [0,1,2,3,5] (.alt (.step 4 [] true (.alt (.step 6 [] false (.step 7 [] false (.step 8 [] false .done))) (.step 7 [] true (.step 6 [] false (.step 8 [] false .done))))) (.step 7 [] true (.step 4 [] true (.step 6 [] false (.step 8 [] false .done))))) ⟨[(2,.ptr 0 0 0 1),(3,.ptr 32 0 0 1),(4,.ptr 64 0 0 1),(5,.ptr 672 0 0 1),(6,.ptr 704 0 0 1),(7,.ptr 4224 0 0 1),(8,.ptr 9224 0 0 1)],[(9224,⟨160,4,[cI v]⟩),(4224,⟨160,4,[cI u]⟩),(704,⟨160,4,[cI py]⟩),(672,⟨160,4,[cI px]⟩),(64,⟨208,12,[cV zI zI zI]⟩),(32,⟨208,12,[cV x' y' z']⟩),(0,⟨208,12,[cV x y z]⟩)],20000⟩ (k:=9) ?h3 ?hq
          case h3 =>
            intro G hG
            have hW:∀ (fr:Fr) (hp:Hp),(fv 2 fr=.ptr 0 0 0 1∧fv 3 fr=.ptr 32 0 0 1∧fv 4 fr=.ptr 64 0 0 1∧fv 5 fr=.ptr 672 0 0 1∧fv 6 fr=.ptr 704 0 0 1∧fv 7 fr=.ptr 4224 0 0 1∧fv 8 fr=.ptr 9224 0 0 1∧lk 9224 hp=some ⟨160,4,[cI v]⟩∧lk 4224 hp=some ⟨160,4,[cI u]⟩∧lk 704 hp=some ⟨160,4,[cI py]⟩∧lk 672 hp=some ⟨160,4,[cI px]⟩∧lk 64 hp=some ⟨208,12,[cV zI zI zI]⟩∧lk 32 hp=some ⟨208,12,[cV x' y' z']⟩∧lk 0 hp=some ⟨208,12,[cV x y z]⟩)→G fr hp:=by
              rintro fr hp ⟨q0,q1,q2,q3,q4,q5,q6,q7,q8,q9,q10,q11,q12,q13⟩
              exact hG _ _ wkA
            simp [go_sem,v1,v2',v3,vl,v1b,v2b,v3b,vlb,l1,l6,cI_take l1,cI_take l6,z4,SaW]
            repeat' first | exact hW _ _ ⟨rfl,rfl,rfl,rfl,rfl,rfl,rfl,rfl,rfl,rfl,rfl,rfl,rfl,rfl⟩ | (refine hW _ _ ?_;simp [fv,lk];done) | refine cl_eq f5 (two_cI _ _) ?_ | refine cl_eq f6 (two_cI _ _) ?_ | apply And.intro | simp [go_sem,v1,v2',v3,vl,v1b,v2b,v3b,vlb,l1,l6,cI_take l1,cI_take l6,z4,SaW]
          case hq =>
            simp [go_sem,l6,l4,cI_take l6,cI_take l4,ints_cI,iz,q3,q4,cI_take (l:=zI) (n:=4) rfl,zI_len,vl,vt]
            refine cl_eq f22 (one_cV _ _ _) ?_
            simp [go_sem,ul,ut,wl,wd,resV]
            exact post_v rfl
    · refine ⟨zI,zI,zI,zI_W,zI_W,zI_W,fun hj hj'=>⟨isF_z,?_⟩,?_⟩
      · rw [FrV_z]
        exact ((main hj hj').2.2 (hv0.2 q3) (fun h=>q4 (hu0.1 h))).symm
      refine fna Tryz.func185 Tryz.ntmps185 (rs:=[.cell 4 208]) (two_cF _ _ _ _ _ _) ?_
      simp [go_sem,vl,vt,vlb,vtb,v3,v3b,ints_cI,iz,hzl,hzl',q1,q2]
      refine drw3 [0,1,2,3,5,6,7,8] [4,9,10,11,12,13] [0,1,2,3,5,6,7,8] (.alt (.step 4 [] true (.alt (.step 9 [] false (.alt (.step 10 [] false (.step 11 [] false (.step 12 [] false (.step 13 [] false .done)))) (.step 11 [] false (.step 10 [] false (.step 12 [] false (.step 13 [] false .done)))))) (.alt (.step 10 [] true (.alt (.step 9 [] false (.step 11 [] false (.step 12 [] false (.step 13 [] false .done)))) (.step 11 [] true (.step 9 [] false (.step 12 [] false (.step 13 [] false .done)))))) (.step 11 [] true (.alt (.step 9 [] false (.step 10 [] false (.step 12 [] false (.step 13 [] false .done)))) (.step 10 [] true (.step 9 [] false (.step 12 [] false (.step 13 [] false .done))))))))) (.alt (.step 10 [] true (.alt (.step 4 [] true (.alt (.step 9 [] false (.step 11 [] false (.step 12 [] false (.step 13 [] false .done)))) (.step 11 [] true (.step 9 [] false (.step 12 [] false (.step 13 [] false .done)))))) (.step 11 [] true (.step 4 [] true (.step 9 [] false (.step 12 [] false (.step 13 [] false .done))))))) (.step 11 [] true (.alt (.step 4 [] true (.alt (.step 9 [] false (.step 10 [] false (.step 12 [] false (.step 13 [] false .done)))) (.step 10 [] true (.step 9 [] false (.step 12 [] false (.step 13 [] false .done)))))) (.step 10 [] true (.step 4 [] true (.step 9 [] false (.step 12 [] false (.step 13 [] false .done))))))))) ⟨[(2,.ptr 0 0 0 1),(3,.ptr 32 0 0 1),(4,.ptr 64 0 0 1),(5,.ptr 672 0 0 1),(6,.ptr 704 0 0 1)],[(704,⟨160,4,[cI py]⟩),(672,⟨160,4,[cI px]⟩),(64,⟨208,12,[cV zI zI zI]⟩),(32,⟨208,12,[cV x' y' z']⟩),(0,⟨208,12,[cV x y z]⟩)],4000⟩ (k:=14) ?h3 ?hq
      case h3 =>
        intro G hG
        have hW:∀ (fr:Fr) (hp:Hp),(fv 2 fr=.ptr 0 0 0 1∧fv 3 fr=.ptr 32 0 0 1∧fv 4 fr=.ptr 64 0 0 1∧fv 5 fr=.ptr 672 0 0 1∧fv 6 fr=.ptr 704 0 0 1∧lk 704 hp=some ⟨160,4,[cI py]⟩∧lk 672 hp=some ⟨160,4,[cI px]⟩∧lk 64 hp=some ⟨208,12,[cV zI zI zI]⟩∧lk 32 hp=some ⟨208,12,[cV x' y' z']⟩∧lk 0 hp=some ⟨208,12,[cV x y z]⟩)→G fr hp:=by
          rintro fr hp ⟨q0,q1,q2,q3,q4,q5,q6,q7,q8,q9⟩
          exact hG _ _ wkA
        simp [go_sem,v1,v2',v3,vl,v1b,v2b,v3b,vlb,l1,l2,cI_take l1,cI_take l2,z4,SaW]
        repeat' first | exact hW _ _ ⟨rfl,rfl,rfl,rfl,rfl,rfl,rfl,rfl,rfl,rfl⟩ | (refine hW _ _ ?_;simp [fv,lk];done) | refine cl_eq f1 (two_cI _ _) ?_ | refine cl_eq f2 (two_cI _ _) ?_ | apply And.intro | simp [go_sem,v1,v2',v3,vl,v1b,v2b,v3b,vlb,l1,l2,cI_take l1,cI_take l2,z4,SaW]
      case hq =>
        simp [go_sem]
        refine drw3 [0,1,2,3,5] [4,6,7,8] [0,1,2,3,5] (.alt (.step 4 [] true (.alt (.step 6 [] false (.step 7 [] false (.step 8 [] false .done))) (.step 7 [] true (.step 6 [] false (.step 8 [] false .done))))) (.step 7 [] true (.step 4 [] true (.step 6 [] false (.step 8 [] false .done))))) ⟨[(2,.ptr 0 0 0 1),(3,.ptr 32 0 0 1),(4,.ptr 64 0 0 1),(5,.ptr 672 0 0 1),(6,.ptr 704 0 0 1),(7,.ptr 4224 0 0 1)],[(4224,⟨160,4,[cI u]⟩),(704,⟨160,4,[cI py]⟩),(672,⟨160,4,[cI px]⟩),(64,⟨208,12,[cV zI zI zI]⟩),(32,⟨208,12,[cV x' y' z']⟩),(0,⟨208,12,[cV x y z]⟩)],9000⟩ (k:=9) ?h3 ?hq
        case h3 =>
          intro G hG
          have hW:∀ (fr:Fr) (hp:Hp),(fv 2 fr=.ptr 0 0 0 1∧fv 3 fr=.ptr 32 0 0 1∧fv 4 fr=.ptr 64 0 0 1∧fv 5 fr=.ptr 672 0 0 1∧fv 6 fr=.ptr 704 0 0 1∧fv 7 fr=.ptr 4224 0 0 1∧lk 4224 hp=some ⟨160,4,[cI u]⟩∧lk 704 hp=some ⟨160,4,[cI py]⟩∧lk 672 hp=some ⟨160,4,[cI px]⟩∧lk 64 hp=some ⟨208,12,[cV zI zI zI]⟩∧lk 32 hp=some ⟨208,12,[cV x' y' z']⟩∧lk 0 hp=some ⟨208,12,[cV x y z]⟩)→G fr hp:=by
            rintro fr hp ⟨q0,q1,q2,q3,q4,q5,q6,q7,q8,q9,q10,q11⟩
            exact hG _ _ wkA
          simp [go_sem,v1,v2',v3,vl,v1b,v2b,v3b,vlb,l2,l4,cI_take l2,cI_take l4,z4,SaW]
          repeat' first | exact hW _ _ ⟨rfl,rfl,rfl,rfl,rfl,rfl,rfl,rfl,rfl,rfl,rfl,rfl⟩ | (refine hW _ _ ?_;simp [fv,lk];done) | refine cl_eq f3 (two_cI _ _) ?_ | refine cl_eq f4 (two_cI _ _) ?_ | apply And.intro | simp [go_sem,v1,v2',v3,vl,v1b,v2b,v3b,vlb,l2,l4,cI_take l2,cI_take l4,z4,SaW]
        case hq =>
          simp [go_sem]
          refine drw3 [0,1,2,3,5] [4,6,7,8] [0,1,2,3,5] (.alt (.step 4 [] true (.alt (.step 6 [] false (.step 7 [] false (.step 8 [] false .done))) (.step 7 [] true (.step 6 [] false (.step 8 [] false .done))))) (.step 7 [] true (.step 4 [] true (.step 6 [] false (.step 8 [] false .done))))) ⟨[(2,.ptr 0 0 0 1),(3,.ptr 32 0 0 1),(4,.ptr 64 0 0 1),(5,.ptr 672 0 0 1),(6,.ptr 704 0 0 1),(7,.ptr 4224 0 0 1),(8,.ptr 9224 0 0 1)],[(9224,⟨160,4,[cI v]⟩),(4224,⟨160,4,[cI u]⟩),(704,⟨160,4,[cI py]⟩),(672,⟨160,4,[cI px]⟩),(64,⟨208,12,[cV zI zI zI]⟩),(32,⟨208,12,[cV x' y' z']⟩),(0,⟨208,12,[cV x y z]⟩)],20000⟩ (k:=9) ?h3 ?hq
          case h3 =>
            intro G hG
            have hW:∀ (fr:Fr) (hp:Hp),(fv 2 fr=.ptr 0 0 0 1∧fv 3 fr=.ptr 32 0 0 1∧fv 4 fr=.ptr 64 0 0 1∧fv 5 fr=.ptr 672 0 0 1∧fv 6 fr=.ptr 704 0 0 1∧fv 7 fr=.ptr 4224 0 0 1∧fv 8 fr=.ptr 9224 0 0 1∧lk 9224 hp=some ⟨160,4,[cI v]⟩∧lk 4224 hp=some ⟨160,4,[cI u]⟩∧lk 704 hp=some ⟨160,4,[cI py]⟩∧lk 672 hp=some ⟨160,4,[cI px]⟩∧lk 64 hp=some ⟨208,12,[cV zI zI zI]⟩∧lk 32 hp=some ⟨208,12,[cV x' y' z']⟩∧lk 0 hp=some ⟨208,12,[cV x y z]⟩)→G fr hp:=by
              rintro fr hp ⟨q0,q1,q2,q3,q4,q5,q6,q7,q8,q9,q10,q11,q12,q13⟩
              exact hG _ _ wkA
            simp [go_sem,v1,v2',v3,vl,v1b,v2b,v3b,vlb,l1,l6,cI_take l1,cI_take l6,z4,SaW]
            repeat' first | exact hW _ _ ⟨rfl,rfl,rfl,rfl,rfl,rfl,rfl,rfl,rfl,rfl,rfl,rfl,rfl,rfl⟩ | (refine hW _ _ ?_;simp [fv,lk];done) | refine cl_eq f5 (two_cI _ _) ?_ | refine cl_eq f6 (two_cI _ _) ?_ | apply And.intro | simp [go_sem,v1,v2',v3,vl,v1b,v2b,v3b,vlb,l1,l6,cI_take l1,cI_take l6,z4,SaW]
          case hq =>
            simp [go_sem,l6,l4,cI_take l6,cI_take l4,ints_cI,iz,q3,q4,cI_take (l:=zI) (n:=4) rfl,zI_len,wl,wd,resV]
            exact post_v (x:=zI) (y:=zI) (z:=zI) rfl
  · refine ⟨X,Y,Z,h20,h19,h21,fun hj hj'=>?_,?_⟩
    · obtain ⟨_,e⟩:=(main hj hj').1 (fun h=>q3 (hv0.1 h))
      have eZ:FV Z=FV v*FV v*FV v*(FV z*FV z'):=by rw [g21.2,g9.2,g8.2,g7.2]
      have eX:FV X=FV v*(FV u*FV u*(FV z*FV z') - FV v*FV v*FV v - (FV v*FV v*FV px+FV v*FV v*FV px)):=by rw [g20.2,g15.2,g13.2,g12.2,g11.2,g14.2,g10.2,g9.2,g8.2,g7.2]
      have eY:FV Y=FV u*(FV v*FV v*FV px - (FV u*FV u*(FV z*FV z') - FV v*FV v*FV v - (FV v*FV v*FV px+FV v*FV v*FV px))) - FV v*FV v*FV v*FV py:=by rw [g19.2,g17.2,g16.2,g15.2,g13.2,g12.2,g11.2,g14.2,g10.2,g18.2,g9.2,g8.2,g7.2]
      have e2:FrV X Y Z=sum fd (FrV x y z) (FrV x' y' z'):=by
        show fr fd (FV X) (FV Y) (FV Z)=_
        rw [eX,eY,eZ]
        exact e
      exact ⟨⟨⟨g20.1,g19.1,g21.1⟩,by rw [e2];exact sum_on fd hj.2 hj'.2⟩,e2⟩
    refine fna Tryz.func185 Tryz.ntmps185 (rs:=[.cell 4 208]) (two_cF _ _ _ _ _ _) ?_
    simp [go_sem,vl,vt,vlb,vtb,v3,v3b,ints_cI,iz,hzl,hzl',q1,q2]
    refine drw3 [0,1,2,3,5,6,7,8] [4,9,10,11,12,13] [0,1,2,3,5,6,7,8] (.alt (.step 4 [] true (.alt (.step 9 [] false (.alt (.step 10 [] false (.step 11 [] false (.step 12 [] false (.step 13 [] false .done)))) (.step 11 [] false (.step 10 [] false (.step 12 [] false (.step 13 [] false .done)))))) (.alt (.step 10 [] true (.alt (.step 9 [] false (.step 11 [] false (.step 12 [] false (.step 13 [] false .done)))) (.step 11 [] true (.step 9 [] false (.step 12 [] false (.step 13 [] false .done)))))) (.step 11 [] true (.alt (.step 9 [] false (.step 10 [] false (.step 12 [] false (.step 13 [] false .done)))) (.step 10 [] true (.step 9 [] false (.step 12 [] false (.step 13 [] false .done))))))))) (.alt (.step 10 [] true (.alt (.step 4 [] true (.alt (.step 9 [] false (.step 11 [] false (.step 12 [] false (.step 13 [] false .done)))) (.step 11 [] true (.step 9 [] false (.step 12 [] false (.step 13 [] false .done)))))) (.step 11 [] true (.step 4 [] true (.step 9 [] false (.step 12 [] false (.step 13 [] false .done))))))) (.step 11 [] true (.alt (.step 4 [] true (.alt (.step 9 [] false (.step 10 [] false (.step 12 [] false (.step 13 [] false .done)))) (.step 10 [] true (.step 9 [] false (.step 12 [] false (.step 13 [] false .done)))))) (.step 10 [] true (.step 4 [] true (.step 9 [] false (.step 12 [] false (.step 13 [] false .done))))))))) ⟨[(2,.ptr 0 0 0 1),(3,.ptr 32 0 0 1),(4,.ptr 64 0 0 1),(5,.ptr 672 0 0 1),(6,.ptr 704 0 0 1)],[(704,⟨160,4,[cI py]⟩),(672,⟨160,4,[cI px]⟩),(64,⟨208,12,[cV zI zI zI]⟩),(32,⟨208,12,[cV x' y' z']⟩),(0,⟨208,12,[cV x y z]⟩)],4000⟩ (k:=14) ?h3 ?hq
    case h3 =>
      intro G hG
      have hW:∀ (fr:Fr) (hp:Hp),(fv 2 fr=.ptr 0 0 0 1∧fv 3 fr=.ptr 32 0 0 1∧fv 4 fr=.ptr 64 0 0 1∧fv 5 fr=.ptr 672 0 0 1∧fv 6 fr=.ptr 704 0 0 1∧lk 704 hp=some ⟨160,4,[cI py]⟩∧lk 672 hp=some ⟨160,4,[cI px]⟩∧lk 64 hp=some ⟨208,12,[cV zI zI zI]⟩∧lk 32 hp=some ⟨208,12,[cV x' y' z']⟩∧lk 0 hp=some ⟨208,12,[cV x y z]⟩)→G fr hp:=by
        rintro fr hp ⟨q0,q1,q2,q3,q4,q5,q6,q7,q8,q9⟩
        exact hG _ _ wkA
      simp [go_sem,v1,v2',v3,vl,v1b,v2b,v3b,vlb,l1,l2,cI_take l1,cI_take l2,z4,SaW]
      repeat' first | exact hW _ _ ⟨rfl,rfl,rfl,rfl,rfl,rfl,rfl,rfl,rfl,rfl⟩ | (refine hW _ _ ?_;simp [fv,lk];done) | refine cl_eq f1 (two_cI _ _) ?_ | refine cl_eq f2 (two_cI _ _) ?_ | apply And.intro | simp [go_sem,v1,v2',v3,vl,v1b,v2b,v3b,vlb,l1,l2,cI_take l1,cI_take l2,z4,SaW]
    case hq =>
      simp [go_sem]
      refine drw3 [0,1,2,3,5] [4,6,7,8] [0,1,2,3,5] (.alt (.step 4 [] true (.alt (.step 6 [] false (.step 7 [] false (.step 8 [] false .done))) (.step 7 [] true (.step 6 [] false (.step 8 [] false .done))))) (.step 7 [] true (.step 4 [] true (.step 6 [] false (.step 8 [] false .done))))) ⟨[(2,.ptr 0 0 0 1),(3,.ptr 32 0 0 1),(4,.ptr 64 0 0 1),(5,.ptr 672 0 0 1),(6,.ptr 704 0 0 1),(7,.ptr 4224 0 0 1)],[(4224,⟨160,4,[cI u]⟩),(704,⟨160,4,[cI py]⟩),(672,⟨160,4,[cI px]⟩),(64,⟨208,12,[cV zI zI zI]⟩),(32,⟨208,12,[cV x' y' z']⟩),(0,⟨208,12,[cV x y z]⟩)],9000⟩ (k:=9) ?h3 ?hq
      case h3 =>
        intro G hG
        have hW:∀ (fr:Fr) (hp:Hp),(fv 2 fr=.ptr 0 0 0 1∧fv 3 fr=.ptr 32 0 0 1∧fv 4 fr=.ptr 64 0 0 1∧fv 5 fr=.ptr 672 0 0 1∧fv 6 fr=.ptr 704 0 0 1∧fv 7 fr=.ptr 4224 0 0 1∧lk 4224 hp=some ⟨160,4,[cI u]⟩∧lk 704 hp=some ⟨160,4,[cI py]⟩∧lk 672 hp=some ⟨160,4,[cI px]⟩∧lk 64 hp=some ⟨208,12,[cV zI zI zI]⟩∧lk 32 hp=some ⟨208,12,[cV x' y' z']⟩∧lk 0 hp=some ⟨208,12,[cV x y z]⟩)→G fr hp:=by
          rintro fr hp ⟨q0,q1,q2,q3,q4,q5,q6,q7,q8,q9,q10,q11⟩
          exact hG _ _ wkA
        simp [go_sem,v1,v2',v3,vl,v1b,v2b,v3b,vlb,l2,l4,cI_take l2,cI_take l4,z4,SaW]
        repeat' first | exact hW _ _ ⟨rfl,rfl,rfl,rfl,rfl,rfl,rfl,rfl,rfl,rfl,rfl,rfl⟩ | (refine hW _ _ ?_;simp [fv,lk];done) | refine cl_eq f3 (two_cI _ _) ?_ | refine cl_eq f4 (two_cI _ _) ?_ | apply And.intro | simp [go_sem,v1,v2',v3,vl,v1b,v2b,v3b,vlb,l2,l4,cI_take l2,cI_take l4,z4,SaW]
      case hq =>
        simp [go_sem]
        refine drw3 [0,1,2,3,5] [4,6,7,8] [0,1,2,3,5] (.alt (.step 4 [] true (.alt (.step 6 [] false (.step 7 [] false (.step 8 [] false .done))) (.step 7 [] true (.step 6 [] false (.step 8 [] false .done))))) (.step 7 [] true (.step 4 [] true (.step 6 [] false (.step 8 [] false .done))))) ⟨[(2,.ptr 0 0 0 1),(3,.ptr 32 0 0 1),(4,.ptr 64 0 0 1),(5,.ptr 672 0 0 1),(6,.ptr 704 0 0 1),(7,.ptr 4224 0 0 1),(8,.ptr 9224 0 0 1)],[(9224,⟨160,4,[cI v]⟩),(4224,⟨160,4,[cI u]⟩),(704,⟨160,4,[cI py]⟩),(672,⟨160,4,[cI px]⟩),(64,⟨208,12,[cV zI zI zI]⟩),(32,⟨208,12,[cV x' y' z']⟩),(0,⟨208,12,[cV x y z]⟩)],20000⟩ (k:=9) ?h3 ?hq
        case h3 =>
          intro G hG
          have hW:∀ (fr:Fr) (hp:Hp),(fv 2 fr=.ptr 0 0 0 1∧fv 3 fr=.ptr 32 0 0 1∧fv 4 fr=.ptr 64 0 0 1∧fv 5 fr=.ptr 672 0 0 1∧fv 6 fr=.ptr 704 0 0 1∧fv 7 fr=.ptr 4224 0 0 1∧fv 8 fr=.ptr 9224 0 0 1∧lk 9224 hp=some ⟨160,4,[cI v]⟩∧lk 4224 hp=some ⟨160,4,[cI u]⟩∧lk 704 hp=some ⟨160,4,[cI py]⟩∧lk 672 hp=some ⟨160,4,[cI px]⟩∧lk 64 hp=some ⟨208,12,[cV zI zI zI]⟩∧lk 32 hp=some ⟨208,12,[cV x' y' z']⟩∧lk 0 hp=some ⟨208,12,[cV x y z]⟩)→G fr hp:=by
            rintro fr hp ⟨q0,q1,q2,q3,q4,q5,q6,q7,q8,q9,q10,q11,q12,q13⟩
            exact hG _ _ wkA
          simp [go_sem,v1,v2',v3,vl,v1b,v2b,v3b,vlb,l1,l6,cI_take l1,cI_take l6,z4,SaW]
          repeat' first | exact hW _ _ ⟨rfl,rfl,rfl,rfl,rfl,rfl,rfl,rfl,rfl,rfl,rfl,rfl,rfl,rfl⟩ | (refine hW _ _ ?_;simp [fv,lk];done) | refine cl_eq f5 (two_cI _ _) ?_ | refine cl_eq f6 (two_cI _ _) ?_ | apply And.intro | simp [go_sem,v1,v2',v3,vl,v1b,v2b,v3b,vlb,l1,l6,cI_take l1,cI_take l6,z4,SaW]
        case hq =>
          simp [go_sem,l6,cI_take l6,ints_cI,iz,q3,vl,vlb,v3,v3b]
          refine cl_eq f7 (two_cI _ _) ?_
          simp [go_sem,l7,cI_take l7,z4,l6,cI_take l6]
          refine cl_eq f8 (two_cI _ _) ?_
          simp [go_sem,l8,cI_take l8,z4,l6,cI_take l6]
          refine cl_eq f9 (two_cI _ _) ?_
          simp [go_sem,l9,cI_take l9,z4,l8,cI_take l8,l1,cI_take l1]
          refine cl_eq f10 (two_cI _ _) ?_
          simp [go_sem,l10,cI_take l10,z4]
          refine drw3 [0,1,3,5,7,8] [2,4,6,9,10,11,12] [0,1,3,5,7,8] (.alt (.step 2 [] true (.alt (.step 4 [] true (.alt (.step 6 [] true (.alt (.step 9 [] false (.alt (.step 10 [] false (.step 11 [] false (.step 12 [] false .done))) (.step 11 [] false (.step 10 [] false (.step 12 [] false .done))))) (.step 11 [] true (.step 9 [] false (.step 10 [] false (.step 12 [] false .done)))))) (.step 11 [] true (.step 6 [] true (.step 9 [] false (.step 10 [] false (.step 12 [] false .done))))))) (.step 11 [] true (.step 4 [] true (.step 6 [] true (.step 9 [] false (.step 10 [] false (.step 12 [] false .done)))))))) (.step 11 [] true (.step 2 [] true (.step 4 [] true (.step 6 [] true (.step 9 [] false (.step 10 [] false (.step 12 [] false .done)))))))) ⟨[(4,.ptr 64 0 0 1),(6,.ptr 704 0 0 1),(7,.ptr 4224 0 0 1),(8,.ptr 9224 0 0 1),(9,.ptr 20256 0 0 1),(11,.ptr 20576 0 0 1),(12,.ptr 20736 0 0 1),(13,.ptr 21152 0 0 1)],[(21152,⟨160,4,[cI a]⟩),(20736,⟨160,4,[cI r]⟩),(20576,⟨160,4,[cI v3w]⟩),(20256,⟨160,4,[cI zz]⟩),(9224,⟨160,4,[cI v]⟩),(4224,⟨160,4,[cI u]⟩),(704,⟨160,4,[cI py]⟩),(64,⟨208,12,[cV zI zI zI]⟩)],30000⟩ (k:=13) ?h3 ?hq
          case h3 =>
            intro G hG
            have hW:∀ (fr:Fr) (hp:Hp),(fv 4 fr=.ptr 64 0 0 1∧fv 6 fr=.ptr 704 0 0 1∧fv 7 fr=.ptr 4224 0 0 1∧fv 8 fr=.ptr 9224 0 0 1∧fv 9 fr=.ptr 20256 0 0 1∧fv 11 fr=.ptr 20576 0 0 1∧fv 12 fr=.ptr 20736 0 0 1∧fv 13 fr=.ptr 21152 0 0 1∧lk 21152 hp=some ⟨160,4,[cI a]⟩∧lk 20736 hp=some ⟨160,4,[cI r]⟩∧lk 20576 hp=some ⟨160,4,[cI v3w]⟩∧lk 20256 hp=some ⟨160,4,[cI zz]⟩∧lk 9224 hp=some ⟨160,4,[cI v]⟩∧lk 4224 hp=some ⟨160,4,[cI u]⟩∧lk 704 hp=some ⟨160,4,[cI py]⟩∧lk 64 hp=some ⟨208,12,[cV zI zI zI]⟩)→G fr hp:=by
              rintro fr hp ⟨q0,q1,q2,q3,q4,q5,q6,q7,q8,q9,q10,q11,q12,q13,q14,q15⟩
              exact hG _ _ wkA
            simp [go_sem,l4,l7,l9,l10,l15,cI_take l4,cI_take l7,cI_take l9,cI_take l10,cI_take l15,z4,SaW]
            repeat' first | exact hW _ _ ⟨rfl,rfl,rfl,rfl,rfl,rfl,rfl,rfl,rfl,rfl,rfl,rfl,rfl,rfl,rfl,rfl⟩ | (refine hW _ _ ?_;simp [fv,lk];done) | refine cl_eq f11 (two_cI _ _) ?_ | refine cl_eq f12 (two_cI _ _) ?_ | refine cl_eq f13 (two_cI _ _) ?_ | refine cl_eq f14 (two_cI _ _) ?_ | refine cl_eq f15 (two_cI _ _) ?_ | apply And.intro | simp [go_sem,l4,l7,l9,l10,l15,cI_take l4,cI_take l7,cI_take l9,cI_take l10,cI_take l15,z4,SaW]
          case hq =>
            simp [go_sem]
            refine drw3 [0,1,2,5,6] [3,4,7,8,9,10] [0,1,2,5,6] (.alt (.step 3 [] true (.alt (.step 4 [] true (.alt (.step 7 [] false (.alt (.step 8 [] false (.step 9 [] false (.step 10 [] false .done))) (.step 9 [] false (.step 8 [] false (.step 10 [] false .done))))) (.step 9 [] true (.step 7 [] false (.step 8 [] false (.step 10 [] false .done)))))) (.step 9 [] true (.step 4 [] true (.step 7 [] false (.step 8 [] false (.step 10 [] false .done))))))) (.step 9 [] true (.step 3 [] true (.step 4 [] true (.step 7 [] false (.step 8 [] false (.step 10 [] false .done))))))) ⟨[(4,.ptr 64 0 0 1),(8,.ptr 9224 0 0 1),(9,.ptr 20256 0 0 1),(11,.ptr 20576 0 0 1),(13,.ptr 21152 0 0 1),(14,.ptr 30288 0 0 1)],[(30288,⟨160,4,[cI Y]⟩),(21152,⟨160,4,[cI a]⟩),(20576,⟨160,4,[cI v3w]⟩),(20256,⟨160,4,[cI zz]⟩),(9224,⟨160,4,[cI v]⟩),(64,⟨208,12,[cV zI zI zI]⟩)],40000⟩ (k:=11) ?h3 ?hq
            case h3 =>
              intro G hG
              have hW:∀ (fr:Fr) (hp:Hp),(fv 4 fr=.ptr 64 0 0 1∧fv 8 fr=.ptr 9224 0 0 1∧fv 9 fr=.ptr 20256 0 0 1∧fv 11 fr=.ptr 20576 0 0 1∧fv 13 fr=.ptr 21152 0 0 1∧fv 14 fr=.ptr 30288 0 0 1∧lk 30288 hp=some ⟨160,4,[cI Y]⟩∧lk 21152 hp=some ⟨160,4,[cI a]⟩∧lk 20576 hp=some ⟨160,4,[cI v3w]⟩∧lk 20256 hp=some ⟨160,4,[cI zz]⟩∧lk 9224 hp=some ⟨160,4,[cI v]⟩∧lk 64 hp=some ⟨208,12,[cV zI zI zI]⟩)→G fr hp:=by
                rintro fr hp ⟨q0,q1,q2,q3,q4,q5,q6,q7,q8,q9,q10,q11⟩
                exact hG _ _ wkA
              simp [go_sem,l4,l10,l15,l9,l2,l19,cI_take l4,cI_take l10,cI_take l15,cI_take l9,cI_take l2,cI_take l19,z4,SaW]
              repeat' first | exact hW _ _ ⟨rfl,rfl,rfl,rfl,rfl,rfl,rfl,rfl,rfl,rfl,rfl,rfl⟩ | (refine hW _ _ ?_;simp [fv,lk];done) | refine cl_eq f16 (two_cI _ _) ?_ | refine cl_eq f17 (two_cI _ _) ?_ | refine cl_eq f18 (two_cI _ _) ?_ | refine cl_eq f19 (two_cI _ _) ?_ | apply And.intro | simp [go_sem,l4,l10,l15,l9,l2,l19,cI_take l4,cI_take l10,cI_take l15,cI_take l9,cI_take l2,cI_take l19,z4,SaW]
            case hq =>
              simp [go_sem]
              refine drw2 [0,1,3,4,5] [(2,[]),(6,[7]),(8,[])] 2 (k:=9) ?_
              intro G hG
              simp [go_sem,l6,l15,l19,l9,l7,cI_take l6,cI_take l15,cI_take l19,cI_take l9,cI_take l7]
              refine cl_eq f20 (two_cI _ _) ?_
              simp [go_sem,l9,l7,l19,cI_take l9,cI_take l7,cI_take l19]
              refine cl_eq f21 (two_cI _ _) ?_
              have ev:cI X ++ (cI Y ++ cI Z)=cV X Y Z:=rfl
              have xl:=cV_len l20 l19 l21
              have xt:=cV_take l20 l19 l21
              simp [go_sem,l20,l19,l21,wl,wd,mk8 l20 l19,mk12 l20 l19,ev,xl,SaW]
              refine hG _ _ ?_
              simp [go_sem,xl,xt,resV]
              exact post_v rfl
abbrev T3r:=List Int × List Int × List Int
def W3r (s:T3r):Prop:=Wn 4 s.1∧Wn 4 s.2.1∧Wn 4 s.2.2
def isF3 (s:T3r):Prop:=isF s.1 s.2.1 s.2.2
noncomputable def FrV3 (s:T3r):Pt pP:=FrV s.1 s.2.1 s.2.2
theorem rtwF:∃ D:T3r→T3r,∀ s,W3r s→W3r (D s)∧(isF3 s→isF3 (D s)∧FrV3 (D s)=sum fd (FrV3 s) (FrV3 s))∧Rets Tryz.prog 183 [.agg (cV s.1 s.2.1 s.2.2)] (fun r=>r=.agg (cV (D s).1 (D s).2.1 (D s).2.2)) :=
  pick (α:=T3r) (β:=T3r) (A:=W3r) (B:=fun s t=>W3r t∧(isF3 s→isF3 t∧FrV3 t=sum fd (FrV3 s) (FrV3 s))∧Rets Tryz.prog 183 [.agg (cV s.1 s.2.1 s.2.2)] (fun r=>r=.agg (cV t.1 t.2.1 t.2.2))) (fun s hs=>by
    obtain ⟨u,v,w,h1,h2,h3,h4,h5⟩:=rtwice s.1 s.2.1 s.2.2 hs.1 hs.2.1 hs.2.2
    exact ⟨(u,v,w),⟨h1,h2,h3⟩,h4,h5⟩)
theorem rplF:∃ D:T3r × T3r→T3r,∀ s,(W3r s.1∧W3r s.2)→W3r (D s)∧(isF3 s.1→isF3 s.2→isF3 (D s)∧FrV3 (D s)=sum fd (FrV3 s.1) (FrV3 s.2))∧Rets Tryz.prog 185 [.agg (cV s.1.1 s.1.2.1 s.1.2.2),.agg (cV s.2.1 s.2.2.1 s.2.2.2)] (fun r=>r=.agg (cV (D s).1 (D s).2.1 (D s).2.2)) :=
  pick (α:=T3r × T3r) (β:=T3r) (A:=fun s=>W3r s.1∧W3r s.2) (B:=fun s t=>W3r t∧(isF3 s.1→isF3 s.2→isF3 t∧FrV3 t=sum fd (FrV3 s.1) (FrV3 s.2))∧Rets Tryz.prog 185 [.agg (cV s.1.1 s.1.2.1 s.1.2.2),.agg (cV s.2.1 s.2.2.1 s.2.2.2)] (fun r=>r=.agg (cV t.1 t.2.1 t.2.2))) (fun s hs=>by
    obtain ⟨u,v,w,h1,h2,h3,h4,h5⟩:=rplus s.1.1 s.1.2.1 s.1.2.2 s.2.1 s.2.2.1 s.2.2.2 hs.1.1 hs.1.2.1 hs.1.2.2 hs.2.1 hs.2.2.1 hs.2.2.2
    exact ⟨(u,v,w),⟨h1,h2,h3⟩,h4,h5⟩)
def stpX (D:T3r→T3r) (A:T3r × T3r→T3r) (k:List Int) (one:T3r) (n j:Nat) (s:T3r):T3r:=if btN k (n - 1 - j)=1 then A (D s,one) else D s
theorem mulX_ok {D:T3r→T3r} {A:T3r × T3r→T3r} (hD:∀ s,W3r s→W3r (D s)∧(isF3 s→isF3 (D s)∧FrV3 (D s)=sum fd (FrV3 s) (FrV3 s))) (hA:∀ s:T3r × T3r,(W3r s.1∧W3r s.2)→W3r (A s)∧(isF3 s.1→isF3 s.2→isF3 (A s)∧FrV3 (A s)=sum fd (FrV3 s.1) (FrV3 s.2)))
    {k:List Int} (hk:Wn 4 k) {one:T3r} (h1:W3r one) (j1:isF3 one) {n:Nat} (hn:(V k).toNat<2 ^ n):∀ j,j≤n→W3r (itr (stpX D A k one n) (zI,zI,zI) j)∧isF3 (itr (stpX D A k one n) (zI,zI,zI) j)∧FrV3 (itr (stpX D A k one n) (zI,zI,zI) j)=mp fd ((V k).toNat / 2 ^ (n - j)) (FrV3 one)
  | 0,_=>by
    refine ⟨⟨zI_W,zI_W,zI_W⟩,isF_z,?_⟩
    rw [Nat.sub_zero,Nat.div_eq_of_lt hn]
    exact FrV_z zI zI
  | j+1,hj=>by
    obtain ⟨i1,i2,i3⟩:=mulX_ok hD hA hk h1 j1 hn j (by omega)
    rw [itr]
    generalize itr (stpX D A k one n) (zI,zI,zI) j=s at *
    obtain ⟨d1,d2⟩:=hD s i1
    obtain ⟨d3,d4⟩:=d2 i2
    obtain ⟨a1,a2⟩:=hA (D s,one) ⟨d1,h1⟩
    obtain ⟨a3,a4⟩:=a2 d3 j1
    have e:n - j=(n - 1 - j)+1:=by omega
    have e2:n - (j+1)=n - 1 - j:=by omega
    have h3:(V k).toNat / 2 ^ (n - j)=(V k).toNat / 2 ^ (n - 1 - j) / 2:=by rw [e,Nat.pow_succ,← Nat.div_div_eq_div_mul]
    have hb:btN k (n - 1 - j)=(V k).toNat / 2 ^ (n - 1 - j) % 2:=rfl
    rw [h3] at i3
    unfold stpX
    rw [e2,hb]
    generalize (V k).toNat / 2 ^ (n - 1 - j)=N at *
    have ho:onC (FrV3 one):=j1.2
    have sq:FrV3 (D s)=mp fd (2*(N / 2)) (FrV3 one):=by rw [d4,i3,mp_two fd ho]
    by_cases h5:N % 2=1
    · rw [if_pos h5]
      refine ⟨a1,a3,?_⟩
      rw [a4]
      show sum fd (FrV3 (D s)) (FrV3 one)=_
      have hN:N=2*(N / 2)+1:=by omega
      rw [sq]
      have hm:=mp_add fd ho (2*(N / 2)) 1
      rw [mp_one fd ho] at hm
      rw [← hm,← hN]
    · rw [if_neg h5]
      refine ⟨d1,d3,?_⟩
      rw [sq]
      congr 1
      omega
theorem FrV_one (x y:List Int):FrV x y oneI=some (FV x,FV y):=by
  show fr fd (FV x) (FV y) (FV oneI)=_
  rw [FV_one]
  exact fr_is fd F_one_ne (by generalize FV x=a;grobner) (by generalize FV y=a;grobner)
theorem isF_one {x y:List Int} (h:isPt x y false):isF x y oneI∧FrV x y oneI=PV x y false:=by
  have e:FrV x y oneI=PV x y false:=FrV_one x y
  have ho:=isPt_on h
  rcases h with ⟨h,_⟩ | ⟨_,h1,h2,_⟩
  · cases h
  · exact ⟨⟨⟨h1,h2,by rw [V_one];decide⟩,by rw [e];exact ho⟩,e⟩
theorem wp_deep (k x y:List Int) (c:Bool):∀ v,v ∈ [AV.agg (cI k),AV.agg (cP x y c)]→v.deep:=by
  intro v hv;simp at hv;rcases hv with rfl | rfl
  · exact cI_deepA _
  · exact cP_deep _ _ _
theorem rmulP (k x y:List Int) (c:Bool) (hk:Wn 4 k) (hx:Wn 4 x) (hy:Wn 4 y) (hp:isPt x y c):∃ (u v:List Int) (b:Bool),Wn 4 u∧Wn 4 v∧isPt u v b∧PV u v b=mp fd (V k).toNat (PV x y c)∧Rets Tryz.prog 131 [.agg (cI k),.agg (cP x y c)] (fun r=>r=.agg (cP u v b)):=by
  obtain ⟨D,hD⟩:=rtwF
  obtain ⟨A,hA⟩:=rplF
  obtain ⟨x1,y1,b1,hx1,hy1,t1,f1⟩:=rown x y c hx hy
  obtain ⟨rfl,rfl,rfl⟩:=t1.2.1 hp
  obtain ⟨n,hn,vn,f2⟩:=lenR_ex k hk
  have hw0:IntKind.i64.wrap ((n:Int) - 1)=ixD n:=ixD_down n (by omega)
  have hkl:=hk.1
  have hxl:=hx.1
  have hyl:=hy.1
  have z4:List.drop 4 (cI zI)=[]:=cI_drop rfl
  have pd:(cP zI zI false).drop 9=[]:=cP_drop rfl rfl _
  have zl2:(cP zI zI false).length=9:=rfl
  have iz:intsOf .u64 [AV.d (.int .u64 0),AV.d (.int .u64 0),AV.d (.int .u64 0),AV.d (.int .u64 0)]=some zI:=ints_cI zI
  have hol:oneI.length=4:=rfl
  have pl:=cP_len hxl hyl b1
  have pt:=cP_take hxl hyl b1
  have pdr:=cP_drop hxl hyl b1
  have pb:=cP_b hxl hyl b1
  have pg:=cP_g hxl hyl b1
  have e1':(cP x1 y1 b1).take 4=cI x1:=cP_x hxl _
  have e2':((cP x1 y1 b1).drop 4).take 4=cI y1:=cP_y hxl hyl _
  obtain ⟨one,hone,jone,vone,e1e⟩:∃ one:T3r,W3r one∧isF3 one∧FrV3 one=PV x1 y1 b1∧one=(if b1 then (zI,zI,zI) else (x1,y1,oneI)):=by
    cases b1
    · exact ⟨(x1,y1,oneI),⟨hx,hy,oneI_W⟩,(isF_one hp).1,(isF_one hp).2,rfl⟩
    · exact ⟨(zI,zI,zI),⟨zI_W,zI_W,zI_W⟩,isF_z,FrV_z zI zI,rfl⟩
  have hS:=mulX_ok (fun s hs=>⟨(hD s hs).1,(hD s hs).2.1⟩) (fun s hs=>⟨(hA s hs).1,(hA s hs).2.1⟩) hk hone jone vn
  obtain ⟨w1,w2,w3⟩:=hS n (Nat.le_refl n)
  rw [Nat.sub_self,Nat.pow_zero,Nat.div_one,vone] at w3
  obtain ⟨zi,hzi,vzi,f3⟩:=rinv _ w1.2.2
  obtain ⟨X,hX,vX,f4⟩:=rmul _ zi w1.1 hzi
  obtain ⟨Y,hY,vY,f5⟩:=rmul _ zi w1.2.1 hzi
  unfold W1 at f3
  unfold W2 at f4 f5
  have hpx:(itr (stpX D A k one n) (zI,zI,zI) n).2.2 ≠ zI→isPt X Y false∧PV X Y false=mp fd (V k).toNat (PV x1 y1 b1):=by
    intro h0
    have hz0:FV (itr (stpX D A k one n) (zI,zI,zI) n).2.2 ≠ 0:=fun h=>h0 ((FV_zero w1.2.2 w2.1.2.2).1 h)
    have e:PV X Y false=FrV3 (itr (stpX D A k one n) (zI,zI,zI) n):=by
      show some (FV X,FV Y)=fr fd _ _ _
      unfold fr
      rw [if_neg hz0,vX.2,vY.2,vzi.2]
    have ho:onC (PV X Y false):=by rw [e];exact w2.2
    exact ⟨.inr ⟨rfl,vX.1,vY.1,ho⟩,by rw [e,w3]⟩
  have hp0:(itr (stpX D A k one n) (zI,zI,zI) n).2.2=zI→none=mp fd (V k).toNat (PV x1 y1 b1):=by
    intro h0
    rw [← w3]
    show none=fr fd _ _ (FV (itr (stpX D A k one n) (zI,zI,zI) n).2.2)
    rw [h0,FV_z]
    exact (fr_z fd _ _).symm
  have key:∀ r:List Int × List Int × Bool,((itr (stpX D A k one n) (zI,zI,zI) n).2.2=zI→r=(zI,zI,true))→((itr (stpX D A k one n) (zI,zI,zI) n).2.2 ≠ zI→r=(X,Y,false))→Rets Tryz.prog 131 [.agg (cI k),.agg (cP x1 y1 b1)] (fun q=>q=.agg (cP r.1 r.2.1 r.2.2)):=by
    intro r e0 e1
    refine fna Tryz.func131 Tryz.ntmps131 (rs:=[.cell 4 162]) (wp_deep _ _ _ _) ?_
    simp [go_sem,hkl,cI_take hkl,pl,pt]
    refine cl_eq f1 (one_cP _ _ _) ?_
    cases b1
    · have hm:=mkV hxl hyl
      simp [go_sem,pl,pt,pdr,pb,pg,e1',e2',hxl,hyl,cI_take hxl,cI_take hyl]
      have hvl:=cV_len hxl hyl hol
      have hvt:=cV_take hxl hyl hol
      have e1f:one=(x1,y1,oneI):=e1e
      subst e1f
      simp [go_sem,hkl,cI_take hkl]
      refine cl_eq f2 (one_cI _) ?_
      simp [go_sem,hw0]
      generalize hSS:itr (stpX D A k (x1,y1,oneI) n) (zI,zI,zI)=S at *
      refine loop_of (fun t:Nat=>⟨[(2,.ptr 0 0 0 1),(4,.ptr 64 0 0 1),(5,.ptr 384 0 0 1),(6,.ptr 544 0 0 1),(7,.d (.int .i64 (ixD t)))],[(544,⟨208,12,[cV (S (n - t)).1 (S (n - t)).2.1 (S (n - t)).2.2]⟩),(384,⟨208,12,[cV (x1,y1,oneI).1 (x1,y1,oneI).2.1 (x1,y1,oneI).2.2]⟩),(64,⟨162,9,[cP zI zI false]⟩),(0,⟨160,4,[cI k]⟩)],3000⟩)
        (fun t=>t≤n) (fun t=>t) n (Nat.le_refl n) (by
          rw [Nat.sub_self,← hSS]
          simp [Weak,slotOk,fv,lk,AV.low,AV.low1,itr]
          and_intros <;> first | rfl | exact cI_low _ _ | exact cV_low _ _ _ _ | exact cP_low _ _ _ _ | (match x1,y1,hxl,hyl with | [_,_,_,_],[_,_,_,_],_,_=>rfl)) ?_
      intro t ht
      cases t with
      | zero =>
        obtain ⟨w1,w2,w3⟩:=hS n (Nat.le_refl n)
        have sl:=cV_len w1.1.1 w1.2.1.1 w1.2.2.1
        have st:=cV_take w1.1.1 w1.2.1.1 w1.2.2.1
        have s1:(cV (S n).1 (S n).2.1 (S n).2.2).take 4=cI (S n).1:=cV_x w1.1.1
        have s2:=cV_y (z:=(S n).2.2) w1.1.1 w1.2.1.1
        have s3:=cV_z w1.1.1 w1.2.1.1 w1.2.2.1
        have l3:=w1.2.2.1
        have lz:=hzi.1
        have lX:=hX.1
        have lY:=hY.1
        by_cases hz0:(S n).2.2=zI
        · have e:=e0 hz0
          have s3z:=cV_z (z:=zI) w1.1.1 w1.2.1.1 rfl
          have slz:=cV_len (z:=zI) w1.1.1 w1.2.1.1 rfl
          simp [go_sem,ixD_z,sl,s3,slz,s3z,ints_cI,iz,l3,hz0,cI_take (l:=zI) (n:=4) rfl,zI_len]
          rw [e]
          simp [go_sem,zl2,pd,resV]
          exact post_p (x:=zI) (y:=zI) (b:=true) rfl
        · have e:=e1 hz0
          simp [go_sem,ixD_z,sl,s3,ints_cI,iz,l3,hz0,cI_take l3]
          refine cl_eq f3 (one_cI _) ?_
          simp [go_sem,lz,cI_take lz,z4]
          rw [e]
          refine drw2 [0,1,2,4,5,6] [(3,[]),(7,[8]),(9,[])] 2 (k:=10) ?_
          intro G hG
          simp [go_sem,sl,s1,s2,lz,cI_take lz]
          refine cl_eq f4 (two_cI _ _) ?_
          simp [go_sem,sl,s1,s2,lz,cI_take lz]
          refine cl_eq f5 (two_cI _ _) ?_
          have mp:=mkP lX lY
          simp [go_sem,lX,lY,mp,cP_len lX lY,zl2,pd,SaW]
          refine hG _ _ ?_
          simp [go_sem,cP_len lX lY,cP_take lX lY,resV]
          exact post_p rfl
      | succ t =>
        obtain ⟨w1,w2,w3⟩:=hS (n - (t+1)) (by omega)
        have hsn:S (n - t)=stpX D A k (x1,y1,oneI) n (n - (t+1)) (S (n - (t+1))):=by
          rw [show n - t=(n - (t+1))+1 by omega,← hSS,itr]
        obtain ⟨d1,_,d2⟩:=hD (S (n - (t+1))) w1
        obtain ⟨a1,_,a2⟩:=hA (D (S (n - (t+1))),(x1,y1,oneI)) ⟨d1,hone⟩
        unfold stpX at hsn
        rw [show n - 1 - (n - (t+1))=t by omega] at hsn
        generalize S (n - (t+1))=s at *
        generalize D s=q at *
        have sl:=cV_len w1.1.1 w1.2.1.1 w1.2.2.1
        have st:=cV_take w1.1.1 w1.2.1.1 w1.2.2.1
        have sd:=cV_drop w1.1.1 w1.2.1.1 w1.2.2.1
        have ql:=cV_len d1.1.1 d1.2.1.1 d1.2.2.1
        have qt:=cV_take d1.1.1 d1.2.1.1 d1.2.2.1
        have qd:=cV_drop d1.1.1 d1.2.1.1 d1.2.2.1
        have al:=cV_len a1.1.1 a1.2.1.1 a1.2.2.1
        have at':=cV_take a1.1.1 a1.2.1.1 a1.2.2.1
        have ol:=cV_len hone.1.1 hone.2.1.1 hone.2.2.1
        have ot:=cV_take hone.1.1 hone.2.1.1 hone.2.2.1
        have hw:=ixD_down t (by omega)
        have p0:¬ ((t:Int)<0):=by omega
        simp [go_sem,ixD_s,p0,sl,st]
        refine cl_eq d2 (one_cV _ _ _) ?_
        simp [go_sem,ql,qt,sl,sd,hkl,cI_take hkl]
        refine cl_eq (bitR_fn k t hk (by omega)) (wi_deep _ _) ?_
        by_cases hb:btN k t=1
        · rw [if_pos hb] at hsn
          simp [go_sem,hb,ql,qt,ol,ot]
          refine cl_eq a2 (two_cF _ _ _ _ _ _) ?_
          rw [← hsn] at *
          simp [go_sem,ixD_s,al,at',ql,qd,hw]
          refine next_of t (by omega) (by omega) ?_
          simp [Weak,slotOk,fv,lk,AV.low,AV.low1]
          and_intros <;> first | rfl | exact cI_low _ _ | exact cV_low _ _ _ _ | exact cP_low _ _ _ _
        · have hb2:¬ ((btN k t:Int)=1):=by omega
          rw [if_neg hb] at hsn
          simp [go_sem,hb,hb2,hw,ixD_s]
          refine next_of t (by omega) (by omega) ?_
          rw [hsn]
          simp [Weak,slotOk,fv,lk,AV.low,AV.low1]
          and_intros <;> first | rfl | exact cI_low _ _ | exact cV_low _ _ _ _ | exact cP_low _ _ _ _
    · simp [go_sem,pl,pt,pdr,pb,pg,e1',e2',hxl,hyl,cI_take hxl,cI_take hyl]
      have e1f:one=(zI,zI,zI):=e1e
      subst e1f
      simp [go_sem,hkl,cI_take hkl]
      refine cl_eq f2 (one_cI _) ?_
      simp [go_sem,hw0]
      generalize hSS:itr (stpX D A k (zI,zI,zI) n) (zI,zI,zI)=S at *
      refine loop_of (fun t:Nat=>⟨[(2,.ptr 0 0 0 1),(4,.ptr 64 0 0 1),(5,.ptr 384 0 0 1),(6,.ptr 608 0 0 1),(7,.d (.int .i64 (ixD t)))],[(608,⟨208,12,[cV (S (n - t)).1 (S (n - t)).2.1 (S (n - t)).2.2]⟩),(384,⟨208,12,[cV (zI,zI,zI).1 (zI,zI,zI).2.1 (zI,zI,zI).2.2]⟩),(64,⟨162,9,[cP zI zI false]⟩),(0,⟨160,4,[cI k]⟩)],3000⟩)
        (fun t=>t≤n) (fun t=>t) n (Nat.le_refl n) (by
          rw [Nat.sub_self,← hSS]
          simp [Weak,slotOk,fv,lk,AV.low,AV.low1,itr]
          and_intros <;> first | rfl | exact cI_low _ _ | exact cV_low _ _ _ _ | exact cP_low _ _ _ _ | (match x1,y1,hxl,hyl with | [_,_,_,_],[_,_,_,_],_,_=>rfl)) ?_
      intro t ht
      cases t with
      | zero =>
        obtain ⟨w1,w2,w3⟩:=hS n (Nat.le_refl n)
        have sl:=cV_len w1.1.1 w1.2.1.1 w1.2.2.1
        have st:=cV_take w1.1.1 w1.2.1.1 w1.2.2.1
        have s1:(cV (S n).1 (S n).2.1 (S n).2.2).take 4=cI (S n).1:=cV_x w1.1.1
        have s2:=cV_y (z:=(S n).2.2) w1.1.1 w1.2.1.1
        have s3:=cV_z w1.1.1 w1.2.1.1 w1.2.2.1
        have l3:=w1.2.2.1
        have lz:=hzi.1
        have lX:=hX.1
        have lY:=hY.1
        by_cases hz0:(S n).2.2=zI
        · have e:=e0 hz0
          have s3z:=cV_z (z:=zI) w1.1.1 w1.2.1.1 rfl
          have slz:=cV_len (z:=zI) w1.1.1 w1.2.1.1 rfl
          simp [go_sem,ixD_z,sl,s3,slz,s3z,ints_cI,iz,l3,hz0,cI_take (l:=zI) (n:=4) rfl,zI_len]
          rw [e]
          simp [go_sem,zl2,pd,resV]
          exact post_p (x:=zI) (y:=zI) (b:=true) rfl
        · have e:=e1 hz0
          simp [go_sem,ixD_z,sl,s3,ints_cI,iz,l3,hz0,cI_take l3]
          refine cl_eq f3 (one_cI _) ?_
          simp [go_sem,lz,cI_take lz,z4]
          rw [e]
          refine drw2 [0,1,2,4,5,6] [(3,[]),(7,[8]),(9,[])] 2 (k:=10) ?_
          intro G hG
          simp [go_sem,sl,s1,s2,lz,cI_take lz]
          refine cl_eq f4 (two_cI _ _) ?_
          simp [go_sem,sl,s1,s2,lz,cI_take lz]
          refine cl_eq f5 (two_cI _ _) ?_
          have mp:=mkP lX lY
          simp [go_sem,lX,lY,mp,cP_len lX lY,zl2,pd,SaW]
          refine hG _ _ ?_
          simp [go_sem,cP_len lX lY,cP_take lX lY,resV]
          exact post_p rfl
      | succ t =>
        obtain ⟨w1,w2,w3⟩:=hS (n - (t+1)) (by omega)
        have hsn:S (n - t)=stpX D A k (zI,zI,zI) n (n - (t+1)) (S (n - (t+1))):=by
          rw [show n - t=(n - (t+1))+1 by omega,← hSS,itr]
        obtain ⟨d1,_,d2⟩:=hD (S (n - (t+1))) w1
        obtain ⟨a1,_,a2⟩:=hA (D (S (n - (t+1))),(zI,zI,zI)) ⟨d1,hone⟩
        unfold stpX at hsn
        rw [show n - 1 - (n - (t+1))=t by omega] at hsn
        generalize S (n - (t+1))=s at *
        generalize D s=q at *
        have sl:=cV_len w1.1.1 w1.2.1.1 w1.2.2.1
        have st:=cV_take w1.1.1 w1.2.1.1 w1.2.2.1
        have sd:=cV_drop w1.1.1 w1.2.1.1 w1.2.2.1
        have ql:=cV_len d1.1.1 d1.2.1.1 d1.2.2.1
        have qt:=cV_take d1.1.1 d1.2.1.1 d1.2.2.1
        have qd:=cV_drop d1.1.1 d1.2.1.1 d1.2.2.1
        have al:=cV_len a1.1.1 a1.2.1.1 a1.2.2.1
        have at':=cV_take a1.1.1 a1.2.1.1 a1.2.2.1
        have ol:=cV_len hone.1.1 hone.2.1.1 hone.2.2.1
        have ot:=cV_take hone.1.1 hone.2.1.1 hone.2.2.1
        have hw:=ixD_down t (by omega)
        have p0:¬ ((t:Int)<0):=by omega
        simp [go_sem,ixD_s,p0,sl,st]
        refine cl_eq d2 (one_cV _ _ _) ?_
        simp [go_sem,ql,qt,sl,sd,hkl,cI_take hkl]
        refine cl_eq (bitR_fn k t hk (by omega)) (wi_deep _ _) ?_
        by_cases hb:btN k t=1
        · rw [if_pos hb] at hsn
          simp [go_sem,hb,ql,qt,ol,ot]
          refine cl_eq a2 (two_cF _ _ _ _ _ _) ?_
          rw [← hsn] at *
          simp [go_sem,ixD_s,al,at',ql,qd,hw]
          refine next_of t (by omega) (by omega) ?_
          simp [Weak,slotOk,fv,lk,AV.low,AV.low1]
          and_intros <;> first | rfl | exact cI_low _ _ | exact cV_low _ _ _ _ | exact cP_low _ _ _ _
        · have hb2:¬ ((btN k t:Int)=1):=by omega
          rw [if_neg hb] at hsn
          simp [go_sem,hb,hb2,hw,ixD_s]
          refine next_of t (by omega) (by omega) ?_
          rw [hsn]
          simp [Weak,slotOk,fv,lk,AV.low,AV.low1]
          and_intros <;> first | rfl | exact cI_low _ _ | exact cV_low _ _ _ _ | exact cP_low _ _ _ _
  by_cases h0:(itr (stpX D A k one n) (zI,zI,zI) n).2.2=zI
  · exact ⟨zI,zI,true,zI_W,zI_W,isPt_z,hp0 h0,key (zI,zI,true) (fun _=>rfl) (fun h=>absurd h0 h)⟩
  · exact ⟨X,Y,false,hX,hY,(hpx h0).1,(hpx h0).2,key (X,Y,false) (fun h=>absurd h h0) (fun _=>rfl)⟩
theorem rsread (b:List Nat) (hb:b.length=32) (hby:bytes b):∃ (r:List Int) (ok:Bool),Wn 4 r∧((beN b<115792089237316195423570985008687907852837564279074904382605163141518161494337→ok=true∧V r=(beN b:Int))∧(¬ beN b<115792089237316195423570985008687907852837564279074904382605163141518161494337→ok=false∧r=zI))∧Rets Tryz.prog 179 [.agg (cb b)] (fun x=>x=.tup [.agg (cI r),.d (.bool ok)]):=by
  obtain ⟨a,ha,va,f1⟩:=readRI_ex b hb hby
  obtain ⟨c,vc,f2⟩:=cmpRI_ex a odI ha odI_W
  have vo:V odI=115792089237316195423570985008687907852837564279074904382605163141518161494337:=by simp [V,odI]
  rw [vo,va] at vc
  have hal:=ha.1
  have hz:List.drop 4 (cI zI)=[]:=cI_drop rfl
  by_cases h0:c<0
  · have hlt:beN b<115792089237316195423570985008687907852837564279074904382605163141518161494337:=by have:=vc.1 h0;omega
    refine ⟨a,true,ha,⟨fun _=>⟨rfl,va⟩,fun h=>absurd hlt h⟩,?_⟩
    refine fna Tryz.func179 Tryz.ntmps179 (rs:=[.cell 2 160,.tmp 3]) (one_cb1 b) ?_
    have h1:¬ 0≤c:=by omega
    simp [go_sem,cb_len,hb,cb_take hb]
    refine cl_eq f1 (one_cb1 _) ?_
    simp [go_sem,hal,cI_take hal,hz]
    refine drw2 [0] [(1,[]),(2,[3])] 2 (k:=4) ?_
    intro G hG
    simp [go_sem,hal,cI_take hal]
    refine cl_eq orderR_fn (by simp) ?_
    simp [go_sem,hal,cI_take hal]
    refine cl_eq f2 (two_cI _ _) ?_
    simp [go_sem,SaW]
    refine hG _ _ ?_
    simp [go_sem,h1,h0,hal,cI_take hal,hz,resV]
    exact post_wb rfl
  · have hlt:¬ beN b<115792089237316195423570985008687907852837564279074904382605163141518161494337:=fun h=>h0 (vc.2 (by omega))
    refine ⟨zI,false,zI_W,⟨fun h=>absurd h hlt,fun _=>⟨rfl,rfl⟩⟩,?_⟩
    refine fna Tryz.func179 Tryz.ntmps179 (rs:=[.cell 2 160,.tmp 3]) (one_cb1 b) ?_
    have h1:0≤c:=by omega
    simp [go_sem,cb_len,hb,cb_take hb]
    refine cl_eq f1 (one_cb1 _) ?_
    simp [go_sem,hal,cI_take hal,hz]
    refine drw2 [0] [(1,[]),(2,[3])] 2 (k:=4) ?_
    intro G hG
    simp [go_sem,hal,cI_take hal]
    refine cl_eq orderR_fn (by simp) ?_
    simp [go_sem,hal,cI_take hal]
    refine cl_eq f2 (two_cI _ _) ?_
    simp [go_sem,SaW]
    refine hG _ _ ?_
    simp [go_sem,h1,h0,hz,resV]
    exact post_wb (a:=zI) rfl
theorem rlift (b:List Nat) (hb:b.length=32) (hby:bytes b):∃ (x y:List Int) (c ok:Bool),Wn 4 x∧Wn 4 y∧(liftS (beN b) x y c ok)∧Rets Tryz.prog 128 [.agg (cb b)] (fun r=>r=.tup [.agg (cP x y c),.d (.bool ok)]):=by
  obtain ⟨a,ha,va,f1⟩:=readRI_ex b hb hby
  obtain ⟨o,vo,f2⟩:=rbelow a ha
  obtain ⟨r,hr,vr,f3⟩:=rright a ha
  obtain ⟨y,ok,hy,vk,vy,vno,f4⟩:=rroot r hr
  have hrv:V r=liftC (beN b):=right_V hr va vr
  rw [va] at vo
  rw [hrv] at vk vy
  unfold W1 at f3
  have hal:=ha.1
  have hyl:=hy.1
  have hz:List.drop 4 (cI zI)=[]:=cI_drop rfl
  have zd:List.drop 32 (cb b)=[]:=cb_drop hb
  have pd:(cP zI zI false).drop 9=[]:=cP_drop rfl rfl _
  have zl2:(cP zI zI false).length=9:=rfl
  have mp:=mkP hal hyl
  have pl1:=cP_len hal hyl false
  have pt1:=cP_take hal hyl false
  cases ok
  · refine ⟨zI,zI,true,false,zI_W,zI_W,.inl ⟨fun h=>absurd (vk.2 h.2) (by decide),rfl,rfl,rfl,rfl⟩,?_⟩
    refine fna Tryz.func128 Tryz.ntmps128 (rs:=[.cell 2 162,.tmp 3]) (one_cb1 b) ?_
    simp [go_sem,cb_len,hb,cb_take hb,zd]
    refine cl_eq f1 (one_cb1 _) ?_
    simp [go_sem,hal,cI_take hal,hz]
    refine cl_eq f3 (one_cI _) ?_
    simp [go_sem]
    refine cl_eq f4 (one_cI _) ?_
    simp [go_sem,hyl,cI_take hyl,hz,zl2,pd,resV]
    exact post_pb (x:=zI) (y:=zI) (c:=true) rfl
  · cases o
    · refine ⟨zI,zI,true,false,zI_W,zI_W,.inl ⟨fun h=>absurd (vo.2 h.1) (by decide),rfl,rfl,rfl,rfl⟩,?_⟩
      refine fna Tryz.func128 Tryz.ntmps128 (rs:=[.cell 2 162,.tmp 3]) (one_cb1 b) ?_
      simp [go_sem,cb_len,hb,cb_take hb,zd]
      refine cl_eq f1 (one_cb1 _) ?_
      simp [go_sem,hal,cI_take hal,hz]
      refine cl_eq f3 (one_cI _) ?_
      simp [go_sem]
      refine cl_eq f4 (one_cI _) ?_
      simp [go_sem,hyl,cI_take hyl,hz,hal,cI_take hal]
      refine cl_eq f2 (one_cI _) ?_
      simp [go_sem,zl2,pd,resV]
      exact post_pb (x:=zI) (y:=zI) (c:=true) rfl
    · refine ⟨a,y,false,true,ha,hy,.inr ⟨⟨vo.1 rfl,vk.1 rfl⟩,rfl,rfl,va,vy rfl⟩,?_⟩
      refine fna Tryz.func128 Tryz.ntmps128 (rs:=[.cell 2 162,.tmp 3]) (one_cb1 b) ?_
      simp [go_sem,cb_len,hb,cb_take hb,zd]
      refine cl_eq f1 (one_cb1 _) ?_
      simp [go_sem,hal,cI_take hal,hz]
      refine cl_eq f3 (one_cI _) ?_
      simp [go_sem]
      refine cl_eq f4 (one_cI _) ?_
      simp [go_sem,hyl,cI_take hyl,hz,hal,cI_take hal]
      refine cl_eq f2 (one_cI _) ?_
      simp [go_sem,hal,hyl,cI_take hal,cI_take hyl,hz,mp,pl1,pt1,pd,zl2,resV]
      exact post_pb rfl
def gN:Nat:=55066263022277343669578718895168534326250603453777594175500187360389116729240
theorem liftC_g:liftC gN=((32748224938747404814623910738487752935528512903530129802856995983256684603122:Nat):Int):=by
  unfold liftC
  have e:((gN:Int)*gN*gN+7) % 115792089237316195423570985008687907853269984665640564039457584007908834671663=(((gN*gN*gN+7) % 115792089237316195423570985008687907853269984665640564039457584007908834671663:Nat):Int):=by
    rw [Int.natCast_emod,Int.natCast_add,Int.natCast_mul,Int.natCast_mul];rfl
  rw [e]
  exact congrArg (fun n:Nat=>(n:Int)) (Nat.eq_of_beq_eq_true (by kernel_rfl))
theorem liftR_of (e r n:Nat) (he:e<2 ^ 256) (hr:pwm 115792089237316195423570985008687907853269984665640564039457584007908834671663 256 32748224938747404814623910738487752935528512903530129802856995983256684603122 e 1=r) (hn:liftC n=((32748224938747404814623910738487752935528512903530129802856995983256684603122:Nat):Int)):liftC n ^ e % 115792089237316195423570985008687907853269984665640564039457584007908834671663=(r:Int):=by
  have h:=pwm_eq 115792089237316195423570985008687907853269984665640564039457584007908834671663 256 32748224938747404814623910738487752935528512903530129802856995983256684603122 e 1 he (Nat.mod_eq_of_lt (by omega))
  rw [Nat.one_mul,hr] at h
  rw [hn,← Int.natCast_pow]
  have e:(115792089237316195423570985008687907853269984665640564039457584007908834671663:Int)=((115792089237316195423570985008687907853269984665640564039457584007908834671663:Nat):Int):=rfl
  rw [e,← Int.natCast_emod]
  exact congrArg (fun n:Nat=>(n:Int)) h.symm
theorem liftR_g:liftR gN=((32670510020758816978083085130507043184471273380659243275938904335757337482424:Nat):Int) :=
  liftR_of _ _ gN (by omega) (Nat.eq_of_beq_eq_true (by kernel_rfl)) liftC_g
theorem liftOk_g:liftOk gN:=by
  refine ⟨?_,?_⟩
  · have:gN<115792089237316195423570985008687907853269984665640564039457584007908834671663:=by unfold gN;omega
    omega
  · rw [liftR_g,liftC_g,← Int.natCast_mul]
    have e:(115792089237316195423570985008687907853269984665640564039457584007908834671663:Int)=((115792089237316195423570985008687907853269984665640564039457584007908834671663:Nat):Int):=rfl
    rw [e,← Int.natCast_emod,← Int.natCast_emod]
theorem gX_V:V gX=gN:=by
  unfold gX gN
  rw [V4];omega
theorem gY_V:V gY=32670510020758816978083085130507043184471273380659243275938904335757337482424:=by
  unfold gY
  rw [V4];omega
theorem lift_g {x y:List Int} {c ok:Bool} (hx:Wn 4 x) (hy:Wn 4 y) (h:liftS gN x y c ok):ok=true∧c=false∧x=gX∧y=gY:=by
  rcases h with ⟨h,_⟩ | ⟨_,h1,h2,h3,h4⟩
  · exact absurd liftOk_g h
  · refine ⟨h1,h2,V_inj hx gX_W (by rw [h3,gX_V]),V_inj hy gY_W ?_⟩
    rw [h4,liftR_g,if_pos (by omega),gY_V];rfl
theorem rbase:Rets Tryz.prog 132 [] (fun r=>r=.agg (cP gX gY false)):=by
  obtain ⟨b,hb,hby,vb,f1⟩:=bytesR_ex gX gX_W
  obtain ⟨x,y,c,ok,hx,hy,hs,f2⟩:=rlift b hb hby
  have hg:beN b=gN:=by rw [vb,gX_V];exact Int.toNat_natCast _
  rw [hg] at hs
  obtain ⟨rfl,rfl,rfl,rfl⟩:=lift_g hx hy hs
  have gl:gX.length=4:=rfl
  have pl:=cP_len (x:=gX) (y:=gY) rfl rfl false
  have pt:=cP_take (x:=gX) (y:=gY) rfl rfl false
  have pd:(cP zI zI false).drop 9=[]:=cP_drop rfl rfl _
  have zl2:(cP zI zI false).length=9:=rfl
  have hz:List.drop 4 (cI zI)=[]:=cI_drop rfl
  have eg:[AV.d (.int .u64 6481385041966929816),AV.d (.int .u64 188021827762530521),AV.d (.int .u64 6170039885052185351),AV.d (.int .u64 8772561819708210092)]=cI gX:=rfl
  refine fna Tryz.func132 Tryz.ntmps132 (rs:=[.cell 0 162]) (by simp [AV.deep,AV.deep1]) ?_
  simp [go_sem,hz]
  refine cl_eq f1 (one_cI gX) ?_
  simp [go_sem,cb_len,hb,cb_take hb]
  refine cl_eq f2 (one_cb1 _) ?_
  simp [go_sem,pl,pt,pd,zl2,resV]
  exact post_p rfl
theorem rbytes (x y:List Int) (c:Bool) (hx:Wn 4 x) (hy:Wn 4 y) (hp:isPt x y c):∃ b:List Nat,b.length=32∧bytes b∧beN b=(V x).toNat∧Rets Tryz.prog 133 [.agg (cP x y c)] (fun r=>r=.agg (cb b)):=by
  obtain ⟨x1,y1,c1,hx1,hy1,t1,f1⟩:=rown x y c hx hy
  obtain ⟨rfl,rfl,rfl⟩:=t1.2.1 hp
  obtain ⟨b,hb,hby,vb,f2⟩:=bytesR_ex x1 hx1
  refine ⟨b,hb,hby,vb,?_⟩
  have hxl:=hx.1
  have hyl:=hy.1
  have pl:=cP_len hxl hyl c1
  have pt:=cP_take hxl hyl c1
  have pdr:=cP_drop hxl hyl c1
  have e1:(cP x1 y1 c1).take 4=cI x1:=cP_x hxl _
  have zd:List.drop 32 (cb z32)=[]:=cb_drop rfl
  refine fna Tryz.func133 Tryz.ntmps133 (rs:=[.cell 2 23]) (one_cP _ _ _) ?_
  simp [go_sem,pl,pt]
  refine cl_eq f1 (one_cP _ _ _) ?_
  simp [go_sem,pl,pt,pdr,e1,hxl,cI_take hxl]
  refine cl_eq f2 (one_cI _) ?_
  simp [go_sem,cb_len,hb,cb_take hb,zd,resV]
  exact post_b rfl
theorem reven (x y:List Int) (c:Bool) (hx:Wn 4 x) (hy:Wn 4 y) (hp:isPt x y c):∃ o:Bool,(o=true ↔ c=false∧V y % 2=0)∧Rets Tryz.prog 134 [.agg (cP x y c)] (fun r=>r=.d (.bool o)):=by
  obtain ⟨x1,y1,c1,hx1,hy1,t1,f1⟩:=rown x y c hx hy
  obtain ⟨rfl,rfl,rfl⟩:=t1.2.1 hp
  have hxl:=hx.1
  have hyl:=hy.1
  have pl:=cP_len hxl hyl c1
  have pt:=cP_take hxl hyl c1
  have pdr:=cP_drop hxl hyl c1
  have pb:=cP_b hxl hyl c1
  have pg:=cP_g hxl hyl c1
  have hR:=Wn_getD (k:=0) hy
  have hmg:=mod2_gI hy
  have hmt:Int.tmod (gI y1 0) 2=gI y1 0 % 2:=Int.tmod_eq_emod_of_nonneg hR.1
  have g4:(cP x1 y1 c1)[4]?=some (.d (.int .u64 (gI y1 0))):=by
    unfold cP
    rw [List.getElem?_append_right (by rw [cI_len];omega),cI_len,hxl,List.getElem?_append_left (by rw [cI_len];omega),cI_get,get_D (by omega)]
    rfl
  have g4b:∀ h,(cP x1 y1 c1)[4]'h=.d (.int .u64 (gI y1 0)):=fun h=>(List.getElem?_eq_some_iff.1 g4).2
  cases c1
  · refine ⟨decide (gI y1 0 % 2=0),by rw [decide_eq_true_iff,hmg];exact ⟨fun h=>⟨rfl,h⟩,fun h=>h.2⟩,?_⟩
    refine fna Tryz.func134 Tryz.ntmps134 (rs:=[.tmp 2]) (one_cP _ _ _) ?_
    simp [go_sem,pl,pt]
    refine cl_eq f1 (one_cP _ _ _) ?_
    simp [go_sem,pl,pt,pdr,pb,pg,g4,g4b,hmt,resV]
    exact post_same (by simp [AV.deep,AV.deep1]) rfl
  · refine ⟨false,⟨fun h=>Bool.noConfusion h,fun h=>Bool.noConfusion h.1⟩,?_⟩
    refine fna Tryz.func134 Tryz.ntmps134 (rs:=[.tmp 2]) (one_cP _ _ _) ?_
    simp [go_sem,pl,pt]
    refine cl_eq f1 (one_cP _ _ _) ?_
    simp [go_sem,pl,pt,pdr,pb,pg,resV]
    exact post_same (by simp [AV.deep,AV.deep1]) rfl
end Go.Proofs.YtldccnbokbieiaaGreat
