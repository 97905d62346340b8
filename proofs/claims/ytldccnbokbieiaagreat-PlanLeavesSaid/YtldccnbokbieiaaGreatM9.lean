/-
 Part 10 of what the claim rests on.
-/
import Derived.Test.YtldccnbokbieiaaGreatM8
set_option linter.unusedVariables false
set_option linter.unusedSimpArgs false
set_option maxRecDepth 100000
set_option maxHeartbeats 16000000
namespace Go.Proofs.YtldccnbokbieiaaGreat
open Go.Am Go.Sha Go.Ec
theorem OI (x y z x' y' z':List Int) (hx:Wn 4 x) (hy:Wn 4 y) (hz:Wn 4 z) (hx':Wn 4 x') (hy':Wn 4 y') (hz':Wn 4 z'):∃ (X Y Z:List Int),Wn 4 X∧Wn 4 Y∧Wn 4 Z∧(BL x y z→BL x' y' z'→BL X Y Z∧FrV X Y Z=sum fd (FrV x y z) (FrV x' y' z'))∧aq Tryz.prog 185 [.agg (cV x y z),.agg (cV x' y' z')] (fun r=>r=.agg (cV X Y Z)):=by
 obtain ⟨px,h1,g1,f1⟩:=dz x z' hx hz'
 obtain ⟨py,h2,g2,f2⟩:=dz y z' hy hz'
 obtain ⟨u1,h3,g3,f3⟩:=dz y' z hy' hz
 obtain ⟨u,h4,g4,f4⟩:=kh u1 py h3 h2
 obtain ⟨v0,h5,g5,f5⟩:=dz x' z hx' hz
 obtain ⟨v,h6,g6,f6⟩:=kh v0 px h5 h1
 obtain ⟨zz,h7,g7,f7⟩:=dz z z' hz hz'
 obtain ⟨v2,h8,g8,f8⟩:=dz v v h6 h6
 obtain ⟨v3w,h9,g9,f9⟩:=dz v2 v h8 h6
 obtain ⟨r,h10,g10,f10⟩:=dz v2 px h8 h1
 obtain ⟨uu,h11,g11,f11⟩:=dz u u h4 h4
 obtain ⟨uz,h12,g12,f12⟩:=dz uu zz h11 h7
 obtain ⟨c1,h13,g13,f13⟩:=kh uz v3w h12 h9
 obtain ⟨rr,h14,g14,f14⟩:=LX r r h10 h10
 obtain ⟨a,h15,g15,f15⟩:=kh c1 rr h13 h14
 obtain ⟨ra,h16,g16,f16⟩:=kh r a h10 h15
 obtain ⟨ura,h17,g17,f17⟩:=dz u ra h4 h16
 obtain ⟨vpy,h18,g18,f18⟩:=dz v3w py h9 h2
 obtain ⟨Y,h19,g19,f19⟩:=kh ura vpy h17 h18
 obtain ⟨X,h20,g20,f20⟩:=dz v a h6 h15
 obtain ⟨Z,h21,g21,f21⟩:=dz v3w zz h9 h7
 obtain ⟨tx,ty,tz,h22,h23,h24,g22,f22⟩:=Gj x y z hx hy hz
 unfold W2 at f1 f2 f3 f4 f5 f6 f7 f8 f9 f10 f11 f12 f13 f14 f15 f16 f17 f18 f19 f20 f21
 have l1:=h1.1
 have l2:=h2.1
 have l4:=h4.1
 have l6:=h6.1
 have l7:=h7.1
 have l8:=h8.1
 have l9:=h9.1
 have l10:=h10.1
 have l15:=h15.1
 have l19:=h19.1
 have l20:=h20.1
 have l21:=h21.1
 have l22:=h22.1
 have l23:=h23.1
 have l24:=h24.1
 have hxl:=hx.1
 have hyl:=hy.1
 have hzl:=hz.1
 have hxl':=hx'.1
 have hyl':=hy'.1
 have hzl':=hz'.1
 have z4:List.drop 4 (cI zI)=[]:=ao rfl
 have iz:bz .u64 [AV.d (.int .u64 0),AV.d (.int .u64 0),AV.d (.int .u64 0),AV.d (.int .u64 0)]=some zI:=aW zI
 have vl:=bq hxl hyl hzl
 have vt:=aZ hxl hyl hzl
 have v1:(cV x y z).take 4=cI x:=vQ hxl
 have v2':=vS (z:=z) hxl hyl
 have v3:=pI hxl hyl hzl
 have vlb:=bq hxl' hyl' hzl'
 have vtb:=aZ hxl' hyl' hzl'
 have v1b:(cV x' y' z').take 4=cI x':=vQ hxl'
 have v2b:=vS (z:=z') hxl' hyl'
 have v3b:=pI hxl' hyl' hzl'
 have wd:(cV zI zI zI).drop 12=[]:=ek rfl rfl rfl
 have wl:(cV zI zI zI).length=12:=rfl
 have ul:=bq l22 l23 l24
 have ut:=aZ l22 l23 l24
 by_cases q1:z=zI
 ·refine ⟨x',y',z',hx',hy',hz',fun _ hj=>⟨hj,by rw [q1,tT];exact (dx fd hj.2).symm⟩,?_⟩
  subst q1
  refine aS Tryz.func185 Tryz.ntmps185 (rs:=[.cell 4 208]) (mU _ _ _ _ _ _) ?_
  simp [go_sem,vl,vt,vlb,vtb,v3,v3b,aW,iz,hzl,hzl',wl,wd,ak]
  exact eP rfl
 by_cases q2:z'=zI
 ·refine ⟨x,y,z,hx,hy,hz,fun hj _=>⟨hj,by rw [q2,tT];exact (fT fd hj.2).symm⟩,?_⟩
  subst q2
  refine aS Tryz.func185 Tryz.ntmps185 (rs:=[.cell 4 208]) (mU _ _ _ _ _ _) ?_
  simp [go_sem,vl,vt,vlb,vtb,v3,v3b,aW,iz,hzl,hzl',q1,wl,wd,ak]
  exact eP rfl
 have hne:BL x y z→FV z ≠ 0:=fun hj h=>q1 ((fg hz hj.1.2.2).1 h)
 have hne':BL x' y' z'→FV z' ≠ 0:=fun hj h=>q2 ((fg hz' hj.1.2.2).1 h)
 have main:BL x y z→BL x' y' z'→_:=fun hj hj'=>Iy fd (px:=FV px) (py:=FV py) (u:=FV u) (v:=FV v) (hne hj) (hne' hj') hj.2 hj'.2 g1.2 g2.2 (by rw [g4.2,g3.2]) (by rw [g6.2,g5.2])
 have hv0:FV v=0 ↔ v=zI:=fg h6 g6.1
 have hu0:FV u=0 ↔ u=zI:=fg h4 g4.1
 by_cases q3:v=zI
 ·by_cases q4:u=zI
  ·refine ⟨tx,ty,tz,h22,h23,h24,fun hj hj'=>?_,?_⟩
   ·obtain ⟨k1,k2⟩:=g22 hj
    have e:=(main hj hj').2.1 (hv0.2 q3) (hu0.2 q4)
    exact ⟨k1,by rw [k2];exact congrArg (sum fd (FrV x y z)) e⟩
   refine aS Tryz.func185 Tryz.ntmps185 (rs:=[.cell 4 208]) (mU _ _ _ _ _ _) ?_
   simp [go_sem,vl,vt,vlb,vtb,v3,v3b,aW,iz,hzl,hzl',q1,q2]
   refine bD [0,1,2,3,5,6,7,8] [4,9,10,11,12,13] [0,1,2,3,5,6,7,8] (.alt (.step 4 [] true (.alt (.step 9 [] false (.alt (.step 10 [] false (.step 11 [] false (.step 12 [] false (.step 13 [] false .done)))) (.step 11 [] false (.step 10 [] false (.step 12 [] false (.step 13 [] false .done)))))) (.alt (.step 10 [] true (.alt (.step 9 [] false (.step 11 [] false (.step 12 [] false (.step 13 [] false .done)))) (.step 11 [] true (.step 9 [] false (.step 12 [] false (.step 13 [] false .done)))))) (.step 11 [] true (.alt (.step 9 [] false (.step 10 [] false (.step 12 [] false (.step 13 [] false .done)))) (.step 10 [] true (.step 9 [] false (.step 12 [] false (.step 13 [] false .done))))))))) (.alt (.step 10 [] true (.alt (.step 4 [] true (.alt (.step 9 [] false (.step 11 [] false (.step 12 [] false (.step 13 [] false .done)))) (.step 11 [] true (.step 9 [] false (.step 12 [] false (.step 13 [] false .done)))))) (.step 11 [] true (.step 4 [] true (.step 9 [] false (.step 12 [] false (.step 13 [] false .done))))))) (.step 11 [] true (.alt (.step 4 [] true (.alt (.step 9 [] false (.step 10 [] false (.step 12 [] false (.step 13 [] false .done)))) (.step 10 [] true (.step 9 [] false (.step 12 [] false (.step 13 [] false .done)))))) (.step 10 [] true (.step 4 [] true (.step 9 [] false (.step 12 [] false (.step 13 [] false .done))))))))) ⟨[(2,.ptr 0 0 0 1),(3,.ptr 32 0 0 1),(4,.ptr 64 0 0 1),(5,.ptr 672 0 0 1),(6,.ptr 704 0 0 1)],[(704,⟨160,4,[cI py]⟩),(672,⟨160,4,[cI px]⟩),(64,⟨208,12,[cV zI zI zI]⟩),(32,⟨208,12,[cV x' y' z']⟩),(0,⟨208,12,[cV x y z]⟩)],4000⟩ (k:=14) ?h3 ?hq
   case h3 =>
    intro G hG
    have hW:∀ (fr:Fr) (hp:Hp),(fv 2 fr=.ptr 0 0 0 1∧fv 3 fr=.ptr 32 0 0 1∧fv 4 fr=.ptr 64 0 0 1∧fv 5 fr=.ptr 672 0 0 1∧fv 6 fr=.ptr 704 0 0 1∧lk 704 hp=some ⟨160,4,[cI py]⟩∧lk 672 hp=some ⟨160,4,[cI px]⟩∧lk 64 hp=some ⟨208,12,[cV zI zI zI]⟩∧lk 32 hp=some ⟨208,12,[cV x' y' z']⟩∧lk 0 hp=some ⟨208,12,[cV x y z]⟩)→G fr hp:=by
     rintro fr hp ⟨q0,q1,q2,q3,q4,q5,q6,q7,q8,q9⟩
     exact hG _ _ fc
    simp [go_sem,v1,v2',v3,vl,v1b,v2b,v3b,vlb,l1,l2,aa l1,aa l2,z4,be]
    repeat' first | exact hW _ _ ⟨rfl,rfl,rfl,rfl,rfl,rfl,rfl,rfl,rfl,rfl⟩ | (refine hW _ _ ?_;simp [fv,lk];done) | refine ab f1 (ah _ _) ?_ | refine ab f2 (ah _ _) ?_ | apply And.intro | simp [go_sem,v1,v2',v3,vl,v1b,v2b,v3b,vlb,l1,l2,aa l1,aa l2,z4,be]
   case hq =>
    simp [go_sem]
    refine bD [0,1,2,3,5] [4,6,7,8] [0,1,2,3,5] (.alt (.step 4 [] true (.alt (.step 6 [] false (.step 7 [] false (.step 8 [] false .done))) (.step 7 [] true (.step 6 [] false (.step 8 [] false .done))))) (.step 7 [] true (.step 4 [] true (.step 6 [] false (.step 8 [] false .done))))) ⟨[(2,.ptr 0 0 0 1),(3,.ptr 32 0 0 1),(4,.ptr 64 0 0 1),(5,.ptr 672 0 0 1),(6,.ptr 704 0 0 1),(7,.ptr 4224 0 0 1)],[(4224,⟨160,4,[cI u]⟩),(704,⟨160,4,[cI py]⟩),(672,⟨160,4,[cI px]⟩),(64,⟨208,12,[cV zI zI zI]⟩),(32,⟨208,12,[cV x' y' z']⟩),(0,⟨208,12,[cV x y z]⟩)],9000⟩ (k:=9) ?h3 ?hq
    case h3 =>
     intro G hG
     have hW:∀ (fr:Fr) (hp:Hp),(fv 2 fr=.ptr 0 0 0 1∧fv 3 fr=.ptr 32 0 0 1∧fv 4 fr=.ptr 64 0 0 1∧fv 5 fr=.ptr 672 0 0 1∧fv 6 fr=.ptr 704 0 0 1∧fv 7 fr=.ptr 4224 0 0 1∧lk 4224 hp=some ⟨160,4,[cI u]⟩∧lk 704 hp=some ⟨160,4,[cI py]⟩∧lk 672 hp=some ⟨160,4,[cI px]⟩∧lk 64 hp=some ⟨208,12,[cV zI zI zI]⟩∧lk 32 hp=some ⟨208,12,[cV x' y' z']⟩∧lk 0 hp=some ⟨208,12,[cV x y z]⟩)→G fr hp:=by
      rintro fr hp ⟨q0,q1,q2,q3,q4,q5,q6,q7,q8,q9,q10,q11⟩
      exact hG _ _ fc
     simp [go_sem,v1,v2',v3,vl,v1b,v2b,v3b,vlb,l2,l4,aa l2,aa l4,z4,be]
     repeat' first | exact hW _ _ ⟨rfl,rfl,rfl,rfl,rfl,rfl,rfl,rfl,rfl,rfl,rfl,rfl⟩ | (refine hW _ _ ?_;simp [fv,lk];done) | refine ab f3 (ah _ _) ?_ | refine ab f4 (ah _ _) ?_ | apply And.intro | simp [go_sem,v1,v2',v3,vl,v1b,v2b,v3b,vlb,l2,l4,aa l2,aa l4,z4,be]
    case hq =>
     simp [go_sem]
     refine bD [0,1,2,3,5] [4,6,7,8] [0,1,2,3,5] (.alt (.step 4 [] true (.alt (.step 6 [] false (.step 7 [] false (.step 8 [] false .done))) (.step 7 [] true (.step 6 [] false (.step 8 [] false .done))))) (.step 7 [] true (.step 4 [] true (.step 6 [] false (.step 8 [] false .done))))) ⟨[(2,.ptr 0 0 0 1),(3,.ptr 32 0 0 1),(4,.ptr 64 0 0 1),(5,.ptr 672 0 0 1),(6,.ptr 704 0 0 1),(7,.ptr 4224 0 0 1),(8,.ptr 9224 0 0 1)],[(9224,⟨160,4,[cI v]⟩),(4224,⟨160,4,[cI u]⟩),(704,⟨160,4,[cI py]⟩),(672,⟨160,4,[cI px]⟩),(64,⟨208,12,[cV zI zI zI]⟩),(32,⟨208,12,[cV x' y' z']⟩),(0,⟨208,12,[cV x y z]⟩)],20000⟩ (k:=9) ?h3 ?hq
     case h3 =>
      intro G hG
      have hW:∀ (fr:Fr) (hp:Hp),(fv 2 fr=.ptr 0 0 0 1∧fv 3 fr=.ptr 32 0 0 1∧fv 4 fr=.ptr 64 0 0 1∧fv 5 fr=.ptr 672 0 0 1∧fv 6 fr=.ptr 704 0 0 1∧fv 7 fr=.ptr 4224 0 0 1∧fv 8 fr=.ptr 9224 0 0 1∧lk 9224 hp=some ⟨160,4,[cI v]⟩∧lk 4224 hp=some ⟨160,4,[cI u]⟩∧lk 704 hp=some ⟨160,4,[cI py]⟩∧lk 672 hp=some ⟨160,4,[cI px]⟩∧lk 64 hp=some ⟨208,12,[cV zI zI zI]⟩∧lk 32 hp=some ⟨208,12,[cV x' y' z']⟩∧lk 0 hp=some ⟨208,12,[cV x y z]⟩)→G fr hp:=by
       rintro fr hp ⟨q0,q1,q2,q3,q4,q5,q6,q7,q8,q9,q10,q11,q12,q13⟩
       exact hG _ _ fc
      simp [go_sem,v1,v2',v3,vl,v1b,v2b,v3b,vlb,l1,l6,aa l1,aa l6,z4,be]
      repeat' first | exact hW _ _ ⟨rfl,rfl,rfl,rfl,rfl,rfl,rfl,rfl,rfl,rfl,rfl,rfl,rfl,rfl⟩ | (refine hW _ _ ?_;simp [fv,lk];done) | refine ab f5 (ah _ _) ?_ | refine ab f6 (ah _ _) ?_ | apply And.intro | simp [go_sem,v1,v2',v3,vl,v1b,v2b,v3b,vlb,l1,l6,aa l1,aa l6,z4,be]
     case hq =>
      simp [go_sem,l6,l4,aa l6,aa l4,aW,iz,q3,q4,aa (l:=zI) (n:=4) rfl,mP,vl,vt]
      refine ab f22 (dC _ _ _) ?_
      simp [go_sem,ul,ut,wl,wd,ak]
      exact eP rfl
  ·refine ⟨zI,zI,zI,cG,cG,cG,fun hj hj'=>⟨Gi,?_⟩,?_⟩
   ·rw [tT]
    exact ((main hj hj').2.2 (hv0.2 q3) (fun h=>q4 (hu0.1 h))).symm
   refine aS Tryz.func185 Tryz.ntmps185 (rs:=[.cell 4 208]) (mU _ _ _ _ _ _) ?_
   simp [go_sem,vl,vt,vlb,vtb,v3,v3b,aW,iz,hzl,hzl',q1,q2]
   refine bD [0,1,2,3,5,6,7,8] [4,9,10,11,12,13] [0,1,2,3,5,6,7,8] (.alt (.step 4 [] true (.alt (.step 9 [] false (.alt (.step 10 [] false (.step 11 [] false (.step 12 [] false (.step 13 [] false .done)))) (.step 11 [] false (.step 10 [] false (.step 12 [] false (.step 13 [] false .done)))))) (.alt (.step 10 [] true (.alt (.step 9 [] false (.step 11 [] false (.step 12 [] false (.step 13 [] false .done)))) (.step 11 [] true (.step 9 [] false (.step 12 [] false (.step 13 [] false .done)))))) (.step 11 [] true (.alt (.step 9 [] false (.step 10 [] false (.step 12 [] false (.step 13 [] false .done)))) (.step 10 [] true (.step 9 [] false (.step 12 [] false (.step 13 [] false .done))))))))) (.alt (.step 10 [] true (.alt (.step 4 [] true (.alt (.step 9 [] false (.step 11 [] false (.step 12 [] false (.step 13 [] false .done)))) (.step 11 [] true (.step 9 [] false (.step 12 [] false (.step 13 [] false .done)))))) (.step 11 [] true (.step 4 [] true (.step 9 [] false (.step 12 [] false (.step 13 [] false .done))))))) (.step 11 [] true (.alt (.step 4 [] true (.alt (.step 9 [] false (.step 10 [] false (.step 12 [] false (.step 13 [] false .done)))) (.step 10 [] true (.step 9 [] false (.step 12 [] false (.step 13 [] false .done)))))) (.step 10 [] true (.step 4 [] true (.step 9 [] false (.step 12 [] false (.step 13 [] false .done))))))))) ⟨[(2,.ptr 0 0 0 1),(3,.ptr 32 0 0 1),(4,.ptr 64 0 0 1),(5,.ptr 672 0 0 1),(6,.ptr 704 0 0 1)],[(704,⟨160,4,[cI py]⟩),(672,⟨160,4,[cI px]⟩),(64,⟨208,12,[cV zI zI zI]⟩),(32,⟨208,12,[cV x' y' z']⟩),(0,⟨208,12,[cV x y z]⟩)],4000⟩ (k:=14) ?h3 ?hq
   case h3 =>
    intro G hG
    have hW:∀ (fr:Fr) (hp:Hp),(fv 2 fr=.ptr 0 0 0 1∧fv 3 fr=.ptr 32 0 0 1∧fv 4 fr=.ptr 64 0 0 1∧fv 5 fr=.ptr 672 0 0 1∧fv 6 fr=.ptr 704 0 0 1∧lk 704 hp=some ⟨160,4,[cI py]⟩∧lk 672 hp=some ⟨160,4,[cI px]⟩∧lk 64 hp=some ⟨208,12,[cV zI zI zI]⟩∧lk 32 hp=some ⟨208,12,[cV x' y' z']⟩∧lk 0 hp=some ⟨208,12,[cV x y z]⟩)→G fr hp:=by
     rintro fr hp ⟨q0,q1,q2,q3,q4,q5,q6,q7,q8,q9⟩
     exact hG _ _ fc
    simp [go_sem,v1,v2',v3,vl,v1b,v2b,v3b,vlb,l1,l2,aa l1,aa l2,z4,be]
    repeat' first | exact hW _ _ ⟨rfl,rfl,rfl,rfl,rfl,rfl,rfl,rfl,rfl,rfl⟩ | (refine hW _ _ ?_;simp [fv,lk];done) | refine ab f1 (ah _ _) ?_ | refine ab f2 (ah _ _) ?_ | apply And.intro | simp [go_sem,v1,v2',v3,vl,v1b,v2b,v3b,vlb,l1,l2,aa l1,aa l2,z4,be]
   case hq =>
    simp [go_sem]
    refine bD [0,1,2,3,5] [4,6,7,8] [0,1,2,3,5] (.alt (.step 4 [] true (.alt (.step 6 [] false (.step 7 [] false (.step 8 [] false .done))) (.step 7 [] true (.step 6 [] false (.step 8 [] false .done))))) (.step 7 [] true (.step 4 [] true (.step 6 [] false (.step 8 [] false .done))))) ⟨[(2,.ptr 0 0 0 1),(3,.ptr 32 0 0 1),(4,.ptr 64 0 0 1),(5,.ptr 672 0 0 1),(6,.ptr 704 0 0 1),(7,.ptr 4224 0 0 1)],[(4224,⟨160,4,[cI u]⟩),(704,⟨160,4,[cI py]⟩),(672,⟨160,4,[cI px]⟩),(64,⟨208,12,[cV zI zI zI]⟩),(32,⟨208,12,[cV x' y' z']⟩),(0,⟨208,12,[cV x y z]⟩)],9000⟩ (k:=9) ?h3 ?hq
    case h3 =>
     intro G hG
     have hW:∀ (fr:Fr) (hp:Hp),(fv 2 fr=.ptr 0 0 0 1∧fv 3 fr=.ptr 32 0 0 1∧fv 4 fr=.ptr 64 0 0 1∧fv 5 fr=.ptr 672 0 0 1∧fv 6 fr=.ptr 704 0 0 1∧fv 7 fr=.ptr 4224 0 0 1∧lk 4224 hp=some ⟨160,4,[cI u]⟩∧lk 704 hp=some ⟨160,4,[cI py]⟩∧lk 672 hp=some ⟨160,4,[cI px]⟩∧lk 64 hp=some ⟨208,12,[cV zI zI zI]⟩∧lk 32 hp=some ⟨208,12,[cV x' y' z']⟩∧lk 0 hp=some ⟨208,12,[cV x y z]⟩)→G fr hp:=by
      rintro fr hp ⟨q0,q1,q2,q3,q4,q5,q6,q7,q8,q9,q10,q11⟩
      exact hG _ _ fc
     simp [go_sem,v1,v2',v3,vl,v1b,v2b,v3b,vlb,l2,l4,aa l2,aa l4,z4,be]
     repeat' first | exact hW _ _ ⟨rfl,rfl,rfl,rfl,rfl,rfl,rfl,rfl,rfl,rfl,rfl,rfl⟩ | (refine hW _ _ ?_;simp [fv,lk];done) | refine ab f3 (ah _ _) ?_ | refine ab f4 (ah _ _) ?_ | apply And.intro | simp [go_sem,v1,v2',v3,vl,v1b,v2b,v3b,vlb,l2,l4,aa l2,aa l4,z4,be]
    case hq =>
     simp [go_sem]
     refine bD [0,1,2,3,5] [4,6,7,8] [0,1,2,3,5] (.alt (.step 4 [] true (.alt (.step 6 [] false (.step 7 [] false (.step 8 [] false .done))) (.step 7 [] true (.step 6 [] false (.step 8 [] false .done))))) (.step 7 [] true (.step 4 [] true (.step 6 [] false (.step 8 [] false .done))))) ⟨[(2,.ptr 0 0 0 1),(3,.ptr 32 0 0 1),(4,.ptr 64 0 0 1),(5,.ptr 672 0 0 1),(6,.ptr 704 0 0 1),(7,.ptr 4224 0 0 1),(8,.ptr 9224 0 0 1)],[(9224,⟨160,4,[cI v]⟩),(4224,⟨160,4,[cI u]⟩),(704,⟨160,4,[cI py]⟩),(672,⟨160,4,[cI px]⟩),(64,⟨208,12,[cV zI zI zI]⟩),(32,⟨208,12,[cV x' y' z']⟩),(0,⟨208,12,[cV x y z]⟩)],20000⟩ (k:=9) ?h3 ?hq
     case h3 =>
      intro G hG
      have hW:∀ (fr:Fr) (hp:Hp),(fv 2 fr=.ptr 0 0 0 1∧fv 3 fr=.ptr 32 0 0 1∧fv 4 fr=.ptr 64 0 0 1∧fv 5 fr=.ptr 672 0 0 1∧fv 6 fr=.ptr 704 0 0 1∧fv 7 fr=.ptr 4224 0 0 1∧fv 8 fr=.ptr 9224 0 0 1∧lk 9224 hp=some ⟨160,4,[cI v]⟩∧lk 4224 hp=some ⟨160,4,[cI u]⟩∧lk 704 hp=some ⟨160,4,[cI py]⟩∧lk 672 hp=some ⟨160,4,[cI px]⟩∧lk 64 hp=some ⟨208,12,[cV zI zI zI]⟩∧lk 32 hp=some ⟨208,12,[cV x' y' z']⟩∧lk 0 hp=some ⟨208,12,[cV x y z]⟩)→G fr hp:=by
       rintro fr hp ⟨q0,q1,q2,q3,q4,q5,q6,q7,q8,q9,q10,q11,q12,q13⟩
       exact hG _ _ fc
      simp [go_sem,v1,v2',v3,vl,v1b,v2b,v3b,vlb,l1,l6,aa l1,aa l6,z4,be]
      repeat' first | exact hW _ _ ⟨rfl,rfl,rfl,rfl,rfl,rfl,rfl,rfl,rfl,rfl,rfl,rfl,rfl,rfl⟩ | (refine hW _ _ ?_;simp [fv,lk];done) | refine ab f5 (ah _ _) ?_ | refine ab f6 (ah _ _) ?_ | apply And.intro | simp [go_sem,v1,v2',v3,vl,v1b,v2b,v3b,vlb,l1,l6,aa l1,aa l6,z4,be]
     case hq =>
      simp [go_sem,l6,l4,aa l6,aa l4,aW,iz,q3,q4,aa (l:=zI) (n:=4) rfl,mP,wl,wd,ak]
      exact eP (x:=zI) (y:=zI) (z:=zI) rfl
 ·refine ⟨X,Y,Z,h20,h19,h21,fun hj hj'=>?_,?_⟩
  ·obtain ⟨_,e⟩:=(main hj hj').1 (fun h=>q3 (hv0.1 h))
   have eZ:FV Z=FV v*FV v*FV v*(FV z*FV z'):=by rw [g21.2,g9.2,g8.2,g7.2]
   have eX:FV X=FV v*(FV u*FV u*(FV z*FV z') - FV v*FV v*FV v - (FV v*FV v*FV px+FV v*FV v*FV px)):=by rw [g20.2,g15.2,g13.2,g12.2,g11.2,g14.2,g10.2,g9.2,g8.2,g7.2]
   have eY:FV Y=FV u*(FV v*FV v*FV px - (FV u*FV u*(FV z*FV z') - FV v*FV v*FV v - (FV v*FV v*FV px+FV v*FV v*FV px))) - FV v*FV v*FV v*FV py:=by rw [g19.2,g17.2,g16.2,g15.2,g13.2,g12.2,g11.2,g14.2,g10.2,g18.2,g9.2,g8.2,g7.2]
   have e2:FrV X Y Z=sum fd (FrV x y z) (FrV x' y' z'):=by
    show fr fd (FV X) (FV Y) (FV Z)=_
    rw [eX,eY,eZ]
    exact e
   exact ⟨⟨⟨g20.1,g19.1,g21.1⟩,by rw [e2];exact iI fd hj.2 hj'.2⟩,e2⟩
  refine aS Tryz.func185 Tryz.ntmps185 (rs:=[.cell 4 208]) (mU _ _ _ _ _ _) ?_
  simp [go_sem,vl,vt,vlb,vtb,v3,v3b,aW,iz,hzl,hzl',q1,q2]
  refine bD [0,1,2,3,5,6,7,8] [4,9,10,11,12,13] [0,1,2,3,5,6,7,8] (.alt (.step 4 [] true (.alt (.step 9 [] false (.alt (.step 10 [] false (.step 11 [] false (.step 12 [] false (.step 13 [] false .done)))) (.step 11 [] false (.step 10 [] false (.step 12 [] false (.step 13 [] false .done)))))) (.alt (.step 10 [] true (.alt (.step 9 [] false (.step 11 [] false (.step 12 [] false (.step 13 [] false .done)))) (.step 11 [] true (.step 9 [] false (.step 12 [] false (.step 13 [] false .done)))))) (.step 11 [] true (.alt (.step 9 [] false (.step 10 [] false (.step 12 [] false (.step 13 [] false .done)))) (.step 10 [] true (.step 9 [] false (.step 12 [] false (.step 13 [] false .done))))))))) (.alt (.step 10 [] true (.alt (.step 4 [] true (.alt (.step 9 [] false (.step 11 [] false (.step 12 [] false (.step 13 [] false .done)))) (.step 11 [] true (.step 9 [] false (.step 12 [] false (.step 13 [] false .done)))))) (.step 11 [] true (.step 4 [] true (.step 9 [] false (.step 12 [] false (.step 13 [] false .done))))))) (.step 11 [] true (.alt (.step 4 [] true (.alt (.step 9 [] false (.step 10 [] false (.step 12 [] false (.step 13 [] false .done)))) (.step 10 [] true (.step 9 [] false (.step 12 [] false (.step 13 [] false .done)))))) (.step 10 [] true (.step 4 [] true (.step 9 [] false (.step 12 [] false (.step 13 [] false .done))))))))) ⟨[(2,.ptr 0 0 0 1),(3,.ptr 32 0 0 1),(4,.ptr 64 0 0 1),(5,.ptr 672 0 0 1),(6,.ptr 704 0 0 1)],[(704,⟨160,4,[cI py]⟩),(672,⟨160,4,[cI px]⟩),(64,⟨208,12,[cV zI zI zI]⟩),(32,⟨208,12,[cV x' y' z']⟩),(0,⟨208,12,[cV x y z]⟩)],4000⟩ (k:=14) ?h3 ?hq
  case h3 =>
   intro G hG
   have hW:∀ (fr:Fr) (hp:Hp),(fv 2 fr=.ptr 0 0 0 1∧fv 3 fr=.ptr 32 0 0 1∧fv 4 fr=.ptr 64 0 0 1∧fv 5 fr=.ptr 672 0 0 1∧fv 6 fr=.ptr 704 0 0 1∧lk 704 hp=some ⟨160,4,[cI py]⟩∧lk 672 hp=some ⟨160,4,[cI px]⟩∧lk 64 hp=some ⟨208,12,[cV zI zI zI]⟩∧lk 32 hp=some ⟨208,12,[cV x' y' z']⟩∧lk 0 hp=some ⟨208,12,[cV x y z]⟩)→G fr hp:=by
    rintro fr hp ⟨q0,q1,q2,q3,q4,q5,q6,q7,q8,q9⟩
    exact hG _ _ fc
   simp [go_sem,v1,v2',v3,vl,v1b,v2b,v3b,vlb,l1,l2,aa l1,aa l2,z4,be]
   repeat' first | exact hW _ _ ⟨rfl,rfl,rfl,rfl,rfl,rfl,rfl,rfl,rfl,rfl⟩ | (refine hW _ _ ?_;simp [fv,lk];done) | refine ab f1 (ah _ _) ?_ | refine ab f2 (ah _ _) ?_ | apply And.intro | simp [go_sem,v1,v2',v3,vl,v1b,v2b,v3b,vlb,l1,l2,aa l1,aa l2,z4,be]
  case hq =>
   simp [go_sem]
   refine bD [0,1,2,3,5] [4,6,7,8] [0,1,2,3,5] (.alt (.step 4 [] true (.alt (.step 6 [] false (.step 7 [] false (.step 8 [] false .done))) (.step 7 [] true (.step 6 [] false (.step 8 [] false .done))))) (.step 7 [] true (.step 4 [] true (.step 6 [] false (.step 8 [] false .done))))) ⟨[(2,.ptr 0 0 0 1),(3,.ptr 32 0 0 1),(4,.ptr 64 0 0 1),(5,.ptr 672 0 0 1),(6,.ptr 704 0 0 1),(7,.ptr 4224 0 0 1)],[(4224,⟨160,4,[cI u]⟩),(704,⟨160,4,[cI py]⟩),(672,⟨160,4,[cI px]⟩),(64,⟨208,12,[cV zI zI zI]⟩),(32,⟨208,12,[cV x' y' z']⟩),(0,⟨208,12,[cV x y z]⟩)],9000⟩ (k:=9) ?h3 ?hq
   case h3 =>
    intro G hG
    have hW:∀ (fr:Fr) (hp:Hp),(fv 2 fr=.ptr 0 0 0 1∧fv 3 fr=.ptr 32 0 0 1∧fv 4 fr=.ptr 64 0 0 1∧fv 5 fr=.ptr 672 0 0 1∧fv 6 fr=.ptr 704 0 0 1∧fv 7 fr=.ptr 4224 0 0 1∧lk 4224 hp=some ⟨160,4,[cI u]⟩∧lk 704 hp=some ⟨160,4,[cI py]⟩∧lk 672 hp=some ⟨160,4,[cI px]⟩∧lk 64 hp=some ⟨208,12,[cV zI zI zI]⟩∧lk 32 hp=some ⟨208,12,[cV x' y' z']⟩∧lk 0 hp=some ⟨208,12,[cV x y z]⟩)→G fr hp:=by
     rintro fr hp ⟨q0,q1,q2,q3,q4,q5,q6,q7,q8,q9,q10,q11⟩
     exact hG _ _ fc
    simp [go_sem,v1,v2',v3,vl,v1b,v2b,v3b,vlb,l2,l4,aa l2,aa l4,z4,be]
    repeat' first | exact hW _ _ ⟨rfl,rfl,rfl,rfl,rfl,rfl,rfl,rfl,rfl,rfl,rfl,rfl⟩ | (refine hW _ _ ?_;simp [fv,lk];done) | refine ab f3 (ah _ _) ?_ | refine ab f4 (ah _ _) ?_ | apply And.intro | simp [go_sem,v1,v2',v3,vl,v1b,v2b,v3b,vlb,l2,l4,aa l2,aa l4,z4,be]
   case hq =>
    simp [go_sem]
    refine bD [0,1,2,3,5] [4,6,7,8] [0,1,2,3,5] (.alt (.step 4 [] true (.alt (.step 6 [] false (.step 7 [] false (.step 8 [] false .done))) (.step 7 [] true (.step 6 [] false (.step 8 [] false .done))))) (.step 7 [] true (.step 4 [] true (.step 6 [] false (.step 8 [] false .done))))) ⟨[(2,.ptr 0 0 0 1),(3,.ptr 32 0 0 1),(4,.ptr 64 0 0 1),(5,.ptr 672 0 0 1),(6,.ptr 704 0 0 1),(7,.ptr 4224 0 0 1),(8,.ptr 9224 0 0 1)],[(9224,⟨160,4,[cI v]⟩),(4224,⟨160,4,[cI u]⟩),(704,⟨160,4,[cI py]⟩),(672,⟨160,4,[cI px]⟩),(64,⟨208,12,[cV zI zI zI]⟩),(32,⟨208,12,[cV x' y' z']⟩),(0,⟨208,12,[cV x y z]⟩)],20000⟩ (k:=9) ?h3 ?hq
    case h3 =>
     intro G hG
     have hW:∀ (fr:Fr) (hp:Hp),(fv 2 fr=.ptr 0 0 0 1∧fv 3 fr=.ptr 32 0 0 1∧fv 4 fr=.ptr 64 0 0 1∧fv 5 fr=.ptr 672 0 0 1∧fv 6 fr=.ptr 704 0 0 1∧fv 7 fr=.ptr 4224 0 0 1∧fv 8 fr=.ptr 9224 0 0 1∧lk 9224 hp=some ⟨160,4,[cI v]⟩∧lk 4224 hp=some ⟨160,4,[cI u]⟩∧lk 704 hp=some ⟨160,4,[cI py]⟩∧lk 672 hp=some ⟨160,4,[cI px]⟩∧lk 64 hp=some ⟨208,12,[cV zI zI zI]⟩∧lk 32 hp=some ⟨208,12,[cV x' y' z']⟩∧lk 0 hp=some ⟨208,12,[cV x y z]⟩)→G fr hp:=by
      rintro fr hp ⟨q0,q1,q2,q3,q4,q5,q6,q7,q8,q9,q10,q11,q12,q13⟩
      exact hG _ _ fc
     simp [go_sem,v1,v2',v3,vl,v1b,v2b,v3b,vlb,l1,l6,aa l1,aa l6,z4,be]
     repeat' first | exact hW _ _ ⟨rfl,rfl,rfl,rfl,rfl,rfl,rfl,rfl,rfl,rfl,rfl,rfl,rfl,rfl⟩ | (refine hW _ _ ?_;simp [fv,lk];done) | refine ab f5 (ah _ _) ?_ | refine ab f6 (ah _ _) ?_ | apply And.intro | simp [go_sem,v1,v2',v3,vl,v1b,v2b,v3b,vlb,l1,l6,aa l1,aa l6,z4,be]
    case hq =>
     simp [go_sem,l6,aa l6,aW,iz,q3,vl,vlb,v3,v3b]
     refine ab f7 (ah _ _) ?_
     simp [go_sem,l7,aa l7,z4,l6,aa l6]
     refine ab f8 (ah _ _) ?_
     simp [go_sem,l8,aa l8,z4,l6,aa l6]
     refine ab f9 (ah _ _) ?_
     simp [go_sem,l9,aa l9,z4,l8,aa l8,l1,aa l1]
     refine ab f10 (ah _ _) ?_
     simp [go_sem,l10,aa l10,z4]
     refine bD [0,1,3,5,7,8] [2,4,6,9,10,11,12] [0,1,3,5,7,8] (.alt (.step 2 [] true (.alt (.step 4 [] true (.alt (.step 6 [] true (.alt (.step 9 [] false (.alt (.step 10 [] false (.step 11 [] false (.step 12 [] false .done))) (.step 11 [] false (.step 10 [] false (.step 12 [] false .done))))) (.step 11 [] true (.step 9 [] false (.step 10 [] false (.step 12 [] false .done)))))) (.step 11 [] true (.step 6 [] true (.step 9 [] false (.step 10 [] false (.step 12 [] false .done))))))) (.step 11 [] true (.step 4 [] true (.step 6 [] true (.step 9 [] false (.step 10 [] false (.step 12 [] false .done)))))))) (.step 11 [] true (.step 2 [] true (.step 4 [] true (.step 6 [] true (.step 9 [] false (.step 10 [] false (.step 12 [] false .done)))))))) ⟨[(4,.ptr 64 0 0 1),(6,.ptr 704 0 0 1),(7,.ptr 4224 0 0 1),(8,.ptr 9224 0 0 1),(9,.ptr 20256 0 0 1),(11,.ptr 20576 0 0 1),(12,.ptr 20736 0 0 1),(13,.ptr 21152 0 0 1)],[(21152,⟨160,4,[cI a]⟩),(20736,⟨160,4,[cI r]⟩),(20576,⟨160,4,[cI v3w]⟩),(20256,⟨160,4,[cI zz]⟩),(9224,⟨160,4,[cI v]⟩),(4224,⟨160,4,[cI u]⟩),(704,⟨160,4,[cI py]⟩),(64,⟨208,12,[cV zI zI zI]⟩)],30000⟩ (k:=13) ?h3 ?hq
     case h3 =>
      intro G hG
      have hW:∀ (fr:Fr) (hp:Hp),(fv 4 fr=.ptr 64 0 0 1∧fv 6 fr=.ptr 704 0 0 1∧fv 7 fr=.ptr 4224 0 0 1∧fv 8 fr=.ptr 9224 0 0 1∧fv 9 fr=.ptr 20256 0 0 1∧fv 11 fr=.ptr 20576 0 0 1∧fv 12 fr=.ptr 20736 0 0 1∧fv 13 fr=.ptr 21152 0 0 1∧lk 21152 hp=some ⟨160,4,[cI a]⟩∧lk 20736 hp=some ⟨160,4,[cI r]⟩∧lk 20576 hp=some ⟨160,4,[cI v3w]⟩∧lk 20256 hp=some ⟨160,4,[cI zz]⟩∧lk 9224 hp=some ⟨160,4,[cI v]⟩∧lk 4224 hp=some ⟨160,4,[cI u]⟩∧lk 704 hp=some ⟨160,4,[cI py]⟩∧lk 64 hp=some ⟨208,12,[cV zI zI zI]⟩)→G fr hp:=by
       rintro fr hp ⟨q0,q1,q2,q3,q4,q5,q6,q7,q8,q9,q10,q11,q12,q13,q14,q15⟩
       exact hG _ _ fc
      simp [go_sem,l4,l7,l9,l10,l15,aa l4,aa l7,aa l9,aa l10,aa l15,z4,be]
      repeat' first | exact hW _ _ ⟨rfl,rfl,rfl,rfl,rfl,rfl,rfl,rfl,rfl,rfl,rfl,rfl,rfl,rfl,rfl,rfl⟩ | (refine hW _ _ ?_;simp [fv,lk];done) | refine ab f11 (ah _ _) ?_ | refine ab f12 (ah _ _) ?_ | refine ab f13 (ah _ _) ?_ | refine ab f14 (ah _ _) ?_ | refine ab f15 (ah _ _) ?_ | apply And.intro | simp [go_sem,l4,l7,l9,l10,l15,aa l4,aa l7,aa l9,aa l10,aa l15,z4,be]
     case hq =>
      simp [go_sem]
      refine bD [0,1,2,5,6] [3,4,7,8,9,10] [0,1,2,5,6] (.alt (.step 3 [] true (.alt (.step 4 [] true (.alt (.step 7 [] false (.alt (.step 8 [] false (.step 9 [] false (.step 10 [] false .done))) (.step 9 [] false (.step 8 [] false (.step 10 [] false .done))))) (.step 9 [] true (.step 7 [] false (.step 8 [] false (.step 10 [] false .done)))))) (.step 9 [] true (.step 4 [] true (.step 7 [] false (.step 8 [] false (.step 10 [] false .done))))))) (.step 9 [] true (.step 3 [] true (.step 4 [] true (.step 7 [] false (.step 8 [] false (.step 10 [] false .done))))))) ⟨[(4,.ptr 64 0 0 1),(8,.ptr 9224 0 0 1),(9,.ptr 20256 0 0 1),(11,.ptr 20576 0 0 1),(13,.ptr 21152 0 0 1),(14,.ptr 30288 0 0 1)],[(30288,⟨160,4,[cI Y]⟩),(21152,⟨160,4,[cI a]⟩),(20576,⟨160,4,[cI v3w]⟩),(20256,⟨160,4,[cI zz]⟩),(9224,⟨160,4,[cI v]⟩),(64,⟨208,12,[cV zI zI zI]⟩)],40000⟩ (k:=11) ?h3 ?hq
      case h3 =>
       intro G hG
       have hW:∀ (fr:Fr) (hp:Hp),(fv 4 fr=.ptr 64 0 0 1∧fv 8 fr=.ptr 9224 0 0 1∧fv 9 fr=.ptr 20256 0 0 1∧fv 11 fr=.ptr 20576 0 0 1∧fv 13 fr=.ptr 21152 0 0 1∧fv 14 fr=.ptr 30288 0 0 1∧lk 30288 hp=some ⟨160,4,[cI Y]⟩∧lk 21152 hp=some ⟨160,4,[cI a]⟩∧lk 20576 hp=some ⟨160,4,[cI v3w]⟩∧lk 20256 hp=some ⟨160,4,[cI zz]⟩∧lk 9224 hp=some ⟨160,4,[cI v]⟩∧lk 64 hp=some ⟨208,12,[cV zI zI zI]⟩)→G fr hp:=by
        rintro fr hp ⟨q0,q1,q2,q3,q4,q5,q6,q7,q8,q9,q10,q11⟩
        exact hG _ _ fc
       simp [go_sem,l4,l10,l15,l9,l2,l19,aa l4,aa l10,aa l15,aa l9,aa l2,aa l19,z4,be]
       repeat' first | exact hW _ _ ⟨rfl,rfl,rfl,rfl,rfl,rfl,rfl,rfl,rfl,rfl,rfl,rfl⟩ | (refine hW _ _ ?_;simp [fv,lk];done) | refine ab f16 (ah _ _) ?_ | refine ab f17 (ah _ _) ?_ | refine ab f18 (ah _ _) ?_ | refine ab f19 (ah _ _) ?_ | apply And.intro | simp [go_sem,l4,l10,l15,l9,l2,l19,aa l4,aa l10,aa l15,aa l9,aa l2,aa l19,z4,be]
      case hq =>
       simp [go_sem]
       refine bk [0,1,3,4,5] [(2,[]),(6,[7]),(8,[])] 2 (k:=9) ?_
       intro G hG
       simp [go_sem,l6,l15,l19,l9,l7,aa l6,aa l15,aa l19,aa l9,aa l7]
       refine ab f20 (ah _ _) ?_
       simp [go_sem,l9,l7,l19,aa l9,aa l7,aa l19]
       refine ab f21 (ah _ _) ?_
       have ev:cI X ++ (cI Y ++ cI Z)=cV X Y Z:=rfl
       have xl:=bq l20 l19 l21
       have xt:=aZ l20 l19 l21
       simp [go_sem,l20,l19,l21,wl,wd,O0 l20 l19,IA l20 l19,ev,xl,be]
       refine hG _ _ ?_
       simp [go_sem,xl,xt,ak]
       exact eP rfl
abbrev mV:=List Int × List Int × List Int
def wC (s:mV):Prop:=Wn 4 s.1∧Wn 4 s.2.1∧Wn 4 s.2.2
def kz (s:mV):Prop:=BL s.1 s.2.1 s.2.2
noncomputable def FrV3 (s:mV):Pt pP:=FrV s.1 s.2.1 s.2.2
theorem QE:∃ D:mV→mV,∀ s,wC s→wC (D s)∧(kz s→kz (D s)∧FrV3 (D s)=sum fd (FrV3 s) (FrV3 s))∧aq Tryz.prog 183 [.agg (cV s.1 s.2.1 s.2.2)] (fun r=>r=.agg (cV (D s).1 (D s).2.1 (D s).2.2)) :=
 pick (α:=mV) (β:=mV) (A:=wC) (B:=fun s t=>wC t∧(kz s→kz t∧FrV3 t=sum fd (FrV3 s) (FrV3 s))∧aq Tryz.prog 183 [.agg (cV s.1 s.2.1 s.2.2)] (fun r=>r=.agg (cV t.1 t.2.1 t.2.2))) (fun s hs=>by
  obtain ⟨u,v,w,h1,h2,h3,h4,h5⟩:=Gj s.1 s.2.1 s.2.2 hs.1 hs.2.1 hs.2.2
  exact ⟨(u,v,w),⟨h1,h2,h3⟩,h4,h5⟩)
theorem QF:∃ D:mV × mV→mV,∀ s,(wC s.1∧wC s.2)→wC (D s)∧(kz s.1→kz s.2→kz (D s)∧FrV3 (D s)=sum fd (FrV3 s.1) (FrV3 s.2))∧aq Tryz.prog 185 [.agg (cV s.1.1 s.1.2.1 s.1.2.2),.agg (cV s.2.1 s.2.2.1 s.2.2.2)] (fun r=>r=.agg (cV (D s).1 (D s).2.1 (D s).2.2)) :=
 pick (α:=mV × mV) (β:=mV) (A:=fun s=>wC s.1∧wC s.2) (B:=fun s t=>wC t∧(kz s.1→kz s.2→kz t∧FrV3 t=sum fd (FrV3 s.1) (FrV3 s.2))∧aq Tryz.prog 185 [.agg (cV s.1.1 s.1.2.1 s.1.2.2),.agg (cV s.2.1 s.2.2.1 s.2.2.2)] (fun r=>r=.agg (cV t.1 t.2.1 t.2.2))) (fun s hs=>by
  obtain ⟨u,v,w,h1,h2,h3,h4,h5⟩:=OI s.1.1 s.1.2.1 s.1.2.2 s.2.1 s.2.2.1 s.2.2.2 hs.1.1 hs.1.2.1 hs.1.2.2 hs.2.1 hs.2.2.1 hs.2.2.2
  exact ⟨(u,v,w),⟨h1,h2,h3⟩,h4,h5⟩)
def kj (D:mV→mV) (A:mV × mV→mV) (k:List Int) (one:mV) (n j:Nat) (s:mV):mV:=if sC k (n - 1 - j)=1 then A (D s,one) else D s
theorem BM {D:mV→mV} {A:mV × mV→mV} (hD:∀ s,wC s→wC (D s)∧(kz s→kz (D s)∧FrV3 (D s)=sum fd (FrV3 s) (FrV3 s))) (hA:∀ s:mV × mV,(wC s.1∧wC s.2)→wC (A s)∧(kz s.1→kz s.2→kz (A s)∧FrV3 (A s)=sum fd (FrV3 s.1) (FrV3 s.2)))
  {k:List Int} (hk:Wn 4 k) {one:mV} (h1:wC one) (j1:kz one) {n:Nat} (hn:(V k).toNat<2 ^ n):∀ j,j≤n→wC (bd (kj D A k one n) (zI,zI,zI) j)∧kz (bd (kj D A k one n) (zI,zI,zI) j)∧FrV3 (bd (kj D A k one n) (zI,zI,zI) j)=mp fd ((V k).toNat / 2 ^ (n - j)) (FrV3 one)
 | 0,_=>by
  refine ⟨⟨cG,cG,cG⟩,Gi,?_⟩
  rw [Nat.sub_zero,Nat.div_eq_of_lt hn]
  exact tT zI zI
 | j+1,hj=>by
  obtain ⟨i1,i2,i3⟩:=BM hD hA hk h1 j1 hn j (by omega)
  rw [bd]
  generalize bd (kj D A k one n) (zI,zI,zI) j=s at *
  obtain ⟨d1,d2⟩:=hD s i1
  obtain ⟨d3,d4⟩:=d2 i2
  obtain ⟨a1,a2⟩:=hA (D s,one) ⟨d1,h1⟩
  obtain ⟨a3,a4⟩:=a2 d3 j1
  have e:n - j=(n - 1 - j)+1:=by omega
  have e2:n - (j+1)=n - 1 - j:=by omega
  have h3:(V k).toNat / 2 ^ (n - j)=(V k).toNat / 2 ^ (n - 1 - j) / 2:=by rw [e,Nat.pow_succ,← Nat.div_div_eq_div_mul]
  have hb:sC k (n - 1 - j)=(V k).toNat / 2 ^ (n - 1 - j) % 2:=rfl
  rw [h3] at i3
  unfold kj
  rw [e2,hb]
  generalize (V k).toNat / 2 ^ (n - 1 - j)=N at *
  have ho:fC (FrV3 one):=j1.2
  have sq:FrV3 (D s)=mp fd (2*(N / 2)) (FrV3 one):=by rw [d4,i3,vJ fd ho]
  by_cases h5:N % 2=1
  ·rw [if_pos h5]
   refine ⟨a1,a3,?_⟩
   rw [a4]
   show sum fd (FrV3 (D s)) (FrV3 one)=_
   have hN:N=2*(N / 2)+1:=by omega
   rw [sq]
   have hm:=vI fd ho (2*(N / 2)) 1
   rw [Fs fd ho] at hm
   rw [← hm,← hN]
  ·rw [if_neg h5]
   refine ⟨d1,d3,?_⟩
   rw [sq]
   congr 1
   omega
theorem IU (x y:List Int):FrV x y dm=some (FV x,FV y):=by
 show fr fd (FV x) (FV y) (FV dm)=_
 rw [FM]
 exact FD fd yv (by generalize FV x=a;grobner) (by generalize FV y=a;grobner)
theorem BN {x y:List Int} (h:dB x y false):BL x y dm∧FrV x y dm=PV x y false:=by
 have e:FrV x y dm=PV x y false:=IU x y
 have ho:=gZ h
 rcases h with ⟨h,_⟩ | ⟨_,h1,h2,_⟩
 ·cases h
 ·exact ⟨⟨⟨h1,h2,by rw [tJ];decide⟩,by rw [e];exact ho⟩,e⟩
theorem wk (k x y:List Int) (c:Bool):∀ v,v ∈ [AV.agg (cI k),AV.agg (cP x y c)]→v.deep:=by
 intro v hv;simp at hv;rcases hv with rfl | rfl
 ·exact dY _
 ·exact kf _ _ _
theorem OJ (k x y:List Int) (c:Bool) (hk:Wn 4 k) (hx:Wn 4 x) (hy:Wn 4 y) (hp:dB x y c):∃ (u v:List Int) (b:Bool),Wn 4 u∧Wn 4 v∧dB u v b∧PV u v b=mp fd (V k).toNat (PV x y c)∧aq Tryz.prog 131 [.agg (cI k),.agg (cP x y c)] (fun r=>r=.agg (cP u v b)):=by
 obtain ⟨D,hD⟩:=QE
 obtain ⟨A,hA⟩:=QF
 obtain ⟨x1,y1,b1,hx1,hy1,t1,f1⟩:=Gh x y c hx hy
 obtain ⟨rfl,rfl,rfl⟩:=t1.2.1 hp
 obtain ⟨n,hn,vn,f2⟩:=IOa k hk
 have hw0:IntKind.i64.wrap ((n:Int) - 1)=ve n:=iG n (by omega)
 have hkl:=hk.1
 have hxl:=hx.1
 have hyl:=hy.1
 have z4:List.drop 4 (cI zI)=[]:=ao rfl
 have pd:(cP zI zI false).drop 9=[]:=dG rfl rfl _
 have zl2:(cP zI zI false).length=9:=rfl
 have iz:bz .u64 [AV.d (.int .u64 0),AV.d (.int .u64 0),AV.d (.int .u64 0),AV.d (.int .u64 0)]=some zI:=aW zI
 have hol:dm.length=4:=rfl
 have pl:=aD hxl hyl b1
 have pt:=aH hxl hyl b1
 have pdr:=dG hxl hyl b1
 have pb:=kw hxl hyl b1
 have pg:=kZ hxl hyl b1
 have e1':(cP x1 y1 b1).take 4=cI x1:=yu hxl _
 have e2':((cP x1 y1 b1).drop 4).take 4=cI y1:=CH hxl hyl _
 obtain ⟨one,hone,jone,vone,e1e⟩:∃ one:mV,wC one∧kz one∧FrV3 one=PV x1 y1 b1∧one=(if b1 then (zI,zI,zI) else (x1,y1,dm)):=by
  cases b1
  ·exact ⟨(x1,y1,dm),⟨hx,hy,oR⟩,(BN hp).1,(BN hp).2,rfl⟩
  ·exact ⟨(zI,zI,zI),⟨cG,cG,cG⟩,Gi,tT zI zI,rfl⟩
 have hS:=BM (fun s hs=>⟨(hD s hs).1,(hD s hs).2.1⟩) (fun s hs=>⟨(hA s hs).1,(hA s hs).2.1⟩) hk hone jone vn
 obtain ⟨w1,w2,w3⟩:=hS n (Nat.le_refl n)
 rw [Nat.sub_self,Nat.pow_zero,Nat.div_one,vone] at w3
 obtain ⟨zi,hzi,vzi,f3⟩:=LZ _ w1.2.2
 obtain ⟨X,hX,vX,f4⟩:=dz _ zi w1.1 hzi
 obtain ⟨Y,hY,vY,f5⟩:=dz _ zi w1.2.1 hzi
 unfold W1 at f3
 unfold W2 at f4 f5
 have hpx:(bd (kj D A k one n) (zI,zI,zI) n).2.2 ≠ zI→dB X Y false∧PV X Y false=mp fd (V k).toNat (PV x1 y1 b1):=by
  intro h0
  have hz0:FV (bd (kj D A k one n) (zI,zI,zI) n).2.2 ≠ 0:=fun h=>h0 ((fg w1.2.2 w2.1.2.2).1 h)
  have e:PV X Y false=FrV3 (bd (kj D A k one n) (zI,zI,zI) n):=by
   show some (FV X,FV Y)=fr fd _ _ _
   unfold fr
   rw [if_neg hz0,vX.2,vY.2,vzi.2]
  have ho:fC (PV X Y false):=by rw [e];exact w2.2
  exact ⟨.inr ⟨rfl,vX.1,vY.1,ho⟩,by rw [e,w3]⟩
 have hp0:(bd (kj D A k one n) (zI,zI,zI) n).2.2=zI→none=mp fd (V k).toNat (PV x1 y1 b1):=by
  intro h0
  rw [← w3]
  show none=fr fd _ _ (FV (bd (kj D A k one n) (zI,zI,zI) n).2.2)
  rw [h0,mS]
  exact (Ix fd _ _).symm
 have key:∀ r:List Int × List Int × Bool,((bd (kj D A k one n) (zI,zI,zI) n).2.2=zI→r=(zI,zI,true))→((bd (kj D A k one n) (zI,zI,zI) n).2.2 ≠ zI→r=(X,Y,false))→aq Tryz.prog 131 [.agg (cI k),.agg (cP x1 y1 b1)] (fun q=>q=.agg (cP r.1 r.2.1 r.2.2)):=by
  intro r e0 e1
  refine aS Tryz.func131 Tryz.ntmps131 (rs:=[.cell 4 162]) (wk _ _ _ _) ?_
  simp [go_sem,hkl,aa hkl,pl,pt]
  refine ab f1 (bp _ _ _) ?_
  cases b1
  ·have hm:=Rc hxl hyl
   simp [go_sem,pl,pt,pdr,pb,pg,e1',e2',hxl,hyl,aa hxl,aa hyl]
   have hvl:=bq hxl hyl hol
   have hvt:=aZ hxl hyl hol
   have e1f:one=(x1,y1,dm):=e1e
   subst e1f
   simp [go_sem,hkl,aa hkl]
   refine ab f2 (ar _) ?_
   simp [go_sem,hw0]
   generalize hSS:bd (kj D A k (x1,y1,dm) n) (zI,zI,zI)=S at *
   refine au (fun t:Nat=>⟨[(2,.ptr 0 0 0 1),(4,.ptr 64 0 0 1),(5,.ptr 384 0 0 1),(6,.ptr 544 0 0 1),(7,.d (.int .i64 (ve t)))],[(544,⟨208,12,[cV (S (n - t)).1 (S (n - t)).2.1 (S (n - t)).2.2]⟩),(384,⟨208,12,[cV (x1,y1,dm).1 (x1,y1,dm).2.1 (x1,y1,dm).2.2]⟩),(64,⟨162,9,[cP zI zI false]⟩),(0,⟨160,4,[cI k]⟩)],3000⟩)
    (fun t=>t≤n) (fun t=>t) n (Nat.le_refl n) (by
     rw [Nat.sub_self,← hSS]
     simp [av,ag,fv,lk,AV.low,AV.low1,bd]
     and_intros <;> first | rfl | exact aA _ _ | exact gQ _ _ _ _ | exact gP _ _ _ _ | (match x1,y1,hxl,hyl with | [_,_,_,_],[_,_,_,_],_,_=>rfl)) ?_
   intro t ht
   cases t with
   | zero =>
    obtain ⟨w1,w2,w3⟩:=hS n (Nat.le_refl n)
    have sl:=bq w1.1.1 w1.2.1.1 w1.2.2.1
    have st:=aZ w1.1.1 w1.2.1.1 w1.2.2.1
    have s1:(cV (S n).1 (S n).2.1 (S n).2.2).take 4=cI (S n).1:=vQ w1.1.1
    have s2:=vS (z:=(S n).2.2) w1.1.1 w1.2.1.1
    have s3:=pI w1.1.1 w1.2.1.1 w1.2.2.1
    have l3:=w1.2.2.1
    have lz:=hzi.1
    have lX:=hX.1
    have lY:=hY.1
    by_cases hz0:(S n).2.2=zI
    ·have e:=e0 hz0
     have s3z:=pI (z:=zI) w1.1.1 w1.2.1.1 rfl
     have slz:=bq (z:=zI) w1.1.1 w1.2.1.1 rfl
     simp [go_sem,nK,sl,s3,slz,s3z,aW,iz,l3,hz0,aa (l:=zI) (n:=4) rfl,mP]
     rw [e]
     simp [go_sem,zl2,pd,ak]
     exact dK (x:=zI) (y:=zI) (b:=true) rfl
    ·have e:=e1 hz0
     simp [go_sem,nK,sl,s3,aW,iz,l3,hz0,aa l3]
     refine ab f3 (ar _) ?_
     simp [go_sem,lz,aa lz,z4]
     rw [e]
     refine bk [0,1,2,4,5,6] [(3,[]),(7,[8]),(9,[])] 2 (k:=10) ?_
     intro G hG
     simp [go_sem,sl,s1,s2,lz,aa lz]
     refine ab f4 (ah _ _) ?_
     simp [go_sem,sl,s1,s2,lz,aa lz]
     refine ab f5 (ah _ _) ?_
     have mp:=LN lX lY
     simp [go_sem,lX,lY,mp,aD lX lY,zl2,pd,be]
     refine hG _ _ ?_
     simp [go_sem,aD lX lY,aH lX lY,ak]
     exact dK rfl
   | succ t =>
    obtain ⟨w1,w2,w3⟩:=hS (n - (t+1)) (by omega)
    have hsn:S (n - t)=kj D A k (x1,y1,dm) n (n - (t+1)) (S (n - (t+1))):=by
     rw [show n - t=(n - (t+1))+1 by omega,← hSS,bd]
    obtain ⟨d1,_,d2⟩:=hD (S (n - (t+1))) w1
    obtain ⟨a1,_,a2⟩:=hA (D (S (n - (t+1))),(x1,y1,dm)) ⟨d1,hone⟩
    unfold kj at hsn
    rw [show n - 1 - (n - (t+1))=t by omega] at hsn
    generalize S (n - (t+1))=s at *
    generalize D s=q at *
    have sl:=bq w1.1.1 w1.2.1.1 w1.2.2.1
    have st:=aZ w1.1.1 w1.2.1.1 w1.2.2.1
    have sd:=ek w1.1.1 w1.2.1.1 w1.2.2.1
    have ql:=bq d1.1.1 d1.2.1.1 d1.2.2.1
    have qt:=aZ d1.1.1 d1.2.1.1 d1.2.2.1
    have qd:=ek d1.1.1 d1.2.1.1 d1.2.2.1
    have al:=bq a1.1.1 a1.2.1.1 a1.2.2.1
    have at':=aZ a1.1.1 a1.2.1.1 a1.2.2.1
    have ol:=bq hone.1.1 hone.2.1.1 hone.2.2.1
    have ot:=aZ hone.1.1 hone.2.1.1 hone.2.2.1
    have hw:=iG t (by omega)
    have p0:¬ ((t:Int)<0):=by omega
    simp [go_sem,gH,p0,sl,st]
    refine ab d2 (dC _ _ _) ?_
    simp [go_sem,ql,qt,sl,sd,hkl,aa hkl]
    refine ab (nV k t hk (by omega)) (gx _ _) ?_
    by_cases hb:sC k t=1
    ·rw [if_pos hb] at hsn
     simp [go_sem,hb,ql,qt,ol,ot]
     refine ab a2 (mU _ _ _ _ _ _) ?_
     rw [← hsn] at *
     simp [go_sem,gH,al,at',ql,qd,hw]
     refine ai t (by omega) (by omega) ?_
     simp [av,ag,fv,lk,AV.low,AV.low1]
     and_intros <;> first | rfl | exact aA _ _ | exact gQ _ _ _ _ | exact gP _ _ _ _
    ·have hb2:¬ ((sC k t:Int)=1):=by omega
     rw [if_neg hb] at hsn
     simp [go_sem,hb,hb2,hw,gH]
     refine ai t (by omega) (by omega) ?_
     rw [hsn]
     simp [av,ag,fv,lk,AV.low,AV.low1]
     and_intros <;> first | rfl | exact aA _ _ | exact gQ _ _ _ _ | exact gP _ _ _ _
  ·simp [go_sem,pl,pt,pdr,pb,pg,e1',e2',hxl,hyl,aa hxl,aa hyl]
   have e1f:one=(zI,zI,zI):=e1e
   subst e1f
   simp [go_sem,hkl,aa hkl]
   refine ab f2 (ar _) ?_
   simp [go_sem,hw0]
   generalize hSS:bd (kj D A k (zI,zI,zI) n) (zI,zI,zI)=S at *
   refine au (fun t:Nat=>⟨[(2,.ptr 0 0 0 1),(4,.ptr 64 0 0 1),(5,.ptr 384 0 0 1),(6,.ptr 608 0 0 1),(7,.d (.int .i64 (ve t)))],[(608,⟨208,12,[cV (S (n - t)).1 (S (n - t)).2.1 (S (n - t)).2.2]⟩),(384,⟨208,12,[cV (zI,zI,zI).1 (zI,zI,zI).2.1 (zI,zI,zI).2.2]⟩),(64,⟨162,9,[cP zI zI false]⟩),(0,⟨160,4,[cI k]⟩)],3000⟩)
    (fun t=>t≤n) (fun t=>t) n (Nat.le_refl n) (by
     rw [Nat.sub_self,← hSS]
     simp [av,ag,fv,lk,AV.low,AV.low1,bd]
     and_intros <;> first | rfl | exact aA _ _ | exact gQ _ _ _ _ | exact gP _ _ _ _ | (match x1,y1,hxl,hyl with | [_,_,_,_],[_,_,_,_],_,_=>rfl)) ?_
   intro t ht
   cases t with
   | zero =>
    obtain ⟨w1,w2,w3⟩:=hS n (Nat.le_refl n)
    have sl:=bq w1.1.1 w1.2.1.1 w1.2.2.1
    have st:=aZ w1.1.1 w1.2.1.1 w1.2.2.1
    have s1:(cV (S n).1 (S n).2.1 (S n).2.2).take 4=cI (S n).1:=vQ w1.1.1
    have s2:=vS (z:=(S n).2.2) w1.1.1 w1.2.1.1
    have s3:=pI w1.1.1 w1.2.1.1 w1.2.2.1
    have l3:=w1.2.2.1
    have lz:=hzi.1
    have lX:=hX.1
    have lY:=hY.1
    by_cases hz0:(S n).2.2=zI
    ·have e:=e0 hz0
     have s3z:=pI (z:=zI) w1.1.1 w1.2.1.1 rfl
     have slz:=bq (z:=zI) w1.1.1 w1.2.1.1 rfl
     simp [go_sem,nK,sl,s3,slz,s3z,aW,iz,l3,hz0,aa (l:=zI) (n:=4) rfl,mP]
     rw [e]
     simp [go_sem,zl2,pd,ak]
     exact dK (x:=zI) (y:=zI) (b:=true) rfl
    ·have e:=e1 hz0
     simp [go_sem,nK,sl,s3,aW,iz,l3,hz0,aa l3]
     refine ab f3 (ar _) ?_
     simp [go_sem,lz,aa lz,z4]
     rw [e]
     refine bk [0,1,2,4,5,6] [(3,[]),(7,[8]),(9,[])] 2 (k:=10) ?_
     intro G hG
     simp [go_sem,sl,s1,s2,lz,aa lz]
     refine ab f4 (ah _ _) ?_
     simp [go_sem,sl,s1,s2,lz,aa lz]
     refine ab f5 (ah _ _) ?_
     have mp:=LN lX lY
     simp [go_sem,lX,lY,mp,aD lX lY,zl2,pd,be]
     refine hG _ _ ?_
     simp [go_sem,aD lX lY,aH lX lY,ak]
     exact dK rfl
   | succ t =>
    obtain ⟨w1,w2,w3⟩:=hS (n - (t+1)) (by omega)
    have hsn:S (n - t)=kj D A k (zI,zI,zI) n (n - (t+1)) (S (n - (t+1))):=by
     rw [show n - t=(n - (t+1))+1 by omega,← hSS,bd]
    obtain ⟨d1,_,d2⟩:=hD (S (n - (t+1))) w1
    obtain ⟨a1,_,a2⟩:=hA (D (S (n - (t+1))),(zI,zI,zI)) ⟨d1,hone⟩
    unfold kj at hsn
    rw [show n - 1 - (n - (t+1))=t by omega] at hsn
    generalize S (n - (t+1))=s at *
    generalize D s=q at *
    have sl:=bq w1.1.1 w1.2.1.1 w1.2.2.1
    have st:=aZ w1.1.1 w1.2.1.1 w1.2.2.1
    have sd:=ek w1.1.1 w1.2.1.1 w1.2.2.1
    have ql:=bq d1.1.1 d1.2.1.1 d1.2.2.1
    have qt:=aZ d1.1.1 d1.2.1.1 d1.2.2.1
    have qd:=ek d1.1.1 d1.2.1.1 d1.2.2.1
    have al:=bq a1.1.1 a1.2.1.1 a1.2.2.1
    have at':=aZ a1.1.1 a1.2.1.1 a1.2.2.1
    have ol:=bq hone.1.1 hone.2.1.1 hone.2.2.1
    have ot:=aZ hone.1.1 hone.2.1.1 hone.2.2.1
    have hw:=iG t (by omega)
    have p0:¬ ((t:Int)<0):=by omega
    simp [go_sem,gH,p0,sl,st]
    refine ab d2 (dC _ _ _) ?_
    simp [go_sem,ql,qt,sl,sd,hkl,aa hkl]
    refine ab (nV k t hk (by omega)) (gx _ _) ?_
    by_cases hb:sC k t=1
    ·rw [if_pos hb] at hsn
     simp [go_sem,hb,ql,qt,ol,ot]
     refine ab a2 (mU _ _ _ _ _ _) ?_
     rw [← hsn] at *
     simp [go_sem,gH,al,at',ql,qd,hw]
     refine ai t (by omega) (by omega) ?_
     simp [av,ag,fv,lk,AV.low,AV.low1]
     and_intros <;> first | rfl | exact aA _ _ | exact gQ _ _ _ _ | exact gP _ _ _ _
    ·have hb2:¬ ((sC k t:Int)=1):=by omega
     rw [if_neg hb] at hsn
     simp [go_sem,hb,hb2,hw,gH]
     refine ai t (by omega) (by omega) ?_
     rw [hsn]
     simp [av,ag,fv,lk,AV.low,AV.low1]
     and_intros <;> first | rfl | exact aA _ _ | exact gQ _ _ _ _ | exact gP _ _ _ _
 by_cases h0:(bd (kj D A k one n) (zI,zI,zI) n).2.2=zI
 ·exact ⟨zI,zI,true,cG,cG,kX,hp0 h0,key (zI,zI,true) (fun _=>rfl) (fun h=>absurd h0 h)⟩
 ·exact ⟨X,Y,false,hX,hY,(hpx h0).1,(hpx h0).2,key (X,Y,false) (fun h=>absurd h h0) (fun _=>rfl)⟩
theorem L2 (b:List Nat) (hb:b.length=32) (hby:bytes b):∃ (r:List Int) (ok:Bool),Wn 4 r∧((db b<115792089237316195423570985008687907852837564279074904382605163141518161494337→ok=true∧V r=(db b:Int))∧(¬ db b<115792089237316195423570985008687907852837564279074904382605163141518161494337→ok=false∧r=zI))∧aq Tryz.prog 179 [.agg (cb b)] (fun x=>x=.tup [.agg (cI r),.d (.bool ok)]):=by
 obtain ⟨a,ha,va,f1⟩:=tQ b hb hby
 obtain ⟨c,vc,f2⟩:=yJ a CY ha Jp
 have vo:V CY=115792089237316195423570985008687907852837564279074904382605163141518161494337:=by simp [V,CY]
 rw [vo,va] at vc
 have hal:=ha.1
 have hz:List.drop 4 (cI zI)=[]:=ao rfl
 by_cases h0:c<0
 ·have hlt:db b<115792089237316195423570985008687907852837564279074904382605163141518161494337:=by have:=vc.1 h0;omega
  refine ⟨a,true,ha,⟨fun _=>⟨rfl,va⟩,fun h=>absurd hlt h⟩,?_⟩
  refine aS Tryz.func179 Tryz.ntmps179 (rs:=[.cell 2 160,.tmp 3]) (bu b) ?_
  have h1:¬ 0≤c:=by omega
  simp [go_sem,am,hb,aj hb]
  refine ab f1 (bu _) ?_
  simp [go_sem,hal,aa hal,hz]
  refine bk [0] [(1,[]),(2,[3])] 2 (k:=4) ?_
  intro G hG
  simp [go_sem,hal,aa hal]
  refine ab tP (by simp) ?_
  simp [go_sem,hal,aa hal]
  refine ab f2 (ah _ _) ?_
  simp [go_sem,be]
  refine hG _ _ ?_
  simp [go_sem,h1,h0,hal,aa hal,hz,ak]
  exact ff rfl
 ·have hlt:¬ db b<115792089237316195423570985008687907852837564279074904382605163141518161494337:=fun h=>h0 (vc.2 (by omega))
  refine ⟨zI,false,cG,⟨fun h=>absurd h hlt,fun _=>⟨rfl,rfl⟩⟩,?_⟩
  refine aS Tryz.func179 Tryz.ntmps179 (rs:=[.cell 2 160,.tmp 3]) (bu b) ?_
  have h1:0≤c:=by omega
  simp [go_sem,am,hb,aj hb]
  refine ab f1 (bu _) ?_
  simp [go_sem,hal,aa hal,hz]
  refine bk [0] [(1,[]),(2,[3])] 2 (k:=4) ?_
  intro G hG
  simp [go_sem,hal,aa hal]
  refine ab tP (by simp) ?_
  simp [go_sem,hal,aa hal]
  refine ab f2 (ah _ _) ?_
  simp [go_sem,be]
  refine hG _ _ ?_
  simp [go_sem,h1,h0,hz,ak]
  exact ff (a:=zI) rfl
theorem Jt (b:List Nat) (hb:b.length=32) (hby:bytes b):∃ (x y:List Int) (c ok:Bool),Wn 4 x∧Wn 4 y∧(yA (db b) x y c ok)∧aq Tryz.prog 128 [.agg (cb b)] (fun r=>r=.tup [.agg (cP x y c),.d (.bool ok)]):=by
 obtain ⟨a,ha,va,f1⟩:=tQ b hb hby
 obtain ⟨o,vo,f2⟩:=Aq a ha
 obtain ⟨r,hr,vr,f3⟩:=Gf a ha
 obtain ⟨y,ok,hy,vk,vy,vno,f4⟩:=OG r hr
 have hrv:V r=fX (db b):=Bw hr va vr
 rw [va] at vo
 rw [hrv] at vk vy
 unfold W1 at f3
 have hal:=ha.1
 have hyl:=hy.1
 have hz:List.drop 4 (cI zI)=[]:=ao rfl
 have zd:List.drop 32 (cb b)=[]:=dr hb
 have pd:(cP zI zI false).drop 9=[]:=dG rfl rfl _
 have zl2:(cP zI zI false).length=9:=rfl
 have mp:=LN hal hyl
 have pl1:=aD hal hyl false
 have pt1:=aH hal hyl false
 cases ok
 ·refine ⟨zI,zI,true,false,cG,cG,.inl ⟨fun h=>absurd (vk.2 h.2) (by decide),rfl,rfl,rfl,rfl⟩,?_⟩
  refine aS Tryz.func128 Tryz.ntmps128 (rs:=[.cell 2 162,.tmp 3]) (bu b) ?_
  simp [go_sem,am,hb,aj hb,zd]
  refine ab f1 (bu _) ?_
  simp [go_sem,hal,aa hal,hz]
  refine ab f3 (ar _) ?_
  simp [go_sem]
  refine ab f4 (ar _) ?_
  simp [go_sem,hyl,aa hyl,hz,zl2,pd,ak]
  exact lW (x:=zI) (y:=zI) (c:=true) rfl
 ·cases o
  ·refine ⟨zI,zI,true,false,cG,cG,.inl ⟨fun h=>absurd (vo.2 h.1) (by decide),rfl,rfl,rfl,rfl⟩,?_⟩
   refine aS Tryz.func128 Tryz.ntmps128 (rs:=[.cell 2 162,.tmp 3]) (bu b) ?_
   simp [go_sem,am,hb,aj hb,zd]
   refine ab f1 (bu _) ?_
   simp [go_sem,hal,aa hal,hz]
   refine ab f3 (ar _) ?_
   simp [go_sem]
   refine ab f4 (ar _) ?_
   simp [go_sem,hyl,aa hyl,hz,hal,aa hal]
   refine ab f2 (ar _) ?_
   simp [go_sem,zl2,pd,ak]
   exact lW (x:=zI) (y:=zI) (c:=true) rfl
  ·refine ⟨a,y,false,true,ha,hy,.inr ⟨⟨vo.1 rfl,vk.1 rfl⟩,rfl,rfl,va,vy rfl⟩,?_⟩
   refine aS Tryz.func128 Tryz.ntmps128 (rs:=[.cell 2 162,.tmp 3]) (bu b) ?_
   simp [go_sem,am,hb,aj hb,zd]
   refine ab f1 (bu _) ?_
   simp [go_sem,hal,aa hal,hz]
   refine ab f3 (ar _) ?_
   simp [go_sem]
   refine ab f4 (ar _) ?_
   simp [go_sem,hyl,aa hyl,hz,hal,aa hal]
   refine ab f2 (ar _) ?_
   simp [go_sem,hal,hyl,aa hal,aa hyl,hz,mp,pl1,pt1,pd,zl2,ak]
   exact lW rfl
def gN:Nat:=55066263022277343669578718895168534326250603453777594175500187360389116729240
theorem BO:fX gN=((32748224938747404814623910738487752935528512903530129802856995983256684603122:Nat):Int):=by
 unfold fX
 have e:((gN:Int)*gN*gN+7) % 115792089237316195423570985008687907853269984665640564039457584007908834671663=(((gN*gN*gN+7) % 115792089237316195423570985008687907853269984665640564039457584007908834671663:Nat):Int):=by
  rw [Int.natCast_emod,Int.natCast_add,Int.natCast_mul,Int.natCast_mul];rfl
 rw [e]
 exact congrArg (fun n:Nat=>(n:Int)) (Nat.eq_of_beq_eq_true (by kernel_rfl))
theorem Gk (e r n:Nat) (he:e<2 ^ 256) (hr:Jl 115792089237316195423570985008687907853269984665640564039457584007908834671663 256 32748224938747404814623910738487752935528512903530129802856995983256684603122 e 1=r) (hn:fX n=((32748224938747404814623910738487752935528512903530129802856995983256684603122:Nat):Int)):fX n ^ e % 115792089237316195423570985008687907853269984665640564039457584007908834671663=(r:Int):=by
 have h:=mR 115792089237316195423570985008687907853269984665640564039457584007908834671663 256 32748224938747404814623910738487752935528512903530129802856995983256684603122 e 1 he (Nat.mod_eq_of_lt (by omega))
 rw [Nat.one_mul,hr] at h
 rw [hn,← Int.natCast_pow]
 have e:(115792089237316195423570985008687907853269984665640564039457584007908834671663:Int)=((115792089237316195423570985008687907853269984665640564039457584007908834671663:Nat):Int):=rfl
 rw [e,← Int.natCast_emod]
 exact congrArg (fun n:Nat=>(n:Int)) h.symm
theorem BP:iJ gN=((32670510020758816978083085130507043184471273380659243275938904335757337482424:Nat):Int) :=
 Gk _ _ gN (by omega) (Nat.eq_of_beq_eq_true (by kernel_rfl)) BO
theorem Gl:lb gN:=by
 refine ⟨?_,?_⟩
 ·have:gN<115792089237316195423570985008687907853269984665640564039457584007908834671663:=by unfold gN;omega
  omega
 ·rw [BP,BO,← Int.natCast_mul]
  have e:(115792089237316195423570985008687907853269984665640564039457584007908834671663:Int)=((115792089237316195423570985008687907853269984665640564039457584007908834671663:Nat):Int):=rfl
  rw [e,← Int.natCast_emod,← Int.natCast_emod]
theorem OK:V gX=gN:=by
 unfold gX gN
 rw [V4];omega
theorem QG:V gY=32670510020758816978083085130507043184471273380659243275938904335757337482424:=by
 unfold gY
 rw [V4];omega
theorem L3 {x y:List Int} {c ok:Bool} (hx:Wn 4 x) (hy:Wn 4 y) (h:yA gN x y c ok):ok=true∧c=false∧x=gX∧y=gY:=by
 rcases h with ⟨h,_⟩ | ⟨_,h1,h2,h3,h4⟩
 ·exact absurd Gl h
 ·refine ⟨h1,h2,pv hx IC (by rw [h3,OK]),pv hy LP ?_⟩
  rw [h4,BP,if_pos (by omega),QG];rfl
theorem Ju:aq Tryz.prog 132 [] (fun r=>r=.agg (cP gX gY false)):=by
 obtain ⟨b,hb,hby,vb,f1⟩:=tR gX IC
 obtain ⟨x,y,c,ok,hx,hy,hs,f2⟩:=Jt b hb hby
 have hg:db b=gN:=by rw [vb,OK];exact Int.toNat_natCast _
 rw [hg] at hs
 obtain ⟨rfl,rfl,rfl,rfl⟩:=L3 hx hy hs
 have gl:gX.length=4:=rfl
 have pl:=aD (x:=gX) (y:=gY) rfl rfl false
 have pt:=aH (x:=gX) (y:=gY) rfl rfl false
 have pd:(cP zI zI false).drop 9=[]:=dG rfl rfl _
 have zl2:(cP zI zI false).length=9:=rfl
 have hz:List.drop 4 (cI zI)=[]:=ao rfl
 have eg:[AV.d (.int .u64 6481385041966929816),AV.d (.int .u64 188021827762530521),AV.d (.int .u64 6170039885052185351),AV.d (.int .u64 8772561819708210092)]=cI gX:=rfl
 refine aS Tryz.func132 Tryz.ntmps132 (rs:=[.cell 0 162]) (by simp [AV.deep,AV.deep1]) ?_
 simp [go_sem,hz]
 refine ab f1 (ar gX) ?_
 simp [go_sem,am,hb,aj hb]
 refine ab f2 (bu _) ?_
 simp [go_sem,pl,pt,pd,zl2,ak]
 exact dK rfl
theorem L4 (x y:List Int) (c:Bool) (hx:Wn 4 x) (hy:Wn 4 y) (hp:dB x y c):∃ b:List Nat,b.length=32∧bytes b∧db b=(V x).toNat∧aq Tryz.prog 133 [.agg (cP x y c)] (fun r=>r=.agg (cb b)):=by
 obtain ⟨x1,y1,c1,hx1,hy1,t1,f1⟩:=Gh x y c hx hy
 obtain ⟨rfl,rfl,rfl⟩:=t1.2.1 hp
 obtain ⟨b,hb,hby,vb,f2⟩:=tR x1 hx1
 refine ⟨b,hb,hby,vb,?_⟩
 have hxl:=hx.1
 have hyl:=hy.1
 have pl:=aD hxl hyl c1
 have pt:=aH hxl hyl c1
 have pdr:=dG hxl hyl c1
 have e1:(cP x1 y1 c1).take 4=cI x1:=yu hxl _
 have zd:List.drop 32 (cb z32)=[]:=dr rfl
 refine aS Tryz.func133 Tryz.ntmps133 (rs:=[.cell 2 23]) (bp _ _ _) ?_
 simp [go_sem,pl,pt]
 refine ab f1 (bp _ _ _) ?_
 simp [go_sem,pl,pt,pdr,e1,hxl,aa hxl]
 refine ab f2 (ar _) ?_
 simp [go_sem,am,hb,aj hb,zd,ak]
 exact FSa rfl
theorem OL (x y:List Int) (c:Bool) (hx:Wn 4 x) (hy:Wn 4 y) (hp:dB x y c):∃ o:Bool,(o=true ↔ c=false∧V y % 2=0)∧aq Tryz.prog 134 [.agg (cP x y c)] (fun r=>r=.d (.bool o)):=by
 obtain ⟨x1,y1,c1,hx1,hy1,t1,f1⟩:=Gh x y c hx hy
 obtain ⟨rfl,rfl,rfl⟩:=t1.2.1 hp
 have hxl:=hx.1
 have hyl:=hy.1
 have pl:=aD hxl hyl c1
 have pt:=aH hxl hyl c1
 have pdr:=dG hxl hyl c1
 have pb:=kw hxl hyl c1
 have pg:=kZ hxl hyl c1
 have hR:=aP (k:=0) hy
 have hmg:=qk hy
 have hmt:Int.tmod (gI y1 0) 2=gI y1 0 % 2:=Int.tmod_eq_emod_of_nonneg hR.1
 have g4:(cP x1 y1 c1)[4]?=some (.d (.int .u64 (gI y1 0))):=by
  unfold cP
  rw [List.getElem?_append_right (by rw [dc];omega),dc,hxl,List.getElem?_append_left (by rw [dc];omega),iH,bw (by omega)]
  rfl
 have g4b:∀ h,(cP x1 y1 c1)[4]'h=.d (.int .u64 (gI y1 0)):=fun h=>(List.getElem?_eq_some_iff.1 g4).2
 cases c1
 ·refine ⟨decide (gI y1 0 % 2=0),by rw [decide_eq_true_iff,hmg];exact ⟨fun h=>⟨rfl,h⟩,fun h=>h.2⟩,?_⟩
  refine aS Tryz.func134 Tryz.ntmps134 (rs:=[.tmp 2]) (bp _ _ _) ?_
  simp [go_sem,pl,pt]
  refine ab f1 (bp _ _ _) ?_
  simp [go_sem,pl,pt,pdr,pb,pg,g4,g4b,hmt,ak]
  exact ae (by simp [AV.deep,AV.deep1]) rfl
 ·refine ⟨false,⟨fun h=>Bool.noConfusion h,fun h=>Bool.noConfusion h.1⟩,?_⟩
  refine aS Tryz.func134 Tryz.ntmps134 (rs:=[.tmp 2]) (bp _ _ _) ?_
  simp [go_sem,pl,pt]
  refine ab f1 (bp _ _ _) ?_
  simp [go_sem,pl,pt,pdr,pb,pg,ak]
  exact ae (by simp [AV.deep,AV.deep1]) rfl
end Go.Proofs.YtldccnbokbieiaaGreat
