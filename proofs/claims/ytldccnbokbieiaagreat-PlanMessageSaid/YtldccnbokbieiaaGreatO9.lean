/-
 Part 10 of what the claim rests on.
-/
import Derived.Test.YtldccnbokbieiaaGreatO8
set_option linter.unusedVariables false
set_option linter.unusedSimpArgs false
set_option maxRecDepth 100000
set_option maxHeartbeats 16000000
namespace Go.Proofs.YtldccnbokbieiaaGreat
open Go.Am Go.Sha Go.Ec
theorem avS (x y z x' y' z':List Int) (hx:Wn 4 x) (hy:Wn 4 y) (hz:Wn 4 z) (hx':Wn 4 x') (hy':Wn 4 y') (hz':Wn 4 z'):∃ (X Y Z:List Int),Wn 4 X∧Wn 4 Y∧Wn 4 Z∧(isF x y z→isF x' y' z'→isF X Y Z∧FrV X Y Z=sum fd (FrV x y z) (FrV x' y' z'))∧m6 Tryz.prog 185 [.agg (cV x y z),.agg (cV x' y' z')] (fun r=>r=.agg (cV X Y Z)):=by
 obtain ⟨px,h1,g1,f1⟩:=K7 x z' hx hz';obtain ⟨py,h2,g2,f2⟩:=K7 y z' hy hz';obtain ⟨u1,h3,g3,f3⟩:=K7 y' z hy' hz;obtain ⟨u,h4,g4,f4⟩:=Vn u1 py h3 h2;obtain ⟨v0,h5,g5,f5⟩:=K7 x' z hx' hz;obtain ⟨v,h6,g6,f6⟩:=Vn v0 px h5 h1;obtain ⟨zz,h7,g7,f7⟩:=K7 z z' hz hz';obtain ⟨v2,h8,g8,f8⟩:=K7 v v h6 h6;obtain ⟨v3w,h9,g9,f9⟩:=K7 v2 v h8 h6;obtain ⟨r,h10,g10,f10⟩:=K7 v2 px h8 h1;obtain ⟨uu,h11,g11,f11⟩:=K7 u u h4 h4;obtain ⟨uz,h12,g12,f12⟩:=K7 uu zz h11 h7;obtain ⟨c1,h13,g13,f13⟩:=Vn uz v3w h12 h9;obtain ⟨rr,h14,g14,f14⟩:=as3 r r h10 h10;obtain ⟨a,h15,g15,f15⟩:=Vn c1 rr h13 h14;obtain ⟨ra,h16,g16,f16⟩:=Vn r a h10 h15;obtain ⟨ura,h17,g17,f17⟩:=K7 u ra h4 h16;obtain ⟨vpy,h18,g18,f18⟩:=K7 v3w py h9 h2;obtain ⟨Y,h19,g19,f19⟩:=Vn ura vpy h17 h18;obtain ⟨X,h20,g20,f20⟩:=K7 v a h6 h15;obtain ⟨Z,h21,g21,f21⟩:=K7 v3w zz h9 h7;obtain ⟨tx,ty,tz,h22,h23,h24,g22,f22⟩:=am4 x y z hx hy hz;unfold W2 at f1 f2 f3 f4 f5 f6 f7 f8 f9 f10 f11 f12 f13 f14 f15 f16 f17 f18 f19 f20 f21;have l1:=h1.1;have l2:=h2.1;have l4:=h4.1;have l6:=h6.1;have l7:=h7.1;have l8:=h8.1;have l9:=h9.1;have l10:=h10.1;have l15:=h15.1;have l19:=h19.1;have l20:=h20.1;have l21:=h21.1;have l22:=h22.1;have l23:=h23.1;have l24:=h24.1;have hxl:=hx.1;have hyl:=hy.1;have hzl:=hz.1;have hxl':=hx'.1;have hyl':=hy'.1;have hzl':=hz'.1;have z4:List.drop 4 (cI zI)=[]:=i9 rfl;have iz:C0 .u64 [AV.d (.int .u64 0),AV.d (.int .u64 0),AV.d (.int .u64 0),AV.d (.int .u64 0)]=some zI:=y6 zI;have vl:=B5 hxl hyl hzl;have vt:=y7 hxl hyl hzl;have v1:(cV x y z).take 4=cI x:=adv hxl;have v2':=adw (z:=z) hxl hyl;have v3:=ZE hxl hyl hzl;have vlb:=B5 hxl' hyl' hzl';have vtb:=y7 hxl' hyl' hzl';have v1b:(cV x' y' z').take 4=cI x':=adv hxl';have v2b:=adw (z:=z') hxl' hyl';have v3b:=ZE hxl' hyl' hzl';have wd:(cV zI zI zI).drop 12=[]:=P0 rfl rfl rfl;have wl:(cV zI zI zI).length=12:=rfl;have ul:=B5 l22 l23 l24;have ut:=y7 l22 l23 l24;by_cases q1:z=zI
 ·refine ⟨x',y',z',hx',hy',hz',fun _ hj=>⟨hj,by rw [q1,acn];exact (K6 fd hj.2).symm⟩,?_⟩;subst q1;refine t6 Tryz.func185 Tryz.ntmps185 (rs:=[.cell 4 208]) (Xr _ _ _ _ _ _) ?_;simp [go_sem,vl,vt,vlb,vtb,v3,v3b,y6,iz,hzl,hzl',wl,wd,d7];exact Rq rfl
 by_cases q2:z'=zI
 ·refine ⟨x,y,z,hx,hy,hz,fun hj _=>⟨hj,by rw [q2,acn];exact (Sp fd hj.2).symm⟩,?_⟩;subst q2;refine t6 Tryz.func185 Tryz.ntmps185 (rs:=[.cell 4 208]) (Xr _ _ _ _ _ _) ?_;simp [go_sem,vl,vt,vlb,vtb,v3,v3b,y6,iz,hzl,hzl',q1,wl,wd,d7];exact Rq rfl
 have hne:isF x y z→FV z ≠ 0:=fun hj h=>q1 ((RD hz hj.1.2.2).1 h);have hne':isF x' y' z'→FV z' ≠ 0:=fun hj h=>q2 ((RD hz' hj.1.2.2).1 h);have main:isF x y z→isF x' y' z'→_:=fun hj hj'=>apq fd (px:=FV px) (py:=FV py) (u:=FV u) (v:=FV v) (hne hj) (hne' hj') hj.2 hj'.2 g1.2 g2.2 (by rw [g4.2,g3.2]) (by rw [g6.2,g5.2]);have hv0:FV v=0 ↔ v=zI:=RD h6 g6.1;have hu0:FV u=0 ↔ u=zI:=RD h4 g4.1;by_cases q3:v=zI
 ·by_cases q4:u=zI
  ·refine ⟨tx,ty,tz,h22,h23,h24,fun hj hj'=>?_,?_⟩
   ·obtain ⟨k1,k2⟩:=g22 hj;have e:=(main hj hj').2.1 (hv0.2 q3) (hu0.2 q4);exact ⟨k1,by rw [k2];exact congrArg (sum fd (FrV x y z)) e⟩
   refine t6 Tryz.func185 Tryz.ntmps185 (rs:=[.cell 4 208]) (Xr _ _ _ _ _ _) ?_;simp [go_sem,vl,vt,vlb,vtb,v3,v3b,y6,iz,hzl,hzl',q1,q2];refine C4 [0,1,2,3,5,6,7,8] [4,9,10,11,12,13] [0,1,2,3,5,6,7,8] (.alt (ah 4 (.alt (ai 9 (.alt (ag [10,11,12,13]) (ag [11,10,12,13]))) (.alt (ah 10 (.alt (ag [9,11,12,13]) (ah 11 (ag [9,12,13])))) (ah 11 (.alt (ag [9,10,12,13]) (ah 10 (ag [9,12,13]))))))) (.alt (ah 10 (.alt (ah 4 (.alt (ag [9,11,12,13]) (ah 11 (ag [9,12,13])))) (ah 11 (ah 4 (ag [9,12,13]))))) (ah 11 (.alt (ah 4 (.alt (ag [9,10,12,13]) (ah 10 (ag [9,12,13])))) (ah 10 (ah 4 (ag [9,12,13]))))))) ⟨[(2,.ptr 0 0 0 1),(3,.ptr 32 0 0 1),(4,.ptr 64 0 0 1),(5,.ptr 672 0 0 1),(6,.ptr 704 0 0 1)],[(704,⟨160,4,[cI py]⟩),(672,⟨160,4,[cI px]⟩),(64,⟨208,12,[cV zI zI zI]⟩),(32,⟨208,12,[cV x' y' z']⟩),(0,⟨208,12,[cV x y z]⟩)],4000⟩ (k:=14) ?h3 ?hq
   case h3 =>
    intro G hG
    have hW:∀ (fr:Fr) (hp:Hp),(fv 2 fr=.ptr 0 0 0 1∧fv 3 fr=.ptr 32 0 0 1∧fv 4 fr=.ptr 64 0 0 1∧fv 5 fr=.ptr 672 0 0 1∧fv 6 fr=.ptr 704 0 0 1∧lk 704 hp=some ⟨160,4,[cI py]⟩∧lk 672 hp=some ⟨160,4,[cI px]⟩∧lk 64 hp=some ⟨208,12,[cV zI zI zI]⟩∧lk 32 hp=some ⟨208,12,[cV x' y' z']⟩∧lk 0 hp=some ⟨208,12,[cV x y z]⟩)→G fr hp:=by
     rintro fr hp ⟨q0,q1,q2,q3,q4,q5,q6,q7,q8,q9⟩;exact hG _ _ Rz
    simp [go_sem,v1,v2',v3,vl,v1b,v2b,v3b,vlb,l1,l2,a8 l1,a8 l2,z4,A6]
    repeat' first | exact hW _ _ ⟨rfl,rfl,rfl,rfl,rfl,rfl,rfl,rfl,rfl,rfl⟩ | (refine hW _ _ ?_;simp [fv,lk];done) | refine a9 f1 (d5 _ _) ?_ | refine a9 f2 (d5 _ _) ?_ | apply And.intro | simp [go_sem,v1,v2',v3,vl,v1b,v2b,v3b,vlb,l1,l2,a8 l1,a8 l2,z4,A6]
   case hq =>
    simp [go_sem];refine C4 [0,1,2,3,5] [4,6,7,8] [0,1,2,3,5] (.alt (ah 4 (.alt (ag [6,7,8]) (ah 7 (ag [6,8])))) (ah 7 (ah 4 (ag [6,8])))) ⟨[(2,.ptr 0 0 0 1),(3,.ptr 32 0 0 1),(4,.ptr 64 0 0 1),(5,.ptr 672 0 0 1),(6,.ptr 704 0 0 1),(7,.ptr 4224 0 0 1)],[(4224,⟨160,4,[cI u]⟩),(704,⟨160,4,[cI py]⟩),(672,⟨160,4,[cI px]⟩),(64,⟨208,12,[cV zI zI zI]⟩),(32,⟨208,12,[cV x' y' z']⟩),(0,⟨208,12,[cV x y z]⟩)],9000⟩ (k:=9) ?h3 ?hq
    case h3 =>
     intro G hG
     have hW:∀ (fr:Fr) (hp:Hp),(fv 2 fr=.ptr 0 0 0 1∧fv 3 fr=.ptr 32 0 0 1∧fv 4 fr=.ptr 64 0 0 1∧fv 5 fr=.ptr 672 0 0 1∧fv 6 fr=.ptr 704 0 0 1∧fv 7 fr=.ptr 4224 0 0 1∧lk 4224 hp=some ⟨160,4,[cI u]⟩∧lk 704 hp=some ⟨160,4,[cI py]⟩∧lk 672 hp=some ⟨160,4,[cI px]⟩∧lk 64 hp=some ⟨208,12,[cV zI zI zI]⟩∧lk 32 hp=some ⟨208,12,[cV x' y' z']⟩∧lk 0 hp=some ⟨208,12,[cV x y z]⟩)→G fr hp:=by
      rintro fr hp ⟨q0,q1,q2,q3,q4,q5,q6,q7,q8,q9,q10,q11⟩;exact hG _ _ Rz
     simp [go_sem,v1,v2',v3,vl,v1b,v2b,v3b,vlb,l2,l4,a8 l2,a8 l4,z4,A6]
     repeat' first | exact hW _ _ ⟨rfl,rfl,rfl,rfl,rfl,rfl,rfl,rfl,rfl,rfl,rfl,rfl⟩ | (refine hW _ _ ?_;simp [fv,lk];done) | refine a9 f3 (d5 _ _) ?_ | refine a9 f4 (d5 _ _) ?_ | apply And.intro | simp [go_sem,v1,v2',v3,vl,v1b,v2b,v3b,vlb,l2,l4,a8 l2,a8 l4,z4,A6]
    case hq =>
     simp [go_sem];refine C4 [0,1,2,3,5] [4,6,7,8] [0,1,2,3,5] (.alt (ah 4 (.alt (ag [6,7,8]) (ah 7 (ag [6,8])))) (ah 7 (ah 4 (ag [6,8])))) ⟨[(2,.ptr 0 0 0 1),(3,.ptr 32 0 0 1),(4,.ptr 64 0 0 1),(5,.ptr 672 0 0 1),(6,.ptr 704 0 0 1),(7,.ptr 4224 0 0 1),(8,.ptr 9224 0 0 1)],[(9224,⟨160,4,[cI v]⟩),(4224,⟨160,4,[cI u]⟩),(704,⟨160,4,[cI py]⟩),(672,⟨160,4,[cI px]⟩),(64,⟨208,12,[cV zI zI zI]⟩),(32,⟨208,12,[cV x' y' z']⟩),(0,⟨208,12,[cV x y z]⟩)],20000⟩ (k:=9) ?h3 ?hq
     case h3 =>
      intro G hG
      have hW:∀ (fr:Fr) (hp:Hp),(fv 2 fr=.ptr 0 0 0 1∧fv 3 fr=.ptr 32 0 0 1∧fv 4 fr=.ptr 64 0 0 1∧fv 5 fr=.ptr 672 0 0 1∧fv 6 fr=.ptr 704 0 0 1∧fv 7 fr=.ptr 4224 0 0 1∧fv 8 fr=.ptr 9224 0 0 1∧lk 9224 hp=some ⟨160,4,[cI v]⟩∧lk 4224 hp=some ⟨160,4,[cI u]⟩∧lk 704 hp=some ⟨160,4,[cI py]⟩∧lk 672 hp=some ⟨160,4,[cI px]⟩∧lk 64 hp=some ⟨208,12,[cV zI zI zI]⟩∧lk 32 hp=some ⟨208,12,[cV x' y' z']⟩∧lk 0 hp=some ⟨208,12,[cV x y z]⟩)→G fr hp:=by
       rintro fr hp ⟨q0,q1,q2,q3,q4,q5,q6,q7,q8,q9,q10,q11,q12,q13⟩;exact hG _ _ Rz
      simp [go_sem,v1,v2',v3,vl,v1b,v2b,v3b,vlb,l1,l6,a8 l1,a8 l6,z4,A6]
      repeat' first | exact hW _ _ ⟨rfl,rfl,rfl,rfl,rfl,rfl,rfl,rfl,rfl,rfl,rfl,rfl,rfl,rfl⟩ | (refine hW _ _ ?_;simp [fv,lk];done) | refine a9 f5 (d5 _ _) ?_ | refine a9 f6 (d5 _ _) ?_ | apply And.intro | simp [go_sem,v1,v2',v3,vl,v1b,v2b,v3b,vlb,l1,l6,a8 l1,a8 l6,z4,A6]
     case hq =>
      simp [go_sem,l6,l4,a8 l6,a8 l4,y6,iz,q3,q4,a8 (l:=zI) (n:=4) rfl,Xm,vl,vt];refine a9 f22 (L3 _ _ _) ?_;simp [go_sem,ul,ut,wl,wd,d7];exact Rq rfl
  ·refine ⟨zI,zI,zI,H4,H4,H4,fun hj hj'=>⟨am3,?_⟩,?_⟩
   ·rw [acn];exact ((main hj hj').2.2 (hv0.2 q3) (fun h=>q4 (hu0.1 h))).symm
   refine t6 Tryz.func185 Tryz.ntmps185 (rs:=[.cell 4 208]) (Xr _ _ _ _ _ _) ?_;simp [go_sem,vl,vt,vlb,vtb,v3,v3b,y6,iz,hzl,hzl',q1,q2];refine C4 [0,1,2,3,5,6,7,8] [4,9,10,11,12,13] [0,1,2,3,5,6,7,8] (.alt (ah 4 (.alt (ai 9 (.alt (ag [10,11,12,13]) (ag [11,10,12,13]))) (.alt (ah 10 (.alt (ag [9,11,12,13]) (ah 11 (ag [9,12,13])))) (ah 11 (.alt (ag [9,10,12,13]) (ah 10 (ag [9,12,13]))))))) (.alt (ah 10 (.alt (ah 4 (.alt (ag [9,11,12,13]) (ah 11 (ag [9,12,13])))) (ah 11 (ah 4 (ag [9,12,13]))))) (ah 11 (.alt (ah 4 (.alt (ag [9,10,12,13]) (ah 10 (ag [9,12,13])))) (ah 10 (ah 4 (ag [9,12,13]))))))) ⟨[(2,.ptr 0 0 0 1),(3,.ptr 32 0 0 1),(4,.ptr 64 0 0 1),(5,.ptr 672 0 0 1),(6,.ptr 704 0 0 1)],[(704,⟨160,4,[cI py]⟩),(672,⟨160,4,[cI px]⟩),(64,⟨208,12,[cV zI zI zI]⟩),(32,⟨208,12,[cV x' y' z']⟩),(0,⟨208,12,[cV x y z]⟩)],4000⟩ (k:=14) ?h3 ?hq
   case h3 =>
    intro G hG
    have hW:∀ (fr:Fr) (hp:Hp),(fv 2 fr=.ptr 0 0 0 1∧fv 3 fr=.ptr 32 0 0 1∧fv 4 fr=.ptr 64 0 0 1∧fv 5 fr=.ptr 672 0 0 1∧fv 6 fr=.ptr 704 0 0 1∧lk 704 hp=some ⟨160,4,[cI py]⟩∧lk 672 hp=some ⟨160,4,[cI px]⟩∧lk 64 hp=some ⟨208,12,[cV zI zI zI]⟩∧lk 32 hp=some ⟨208,12,[cV x' y' z']⟩∧lk 0 hp=some ⟨208,12,[cV x y z]⟩)→G fr hp:=by
     rintro fr hp ⟨q0,q1,q2,q3,q4,q5,q6,q7,q8,q9⟩;exact hG _ _ Rz
    simp [go_sem,v1,v2',v3,vl,v1b,v2b,v3b,vlb,l1,l2,a8 l1,a8 l2,z4,A6]
    repeat' first | exact hW _ _ ⟨rfl,rfl,rfl,rfl,rfl,rfl,rfl,rfl,rfl,rfl⟩ | (refine hW _ _ ?_;simp [fv,lk];done) | refine a9 f1 (d5 _ _) ?_ | refine a9 f2 (d5 _ _) ?_ | apply And.intro | simp [go_sem,v1,v2',v3,vl,v1b,v2b,v3b,vlb,l1,l2,a8 l1,a8 l2,z4,A6]
   case hq =>
    simp [go_sem];refine C4 [0,1,2,3,5] [4,6,7,8] [0,1,2,3,5] (.alt (ah 4 (.alt (ag [6,7,8]) (ah 7 (ag [6,8])))) (ah 7 (ah 4 (ag [6,8])))) ⟨[(2,.ptr 0 0 0 1),(3,.ptr 32 0 0 1),(4,.ptr 64 0 0 1),(5,.ptr 672 0 0 1),(6,.ptr 704 0 0 1),(7,.ptr 4224 0 0 1)],[(4224,⟨160,4,[cI u]⟩),(704,⟨160,4,[cI py]⟩),(672,⟨160,4,[cI px]⟩),(64,⟨208,12,[cV zI zI zI]⟩),(32,⟨208,12,[cV x' y' z']⟩),(0,⟨208,12,[cV x y z]⟩)],9000⟩ (k:=9) ?h3 ?hq
    case h3 =>
     intro G hG
     have hW:∀ (fr:Fr) (hp:Hp),(fv 2 fr=.ptr 0 0 0 1∧fv 3 fr=.ptr 32 0 0 1∧fv 4 fr=.ptr 64 0 0 1∧fv 5 fr=.ptr 672 0 0 1∧fv 6 fr=.ptr 704 0 0 1∧fv 7 fr=.ptr 4224 0 0 1∧lk 4224 hp=some ⟨160,4,[cI u]⟩∧lk 704 hp=some ⟨160,4,[cI py]⟩∧lk 672 hp=some ⟨160,4,[cI px]⟩∧lk 64 hp=some ⟨208,12,[cV zI zI zI]⟩∧lk 32 hp=some ⟨208,12,[cV x' y' z']⟩∧lk 0 hp=some ⟨208,12,[cV x y z]⟩)→G fr hp:=by
      rintro fr hp ⟨q0,q1,q2,q3,q4,q5,q6,q7,q8,q9,q10,q11⟩;exact hG _ _ Rz
     simp [go_sem,v1,v2',v3,vl,v1b,v2b,v3b,vlb,l2,l4,a8 l2,a8 l4,z4,A6]
     repeat' first | exact hW _ _ ⟨rfl,rfl,rfl,rfl,rfl,rfl,rfl,rfl,rfl,rfl,rfl,rfl⟩ | (refine hW _ _ ?_;simp [fv,lk];done) | refine a9 f3 (d5 _ _) ?_ | refine a9 f4 (d5 _ _) ?_ | apply And.intro | simp [go_sem,v1,v2',v3,vl,v1b,v2b,v3b,vlb,l2,l4,a8 l2,a8 l4,z4,A6]
    case hq =>
     simp [go_sem];refine C4 [0,1,2,3,5] [4,6,7,8] [0,1,2,3,5] (.alt (ah 4 (.alt (ag [6,7,8]) (ah 7 (ag [6,8])))) (ah 7 (ah 4 (ag [6,8])))) ⟨[(2,.ptr 0 0 0 1),(3,.ptr 32 0 0 1),(4,.ptr 64 0 0 1),(5,.ptr 672 0 0 1),(6,.ptr 704 0 0 1),(7,.ptr 4224 0 0 1),(8,.ptr 9224 0 0 1)],[(9224,⟨160,4,[cI v]⟩),(4224,⟨160,4,[cI u]⟩),(704,⟨160,4,[cI py]⟩),(672,⟨160,4,[cI px]⟩),(64,⟨208,12,[cV zI zI zI]⟩),(32,⟨208,12,[cV x' y' z']⟩),(0,⟨208,12,[cV x y z]⟩)],20000⟩ (k:=9) ?h3 ?hq
     case h3 =>
      intro G hG
      have hW:∀ (fr:Fr) (hp:Hp),(fv 2 fr=.ptr 0 0 0 1∧fv 3 fr=.ptr 32 0 0 1∧fv 4 fr=.ptr 64 0 0 1∧fv 5 fr=.ptr 672 0 0 1∧fv 6 fr=.ptr 704 0 0 1∧fv 7 fr=.ptr 4224 0 0 1∧fv 8 fr=.ptr 9224 0 0 1∧lk 9224 hp=some ⟨160,4,[cI v]⟩∧lk 4224 hp=some ⟨160,4,[cI u]⟩∧lk 704 hp=some ⟨160,4,[cI py]⟩∧lk 672 hp=some ⟨160,4,[cI px]⟩∧lk 64 hp=some ⟨208,12,[cV zI zI zI]⟩∧lk 32 hp=some ⟨208,12,[cV x' y' z']⟩∧lk 0 hp=some ⟨208,12,[cV x y z]⟩)→G fr hp:=by
       rintro fr hp ⟨q0,q1,q2,q3,q4,q5,q6,q7,q8,q9,q10,q11,q12,q13⟩;exact hG _ _ Rz
      simp [go_sem,v1,v2',v3,vl,v1b,v2b,v3b,vlb,l1,l6,a8 l1,a8 l6,z4,A6]
      repeat' first | exact hW _ _ ⟨rfl,rfl,rfl,rfl,rfl,rfl,rfl,rfl,rfl,rfl,rfl,rfl,rfl,rfl⟩ | (refine hW _ _ ?_;simp [fv,lk];done) | refine a9 f5 (d5 _ _) ?_ | refine a9 f6 (d5 _ _) ?_ | apply And.intro | simp [go_sem,v1,v2',v3,vl,v1b,v2b,v3b,vlb,l1,l6,a8 l1,a8 l6,z4,A6]
     case hq =>
      simp [go_sem,l6,l4,a8 l6,a8 l4,y6,iz,q3,q4,a8 (l:=zI) (n:=4) rfl,Xm,wl,wd,d7];exact Rq (x:=zI) (y:=zI) (z:=zI) rfl
 ·refine ⟨X,Y,Z,h20,h19,h21,fun hj hj'=>?_,?_⟩
  ·obtain ⟨_,e⟩:=(main hj hj').1 (fun h=>q3 (hv0.1 h));have eZ:FV Z=FV v*FV v*FV v*(FV z*FV z'):=by rw [g21.2,g9.2,g8.2,g7.2]
   have eX:FV X=FV v*(FV u*FV u*(FV z*FV z') - FV v*FV v*FV v - (FV v*FV v*FV px+FV v*FV v*FV px)):=by rw [g20.2,g15.2,g13.2,g12.2,g11.2,g14.2,g10.2,g9.2,g8.2,g7.2]
   have eY:FV Y=FV u*(FV v*FV v*FV px - (FV u*FV u*(FV z*FV z') - FV v*FV v*FV v - (FV v*FV v*FV px+FV v*FV v*FV px))) - FV v*FV v*FV v*FV py:=by rw [g19.2,g17.2,g16.2,g15.2,g13.2,g12.2,g11.2,g14.2,g10.2,g18.2,g9.2,g8.2,g7.2]
   have e2:FrV X Y Z=sum fd (FrV x y z) (FrV x' y' z'):=by
    show fr fd (FV X) (FV Y) (FV Z)=_;rw [eX,eY,eZ];exact e
   exact ⟨⟨⟨g20.1,g19.1,g21.1⟩,by rw [e2];exact TY fd hj.2 hj'.2⟩,e2⟩
  refine t6 Tryz.func185 Tryz.ntmps185 (rs:=[.cell 4 208]) (Xr _ _ _ _ _ _) ?_;simp [go_sem,vl,vt,vlb,vtb,v3,v3b,y6,iz,hzl,hzl',q1,q2];refine C4 [0,1,2,3,5,6,7,8] [4,9,10,11,12,13] [0,1,2,3,5,6,7,8] (.alt (ah 4 (.alt (ai 9 (.alt (ag [10,11,12,13]) (ag [11,10,12,13]))) (.alt (ah 10 (.alt (ag [9,11,12,13]) (ah 11 (ag [9,12,13])))) (ah 11 (.alt (ag [9,10,12,13]) (ah 10 (ag [9,12,13]))))))) (.alt (ah 10 (.alt (ah 4 (.alt (ag [9,11,12,13]) (ah 11 (ag [9,12,13])))) (ah 11 (ah 4 (ag [9,12,13]))))) (ah 11 (.alt (ah 4 (.alt (ag [9,10,12,13]) (ah 10 (ag [9,12,13])))) (ah 10 (ah 4 (ag [9,12,13]))))))) ⟨[(2,.ptr 0 0 0 1),(3,.ptr 32 0 0 1),(4,.ptr 64 0 0 1),(5,.ptr 672 0 0 1),(6,.ptr 704 0 0 1)],[(704,⟨160,4,[cI py]⟩),(672,⟨160,4,[cI px]⟩),(64,⟨208,12,[cV zI zI zI]⟩),(32,⟨208,12,[cV x' y' z']⟩),(0,⟨208,12,[cV x y z]⟩)],4000⟩ (k:=14) ?h3 ?hq
  case h3 =>
   intro G hG
   have hW:∀ (fr:Fr) (hp:Hp),(fv 2 fr=.ptr 0 0 0 1∧fv 3 fr=.ptr 32 0 0 1∧fv 4 fr=.ptr 64 0 0 1∧fv 5 fr=.ptr 672 0 0 1∧fv 6 fr=.ptr 704 0 0 1∧lk 704 hp=some ⟨160,4,[cI py]⟩∧lk 672 hp=some ⟨160,4,[cI px]⟩∧lk 64 hp=some ⟨208,12,[cV zI zI zI]⟩∧lk 32 hp=some ⟨208,12,[cV x' y' z']⟩∧lk 0 hp=some ⟨208,12,[cV x y z]⟩)→G fr hp:=by
    rintro fr hp ⟨q0,q1,q2,q3,q4,q5,q6,q7,q8,q9⟩;exact hG _ _ Rz
   simp [go_sem,v1,v2',v3,vl,v1b,v2b,v3b,vlb,l1,l2,a8 l1,a8 l2,z4,A6]
   repeat' first | exact hW _ _ ⟨rfl,rfl,rfl,rfl,rfl,rfl,rfl,rfl,rfl,rfl⟩ | (refine hW _ _ ?_;simp [fv,lk];done) | refine a9 f1 (d5 _ _) ?_ | refine a9 f2 (d5 _ _) ?_ | apply And.intro | simp [go_sem,v1,v2',v3,vl,v1b,v2b,v3b,vlb,l1,l2,a8 l1,a8 l2,z4,A6]
  case hq =>
   simp [go_sem];refine C4 [0,1,2,3,5] [4,6,7,8] [0,1,2,3,5] (.alt (ah 4 (.alt (ag [6,7,8]) (ah 7 (ag [6,8])))) (ah 7 (ah 4 (ag [6,8])))) ⟨[(2,.ptr 0 0 0 1),(3,.ptr 32 0 0 1),(4,.ptr 64 0 0 1),(5,.ptr 672 0 0 1),(6,.ptr 704 0 0 1),(7,.ptr 4224 0 0 1)],[(4224,⟨160,4,[cI u]⟩),(704,⟨160,4,[cI py]⟩),(672,⟨160,4,[cI px]⟩),(64,⟨208,12,[cV zI zI zI]⟩),(32,⟨208,12,[cV x' y' z']⟩),(0,⟨208,12,[cV x y z]⟩)],9000⟩ (k:=9) ?h3 ?hq
   case h3 =>
    intro G hG
    have hW:∀ (fr:Fr) (hp:Hp),(fv 2 fr=.ptr 0 0 0 1∧fv 3 fr=.ptr 32 0 0 1∧fv 4 fr=.ptr 64 0 0 1∧fv 5 fr=.ptr 672 0 0 1∧fv 6 fr=.ptr 704 0 0 1∧fv 7 fr=.ptr 4224 0 0 1∧lk 4224 hp=some ⟨160,4,[cI u]⟩∧lk 704 hp=some ⟨160,4,[cI py]⟩∧lk 672 hp=some ⟨160,4,[cI px]⟩∧lk 64 hp=some ⟨208,12,[cV zI zI zI]⟩∧lk 32 hp=some ⟨208,12,[cV x' y' z']⟩∧lk 0 hp=some ⟨208,12,[cV x y z]⟩)→G fr hp:=by
     rintro fr hp ⟨q0,q1,q2,q3,q4,q5,q6,q7,q8,q9,q10,q11⟩;exact hG _ _ Rz
    simp [go_sem,v1,v2',v3,vl,v1b,v2b,v3b,vlb,l2,l4,a8 l2,a8 l4,z4,A6]
    repeat' first | exact hW _ _ ⟨rfl,rfl,rfl,rfl,rfl,rfl,rfl,rfl,rfl,rfl,rfl,rfl⟩ | (refine hW _ _ ?_;simp [fv,lk];done) | refine a9 f3 (d5 _ _) ?_ | refine a9 f4 (d5 _ _) ?_ | apply And.intro | simp [go_sem,v1,v2',v3,vl,v1b,v2b,v3b,vlb,l2,l4,a8 l2,a8 l4,z4,A6]
   case hq =>
    simp [go_sem];refine C4 [0,1,2,3,5] [4,6,7,8] [0,1,2,3,5] (.alt (ah 4 (.alt (ag [6,7,8]) (ah 7 (ag [6,8])))) (ah 7 (ah 4 (ag [6,8])))) ⟨[(2,.ptr 0 0 0 1),(3,.ptr 32 0 0 1),(4,.ptr 64 0 0 1),(5,.ptr 672 0 0 1),(6,.ptr 704 0 0 1),(7,.ptr 4224 0 0 1),(8,.ptr 9224 0 0 1)],[(9224,⟨160,4,[cI v]⟩),(4224,⟨160,4,[cI u]⟩),(704,⟨160,4,[cI py]⟩),(672,⟨160,4,[cI px]⟩),(64,⟨208,12,[cV zI zI zI]⟩),(32,⟨208,12,[cV x' y' z']⟩),(0,⟨208,12,[cV x y z]⟩)],20000⟩ (k:=9) ?h3 ?hq
    case h3 =>
     intro G hG
     have hW:∀ (fr:Fr) (hp:Hp),(fv 2 fr=.ptr 0 0 0 1∧fv 3 fr=.ptr 32 0 0 1∧fv 4 fr=.ptr 64 0 0 1∧fv 5 fr=.ptr 672 0 0 1∧fv 6 fr=.ptr 704 0 0 1∧fv 7 fr=.ptr 4224 0 0 1∧fv 8 fr=.ptr 9224 0 0 1∧lk 9224 hp=some ⟨160,4,[cI v]⟩∧lk 4224 hp=some ⟨160,4,[cI u]⟩∧lk 704 hp=some ⟨160,4,[cI py]⟩∧lk 672 hp=some ⟨160,4,[cI px]⟩∧lk 64 hp=some ⟨208,12,[cV zI zI zI]⟩∧lk 32 hp=some ⟨208,12,[cV x' y' z']⟩∧lk 0 hp=some ⟨208,12,[cV x y z]⟩)→G fr hp:=by
      rintro fr hp ⟨q0,q1,q2,q3,q4,q5,q6,q7,q8,q9,q10,q11,q12,q13⟩;exact hG _ _ Rz
     simp [go_sem,v1,v2',v3,vl,v1b,v2b,v3b,vlb,l1,l6,a8 l1,a8 l6,z4,A6]
     repeat' first | exact hW _ _ ⟨rfl,rfl,rfl,rfl,rfl,rfl,rfl,rfl,rfl,rfl,rfl,rfl,rfl,rfl⟩ | (refine hW _ _ ?_;simp [fv,lk];done) | refine a9 f5 (d5 _ _) ?_ | refine a9 f6 (d5 _ _) ?_ | apply And.intro | simp [go_sem,v1,v2',v3,vl,v1b,v2b,v3b,vlb,l1,l6,a8 l1,a8 l6,z4,A6]
    case hq =>
     simp [go_sem,l6,a8 l6,y6,iz,q3,vl,vlb,v3,v3b];refine a9 f7 (d5 _ _) ?_;simp [go_sem,l7,a8 l7,z4,l6,a8 l6];refine a9 f8 (d5 _ _) ?_;simp [go_sem,l8,a8 l8,z4,l6,a8 l6];refine a9 f9 (d5 _ _) ?_;simp [go_sem,l9,a8 l9,z4,l8,a8 l8,l1,a8 l1];refine a9 f10 (d5 _ _) ?_;simp [go_sem,l10,a8 l10,z4];refine C4 [0,1,3,5,7,8] [2,4,6,9,10,11,12] [0,1,3,5,7,8] (.alt (ah 2 (.alt (ah 4 (.alt (ah 6 (.alt (ai 9 (.alt (ag [10,11,12]) (ag [11,10,12]))) (ah 11 (ag [9,10,12])))) (ah 11 (ah 6 (ag [9,10,12]))))) (ah 11 (ah 4 (ah 6 (ag [9,10,12])))))) (ah 11 (ah 2 (ah 4 (ah 6 (ag [9,10,12])))))) ⟨[(4,.ptr 64 0 0 1),(6,.ptr 704 0 0 1),(7,.ptr 4224 0 0 1),(8,.ptr 9224 0 0 1),(9,.ptr 20256 0 0 1),(11,.ptr 20576 0 0 1),(12,.ptr 20736 0 0 1),(13,.ptr 21152 0 0 1)],[(21152,⟨160,4,[cI a]⟩),(20736,⟨160,4,[cI r]⟩),(20576,⟨160,4,[cI v3w]⟩),(20256,⟨160,4,[cI zz]⟩),(9224,⟨160,4,[cI v]⟩),(4224,⟨160,4,[cI u]⟩),(704,⟨160,4,[cI py]⟩),(64,⟨208,12,[cV zI zI zI]⟩)],30000⟩ (k:=13) ?h3 ?hq
     case h3 =>
      intro G hG
      have hW:∀ (fr:Fr) (hp:Hp),(fv 4 fr=.ptr 64 0 0 1∧fv 6 fr=.ptr 704 0 0 1∧fv 7 fr=.ptr 4224 0 0 1∧fv 8 fr=.ptr 9224 0 0 1∧fv 9 fr=.ptr 20256 0 0 1∧fv 11 fr=.ptr 20576 0 0 1∧fv 12 fr=.ptr 20736 0 0 1∧fv 13 fr=.ptr 21152 0 0 1∧lk 21152 hp=some ⟨160,4,[cI a]⟩∧lk 20736 hp=some ⟨160,4,[cI r]⟩∧lk 20576 hp=some ⟨160,4,[cI v3w]⟩∧lk 20256 hp=some ⟨160,4,[cI zz]⟩∧lk 9224 hp=some ⟨160,4,[cI v]⟩∧lk 4224 hp=some ⟨160,4,[cI u]⟩∧lk 704 hp=some ⟨160,4,[cI py]⟩∧lk 64 hp=some ⟨208,12,[cV zI zI zI]⟩)→G fr hp:=by
       rintro fr hp ⟨q0,q1,q2,q3,q4,q5,q6,q7,q8,q9,q10,q11,q12,q13,q14,q15⟩;exact hG _ _ Rz
      simp [go_sem,l4,l7,l9,l10,l15,a8 l4,a8 l7,a8 l9,a8 l10,a8 l15,z4,A6]
      repeat' first | exact hW _ _ ⟨rfl,rfl,rfl,rfl,rfl,rfl,rfl,rfl,rfl,rfl,rfl,rfl,rfl,rfl,rfl,rfl⟩ | (refine hW _ _ ?_;simp [fv,lk];done) | refine a9 f11 (d5 _ _) ?_ | refine a9 f12 (d5 _ _) ?_ | refine a9 f13 (d5 _ _) ?_ | refine a9 f14 (d5 _ _) ?_ | refine a9 f15 (d5 _ _) ?_ | apply And.intro | simp [go_sem,l4,l7,l9,l10,l15,a8 l4,a8 l7,a8 l9,a8 l10,a8 l15,z4,A6]
     case hq =>
      simp [go_sem];refine C4 [0,1,2,5,6] [3,4,7,8,9,10] [0,1,2,5,6] (.alt (ah 3 (.alt (ah 4 (.alt (ai 7 (.alt (ag [8,9,10]) (ag [9,8,10]))) (ah 9 (ag [7,8,10])))) (ah 9 (ah 4 (ag [7,8,10]))))) (ah 9 (ah 3 (ah 4 (ag [7,8,10]))))) ⟨[(4,.ptr 64 0 0 1),(8,.ptr 9224 0 0 1),(9,.ptr 20256 0 0 1),(11,.ptr 20576 0 0 1),(13,.ptr 21152 0 0 1),(14,.ptr 30288 0 0 1)],[(30288,⟨160,4,[cI Y]⟩),(21152,⟨160,4,[cI a]⟩),(20576,⟨160,4,[cI v3w]⟩),(20256,⟨160,4,[cI zz]⟩),(9224,⟨160,4,[cI v]⟩),(64,⟨208,12,[cV zI zI zI]⟩)],40000⟩ (k:=11) ?h3 ?hq
      case h3 =>
       intro G hG
       have hW:∀ (fr:Fr) (hp:Hp),(fv 4 fr=.ptr 64 0 0 1∧fv 8 fr=.ptr 9224 0 0 1∧fv 9 fr=.ptr 20256 0 0 1∧fv 11 fr=.ptr 20576 0 0 1∧fv 13 fr=.ptr 21152 0 0 1∧fv 14 fr=.ptr 30288 0 0 1∧lk 30288 hp=some ⟨160,4,[cI Y]⟩∧lk 21152 hp=some ⟨160,4,[cI a]⟩∧lk 20576 hp=some ⟨160,4,[cI v3w]⟩∧lk 20256 hp=some ⟨160,4,[cI zz]⟩∧lk 9224 hp=some ⟨160,4,[cI v]⟩∧lk 64 hp=some ⟨208,12,[cV zI zI zI]⟩)→G fr hp:=by
        rintro fr hp ⟨q0,q1,q2,q3,q4,q5,q6,q7,q8,q9,q10,q11⟩;exact hG _ _ Rz
       simp [go_sem,l4,l10,l15,l9,l2,l19,a8 l4,a8 l10,a8 l15,a8 l9,a8 l2,a8 l19,z4,A6]
       repeat' first | exact hW _ _ ⟨rfl,rfl,rfl,rfl,rfl,rfl,rfl,rfl,rfl,rfl,rfl,rfl⟩ | (refine hW _ _ ?_;simp [fv,lk];done) | refine a9 f16 (d5 _ _) ?_ | refine a9 f17 (d5 _ _) ?_ | refine a9 f18 (d5 _ _) ?_ | refine a9 f19 (d5 _ _) ?_ | apply And.intro | simp [go_sem,l4,l10,l15,l9,l2,l19,a8 l4,a8 l10,a8 l15,a8 l9,a8 l2,a8 l19,z4,A6]
      case hq =>
       simp [go_sem];refine B7 [0,1,3,4,5] [(2,[]),(6,[7]),(8,[])] 2 (k:=9) ?_;intro G hG;simp [go_sem,l6,l15,l19,l9,l7,a8 l6,a8 l15,a8 l19,a8 l9,a8 l7];refine a9 f20 (d5 _ _) ?_;simp [go_sem,l9,l7,l19,a8 l9,a8 l7,a8 l19];refine a9 f21 (d5 _ _) ?_;have ev:cI X ++ (cI Y ++ cI Z)=cV X Y Z:=rfl;have xl:=B5 l20 l19 l21;have xt:=y7 l20 l19 l21;simp [go_sem,l20,l19,l21,wl,wd,mk8 l20 l19,aps l20 l19,ev,xl,A6];refine hG _ _ ?_;simp [go_sem,xl,xt,d7];exact Rq rfl
abbrev XG:=List Int × List Int × List Int
def W3r (s:XG):Prop:=Wn 4 s.1∧Wn 4 s.2.1∧Wn 4 s.2.2
def VH (s:XG):Prop:=isF s.1 s.2.1 s.2.2
noncomputable def FrV3 (s:XG):Pt pP:=FrV s.1 s.2.1 s.2.2
theorem ax3:∃ D:XG→XG,∀ s,W3r s→W3r (D s)∧(VH s→VH (D s)∧FrV3 (D s)=sum fd (FrV3 s) (FrV3 s))∧m6 Tryz.prog 183 [.agg (cV s.1 s.2.1 s.2.2)] (fun r=>r=.agg (cV (D s).1 (D s).2.1 (D s).2.2)) :=
 pick (α:=XG) (β:=XG) (A:=W3r) (B:=fun s t=>W3r t∧(VH s→VH t∧FrV3 t=sum fd (FrV3 s) (FrV3 s))∧m6 Tryz.prog 183 [.agg (cV s.1 s.2.1 s.2.2)] (fun r=>r=.agg (cV t.1 t.2.1 t.2.2))) (fun s hs=>by
  obtain ⟨u,v,w,h1,h2,h3,h4,h5⟩:=am4 s.1 s.2.1 s.2.2 hs.1 hs.2.1 hs.2.2
  exact ⟨(u,v,w),⟨h1,h2,h3⟩,h4,h5⟩)
theorem ax4:∃ D:XG × XG→XG,∀ s,(W3r s.1∧W3r s.2)→W3r (D s)∧(VH s.1→VH s.2→VH (D s)∧FrV3 (D s)=sum fd (FrV3 s.1) (FrV3 s.2))∧m6 Tryz.prog 185 [.agg (cV s.1.1 s.1.2.1 s.1.2.2),.agg (cV s.2.1 s.2.2.1 s.2.2.2)] (fun r=>r=.agg (cV (D s).1 (D s).2.1 (D s).2.2)) :=
 pick (α:=XG × XG) (β:=XG) (A:=fun s=>W3r s.1∧W3r s.2) (B:=fun s t=>W3r t∧(VH s.1→VH s.2→VH t∧FrV3 t=sum fd (FrV3 s.1) (FrV3 s.2))∧m6 Tryz.prog 185 [.agg (cV s.1.1 s.1.2.1 s.1.2.2),.agg (cV s.2.1 s.2.2.1 s.2.2.2)] (fun r=>r=.agg (cV t.1 t.2.1 t.2.2))) (fun s hs=>by
  obtain ⟨u,v,w,h1,h2,h3,h4,h5⟩:=avS s.1.1 s.1.2.1 s.1.2.2 s.2.1 s.2.2.1 s.2.2.2 hs.1.1 hs.1.2.1 hs.1.2.2 hs.2.1 hs.2.2.1 hs.2.2.2
  exact ⟨(u,v,w),⟨h1,h2,h3⟩,h4,h5⟩)
def Vp (D:XG→XG) (A:XG × XG→XG) (k:List Int) (one:XG) (n j:Nat) (s:XG):XG:=if btN k (n - 1 - j)=1 then A (D s,one) else D s
theorem aiq {D:XG→XG} {A:XG × XG→XG} (hD:∀ s,W3r s→W3r (D s)∧(VH s→VH (D s)∧FrV3 (D s)=sum fd (FrV3 s) (FrV3 s))) (hA:∀ s:XG × XG,(W3r s.1∧W3r s.2)→W3r (A s)∧(VH s.1→VH s.2→VH (A s)∧FrV3 (A s)=sum fd (FrV3 s.1) (FrV3 s.2)))
  {k:List Int} (hk:Wn 4 k) {one:XG} (h1:W3r one) (j1:VH one) {n:Nat} (hn:(V k).toNat<2 ^ n):∀ j,j≤n→W3r (A4 (Vp D A k one n) (zI,zI,zI) j)∧VH (A4 (Vp D A k one n) (zI,zI,zI) j)∧FrV3 (A4 (Vp D A k one n) (zI,zI,zI) j)=mp fd ((V k).toNat / 2 ^ (n - j)) (FrV3 one)
 | 0,_=>by
  refine ⟨⟨H4,H4,H4⟩,am3,?_⟩;rw [Nat.sub_zero,Nat.div_eq_of_lt hn];exact acn zI zI
 | j+1,hj=>by
  obtain ⟨i1,i2,i3⟩:=aiq hD hA hk h1 j1 hn j aa;rw [A4];generalize A4 (Vp D A k one n) (zI,zI,zI) j=s at *;obtain ⟨d1,d2⟩:=hD s i1;obtain ⟨d3,d4⟩:=d2 i2;obtain ⟨a1,a2⟩:=hA (D s,one) ⟨d1,h1⟩;obtain ⟨a3,a4⟩:=a2 d3 j1;have e:n - j=(n - 1 - j)+1:=aa;have e2:n - (j+1)=n - 1 - j:=aa;have h3:(V k).toNat / 2 ^ (n - j)=(V k).toNat / 2 ^ (n - 1 - j) / 2:=by rw [e,Nat.pow_succ,← Nat.div_div_eq_div_mul]
  have hb:btN k (n - 1 - j)=(V k).toNat / 2 ^ (n - 1 - j) % 2:=rfl;rw [h3] at i3;unfold Vp;rw [e2,hb];generalize (V k).toNat / 2 ^ (n - 1 - j)=N at *;have ho:RZ (FrV3 one):=j1.2;have sq:FrV3 (D s)=mp fd (2*(N / 2)) (FrV3 one):=by rw [d4,i3,adq fd ho]
  by_cases h5:N % 2=1
  ·rw [if_pos h5];refine ⟨a1,a3,?_⟩;rw [a4];show sum fd (FrV3 (D s)) (FrV3 one)=_;have hN:N=2*(N / 2)+1:=aa;rw [sq];have hm:=adp fd ho (2*(N / 2)) 1;rw [amd fd ho] at hm;rw [← hm,← hN]
  ·rw [if_neg h5];refine ⟨d1,d3,?_⟩;rw [sq];congr 1;omega
theorem apM (x y:List Int):FrV x y K1=some (FV x,FV y):=by
 show fr fd (FV x) (FV y) (FV K1)=_;rw [amy];exact amo fd ae7 (by generalize FV x=a;grobner) (by generalize FV y=a;grobner)
theorem air {x y:List Int} (h:L2 x y false):isF x y K1∧FrV x y K1=PV x y false:=by
 have e:FrV x y K1=PV x y false:=apM x y;have ho:=TA h;rcases h with ⟨h,_⟩ | ⟨_,h1,h2,_⟩
 ·cases h
 ·exact ⟨⟨⟨h1,h2,by rw [acd];decide⟩,by rw [e];exact ho⟩,e⟩
theorem adH (k x y:List Int) (c:Bool):∀ v,v ∈ [AV.agg (cI k),AV.agg (cP x y c)]→v.deep:=by
 intro v hv;simp at hv;rcases hv with rfl | rfl
 ·exact N7 _
 ·exact Vl _ _ _
theorem avT (k x y:List Int) (c:Bool) (hk:Wn 4 k) (hx:Wn 4 x) (hy:Wn 4 y) (hp:L2 x y c):∃ (u v:List Int) (b:Bool),Wn 4 u∧Wn 4 v∧L2 u v b∧PV u v b=mp fd (V k).toNat (PV x y c)∧m6 Tryz.prog 131 [.agg (cI k),.agg (cP x y c)] (fun r=>r=.agg (cP u v b)):=by
 obtain ⟨D,hD⟩:=ax3;obtain ⟨A,hA⟩:=ax4;obtain ⟨x1,y1,b1,hx1,hy1,t1,f1⟩:=am2 x y c hx hy;obtain ⟨rfl,rfl,rfl⟩:=t1.2.1 hp;obtain ⟨n,hn,vn,f2⟩:=apG k hk;have hw0:IntKind.i64.wrap ((n:Int) - 1)=ixD n:=TW n aa;have hkl:=hk.1;have hxl:=hx.1;have hyl:=hy.1;have z4:List.drop 4 (cI zI)=[]:=i9 rfl;have pd:(cP zI zI false).drop 9=[]:=L5 rfl rfl _;have zl2:(cP zI zI false).length=9:=rfl;have iz:C0 .u64 [AV.d (.int .u64 0),AV.d (.int .u64 0),AV.d (.int .u64 0),AV.d (.int .u64 0)]=some zI:=y6 zI;have hol:K1.length=4:=rfl;have pl:=rP hxl hyl b1;have pt:=t4 hxl hyl b1;have pdr:=L5 hxl hyl b1;have pb:=VG hxl hyl b1;have pg:=V1 hxl hyl b1;have e1':(cP x1 y1 b1).take 4=cI x1:=ae6 hxl _;have e2':((cP x1 y1 b1).drop 4).take 4=cI y1:=ajv hxl hyl _
 obtain ⟨one,hone,jone,vone,e1e⟩:∃ one:XG,W3r one∧VH one∧FrV3 one=PV x1 y1 b1∧one=(if b1 then (zI,zI,zI) else (x1,y1,K1)):=by
  cases b1
  ·exact ⟨(x1,y1,K1),⟨hx,hy,YU⟩,(air hp).1,(air hp).2,rfl⟩
  ·exact ⟨(zI,zI,zI),⟨H4,H4,H4⟩,am3,acn zI zI,rfl⟩
 have hS:=aiq (fun s hs=>⟨(hD s hs).1,(hD s hs).2.1⟩) (fun s hs=>⟨(hA s hs).1,(hA s hs).2.1⟩) hk hone jone vn;obtain ⟨w1,w2,w3⟩:=hS n (av n);rw [Nat.sub_self,Nat.pow_zero,Nat.div_one,vone] at w3;obtain ⟨zi,hzi,vzi,f3⟩:=as5 _ w1.2.2;obtain ⟨X,hX,vX,f4⟩:=K7 _ zi w1.1 hzi;obtain ⟨Y,hY,vY,f5⟩:=K7 _ zi w1.2.1 hzi;unfold W1 at f3;unfold W2 at f4 f5
 have hpx:(A4 (Vp D A k one n) (zI,zI,zI) n).2.2 ≠ zI→L2 X Y false∧PV X Y false=mp fd (V k).toNat (PV x1 y1 b1):=by
  intro h0;have hz0:FV (A4 (Vp D A k one n) (zI,zI,zI) n).2.2 ≠ 0:=fun h=>h0 ((RD w1.2.2 w2.1.2.2).1 h)
  have e:PV X Y false=FrV3 (A4 (Vp D A k one n) (zI,zI,zI) n):=by
   show some (FV X,FV Y)=fr fd _ _ _;unfold fr;rw [if_neg hz0,vX.2,vY.2,vzi.2]
  have ho:RZ (PV X Y false):=by rw [e];exact w2.2
  exact ⟨.inr ⟨rfl,vX.1,vY.1,ho⟩,by rw [e,w3]⟩
 have hp0:(A4 (Vp D A k one n) (zI,zI,zI) n).2.2=zI→none=mp fd (V k).toNat (PV x1 y1 b1):=by
  intro h0;rw [← w3];show none=fr fd _ _ (FV (A4 (Vp D A k one n) (zI,zI,zI) n).2.2);rw [h0,Xp];exact (apo fd _ _).symm
 have key:∀ r:List Int × List Int × Bool,((A4 (Vp D A k one n) (zI,zI,zI) n).2.2=zI→r=(zI,zI,true))→((A4 (Vp D A k one n) (zI,zI,zI) n).2.2 ≠ zI→r=(X,Y,false))→m6 Tryz.prog 131 [.agg (cI k),.agg (cP x1 y1 b1)] (fun q=>q=.agg (cP r.1 r.2.1 r.2.2)):=by
  intro r e0 e1;refine t6 Tryz.func131 Tryz.ntmps131 (rs:=[.cell 4 162]) (adH _ _ _ _) ?_;simp [go_sem,hkl,a8 hkl,pl,pt];refine a9 f1 (B4 _ _ _) ?_
  cases b1
  ·have hm:=mkV hxl hyl;simp [go_sem,pl,pt,pdr,pb,pg,e1',e2',hxl,hyl,a8 hxl,a8 hyl];have hvl:=B5 hxl hyl hol;have hvt:=y7 hxl hyl hol;have e1f:one=(x1,y1,K1):=e1e;subst e1f;simp [go_sem,hkl,a8 hkl];refine a9 f2 (m9 _) ?_;simp [go_sem,hw0];generalize hSS:A4 (Vp D A k (x1,y1,K1) n) (zI,zI,zI)=S at *
   refine j9 (fun t:Nat=>⟨[(2,.ptr 0 0 0 1),(4,.ptr 64 0 0 1),(5,.ptr 384 0 0 1),(6,.ptr 544 0 0 1),(7,.d (.int .i64 (ixD t)))],[(544,⟨208,12,[cV (S (n - t)).1 (S (n - t)).2.1 (S (n - t)).2.2]⟩),(384,⟨208,12,[cV (x1,y1,K1).1 (x1,y1,K1).2.1 (x1,y1,K1).2.2]⟩),(64,⟨162,9,[cP zI zI false]⟩),(0,⟨160,4,[cI k]⟩)],3000⟩)
    (fun t=>t≤n) (fun t=>t) n (av n) (by
     rw [Nat.sub_self,← hSS];simp [m7,c6,fv,lk,AV.low,AV.low1,A4]
     and_intros <;> first | rfl | exact o9 _ _ | exact Tm _ _ _ _ | exact Tl _ _ _ _ | (match x1,y1,hxl,hyl with | [_,_,_,_],[_,_,_,_],_,_=>rfl)) ?_
   intro t ht
   cases t with
   | zero =>
    obtain ⟨w1,w2,w3⟩:=hS n (av n);have sl:=B5 w1.1.1 w1.2.1.1 w1.2.2.1;have st:=y7 w1.1.1 w1.2.1.1 w1.2.2.1;have s1:(cV (S n).1 (S n).2.1 (S n).2.2).take 4=cI (S n).1:=adv w1.1.1;have s2:=adw (z:=(S n).2.2) w1.1.1 w1.2.1.1;have s3:=ZE w1.1.1 w1.2.1.1 w1.2.2.1;have l3:=w1.2.2.1;have lz:=hzi.1;have lX:=hX.1;have lY:=hY.1;by_cases hz0:(S n).2.2=zI
    ·have e:=e0 hz0;have s3z:=ZE (z:=zI) w1.1.1 w1.2.1.1 rfl;have slz:=B5 (z:=zI) w1.1.1 w1.2.1.1 rfl;simp [go_sem,X6,sl,s3,slz,s3z,y6,iz,l3,hz0,a8 (l:=zI) (n:=4) rfl,Xm];rw [e];simp [go_sem,zl2,pd,d7];exact L9 (x:=zI) (y:=zI) (b:=true) rfl
    ·have e:=e1 hz0;simp [go_sem,X6,sl,s3,y6,iz,l3,hz0,a8 l3];refine a9 f3 (m9 _) ?_;simp [go_sem,lz,a8 lz,z4];rw [e];refine B7 [0,1,2,4,5,6] [(3,[]),(7,[8]),(9,[])] 2 (k:=10) ?_;intro G hG;simp [go_sem,sl,s1,s2,lz,a8 lz];refine a9 f4 (d5 _ _) ?_;simp [go_sem,sl,s1,s2,lz,a8 lz];refine a9 f5 (d5 _ _) ?_;have mp:=mkP lX lY;simp [go_sem,lX,lY,mp,rP lX lY,zl2,pd,A6];refine hG _ _ ?_;simp [go_sem,rP lX lY,t4 lX lY,d7];exact L9 rfl
   | succ t =>
    obtain ⟨w1,w2,w3⟩:=hS (n - (t+1)) aa
    have hsn:S (n - t)=Vp D A k (x1,y1,K1) n (n - (t+1)) (S (n - (t+1))):=by
     rw [show n - t=(n - (t+1))+1 by omega,← hSS,A4]
    obtain ⟨d1,_,d2⟩:=hD (S (n - (t+1))) w1;obtain ⟨a1,_,a2⟩:=hA (D (S (n - (t+1))),(x1,y1,K1)) ⟨d1,hone⟩;unfold Vp at hsn;rw [show n - 1 - (n - (t+1))=t by omega] at hsn;generalize S (n - (t+1))=s at *;generalize D s=q at *;have sl:=B5 w1.1.1 w1.2.1.1 w1.2.2.1;have st:=y7 w1.1.1 w1.2.1.1 w1.2.2.1;have sd:=P0 w1.1.1 w1.2.1.1 w1.2.2.1;have ql:=B5 d1.1.1 d1.2.1.1 d1.2.2.1;have qt:=y7 d1.1.1 d1.2.1.1 d1.2.2.1;have qd:=P0 d1.1.1 d1.2.1.1 d1.2.2.1;have al:=B5 a1.1.1 a1.2.1.1 a1.2.2.1;have at':=y7 a1.1.1 a1.2.1.1 a1.2.2.1;have ol:=B5 hone.1.1 hone.2.1.1 hone.2.2.1;have ot:=y7 hone.1.1 hone.2.1.1 hone.2.2.1;have hw:=TW t aa;have p0:¬ ((t:Int)<0):=aa;simp [go_sem,Ta,p0,sl,st];refine a9 d2 (L3 _ _ _) ?_;simp [go_sem,ql,qt,sl,sd,hkl,a8 hkl];refine a9 (Yi k t hk aa) (SU _ _) ?_;by_cases hb:btN k t=1
    ·rw [if_pos hb] at hsn;simp [go_sem,hb,ql,qt,ol,ot];refine a9 a2 (Xr _ _ _ _ _ _) ?_;rw [← hsn] at *;simp [go_sem,Ta,al,at',ql,qd,hw];refine c8 t aa aa ?_;simp [m7,c6,fv,lk,AV.low,AV.low1];and_intros <;> first | rfl | exact o9 _ _ | exact Tm _ _ _ _ | exact Tl _ _ _ _
    ·have hb2:¬ ((btN k t:Int)=1):=aa;rw [if_neg hb] at hsn;simp [go_sem,hb,hb2,hw,Ta];refine c8 t aa aa ?_;rw [hsn];simp [m7,c6,fv,lk,AV.low,AV.low1];and_intros <;> first | rfl | exact o9 _ _ | exact Tm _ _ _ _ | exact Tl _ _ _ _
  ·simp [go_sem,pl,pt,pdr,pb,pg,e1',e2',hxl,hyl,a8 hxl,a8 hyl];have e1f:one=(zI,zI,zI):=e1e;subst e1f;simp [go_sem,hkl,a8 hkl];refine a9 f2 (m9 _) ?_;simp [go_sem,hw0];generalize hSS:A4 (Vp D A k (zI,zI,zI) n) (zI,zI,zI)=S at *
   refine j9 (fun t:Nat=>⟨[(2,.ptr 0 0 0 1),(4,.ptr 64 0 0 1),(5,.ptr 384 0 0 1),(6,.ptr 608 0 0 1),(7,.d (.int .i64 (ixD t)))],[(608,⟨208,12,[cV (S (n - t)).1 (S (n - t)).2.1 (S (n - t)).2.2]⟩),(384,⟨208,12,[cV (zI,zI,zI).1 (zI,zI,zI).2.1 (zI,zI,zI).2.2]⟩),(64,⟨162,9,[cP zI zI false]⟩),(0,⟨160,4,[cI k]⟩)],3000⟩)
    (fun t=>t≤n) (fun t=>t) n (av n) (by
     rw [Nat.sub_self,← hSS];simp [m7,c6,fv,lk,AV.low,AV.low1,A4]
     and_intros <;> first | rfl | exact o9 _ _ | exact Tm _ _ _ _ | exact Tl _ _ _ _ | (match x1,y1,hxl,hyl with | [_,_,_,_],[_,_,_,_],_,_=>rfl)) ?_
   intro t ht
   cases t with
   | zero =>
    obtain ⟨w1,w2,w3⟩:=hS n (av n);have sl:=B5 w1.1.1 w1.2.1.1 w1.2.2.1;have st:=y7 w1.1.1 w1.2.1.1 w1.2.2.1;have s1:(cV (S n).1 (S n).2.1 (S n).2.2).take 4=cI (S n).1:=adv w1.1.1;have s2:=adw (z:=(S n).2.2) w1.1.1 w1.2.1.1;have s3:=ZE w1.1.1 w1.2.1.1 w1.2.2.1;have l3:=w1.2.2.1;have lz:=hzi.1;have lX:=hX.1;have lY:=hY.1;by_cases hz0:(S n).2.2=zI
    ·have e:=e0 hz0;have s3z:=ZE (z:=zI) w1.1.1 w1.2.1.1 rfl;have slz:=B5 (z:=zI) w1.1.1 w1.2.1.1 rfl;simp [go_sem,X6,sl,s3,slz,s3z,y6,iz,l3,hz0,a8 (l:=zI) (n:=4) rfl,Xm];rw [e];simp [go_sem,zl2,pd,d7];exact L9 (x:=zI) (y:=zI) (b:=true) rfl
    ·have e:=e1 hz0;simp [go_sem,X6,sl,s3,y6,iz,l3,hz0,a8 l3];refine a9 f3 (m9 _) ?_;simp [go_sem,lz,a8 lz,z4];rw [e];refine B7 [0,1,2,4,5,6] [(3,[]),(7,[8]),(9,[])] 2 (k:=10) ?_;intro G hG;simp [go_sem,sl,s1,s2,lz,a8 lz];refine a9 f4 (d5 _ _) ?_;simp [go_sem,sl,s1,s2,lz,a8 lz];refine a9 f5 (d5 _ _) ?_;have mp:=mkP lX lY;simp [go_sem,lX,lY,mp,rP lX lY,zl2,pd,A6];refine hG _ _ ?_;simp [go_sem,rP lX lY,t4 lX lY,d7];exact L9 rfl
   | succ t =>
    obtain ⟨w1,w2,w3⟩:=hS (n - (t+1)) aa
    have hsn:S (n - t)=Vp D A k (zI,zI,zI) n (n - (t+1)) (S (n - (t+1))):=by
     rw [show n - t=(n - (t+1))+1 by omega,← hSS,A4]
    obtain ⟨d1,_,d2⟩:=hD (S (n - (t+1))) w1;obtain ⟨a1,_,a2⟩:=hA (D (S (n - (t+1))),(zI,zI,zI)) ⟨d1,hone⟩;unfold Vp at hsn;rw [show n - 1 - (n - (t+1))=t by omega] at hsn;generalize S (n - (t+1))=s at *;generalize D s=q at *;have sl:=B5 w1.1.1 w1.2.1.1 w1.2.2.1;have st:=y7 w1.1.1 w1.2.1.1 w1.2.2.1;have sd:=P0 w1.1.1 w1.2.1.1 w1.2.2.1;have ql:=B5 d1.1.1 d1.2.1.1 d1.2.2.1;have qt:=y7 d1.1.1 d1.2.1.1 d1.2.2.1;have qd:=P0 d1.1.1 d1.2.1.1 d1.2.2.1;have al:=B5 a1.1.1 a1.2.1.1 a1.2.2.1;have at':=y7 a1.1.1 a1.2.1.1 a1.2.2.1;have ol:=B5 hone.1.1 hone.2.1.1 hone.2.2.1;have ot:=y7 hone.1.1 hone.2.1.1 hone.2.2.1;have hw:=TW t aa;have p0:¬ ((t:Int)<0):=aa;simp [go_sem,Ta,p0,sl,st];refine a9 d2 (L3 _ _ _) ?_;simp [go_sem,ql,qt,sl,sd,hkl,a8 hkl];refine a9 (Yi k t hk aa) (SU _ _) ?_;by_cases hb:btN k t=1
    ·rw [if_pos hb] at hsn;simp [go_sem,hb,ql,qt,ol,ot];refine a9 a2 (Xr _ _ _ _ _ _) ?_;rw [← hsn] at *;simp [go_sem,Ta,al,at',ql,qd,hw];refine c8 t aa aa ?_;simp [m7,c6,fv,lk,AV.low,AV.low1];and_intros <;> first | rfl | exact o9 _ _ | exact Tm _ _ _ _ | exact Tl _ _ _ _
    ·have hb2:¬ ((btN k t:Int)=1):=aa;rw [if_neg hb] at hsn;simp [go_sem,hb,hb2,hw,Ta];refine c8 t aa aa ?_;rw [hsn];simp [m7,c6,fv,lk,AV.low,AV.low1];and_intros <;> first | rfl | exact o9 _ _ | exact Tm _ _ _ _ | exact Tl _ _ _ _
 by_cases h0:(A4 (Vp D A k one n) (zI,zI,zI) n).2.2=zI
 ·exact ⟨zI,zI,true,H4,H4,VZ,hp0 h0,key (zI,zI,true) (fun _=>rfl) (fun h=>absurd h0 h)⟩
 ·exact ⟨X,Y,false,hX,hY,(hpx h0).1,(hpx h0).2,key (X,Y,false) (fun h=>absurd h h0) (fun _=>rfl)⟩
theorem as7 (b:List Nat) (hb:b.length=32) (hby:bytes b):∃ (r:List Int) (ok:Bool),Wn 4 r∧((J2 b<115792089237316195423570985008687907852837564279074904382605163141518161494337→ok=true∧V r=(J2 b:Int))∧(¬ J2 b<115792089237316195423570985008687907852837564279074904382605163141518161494337→ok=false∧r=zI))∧m6 Tryz.prog 179 [.agg (cb b)] (fun x=>x=.tup [.agg (cI r),.d (.bool ok)]):=by
 obtain ⟨a,ha,va,f1⟩:=ack b hb hby;obtain ⟨c,vc,f2⟩:=afj a odI ha aqH;have vo:V odI=115792089237316195423570985008687907852837564279074904382605163141518161494337:=by simp [V,odI]
 rw [vo,va] at vc;have hal:=ha.1;have hz:List.drop 4 (cI zI)=[]:=i9 rfl;by_cases h0:c<0
 ·have hlt:J2 b<115792089237316195423570985008687907852837564279074904382605163141518161494337:=by have:=vc.1 h0;omega
  refine ⟨a,true,ha,⟨fun _=>⟨rfl,va⟩,fun h=>absurd hlt h⟩,?_⟩;refine t6 Tryz.func179 Tryz.ntmps179 (rs:=[.cell 2 160,.tmp 3]) (B8 b) ?_;have h1:¬ 0≤c:=aa;simp [go_sem,d0,hb,d6 hb];refine a9 f1 (B8 _) ?_;simp [go_sem,hal,a8 hal,hz];refine B7 [0] [(1,[]),(2,[3])] 2 (k:=4) ?_;intro G hG;simp [go_sem,hal,a8 hal];refine a9 acj ab ?_;simp [go_sem,hal,a8 hal];refine a9 f2 (d5 _ _) ?_;simp [go_sem,A6];refine hG _ _ ?_;simp [go_sem,h1,h0,hal,a8 hal,hz,d7];exact RB rfl
 ·have hlt:¬ J2 b<115792089237316195423570985008687907852837564279074904382605163141518161494337:=fun h=>h0 (vc.2 aa);refine ⟨zI,false,H4,⟨fun h=>absurd h hlt,fun _=>⟨rfl,rfl⟩⟩,?_⟩;refine t6 Tryz.func179 Tryz.ntmps179 (rs:=[.cell 2 160,.tmp 3]) (B8 b) ?_;have h1:0≤c:=aa;simp [go_sem,d0,hb,d6 hb];refine a9 f1 (B8 _) ?_;simp [go_sem,hal,a8 hal,hz];refine B7 [0] [(1,[]),(2,[3])] 2 (k:=4) ?_;intro G hG;simp [go_sem,hal,a8 hal];refine a9 acj ab ?_;simp [go_sem,hal,a8 hal];refine a9 f2 (d5 _ _) ?_;simp [go_sem,A6];refine hG _ _ ?_;simp [go_sem,h1,h0,hz,d7];exact RB (a:=zI) rfl
theorem aqL (b:List Nat) (hb:b.length=32) (hby:bytes b):∃ (x y:List Int) (c ok:Bool),Wn 4 x∧Wn 4 y∧(afa (J2 b) x y c ok)∧m6 Tryz.prog 128 [.agg (cb b)] (fun r=>r=.tup [.agg (cP x y c),.d (.bool ok)]):=by
 obtain ⟨a,ha,va,f1⟩:=ack b hb hby;obtain ⟨o,vo,f2⟩:=agU a ha;obtain ⟨r,hr,vr,f3⟩:=am0 a ha;obtain ⟨y,ok,hy,vk,vy,vno,f4⟩:=avQ r hr;have hrv:V r=Sw (J2 b):=aia hr va vr;rw [va] at vo;rw [hrv] at vk vy;unfold W1 at f3;have hal:=ha.1;have hyl:=hy.1;have hz:List.drop 4 (cI zI)=[]:=i9 rfl;have zd:List.drop 32 (cb b)=[]:=K5 hb;have pd:(cP zI zI false).drop 9=[]:=L5 rfl rfl _;have zl2:(cP zI zI false).length=9:=rfl;have mp:=mkP hal hyl;have pl1:=rP hal hyl false;have pt1:=t4 hal hyl false
 cases ok
 ·refine ⟨zI,zI,true,false,H4,H4,.inl ⟨fun h=>absurd (vk.2 h.2) (by decide),rfl,rfl,rfl,rfl⟩,?_⟩;refine t6 Tryz.func128 Tryz.ntmps128 (rs:=[.cell 2 162,.tmp 3]) (B8 b) ?_;simp [go_sem,d0,hb,d6 hb,zd];refine a9 f1 (B8 _) ?_;simp [go_sem,hal,a8 hal,hz];refine a9 f3 (m9 _) ?_;simp [go_sem];refine a9 f4 (m9 _) ?_;simp [go_sem,hyl,a8 hyl,hz,zl2,pd,d7];exact WJ (x:=zI) (y:=zI) (c:=true) rfl
 ·cases o
  ·refine ⟨zI,zI,true,false,H4,H4,.inl ⟨fun h=>absurd (vo.2 h.1) (by decide),rfl,rfl,rfl,rfl⟩,?_⟩;refine t6 Tryz.func128 Tryz.ntmps128 (rs:=[.cell 2 162,.tmp 3]) (B8 b) ?_;simp [go_sem,d0,hb,d6 hb,zd];refine a9 f1 (B8 _) ?_;simp [go_sem,hal,a8 hal,hz];refine a9 f3 (m9 _) ?_;simp [go_sem];refine a9 f4 (m9 _) ?_;simp [go_sem,hyl,a8 hyl,hz,hal,a8 hal];refine a9 f2 (m9 _) ?_;simp [go_sem,zl2,pd,d7];exact WJ (x:=zI) (y:=zI) (c:=true) rfl
  ·refine ⟨a,y,false,true,ha,hy,.inr ⟨⟨vo.1 rfl,vk.1 rfl⟩,rfl,rfl,va,vy rfl⟩,?_⟩;refine t6 Tryz.func128 Tryz.ntmps128 (rs:=[.cell 2 162,.tmp 3]) (B8 b) ?_;simp [go_sem,d0,hb,d6 hb,zd];refine a9 f1 (B8 _) ?_;simp [go_sem,hal,a8 hal,hz];refine a9 f3 (m9 _) ?_;simp [go_sem];refine a9 f4 (m9 _) ?_;simp [go_sem,hyl,a8 hyl,hz,hal,a8 hal];refine a9 f2 (m9 _) ?_;simp [go_sem,hal,hyl,a8 hal,a8 hyl,hz,mp,pl1,pt1,pd,zl2,d7];exact WJ rfl
def gN:Nat:=55066263022277343669578718895168534326250603453777594175500187360389116729240
theorem ais:Sw gN=((32748224938747404814623910738487752935528512903530129802856995983256684603122:Nat):Int):=by
 unfold Sw
 have e:((gN:Int)*gN*gN+7) % 115792089237316195423570985008687907853269984665640564039457584007908834671663=(((gN*gN*gN+7) % 115792089237316195423570985008687907853269984665640564039457584007908834671663:Nat):Int):=by
  rw [Int.natCast_emod,Int.natCast_add,Int.natCast_mul,Int.natCast_mul];rfl
 rw [e];exact congrArg (fun n:Nat=>(n:Int)) (Nat.eq_of_beq_eq_true (by kernel_rfl))
theorem am5 (e r n:Nat) (he:e<2 ^ 256) (hr:pwm 115792089237316195423570985008687907853269984665640564039457584007908834671663 256 32748224938747404814623910738487752935528512903530129802856995983256684603122 e 1=r) (hn:Sw n=((32748224938747404814623910738487752935528512903530129802856995983256684603122:Nat):Int)):Sw n ^ e % 115792089237316195423570985008687907853269984665640564039457584007908834671663=(r:Int):=by
 have h:=Xo 115792089237316195423570985008687907853269984665640564039457584007908834671663 256 32748224938747404814623910738487752935528512903530129802856995983256684603122 e 1 he (Nat.mod_eq_of_lt aa);rw [Nat.one_mul,hr] at h;rw [hn,← Int.natCast_pow];have e:(115792089237316195423570985008687907853269984665640564039457584007908834671663:Int)=((115792089237316195423570985008687907853269984665640564039457584007908834671663:Nat):Int):=rfl;rw [e,← Int.natCast_emod];exact congrArg (fun n:Nat=>(n:Int)) h.symm
theorem ait:TZ gN=((32670510020758816978083085130507043184471273380659243275938904335757337482424:Nat):Int) :=
 am5 _ _ gN aa (Nat.eq_of_beq_eq_true (by kernel_rfl)) ais
theorem am6:V3 gN:=by
 refine ⟨?_,?_⟩
 ·have:gN<115792089237316195423570985008687907853269984665640564039457584007908834671663:=by unfold gN;omega
  omega
 ·rw [ait,ais,← Int.natCast_mul];have e:(115792089237316195423570985008687907853269984665640564039457584007908834671663:Int)=((115792089237316195423570985008687907853269984665640564039457584007908834671663:Nat):Int):=rfl;rw [e,← Int.natCast_emod,← Int.natCast_emod]
theorem avU:V gX=gN:=by
 unfold gX gN;rw [V4];omega
theorem ax5:V gY=32670510020758816978083085130507043184471273380659243275938904335757337482424:=by
 unfold gY;rw [V4];omega
theorem as8 {x y:List Int} {c ok:Bool} (hx:Wn 4 x) (hy:Wn 4 y) (h:afa gN x y c ok):ok=true∧c=false∧x=gX∧y=gY:=by
 rcases h with ⟨h,_⟩ | ⟨_,h1,h2,h3,h4⟩
 ·exact absurd am6 h
 ·refine ⟨h1,h2,Zl hx apu (by rw [h3,avU]),Zl hy asV ?_⟩;rw [h4,ait,if_pos aa,ax5];rfl
theorem aqM:m6 Tryz.prog 132 [] (fun r=>r=.agg (cP gX gY false)):=by
 obtain ⟨b,hb,hby,vb,f1⟩:=acl gX apu;obtain ⟨x,y,c,ok,hx,hy,hs,f2⟩:=aqL b hb hby;have hg:J2 b=gN:=by rw [vb,avU];exact Int.toNat_natCast _
 rw [hg] at hs;obtain ⟨rfl,rfl,rfl,rfl⟩:=as8 hx hy hs;have gl:gX.length=4:=rfl;have pl:=rP (x:=gX) (y:=gY) rfl rfl false;have pt:=t4 (x:=gX) (y:=gY) rfl rfl false;have pd:(cP zI zI false).drop 9=[]:=L5 rfl rfl _;have zl2:(cP zI zI false).length=9:=rfl;have hz:List.drop 4 (cI zI)=[]:=i9 rfl;have eg:[AV.d (.int .u64 6481385041966929816),AV.d (.int .u64 188021827762530521),AV.d (.int .u64 6170039885052185351),AV.d (.int .u64 8772561819708210092)]=cI gX:=rfl;refine t6 Tryz.func132 Tryz.ntmps132 (rs:=[.cell 0 162]) ae ?_;simp [go_sem,hz];refine a9 f1 (m9 gX) ?_;simp [go_sem,d0,hb,d6 hb];refine a9 f2 (B8 _) ?_;simp [go_sem,pl,pt,pd,zl2,d7];exact L9 rfl
theorem as9 (x y:List Int) (c:Bool) (hx:Wn 4 x) (hy:Wn 4 y) (hp:L2 x y c):∃ b:List Nat,b.length=32∧bytes b∧J2 b=(V x).toNat∧m6 Tryz.prog 133 [.agg (cP x y c)] (fun r=>r=.agg (cb b)):=by
 obtain ⟨x1,y1,c1,hx1,hy1,t1,f1⟩:=am2 x y c hx hy;obtain ⟨rfl,rfl,rfl⟩:=t1.2.1 hp;obtain ⟨b,hb,hby,vb,f2⟩:=acl x1 hx1;refine ⟨b,hb,hby,vb,?_⟩;have hxl:=hx.1;have hyl:=hy.1;have pl:=rP hxl hyl c1;have pt:=t4 hxl hyl c1;have pdr:=L5 hxl hyl c1;have e1:(cP x1 y1 c1).take 4=cI x1:=ae6 hxl _;have zd:List.drop 32 (cb z32)=[]:=K5 rfl;refine t6 Tryz.func133 Tryz.ntmps133 (rs:=[.cell 2 23]) (B4 _ _ _) ?_;simp [go_sem,pl,pt];refine a9 f1 (B4 _ _ _) ?_;simp [go_sem,pl,pt,pdr,e1,hxl,a8 hxl];refine a9 f2 (m9 _) ?_;simp [go_sem,d0,hb,d6 hb,zd,d7];exact amE rfl
theorem avV (x y:List Int) (c:Bool) (hx:Wn 4 x) (hy:Wn 4 y) (hp:L2 x y c):∃ o:Bool,(o=true ↔ c=false∧V y % 2=0)∧m6 Tryz.prog 134 [.agg (cP x y c)] (fun r=>r=.d (.bool o)):=by
 obtain ⟨x1,y1,c1,hx1,hy1,t1,f1⟩:=am2 x y c hx hy;obtain ⟨rfl,rfl,rfl⟩:=t1.2.1 hp;have hxl:=hx.1;have hyl:=hy.1;have pl:=rP hxl hyl c1;have pt:=t4 hxl hyl c1;have pdr:=L5 hxl hyl c1;have pb:=VG hxl hyl c1;have pg:=V1 hxl hyl c1;have hR:=x5 (k:=0) hy;have hmg:=ZS hy;have hmt:Int.tmod (gI y1 0) 2=gI y1 0 % 2:=Int.tmod_eq_emod_of_nonneg hR.1
 have g4:(cP x1 y1 c1)[4]?=some (.d (.int .u64 (gI y1 0))):=by
  unfold cP;rw [aB (by rw [J3];omega),J3,hxl,List.getElem?_append_left (by rw [J3];omega),TX,B9 aa];rfl
 have g4b:∀ h,(cP x1 y1 c1)[4]'h=.d (.int .u64 (gI y1 0)):=fun h=>(ak.1 g4).2
 cases c1
 ·refine ⟨decide (gI y1 0 % 2=0),by rw [decide_eq_true_iff,hmg];exact ⟨fun h=>⟨rfl,h⟩,fun h=>h.2⟩,?_⟩;refine t6 Tryz.func134 Tryz.ntmps134 (rs:=[.tmp 2]) (B4 _ _ _) ?_;simp [go_sem,pl,pt];refine a9 f1 (B4 _ _ _) ?_;simp [go_sem,pl,pt,pdr,pb,pg,g4,g4b,hmt,d7];exact b7 ae rfl
 ·refine ⟨false,⟨fun h=>Bool.noConfusion h,fun h=>Bool.noConfusion h.1⟩,?_⟩;refine t6 Tryz.func134 Tryz.ntmps134 (rs:=[.tmp 2]) (B4 _ _ _) ?_;simp [go_sem,pl,pt];refine a9 f1 (B4 _ _ _) ?_;simp [go_sem,pl,pt,pdr,pb,pg,d7];exact b7 ae rfl
end Go.Proofs.YtldccnbokbieiaaGreat
