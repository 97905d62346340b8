/-
 Part 8 of what the claim rests on.
-/
import Derived.Test.YtldccnbokbieiaaGreatO6
set_option linter.unusedVariables false
set_option linter.unusedSimpArgs false
set_option maxRecDepth 100000
set_option maxHeartbeats 16000000
namespace Go.Proofs.YtldccnbokbieiaaGreat
open Go.Am Go.Sha Go.Ec
theorem avI (x y:List Int):JV x y zI=none:=by
 show Ya fd _ _ (FV zI)=none;rw [Xp];exact ae3 fd _ _
theorem Xq (x y z x' y' z':List Int):∀ v,v ∈ [AV.agg (cV x y z),AV.agg (cV x' y' z')]→v.deep:=by
 intro v hv;simp at hv;rcases hv with rfl | rfl
 ·exact WH _ _ _
 ·exact WH _ _ _
theorem aie (x y z x' y' z':List Int) (hx:Wn 4 x) (hy:Wn 4 y) (hz:Wn 4 z) (hx':Wn 4 x') (hy':Wn 4 y') (hz':Wn 4 z'):∃ (u v w:List Int),Wn 4 u∧Wn 4 v∧Wn 4 w∧(YT x y z→YT x' y' z'→YT u v w∧JV u v w=sum fd (JV x y z) (JV x' y' z'))∧m6 Tryz.prog 169 [.agg (cV x y z),.agg (cV x' y' z')] (fun r=>r=.agg (cV u v w)):=by
 obtain ⟨pz2,h1,g1,f1⟩:=V0 z hz;obtain ⟨qz2,h2,g2,f2⟩:=V0 z' hz';obtain ⟨u1,h4,g4,f4⟩:=Rw x qz2 hx h2;obtain ⟨u2,h5,g5,f5⟩:=Rw x' pz2 hx' h1;obtain ⟨qz3,h6,g6,f6⟩:=Rw qz2 z' h2 hz';obtain ⟨s1,h7,g7,f7⟩:=Rw y qz3 hy h6;obtain ⟨pz3,h8,g8,f8⟩:=Rw pz2 z h1 hz;obtain ⟨s2,h9,g9,f9⟩:=Rw y' pz3 hy' h8;obtain ⟨h,h11,g11,f11⟩:=Yc u2 u1 h5 h4;obtain ⟨r,h12,g12,f12⟩:=Yc s2 s1 h9 h7;obtain ⟨hh,h13,g13,f13⟩:=V0 h h11;obtain ⟨h3,h14,g14,f14⟩:=Rw hh h h13 h11;obtain ⟨v,h15,g15,f15⟩:=Rw u1 hh h4 h13;obtain ⟨rr,h16,g16,f16⟩:=V0 r h12;obtain ⟨d1,h17,g17,f17⟩:=Yc rr h3 h16 h14;obtain ⟨w2,h20,g20,f20⟩:=UL 2 v ⟨aa,aa⟩ h15;obtain ⟨X,h18,g18,f18⟩:=Yc d1 w2 h17 h20;obtain ⟨e1,h21,g21,f21⟩:=Yc v X h15 h18;obtain ⟨e2,h22,g22,f22⟩:=Rw r e1 h12 h21;obtain ⟨e3,h24,g24,f24⟩:=Rw s1 h3 h7 h14;obtain ⟨Y,h19,g19,f19⟩:=Yc e2 e3 h22 h24;obtain ⟨zz,h25,g25,f25⟩:=Rw z z' hz hz';obtain ⟨Z,h23,g23,f23⟩:=Rw h zz h11 h25;obtain ⟨wu,wv,ww,h26,h27,h28,g26,f26⟩:=V2 zI zI true H4 H4;obtain ⟨du,dv,dw,h29,h30,h31,g29,f29⟩:=aaM x y z hx hy hz;unfold W1 at f1 f2 f13 f16;unfold W2 at f4 f5 f6 f7 f8 f9 f11 f12 f14 f15 f17 f18 f19 f21 f22 f23 f24 f25;have l1:=h1.1;have l2:=h2.1;have l4:=h4.1;have l5:=h5.1;have l6:=h6.1;have l7:=h7.1;have l8:=h8.1;have l9:=h9.1;have l11:=h11.1;have l12:=h12.1;have l13:=h13.1;have l14:=h14.1;have l15:=h15.1;have l16:=h16.1;have l17:=h17.1;have l18:=h18.1;have l19:=h19.1;have l20:=h20.1;have l21:=h21.1;have l22:=h22.1;have l23:=h23.1;have l24:=h24.1;have l25:=h25.1;have l26:=h26.1;have l27:=h27.1;have l28:=h28.1;have l29:=h29.1;have l30:=h30.1;have l31:=h31.1;have hxl:=hx.1;have hyl:=hy.1;have hzl:=hz.1;have hxlb:=hx'.1;have hylb:=hy'.1;have hzlb:=hz'.1;have z4:List.drop 4 (cI zI)=[]:=i9 rfl;have vl:=B5 hxl hyl hzl;have vt:=y7 hxl hyl hzl;have v1:(cV x y z).take 4=cI x:=adv hxl;have v2:=adw (z:=z) hxl hyl;have v3:=ZE hxl hyl hzl;have vlb:=B5 hxlb hylb hzlb;have vtb:=y7 hxlb hylb hzlb;have v1b:(cV x' y' z').take 4=cI x':=adv hxlb;have v2b:=adw (z:=z') hxlb hylb;have v3b:=ZE hxlb hylb hzlb;have iz:C0 .u64 [AV.d (.int .u64 0),AV.d (.int .u64 0),AV.d (.int .u64 0),AV.d (.int .u64 0)]=some zI:=y6 zI;have f0:=WI x y z hx hy hz;have f0b:=WI x' y' z' hx' hy' hz';have wd:(cV zI zI zI).drop 12=[]:=P0 rfl rfl rfl;have wl:(cV zI zI zI).length=12:=rfl;have ul:=B5 l26 l27 l28;have ut:=y7 l26 l27 l28;have ul2:=B5 l29 l30 l31;have ut2:=y7 l29 l30 l31;by_cases q1:z=zI
 ·have vv:YT x y z→YT x' y' z'→YT x' y' z'∧JV x' y' z'=sum fd (JV x y z) (JV x' y' z'):=by
   intro _ hj';refine ⟨hj',?_⟩;rw [q1,avI,K6 fd hj'.2]
  refine ⟨x',y',z',hx',hy',hz',vv,?_⟩;refine t6 Tryz.func169 Tryz.ntmps169 (rs:=[.cell 4 199]) (Xq _ _ _ _ _ _) ?_;simp [go_sem,vl,vt,vlb,vtb];refine a9 f0 (L3 _ _ _) ?_;simp [go_sem,q1,vlb,vtb,wd,wl,d7];exact Rq rfl
 by_cases q2:z'=zI
 ·have vv:YT x y z→YT x' y' z'→YT x y z∧JV x y z=sum fd (JV x y z) (JV x' y' z'):=by
   intro hj _;refine ⟨hj,?_⟩;rw [q2,avI,Sp fd hj.2]
  refine ⟨x,y,z,hx,hy,hz,vv,?_⟩;refine t6 Tryz.func169 Tryz.ntmps169 (rs:=[.cell 4 199]) (Xq _ _ _ _ _ _) ?_;simp [go_sem,vl,vt,vlb,vtb];refine a9 f0 (L3 _ _ _) ?_;simp [go_sem,q1,vl,vt,vlb,vtb];refine a9 f0b (L3 _ _ _) ?_;simp [go_sem,q2,vl,vt,wd,wl,d7];exact Rq rfl
 have key:YT x y z→YT x' y' z'→(FV h ≠ 0→JV X Y Z=sum fd (JV x y z) (JV x' y' z'))∧(FV h=0→FV r=0→JV x y z=JV x' y' z')∧(FV h=0→FV r ≠ 0→sum fd (JV x y z) (JV x' y' z')=none):=by
  intro hj hj';have hz0:FV z ≠ 0:=fun h=>q1 ((RD hz hj.1.2.2).1 h);have hz0':FV z' ≠ 0:=fun h=>q2 ((RD hz' hj'.1.2.2).1 h);have k1:FV u1=FV x*(FV z'*FV z'):=by rw [g4.2,g2.2]
  have k2:FV u2=FV x'*(FV z*FV z):=by rw [g5.2,g1.2]
  have k3:FV s1=FV y*(FV z'*FV z'*FV z'):=by rw [g7.2,g6.2,g2.2]
  have k4:FV s2=FV y'*(FV z*FV z*FV z):=by rw [g9.2,g8.2,g1.2]
  obtain ⟨j1,j2,j3⟩:=amf fd hz0 hz0' hj.2 hj'.2 k1 k2 k3 k4 g11.2 g12.2;refine ⟨fun hh0=>?_,j2,j3⟩;have n2:FV [2,0,0,0]=2:=YS 2 aa
  have eX:FV X=FV r*FV r - FV h*FV h*FV h - 2*(FV u1*(FV h*FV h)):=by
   rw [g18.2,g17.2,g16.2,g14.2,g13.2,g20.2,g15.2,g13.2,n2]
  have eY:FV Y=FV r*(FV u1*(FV h*FV h) - (FV r*FV r - FV h*FV h*FV h - 2*(FV u1*(FV h*FV h)))) - FV s1*(FV h*FV h*FV h):=by
   rw [g19.2,g22.2,g21.2,eX,g24.2,g15.2,g14.2,g13.2]
  have eZ:FV Z=FV h*(FV z*FV z'):=by rw [g23.2,g25.2]
  show Ya fd (FV X) (FV Y) (FV Z)=_;rw [eX,eY,eZ];exact j1 hh0
 obtain ⟨Ua,Va,Wa,hU,hV,hW,vv,e1,e2,e3⟩:∃ (Ua Va Wa:List Int),Wn 4 Ua∧Wn 4 Va∧Wn 4 Wa∧(YT x y z→YT x' y' z'→YT Ua Va Wa∧JV Ua Va Wa=sum fd (JV x y z) (JV x' y' z'))∧(h=zI→r=zI→(du=Ua∧dv=Va∧dw=Wa))∧(h=zI→r ≠ zI→(wu=Ua∧wv=Va∧ww=Wa))∧(h ≠ zI→(X=Ua∧Y=Va∧Z=Wa)):=by
  have fz:∀ {l:List Int},l=zI→FV l=0:=fun h=>by rw [h,Xp]
  by_cases q3:h=zI
  ·by_cases q4:r=zI
   ·refine ⟨du,dv,dw,h29,h30,h31,fun hj hj'=>?_,fun _ _=>⟨rfl,rfl,rfl⟩,fun _ h=>absurd q4 h,fun h=>absurd q3 h⟩;obtain ⟨m1,m2⟩:=g29 hj;refine ⟨m1,?_⟩;rw [m2,← (key hj hj').2.1 (fz q3) (fz q4)]
   ·refine ⟨wu,wv,ww,h26,h27,h28,fun hj hj'=>?_,fun _ h=>absurd h q4,fun _ _=>⟨rfl,rfl,rfl⟩,fun h=>absurd q3 h⟩;obtain ⟨m1,m2⟩:=g26 VZ;refine ⟨m1,?_⟩;rw [m2,amw,(key hj hj').2.2 (fz q3) (fun h=>q4 ((RD h12 g12.1).1 h))]
  ·refine ⟨X,Y,Z,h18,h19,h23,fun hj hj'=>?_,fun h=>absurd h q3,fun h=>absurd h q3,fun _=>⟨rfl,rfl,rfl⟩⟩;have e:=(key hj hj').1 (fun h=>q3 ((RD h11 g11.1).1 h));exact ⟨⟨⟨g18.1,g19.1,g23.1⟩,by rw [e];exact TY fd hj.2 hj'.2⟩,e⟩
 refine ⟨Ua,Va,Wa,hU,hV,hW,vv,?_⟩;refine t6 Tryz.func169 Tryz.ntmps169 (rs:=[.cell 4 199]) (Xq _ _ _ _ _ _) ?_;simp [go_sem,vl,vt,vlb,vtb];refine a9 f0 (L3 _ _ _) ?_;simp [go_sem,q1,vl,vt,vlb,vtb];refine a9 f0b (L3 _ _ _) ?_;simp [go_sem,q2,vl,vt,vlb,vtb,v1,v2,v3,v1b,v2b,v3b];refine C4 [0,1,3,4] [2,5,6,7,8,9] [0,1,3,4] (.alt (ah 2 (.alt (ai 5 (.alt (ag [6,7,8,9]) (ag [7,6,8,9]))) (.alt (ah 6 (.alt (ag [5,7,8,9]) (ah 7 (ag [5,8,9])))) (ah 7 (.alt (ag [5,6,8,9]) (ah 6 (ag [5,8,9]))))))) (.alt (ah 6 (.alt (ah 2 (.alt (ag [5,7,8,9]) (ah 7 (ag [5,8,9])))) (ah 7 (ah 2 (ag [5,8,9]))))) (ah 7 (.alt (ah 2 (.alt (ag [5,6,8,9]) (ah 6 (ag [5,8,9])))) (ah 6 (ah 2 (ag [5,8,9]))))))) ⟨[(2,.ptr 0 0 0 1),(3,.ptr 32 0 0 1),(4,.ptr 64 0 0 1),(5,.ptr 480 0 0 1),(6,.ptr 512 0 0 1)],[(512,⟨160,4,[cI qz2]⟩),(480,⟨160,4,[cI pz2]⟩),(64,⟨199,12,[cV zI zI zI]⟩),(32,⟨199,12,[cV x' y' z']⟩),(0,⟨199,12,[cV x y z]⟩)],9000⟩ (k:=10) ?h3 ?hq
 case h3 =>
  intro G hG
  have hW:∀ (fr:Fr) (hp:Hp),(fv 2 fr=.ptr 0 0 0 1∧fv 3 fr=.ptr 32 0 0 1∧fv 4 fr=.ptr 64 0 0 1∧fv 5 fr=.ptr 480 0 0 1∧fv 6 fr=.ptr 512 0 0 1∧lk 512 hp=some ⟨160,4,[cI qz2]⟩∧lk 480 hp=some ⟨160,4,[cI pz2]⟩∧lk 64 hp=some ⟨199,12,[cV zI zI zI]⟩∧lk 32 hp=some ⟨199,12,[cV x' y' z']⟩∧lk 0 hp=some ⟨199,12,[cV x y z]⟩)→G fr hp:=by
   rintro fr hp ⟨q0,q1,q2,q3,q4,q5,q6,q7,q8,q9⟩;exact hG _ _ Rz
  simp [go_sem,l1,l2,a8 l1,a8 l2,z4,v3,v3b,vl,vlb,A6]
  repeat' first | exact hW _ _ ⟨rfl,rfl,rfl,rfl,rfl,rfl,rfl,rfl,rfl,rfl⟩ | (refine hW _ _ ?_;simp [fv,lk];done) | refine a9 f1 (m9 _) ?_ | refine a9 f2 (m9 _) ?_ | apply And.intro | simp [go_sem,l1,l2,a8 l1,a8 l2,z4,v3,v3b,vl,vlb,A6]
 case hq =>
  simp [go_sem];refine C4 [0,1,2,4,5,6] [3,7,8,9,10,11] [0,1,2,4,5,6] (.alt (ah 3 (.alt (ai 7 (.alt (ag [8,9,10,11]) (ag [9,8,10,11]))) (.alt (ah 8 (.alt (ag [7,9,10,11]) (ah 9 (ag [7,10,11])))) (ah 9 (.alt (ag [7,8,10,11]) (ah 8 (ag [7,10,11]))))))) (.alt (ah 8 (.alt (ah 3 (.alt (ag [7,9,10,11]) (ah 9 (ag [7,10,11])))) (ah 9 (ah 3 (ag [7,10,11]))))) (ah 9 (.alt (ah 3 (.alt (ag [7,8,10,11]) (ah 8 (ag [7,10,11])))) (ah 8 (ah 3 (ag [7,10,11]))))))) ⟨[(2,.ptr 0 0 0 1),(3,.ptr 32 0 0 1),(4,.ptr 64 0 0 1),(5,.ptr 480 0 0 1),(6,.ptr 512 0 0 1),(7,.ptr 9256 0 0 1),(8,.ptr 9288 0 0 1)],[(9288,⟨160,4,[cI u2]⟩),(9256,⟨160,4,[cI u1]⟩),(512,⟨160,4,[cI qz2]⟩),(480,⟨160,4,[cI pz2]⟩),(64,⟨199,12,[cV zI zI zI]⟩),(32,⟨199,12,[cV x' y' z']⟩),(0,⟨199,12,[cV x y z]⟩)],20000⟩ (k:=12) ?h3 ?hq
  case h3 =>
   intro G hG
   have hW:∀ (fr:Fr) (hp:Hp),(fv 2 fr=.ptr 0 0 0 1∧fv 3 fr=.ptr 32 0 0 1∧fv 4 fr=.ptr 64 0 0 1∧fv 5 fr=.ptr 480 0 0 1∧fv 6 fr=.ptr 512 0 0 1∧fv 7 fr=.ptr 9256 0 0 1∧fv 8 fr=.ptr 9288 0 0 1∧lk 9288 hp=some ⟨160,4,[cI u2]⟩∧lk 9256 hp=some ⟨160,4,[cI u1]⟩∧lk 512 hp=some ⟨160,4,[cI qz2]⟩∧lk 480 hp=some ⟨160,4,[cI pz2]⟩∧lk 64 hp=some ⟨199,12,[cV zI zI zI]⟩∧lk 32 hp=some ⟨199,12,[cV x' y' z']⟩∧lk 0 hp=some ⟨199,12,[cV x y z]⟩)→G fr hp:=by
    rintro fr hp ⟨q0,q1,q2,q3,q4,q5,q6,q7,q8,q9,q10,q11,q12,q13⟩;exact hG _ _ Rz
   simp [go_sem,l1,l2,l4,l5,a8 l1,a8 l2,a8 l4,a8 l5,z4,v1,v1b,vl,vlb,A6]
   repeat' first | exact hW _ _ ⟨rfl,rfl,rfl,rfl,rfl,rfl,rfl,rfl,rfl,rfl,rfl,rfl,rfl,rfl⟩ | (refine hW _ _ ?_;simp [fv,lk];done) | refine a9 f4 (d5 _ _) ?_ | refine a9 f5 (d5 _ _) ?_ | apply And.intro | simp [go_sem,l1,l2,l4,l5,a8 l1,a8 l2,a8 l4,a8 l5,z4,v1,v1b,vl,vlb,A6]
  case hq =>
   simp [go_sem];refine C4 [0,1,2,3,4,7,8,9,10,11] [5,6,12,13,14,15,16,17] [0,1,2,3,4,7,8,9,10,11] (.alt (ah 5 (.alt (ah 6 (.alt (ah 12 (.alt (ai 13 (.alt (ag [14,15,16,17]) (ag [15,14,16,17]))) (.alt (ah 14 (.alt (ag [13,15,16,17]) (ah 15 (ag [13,16,17])))) (ah 15 (.alt (ag [13,14,16,17]) (ah 14 (ag [13,16,17]))))))) (.alt (ah 14 (.alt (ah 12 (.alt (ag [13,15,16,17]) (ah 15 (ag [13,16,17])))) (ah 15 (ah 12 (ag [13,16,17]))))) (ah 15 (.alt (ah 12 (.alt (ag [13,14,16,17]) (ah 14 (ag [13,16,17])))) (ah 14 (ah 12 (ag [13,16,17])))))))) (.alt (ah 14 (.alt (ah 6 (.alt (ah 12 (.alt (ag [13,15,16,17]) (ah 15 (ag [13,16,17])))) (ah 15 (ah 12 (ag [13,16,17]))))) (ah 15 (ah 6 (ah 12 (ag [13,16,17])))))) (ah 15 (.alt (ah 6 (.alt (ah 12 (.alt (ag [13,14,16,17]) (ah 14 (ag [13,16,17])))) (ah 14 (ah 12 (ag [13,16,17]))))) (ah 14 (ah 6 (ah 12 (ag [13,16,17]))))))))) (.alt (ah 14 (.alt (ah 5 (.alt (ah 6 (.alt (ah 12 (.alt (ag [13,15,16,17]) (ah 15 (ag [13,16,17])))) (ah 15 (ah 12 (ag [13,16,17]))))) (ah 15 (ah 6 (ah 12 (ag [13,16,17])))))) (ah 15 (ah 5 (ah 6 (ah 12 (ag [13,16,17]))))))) (ah 15 (.alt (ah 5 (.alt (ah 6 (.alt (ah 12 (.alt (ag [13,14,16,17]) (ah 14 (ag [13,16,17])))) (ah 14 (ah 12 (ag [13,16,17]))))) (ah 14 (ah 6 (ah 12 (ag [13,16,17])))))) (ah 14 (ah 5 (ah 6 (ah 12 (ag [13,16,17]))))))))) ⟨[(2,.ptr 0 0 0 1),(3,.ptr 32 0 0 1),(4,.ptr 64 0 0 1),(7,.ptr 9256 0 0 1),(8,.ptr 9288 0 0 1),(9,.ptr 20448 0 0 1),(10,.ptr 20480 0 0 1)],[(20480,⟨160,4,[cI s2]⟩),(20448,⟨160,4,[cI s1]⟩),(9288,⟨160,4,[cI u2]⟩),(9256,⟨160,4,[cI u1]⟩),(64,⟨199,12,[cV zI zI zI]⟩),(32,⟨199,12,[cV x' y' z']⟩),(0,⟨199,12,[cV x y z]⟩)],30000⟩ (k:=18) ?h3 ?hq
   case h3 =>
    intro G hG
    have hW:∀ (fr:Fr) (hp:Hp),(fv 2 fr=.ptr 0 0 0 1∧fv 3 fr=.ptr 32 0 0 1∧fv 4 fr=.ptr 64 0 0 1∧fv 7 fr=.ptr 9256 0 0 1∧fv 8 fr=.ptr 9288 0 0 1∧fv 9 fr=.ptr 20448 0 0 1∧fv 10 fr=.ptr 20480 0 0 1∧lk 20480 hp=some ⟨160,4,[cI s2]⟩∧lk 20448 hp=some ⟨160,4,[cI s1]⟩∧lk 9288 hp=some ⟨160,4,[cI u2]⟩∧lk 9256 hp=some ⟨160,4,[cI u1]⟩∧lk 64 hp=some ⟨199,12,[cV zI zI zI]⟩∧lk 32 hp=some ⟨199,12,[cV x' y' z']⟩∧lk 0 hp=some ⟨199,12,[cV x y z]⟩)→G fr hp:=by
     rintro fr hp ⟨q0,q1,q2,q3,q4,q5,q6,q7,q8,q9,q10,q11,q12,q13⟩;exact hG _ _ Rz
    simp [go_sem,l1,l2,l7,l9,a8 l1,a8 l2,a8 l7,a8 l9,z4,v2,v2b,v3,v3b,vl,vlb,A6]
    repeat' first | exact hW _ _ ⟨rfl,rfl,rfl,rfl,rfl,rfl,rfl,rfl,rfl,rfl,rfl,rfl,rfl,rfl⟩ | (refine hW _ _ ?_;simp [fv,lk];done) | refine a9 f6 (d5 _ _) ?_ | refine a9 f7 (d5 _ _) ?_ | refine a9 f8 (d5 _ _) ?_ | refine a9 f9 (d5 _ _) ?_ | apply And.intro | simp [go_sem,l1,l2,l7,l9,a8 l1,a8 l2,a8 l7,a8 l9,z4,v2,v2b,v3,v3b,vl,vlb,A6]
   case hq =>
    simp [go_sem];refine C4 [0,1,3,4] [2,5,6,7,8,9] [0,1,3,4] (.alt (ah 2 (.alt (ai 5 (.alt (ag [6,7,8,9]) (ag [7,6,8,9]))) (.alt (ah 6 (.alt (ag [5,7,8,9]) (ah 7 (ag [5,8,9])))) (ah 7 (.alt (ag [5,6,8,9]) (ah 6 (ag [5,8,9]))))))) (.alt (ah 6 (.alt (ah 2 (.alt (ag [5,7,8,9]) (ah 7 (ag [5,8,9])))) (ah 7 (ah 2 (ag [5,8,9]))))) (ah 7 (.alt (ah 2 (.alt (ag [5,6,8,9]) (ah 6 (ag [5,8,9])))) (ah 6 (ah 2 (ag [5,8,9]))))))) ⟨[(2,.ptr 0 0 0 1),(3,.ptr 32 0 0 1),(4,.ptr 64 0 0 1),(7,.ptr 9256 0 0 1),(9,.ptr 20448 0 0 1),(11,.ptr 30192 0 0 1),(12,.ptr 30224 0 0 1)],[(30224,⟨160,4,[cI r]⟩),(30192,⟨160,4,[cI h]⟩),(20448,⟨160,4,[cI s1]⟩),(9256,⟨160,4,[cI u1]⟩),(64,⟨199,12,[cV zI zI zI]⟩),(32,⟨199,12,[cV x' y' z']⟩),(0,⟨199,12,[cV x y z]⟩)],40000⟩ (k:=10) ?h3 ?hq
    case h3 =>
     intro G hG
     have hW:∀ (fr:Fr) (hp:Hp),(fv 2 fr=.ptr 0 0 0 1∧fv 3 fr=.ptr 32 0 0 1∧fv 4 fr=.ptr 64 0 0 1∧fv 7 fr=.ptr 9256 0 0 1∧fv 9 fr=.ptr 20448 0 0 1∧fv 11 fr=.ptr 30192 0 0 1∧fv 12 fr=.ptr 30224 0 0 1∧lk 30224 hp=some ⟨160,4,[cI r]⟩∧lk 30192 hp=some ⟨160,4,[cI h]⟩∧lk 20448 hp=some ⟨160,4,[cI s1]⟩∧lk 9256 hp=some ⟨160,4,[cI u1]⟩∧lk 64 hp=some ⟨199,12,[cV zI zI zI]⟩∧lk 32 hp=some ⟨199,12,[cV x' y' z']⟩∧lk 0 hp=some ⟨199,12,[cV x y z]⟩)→G fr hp:=by
      rintro fr hp ⟨q0,q1,q2,q3,q4,q5,q6,q7,q8,q9,q10,q11,q12,q13⟩;exact hG _ _ Rz
     simp [go_sem,l4,l5,l7,l9,l11,l12,a8 l4,a8 l5,a8 l7,a8 l9,a8 l11,a8 l12,z4,A6]
     repeat' first | exact hW _ _ ⟨rfl,rfl,rfl,rfl,rfl,rfl,rfl,rfl,rfl,rfl,rfl,rfl,rfl,rfl⟩ | (refine hW _ _ ?_;simp [fv,lk];done) | refine a9 f11 (d5 _ _) ?_ | refine a9 f12 (d5 _ _) ?_ | apply And.intro | simp [go_sem,l4,l5,l7,l9,l11,l12,a8 l4,a8 l5,a8 l7,a8 l9,a8 l11,a8 l12,z4,A6]
    case hq =>
     by_cases q3:h=zI
     ·by_cases q4:r=zI
      ·obtain ⟨rfl,rfl,rfl⟩:=e1 q3 q4;simp [go_sem,l11,l12,y6,iz,a8 l11,a8 l12];refine ⟨fun _=>⟨fun _=>?_,fun h=>absurd q4 h⟩,fun h=>absurd q3 h⟩;simp [go_sem,vl,vt];refine a9 f29 (L3 _ _ _) ?_;simp [go_sem,ul2,ut2,wd,wl,d7];exact Rq rfl
      ·obtain ⟨rfl,rfl,rfl⟩:=e2 q3 q4;simp [go_sem,l11,l12,y6,iz,a8 l11,a8 l12];refine ⟨fun _=>⟨fun h=>absurd h q4,fun _=>?_⟩,fun h=>absurd q3 h⟩;refine a9 TB ab ?_;simp [go_sem];refine a9 f26 (B4 _ _ _) ?_;simp [go_sem,ul,ut,wd,wl,d7];exact Rq rfl
     obtain ⟨rfl,rfl,rfl⟩:=e3 q3;simp [go_sem,l11,l12,y6,iz,a8 l11,a8 l12];refine ⟨fun h=>absurd h q3,fun _=>?_⟩;refine a9 f13 (m9 _) ?_;simp [go_sem,l11,l13,a8 l11,a8 l13,z4];refine a9 f14 (d5 _ _) ?_;simp [go_sem,l4,l13,l14,a8 l4,a8 l13,a8 l14,z4];refine a9 f15 (d5 _ _) ?_;simp [go_sem,l15,a8 l15,z4];refine C4 [0,2,4] [1,3,5,6,7,8] [0,2,4] (.alt (ah 1 (.alt (ah 3 (.alt (ai 5 (.alt (ag [6,7,8]) (ag [7,6,8]))) (ah 7 (ag [5,6,8])))) (ah 7 (ah 3 (ag [5,6,8]))))) (ah 7 (ah 1 (ah 3 (ag [5,6,8]))))) ⟨[(2,.ptr 0 0 0 1),(3,.ptr 32 0 0 1),(4,.ptr 64 0 0 1),(9,.ptr 20448 0 0 1),(11,.ptr 30192 0 0 1),(12,.ptr 30224 0 0 1),(14,.ptr 40320 0 0 1),(15,.ptr 40480 0 0 1),(16,.ptr 40768 0 0 1)],[(40768,⟨160,4,[cI X]⟩),(40480,⟨160,4,[cI v]⟩),(40320,⟨160,4,[cI h3]⟩),(30224,⟨160,4,[cI r]⟩),(30192,⟨160,4,[cI h]⟩),(20448,⟨160,4,[cI s1]⟩),(64,⟨199,12,[cV zI zI zI]⟩),(32,⟨199,12,[cV x' y' z']⟩),(0,⟨199,12,[cV x y z]⟩)],50000⟩ (k:=9) ?h3 ?hq
     case h3 =>
      intro G hG
      have hW:∀ (fr:Fr) (hp:Hp),(fv 2 fr=.ptr 0 0 0 1∧fv 3 fr=.ptr 32 0 0 1∧fv 4 fr=.ptr 64 0 0 1∧fv 9 fr=.ptr 20448 0 0 1∧fv 11 fr=.ptr 30192 0 0 1∧fv 12 fr=.ptr 30224 0 0 1∧fv 14 fr=.ptr 40320 0 0 1∧fv 15 fr=.ptr 40480 0 0 1∧fv 16 fr=.ptr 40768 0 0 1∧lk 40768 hp=some ⟨160,4,[cI X]⟩∧lk 40480 hp=some ⟨160,4,[cI v]⟩∧lk 40320 hp=some ⟨160,4,[cI h3]⟩∧lk 30224 hp=some ⟨160,4,[cI r]⟩∧lk 30192 hp=some ⟨160,4,[cI h]⟩∧lk 20448 hp=some ⟨160,4,[cI s1]⟩∧lk 64 hp=some ⟨199,12,[cV zI zI zI]⟩∧lk 32 hp=some ⟨199,12,[cV x' y' z']⟩∧lk 0 hp=some ⟨199,12,[cV x y z]⟩)→G fr hp:=by
       rintro fr hp ⟨q0,q1,q2,q3,q4,q5,q6,q7,q8,q9,q10,q11,q12,q13,q14,q15,q16,q17⟩;exact hG _ _ Rz
      simp [go_sem,l12,l14,l15,l18,a8 l12,a8 l14,a8 l15,a8 l18,z4,A6]
      repeat' first | exact hW _ _ ⟨rfl,rfl,rfl,rfl,rfl,rfl,rfl,rfl,rfl,rfl,rfl,rfl,rfl,rfl,rfl,rfl,rfl,rfl⟩ | (refine hW _ _ ?_;simp [fv,lk];done) | refine a9 f16 (m9 _) ?_ | refine a9 f17 (d5 _ _) ?_ | refine a9 f20 (Vm _ _) ?_ | refine a9 f18 (d5 _ _) ?_ | apply And.intro | simp [go_sem,l12,l14,l15,l18,a8 l12,a8 l14,a8 l15,a8 l18,z4,A6]
     case hq =>
      simp [go_sem];refine C4 [0,1,2,5,6] [3,4,7,8,9,10] [0,1,2,5,6] (.alt (ah 3 (.alt (ah 4 (.alt (ai 7 (.alt (ag [8,9,10]) (ag [9,8,10]))) (ah 9 (ag [7,8,10])))) (ah 9 (ah 4 (ag [7,8,10]))))) (ah 9 (ah 3 (ah 4 (ag [7,8,10]))))) ⟨[(2,.ptr 0 0 0 1),(3,.ptr 32 0 0 1),(4,.ptr 64 0 0 1),(11,.ptr 30192 0 0 1),(16,.ptr 40768 0 0 1),(17,.ptr 50288 0 0 1)],[(50288,⟨160,4,[cI Y]⟩),(40768,⟨160,4,[cI X]⟩),(30192,⟨160,4,[cI h]⟩),(64,⟨199,12,[cV zI zI zI]⟩),(32,⟨199,12,[cV x' y' z']⟩),(0,⟨199,12,[cV x y z]⟩)],60000⟩ (k:=11) ?h3 ?hq
      case h3 =>
       intro G hG
       have hW:∀ (fr:Fr) (hp:Hp),(fv 2 fr=.ptr 0 0 0 1∧fv 3 fr=.ptr 32 0 0 1∧fv 4 fr=.ptr 64 0 0 1∧fv 11 fr=.ptr 30192 0 0 1∧fv 16 fr=.ptr 40768 0 0 1∧fv 17 fr=.ptr 50288 0 0 1∧lk 50288 hp=some ⟨160,4,[cI Y]⟩∧lk 40768 hp=some ⟨160,4,[cI X]⟩∧lk 30192 hp=some ⟨160,4,[cI h]⟩∧lk 64 hp=some ⟨199,12,[cV zI zI zI]⟩∧lk 32 hp=some ⟨199,12,[cV x' y' z']⟩∧lk 0 hp=some ⟨199,12,[cV x y z]⟩)→G fr hp:=by
        rintro fr hp ⟨q0,q1,q2,q3,q4,q5,q6,q7,q8,q9,q10,q11⟩;exact hG _ _ Rz
       simp [go_sem,l7,l12,l14,l15,l18,l19,a8 l7,a8 l12,a8 l14,a8 l15,a8 l18,a8 l19,z4,A6]
       repeat' first | exact hW _ _ ⟨rfl,rfl,rfl,rfl,rfl,rfl,rfl,rfl,rfl,rfl,rfl,rfl⟩ | (refine hW _ _ ?_;simp [fv,lk];done) | refine a9 f21 (d5 _ _) ?_ | refine a9 f22 (d5 _ _) ?_ | refine a9 f24 (d5 _ _) ?_ | refine a9 f19 (d5 _ _) ?_ | apply And.intro | simp [go_sem,l7,l12,l14,l15,l18,l19,a8 l7,a8 l12,a8 l14,a8 l15,a8 l18,a8 l19,z4,A6]
      case hq =>
       simp only [go_sem,Nat.reduceEqDiff,Nat.reduceAdd,Nat.reduceLT,↓reduceIte];refine B7 [0,1,2,3,4,5,6] [(7,[]),(8,[9]),(10,[])] 2 (k:=11) ?_;intro G hG;simp [go_sem,l18,l19,l11,a8 l18,a8 l19,a8 l11,v3,v3b,vl,vlb];refine a9 f25 (d5 _ _) ?_;simp [go_sem];refine a9 f23 (d5 _ _) ?_;have ev:cI X ++ (cI Y ++ cI Z)=cV X Y Z:=rfl;have xl:=B5 l18 l19 l23;have xt:=y7 l18 l19 l23;simp [go_sem,l18,l19,l23,wl,wd,mk8 l18 l19,aps l18 l19,ev,xl,A6];refine hG _ _ ?_;simp [go_sem,xl,xt,d7];exact Rq rfl
abbrev T3:=List Int × List Int × List Int
def W3 (s:T3):Prop:=Wn 4 s.1∧Wn 4 s.2.1∧Wn 4 s.2.2
def aaO (s:T3):Prop:=YT s.1 s.2.1 s.2.2
noncomputable def JV3 (s:T3):Pt pP:=JV s.1 s.2.1 s.2.2
theorem axW:∃ D:T3→T3,∀ s,W3 s→W3 (D s)∧(aaO s→aaO (D s)∧JV3 (D s)=sum fd (JV3 s) (JV3 s))∧m6 Tryz.prog 171 [.agg (cV s.1 s.2.1 s.2.2)] (fun r=>r=.agg (cV (D s).1 (D s).2.1 (D s).2.2)) :=
 pick (α:=T3) (β:=T3) (A:=W3) (B:=fun s t=>W3 t∧(aaO s→aaO t∧JV3 t=sum fd (JV3 s) (JV3 s))∧m6 Tryz.prog 171 [.agg (cV s.1 s.2.1 s.2.2)] (fun r=>r=.agg (cV t.1 t.2.1 t.2.2))) (fun s hs=>by
  obtain ⟨u,v,w,h1,h2,h3,hv,h4⟩:=aaM s.1 s.2.1 s.2.2 hs.1 hs.2.1 hs.2.2
  exact ⟨(u,v,w),⟨h1,h2,h3⟩,hv,h4⟩)
theorem avJ:∃ D:T3 × T3→T3,∀ s,(W3 s.1∧W3 s.2)→W3 (D s)∧(aaO s.1→aaO s.2→aaO (D s)∧JV3 (D s)=sum fd (JV3 s.1) (JV3 s.2))∧m6 Tryz.prog 169 [.agg (cV s.1.1 s.1.2.1 s.1.2.2),.agg (cV s.2.1 s.2.2.1 s.2.2.2)] (fun r=>r=.agg (cV (D s).1 (D s).2.1 (D s).2.2)) :=
 pick (α:=T3 × T3) (β:=T3) (A:=fun s=>W3 s.1∧W3 s.2) (B:=fun s t=>W3 t∧(aaO s.1→aaO s.2→aaO t∧JV3 t=sum fd (JV3 s.1) (JV3 s.2))∧m6 Tryz.prog 169 [.agg (cV s.1.1 s.1.2.1 s.1.2.2),.agg (cV s.2.1 s.2.2.1 s.2.2.2)] (fun r=>r=.agg (cV t.1 t.2.1 t.2.2))) (fun s hs=>by
  obtain ⟨u,v,w,h1,h2,h3,hv,h4⟩:=aie s.1.1 s.1.2.1 s.1.2.2 s.2.1 s.2.2.1 s.2.2.2 hs.1.1 hs.1.2.1 hs.1.2.2 hs.2.1 hs.2.2.1 hs.2.2.2
  exact ⟨(u,v,w),⟨h1,h2,h3⟩,hv,h4⟩)
theorem axX:∃ D:List Int × Nat→Bool,∀ s,(Wn 4 s.1∧s.2<256)→(D s=true ↔ (V s.1).toNat / 2 ^ s.2 % 2=1)∧m6 Tryz.prog 172 [.agg (cI s.1),.d (.int .i64 (s.2:Int))] (fun r=>r=.d (.bool (D s))) :=
 pick (α:=List Int × Nat) (β:=Bool) (A:=fun s=>Wn 4 s.1∧s.2<256) (B:=fun s t=>(t=true ↔ (V s.1).toNat / 2 ^ s.2 % 2=1)∧m6 Tryz.prog 172 [.agg (cI s.1),.d (.int .i64 (s.2:Int))] (fun r=>r=.d (.bool t))) (fun s hs=>asU s.1 s.2 hs.1 hs.2)
def adx (D:T3→T3) (A:T3 × T3→T3) (B:List Int × Nat→Bool) (a b:List Int) (M:Nat) (one two both:T3) (k:Nat) (s:T3):T3 :=
 if B (a,M - 1 - k) then (if B (b,M - 1 - k) then A (D s,both) else A (D s,one)) else (if B (b,M - 1 - k) then A (D s,two) else D s)
theorem ajz {P Q:Pt pP} (hP:RZ P) (hQ:RZ Q) (a b:Nat) :
  sum fd (sum fd (mp fd a P) (mp fd b Q)) (sum fd (mp fd a P) (mp fd b Q))=sum fd (mp fd (2*a) P) (mp fd (2*b) Q) ∧
  sum fd (sum fd (mp fd (2*a) P) (mp fd (2*b) Q)) P=sum fd (mp fd (2*a+1) P) (mp fd (2*b) Q) ∧
  sum fd (sum fd (mp fd (2*a) P) (mp fd (2*b) Q)) Q=sum fd (mp fd (2*a) P) (mp fd (2*b+1) Q) ∧
  sum fd (sum fd (mp fd (2*a) P) (mp fd (2*b) Q)) (sum fd P Q)=sum fd (mp fd (2*a+1) P) (mp fd (2*b+1) Q):=by
 have a1:=W8 fd hP a;have b1:=W8 fd hQ b;have a2:=W8 fd hP (2*a);have b2:=W8 fd hQ (2*b);refine ⟨?_,?_,?_,?_⟩
 ·rw [avt fd a1 b1 a1 b1,adq fd hP,adq fd hQ]
 ·rw [mp,R0 fd a2 b2 hP,aaD fd (mp fd (2*b) Q) P,← R0 fd a2 hP b2]
 ·rw [mp,R0 fd a2 b2 hQ]
 ·rw [mp,mp,avt fd a2 b2 hP hQ]
theorem ace (N M k:Nat) (h:k<M):N / 2 ^ (M - (k+1))=2*(N / 2 ^ (M - k))+N / 2 ^ (M - 1 - k) % 2:=by
 have e:M - k=(M - 1 - k)+1:=aa;have e2:M - (k+1)=M - 1 - k:=aa;rw [e,e2,Nat.pow_succ,← Nat.div_div_eq_div_mul];omega
theorem agN (a b:List Int) (x y x' y':List Int) (c c':Bool):∀ v,v ∈ [AV.agg (cI a),AV.agg (cP x y c),AV.agg (cI b),AV.agg (cP x' y' c')]→v.deep:=by
 intro v hv;simp at hv;rcases hv with rfl | rfl | rfl | rfl
 ·exact N7 _
 ·exact Vl _ _ _
 ·exact N7 _
 ·exact Vl _ _ _
theorem afc (n:List Int) (m:Int):∀ v,v ∈ [AV.agg (cI n),AV.d (.int .i64 m)]→v.deep:=by
 intro v hv;simp at hv;rcases hv with rfl | rfl;exact N7 _;trivial
theorem apv (a b x y x' y':List Int) (c c':Bool) (ha:Wn 4 a) (hb:Wn 4 b) (hx:Wn 4 x) (hy:Wn 4 y) (hx':Wn 4 x') (hy':Wn 4 y'):∃ (u v:List Int) (o:Bool),Wn 4 u∧Wn 4 v∧(L2 x y c→L2 x' y' c'→L2 u v o∧PV u v o=sum fd (mp fd (V a).toNat (PV x y c)) (mp fd (V b).toNat (PV x' y' c')))∧m6 Tryz.prog 123 [.agg (cI a),.agg (cP x y c),.agg (cI b),.agg (cP x' y' c')] (fun r=>r=.agg (cP u v o)):=by
 obtain ⟨D,hD⟩:=axW;obtain ⟨A,hA⟩:=avJ;obtain ⟨B,hB⟩:=axX;obtain ⟨p1,p2,p3,hp1,hp2,tv1,t1⟩:=Yd x y c hx hy;obtain ⟨u1,v1,w1,hu1,hv1,hw1,wv1,g1⟩:=V2 p1 p2 p3 hp1 hp2;obtain ⟨r1,r2,r3,hr1,hr2,tv2,t2⟩:=Yd x' y' c' hx' hy';obtain ⟨u2,v2,w2,hu2,hv2,hw2,wv2,g2⟩:=V2 r1 r2 r3 hr1 hr2;obtain ⟨u3,v3,w3,hu3,hv3,hw3,wv3,f3⟩:=aie u1 v1 w1 u2 v2 w2 hu1 hv1 hw1 hu2 hv2 hw2;obtain ⟨u4,v4,w4,hu4,hv4,hw4,wv4,f4⟩:=V2 zI zI true H4 H4;obtain ⟨La,hLa,vLa,f5⟩:=adk a ha;obtain ⟨Lb,hLb,vLb,f6⟩:=adk b hb;obtain ⟨M,hM⟩:∃ M,M=max La Lb:=⟨_,rfl⟩;have hM2:M≤256:=aa;have hone:W3 (u1,v1,w1):=⟨hu1,hv1,hw1⟩;have htwo:W3 (u2,v2,w2):=⟨hu2,hv2,hw2⟩;have hboth:W3 (u3,v3,w3):=⟨hu3,hv3,hw3⟩
 have hS:∀ k,W3 (A4 (adx D A B a b M (u1,v1,w1) (u2,v2,w2) (u3,v3,w3)) (u4,v4,w4) k):=O9 (P:=fun _ s=>W3 s) ⟨hu4,hv4,hw4⟩ fun k s hs=>by
  have hd:=(hD s hs).1;unfold adx
  split
  ·split
   ·exact (hA _ ⟨hd,hboth⟩).1
   ·exact (hA _ ⟨hd,hone⟩).1
  ·split
   ·exact (hA _ ⟨hd,htwo⟩).1
   ·exact hd
 obtain ⟨u,v,o,hu,hv,vp,f7⟩:=amz _ _ _ (hS M).1 (hS M).2.1 (hS M).2.2
 have vv:L2 x y c→L2 x' y' c'→L2 u v o∧PV u v o=sum fd (mp fd (V a).toNat (PV x y c)) (mp fd (V b).toNat (PV x' y' c')):=by
  intro i1 i2;obtain ⟨q1,q2,q3⟩:=tv1.2.1 i1;obtain ⟨q4,q5,q6⟩:=tv2.2.1 i2;subst q1 q2 q3 q4 q5 q6;have o1:=TA i1;have o2:=TA i2;obtain ⟨j1,e1⟩:=wv1 i1;obtain ⟨j2,e2⟩:=wv2 i2;obtain ⟨j3,e3⟩:=wv3 j1 j2;obtain ⟨j4,e4⟩:=wv4 VZ
  have hbig:∀ (w:List Int) (L:Nat),Wn 4 w→V w<2 ^ L→L≤M→(V w).toNat / 2 ^ M=0:=by
   intro w L hw hL hLM;have h0:=(G5 hw).1;have h1:(((V w).toNat:Nat):Int)<((2 ^ L:Nat):Int):=by rw [Int.toNat_of_nonneg h0];exact_mod_cast hL
   have h2:(V w).toNat<2 ^ L:=by exact_mod_cast h1
   exact Nat.div_eq_of_lt (Nat.lt_of_lt_of_le h2 (Nat.pow_le_pow_right aa hLM))
  have main:∀ k,k≤M→aaO (A4 (adx D A B a b M (u1,v1,w1) (u2,v2,w2) (u3,v3,w3)) (u4,v4,w4) k)∧JV3 (A4 (adx D A B a b M (u1,v1,w1) (u2,v2,w2) (u3,v3,w3)) (u4,v4,w4) k)=sum fd (mp fd ((V a).toNat / 2 ^ (M - k)) (PV p1 p2 p3)) (mp fd ((V b).toNat / 2 ^ (M - k)) (PV r1 r2 r3)):=by
   intro k
   induction k with
   | zero =>
    intro _;refine ⟨j4,?_⟩;rw [Nat.sub_zero,hbig a La ha vLa aa,hbig b Lb hb vLb aa];show JV u4 v4 w4=_;rw [e4,amw];exact (K6 fd (Q:=none) True.intro).symm
   | succ k ih =>
    intro hk;obtain ⟨i3,i4⟩:=ih aa;have hs:=hS k;rw [A4];generalize A4 (adx D A B a b M (u1,v1,w1) (u2,v2,w2) (u3,v3,w3)) (u4,v4,w4) k=s at *;obtain ⟨d1,d2,_⟩:=hD s hs;obtain ⟨d3,d4⟩:=d2 i3;have ba:=(hB (a,M - 1 - k) ⟨ha,aa⟩).1;have bb:=(hB (b,M - 1 - k) ⟨hb,aa⟩).1;obtain ⟨s1,s2,s3,s4⟩:=ajz o1 o2 ((V a).toNat / 2 ^ (M - k)) ((V b).toNat / 2 ^ (M - k));rw [i4,s1] at d4;rw [ace _ M k aa,ace (V b).toNat M k aa];dsimp only at ba bb;have m2:∀ n:Nat,n % 2=0 ∨ n % 2=1:=Nat.mod_two_eq_zero_or_one;unfold adx
    cases hb1:B (a,M - 1 - k)
    ·have za:(V a).toNat / 2 ^ (M - 1 - k) % 2=0:=(m2 _).resolve_right (fun h=>by rw [ba.2 h] at hb1;cases hb1);rw [za,Nat.add_zero]
     cases hb2:B (b,M - 1 - k)
     ·have zb:(V b).toNat / 2 ^ (M - 1 - k) % 2=0:=(m2 _).resolve_right (fun h=>by rw [bb.2 h] at hb2;cases hb2);rw [zb,Nat.add_zero];exact ⟨d3,d4⟩
     ·rw [bb.1 hb2];obtain ⟨k1,k2,_⟩:=hA (D s,(u2,v2,w2)) ⟨d1,htwo⟩;obtain ⟨k3,k4⟩:=k2 d3 j2;refine ⟨k3,?_⟩;show JV3 (A (D s,(u2,v2,w2)))=_;rw [k4,d4,← s3];show sum fd _ (JV u2 v2 w2)=_;rw [e2]
    ·rw [ba.1 hb1]
     cases hb2:B (b,M - 1 - k)
     ·have zb:(V b).toNat / 2 ^ (M - 1 - k) % 2=0:=(m2 _).resolve_right (fun h=>by rw [bb.2 h] at hb2;cases hb2);rw [zb,Nat.add_zero (2*((V b).toNat / 2 ^ (M - k)))];obtain ⟨k1,k2,_⟩:=hA (D s,(u1,v1,w1)) ⟨d1,hone⟩;obtain ⟨k3,k4⟩:=k2 d3 j1;refine ⟨k3,?_⟩;show JV3 (A (D s,(u1,v1,w1)))=_;rw [k4,d4,← s2];show sum fd _ (JV u1 v1 w1)=_;rw [e1]
     ·rw [bb.1 hb2];obtain ⟨k1,k2,_⟩:=hA (D s,(u3,v3,w3)) ⟨d1,hboth⟩;obtain ⟨k3,k4⟩:=k2 d3 j3;refine ⟨k3,?_⟩;show JV3 (A (D s,(u3,v3,w3)))=_;rw [k4,d4,← s4];show sum fd _ (JV u3 v3 w3)=_;rw [e3,e1,e2]
  obtain ⟨z1,z2⟩:=main M (av _);obtain ⟨z3,z4⟩:=vp z1;refine ⟨z3,?_⟩;rw [z4];show JV3 _=_;rw [z2,Nat.sub_self,Nat.pow_zero,Nat.div_one,Nat.div_one]
 refine ⟨u,v,o,hu,hv,vv,?_⟩;refine t6 Tryz.func123 Tryz.ntmps123 (rs:=[.cell 8 162]) (agN _ _ _ _ _ _ _ _) ?_;have hal:=ha.1;have hbl:=hb.1;have hxl:=hx.1;have hyl:=hy.1;have hxl':=hx'.1;have hyl':=hy'.1;have z4:List.drop 4 (cI zI)=[]:=i9 rfl;have pl1:=rP hxl hyl c;have pt1:=t4 hxl hyl c;have pl2:=rP hxl' hyl' c';have pt2:=t4 hxl' hyl' c';have wl1:=B5 hu1.1 hv1.1 hw1.1;have wt1:=y7 hu1.1 hv1.1 hw1.1;have wl2:=B5 hu2.1 hv2.1 hw2.1;have wt2:=y7 hu2.1 hv2.1 hw2.1;have wl3:=B5 hu3.1 hv3.1 hw3.1;have wt3:=y7 hu3.1 hv3.1 hw3.1;have wl4:=B5 hu4.1 hv4.1 hw4.1;have wt4:=y7 hu4.1 hv4.1 hw4.1;have wd:(cV zI zI zI).drop 12=[]:=P0 rfl rfl rfl;have wl:(cV zI zI zI).length=12:=rfl;have pd:(cP zI zI false).drop 9=[]:=L5 rfl rfl _;have pl:(cP zI zI false).length=9:=rfl;simp [go_sem,hal,hbl,a8 hal,a8 hbl,pl1,pt1,pl2,pt2];refine C4 [0,3] [1,2,4,5,6,7,8,9] [0,3] (.alt (ah 1 (.alt (ah 2 (.alt (ai 4 (.alt (ai 5 (.alt (ag [6,7,8,9]) (ag [7,6,8,9]))) (.alt (ai 6 (.alt (ag [5,7,8,9]) (ag [7,5,8,9]))) (ai 7 (.alt (ag [5,6,8,9]) (ag [6,5,8,9])))))) (.alt (ah 6 (.alt (ai 4 (.alt (ag [5,7,8,9]) (ag [7,5,8,9]))) (ah 7 (ag [4,5,8,9])))) (ah 7 (.alt (ai 4 (.alt (ag [5,6,8,9]) (ag [6,5,8,9]))) (ah 6 (ag [4,5,8,9]))))))) (.alt (ah 6 (.alt (ah 2 (.alt (ai 4 (.alt (ag [5,7,8,9]) (ag [7,5,8,9]))) (ah 7 (ag [4,5,8,9])))) (ah 7 (ah 2 (ag [4,5,8,9]))))) (ah 7 (.alt (ah 2 (.alt (ai 4 (.alt (ag [5,6,8,9]) (ag [6,5,8,9]))) (ah 6 (ag [4,5,8,9])))) (ah 6 (ah 2 (ag [4,5,8,9])))))))) (.alt (ah 6 (.alt (ah 1 (.alt (ah 2 (.alt (ai 4 (.alt (ag [5,7,8,9]) (ag [7,5,8,9]))) (ah 7 (ag [4,5,8,9])))) (ah 7 (ah 2 (ag [4,5,8,9]))))) (ah 7 (ah 1 (ah 2 (ag [4,5,8,9])))))) (ah 7 (.alt (ah 1 (.alt (ah 2 (.alt (ai 4 (.alt (ag [5,6,8,9]) (ag [6,5,8,9]))) (ah 6 (ag [4,5,8,9])))) (ah 6 (ah 2 (ag [4,5,8,9]))))) (ah 6 (ah 1 (ah 2 (ag [4,5,8,9])))))))) ⟨[(4,.ptr 0 0 0 1),(6,.ptr 64 0 0 1),(8,.ptr 128 0 0 1),(9,.ptr 352 0 0 1),(10,.ptr 384 0 0 1)],[(384,⟨199,12,[cV u2 v2 w2]⟩),(352,⟨199,12,[cV u1 v1 w1]⟩),(128,⟨162,9,[cP zI zI false]⟩),(64,⟨160,4,[cI b]⟩),(0,⟨160,4,[cI a]⟩)],9000⟩ (k:=10) ?h3 ?hq
 case h3 =>
  intro G hG
  have hW:∀ (fr:Fr) (hp:Hp),(fv 4 fr=.ptr 0 0 0 1∧fv 6 fr=.ptr 64 0 0 1∧fv 8 fr=.ptr 128 0 0 1∧fv 9 fr=.ptr 352 0 0 1∧fv 10 fr=.ptr 384 0 0 1∧lk 384 hp=some ⟨199,12,[cV u2 v2 w2]⟩∧lk 352 hp=some ⟨199,12,[cV u1 v1 w1]⟩∧lk 128 hp=some ⟨162,9,[cP zI zI false]⟩∧lk 64 hp=some ⟨160,4,[cI b]⟩∧lk 0 hp=some ⟨160,4,[cI a]⟩)→G fr hp:=by
   rintro fr hp ⟨q0,q1,q2,q3,q4,q5,q6,q7,q8,q9⟩;exact hG _ _ Rz
  simp [go_sem,hal,hbl,a8 hal,a8 hbl,pl1,pt1,pl2,pt2,wl1,wt1,wl2,wt2,wd,z4,A6]
  repeat' first | exact hW _ _ ⟨rfl,rfl,rfl,rfl,rfl,rfl,rfl,rfl,rfl,rfl⟩ | (refine hW _ _ ?_;simp [fv,lk];done) | refine a9 t1 (B4 _ _ _) ?_ | refine a9 t2 (B4 _ _ _) ?_ | refine a9 g1 (B4 _ _ _) ?_ | refine a9 g2 (B4 _ _ _) ?_ | apply And.intro | simp [go_sem,hal,hbl,a8 hal,a8 hbl,pl1,pt1,pl2,pt2,wl1,wt1,wl2,wt2,wd,z4,A6]
 case hq =>
  simp [go_sem,wl1,wt1,wl2,wt2];refine a9 f3 (Xq _ _ _ _ _ _) ?_;simp [go_sem,wl3,wt3,wd];refine a9 TB ab ?_;simp [go_sem];refine a9 f4 (B4 _ _ _) ?_;simp [go_sem,wl4,wt4,wd];refine B7 [0,2] [(1,[]),(3,[]),(4,[5,6])] 3 (k:=7) ?_;intro G hG;simp [go_sem,hal,hbl,a8 hal,a8 hbl];refine a9 f5 (m9 _) ?_;simp [go_sem,hal,hbl,a8 hal,a8 hbl];refine a9 f6 (m9 _) ?_;have w0:IntKind.i64.wrap ((M:Int) - 1)=(M:Int) - 1:=by rw [IntWalk.i64_in _ aa]
  have hMi:max (La:Int) (Lb:Int)=(M:Int):=aa;have hMx:(if La<Lb then (Lb:Int) else (La:Int))=(M:Int):=by split <;> omega
  simp [go_sem,hMi,w0];refine hG _ _ ?_;generalize hSS:A4 (adx D A B a b M (u1,v1,w1) (u2,v2,w2) (u3,v3,w3)) (u4,v4,w4)=S at *;have hS0:S 0=(u4,v4,w4):=by rw [← hSS];rfl
  refine j9 (fun k:Nat=>⟨[(4,.ptr 0 0 0 1),(6,.ptr 64 0 0 1),(8,.ptr 128 0 0 1),(9,.ptr 352 0 0 1),(10,.ptr 384 0 0 1),(11,.ptr 9096 0 0 1),(12,.ptr 9224 0 0 1),(13,.d (.int .i64 ((M:Int) - 1 - (k:Int))))],[(9224,⟨199,12,[cV (S k).1 (S k).2.1 (S k).2.2]⟩),(9096,⟨199,12,[cV u3 v3 w3]⟩),(384,⟨199,12,[cV u2 v2 w2]⟩),(352,⟨199,12,[cV u1 v1 w1]⟩),(128,⟨162,9,[cP zI zI false]⟩),(64,⟨160,4,[cI b]⟩),(0,⟨160,4,[cI a]⟩)],20000⟩)
   (fun k=>k≤M) (fun k=>M - k) 0 aa (by
    rw [hS0];simp [m7,c6,fv,lk,AV.low,AV.low1]
    and_intros <;> first | exact Tm _ _ _ _ | exact o9 _ _ | exact Tl _ _ _ _ | (rw [hMx,w0])) ?_
  intro k hk;obtain ⟨hs1,hs2,hs3⟩:=hS k;have sl:=B5 hs1.1 hs2.1 hs3.1;have st:=y7 hs1.1 hs2.1 hs3.1;have sd:=P0 hs1.1 hs2.1 hs3.1;simp only [go_sem,Nat.reduceEqDiff,Nat.reduceAdd,Nat.reduceLT,↓reduceIte];by_cases h4:k<M
  ·refine ⟨fun h=>?_,fun h=>absurd aa h⟩;have hsn:S (k+1)=adx D A B a b M (u1,v1,w1) (u2,v2,w2) (u3,v3,w3) k (S k):=by rw [← hSS];rfl
   have wq:IntKind.i64.wrap ((M:Int) - 1 - (k:Int) - 1)=(M:Int) - 1 - ((k+1:Nat):Int):=by rw [IntWalk.i64_in _ aa];omega
   obtain ⟨d1,_,d2⟩:=hD (S k) ⟨hs1,hs2,hs3⟩;have dl:=B5 d1.1.1 d1.2.1.1 d1.2.2.1;have dt:=y7 d1.1.1 d1.2.1.1 d1.2.2.1;have dd:=P0 d1.1.1 d1.2.1.1 d1.2.2.1;have e1:=(hB (a,M - 1 - k) ⟨ha,aa⟩).2;have e2:=(hB (b,M - 1 - k) ⟨hb,aa⟩).2;have ei:(((M - 1 - k:Nat)):Int)=(M:Int) - 1 - (k:Int):=aa;simp only [ei] at e1 e2;unfold adx at hsn;simp [go_sem,sl,st];refine a9 d2 (L3 _ _ _) ?_;simp [go_sem,dl,dt,sl,sd];refine B7 [0,1,3,4] [(2,[]),(5,[6,7])] 2 (k:=8) ?_;intro G hG;simp [go_sem,hal,hbl,a8 hal,a8 hbl];refine a9 e1 (afc _ _) ?_;simp [go_sem,hal,hbl,a8 hal,a8 hbl];refine a9 e2 (afc _ _) ?_;simp [go_sem];refine hG _ _ ?_
   cases hb1:B (a,M - 1 - k)
   ·cases hb2:B (b,M - 1 - k)
    ·simp only [hb1,hb2,if_true,if_false,Bool.false_eq_true] at hsn;simp [go_sem,hb1,hb2,dl,dt,wl1,wt1,wl2,wt2,wl3,wt3];simp [go_sem,wq];refine c8 (k+1) aa aa ?_;rw [hsn];simp [m7,c6,fv,lk,AV.low,AV.low1];and_intros <;> first | exact Tm _ _ _ _ | exact o9 _ _ | exact Tl _ _ _ _ | omega
    ·simp only [hb1,hb2,if_true,if_false,Bool.false_eq_true] at hsn;simp [go_sem,hb1,hb2,dl,dt,wl1,wt1,wl2,wt2,wl3,wt3];obtain ⟨m1,_,m2⟩:=hA (D (S k),(u2,v2,w2)) ⟨d1,htwo⟩;refine a9 m2 (Xq _ _ _ _ _ _) ?_;have ml:=B5 m1.1.1 m1.2.1.1 m1.2.2.1;have mt:=y7 m1.1.1 m1.2.1.1 m1.2.2.1;have md:=P0 m1.1.1 m1.2.1.1 m1.2.2.1;generalize A (D (S k),(u2,v2,w2))=z at *;simp [go_sem,ml,mt,dd,dl,wq];refine c8 (k+1) aa aa ?_;rw [hsn];simp [m7,c6,fv,lk,AV.low,AV.low1];and_intros <;> first | exact Tm _ _ _ _ | exact o9 _ _ | exact Tl _ _ _ _ | omega
   ·cases hb2:B (b,M - 1 - k)
    ·simp only [hb1,hb2,if_true,if_false,Bool.false_eq_true] at hsn;simp [go_sem,hb1,hb2,dl,dt,wl1,wt1,wl2,wt2,wl3,wt3];obtain ⟨m1,_,m2⟩:=hA (D (S k),(u1,v1,w1)) ⟨d1,hone⟩;refine a9 m2 (Xq _ _ _ _ _ _) ?_;have ml:=B5 m1.1.1 m1.2.1.1 m1.2.2.1;have mt:=y7 m1.1.1 m1.2.1.1 m1.2.2.1;have md:=P0 m1.1.1 m1.2.1.1 m1.2.2.1;generalize A (D (S k),(u1,v1,w1))=z at *;simp [go_sem,ml,mt,dd,dl,wq];refine c8 (k+1) aa aa ?_;rw [hsn];simp [m7,c6,fv,lk,AV.low,AV.low1];and_intros <;> first | exact Tm _ _ _ _ | exact o9 _ _ | exact Tl _ _ _ _ | omega
    ·simp only [hb1,hb2,if_true,if_false,Bool.false_eq_true] at hsn;simp [go_sem,hb1,hb2,dl,dt,wl1,wt1,wl2,wt2,wl3,wt3];obtain ⟨m1,_,m2⟩:=hA (D (S k),(u3,v3,w3)) ⟨d1,hboth⟩;refine a9 m2 (Xq _ _ _ _ _ _) ?_;have ml:=B5 m1.1.1 m1.2.1.1 m1.2.2.1;have mt:=y7 m1.1.1 m1.2.1.1 m1.2.2.1;have md:=P0 m1.1.1 m1.2.1.1 m1.2.2.1;generalize A (D (S k),(u3,v3,w3))=z at *;simp [go_sem,ml,mt,dd,dl,wq];refine c8 (k+1) aa aa ?_;rw [hsn];simp [m7,c6,fv,lk,AV.low,AV.low1];and_intros <;> first | exact Tm _ _ _ _ | exact o9 _ _ | exact Tl _ _ _ _ | omega
  ·refine ⟨fun h=>absurd aa h4,fun h=>?_⟩;have hkl:k=M:=aa;subst hkl;simp [go_sem,sl,st];refine a9 f7 (L3 _ _ _) ?_;have ol:=rP hu.1 hv.1 o;have ot:=t4 hu.1 hv.1 o;simp [go_sem,ol,ot,pl,pd,d7];exact L9 rfl
def I8:List Nat:=[84,97,112,84,119,101,97,107]
theorem ady (t b:List Nat):(G9 t b).length=32∧bytes (G9 t b):=⟨s8 _,D3 _⟩
theorem V5 (b:List Nat) (d:DV):∀ v,v ∈ [AV.agg (cb b),AV.d d]→v.deep:=by
 intro v hv;simp at hv;rcases hv with rfl | rfl;exact Sk _;trivial
theorem agP (inner root:List Nat) (hi:inner.length=32) (hr:root.length≤1000):∃ (t:List Int) (ok:Bool),Wn 4 t∧((J2 (G9 I8 (inner ++ root))<115792089237316195423570985008687907852837564279074904382605163141518161494337→ok=true∧V t=(J2 (G9 I8 (inner ++ root)):Int))∧(¬ J2 (G9 I8 (inner ++ root))<115792089237316195423570985008687907852837564279074904382605163141518161494337→ok=false∧t=zI))∧m6 Tryz.prog 122 [.agg (cb inner),.d (nb root)] (fun r=>r=.tup [.agg (cI t),.d (.bool ok)]):=by
 obtain ⟨t,ok,ht,vt,f1⟩:=amB (G9 I8 (inner ++ root)) (ady _ _).1 (ady _ _).2;refine ⟨t,ok,ht,vt,?_⟩;refine t6 Tryz.func122 Tryz.ntmps122 (rs:=[.cell 4 160,.tmp 5]) (V5 _ _) ?_;have htl:=ht.1;have hz:List.drop 4 (cI zI)=[]:=i9 rfl;simp [go_sem,d0,hi,d6 hi];refine u7 [0,160] (ajy inner root hi aa) rfl (c7 (.one (d9 (aag (rows:=[[.sub 0 0 0 1 32 32 1],[.d (nb root)]]) rfl ab rfl (RowsR.cons (.cons (Si rfl ab hi) .nil) (RowsR.cons (.cons (.d _) .nil) .nil)) rfl (by intro r hr;simp at hr;rcases hr with rfl | rfl <;> rfl)))) n7) ?_;simp [go_sem,p9];refine a9 (TG I8 (.str [84,97,112,84,119,101,97,107]) rfl (inner ++ root) (by simp [I8]) (by rw [aj];omega)) ae ?_;simp [go_sem];refine a9 f1 (B8 _) ?_;simp [go_sem,htl,a8 htl,hz,d7];exact RB rfl
noncomputable def liftPt (n:Nat):Pt pP:=some (icF pP (n:Int),icF pP (if TZ n % 2=0 then TZ n else (0 - TZ n) % 115792089237316195423570985008687907853269984665640564039457584007908834671663))
noncomputable def turnQ (n t:Nat):Pt pP:=sum fd (mp fd 1 (liftPt n)) (mp fd t (PV gX gY false))
theorem asY (R p:Int):(0 - R) % p*((0 - R) % p) % p=R*R % p:=by
 rw [← Int.mul_emod];congr 1;rw [Int.zero_sub,Int.neg_mul_neg]
theorem asZ {x:List Int} {n:Nat} (hx:V x=n):((((FV x*FV x*FV x+7:F)).val:Nat):Int)=Sw n:=by
 have e7:(((7:F).val:Nat):Int)=7 % pZ:=by
  show ((7 % pP:Nat):Int)=_;rw [Int.natCast_emod,Rp];rfl
 rw [ajs,YR,YR,Int.natCast_emod,Int.natCast_add,Int.natCast_emod,Int.natCast_mul,Int.natCast_emod,Int.natCast_mul,G3,e7,Rp,hx];unfold Sw;show _=((n:Int)*n*n+7) % pZ;rw [← Int.mul_emod (n:Int) n,← Int.mul_emod ((n:Int)*n) n,← Int.add_emod]
theorem aif {n:Nat} {x y:List Int} {c:Bool} (h:afa n x y c true):V3 n∧c=false∧L2 x y c∧PV x y c=liftPt n:=by
 rcases h with ⟨_,h,_⟩ | ⟨h1,_,rfl,hx,hy⟩
 ·cases h
 have hpos:(0:Int)<pZ:=by decide
 have hyl:V y<pZ:=by
  rw [hy]
  split
  ·exact Int.emod_lt_of_pos _ hpos
  ·exact Int.emod_lt_of_pos _ hpos
 have hon:FV y*FV y=FV x*FV x*FV x+7:=by
  refine VY ?_;rw [asZ hx,YR,Int.natCast_emod,Int.natCast_mul,G3,Rp,← Int.mul_emod];have hc:Sw n % pZ=Sw n:=by unfold Sw;exact Int.emod_emod _ _
  have hR:TZ n*TZ n % pZ=Sw n:=h1.2.trans hc;rw [hy]
  split
  ·exact hR
  ·rw [← hR];exact asY _ _
 refine ⟨h1,rfl,.inr ⟨rfl,by rw [hx];exact h1.1,hyl,hon⟩,?_⟩;show some (icF pP (V x),icF pP (V y))=_;rw [hx,hy];rfl
theorem aig {n:Nat} {x y:List Int} {c:Bool} (h:afa n x y c false):¬ V3 n:=by
 rcases h with ⟨h,_⟩ | ⟨_,h,_⟩
 ·exact h
 ·cases h
def aaP (n t:Nat) (k:List Nat) (o:Bool) (e:Int):Prop :=
 ((¬ (V3 n∧t<115792089237316195423570985008687907852837564279074904382605163141518161494337) ∨ turnQ n t=none)∧e=1∧k=z32∧o=false) ∨
 ((V3 n∧t<115792089237316195423570985008687907852837564279074904382605163141518161494337)∧e=0∧∃ x y,turnQ n t=some (x,y)∧J2 k=x.val∧(o=true ↔ y.val % 2=1))
theorem aih {x:List Int} (hx:Wn 4 x) (h:V x<pZ):(V x).toNat=(FV x).val:=by
 have e:=G3 x;have h0:=(G5 hx).1;rw [Int.emod_eq_of_lt h0 h] at e;omega
def E1 (e:Int):Prop:=e=0 ∨ e=1
theorem P1 {Q:AV→Prop} {st:St} {b:List Nat} {o:Bool} {e:Int} (hq:Q (.tup [.agg (cb b),.d (.bool o),.d (.int .i64 e)])):N6 Q (.tup [.agg (cb b),.d (.bool o),.d (.int .i64 e)]) st :=
 b7 (by
  intro c hc;simp at hc;rcases hc with rfl | rfl | rfl
  ·exact .inr ⟨_,rfl,r6 _⟩
  ·exact .inl trivial
  ·exact .inl trivial) hq
theorem apw (inner root:List Nat) (hi:inner.length=32) (hib:bytes inner) (hr:root.length≤1000):∃ (k:List Nat) (o:Bool) (e:Int),k.length=32∧bytes k∧E1 e∧aaP (J2 inner) (J2 (G9 I8 (inner ++ root))) k o e∧m6 Tryz.prog 89 [.agg (cb inner),.d (nb root)] (fun r=>r=.tup [.agg (cb k),.d (.bool o),.d (.int .i64 e)]):=by
 obtain ⟨x,y,c,ok,hx,hy,vl,f1⟩:=amC inner hi hib;obtain ⟨t,ok2,ht,vt,f2⟩:=agP inner root hi hr;obtain ⟨qx,qy,qc,hqx,hqy,vq,f4⟩:=apv [1,0,0,0] t x y gX gY c false (H8 ⟨aa,aa⟩) ht hx hy apu asV;obtain ⟨kb,kl,kbb,vk,f5⟩:=ajx qx qy qc hqx hqy;obtain ⟨od,vo,f6⟩:=apt qx qy qc hqx hqy;generalize hT:J2 (G9 I8 (inner ++ root))=T at *;have zb:bytes z32:=fun x hx=>by simp [z32] at hx;omega
 have pl:=rP hx.1 hy.1 c;have pt:=t4 hx.1 hy.1 c;have pd:(cP zI zI false).drop 9=[]:=L5 rfl rfl _;have pl0:(cP zI zI false).length=9:=rfl;have ql:=rP hqx.1 hqy.1 qc;have qt:=t4 hqx.1 hqy.1 qc;have qb:=VG hqx.1 hqy.1 qc;have qg:=V1 hqx.1 hqy.1 qc;have htl:=ht.1;have hz:List.drop 4 (cI zI)=[]:=i9 rfl;have zd:List.drop 32 (cb z32)=[]:=K5 rfl;have zt:List.take 32 (cb z32)=cb z32:=d6 rfl
 cases ok
 ·refine ⟨z32,false,1,rfl,zb,.inr rfl,.inl ⟨.inl (fun h=>aig vl h.1),rfl,rfl,rfl⟩,?_⟩;refine t6 Tryz.func89 Tryz.ntmps89 (rs:=[.cell 4 23,.tmp 5,.tmp 6]) (V5 _ _) ?_;simp [go_sem,d0,hi,d6 hi];refine a9 f1 (B8 _) ?_;simp [go_sem,pl,pt,pd,pl0,zd,zt,d0,d7];exact P1 rfl
 ·cases ok2
  ·refine ⟨z32,false,1,rfl,zb,.inr rfl,.inl ⟨.inl (fun h=>absurd (vt.1 h.2).1 (by decide)),rfl,rfl,rfl⟩,?_⟩;refine t6 Tryz.func89 Tryz.ntmps89 (rs:=[.cell 4 23,.tmp 5,.tmp 6]) (V5 _ _) ?_;simp [go_sem,d0,hi,d6 hi];refine a9 f1 (B8 _) ?_;simp [go_sem,d0,hi,d6 hi,pl,pt,pd,pl0];refine a9 f2 (V5 _ _) ?_;simp [go_sem,htl,a8 htl,hz,zd,zt,d0,d7];exact P1 rfl
  ·obtain ⟨k1,k2,k3,k4⟩:=aif vl
   have hlt:T<115792089237316195423570985008687907852837564279074904382605163141518161494337:=by
    by_cases h:T<115792089237316195423570985008687907852837564279074904382605163141518161494337
    ·exact h
    ·exact absurd (vt.2 h).1 (by decide)
   obtain ⟨m1,m2⟩:=vq k3 ZO;have vT:(V t).toNat=T:=by rw [(vt.1 hlt).2];exact Int.toNat_natCast _
   have v1:(V [1,0,0,0]).toNat=1:=by simp [V]
   rw [k4,vT,v1] at m2;have hQ:PV qx qy qc=turnQ (J2 inner) T:=m2
   cases qc
   ·have hp:=m1;rcases hp with ⟨hb,_⟩ | ⟨_,hb1,hb2,_⟩
    ·cases hb
    have vR:aaP (J2 inner) T kb (!od) 0:=by
     refine .inr ⟨⟨k1,hlt⟩,rfl,FV qx,FV qy,hQ.symm,by rw [vk m1];exact aih hqx hb1,?_⟩;have e:=aih hqy hb2;have hy0:=(G5 hqy).1;have ho:=vo m1
     cases od
     ·have:¬ V qy % 2=0:=fun h=>Bool.noConfusion (ho.2 ⟨rfl,h⟩);exact ⟨fun _=>aa,fun _=>rfl⟩
     ·have:=(ho.1 rfl).2;exact ⟨fun h=>Bool.noConfusion h,fun h=>aa⟩
    refine ⟨kb,!od,0,kl,kbb,.inl rfl,vR,?_⟩;refine t6 Tryz.func89 Tryz.ntmps89 (rs:=[.cell 4 23,.tmp 5,.tmp 6]) (V5 _ _) ?_;simp [go_sem,d0,hi,d6 hi];refine a9 f1 (B8 _) ?_;simp [go_sem,d0,hi,d6 hi,pl,pt,pd,pl0];refine a9 f2 (V5 _ _) ?_;simp [go_sem,htl,a8 htl,hz];refine C4 [1,2] [0,3,4,5,6] [1,2] (.alt (ah 0 (.alt (ah 3 (.alt (ag [4,5,6]) (ah 5 (ag [4,6])))) (ah 5 (ah 3 (ag [4,6]))))) (ah 5 (ah 0 (ah 3 (ag [4,6]))))) ⟨[(4,.ptr 32 0 0 1),(10,.ptr 960 0 0 1)],[(960,⟨162,9,[cP qx qy false]⟩),(32,⟨23,32,[cb z32]⟩)],5000⟩ (k:=7) ?h3 ?hq
    case h3 =>
     intro G hG
     have hW:∀ (fr:Fr) (hp:Hp),(fv 4 fr=.ptr 32 0 0 1∧fv 10 fr=.ptr 960 0 0 1∧lk 960 hp=some ⟨162,9,[cP qx qy false]⟩∧lk 32 hp=some ⟨23,32,[cb z32]⟩)→G fr hp:=by
      rintro fr hp ⟨q0,q1,q2,q3⟩;exact hG _ _ Rz
     simp [go_sem,htl,a8 htl,pl,pt,ql,qt,pd,pl0,hz,A6]
     repeat' first | exact hW _ _ ⟨rfl,rfl,rfl,rfl⟩ | (refine hW _ _ ?_;simp [fv,lk];done) | refine a9 (N8 1) ae ?_ | refine a9 ah9 ab ?_ | refine a9 f4 (agN _ _ _ _ _ _ _ _) ?_ | apply And.intro | simp [go_sem,htl,a8 htl,pl,pt,ql,qt,pd,pl0,hz,A6]
    case hq =>
     simp [go_sem,qb,qg,ql];refine C4 [0,2] [1,3,4,5,6,7] [0,2] (ah 1 (ai 3 (.alt (ag [4,5,6,7]) (ag [5,4,6,7])))) ⟨[(4,.ptr 32 0 0 1),(5,.d (.bool (!od))),(6,.d (.int .i64 0))],[(32,⟨23,32,[cb kb]⟩)],9000⟩ (k:=8) ?h3 ?hq
     case h3 =>
      intro G hG
      have hW:∀ (fr:Fr) (hp:Hp),(fv 4 fr=.ptr 32 0 0 1∧fv 5 fr=.d (.bool (!od))∧fv 6 fr=.d (.int .i64 0)∧lk 32 hp=some ⟨23,32,[cb kb]⟩)→G fr hp:=by
       rintro fr hp ⟨q0,q1,q2,q3⟩;exact hG _ _ Rz
      simp [go_sem,ql,qt,kl,d0,d6 kl,zd,A6]
      repeat' first | exact hW _ _ ⟨rfl,rfl,rfl,rfl⟩ | (refine hW _ _ ?_;simp [fv,lk];done) | refine a9 f5 (B4 _ _ _) ?_ | refine a9 f6 (B4 _ _ _) ?_ | apply And.intro | simp [go_sem,ql,qt,kl,d0,d6 kl,zd,A6]
     case hq =>
      simp [go_sem,d0,kl,d6 kl,d7];exact P1 rfl
   ·refine ⟨z32,false,1,rfl,zb,.inr rfl,.inl ⟨.inr hQ.symm,rfl,rfl,rfl⟩,?_⟩;refine t6 Tryz.func89 Tryz.ntmps89 (rs:=[.cell 4 23,.tmp 5,.tmp 6]) (V5 _ _) ?_;simp [go_sem,d0,hi,d6 hi];refine a9 f1 (B8 _) ?_;simp [go_sem,d0,hi,d6 hi,pl,pt,pd,pl0];refine a9 f2 (V5 _ _) ?_;simp [go_sem,htl,a8 htl,hz];refine C4 [1,2] [0,3,4,5,6] [1,2] (.alt (ah 0 (.alt (ah 3 (.alt (ag [4,5,6]) (ah 5 (ag [4,6])))) (ah 5 (ah 3 (ag [4,6]))))) (ah 5 (ah 0 (ah 3 (ag [4,6]))))) ⟨[(4,.ptr 32 0 0 1),(10,.ptr 960 0 0 1)],[(960,⟨162,9,[cP qx qy true]⟩),(32,⟨23,32,[cb z32]⟩)],5000⟩ (k:=7) ?h3 ?hq
    case h3 =>
     intro G hG
     have hW:∀ (fr:Fr) (hp:Hp),(fv 4 fr=.ptr 32 0 0 1∧fv 10 fr=.ptr 960 0 0 1∧lk 960 hp=some ⟨162,9,[cP qx qy true]⟩∧lk 32 hp=some ⟨23,32,[cb z32]⟩)→G fr hp:=by
      rintro fr hp ⟨q0,q1,q2,q3⟩;exact hG _ _ Rz
     simp [go_sem,htl,a8 htl,pl,pt,ql,qt,pd,pl0,hz,A6]
     repeat' first | exact hW _ _ ⟨rfl,rfl,rfl,rfl⟩ | (refine hW _ _ ?_;simp [fv,lk];done) | refine a9 (N8 1) ae ?_ | refine a9 ah9 ab ?_ | refine a9 f4 (agN _ _ _ _ _ _ _ _) ?_ | apply And.intro | simp [go_sem,htl,a8 htl,pl,pt,ql,qt,pd,pl0,hz,A6]
    case hq =>
     simp [go_sem,qb,qg,ql,zd,zt,d0,d7];exact P1 rfl
open Go.Am Go.Sha
def M7 (inner:List Nat) (ps:List (List Nat)) (x:List Nat):AV:=.agg (s5 inner (.d (J1 ps)) (.d (nb x)))
theorem E4 (inner:List Nat) (ps:List (List Nat)) (x:List Nat):∀ v,v ∈ [M7 inner ps x]→v.deep:=by
 intro v hv;simp at hv;subst hv;simp [AV.deep,s5,M7];intro c hc;rcases hc with hc | rfl | rfl
 ·exact r6 _ _ hc
 ·trivial
 ·trivial
theorem aii (k:List Nat) (o:Bool) (e:Int):(AV.tup [.agg (cb k),.d (.bool o),.d (.int .i64 e)]).flat:=by
 intro c hc;simp at hc;rcases hc with rfl | rfl | rfl
 ·refine .inr ⟨_,rfl,fun x hx=>?_⟩;rw [cb,List.mem_map] at hx;obtain ⟨y,_,rfl⟩:=hx
  trivial
 ·exact .inl trivial
 ·exact .inl trivial
theorem Ye {l:List Nat} (h:l.length=32) (r:List AV):List.take 32 (cb l ++ r)=cb l:=by
 rw [List.take_append_of_le_length (by rw [d0,h];exact av _),d6 h]
theorem TL {inner:List Nat} (hi:inner.length=32) (a b:AV):List.take 34 (cb inner ++ [a,b])=cb inner ++ [a,b]:=aq (by simp [d0,hi])
theorem aaQ (ps:List (List Nat)):∀ h:List Nat,h.length=32→(M5 ps h).length=32:=by
 induction ps with
 | nil=>exact fun h hh=>hh
 | cons p r ih=>exact fun h hh=>ih _ (M6 h p)
def UM (inner:List Nat) (ps:List (List Nat)) (x k:List Nat) (o:Bool) (e:Int):Prop :=
 (¬ (ps.length≤8∧x.length≤1000)∧e=1∧k=z32∧o=false) ∨ ((ps.length≤8∧x.length≤1000)∧aaP (J2 inner) (J2 (G9 I8 (inner ++ M5 ps (E9 x)))) k o e)
theorem acf (inner:List Nat) (ps:List (List Nat)) (x:List Nat) (hi:inner.length=32) (hib:bytes inner) (hp32:∀ p,p ∈ ps→p.length=32) (hps:ps.length≤1000) (hx:x.length≤100000):∃ (k:List Nat) (o:Bool) (e:Int),k.length=32∧bytes k∧E1 e∧m6 Tryz.prog 54 [M7 inner ps x] (fun r=>r=.tup [.agg (cb k),.d (.bool o),.d (.int .i64 e)])∧(e=0→ps.length≤8∧x.length≤1000)∧UM inner ps x k o e:=by
 have hR:=aaQ ps (E9 x) (RU x);have f1:=aoR inner ps x hi hp32 hps hx;unfold UM;generalize M5 ps (E9 x)=R at *;obtain ⟨k,o,e,hk,hkb,he,hT,f2⟩:=apw inner R hi hib aa;have zb:bytes z32:=fun x hx=>by simp [z32] at hx;omega
 have zd:List.drop 32 (cb z32)=[]:=K5 rfl;have zt:List.take 32 (cb z32)=cb z32:=d6 rfl;by_cases h1:8<ps.length
 ·refine ⟨z32,false,1,rfl,zb,.inr rfl,?_,fun h=>aa,.inl ⟨aa,rfl,rfl,rfl⟩⟩;refine t6 Tryz.func54 Tryz.ntmps54 (rs:=[.cell 2 23,.tmp 3,.tmp 4]) (E4 _ _ _) ?_;have i1:(8:Int)<(ps.length:Int):=aa;simp [go_sem,M7,s5,P9 hi,K0 hi,J1,nb,i1,zd,zt,d0,d7];exact P1 rfl
 by_cases h2:1000<x.length
 ·refine ⟨z32,false,1,rfl,zb,.inr rfl,?_,fun h=>aa,.inl ⟨aa,rfl,rfl,rfl⟩⟩;refine t6 Tryz.func54 Tryz.ntmps54 (rs:=[.cell 2 23,.tmp 3,.tmp 4]) (E4 _ _ _) ?_;have i1:¬ (8:Int)<(ps.length:Int):=aa;have i2:(1000:Int)<(x.length:Int):=aa;simp [go_sem,M7,s5,P9 hi,K0 hi,J1,nb,i1,i2,zd,zt,d0,d7];exact P1 rfl
 refine ⟨k,o,e,hk,hkb,he,?_,fun _=>aa,.inr ⟨aa,hT⟩⟩;refine t6 Tryz.func54 Tryz.ntmps54 (rs:=[.cell 2 23,.tmp 3,.tmp 4]) (E4 _ _ _) ?_;have i1:¬ (8:Int)<(ps.length:Int):=aa;have i2:¬ (1000:Int)<(x.length:Int):=aa;simp [go_sem,M7,s5,P9 hi,K0 hi,J1,nb,i1,i2,hi,TL hi];refine a9 (by simpa only [s5,J1,nb] using f1) (by simpa only [M7,s5,J1,nb] using E4 inner ps x) ?_;simp [go_sem,d0,hR,d6 hR,zd];refine C4 [0,1,2] [3,7,8,9] [0,1,2,4,5,6] (.step 3 [4,5,6] true (ag [7,8,9])) ⟨[(2,.ptr 32 0 0 1),(3,.d (.bool o)),(4,.d (.int .i64 e))],[(32,⟨23,32,[cb k]⟩)],9000⟩ (k:=10) ?h3 ?hq
 case h3 =>
  intro G hG
  have hW:∀ (fr:Fr) (hp:Hp),(fv 2 fr=.ptr 32 0 0 1∧fv 3 fr=.d (.bool o)∧fv 4 fr=.d (.int .i64 e)∧lk 32 hp=some ⟨23,32,[cb k]⟩)→G fr hp:=by
   rintro fr hp ⟨q0,q1,q2,q3⟩;exact hG _ _ Rz
  simp [go_sem,s5,P9 hi,K0 hi,d0,hi,hR,hk,d6 hi,d6 hR,d6 hk,zd,Ye hi,A6]
  repeat' first | exact hW _ _ ⟨rfl,rfl,rfl,rfl⟩ | (refine hW _ _ ?_;simp [fv,lk];done) | refine U8 f2 rfl (c7 (.deep (Sk _)) (c7 (.one (d9 (Si rfl trivial hR))) n7)) (aii _ _ _) ?_ | apply And.intro | simp [go_sem,s5,P9 hi,K0 hi,d0,hi,hR,hk,d6 hi,d6 hR,d6 hk,zd,Ye hi,A6]
 case hq =>
  simp [go_sem,d0,hk,d6 hk,d7];exact P1 rfl
theorem adz {b:List Nat} (hb:b.length=32):(List.range 32).map (fun k=>((cb b).drop k).take 1)=rb b:=by
 rw [K4 hb,E6]
theorem acg {Q:AV→Prop} {st:St} {id n:Nat} {e:Int} {L:List Nat} (hl:L.length=n) (hb:lk id st.hp=some ⟨5,1,rb L⟩) (hq:Q (.tup [.d (nb L),.d (.int .i64 e)])):N6 Q (.tup [.own id 0 n n,.d (.int .i64 e)]) st :=
 UD (s6 (d9 (n9 hl hb trivial)) (s6 (F6 trivial) H7)) rfl ae hq
theorem ach {Q:AV→Prop} {st:St} {e:Int} (hq:Q (.tup [.d (nb []),.d (.int .i64 e)])):N6 Q (.tup [.nil,.d (.int .i64 e)]) st :=
 UD (s6 (d9 (.nil 1)) (s6 (F6 trivial) H7)) rfl ae hq
theorem ajA {inner x k:List Nat} {ps:List (List Nat)} {o:Bool} (hi:inner.length=32) (hk:k.length=32) (f:m6 Tryz.prog 54 [M7 inner ps x] (fun r=>r=.tup [.agg (cb k),.d (.bool o),.d (.int .i64 1)])) :
  m6 Tryz.prog 18 [M7 inner ps x] (fun r=>r=.tup [.d (nb []),.d (.int .i64 1)]):=by
 refine t6 Tryz.func18 Tryz.ntmps18 (rs:=[.tmp 2,.tmp 3]) (E4 _ _ _) ?_;have zd:List.drop 32 (cb z32)=[]:=K5 rfl;simp [go_sem,M7,s5,P9 hi,K0 hi,J1,nb,hi,TL hi];refine a9 f (E4 _ _ _) ?_;simp [go_sem,d0,hk,d6 hk,zd,d7];exact ach rfl
theorem aci {inner x k:List Nat} {ps:List (List Nat)} {o:Bool} (hi:inner.length=32) (hk:k.length=32) (f:m6 Tryz.prog 54 [M7 inner ps x] (fun r=>r=.tup [.agg (cb k),.d (.bool o),.d (.int .i64 0)])) :
  m6 Tryz.prog 18 [M7 inner ps x] (fun r=>r=.tup [.d (nb (81 :: 32 :: k)),.d (.int .i64 0)]):=by
 refine t6 Tryz.func18 Tryz.ntmps18 (rs:=[.tmp 2,.tmp 3]) (E4 _ _ _) ?_;have zd:List.drop 32 (cb z32)=[]:=K5 rfl;simp [go_sem,M7,s5,P9 hi,K0 hi,J1,nb,hi,TL hi];refine a9 f (E4 _ _ _) ?_;have hx1:=adz hk;simp [go_sem] at hx1;simp [go_sem,d0,hk,d6 hk,zd,hx1,o6,d7];have e:rb (81 :: 32 :: k)=[AV.d (.int .u8 81)] :: [AV.d (.int .u8 32)] :: rb k:=by simp [rb]
 have h34:(81 :: 32 :: k).length=34:=by simp [hk]
 exact acg (L:=81 :: 32 :: k) h34 (by rw [e];rfl) (by simp [nb])
theorem apx {P:Program} {K:AV→Hp→Prop} {hp:Hp} (t:TypeId) (a b:Bool):G8 P .eql t (.d (.bool a)) (.d (.bool b)) K hp=(P.underlying t=some .bool∧K (.d (.bool (a == b))) hp):=rfl
theorem apy {P:Program} {K:AV→Hp→Prop} {hp:Hp} (t:TypeId) (a b:Bool):G8 P .neq t (.d (.bool a)) (.d (.bool b)) K hp=(P.underlying t=some .bool∧K (.d (.bool (a != b))) hp):=rfl
theorem amF:Tryz.prog.underlying 4=some .bool:=by kernel_rfl
attribute [go_sem] apx apy amF
theorem as0 {P:Program} {s t:TypeId} {Kk:AV→Hp→Prop} {hp:Hp} (l:List Nat) (el:TypeId) (hb:bytes l) (h1:C3 P s=.slice el) (h2:C3 P t=.str) (h3:P.underlying el=some (.int .u8)) (hK:Kk (.d (.str (sb l))) hp):cvS P s t (l.map fun (x:Nat)=>[DV.int .u8 (x:Int)]) Kk hp:=by
 refine ⟨sb l,by simp [sb],fun b h=>?_,?_⟩
 ·simp only [sb,List.mem_map] at h;obtain ⟨x,hx,rfl⟩:=h;have:=hb x hx;omega
 ·rw [h1,h2];exact ⟨h3,hK⟩
end Go.Proofs.YtldccnbokbieiaaGreat
