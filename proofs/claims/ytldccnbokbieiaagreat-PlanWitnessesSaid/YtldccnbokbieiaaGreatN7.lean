/-
 Part 8 of what the claim rests on.
-/
import Derived.Test.YtldccnbokbieiaaGreatN6
set_option linter.unusedVariables false
set_option linter.unusedSimpArgs false
set_option maxRecDepth 100000
set_option maxHeartbeats 16000000
namespace Go.Proofs.YtldccnbokbieiaaGreat
open Go.Am Go.Sha Go.Ec
theorem auf (x y:List Int):JV x y zI=none:=by
 show Xy fd _ _ (FV zI)=none;rw [WO];exact ael fd _ _
theorem WP (x y z x' y' z':List Int):∀ v,v ∈ [AV.agg (cV x y z),AV.agg (cV x' y' z')]→v.deep:=by
 intro v hv;simp at hv;rcases hv with rfl | rfl
 ·exact V9 _ _ _
 ·exact V9 _ _ _
theorem ahv (x y z x' y' z':List Int) (hx:Wn 4 x) (hy:Wn 4 y) (hz:Wn 4 z) (hx':Wn 4 x') (hy':Wn 4 y') (hz':Wn 4 z'):∃ (u v w:List Int),Wn 4 u∧Wn 4 v∧Wn 4 w∧(Ym x y z→Ym x' y' z'→Ym u v w∧JV u v w=sum fd (JV x y z) (JV x' y' z'))∧d9 Tryz.prog 169 [.agg (cV x y z),.agg (cV x' y' z')] (fun r=>r=.agg (cV u v w)):=by
 obtain ⟨pz2,h1,g1,f1⟩:=Vy z hz;obtain ⟨qz2,h2,g2,f2⟩:=Vy z' hz';obtain ⟨u1,h4,g4,f4⟩:=Q4 x qz2 hx h2;obtain ⟨u2,h5,g5,f5⟩:=Q4 x' pz2 hx' h1;obtain ⟨qz3,h6,g6,f6⟩:=Q4 qz2 z' h2 hz';obtain ⟨s1,h7,g7,f7⟩:=Q4 y qz3 hy h6;obtain ⟨pz3,h8,g8,f8⟩:=Q4 pz2 z h1 hz;obtain ⟨s2,h9,g9,f9⟩:=Q4 y' pz3 hy' h8;obtain ⟨h,h11,g11,f11⟩:=XA u2 u1 h5 h4;obtain ⟨r,h12,g12,f12⟩:=XA s2 s1 h9 h7;obtain ⟨hh,h13,g13,f13⟩:=Vy h h11;obtain ⟨h3,h14,g14,f14⟩:=Q4 hh h h13 h11;obtain ⟨v,h15,g15,f15⟩:=Q4 u1 hh h4 h13;obtain ⟨rr,h16,g16,f16⟩:=Vy r h12;obtain ⟨d1,h17,g17,f17⟩:=XA rr h3 h16 h14;obtain ⟨w2,h20,g20,f20⟩:=Uj 2 v ⟨aa,aa⟩ h15;obtain ⟨X,h18,g18,f18⟩:=XA d1 w2 h17 h20;obtain ⟨e1,h21,g21,f21⟩:=XA v X h15 h18;obtain ⟨e2,h22,g22,f22⟩:=Q4 r e1 h12 h21;obtain ⟨e3,h24,g24,f24⟩:=Q4 s1 h3 h7 h14;obtain ⟨Y,h19,g19,f19⟩:=XA e2 e3 h22 h24;obtain ⟨zz,h25,g25,f25⟩:=Q4 z z' hz hz';obtain ⟨Z,h23,g23,f23⟩:=Q4 h zz h11 h25;obtain ⟨wu,wv,ww,h26,h27,h28,g26,f26⟩:=VA zI zI true F9 F9;obtain ⟨du,dv,dw,h29,h30,h31,g29,f29⟩:=aae x y z hx hy hz;unfold W1 at f1 f2 f13 f16;unfold W2 at f4 f5 f6 f7 f8 f9 f11 f12 f14 f15 f17 f18 f19 f21 f22 f23 f24 f25;have l1:=h1.1;have l2:=h2.1;have l4:=h4.1;have l5:=h5.1;have l6:=h6.1;have l7:=h7.1;have l8:=h8.1;have l9:=h9.1;have l11:=h11.1;have l12:=h12.1;have l13:=h13.1;have l14:=h14.1;have l15:=h15.1;have l16:=h16.1;have l17:=h17.1;have l18:=h18.1;have l19:=h19.1;have l20:=h20.1;have l21:=h21.1;have l22:=h22.1;have l23:=h23.1;have l24:=h24.1;have l25:=h25.1;have l26:=h26.1;have l27:=h27.1;have l28:=h28.1;have l29:=h29.1;have l30:=h30.1;have l31:=h31.1;have hxl:=hx.1;have hyl:=hy.1;have hzl:=hz.1;have hxlb:=hx'.1;have hylb:=hy'.1;have hzlb:=hz'.1;have z4:List.drop 4 (cI zI)=[]:=d7 rfl;have vl:=A5 hxl hyl hzl;have vt:=x8 hxl hyl hzl;have v1:(cV x y z).take 4=cI x:=acP hxl;have v2:=acQ (z:=z) hxl hyl;have v3:=Y5 hxl hyl hzl;have vlb:=A5 hxlb hylb hzlb;have vtb:=x8 hxlb hylb hzlb;have v1b:(cV x' y' z').take 4=cI x':=acP hxlb;have v2b:=acQ (z:=z') hxlb hylb;have v3b:=Y5 hxlb hylb hzlb;have iz:B8 .u64 [AV.d (.int .u64 0),AV.d (.int .u64 0),AV.d (.int .u64 0),AV.d (.int .u64 0)]=some zI:=x7 zI;have f0:=Wb x y z hx hy hz;have f0b:=Wb x' y' z' hx' hy' hz';have wd:(cV zI zI zI).drop 12=[]:=M9 rfl rfl rfl;have wl:(cV zI zI zI).length=12:=rfl;have ul:=A5 l26 l27 l28;have ut:=x8 l26 l27 l28;have ul2:=A5 l29 l30 l31;have ut2:=x8 l29 l30 l31;by_cases q1:z=zI
 ·have vv:Ym x y z→Ym x' y' z'→Ym x' y' z'∧JV x' y' z'=sum fd (JV x y z) (JV x' y' z'):=by
   intro _ hj';refine ⟨hj',?_⟩;rw [q1,auf,J3 fd hj'.2]
  refine ⟨x',y',z',hx',hy',hz',vv,?_⟩;refine s8 Tryz.func169 Tryz.ntmps169 (rs:=[.cell 4 199]) (WP _ _ _ _ _ _) ?_;simp [go_sem,vl,vt,vlb,vtb];refine a9 f0 (J8 _ _ _) ?_;simp [go_sem,q1,vlb,vtb,wd,wl,d6];exact P7 rfl
 by_cases q2:z'=zI
 ·have vv:Ym x y z→Ym x' y' z'→Ym x y z∧JV x y z=sum fd (JV x y z) (JV x' y' z'):=by
   intro hj _;refine ⟨hj,?_⟩;rw [q2,auf,R0 fd hj.2]
  refine ⟨x,y,z,hx,hy,hz,vv,?_⟩;refine s8 Tryz.func169 Tryz.ntmps169 (rs:=[.cell 4 199]) (WP _ _ _ _ _ _) ?_;simp [go_sem,vl,vt,vlb,vtb];refine a9 f0 (J8 _ _ _) ?_;simp [go_sem,q1,vl,vt,vlb,vtb];refine a9 f0b (J8 _ _ _) ?_;simp [go_sem,q2,vl,vt,wd,wl,d6];exact P7 rfl
 have key:Ym x y z→Ym x' y' z'→(FV h ≠ 0→JV X Y Z=sum fd (JV x y z) (JV x' y' z'))∧(FV h=0→FV r=0→JV x y z=JV x' y' z')∧(FV h=0→FV r ≠ 0→sum fd (JV x y z) (JV x' y' z')=none):=by
  intro hj hj';have hz0:FV z ≠ 0:=fun h=>q1 ((Q9 hz hj.1.2.2).1 h);have hz0':FV z' ≠ 0:=fun h=>q2 ((Q9 hz' hj'.1.2.2).1 h);have k1:FV u1=FV x*(FV z'*FV z'):=by rw [g4.2,g2.2]
  have k2:FV u2=FV x'*(FV z*FV z):=by rw [g5.2,g1.2]
  have k3:FV s1=FV y*(FV z'*FV z'*FV z'):=by rw [g7.2,g6.2,g2.2]
  have k4:FV s2=FV y'*(FV z*FV z*FV z):=by rw [g9.2,g8.2,g1.2]
  obtain ⟨j1,j2,j3⟩:=ak7 fd hz0 hz0' hj.2 hj'.2 k1 k2 k3 k4 g11.2 g12.2;refine ⟨fun hh0=>?_,j2,j3⟩;have n2:FV [2,0,0,0]=2:=Yl 2 aa
  have eX:FV X=FV r*FV r - FV h*FV h*FV h - 2*(FV u1*(FV h*FV h)):=by
   rw [g18.2,g17.2,g16.2,g14.2,g13.2,g20.2,g15.2,g13.2,n2]
  have eY:FV Y=FV r*(FV u1*(FV h*FV h) - (FV r*FV r - FV h*FV h*FV h - 2*(FV u1*(FV h*FV h)))) - FV s1*(FV h*FV h*FV h):=by
   rw [g19.2,g22.2,g21.2,eX,g24.2,g15.2,g14.2,g13.2]
  have eZ:FV Z=FV h*(FV z*FV z'):=by rw [g23.2,g25.2]
  show Xy fd (FV X) (FV Y) (FV Z)=_;rw [eX,eY,eZ];exact j1 hh0
 obtain ⟨Ua,Va,Wa,hU,hV,hW,vv,e1,e2,e3⟩:∃ (Ua Va Wa:List Int),Wn 4 Ua∧Wn 4 Va∧Wn 4 Wa∧(Ym x y z→Ym x' y' z'→Ym Ua Va Wa∧JV Ua Va Wa=sum fd (JV x y z) (JV x' y' z'))∧(h=zI→r=zI→(du=Ua∧dv=Va∧dw=Wa))∧(h=zI→r ≠ zI→(wu=Ua∧wv=Va∧ww=Wa))∧(h ≠ zI→(X=Ua∧Y=Va∧Z=Wa)):=by
  have fz:∀ {l:List Int},l=zI→FV l=0:=fun h=>by rw [h,WO]
  by_cases q3:h=zI
  ·by_cases q4:r=zI
   ·refine ⟨du,dv,dw,h29,h30,h31,fun hj hj'=>?_,fun _ _=>⟨rfl,rfl,rfl⟩,fun _ h=>absurd q4 h,fun h=>absurd q3 h⟩;obtain ⟨m1,m2⟩:=g29 hj;refine ⟨m1,?_⟩;rw [m2,← (key hj hj').2.1 (fz q3) (fz q4)]
   ·refine ⟨wu,wv,ww,h26,h27,h28,fun hj hj'=>?_,fun _ h=>absurd h q4,fun _ _=>⟨rfl,rfl,rfl⟩,fun h=>absurd q3 h⟩;obtain ⟨m1,m2⟩:=g26 Vx;refine ⟨m1,?_⟩;rw [m2,alo,(key hj hj').2.2 (fz q3) (fun h=>q4 ((Q9 h12 g12.1).1 h))]
  ·refine ⟨X,Y,Z,h18,h19,h23,fun hj hj'=>?_,fun h=>absurd h q3,fun h=>absurd h q3,fun _=>⟨rfl,rfl,rfl⟩⟩;have e:=(key hj hj').1 (fun h=>q3 ((Q9 h11 g11.1).1 h));exact ⟨⟨⟨g18.1,g19.1,g23.1⟩,by rw [e];exact Tt fd hj.2 hj'.2⟩,e⟩
 refine ⟨Ua,Va,Wa,hU,hV,hW,vv,?_⟩;refine s8 Tryz.func169 Tryz.ntmps169 (rs:=[.cell 4 199]) (WP _ _ _ _ _ _) ?_;simp [go_sem,vl,vt,vlb,vtb];refine a9 f0 (J8 _ _ _) ?_;simp [go_sem,q1,vl,vt,vlb,vtb];refine a9 f0b (J8 _ _ _) ?_;simp [go_sem,q2,vl,vt,vlb,vtb,v1,v2,v3,v1b,v2b,v3b];refine B3 [0,1,3,4] [2,5,6,7,8,9] [0,1,3,4] (.alt (ah 2 (.alt (ai 5 (.alt (ag [6,7,8,9]) (ag [7,6,8,9]))) (.alt (ah 6 (.alt (ag [5,7,8,9]) (ah 7 (ag [5,8,9])))) (ah 7 (.alt (ag [5,6,8,9]) (ah 6 (ag [5,8,9]))))))) (.alt (ah 6 (.alt (ah 2 (.alt (ag [5,7,8,9]) (ah 7 (ag [5,8,9])))) (ah 7 (ah 2 (ag [5,8,9]))))) (ah 7 (.alt (ah 2 (.alt (ag [5,6,8,9]) (ah 6 (ag [5,8,9])))) (ah 6 (ah 2 (ag [5,8,9]))))))) ⟨[(2,.ptr 0 0 0 1),(3,.ptr 32 0 0 1),(4,.ptr 64 0 0 1),(5,.ptr 480 0 0 1),(6,.ptr 512 0 0 1)],[(512,⟨160,4,[cI qz2]⟩),(480,⟨160,4,[cI pz2]⟩),(64,⟨199,12,[cV zI zI zI]⟩),(32,⟨199,12,[cV x' y' z']⟩),(0,⟨199,12,[cV x y z]⟩)],9000⟩ (k:=10) ?h3 ?hq
 case h3 =>
  intro G hG
  have hW:∀ (fr:Fr) (hp:Hp),(fv 2 fr=.ptr 0 0 0 1∧fv 3 fr=.ptr 32 0 0 1∧fv 4 fr=.ptr 64 0 0 1∧fv 5 fr=.ptr 480 0 0 1∧fv 6 fr=.ptr 512 0 0 1∧lk 512 hp=some ⟨160,4,[cI qz2]⟩∧lk 480 hp=some ⟨160,4,[cI pz2]⟩∧lk 64 hp=some ⟨199,12,[cV zI zI zI]⟩∧lk 32 hp=some ⟨199,12,[cV x' y' z']⟩∧lk 0 hp=some ⟨199,12,[cV x y z]⟩)→G fr hp:=by
   rintro fr hp ⟨q0,q1,q2,q3,q4,q5,q6,q7,q8,q9⟩;exact hG _ _ Q6
  simp [go_sem,l1,l2,a8 l1,a8 l2,z4,v3,v3b,vl,vlb,y9]
  repeat' first | exact hW _ _ ⟨rfl,rfl,rfl,rfl,rfl,rfl,rfl,rfl,rfl,rfl⟩ | (refine hW _ _ ?_;simp [fv,lk];done) | refine a9 f1 (j9 _) ?_ | refine a9 f2 (j9 _) ?_ | apply And.intro | simp [go_sem,l1,l2,a8 l1,a8 l2,z4,v3,v3b,vl,vlb,y9]
 case hq =>
  simp [go_sem];refine B3 [0,1,2,4,5,6] [3,7,8,9,10,11] [0,1,2,4,5,6] (.alt (ah 3 (.alt (ai 7 (.alt (ag [8,9,10,11]) (ag [9,8,10,11]))) (.alt (ah 8 (.alt (ag [7,9,10,11]) (ah 9 (ag [7,10,11])))) (ah 9 (.alt (ag [7,8,10,11]) (ah 8 (ag [7,10,11]))))))) (.alt (ah 8 (.alt (ah 3 (.alt (ag [7,9,10,11]) (ah 9 (ag [7,10,11])))) (ah 9 (ah 3 (ag [7,10,11]))))) (ah 9 (.alt (ah 3 (.alt (ag [7,8,10,11]) (ah 8 (ag [7,10,11])))) (ah 8 (ah 3 (ag [7,10,11]))))))) ⟨[(2,.ptr 0 0 0 1),(3,.ptr 32 0 0 1),(4,.ptr 64 0 0 1),(5,.ptr 480 0 0 1),(6,.ptr 512 0 0 1),(7,.ptr 9256 0 0 1),(8,.ptr 9288 0 0 1)],[(9288,⟨160,4,[cI u2]⟩),(9256,⟨160,4,[cI u1]⟩),(512,⟨160,4,[cI qz2]⟩),(480,⟨160,4,[cI pz2]⟩),(64,⟨199,12,[cV zI zI zI]⟩),(32,⟨199,12,[cV x' y' z']⟩),(0,⟨199,12,[cV x y z]⟩)],20000⟩ (k:=12) ?h3 ?hq
  case h3 =>
   intro G hG
   have hW:∀ (fr:Fr) (hp:Hp),(fv 2 fr=.ptr 0 0 0 1∧fv 3 fr=.ptr 32 0 0 1∧fv 4 fr=.ptr 64 0 0 1∧fv 5 fr=.ptr 480 0 0 1∧fv 6 fr=.ptr 512 0 0 1∧fv 7 fr=.ptr 9256 0 0 1∧fv 8 fr=.ptr 9288 0 0 1∧lk 9288 hp=some ⟨160,4,[cI u2]⟩∧lk 9256 hp=some ⟨160,4,[cI u1]⟩∧lk 512 hp=some ⟨160,4,[cI qz2]⟩∧lk 480 hp=some ⟨160,4,[cI pz2]⟩∧lk 64 hp=some ⟨199,12,[cV zI zI zI]⟩∧lk 32 hp=some ⟨199,12,[cV x' y' z']⟩∧lk 0 hp=some ⟨199,12,[cV x y z]⟩)→G fr hp:=by
    rintro fr hp ⟨q0,q1,q2,q3,q4,q5,q6,q7,q8,q9,q10,q11,q12,q13⟩;exact hG _ _ Q6
   simp [go_sem,l1,l2,l4,l5,a8 l1,a8 l2,a8 l4,a8 l5,z4,v1,v1b,vl,vlb,y9]
   repeat' first | exact hW _ _ ⟨rfl,rfl,rfl,rfl,rfl,rfl,rfl,rfl,rfl,rfl,rfl,rfl,rfl,rfl⟩ | (refine hW _ _ ?_;simp [fv,lk];done) | refine a9 f4 (c7 _ _) ?_ | refine a9 f5 (c7 _ _) ?_ | apply And.intro | simp [go_sem,l1,l2,l4,l5,a8 l1,a8 l2,a8 l4,a8 l5,z4,v1,v1b,vl,vlb,y9]
  case hq =>
   simp [go_sem];refine B3 [0,1,2,3,4,7,8,9,10,11] [5,6,12,13,14,15,16,17] [0,1,2,3,4,7,8,9,10,11] (.alt (ah 5 (.alt (ah 6 (.alt (ah 12 (.alt (ai 13 (.alt (ag [14,15,16,17]) (ag [15,14,16,17]))) (.alt (ah 14 (.alt (ag [13,15,16,17]) (ah 15 (ag [13,16,17])))) (ah 15 (.alt (ag [13,14,16,17]) (ah 14 (ag [13,16,17]))))))) (.alt (ah 14 (.alt (ah 12 (.alt (ag [13,15,16,17]) (ah 15 (ag [13,16,17])))) (ah 15 (ah 12 (ag [13,16,17]))))) (ah 15 (.alt (ah 12 (.alt (ag [13,14,16,17]) (ah 14 (ag [13,16,17])))) (ah 14 (ah 12 (ag [13,16,17])))))))) (.alt (ah 14 (.alt (ah 6 (.alt (ah 12 (.alt (ag [13,15,16,17]) (ah 15 (ag [13,16,17])))) (ah 15 (ah 12 (ag [13,16,17]))))) (ah 15 (ah 6 (ah 12 (ag [13,16,17])))))) (ah 15 (.alt (ah 6 (.alt (ah 12 (.alt (ag [13,14,16,17]) (ah 14 (ag [13,16,17])))) (ah 14 (ah 12 (ag [13,16,17]))))) (ah 14 (ah 6 (ah 12 (ag [13,16,17]))))))))) (.alt (ah 14 (.alt (ah 5 (.alt (ah 6 (.alt (ah 12 (.alt (ag [13,15,16,17]) (ah 15 (ag [13,16,17])))) (ah 15 (ah 12 (ag [13,16,17]))))) (ah 15 (ah 6 (ah 12 (ag [13,16,17])))))) (ah 15 (ah 5 (ah 6 (ah 12 (ag [13,16,17]))))))) (ah 15 (.alt (ah 5 (.alt (ah 6 (.alt (ah 12 (.alt (ag [13,14,16,17]) (ah 14 (ag [13,16,17])))) (ah 14 (ah 12 (ag [13,16,17]))))) (ah 14 (ah 6 (ah 12 (ag [13,16,17])))))) (ah 14 (ah 5 (ah 6 (ah 12 (ag [13,16,17]))))))))) ⟨[(2,.ptr 0 0 0 1),(3,.ptr 32 0 0 1),(4,.ptr 64 0 0 1),(7,.ptr 9256 0 0 1),(8,.ptr 9288 0 0 1),(9,.ptr 20448 0 0 1),(10,.ptr 20480 0 0 1)],[(20480,⟨160,4,[cI s2]⟩),(20448,⟨160,4,[cI s1]⟩),(9288,⟨160,4,[cI u2]⟩),(9256,⟨160,4,[cI u1]⟩),(64,⟨199,12,[cV zI zI zI]⟩),(32,⟨199,12,[cV x' y' z']⟩),(0,⟨199,12,[cV x y z]⟩)],30000⟩ (k:=18) ?h3 ?hq
   case h3 =>
    intro G hG
    have hW:∀ (fr:Fr) (hp:Hp),(fv 2 fr=.ptr 0 0 0 1∧fv 3 fr=.ptr 32 0 0 1∧fv 4 fr=.ptr 64 0 0 1∧fv 7 fr=.ptr 9256 0 0 1∧fv 8 fr=.ptr 9288 0 0 1∧fv 9 fr=.ptr 20448 0 0 1∧fv 10 fr=.ptr 20480 0 0 1∧lk 20480 hp=some ⟨160,4,[cI s2]⟩∧lk 20448 hp=some ⟨160,4,[cI s1]⟩∧lk 9288 hp=some ⟨160,4,[cI u2]⟩∧lk 9256 hp=some ⟨160,4,[cI u1]⟩∧lk 64 hp=some ⟨199,12,[cV zI zI zI]⟩∧lk 32 hp=some ⟨199,12,[cV x' y' z']⟩∧lk 0 hp=some ⟨199,12,[cV x y z]⟩)→G fr hp:=by
     rintro fr hp ⟨q0,q1,q2,q3,q4,q5,q6,q7,q8,q9,q10,q11,q12,q13⟩;exact hG _ _ Q6
    simp [go_sem,l1,l2,l7,l9,a8 l1,a8 l2,a8 l7,a8 l9,z4,v2,v2b,v3,v3b,vl,vlb,y9]
    repeat' first | exact hW _ _ ⟨rfl,rfl,rfl,rfl,rfl,rfl,rfl,rfl,rfl,rfl,rfl,rfl,rfl,rfl⟩ | (refine hW _ _ ?_;simp [fv,lk];done) | refine a9 f6 (c7 _ _) ?_ | refine a9 f7 (c7 _ _) ?_ | refine a9 f8 (c7 _ _) ?_ | refine a9 f9 (c7 _ _) ?_ | apply And.intro | simp [go_sem,l1,l2,l7,l9,a8 l1,a8 l2,a8 l7,a8 l9,z4,v2,v2b,v3,v3b,vl,vlb,y9]
   case hq =>
    simp [go_sem];refine B3 [0,1,3,4] [2,5,6,7,8,9] [0,1,3,4] (.alt (ah 2 (.alt (ai 5 (.alt (ag [6,7,8,9]) (ag [7,6,8,9]))) (.alt (ah 6 (.alt (ag [5,7,8,9]) (ah 7 (ag [5,8,9])))) (ah 7 (.alt (ag [5,6,8,9]) (ah 6 (ag [5,8,9]))))))) (.alt (ah 6 (.alt (ah 2 (.alt (ag [5,7,8,9]) (ah 7 (ag [5,8,9])))) (ah 7 (ah 2 (ag [5,8,9]))))) (ah 7 (.alt (ah 2 (.alt (ag [5,6,8,9]) (ah 6 (ag [5,8,9])))) (ah 6 (ah 2 (ag [5,8,9]))))))) ⟨[(2,.ptr 0 0 0 1),(3,.ptr 32 0 0 1),(4,.ptr 64 0 0 1),(7,.ptr 9256 0 0 1),(9,.ptr 20448 0 0 1),(11,.ptr 30192 0 0 1),(12,.ptr 30224 0 0 1)],[(30224,⟨160,4,[cI r]⟩),(30192,⟨160,4,[cI h]⟩),(20448,⟨160,4,[cI s1]⟩),(9256,⟨160,4,[cI u1]⟩),(64,⟨199,12,[cV zI zI zI]⟩),(32,⟨199,12,[cV x' y' z']⟩),(0,⟨199,12,[cV x y z]⟩)],40000⟩ (k:=10) ?h3 ?hq
    case h3 =>
     intro G hG
     have hW:∀ (fr:Fr) (hp:Hp),(fv 2 fr=.ptr 0 0 0 1∧fv 3 fr=.ptr 32 0 0 1∧fv 4 fr=.ptr 64 0 0 1∧fv 7 fr=.ptr 9256 0 0 1∧fv 9 fr=.ptr 20448 0 0 1∧fv 11 fr=.ptr 30192 0 0 1∧fv 12 fr=.ptr 30224 0 0 1∧lk 30224 hp=some ⟨160,4,[cI r]⟩∧lk 30192 hp=some ⟨160,4,[cI h]⟩∧lk 20448 hp=some ⟨160,4,[cI s1]⟩∧lk 9256 hp=some ⟨160,4,[cI u1]⟩∧lk 64 hp=some ⟨199,12,[cV zI zI zI]⟩∧lk 32 hp=some ⟨199,12,[cV x' y' z']⟩∧lk 0 hp=some ⟨199,12,[cV x y z]⟩)→G fr hp:=by
      rintro fr hp ⟨q0,q1,q2,q3,q4,q5,q6,q7,q8,q9,q10,q11,q12,q13⟩;exact hG _ _ Q6
     simp [go_sem,l4,l5,l7,l9,l11,l12,a8 l4,a8 l5,a8 l7,a8 l9,a8 l11,a8 l12,z4,y9]
     repeat' first | exact hW _ _ ⟨rfl,rfl,rfl,rfl,rfl,rfl,rfl,rfl,rfl,rfl,rfl,rfl,rfl,rfl⟩ | (refine hW _ _ ?_;simp [fv,lk];done) | refine a9 f11 (c7 _ _) ?_ | refine a9 f12 (c7 _ _) ?_ | apply And.intro | simp [go_sem,l4,l5,l7,l9,l11,l12,a8 l4,a8 l5,a8 l7,a8 l9,a8 l11,a8 l12,z4,y9]
    case hq =>
     by_cases q3:h=zI
     ·by_cases q4:r=zI
      ·obtain ⟨rfl,rfl,rfl⟩:=e1 q3 q4;simp [go_sem,l11,l12,x7,iz,a8 l11,a8 l12];refine ⟨fun _=>⟨fun _=>?_,fun h=>absurd q4 h⟩,fun h=>absurd q3 h⟩;simp [go_sem,vl,vt];refine a9 f29 (J8 _ _ _) ?_;simp [go_sem,ul2,ut2,wd,wl,d6];exact P7 rfl
      ·obtain ⟨rfl,rfl,rfl⟩:=e2 q3 q4;simp [go_sem,l11,l12,x7,iz,a8 l11,a8 l12];refine ⟨fun _=>⟨fun h=>absurd h q4,fun _=>?_⟩,fun h=>absurd q3 h⟩;refine a9 S4 ab ?_;simp [go_sem];refine a9 f26 (A4 _ _ _) ?_;simp [go_sem,ul,ut,wd,wl,d6];exact P7 rfl
     obtain ⟨rfl,rfl,rfl⟩:=e3 q3;simp [go_sem,l11,l12,x7,iz,a8 l11,a8 l12];refine ⟨fun h=>absurd h q3,fun _=>?_⟩;refine a9 f13 (j9 _) ?_;simp [go_sem,l11,l13,a8 l11,a8 l13,z4];refine a9 f14 (c7 _ _) ?_;simp [go_sem,l4,l13,l14,a8 l4,a8 l13,a8 l14,z4];refine a9 f15 (c7 _ _) ?_;simp [go_sem,l15,a8 l15,z4];refine B3 [0,2,4] [1,3,5,6,7,8] [0,2,4] (.alt (ah 1 (.alt (ah 3 (.alt (ai 5 (.alt (ag [6,7,8]) (ag [7,6,8]))) (ah 7 (ag [5,6,8])))) (ah 7 (ah 3 (ag [5,6,8]))))) (ah 7 (ah 1 (ah 3 (ag [5,6,8]))))) ⟨[(2,.ptr 0 0 0 1),(3,.ptr 32 0 0 1),(4,.ptr 64 0 0 1),(9,.ptr 20448 0 0 1),(11,.ptr 30192 0 0 1),(12,.ptr 30224 0 0 1),(14,.ptr 40320 0 0 1),(15,.ptr 40480 0 0 1),(16,.ptr 40768 0 0 1)],[(40768,⟨160,4,[cI X]⟩),(40480,⟨160,4,[cI v]⟩),(40320,⟨160,4,[cI h3]⟩),(30224,⟨160,4,[cI r]⟩),(30192,⟨160,4,[cI h]⟩),(20448,⟨160,4,[cI s1]⟩),(64,⟨199,12,[cV zI zI zI]⟩),(32,⟨199,12,[cV x' y' z']⟩),(0,⟨199,12,[cV x y z]⟩)],50000⟩ (k:=9) ?h3 ?hq
     case h3 =>
      intro G hG
      have hW:∀ (fr:Fr) (hp:Hp),(fv 2 fr=.ptr 0 0 0 1∧fv 3 fr=.ptr 32 0 0 1∧fv 4 fr=.ptr 64 0 0 1∧fv 9 fr=.ptr 20448 0 0 1∧fv 11 fr=.ptr 30192 0 0 1∧fv 12 fr=.ptr 30224 0 0 1∧fv 14 fr=.ptr 40320 0 0 1∧fv 15 fr=.ptr 40480 0 0 1∧fv 16 fr=.ptr 40768 0 0 1∧lk 40768 hp=some ⟨160,4,[cI X]⟩∧lk 40480 hp=some ⟨160,4,[cI v]⟩∧lk 40320 hp=some ⟨160,4,[cI h3]⟩∧lk 30224 hp=some ⟨160,4,[cI r]⟩∧lk 30192 hp=some ⟨160,4,[cI h]⟩∧lk 20448 hp=some ⟨160,4,[cI s1]⟩∧lk 64 hp=some ⟨199,12,[cV zI zI zI]⟩∧lk 32 hp=some ⟨199,12,[cV x' y' z']⟩∧lk 0 hp=some ⟨199,12,[cV x y z]⟩)→G fr hp:=by
       rintro fr hp ⟨q0,q1,q2,q3,q4,q5,q6,q7,q8,q9,q10,q11,q12,q13,q14,q15,q16,q17⟩;exact hG _ _ Q6
      simp [go_sem,l12,l14,l15,l18,a8 l12,a8 l14,a8 l15,a8 l18,z4,y9]
      repeat' first | exact hW _ _ ⟨rfl,rfl,rfl,rfl,rfl,rfl,rfl,rfl,rfl,rfl,rfl,rfl,rfl,rfl,rfl,rfl,rfl,rfl⟩ | (refine hW _ _ ?_;simp [fv,lk];done) | refine a9 f16 (j9 _) ?_ | refine a9 f17 (c7 _ _) ?_ | refine a9 f20 (UP _ _) ?_ | refine a9 f18 (c7 _ _) ?_ | apply And.intro | simp [go_sem,l12,l14,l15,l18,a8 l12,a8 l14,a8 l15,a8 l18,z4,y9]
     case hq =>
      simp [go_sem];refine B3 [0,1,2,5,6] [3,4,7,8,9,10] [0,1,2,5,6] (.alt (ah 3 (.alt (ah 4 (.alt (ai 7 (.alt (ag [8,9,10]) (ag [9,8,10]))) (ah 9 (ag [7,8,10])))) (ah 9 (ah 4 (ag [7,8,10]))))) (ah 9 (ah 3 (ah 4 (ag [7,8,10]))))) ⟨[(2,.ptr 0 0 0 1),(3,.ptr 32 0 0 1),(4,.ptr 64 0 0 1),(11,.ptr 30192 0 0 1),(16,.ptr 40768 0 0 1),(17,.ptr 50288 0 0 1)],[(50288,⟨160,4,[cI Y]⟩),(40768,⟨160,4,[cI X]⟩),(30192,⟨160,4,[cI h]⟩),(64,⟨199,12,[cV zI zI zI]⟩),(32,⟨199,12,[cV x' y' z']⟩),(0,⟨199,12,[cV x y z]⟩)],60000⟩ (k:=11) ?h3 ?hq
      case h3 =>
       intro G hG
       have hW:∀ (fr:Fr) (hp:Hp),(fv 2 fr=.ptr 0 0 0 1∧fv 3 fr=.ptr 32 0 0 1∧fv 4 fr=.ptr 64 0 0 1∧fv 11 fr=.ptr 30192 0 0 1∧fv 16 fr=.ptr 40768 0 0 1∧fv 17 fr=.ptr 50288 0 0 1∧lk 50288 hp=some ⟨160,4,[cI Y]⟩∧lk 40768 hp=some ⟨160,4,[cI X]⟩∧lk 30192 hp=some ⟨160,4,[cI h]⟩∧lk 64 hp=some ⟨199,12,[cV zI zI zI]⟩∧lk 32 hp=some ⟨199,12,[cV x' y' z']⟩∧lk 0 hp=some ⟨199,12,[cV x y z]⟩)→G fr hp:=by
        rintro fr hp ⟨q0,q1,q2,q3,q4,q5,q6,q7,q8,q9,q10,q11⟩;exact hG _ _ Q6
       simp [go_sem,l7,l12,l14,l15,l18,l19,a8 l7,a8 l12,a8 l14,a8 l15,a8 l18,a8 l19,z4,y9]
       repeat' first | exact hW _ _ ⟨rfl,rfl,rfl,rfl,rfl,rfl,rfl,rfl,rfl,rfl,rfl,rfl⟩ | (refine hW _ _ ?_;simp [fv,lk];done) | refine a9 f21 (c7 _ _) ?_ | refine a9 f22 (c7 _ _) ?_ | refine a9 f24 (c7 _ _) ?_ | refine a9 f19 (c7 _ _) ?_ | apply And.intro | simp [go_sem,l7,l12,l14,l15,l18,l19,a8 l7,a8 l12,a8 l14,a8 l15,a8 l18,a8 l19,z4,y9]
      case hq =>
       simp only [go_sem,Nat.reduceEqDiff,Nat.reduceAdd,Nat.reduceLT,↓reduceIte];refine z6 [0,1,2,3,4,5,6] [(7,[]),(8,[9]),(10,[])] 2 (k:=11) ?_;intro G hG;simp [go_sem,l18,l19,l11,a8 l18,a8 l19,a8 l11,v3,v3b,vl,vlb];refine a9 f25 (c7 _ _) ?_;simp [go_sem];refine a9 f23 (c7 _ _) ?_;have ev:cI X ++ (cI Y ++ cI Z)=cV X Y Z:=rfl;have xl:=A5 l18 l19 l23;have xt:=x8 l18 l19 l23;simp [go_sem,l18,l19,l23,wl,wd,mk8 l18 l19,aon l18 l19,ev,xl,y9];refine hG _ _ ?_;simp [go_sem,xl,xt,d6];exact P7 rfl
abbrev T3:=List Int × List Int × List Int
def W3 (s:T3):Prop:=Wn 4 s.1∧Wn 4 s.2.1∧Wn 4 s.2.2
def aag (s:T3):Prop:=Ym s.1 s.2.1 s.2.2
noncomputable def JV3 (s:T3):Pt pP:=JV s.1 s.2.1 s.2.2
theorem awn:∃ D:T3→T3,∀ s,W3 s→W3 (D s)∧(aag s→aag (D s)∧JV3 (D s)=sum fd (JV3 s) (JV3 s))∧d9 Tryz.prog 171 [.agg (cV s.1 s.2.1 s.2.2)] (fun r=>r=.agg (cV (D s).1 (D s).2.1 (D s).2.2)) :=
 pick (α:=T3) (β:=T3) (A:=W3) (B:=fun s t=>W3 t∧(aag s→aag t∧JV3 t=sum fd (JV3 s) (JV3 s))∧d9 Tryz.prog 171 [.agg (cV s.1 s.2.1 s.2.2)] (fun r=>r=.agg (cV t.1 t.2.1 t.2.2))) (fun s hs=>by
  obtain ⟨u,v,w,h1,h2,h3,hv,h4⟩:=aae s.1 s.2.1 s.2.2 hs.1 hs.2.1 hs.2.2
  exact ⟨(u,v,w),⟨h1,h2,h3⟩,hv,h4⟩)
theorem aug:∃ D:T3 × T3→T3,∀ s,(W3 s.1∧W3 s.2)→W3 (D s)∧(aag s.1→aag s.2→aag (D s)∧JV3 (D s)=sum fd (JV3 s.1) (JV3 s.2))∧d9 Tryz.prog 169 [.agg (cV s.1.1 s.1.2.1 s.1.2.2),.agg (cV s.2.1 s.2.2.1 s.2.2.2)] (fun r=>r=.agg (cV (D s).1 (D s).2.1 (D s).2.2)) :=
 pick (α:=T3 × T3) (β:=T3) (A:=fun s=>W3 s.1∧W3 s.2) (B:=fun s t=>W3 t∧(aag s.1→aag s.2→aag t∧JV3 t=sum fd (JV3 s.1) (JV3 s.2))∧d9 Tryz.prog 169 [.agg (cV s.1.1 s.1.2.1 s.1.2.2),.agg (cV s.2.1 s.2.2.1 s.2.2.2)] (fun r=>r=.agg (cV t.1 t.2.1 t.2.2))) (fun s hs=>by
  obtain ⟨u,v,w,h1,h2,h3,hv,h4⟩:=ahv s.1.1 s.1.2.1 s.1.2.2 s.2.1 s.2.2.1 s.2.2.2 hs.1.1 hs.1.2.1 hs.1.2.2 hs.2.1 hs.2.2.1 hs.2.2.2
  exact ⟨(u,v,w),⟨h1,h2,h3⟩,hv,h4⟩)
theorem awo:∃ D:List Int × Nat→Bool,∀ s,(Wn 4 s.1∧s.2<256)→(D s=true ↔ (V s.1).toNat / 2 ^ s.2 % 2=1)∧d9 Tryz.prog 172 [.agg (cI s.1),.d (.int .i64 (s.2:Int))] (fun r=>r=.d (.bool (D s))) :=
 pick (α:=List Int × Nat) (β:=Bool) (A:=fun s=>Wn 4 s.1∧s.2<256) (B:=fun s t=>(t=true ↔ (V s.1).toNat / 2 ^ s.2 % 2=1)∧d9 Tryz.prog 172 [.agg (cI s.1),.d (.int .i64 (s.2:Int))] (fun r=>r=.d (.bool t))) (fun s hs=>arA s.1 s.2 hs.1 hs.2)
def acR (D:T3→T3) (A:T3 × T3→T3) (B:List Int × Nat→Bool) (a b:List Int) (M:Nat) (one two both:T3) (k:Nat) (s:T3):T3 :=
 if B (a,M - 1 - k) then (if B (b,M - 1 - k) then A (D s,both) else A (D s,one)) else (if B (b,M - 1 - k) then A (D s,two) else D s)
theorem aiK {P Q:Pt pP} (hP:Rz P) (hQ:Rz Q) (a b:Nat) :
  sum fd (sum fd (mp fd a P) (mp fd b Q)) (sum fd (mp fd a P) (mp fd b Q))=sum fd (mp fd (2*a) P) (mp fd (2*b) Q) ∧
  sum fd (sum fd (mp fd (2*a) P) (mp fd (2*b) Q)) P=sum fd (mp fd (2*a+1) P) (mp fd (2*b) Q) ∧
  sum fd (sum fd (mp fd (2*a) P) (mp fd (2*b) Q)) Q=sum fd (mp fd (2*a) P) (mp fd (2*b+1) Q) ∧
  sum fd (sum fd (mp fd (2*a) P) (mp fd (2*b) Q)) (sum fd P Q)=sum fd (mp fd (2*a+1) P) (mp fd (2*b+1) Q):=by
 have a1:=Ww fd hP a;have b1:=Ww fd hQ b;have a2:=Ww fd hP (2*a);have b2:=Ww fd hQ (2*b);refine ⟨?_,?_,?_,?_⟩
 ·rw [at0 fd a1 b1 a1 b1,acK fd hP,acK fd hQ]
 ·rw [mp,RA fd a2 b2 hP,Z5 fd (mp fd (2*b) Q) P,← RA fd a2 hP b2]
 ·rw [mp,RA fd a2 b2 hQ]
 ·rw [mp,mp,at0 fd a2 b2 hP hQ]
theorem abG (N M k:Nat) (h:k<M):N / 2 ^ (M - (k+1))=2*(N / 2 ^ (M - k))+N / 2 ^ (M - 1 - k) % 2:=by
 have e:M - k=(M - 1 - k)+1:=aa;have e2:M - (k+1)=M - 1 - k:=aa;rw [e,e2,Nat.pow_succ,← Nat.div_div_eq_div_mul];omega
theorem af3 (a b:List Int) (x y x' y':List Int) (c c':Bool):∀ v,v ∈ [AV.agg (cI a),AV.agg (cP x y c),AV.agg (cI b),AV.agg (cP x' y' c')]→v.deep:=by
 intro v hv;simp at hv;rcases hv with rfl | rfl | rfl | rfl
 ·exact M1 _
 ·exact UO _ _ _
 ·exact M1 _
 ·exact UO _ _ _
theorem aeu (n:List Int) (m:Int):∀ v,v ∈ [AV.agg (cI n),AV.d (.int .i64 m)]→v.deep:=by
 intro v hv;simp at hv;rcases hv with rfl | rfl;exact M1 _;trivial
theorem aoq (a b x y x' y':List Int) (c c':Bool) (ha:Wn 4 a) (hb:Wn 4 b) (hx:Wn 4 x) (hy:Wn 4 y) (hx':Wn 4 x') (hy':Wn 4 y'):∃ (u v:List Int) (o:Bool),Wn 4 u∧Wn 4 v∧(J7 x y c→J7 x' y' c'→J7 u v o∧PV u v o=sum fd (mp fd (V a).toNat (PV x y c)) (mp fd (V b).toNat (PV x' y' c')))∧d9 Tryz.prog 123 [.agg (cI a),.agg (cP x y c),.agg (cI b),.agg (cP x' y' c')] (fun r=>r=.agg (cP u v o)):=by
 obtain ⟨D,hD⟩:=awn;obtain ⟨A,hA⟩:=aug;obtain ⟨B,hB⟩:=awo;obtain ⟨p1,p2,p3,hp1,hp2,tv1,t1⟩:=XB x y c hx hy;obtain ⟨u1,v1,w1,hu1,hv1,hw1,wv1,g1⟩:=VA p1 p2 p3 hp1 hp2;obtain ⟨r1,r2,r3,hr1,hr2,tv2,t2⟩:=XB x' y' c' hx' hy';obtain ⟨u2,v2,w2,hu2,hv2,hw2,wv2,g2⟩:=VA r1 r2 r3 hr1 hr2;obtain ⟨u3,v3,w3,hu3,hv3,hw3,wv3,f3⟩:=ahv u1 v1 w1 u2 v2 w2 hu1 hv1 hw1 hu2 hv2 hw2;obtain ⟨u4,v4,w4,hu4,hv4,hw4,wv4,f4⟩:=VA zI zI true F9 F9;obtain ⟨La,hLa,vLa,f5⟩:=acE a ha;obtain ⟨Lb,hLb,vLb,f6⟩:=acE b hb;obtain ⟨M,hM⟩:∃ M,M=max La Lb:=⟨_,rfl⟩;have hM2:M≤256:=aa;have hone:W3 (u1,v1,w1):=⟨hu1,hv1,hw1⟩;have htwo:W3 (u2,v2,w2):=⟨hu2,hv2,hw2⟩;have hboth:W3 (u3,v3,w3):=⟨hu3,hv3,hw3⟩
 have hS:∀ k,W3 (y7 (acR D A B a b M (u1,v1,w1) (u2,v2,w2) (u3,v3,w3)) (u4,v4,w4) k):=M8 (P:=fun _ s=>W3 s) ⟨hu4,hv4,hw4⟩ fun k s hs=>by
  have hd:=(hD s hs).1;unfold acR
  split
  ·split
   ·exact (hA _ ⟨hd,hboth⟩).1
   ·exact (hA _ ⟨hd,hone⟩).1
  ·split
   ·exact (hA _ ⟨hd,htwo⟩).1
   ·exact hd
 obtain ⟨u,v,o,hu,hv,vp,f7⟩:=alr _ _ _ (hS M).1 (hS M).2.1 (hS M).2.2
 have vv:J7 x y c→J7 x' y' c'→J7 u v o∧PV u v o=sum fd (mp fd (V a).toNat (PV x y c)) (mp fd (V b).toNat (PV x' y' c')):=by
  intro i1 i2;obtain ⟨q1,q2,q3⟩:=tv1.2.1 i1;obtain ⟨q4,q5,q6⟩:=tv2.2.1 i2;subst q1 q2 q3 q4 q5 q6;have o1:=S3 i1;have o2:=S3 i2;obtain ⟨j1,e1⟩:=wv1 i1;obtain ⟨j2,e2⟩:=wv2 i2;obtain ⟨j3,e3⟩:=wv3 j1 j2;obtain ⟨j4,e4⟩:=wv4 Vx
  have hbig:∀ (w:List Int) (L:Nat),Wn 4 w→V w<2 ^ L→L≤M→(V w).toNat / 2 ^ M=0:=by
   intro w L hw hL hLM;have h0:=(E9 hw).1;have h1:(((V w).toNat:Nat):Int)<((2 ^ L:Nat):Int):=by rw [Int.toNat_of_nonneg h0];exact_mod_cast hL
   have h2:(V w).toNat<2 ^ L:=by exact_mod_cast h1
   exact Nat.div_eq_of_lt (Nat.lt_of_lt_of_le h2 (Nat.pow_le_pow_right aa hLM))
  have main:∀ k,k≤M→aag (y7 (acR D A B a b M (u1,v1,w1) (u2,v2,w2) (u3,v3,w3)) (u4,v4,w4) k)∧JV3 (y7 (acR D A B a b M (u1,v1,w1) (u2,v2,w2) (u3,v3,w3)) (u4,v4,w4) k)=sum fd (mp fd ((V a).toNat / 2 ^ (M - k)) (PV p1 p2 p3)) (mp fd ((V b).toNat / 2 ^ (M - k)) (PV r1 r2 r3)):=by
   intro k
   induction k with
   | zero =>
    intro _;refine ⟨j4,?_⟩;rw [Nat.sub_zero,hbig a La ha vLa aa,hbig b Lb hb vLb aa];show JV u4 v4 w4=_;rw [e4,alo];exact (J3 fd (Q:=none) True.intro).symm
   | succ k ih =>
    intro hk;obtain ⟨i3,i4⟩:=ih aa;have hs:=hS k;rw [y7];generalize y7 (acR D A B a b M (u1,v1,w1) (u2,v2,w2) (u3,v3,w3)) (u4,v4,w4) k=s at *;obtain ⟨d1,d2,_⟩:=hD s hs;obtain ⟨d3,d4⟩:=d2 i3;have ba:=(hB (a,M - 1 - k) ⟨ha,aa⟩).1;have bb:=(hB (b,M - 1 - k) ⟨hb,aa⟩).1;obtain ⟨s1,s2,s3,s4⟩:=aiK o1 o2 ((V a).toNat / 2 ^ (M - k)) ((V b).toNat / 2 ^ (M - k));rw [i4,s1] at d4;rw [abG _ M k aa,abG (V b).toNat M k aa];dsimp only at ba bb;have m2:∀ n:Nat,n % 2=0 ∨ n % 2=1:=Nat.mod_two_eq_zero_or_one;unfold acR
    cases hb1:B (a,M - 1 - k)
    ·have za:(V a).toNat / 2 ^ (M - 1 - k) % 2=0:=(m2 _).resolve_right (fun h=>by rw [ba.2 h] at hb1;cases hb1);rw [za,Nat.add_zero]
     cases hb2:B (b,M - 1 - k)
     ·have zb:(V b).toNat / 2 ^ (M - 1 - k) % 2=0:=(m2 _).resolve_right (fun h=>by rw [bb.2 h] at hb2;cases hb2);rw [zb,Nat.add_zero];exact ⟨d3,d4⟩
     ·rw [bb.1 hb2];obtain ⟨k1,k2,_⟩:=hA (D s,(u2,v2,w2)) ⟨d1,htwo⟩;obtain ⟨k3,k4⟩:=k2 d3 j2;refine ⟨k3,?_⟩;show JV3 (A (D s,(u2,v2,w2)))=_;rw [k4,d4,← s3];show sum fd _ (JV u2 v2 w2)=_;rw [e2]
    ·rw [ba.1 hb1]
     cases hb2:B (b,M - 1 - k)
     ·have zb:(V b).toNat / 2 ^ (M - 1 - k) % 2=0:=(m2 _).resolve_right (fun h=>by rw [bb.2 h] at hb2;cases hb2);rw [zb,Nat.add_zero (2*((V b).toNat / 2 ^ (M - k)))];obtain ⟨k1,k2,_⟩:=hA (D s,(u1,v1,w1)) ⟨d1,hone⟩;obtain ⟨k3,k4⟩:=k2 d3 j1;refine ⟨k3,?_⟩;show JV3 (A (D s,(u1,v1,w1)))=_;rw [k4,d4,← s2];show sum fd _ (JV u1 v1 w1)=_;rw [e1]
     ·rw [bb.1 hb2];obtain ⟨k1,k2,_⟩:=hA (D s,(u3,v3,w3)) ⟨d1,hboth⟩;obtain ⟨k3,k4⟩:=k2 d3 j3;refine ⟨k3,?_⟩;show JV3 (A (D s,(u3,v3,w3)))=_;rw [k4,d4,← s4];show sum fd _ (JV u3 v3 w3)=_;rw [e3,e1,e2]
  obtain ⟨z1,z2⟩:=main M (Nat.le_refl _);obtain ⟨z3,z4⟩:=vp z1;refine ⟨z3,?_⟩;rw [z4];show JV3 _=_;rw [z2,Nat.sub_self,Nat.pow_zero,Nat.div_one,Nat.div_one]
 refine ⟨u,v,o,hu,hv,vv,?_⟩;refine s8 Tryz.func123 Tryz.ntmps123 (rs:=[.cell 8 162]) (af3 _ _ _ _ _ _ _ _) ?_;have hal:=ha.1;have hbl:=hb.1;have hxl:=hx.1;have hyl:=hy.1;have hxl':=hx'.1;have hyl':=hy'.1;have z4:List.drop 4 (cI zI)=[]:=d7 rfl;have pl1:=o6 hxl hyl c;have pt1:=rC hxl hyl c;have pl2:=o6 hxl' hyl' c';have pt2:=rC hxl' hyl' c';have wl1:=A5 hu1.1 hv1.1 hw1.1;have wt1:=x8 hu1.1 hv1.1 hw1.1;have wl2:=A5 hu2.1 hv2.1 hw2.1;have wt2:=x8 hu2.1 hv2.1 hw2.1;have wl3:=A5 hu3.1 hv3.1 hw3.1;have wt3:=x8 hu3.1 hv3.1 hw3.1;have wl4:=A5 hu4.1 hv4.1 hw4.1;have wt4:=x8 hu4.1 hv4.1 hw4.1;have wd:(cV zI zI zI).drop 12=[]:=M9 rfl rfl rfl;have wl:(cV zI zI zI).length=12:=rfl;have pd:(cP zI zI false).drop 9=[]:=K1 rfl rfl _;have pl:(cP zI zI false).length=9:=rfl;simp [go_sem,hal,hbl,a8 hal,a8 hbl,pl1,pt1,pl2,pt2];refine B3 [0,3] [1,2,4,5,6,7,8,9] [0,3] (.alt (ah 1 (.alt (ah 2 (.alt (ai 4 (.alt (ai 5 (.alt (ag [6,7,8,9]) (ag [7,6,8,9]))) (.alt (ai 6 (.alt (ag [5,7,8,9]) (ag [7,5,8,9]))) (ai 7 (.alt (ag [5,6,8,9]) (ag [6,5,8,9])))))) (.alt (ah 6 (.alt (ai 4 (.alt (ag [5,7,8,9]) (ag [7,5,8,9]))) (ah 7 (ag [4,5,8,9])))) (ah 7 (.alt (ai 4 (.alt (ag [5,6,8,9]) (ag [6,5,8,9]))) (ah 6 (ag [4,5,8,9]))))))) (.alt (ah 6 (.alt (ah 2 (.alt (ai 4 (.alt (ag [5,7,8,9]) (ag [7,5,8,9]))) (ah 7 (ag [4,5,8,9])))) (ah 7 (ah 2 (ag [4,5,8,9]))))) (ah 7 (.alt (ah 2 (.alt (ai 4 (.alt (ag [5,6,8,9]) (ag [6,5,8,9]))) (ah 6 (ag [4,5,8,9])))) (ah 6 (ah 2 (ag [4,5,8,9])))))))) (.alt (ah 6 (.alt (ah 1 (.alt (ah 2 (.alt (ai 4 (.alt (ag [5,7,8,9]) (ag [7,5,8,9]))) (ah 7 (ag [4,5,8,9])))) (ah 7 (ah 2 (ag [4,5,8,9]))))) (ah 7 (ah 1 (ah 2 (ag [4,5,8,9])))))) (ah 7 (.alt (ah 1 (.alt (ah 2 (.alt (ai 4 (.alt (ag [5,6,8,9]) (ag [6,5,8,9]))) (ah 6 (ag [4,5,8,9])))) (ah 6 (ah 2 (ag [4,5,8,9]))))) (ah 6 (ah 1 (ah 2 (ag [4,5,8,9])))))))) ⟨[(4,.ptr 0 0 0 1),(6,.ptr 64 0 0 1),(8,.ptr 128 0 0 1),(9,.ptr 352 0 0 1),(10,.ptr 384 0 0 1)],[(384,⟨199,12,[cV u2 v2 w2]⟩),(352,⟨199,12,[cV u1 v1 w1]⟩),(128,⟨162,9,[cP zI zI false]⟩),(64,⟨160,4,[cI b]⟩),(0,⟨160,4,[cI a]⟩)],9000⟩ (k:=10) ?h3 ?hq
 case h3 =>
  intro G hG
  have hW:∀ (fr:Fr) (hp:Hp),(fv 4 fr=.ptr 0 0 0 1∧fv 6 fr=.ptr 64 0 0 1∧fv 8 fr=.ptr 128 0 0 1∧fv 9 fr=.ptr 352 0 0 1∧fv 10 fr=.ptr 384 0 0 1∧lk 384 hp=some ⟨199,12,[cV u2 v2 w2]⟩∧lk 352 hp=some ⟨199,12,[cV u1 v1 w1]⟩∧lk 128 hp=some ⟨162,9,[cP zI zI false]⟩∧lk 64 hp=some ⟨160,4,[cI b]⟩∧lk 0 hp=some ⟨160,4,[cI a]⟩)→G fr hp:=by
   rintro fr hp ⟨q0,q1,q2,q3,q4,q5,q6,q7,q8,q9⟩;exact hG _ _ Q6
  simp [go_sem,hal,hbl,a8 hal,a8 hbl,pl1,pt1,pl2,pt2,wl1,wt1,wl2,wt2,wd,z4,y9]
  repeat' first | exact hW _ _ ⟨rfl,rfl,rfl,rfl,rfl,rfl,rfl,rfl,rfl,rfl⟩ | (refine hW _ _ ?_;simp [fv,lk];done) | refine a9 t1 (A4 _ _ _) ?_ | refine a9 t2 (A4 _ _ _) ?_ | refine a9 g1 (A4 _ _ _) ?_ | refine a9 g2 (A4 _ _ _) ?_ | apply And.intro | simp [go_sem,hal,hbl,a8 hal,a8 hbl,pl1,pt1,pl2,pt2,wl1,wt1,wl2,wt2,wd,z4,y9]
 case hq =>
  simp [go_sem,wl1,wt1,wl2,wt2];refine a9 f3 (WP _ _ _ _ _ _) ?_;simp [go_sem,wl3,wt3,wd];refine a9 S4 ab ?_;simp [go_sem];refine a9 f4 (A4 _ _ _) ?_;simp [go_sem,wl4,wt4,wd];refine z6 [0,2] [(1,[]),(3,[]),(4,[5,6])] 3 (k:=7) ?_;intro G hG;simp [go_sem,hal,hbl,a8 hal,a8 hbl];refine a9 f5 (j9 _) ?_;simp [go_sem,hal,hbl,a8 hal,a8 hbl];refine a9 f6 (j9 _) ?_;have w0:IntKind.i64.wrap ((M:Int) - 1)=(M:Int) - 1:=by rw [IntWalk.i64_in _ aa]
  have hMi:max (La:Int) (Lb:Int)=(M:Int):=aa;have hMx:(if La<Lb then (Lb:Int) else (La:Int))=(M:Int):=by split <;> omega
  simp [go_sem,hMi,w0];refine hG _ _ ?_;generalize hSS:y7 (acR D A B a b M (u1,v1,w1) (u2,v2,w2) (u3,v3,w3)) (u4,v4,w4)=S at *;have hS0:S 0=(u4,v4,w4):=by rw [← hSS];rfl
  refine j6 (fun k:Nat=>⟨[(4,.ptr 0 0 0 1),(6,.ptr 64 0 0 1),(8,.ptr 128 0 0 1),(9,.ptr 352 0 0 1),(10,.ptr 384 0 0 1),(11,.ptr 9096 0 0 1),(12,.ptr 9224 0 0 1),(13,.d (.int .i64 ((M:Int) - 1 - (k:Int))))],[(9224,⟨199,12,[cV (S k).1 (S k).2.1 (S k).2.2]⟩),(9096,⟨199,12,[cV u3 v3 w3]⟩),(384,⟨199,12,[cV u2 v2 w2]⟩),(352,⟨199,12,[cV u1 v1 w1]⟩),(128,⟨162,9,[cP zI zI false]⟩),(64,⟨160,4,[cI b]⟩),(0,⟨160,4,[cI a]⟩)],20000⟩)
   (fun k=>k≤M) (fun k=>M - k) 0 aa (by
    rw [hS0];simp [m6,c6,fv,lk,AV.low,AV.low1]
    and_intros <;> first | exact SO _ _ _ _ | exact o5 _ _ | exact SN _ _ _ _ | (rw [hMx,w0])) ?_
  intro k hk;obtain ⟨hs1,hs2,hs3⟩:=hS k;have sl:=A5 hs1.1 hs2.1 hs3.1;have st:=x8 hs1.1 hs2.1 hs3.1;have sd:=M9 hs1.1 hs2.1 hs3.1;simp only [go_sem,Nat.reduceEqDiff,Nat.reduceAdd,Nat.reduceLT,↓reduceIte];by_cases h4:k<M
  ·refine ⟨fun h=>?_,fun h=>absurd aa h⟩;have hsn:S (k+1)=acR D A B a b M (u1,v1,w1) (u2,v2,w2) (u3,v3,w3) k (S k):=by rw [← hSS];rfl
   have wq:IntKind.i64.wrap ((M:Int) - 1 - (k:Int) - 1)=(M:Int) - 1 - ((k+1:Nat):Int):=by rw [IntWalk.i64_in _ aa];omega
   obtain ⟨d1,_,d2⟩:=hD (S k) ⟨hs1,hs2,hs3⟩;have dl:=A5 d1.1.1 d1.2.1.1 d1.2.2.1;have dt:=x8 d1.1.1 d1.2.1.1 d1.2.2.1;have dd:=M9 d1.1.1 d1.2.1.1 d1.2.2.1;have e1:=(hB (a,M - 1 - k) ⟨ha,aa⟩).2;have e2:=(hB (b,M - 1 - k) ⟨hb,aa⟩).2;have ei:(((M - 1 - k:Nat)):Int)=(M:Int) - 1 - (k:Int):=aa;simp only [ei] at e1 e2;unfold acR at hsn;simp [go_sem,sl,st];refine a9 d2 (J8 _ _ _) ?_;simp [go_sem,dl,dt,sl,sd];refine z6 [0,1,3,4] [(2,[]),(5,[6,7])] 2 (k:=8) ?_;intro G hG;simp [go_sem,hal,hbl,a8 hal,a8 hbl];refine a9 e1 (aeu _ _) ?_;simp [go_sem,hal,hbl,a8 hal,a8 hbl];refine a9 e2 (aeu _ _) ?_;simp [go_sem];refine hG _ _ ?_
   cases hb1:B (a,M - 1 - k)
   ·cases hb2:B (b,M - 1 - k)
    ·simp only [hb1,hb2,if_true,if_false,Bool.false_eq_true] at hsn;simp [go_sem,hb1,hb2,dl,dt,wl1,wt1,wl2,wt2,wl3,wt3];simp [go_sem,wq];refine c8 (k+1) aa aa ?_;rw [hsn];simp [m6,c6,fv,lk,AV.low,AV.low1];and_intros <;> first | exact SO _ _ _ _ | exact o5 _ _ | exact SN _ _ _ _ | omega
    ·simp only [hb1,hb2,if_true,if_false,Bool.false_eq_true] at hsn;simp [go_sem,hb1,hb2,dl,dt,wl1,wt1,wl2,wt2,wl3,wt3];obtain ⟨m1,_,m2⟩:=hA (D (S k),(u2,v2,w2)) ⟨d1,htwo⟩;refine a9 m2 (WP _ _ _ _ _ _) ?_;have ml:=A5 m1.1.1 m1.2.1.1 m1.2.2.1;have mt:=x8 m1.1.1 m1.2.1.1 m1.2.2.1;have md:=M9 m1.1.1 m1.2.1.1 m1.2.2.1;generalize A (D (S k),(u2,v2,w2))=z at *;simp [go_sem,ml,mt,dd,dl,wq];refine c8 (k+1) aa aa ?_;rw [hsn];simp [m6,c6,fv,lk,AV.low,AV.low1];and_intros <;> first | exact SO _ _ _ _ | exact o5 _ _ | exact SN _ _ _ _ | omega
   ·cases hb2:B (b,M - 1 - k)
    ·simp only [hb1,hb2,if_true,if_false,Bool.false_eq_true] at hsn;simp [go_sem,hb1,hb2,dl,dt,wl1,wt1,wl2,wt2,wl3,wt3];obtain ⟨m1,_,m2⟩:=hA (D (S k),(u1,v1,w1)) ⟨d1,hone⟩;refine a9 m2 (WP _ _ _ _ _ _) ?_;have ml:=A5 m1.1.1 m1.2.1.1 m1.2.2.1;have mt:=x8 m1.1.1 m1.2.1.1 m1.2.2.1;have md:=M9 m1.1.1 m1.2.1.1 m1.2.2.1;generalize A (D (S k),(u1,v1,w1))=z at *;simp [go_sem,ml,mt,dd,dl,wq];refine c8 (k+1) aa aa ?_;rw [hsn];simp [m6,c6,fv,lk,AV.low,AV.low1];and_intros <;> first | exact SO _ _ _ _ | exact o5 _ _ | exact SN _ _ _ _ | omega
    ·simp only [hb1,hb2,if_true,if_false,Bool.false_eq_true] at hsn;simp [go_sem,hb1,hb2,dl,dt,wl1,wt1,wl2,wt2,wl3,wt3];obtain ⟨m1,_,m2⟩:=hA (D (S k),(u3,v3,w3)) ⟨d1,hboth⟩;refine a9 m2 (WP _ _ _ _ _ _) ?_;have ml:=A5 m1.1.1 m1.2.1.1 m1.2.2.1;have mt:=x8 m1.1.1 m1.2.1.1 m1.2.2.1;have md:=M9 m1.1.1 m1.2.1.1 m1.2.2.1;generalize A (D (S k),(u3,v3,w3))=z at *;simp [go_sem,ml,mt,dd,dl,wq];refine c8 (k+1) aa aa ?_;rw [hsn];simp [m6,c6,fv,lk,AV.low,AV.low1];and_intros <;> first | exact SO _ _ _ _ | exact o5 _ _ | exact SN _ _ _ _ | omega
  ·refine ⟨fun h=>absurd aa h4,fun h=>?_⟩;have hkl:k=M:=aa;subst hkl;simp [go_sem,sl,st];refine a9 f7 (J8 _ _ _) ?_;have ol:=o6 hu.1 hv.1 o;have ot:=rC hu.1 hv.1 o;simp [go_sem,ol,ot,pl,pd,d6];exact K5 rfl
def H6:List Nat:=[84,97,112,84,119,101,97,107]
theorem acS (t b:List Nat):(H9 t b).length=32∧bytes (H9 t b):=⟨F8 _,G8 _⟩
theorem VC (b:List Nat) (d:DV):∀ v,v ∈ [AV.agg (cb b),AV.d d]→v.deep:=by
 intro v hv;simp at hv;rcases hv with rfl | rfl;exact RX _;trivial
theorem af4 (inner root:List Nat) (hi:inner.length=32) (hr:root.length≤1000):∃ (t:List Int) (ok:Bool),Wn 4 t∧((I1 (H9 H6 (inner ++ root))<115792089237316195423570985008687907852837564279074904382605163141518161494337→ok=true∧V t=(I1 (H9 H6 (inner ++ root)):Int))∧(¬ I1 (H9 H6 (inner ++ root))<115792089237316195423570985008687907852837564279074904382605163141518161494337→ok=false∧t=zI))∧d9 Tryz.prog 122 [.agg (cb inner),.d (nb root)] (fun r=>r=.tup [.agg (cI t),.d (.bool ok)]):=by
 obtain ⟨t,ok,ht,vt,f1⟩:=alu (H9 H6 (inner ++ root)) (acS _ _).1 (acS _ _).2;refine ⟨t,ok,ht,vt,?_⟩;refine s8 Tryz.func122 Tryz.ntmps122 (rs:=[.cell 4 160,.tmp 5]) (VC _ _) ?_;have htl:=ht.1;have hz:List.drop 4 (cI zI)=[]:=d7 rfl;simp [go_sem,d0,hi,d5 hi];refine B2 [0,160] (aiJ inner root hi aa) rfl (m7 (.one (m8 (ZL (rows:=[[.sub 0 0 0 1 32 32 1],[.d (nb root)]]) rfl ab rfl (RowsR.cons (.cons (Tm rfl ab hi) .nil) (RowsR.cons (.cons (.d _) .nil) .nil)) rfl (by intro r hr;simp at hr;rcases hr with rfl | rfl <;> rfl)))) t4) ?_;simp [go_sem,s7];refine a9 (Uh H6 (.str [84,97,112,84,119,101,97,107]) rfl (inner ++ root) (by simp [H6]) (by rw [List.length_append];omega)) ae ?_;simp [go_sem];refine a9 f1 (A8 _) ?_;simp [go_sem,htl,a8 htl,hz,d6];exact Q8 rfl
noncomputable def liftPt (n:Nat):Pt pP:=some (icF pP (n:Int),icF pP (if Tu n % 2=0 then Tu n else (0 - Tu n) % 115792089237316195423570985008687907853269984665640564039457584007908834671663))
noncomputable def turnQ (n t:Nat):Pt pP:=sum fd (mp fd 1 (liftPt n)) (mp fd t (PV gX gY false))
theorem arE (R p:Int):(0 - R) % p*((0 - R) % p) % p=R*R % p:=by
 rw [← Int.mul_emod];congr 1;rw [Int.zero_sub,Int.neg_mul_neg]
theorem arF {x:List Int} {n:Nat} (hx:V x=n):((((FV x*FV x*FV x+7:F)).val:Nat):Int)=R6 n:=by
 have e7:(((7:F).val:Nat):Int)=7 % pZ:=by
  show ((7 % pP:Nat):Int)=_;rw [Int.natCast_emod,P6];rfl
 rw [aiD,Yk,Yk,Int.natCast_emod,Int.natCast_add,Int.natCast_emod,Int.natCast_mul,Int.natCast_emod,Int.natCast_mul,E5,e7,P6,hx];unfold R6;show _=((n:Int)*n*n+7) % pZ;rw [← Int.mul_emod (n:Int) n,← Int.mul_emod ((n:Int)*n) n,← Int.add_emod]
theorem ahw {n:Nat} {x y:List Int} {c:Bool} (h:aes n x y c true):VB n∧c=false∧J7 x y c∧PV x y c=liftPt n:=by
 rcases h with ⟨_,h,_⟩ | ⟨h1,_,rfl,hx,hy⟩
 ·cases h
 have hpos:(0:Int)<pZ:=by decide
 have hyl:V y<pZ:=by
  rw [hy]
  split
  ·exact Int.emod_lt_of_pos _ hpos
  ·exact Int.emod_lt_of_pos _ hpos
 have hon:FV y*FV y=FV x*FV x*FV x+7:=by
  refine Vw ?_;rw [arF hx,Yk,Int.natCast_emod,Int.natCast_mul,E5,P6,← Int.mul_emod];have hc:R6 n % pZ=R6 n:=by unfold R6;exact Int.emod_emod _ _
  have hR:Tu n*Tu n % pZ=R6 n:=h1.2.trans hc;rw [hy]
  split
  ·exact hR
  ·rw [← hR];exact arE _ _
 refine ⟨h1,rfl,.inr ⟨rfl,by rw [hx];exact h1.1,hyl,hon⟩,?_⟩;show some (icF pP (V x),icF pP (V y))=_;rw [hx,hy];rfl
theorem ahx {n:Nat} {x y:List Int} {c:Bool} (h:aes n x y c false):¬ VB n:=by
 rcases h with ⟨h,_⟩ | ⟨_,h,_⟩
 ·exact h
 ·cases h
def aah (n t:Nat) (k:List Nat) (o:Bool) (e:Int):Prop :=
 ((¬ (VB n∧t<115792089237316195423570985008687907852837564279074904382605163141518161494337) ∨ turnQ n t=none)∧e=1∧k=z32∧o=false) ∨
 ((VB n∧t<115792089237316195423570985008687907852837564279074904382605163141518161494337)∧e=0∧∃ x y,turnQ n t=some (x,y)∧I1 k=x.val∧(o=true ↔ y.val % 2=1))
theorem ahy {x:List Int} (hx:Wn 4 x) (h:V x<pZ):(V x).toNat=(FV x).val:=by
 have e:=E5 x;have h0:=(E9 hx).1;rw [Int.emod_eq_of_lt h0 h] at e;omega
def E1 (e:Int):Prop:=e=0 ∨ e=1
theorem N0 {Q:AV→Prop} {st:St} {b:List Nat} {o:Bool} {e:Int} (hq:Q (.tup [.agg (cb b),.d (.bool o),.d (.int .i64 e)])):K9 Q (.tup [.agg (cb b),.d (.bool o),.d (.int .i64 e)]) st :=
 b7 (by
  intro c hc;simp at hc;rcases hc with rfl | rfl | rfl
  ·exact .inr ⟨_,rfl,s6 _⟩
  ·exact .inl trivial
  ·exact .inl trivial) hq
theorem aor (inner root:List Nat) (hi:inner.length=32) (hib:bytes inner) (hr:root.length≤1000):∃ (k:List Nat) (o:Bool) (e:Int),k.length=32∧bytes k∧E1 e∧aah (I1 inner) (I1 (H9 H6 (inner ++ root))) k o e∧d9 Tryz.prog 89 [.agg (cb inner),.d (nb root)] (fun r=>r=.tup [.agg (cb k),.d (.bool o),.d (.int .i64 e)]):=by
 obtain ⟨x,y,c,ok,hx,hy,vl,f1⟩:=alv inner hi hib;obtain ⟨t,ok2,ht,vt,f2⟩:=af4 inner root hi hr;obtain ⟨qx,qy,qc,hqx,hqy,vq,f4⟩:=aoq [1,0,0,0] t x y gX gY c false (G4 ⟨aa,aa⟩) ht hx hy aop arB;obtain ⟨kb,kl,kbb,vk,f5⟩:=aiI qx qy qc hqx hqy;obtain ⟨od,vo,f6⟩:=aoo qx qy qc hqx hqy;generalize hT:I1 (H9 H6 (inner ++ root))=T at *;have zb:bytes z32:=fun x hx=>by simp [z32] at hx;omega
 have pl:=o6 hx.1 hy.1 c;have pt:=rC hx.1 hy.1 c;have pd:(cP zI zI false).drop 9=[]:=K1 rfl rfl _;have pl0:(cP zI zI false).length=9:=rfl;have ql:=o6 hqx.1 hqy.1 qc;have qt:=rC hqx.1 hqy.1 qc;have qb:=Ve hqx.1 hqy.1 qc;have qg:=Vz hqx.1 hqy.1 qc;have htl:=ht.1;have hz:List.drop 4 (cI zI)=[]:=d7 rfl;have zd:List.drop 32 (cb z32)=[]:=F5 rfl;have zt:List.take 32 (cb z32)=cb z32:=d5 rfl
 cases ok
 ·refine ⟨z32,false,1,rfl,zb,.inr rfl,.inl ⟨.inl (fun h=>ahx vl h.1),rfl,rfl,rfl⟩,?_⟩;refine s8 Tryz.func89 Tryz.ntmps89 (rs:=[.cell 4 23,.tmp 5,.tmp 6]) (VC _ _) ?_;simp [go_sem,d0,hi,d5 hi];refine a9 f1 (A8 _) ?_;simp [go_sem,pl,pt,pd,pl0,zd,zt,d0,d6];exact N0 rfl
 ·cases ok2
  ·refine ⟨z32,false,1,rfl,zb,.inr rfl,.inl ⟨.inl (fun h=>absurd (vt.1 h.2).1 (by decide)),rfl,rfl,rfl⟩,?_⟩;refine s8 Tryz.func89 Tryz.ntmps89 (rs:=[.cell 4 23,.tmp 5,.tmp 6]) (VC _ _) ?_;simp [go_sem,d0,hi,d5 hi];refine a9 f1 (A8 _) ?_;simp [go_sem,d0,hi,d5 hi,pl,pt,pd,pl0];refine a9 f2 (VC _ _) ?_;simp [go_sem,htl,a8 htl,hz,zd,zt,d0,d6];exact N0 rfl
  ·obtain ⟨k1,k2,k3,k4⟩:=ahw vl
   have hlt:T<115792089237316195423570985008687907852837564279074904382605163141518161494337:=by
    by_cases h:T<115792089237316195423570985008687907852837564279074904382605163141518161494337
    ·exact h
    ·exact absurd (vt.2 h).1 (by decide)
   obtain ⟨m1,m2⟩:=vq k3 Zg;have vT:(V t).toNat=T:=by rw [(vt.1 hlt).2];exact Int.toNat_natCast _
   have v1:(V [1,0,0,0]).toNat=1:=by simp [V]
   rw [k4,vT,v1] at m2;have hQ:PV qx qy qc=turnQ (I1 inner) T:=m2
   cases qc
   ·have hp:=m1;rcases hp with ⟨hb,_⟩ | ⟨_,hb1,hb2,_⟩
    ·cases hb
    have vR:aah (I1 inner) T kb (!od) 0:=by
     refine .inr ⟨⟨k1,hlt⟩,rfl,FV qx,FV qy,hQ.symm,by rw [vk m1];exact ahy hqx hb1,?_⟩;have e:=ahy hqy hb2;have hy0:=(E9 hqy).1;have ho:=vo m1
     cases od
     ·have:¬ V qy % 2=0:=fun h=>Bool.noConfusion (ho.2 ⟨rfl,h⟩);exact ⟨fun _=>aa,fun _=>rfl⟩
     ·have:=(ho.1 rfl).2;exact ⟨fun h=>Bool.noConfusion h,fun h=>aa⟩
    refine ⟨kb,!od,0,kl,kbb,.inl rfl,vR,?_⟩;refine s8 Tryz.func89 Tryz.ntmps89 (rs:=[.cell 4 23,.tmp 5,.tmp 6]) (VC _ _) ?_;simp [go_sem,d0,hi,d5 hi];refine a9 f1 (A8 _) ?_;simp [go_sem,d0,hi,d5 hi,pl,pt,pd,pl0];refine a9 f2 (VC _ _) ?_;simp [go_sem,htl,a8 htl,hz];refine B3 [1,2] [0,3,4,5,6] [1,2] (.alt (ah 0 (.alt (ah 3 (.alt (ag [4,5,6]) (ah 5 (ag [4,6])))) (ah 5 (ah 3 (ag [4,6]))))) (ah 5 (ah 0 (ah 3 (ag [4,6]))))) ⟨[(4,.ptr 32 0 0 1),(10,.ptr 960 0 0 1)],[(960,⟨162,9,[cP qx qy false]⟩),(32,⟨23,32,[cb z32]⟩)],5000⟩ (k:=7) ?h3 ?hq
    case h3 =>
     intro G hG
     have hW:∀ (fr:Fr) (hp:Hp),(fv 4 fr=.ptr 32 0 0 1∧fv 10 fr=.ptr 960 0 0 1∧lk 960 hp=some ⟨162,9,[cP qx qy false]⟩∧lk 32 hp=some ⟨23,32,[cb z32]⟩)→G fr hp:=by
      rintro fr hp ⟨q0,q1,q2,q3⟩;exact hG _ _ Q6
     simp [go_sem,htl,a8 htl,pl,pt,ql,qt,pd,pl0,hz,y9]
     repeat' first | exact hW _ _ ⟨rfl,rfl,rfl,rfl⟩ | (refine hW _ _ ?_;simp [fv,lk];done) | refine a9 (M2 1) ae ?_ | refine a9 ahq ab ?_ | refine a9 f4 (af3 _ _ _ _ _ _ _ _) ?_ | apply And.intro | simp [go_sem,htl,a8 htl,pl,pt,ql,qt,pd,pl0,hz,y9]
    case hq =>
     simp [go_sem,qb,qg,ql];refine B3 [0,2] [1,3,4,5,6,7] [0,2] (ah 1 (ai 3 (.alt (ag [4,5,6,7]) (ag [5,4,6,7])))) ⟨[(4,.ptr 32 0 0 1),(5,.d (.bool (!od))),(6,.d (.int .i64 0))],[(32,⟨23,32,[cb kb]⟩)],9000⟩ (k:=8) ?h3 ?hq
     case h3 =>
      intro G hG
      have hW:∀ (fr:Fr) (hp:Hp),(fv 4 fr=.ptr 32 0 0 1∧fv 5 fr=.d (.bool (!od))∧fv 6 fr=.d (.int .i64 0)∧lk 32 hp=some ⟨23,32,[cb kb]⟩)→G fr hp:=by
       rintro fr hp ⟨q0,q1,q2,q3⟩;exact hG _ _ Q6
      simp [go_sem,ql,qt,kl,d0,d5 kl,zd,y9]
      repeat' first | exact hW _ _ ⟨rfl,rfl,rfl,rfl⟩ | (refine hW _ _ ?_;simp [fv,lk];done) | refine a9 f5 (A4 _ _ _) ?_ | refine a9 f6 (A4 _ _ _) ?_ | apply And.intro | simp [go_sem,ql,qt,kl,d0,d5 kl,zd,y9]
     case hq =>
      simp [go_sem,d0,kl,d5 kl,d6];exact N0 rfl
   ·refine ⟨z32,false,1,rfl,zb,.inr rfl,.inl ⟨.inr hQ.symm,rfl,rfl,rfl⟩,?_⟩;refine s8 Tryz.func89 Tryz.ntmps89 (rs:=[.cell 4 23,.tmp 5,.tmp 6]) (VC _ _) ?_;simp [go_sem,d0,hi,d5 hi];refine a9 f1 (A8 _) ?_;simp [go_sem,d0,hi,d5 hi,pl,pt,pd,pl0];refine a9 f2 (VC _ _) ?_;simp [go_sem,htl,a8 htl,hz];refine B3 [1,2] [0,3,4,5,6] [1,2] (.alt (ah 0 (.alt (ah 3 (.alt (ag [4,5,6]) (ah 5 (ag [4,6])))) (ah 5 (ah 3 (ag [4,6]))))) (ah 5 (ah 0 (ah 3 (ag [4,6]))))) ⟨[(4,.ptr 32 0 0 1),(10,.ptr 960 0 0 1)],[(960,⟨162,9,[cP qx qy true]⟩),(32,⟨23,32,[cb z32]⟩)],5000⟩ (k:=7) ?h3 ?hq
    case h3 =>
     intro G hG
     have hW:∀ (fr:Fr) (hp:Hp),(fv 4 fr=.ptr 32 0 0 1∧fv 10 fr=.ptr 960 0 0 1∧lk 960 hp=some ⟨162,9,[cP qx qy true]⟩∧lk 32 hp=some ⟨23,32,[cb z32]⟩)→G fr hp:=by
      rintro fr hp ⟨q0,q1,q2,q3⟩;exact hG _ _ Q6
     simp [go_sem,htl,a8 htl,pl,pt,ql,qt,pd,pl0,hz,y9]
     repeat' first | exact hW _ _ ⟨rfl,rfl,rfl,rfl⟩ | (refine hW _ _ ?_;simp [fv,lk];done) | refine a9 (M2 1) ae ?_ | refine a9 ahq ab ?_ | refine a9 f4 (af3 _ _ _ _ _ _ _ _) ?_ | apply And.intro | simp [go_sem,htl,a8 htl,pl,pt,ql,qt,pd,pl0,hz,y9]
    case hq =>
     simp [go_sem,qb,qg,ql,zd,zt,d0,d6];exact N0 rfl
open Go.Am Go.Sha
def r9 (inner:List Nat) (ps:List (List Nat)) (x:List Nat):AV:=.agg (n7 inner (.d (r6 ps)) (.d (nb x)))
theorem x5 (inner:List Nat) (ps:List (List Nat)) (x:List Nat):∀ v,v ∈ [r9 inner ps x]→v.deep:=by
 intro v hv;simp at hv;subst hv;simp [AV.deep,n7,r9];intro c hc;rcases hc with hc | rfl | rfl
 ·exact s6 _ _ hc
 ·trivial
 ·trivial
theorem ahz (k:List Nat) (o:Bool) (e:Int):(AV.tup [.agg (cb k),.d (.bool o),.d (.int .i64 e)]).flat:=by
 intro c hc;simp at hc;rcases hc with rfl | rfl | rfl
 ·refine .inr ⟨_,rfl,fun x hx=>?_⟩;rw [cb,List.mem_map] at hx;obtain ⟨y,_,rfl⟩:=hx
  trivial
 ·exact .inl trivial
 ·exact .inl trivial
theorem Uk {l:List Nat} (h:l.length=32) (r:List AV):List.take 32 (cb l ++ r)=cb l:=by
 rw [List.take_append_of_le_length (by rw [d0,h];exact Nat.le_refl _),d5 h]
theorem O9 {inner:List Nat} (hi:inner.length=32) (a b:AV):List.take 34 (cb inner ++ [a,b])=cb inner ++ [a,b]:=List.take_of_length_le (by simp [d0,hi])
theorem aai (ps:List (List Nat)):∀ h:List Nat,h.length=32→(L0 ps h).length=32:=by
 induction ps with
 | nil=>exact fun h hh=>hh
 | cons p r ih=>exact fun h hh=>ih _ (L2 h p)
def Ul (inner:List Nat) (ps:List (List Nat)) (x k:List Nat) (o:Bool) (e:Int):Prop :=
 (¬ (ps.length≤8∧x.length≤1000)∧e=1∧k=z32∧o=false) ∨ ((ps.length≤8∧x.length≤1000)∧aah (I1 inner) (I1 (H9 H6 (inner ++ L0 ps (E6 x)))) k o e)
theorem Yp (inner:List Nat) (ps:List (List Nat)) (x:List Nat) (hi:inner.length=32) (hib:bytes inner) (hp32:∀ p,p ∈ ps→p.length=32) (hps:ps.length≤1000) (hx:x.length≤100000):∃ (k:List Nat) (o:Bool) (e:Int),k.length=32∧bytes k∧E1 e∧d9 Tryz.prog 54 [r9 inner ps x] (fun r=>r=.tup [.agg (cb k),.d (.bool o),.d (.int .i64 e)])∧(e=0→ps.length≤8∧x.length≤1000)∧Ul inner ps x k o e:=by
 have hR:=aai ps (E6 x) (S7 x);have f1:=anM inner ps x hi hp32 hps hx;unfold Ul;generalize L0 ps (E6 x)=R at *;obtain ⟨k,o,e,hk,hkb,he,hT,f2⟩:=aor inner R hi hib aa;have zb:bytes z32:=fun x hx=>by simp [z32] at hx;omega
 have zd:List.drop 32 (cb z32)=[]:=F5 rfl;have zt:List.take 32 (cb z32)=cb z32:=d5 rfl;by_cases h1:8<ps.length
 ·refine ⟨z32,false,1,rfl,zb,.inr rfl,?_,fun h=>aa,.inl ⟨aa,rfl,rfl,rfl⟩⟩;refine s8 Tryz.func54 Tryz.ntmps54 (rs:=[.cell 2 23,.tmp 3,.tmp 4]) (x5 _ _ _) ?_;have i1:(8:Int)<(ps.length:Int):=aa;simp [go_sem,r9,n7,H5 hi,D4 hi,r6,nb,i1,zd,zt,d0,d6];exact N0 rfl
 by_cases h2:1000<x.length
 ·refine ⟨z32,false,1,rfl,zb,.inr rfl,?_,fun h=>aa,.inl ⟨aa,rfl,rfl,rfl⟩⟩;refine s8 Tryz.func54 Tryz.ntmps54 (rs:=[.cell 2 23,.tmp 3,.tmp 4]) (x5 _ _ _) ?_;have i1:¬ (8:Int)<(ps.length:Int):=aa;have i2:(1000:Int)<(x.length:Int):=aa;simp [go_sem,r9,n7,H5 hi,D4 hi,r6,nb,i1,i2,zd,zt,d0,d6];exact N0 rfl
 refine ⟨k,o,e,hk,hkb,he,?_,fun _=>aa,.inr ⟨aa,hT⟩⟩;refine s8 Tryz.func54 Tryz.ntmps54 (rs:=[.cell 2 23,.tmp 3,.tmp 4]) (x5 _ _ _) ?_;have i1:¬ (8:Int)<(ps.length:Int):=aa;have i2:¬ (1000:Int)<(x.length:Int):=aa;simp [go_sem,r9,n7,H5 hi,D4 hi,r6,nb,i1,i2,hi,O9 hi];refine a9 (by simpa only [n7,r6,nb] using f1) (by simpa only [r9,n7,r6,nb] using x5 inner ps x) ?_;simp [go_sem,d0,hR,d5 hR,zd];refine B3 [0,1,2] [3,7,8,9] [0,1,2,4,5,6] (.step 3 [4,5,6] true (ag [7,8,9])) ⟨[(2,.ptr 32 0 0 1),(3,.d (.bool o)),(4,.d (.int .i64 e))],[(32,⟨23,32,[cb k]⟩)],9000⟩ (k:=10) ?h3 ?hq
 case h3 =>
  intro G hG
  have hW:∀ (fr:Fr) (hp:Hp),(fv 2 fr=.ptr 32 0 0 1∧fv 3 fr=.d (.bool o)∧fv 4 fr=.d (.int .i64 e)∧lk 32 hp=some ⟨23,32,[cb k]⟩)→G fr hp:=by
   rintro fr hp ⟨q0,q1,q2,q3⟩;exact hG _ _ Q6
  simp [go_sem,n7,H5 hi,D4 hi,d0,hi,hR,hk,d5 hi,d5 hR,d5 hk,zd,Uk hi,y9]
  repeat' first | exact hW _ _ ⟨rfl,rfl,rfl,rfl⟩ | (refine hW _ _ ?_;simp [fv,lk];done) | refine Xj f2 rfl (m7 (.deep (RX _)) (m7 (.one (m8 (Tm rfl trivial hR))) t4)) (ahz _ _ _) ?_ | apply And.intro | simp [go_sem,n7,H5 hi,D4 hi,d0,hi,hR,hk,d5 hi,d5 hR,d5 hk,zd,Uk hi,y9]
 case hq =>
  simp [go_sem,d0,hk,d5 hk,d6];exact N0 rfl
theorem TT {b:List Nat} (hb:b.length=32):(List.range 32).map (fun k=>((cb b).drop k).take 1)=rb b:=by
 rw [RU hb,F2]
theorem abH {b:List Nat} (hb:b.length=32) (r:List AV):(List.range 32).map (fun k=>((cb b ++ r).drop k).take 1)=rb b:=by
 rw [← TT hb];refine List.map_congr_left fun k hk=>?_;have hk':k<32:=List.mem_range.1 hk;have hl:=d0 b;rw [List.drop_append_of_le_length aa,List.take_append_of_le_length (by rw [List.length_drop];omega)]
theorem Ta {Q:AV→Prop} {st:St} {id n:Nat} {e:Int} {L:List Nat} (hl:L.length=n) (hb:lk id st.hp=some ⟨5,1,rb L⟩) (hq:Q (.tup [.d (nb L),.d (.int .i64 e)])):K9 Q (.tup [.own id 0 n n,.d (.int .i64 e)]) st :=
 Tk (o9 (m8 (s9 hl hb trivial)) (o9 (C7 trivial) E8)) rfl ae hq
theorem We {Q:AV→Prop} {st:St} {e:Int} (hq:Q (.tup [.d (nb []),.d (.int .i64 e)])):K9 Q (.tup [.nil,.d (.int .i64 e)]) st :=
 Tk (o9 (m8 (.nil 1)) (o9 (C7 trivial) E8)) rfl ae hq
theorem aiL {inner x k:List Nat} {ps:List (List Nat)} {o:Bool} (hi:inner.length=32) (hk:k.length=32) (f:d9 Tryz.prog 54 [r9 inner ps x] (fun r=>r=.tup [.agg (cb k),.d (.bool o),.d (.int .i64 1)])) :
  d9 Tryz.prog 18 [r9 inner ps x] (fun r=>r=.tup [.d (nb []),.d (.int .i64 1)]):=by
 refine s8 Tryz.func18 Tryz.ntmps18 (rs:=[.tmp 2,.tmp 3]) (x5 _ _ _) ?_;have zd:List.drop 32 (cb z32)=[]:=F5 rfl;simp [go_sem,r9,n7,H5 hi,D4 hi,r6,nb,hi,O9 hi];refine a9 f (x5 _ _ _) ?_;simp [go_sem,d0,hk,d5 hk,zd,d6];exact We rfl
theorem abI {inner x k:List Nat} {ps:List (List Nat)} {o:Bool} (hi:inner.length=32) (hk:k.length=32) (f:d9 Tryz.prog 54 [r9 inner ps x] (fun r=>r=.tup [.agg (cb k),.d (.bool o),.d (.int .i64 0)])) :
  d9 Tryz.prog 18 [r9 inner ps x] (fun r=>r=.tup [.d (nb (81 :: 32 :: k)),.d (.int .i64 0)]):=by
 refine s8 Tryz.func18 Tryz.ntmps18 (rs:=[.tmp 2,.tmp 3]) (x5 _ _ _) ?_;have zd:List.drop 32 (cb z32)=[]:=F5 rfl;simp [go_sem,r9,n7,H5 hi,D4 hi,r6,nb,hi,O9 hi];refine a9 f (x5 _ _ _) ?_;have hx1:=TT hk;simp [go_sem] at hx1;simp [go_sem,d0,hk,d5 hk,zd,hx1,n9,d6];have e:rb (81 :: 32 :: k)=[AV.d (.int .u8 81)] :: [AV.d (.int .u8 32)] :: rb k:=by simp [rb]
 have h34:(81 :: 32 :: k).length=34:=by simp [hk]
 exact Ta (L:=81 :: 32 :: k) h34 (by rw [e];rfl) (by simp [nb])
theorem af5 {inner x k:List Nat} {ps:List (List Nat)} {o:Bool} (hi:inner.length=32) (hk:k.length=32) (f:d9 Tryz.prog 54 [r9 inner ps x] (fun r=>r=.tup [.agg (cb k),.d (.bool o),.d (.int .i64 1)])) :
  d9 Tryz.prog 20 [r9 inner ps x] (fun r=>r=.tup [.d (nb []),.d (.int .i64 1)]):=by
 refine s8 Tryz.func20 Tryz.ntmps20 (rs:=[.tmp 2,.tmp 3]) (x5 _ _ _) ?_;have zd:List.drop 32 (cb z32)=[]:=F5 rfl;simp [go_sem,r9,n7,H5 hi,D4 hi,r6,nb,hi,O9 hi];refine a9 f (x5 _ _ _) ?_;simp [go_sem,d0,hk,d5 hk,zd,d6];exact We rfl
def RI (o:Bool) (inner:List Nat) (ps:List (List Nat)):List Nat:=(if o then 193 else 192) :: (inner ++ ps.flatten)
theorem af6 {inner x k:List Nat} {ps:List (List Nat)} {o:Bool} (hi:inner.length=32) (hp32:∀ p,p ∈ ps→p.length=32) (hps:ps.length≤1000) (hk:k.length=32) (f:d9 Tryz.prog 54 [r9 inner ps x] (fun r=>r=.tup [.agg (cb k),.d (.bool o),.d (.int .i64 0)])) :
  d9 Tryz.prog 20 [r9 inner ps x] (fun r=>r=.tup [.d (nb (RI o inner ps)),.d (.int .i64 0)]):=by
 refine s8 Tryz.func20 Tryz.ntmps20 (rs:=[.tmp 2,.tmp 3]) (x5 _ _ _) ?_;have zd:List.drop 32 (cb z32)=[]:=F5 rfl;have hw:IntKind.u8.wrap 193=193:=by decide
 simp [go_sem,r9,n7,H5 hi,D4 hi,r6,nb,hi,O9 hi];refine a9 f (x5 _ _ _) ?_;have hx1:=abH hi [AV.d (DV.ro 32 (List.map cd ps)),AV.d (DV.ro 1 (List.map (fun (b:Nat)=>[DV.int .u8 (b:Int)]) x))];simp [go_sem] at hx1
 cases o
 ·simp [go_sem,hx1,n9,d0,hk,hi,d5 hk,zd,r6,D4 hi,Uk hi];have w33:(RI false inner (ps.take 0)).length=33:=by simp [RI,hi]
  have r0:rb (RI false inner (ps.take 0))=[AV.d (.int .u8 192)] :: rb inner:=by simp [RI,rb]
  refine j6 (fun k:Nat=>⟨[(7,.own 480 0 (RI false inner (ps.take k)).length (RI false inner (ps.take k)).length),(31,.d (r6 ps)),(32,.d (.int .i64 (ps.length:Int))),(33,.d (.int .i64 (k:Int)))],[(480,⟨5,1,rb (RI false inner (ps.take k))⟩)],9000⟩)
   (fun k=>k≤ps.length) (fun k=>ps.length - k) 0 aa (by
    rw [w33,r0];simp [m6,c6,fv,lk,AV.low,AV.low1,r6]
    exact r5 _ _) ?_
  intro k hk;have w:=m9 (k:=k) aa;simp only [go_sem,Nat.reduceEqDiff,Nat.reduceAdd,Nat.reduceLT,↓reduceIte];refine ⟨fun hlt=>?_,fun hge=>?_⟩
  ·have hlt':k<ps.length:=aa;have hp:=List.getElem?_eq_getElem hlt';have htk:ps.take (k+1)=ps.take k ++ [ps[k]]:=List.take_succ_eq_append_getElem hlt';generalize ps[k]=q at hp htk;have hpl:q.length=32:=hp32 q (List.mem_of_getElem? hp);have hx2:=TT hpl;simp [go_sem] at hx2;have hc:RI false inner (ps.take (k+1))=RI false inner (ps.take k) ++ q:=by rw [htk];simp [RI]
   have hcl:(RI false inner (ps.take k)).length≤33+32*k:=by
    clear hc htk w
    have:(ps.take k).flatten.length≤32*k:=by
     have h1:∀ l:List (List Nat),(∀ p,p ∈ l→p.length=32)→l.flatten.length=32*l.length:=by
      intro l
      induction l with
      | nil=>intro _;rfl
      | cons a r ih=>intro h;rw [List.flatten_cons,List.length_append,ih (fun p hp=>h p (by simp [hp])),h a ab,List.length_cons];omega
     rw [h1 _ (fun p hp=>hp32 p (List.mem_of_mem_take hp)),List.length_take];omega
    unfold RI;rw [List.length_cons,List.length_append,hi];omega
   generalize RI false inner (ps.take k)=L at *;simp [go_sem,r6,hp,C8,hpl,K4,d5 hpl,d0,B4,hx2,n9]
   first | refine ⟨aa,?_⟩ | skip
   refine c8 (k+1) aa aa ?_;rw [hc];have ra:rb (L ++ q)=rb L ++ rb q:=by simp [rb]
   simp [m6,c6,fv,lk,AV.low,AV.low1,r6,w,hpl,ra];intro r hr;exact hr.elim (r5 _ _ r) (r5 _ _ r)
  ·have hkn:k=ps.length:=aa;subst hkn;simp only [List.take_length];simp [go_sem,d6];exact Ta (L:=RI false inner ps) rfl rfl (by simp [nb])
 ·simp [go_sem,hx1,n9,d0,hk,hi,d5 hk,zd,r6,D4 hi,Uk hi,hw];have w33:(RI true inner (ps.take 0)).length=33:=by simp [RI,hi]
  have r0:rb (RI true inner (ps.take 0))=[AV.d (.int .u8 193)] :: rb inner:=by simp [RI,rb]
  refine j6 (fun k:Nat=>⟨[(7,.own 480 0 (RI true inner (ps.take k)).length (RI true inner (ps.take k)).length),(31,.d (r6 ps)),(32,.d (.int .i64 (ps.length:Int))),(33,.d (.int .i64 (k:Int)))],[(480,⟨5,1,rb (RI true inner (ps.take k))⟩)],9000⟩)
   (fun k=>k≤ps.length) (fun k=>ps.length - k) 0 aa (by
    rw [w33,r0];simp [m6,c6,fv,lk,AV.low,AV.low1,r6]
    exact r5 _ _) ?_
  intro k hk;have w:=m9 (k:=k) aa;simp only [go_sem,Nat.reduceEqDiff,Nat.reduceAdd,Nat.reduceLT,↓reduceIte];refine ⟨fun hlt=>?_,fun hge=>?_⟩
  ·have hlt':k<ps.length:=aa;have hp:=List.getElem?_eq_getElem hlt';have htk:ps.take (k+1)=ps.take k ++ [ps[k]]:=List.take_succ_eq_append_getElem hlt';generalize ps[k]=q at hp htk;have hpl:q.length=32:=hp32 q (List.mem_of_getElem? hp);have hx2:=TT hpl;simp [go_sem] at hx2;have hc:RI true inner (ps.take (k+1))=RI true inner (ps.take k) ++ q:=by rw [htk];simp [RI]
   have hcl:(RI true inner (ps.take k)).length≤33+32*k:=by
    clear hc htk w
    have:(ps.take k).flatten.length≤32*k:=by
     have h1:∀ l:List (List Nat),(∀ p,p ∈ l→p.length=32)→l.flatten.length=32*l.length:=by
      intro l
      induction l with
      | nil=>intro _;rfl
      | cons a r ih=>intro h;rw [List.flatten_cons,List.length_append,ih (fun p hp=>h p (by simp [hp])),h a ab,List.length_cons];omega
     rw [h1 _ (fun p hp=>hp32 p (List.mem_of_mem_take hp)),List.length_take];omega
    unfold RI;rw [List.length_cons,List.length_append,hi];omega
   generalize RI true inner (ps.take k)=L at *;simp [go_sem,r6,hp,C8,hpl,K4,d5 hpl,d0,B4,hx2,n9]
   first | refine ⟨aa,?_⟩ | skip
   refine c8 (k+1) aa aa ?_;rw [hc];have ra:rb (L ++ q)=rb L ++ rb q:=by simp [rb]
   simp [m6,c6,fv,lk,AV.low,AV.low1,r6,w,hpl,ra];intro r hr;exact hr.elim (r5 _ _ r) (r5 _ _ r)
  ·have hkn:k=ps.length:=aa;subst hkn;simp only [List.take_length];simp [go_sem,d6];exact Ta (L:=RI true inner ps) rfl rfl (by simp [nb])
theorem aos {P:Program} {K:AV→Hp→Prop} {hp:Hp} (t:TypeId) (a b:Bool):F4 P .eql t (.d (.bool a)) (.d (.bool b)) K hp=(P.underlying t=some .bool∧K (.d (.bool (a == b))) hp):=rfl
theorem aot {P:Program} {K:AV→Hp→Prop} {hp:Hp} (t:TypeId) (a b:Bool):F4 P .neq t (.d (.bool a)) (.d (.bool b)) K hp=(P.underlying t=some .bool∧K (.d (.bool (a != b))) hp):=rfl
theorem aly:Tryz.prog.underlying 4=some .bool:=by kernel_rfl
attribute [go_sem] aos aot aly
theorem O5 (inner:List Nat) (a b:DV):(AV.agg (n7 inner (.d a) (.d b))).deep:=by
 intro c hc;unfold n7 at hc;rcases List.mem_append.1 hc with h | h
 ·exact s6 _ _ h
 ·simp at h;rcases h with rfl | rfl <;> trivial
theorem af7 {P:Program} {s t:TypeId} {Kk:AV→Hp→Prop} {hp:Hp} (l:List Nat) (el:TypeId) (hb:bytes l) (h1:B7 P s=.slice el) (h2:B7 P t=.str) (h3:P.underlying el=some (.int .u8)) (hK:Kk (.d (.str (sb l))) hp):cvS P s t (l.map fun (x:Nat)=>[DV.int .u8 (x:Int)]) Kk hp:=by
 refine ⟨sb l,by simp [sb],fun b h=>?_,?_⟩
 ·simp only [sb,List.mem_map] at h;obtain ⟨x,hx,rfl⟩:=h;have:=hb x hx;omega
 ·rw [h1,h2];exact ⟨h3,hK⟩
end Go.Proofs.YtldccnbokbieiaaGreat
