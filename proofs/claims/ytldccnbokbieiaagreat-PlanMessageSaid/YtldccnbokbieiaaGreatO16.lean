/-
 Part 17 of what the claim rests on.
-/
import Derived.Test.YtldccnbokbieiaaGreatO7
import Derived.Test.YtldccnbokbieiaaGreatO14
import Derived.Test.YtldccnbokbieiaaGreatO15
set_option linter.unusedVariables false
set_option linter.unusedSimpArgs false
set_option maxRecDepth 100000
set_option maxHeartbeats 16000000
namespace Go.Proofs.YtldccnbokbieiaaGreat
open Go.Am Go.Sha Go.Ec
theorem ahb:J2 bG=55066263022277343669578718895168534326250603453777594175500187360389116729240:=by kernel_rfl
theorem ap2 (c e p:Nat):(c:Int) ^ e % (p:Int)=((c ^ e % p:Nat):Int):=by rw [Int.natCast_emod,Int.natCast_pow]
def bC:Nat:=32748224938747404814623910738487752935528512903530129802856995983256684603122
def bY:Nat:=32670510020758816978083085130507043184471273380659243275938904335757337482424
def bE:Nat:=28948022309329048855892746252171976963317496166410141009864396001977208667916
theorem afK:Sw (J2 bG)=(bC:Int):=by rw [ahb];kernel_rfl
theorem afL:TZ (J2 bG)=(bY:Int):=by
 have e:TZ (J2 bG)=Sw (J2 bG) ^ bE % (pP:Int):=by rw [Rp];rfl
 have h:=Xo pP 300 bC bE 1 (Ut (by kernel_rfl)) (Nat.mod_eq_of_lt (Ut (by kernel_rfl)));have hk:pwm pP 300 bC bE 1=bY:=by kernel_rfl
 rw [e,afK,ap2];rw [hk,Nat.one_mul] at h;rw [← h]
theorem ajL:V3 (J2 bG):=by
 refine ⟨?_,?_⟩
 ·rw [ahb];omega
 ·rw [afL,afK];kernel_rfl
theorem ajM:liftPt (J2 bG)=PV gX gY false:=by
 have e1:V gX=((J2 bG:Nat):Int):=by rw [ahb];kernel_rfl
 have e2:V gY=((bY:Nat):Int):=by kernel_rfl
 have e3:((bY:Nat):Int) % 2=0:=by kernel_rfl
 show some (icF pP ((J2 bG:Nat):Int),icF pP (if TZ (J2 bG) % 2=0 then TZ (J2 bG) else _))=some (icF pP (V gX),icF pP (V gY));rw [e1,e2,afL,if_pos e3]
theorem afM:(1:F) ≠ 0:=fun h=>absurd (congrArg Fin.val h) (by
 show ¬ 1 % pP=0 % pP;rw [Nat.zero_mod,Nat.mod_eq_of_lt (by rw [aaI];omega)]
 omega)
theorem afN (k:Nat) (hk:k<2 ^ 256) (h:(ank pP (55066263022277343669578718895168534326250603453777594175500187360389116729240,bY,1) 256 k (0,1,0)).2.2 % pP ≠ 0):mp fd k (PV gX gY false) ≠ none:=by
 have hon:=TA ZO
 have e1:FV gX=Fin.ofNat pP 55066263022277343669578718895168534326250603453777594175500187360389116729240:=by
  refine VY ?_;rw [G3,← Rp]
  kernel_rfl
 have e2:FV gY=Fin.ofNat pP bY:=by
  refine VY ?_;rw [G3,← Rp]
  kernel_rfl
 have hg:rep fd (toF pP (55066263022277343669578718895168534326250603453777594175500187360389116729240,bY,1)) (PV gX gY false):=by
  refine ⟨1,afM,?_⟩;show _=sc 1 (FV gX,FV gY,CR.ic 1);rw [e1,e2];simp only [sc,toF,Fin.one_mul];rfl
 have h0:rep fd (toF pP (0,1,0)) (mp fd (k / 2 ^ 256) (PV gX gY false)):=by
  rw [Nat.div_eq_of_lt hk];refine ⟨1,afM,?_⟩;show _=sc 1 (CR.ic 0,CR.ic 1,CR.ic 0);simp only [sc,toF,Fin.one_mul];rfl
 have hr:=aa6 fd (by rw [aaI];omega) hon hg k 256 (0,1,0) h0;refine anl fd hr ?_;intro hz;refine h ?_;exact congrArg Fin.val hz
theorem atp:mp fd 9422285451324570057901192470951034667041824789260974292028693021899629171895 (PV gX gY false) ≠ none:=afN _ (Ut (by kernel_rfl)) (Nat.ne_of_beq_eq_false (by kernel_rfl))
theorem atq:mp fd 4449286791923882000517327537479225864197293264887270585588255640113699980117 (PV gX gY false) ≠ none:=afN _ (Ut (by kernel_rfl)) (Nat.ne_of_beq_eq_false (by kernel_rfl))
theorem Y9 {t d b r:List Nat} (h1:z7 t=d) (h2:z7 (d ++ (d ++ b))=r):G9 t b=r:=by unfold G9;rw [h1];exact h2
theorem anr:VI []=dR0:=by
 have e:m8 ([]:List Nat).length ++ []=(0 :: []):=by kernel_rfl
 unfold VI;rw [e];exact Y9 atd atf
theorem afO:r5 (I3 [])=scX:=by
 unfold I3;rw [anr]
 kernel_rfl
theorem ap3:r5 (E0 z32 3)=ano:=by kernel_rfl
def t9:List Nat:=9 :: (z32.drop 1)
theorem aiG:r5 (Td t9 3)=abA:=by kernel_rfl
theorem adZ {x:List Nat} {n:Nat} {d:List Nat} (h:m8 x.length ++ x=n :: x) (h2:z7 (dLe ++ (dLe ++ (192 :: n :: x)))=d):E9 x=d:=by
 unfold E9;rw [h];exact Y9 ate h2
theorem aqP:E9 scX=dX:=adZ (by kernel_rfl) av4
theorem atr:E9 ano=dY1:=adZ (by kernel_rfl) atg
theorem att:E9 abA=dY2:=adZ (by kernel_rfl) ath
theorem ap4:w9 dX dY1=dB1:=by
 have e:(if 0<Lib.compareBytes (Sj dX) (Sj dY1) then dY1 ++ dX else dX ++ dY1)=dY1 ++ dX:=by kernel_rfl
 unfold w9;rw [e];exact Y9 anm ati
theorem ap5:w9 dX dY2=dB2:=by
 have e:(if 0<Lib.compareBytes (Sj dX) (Sj dY2) then dY2 ++ dX else dX ++ dY2)=dY2 ++ dX:=by kernel_rfl
 unfold w9;rw [e];exact Y9 anm atk
theorem aqQ (X Y:List Nat):∀ l,l ∈ Uo (D1 [X,Y]) [X,Y]→M5 l.1 (E9 l.2)=w9 (E9 X) (E9 Y):=by
 obtain ⟨h,hh⟩:=anf [X,Y] ab;have h0:=hh (D1 [X,Y] 0,X) (by simp [Uo]);have p0:D1 [X,Y] 0=[E9 Y]:=by simp [D1,K2,G7,I9,x9,D0]
 rw [p0] at h0;intro l hl;rw [hh l hl,← h0];rfl
theorem ahc:bG.length=32:=by kernel_rfl
theorem afP:bytes bG:=by
 have h:bG.all (fun x=>Nat.blt x 256)=true:=by kernel_rfl
 intro x hx;exact Ut (aD.1 h x hx)
theorem afQ (xs:List (List Nat)) (B D:List Nat) (hx:∀ x,x ∈ xs→x.length≤1000) (hB:∀ l,l ∈ Uo (D1 xs) xs→M5 l.1 (E9 l.2)=B) (hD:G9 I8 (bG ++ B)=D)
  (hl:J2 D<115792089237316195423570985008687907852837564279074904382605163141518161494337) (hm:mp fd (1+J2 D) (PV gX gY false) ≠ none) :
  ∃ O:Lf→List Nat,∀ l,l ∈ Uo (D1 xs) xs→m6 Tryz.prog 18 [.agg (s5 bG (.d (J1 l.1)) (.d (nb l.2)))] (fun r=>r=.tup [.d (nb (O l)),.d (.int .i64 0)]):=by
 have key:∀ l,∃ a:List Nat,l ∈ Uo (D1 xs) xs→m6 Tryz.prog 18 [.agg (s5 bG (.d (J1 l.1)) (.d (nb l.2)))] (fun r=>r=.tup [.d (nb a),.d (.int .i64 0)]):=by
  intro l;by_cases h:l ∈ Uo (D1 xs) xs
  ·obtain ⟨h1,h2,h3⟩:=aiB h;obtain ⟨k,o,e,hk,hkb,he,f1,_,t1⟩:=acf bG l.1 l.2 ahc afP (fun p hp=>(h1 p hp).1) aa (by have:=hx _ h3;omega)
   have e0:e=0:=by
    have hon:=TA ZO;rcases t1 with ⟨n,_⟩ | ⟨_,t1⟩
    ·exact absurd ⟨aa,hx _ h3⟩ n
    ·rw [hB l h,hD] at t1;rcases t1 with ⟨q,_⟩ | ⟨_,e0,_⟩
     ·rcases q with q | q
      ·exact absurd ⟨ajL,hl⟩ q
      ·unfold turnQ at q;rw [ajM,← adp fd hon] at q;exact absurd q hm
     ·exact e0
   subst e0;exact ⟨81 :: 32 :: k,fun _=>aci ahc hk f1⟩
  ·exact ⟨[],fun h'=>absurd h' h⟩
 obtain ⟨F,hF⟩:=Classical.axiomOfChoice key;exact ⟨F,hF⟩
theorem aya:∃ O:Lf→List Nat,∀ l,l ∈ Uo (D1 [r5 (I3 []),r5 (E0 z32 3)]) [r5 (I3 []),r5 (E0 z32 3)]→m6 Tryz.prog 18 [.agg (s5 bG (.d (J1 l.1)) (.d (nb l.2)))] (fun r=>r=.tup [.d (nb (O l)),.d (.int .i64 0)]):=by
 rw [afO,ap3];have hT:J2 dT1=9422285451324570057901192470951034667041824789260974292028693021899629171894:=by kernel_rfl
 refine afQ [scX,ano] dB1 dT1 ?_ ?_ (Y9 ann atj) (by rw [hT];omega) (by rw [hT];exact atp)
 ·intro x hx;simp only [aF,List.mem_nil_iff,or_false] at hx;rcases hx with rfl | rfl <;> exact Ut (by kernel_rfl)
 ·intro l hl;rw [aqQ _ _ l hl,aqP,atr,ap4]
theorem ayb:∃ O:Lf→List Nat,∀ l,l ∈ Uo (D1 [r5 (I3 []),r5 (Td t9 3)]) [r5 (I3 []),r5 (Td t9 3)]→m6 Tryz.prog 18 [.agg (s5 bG (.d (J1 l.1)) (.d (nb l.2)))] (fun r=>r=.tup [.d (nb (O l)),.d (.int .i64 0)]):=by
 rw [afO,aiG];have hT:J2 dT2=4449286791923882000517327537479225864197293264887270585588255640113699980116:=by kernel_rfl
 refine afQ [scX,abA] dB2 dT2 ?_ ?_ (Y9 ann atl) (by rw [hT];omega) (by rw [hT];exact atq)
 ·intro x hx;simp only [aF,List.mem_nil_iff,or_false] at hx;rcases hx with rfl | rfl <;> exact Ut (by kernel_rfl)
 ·intro l hl;rw [aqQ _ _ l hl,aqP,att,ap5]
def zPn:List AV:=cb z32 ++ [.nil,.d (.int .i64 0)] ++ cb z32
theorem awa:O6 Tryz.prog 47=some zPn:=by kernel_rfl
attribute [go_sem] awa
theorem acz:m6 Tryz.prog 61 [] (fun r=>r=.agg (cb bG)):=by
 refine t6 Tryz.func61 Tryz.ntmps61 (rs:=[.cell 0 23]) ab ?_;simp [go_sem];exact b7 (v:=.agg (cb bG)) (r6 bG) rfl
def acA (inner:List Nat) (d:Int):List AV:=cb inner ++ ([.nil,.d (.int .i64 d)] ++ cb z32)
theorem abe {hp:Hp} {I:Nat→Prop} (inner:List Nat) (d:Int):Snap hp I (.agg (acA inner d)) (.agg (A8 inner [] d z32)) :=
 .agg ⟨by simp [acA,A8],ab2 _ (r6 _) (s6 (d9 (.nil 1)) (s6 (F6 trivial) (fun i c c' h1 h2=>by
  rw [h1] at h2
  cases h2
  exact F6 (r6 _ _ (ao h1)))))⟩
theorem ant (inner:List Nat) (l:Lf) (hi:inner.length=32):(Q0 inner l)[33]?=some (nb l.2):=by
 unfold Q0;rw [aB (by rw [H3];omega),H3,hi];rfl
theorem ajN (inner:List Nat) (l:Lf) (hi:inner.length=32) (h:33<(Q0 inner l).length):(Q0 inner l)[33]=nb l.2:=by
 have:=ant inner l hi;rw [am h] at this;exact Option.some.inj this
theorem aiH:zPn.length=66:=rfl
theorem ajO {inner:List Nat} (hi:inner.length=32) (d:Int):(acA inner d).length=66:=by simp [acA,d0,hi];rfl
theorem anu {inner:List Nat} (hi:inner.length=32) (d:Int):List.take 33 (cb inner ++ List.drop 32 zPn) ++ AV.d (DV.int IntKind.i64 d) :: List.drop 34 (cb inner ++ List.drop 32 zPn)=acA inner d:=by
 have e:List.drop 32 zPn=.nil :: .d (.int .i64 0) :: cb z32:=rfl;have hl:(cb inner).length=32:=by rw [d0,hi]
 rw [e,List.take_append,List.drop_append,aq aa,az aa,hl];simp [acA]
theorem afR (inner X Y:List Nat):F9 inner [X,Y] (fun _=>0)=.tup [.d (.ro 34 [Q0 inner (D1 [X,Y] 0,X),Q0 inner (D1 [X,Y] 1,Y)]),.d (.int .i64 0)]:=by
 unfold F9;rw [if_neg (by simp [Yn])];rfl
theorem XC:m6 Tryz.prog 26 [] (fun r=>r=.d (.bool true)):=by
 refine t6 Tryz.func26 Tryz.ntmps26 (rs:=[.tmp 0]) ab ?_;have zb:bytes z32:=fun x hx=>by simp [z32] at hx;omega
 have zl:z32.length=32:=rfl;have t9l:t9.length=32:=rfl;have t9b:bytes t9:=fun x hx=>by simp [t9,z32] at hx;omega
 have hbl:=ahc;have hl1:=ajO hbl 3;obtain ⟨O1,hO1⟩:=aya;obtain ⟨O2,hO2⟩:=ayb
 obtain ⟨O3,E3,hOE3⟩:=afD bG [r5 (I3 []),r5 (E0 z32 (-1))] hbl afP (by
  intro x hx;simp at hx;rcases hx with rfl | rfl
  ·exact XB []
  ·exact Uq (-1) zl zb) (by
  intro x hx;simp at hx;rcases hx with rfl | rfl
  ·have:=Wh [];omega
  ·have:=TP (-1) zl;omega)
 have hV:Q5 bG [] 3 z32 (fun _=>0)=F9 bG [r5 (I3 []),r5 (E0 z32 3)] (fun _=>0):=if_pos ⟨aa,aa,ab⟩;rw [afR] at hV;have hle:=Xz bG [] 3 z32 hbl zl zb aa aa O1 (fun _=>0) hO1;rw [hV] at hle;have hpe:=afH bG [] 3 z32 t9 hbl zl t9l t9b aa aa _ (.inr ⟨ab,_,rfl⟩) hle O2 (fun _=>0) hO2;simp only [okV,↓reduceIte] at hpe;rw [afR,aiG] at hpe;have hlm:=Xz bG [] (-1) z32 hbl zl zb aa aa O3 E3 (fun l h=>(hOE3 l h).2.1);have hm:Q5 bG [] (-1) z32 E3=.tup [.nil,.d (.int .i64 1)]:=if_neg aa;rw [hm] at hlm;generalize D1 [r5 (I3 []),abA] 0=p0 at hpe;generalize D1 [r5 (I3 []),abA] 1=p1 at hpe;generalize r5 (I3 [])=xr at hpe;clear hle hV hm hO1 hO2 hOE3;have hb3:=anu hbl 3;have hbm:=anu hbl (-1);have h9:AV.d (DV.int IntKind.u8 9) :: (cb z32).tail=cb t9:=rfl;simp [go_sem];refine a9 acz ab ?_;simp [go_sem,hbl,d0,aiH,hb3,h9];refine u7 [] hpe rfl (c7 (abe bG 3) (c7 (.deep (r6 _)) n7)) ?_;simp [go_sem];refine a9 acz ab ?_;simp [go_sem,hbl,d0,aiH,hbm];refine u7 [] hlm rfl (c7 (abe bG (-1)) n7) ?_;have hY:abA.length=37:=by kernel_rfl
 have hD:abA.drop 33=[83,178,117,179]:=by kernel_rfl
 generalize abA=Y at *;have e1:=WP hbl (p1,Y);have e2:=ajN bG (p1,Y) hbl;simp [go_sem,e1,e2,nb,hY]
 have hrow:List.drop 33 (List.take 37 (List.map (fun (b:Nat)=>[DV.int IntKind.u8 (b:Int)]) Y))=[83,178,117,179].map fun (b:Nat)=>[DV.int IntKind.u8 (b:Int)]:=by
  rw [aq (by simp [hY]),← List.map_drop,hD]
 rw [hrow];refine as0 [83,178,117,179] 5 (by intro x hx;simp at hx;omega) (by simp [go_sem]) (by simp [go_sem]) Tryz.underlying5 ?_;simp [go_sem,sb,d7];exact b7 ae rfl
end Go.Proofs.YtldccnbokbieiaaGreat
