/-
 Part 17 of what the claim rests on.
-/
import Derived.Test.YtldccnbokbieiaaGreatN7
import Derived.Test.YtldccnbokbieiaaGreatN14
import Derived.Test.YtldccnbokbieiaaGreatN15
set_option linter.unusedVariables false
set_option linter.unusedSimpArgs false
set_option maxRecDepth 100000
set_option maxHeartbeats 16000000
namespace Go.Proofs.YtldccnbokbieiaaGreat
open Go.Am Go.Sha Go.Ec
theorem agt:I1 bG=55066263022277343669578718895168534326250603453777594175500187360389116729240:=by kernel_rfl
theorem aoT (c e p:Nat):(c:Int) ^ e % (p:Int)=((c ^ e % p:Nat):Int):=by rw [Int.natCast_emod,Int.natCast_pow]
def bC:Nat:=32748224938747404814623910738487752935528512903530129802856995983256684603122
def bY:Nat:=32670510020758816978083085130507043184471273380659243275938904335757337482424
def bE:Nat:=28948022309329048855892746252171976963317496166410141009864396001977208667916
theorem ae5:R6 (I1 bG)=(bC:Int):=by rw [agt];kernel_rfl
theorem ae6:Tu (I1 bG)=(bY:Int):=by
 have e:Tu (I1 bG)=R6 (I1 bG) ^ bE % (pP:Int):=by rw [P6];rfl
 have h:=WN pP 300 bC bE 1 (TG (by kernel_rfl)) (Nat.mod_eq_of_lt (TG (by kernel_rfl)));have hk:pwm pP 300 bC bE 1=bY:=by kernel_rfl
 rw [e,ae5,aoT];rw [hk,Nat.one_mul] at h;rw [← h]
theorem aiW:VB (I1 bG):=by
 refine ⟨?_,?_⟩
 ·rw [agt];omega
 ·rw [ae6,ae5];kernel_rfl
theorem aiX:liftPt (I1 bG)=PV gX gY false:=by
 have e1:V gX=((I1 bG:Nat):Int):=by rw [agt];kernel_rfl
 have e2:V gY=((bY:Nat):Int):=by kernel_rfl
 have e3:((bY:Nat):Int) % 2=0:=by kernel_rfl
 show some (icF pP ((I1 bG:Nat):Int),icF pP (if Tu (I1 bG) % 2=0 then Tu (I1 bG) else _))=some (icF pP (V gX),icF pP (V gY));rw [e1,e2,ae6,if_pos e3]
theorem ae7:(1:F) ≠ 0:=fun h=>absurd (congrArg Fin.val h) (by
 show ¬ 1 % pP=0 % pP;rw [Nat.zero_mod,Nat.mod_eq_of_lt (by rw [aaa];omega)]
 omega)
theorem ae8 (k:Nat) (hk:k<2 ^ 256) (h:(amg pP (55066263022277343669578718895168534326250603453777594175500187360389116729240,bY,1) 256 k (0,1,0)).2.2 % pP ≠ 0):mp fd k (PV gX gY false) ≠ none:=by
 have hon:=S3 Zg
 have e1:FV gX=Fin.ofNat pP 55066263022277343669578718895168534326250603453777594175500187360389116729240:=by
  refine Vw ?_;rw [E5,← P6]
  kernel_rfl
 have e2:FV gY=Fin.ofNat pP bY:=by
  refine Vw ?_;rw [E5,← P6]
  kernel_rfl
 have hg:rep fd (toF pP (55066263022277343669578718895168534326250603453777594175500187360389116729240,bY,1)) (PV gX gY false):=by
  refine ⟨1,ae7,?_⟩;show _=sc 1 (FV gX,FV gY,CR.ic 1);rw [e1,e2];simp only [sc,toF,Fin.one_mul];rfl
 have h0:rep fd (toF pP (0,1,0)) (mp fd (k / 2 ^ 256) (PV gX gY false)):=by
  rw [Nat.div_eq_of_lt hk];refine ⟨1,ae7,?_⟩;show _=sc 1 (CR.ic 0,CR.ic 1,CR.ic 0);simp only [sc,toF,Fin.one_mul];rfl
 have hr:=aaz fd (by rw [aaa];omega) hon hg k 256 (0,1,0) h0;refine amh fd hr ?_;intro hz;refine h ?_;exact congrArg Fin.val hz
theorem ar3:mp fd 9422285451324570057901192470951034667041824789260974292028693021899629171895 (PV gX gY false) ≠ none:=ae8 _ (TG (by kernel_rfl)) (Nat.ne_of_beq_eq_false (by kernel_rfl))
theorem ar4:mp fd 4449286791923882000517327537479225864197293264887270585588255640113699980117 (PV gX gY false) ≠ none:=ae8 _ (TG (by kernel_rfl)) (Nat.ne_of_beq_eq_false (by kernel_rfl))
theorem YA {t d b r:List Nat} (h1:L7 t=d) (h2:L7 (d ++ (d ++ b))=r):H9 t b=r:=by unfold H9;rw [h1];exact h2
theorem amn:Vg []=dR0:=by
 have e:r7 ([]:List Nat).length ++ []=(0 :: []):=by kernel_rfl
 unfold Vg;rw [e];exact YA arS arU
theorem ae9:o4 (D0 [])=scX:=by
 unfold D0;rw [amn]
 kernel_rfl
theorem aoU:o4 (D8 z32 3)=amk:=by kernel_rfl
def t9:List Nat:=9 :: (z32.drop 1)
theorem ahX:o4 (D2 t9 3)=aaY:=by kernel_rfl
theorem adi {x:List Nat} {n:Nat} {d:List Nat} (h:r7 x.length ++ x=n :: x) (h2:L7 (dLe ++ (dLe ++ (192 :: n :: x)))=d):E6 x=d:=by
 unfold E6;rw [h];exact YA arT h2
theorem apA:E6 scX=dX:=adi (by kernel_rfl) auC
theorem ar5:E6 amk=dY1:=adi (by kernel_rfl) arV
theorem ar6:E6 aaY=dY2:=adi (by kernel_rfl) arW
theorem aoV:t6 dX dY1=dB1:=by
 have e:(if 0<Lib.compareBytes (RV dX) (RV dY1) then dY1 ++ dX else dX ++ dY1)=dY1 ++ dX:=by kernel_rfl
 unfold t6;rw [e];exact YA ami arX
theorem aoW:t6 dX dY2=dB2:=by
 have e:(if 0<Lib.compareBytes (RV dX) (RV dY2) then dY2 ++ dX else dX ++ dY2)=dY2 ++ dX:=by kernel_rfl
 unfold t6;rw [e];exact YA ami arZ
theorem apC (X Y:List Nat):∀ l,l ∈ Tc (A7 [X,Y]) [X,Y]→L0 l.1 (E6 l.2)=t6 (E6 X) (E6 Y):=by
 obtain ⟨h,hh⟩:=amb [X,Y] ab;have h0:=hh (A7 [X,Y] 0,X) (by simp [Tc]);have p0:A7 [X,Y] 0=[E6 Y]:=by simp [A7,J1,F1,H7,x6,B6]
 rw [p0] at h0;intro l hl;rw [hh l hl,← h0];rfl
theorem agu:bG.length=32:=by kernel_rfl
theorem afa:bytes bG:=by
 have h:bG.all (fun x=>Nat.blt x 256)=true:=by kernel_rfl
 intro x hx;exact TG (List.all_eq_true.1 h x hx)
theorem afb (xs:List (List Nat)) (B D:List Nat) (hx:∀ x,x ∈ xs→x.length≤1000) (hB:∀ l,l ∈ Tc (A7 xs) xs→L0 l.1 (E6 l.2)=B) (hD:H9 H6 (bG ++ B)=D)
  (hl:I1 D<115792089237316195423570985008687907852837564279074904382605163141518161494337) (hm:mp fd (1+I1 D) (PV gX gY false) ≠ none) :
  ∃ O:Lf→List Nat,∀ l,l ∈ Tc (A7 xs) xs→d9 Tryz.prog 18 [.agg (n7 bG (.d (r6 l.1)) (.d (nb l.2)))] (fun r=>r=.tup [.d (nb (O l)),.d (.int .i64 0)]):=by
 have key:∀ l,∃ a:List Nat,l ∈ Tc (A7 xs) xs→d9 Tryz.prog 18 [.agg (n7 bG (.d (r6 l.1)) (.d (nb l.2)))] (fun r=>r=.tup [.d (nb a),.d (.int .i64 0)]):=by
  intro l;by_cases h:l ∈ Tc (A7 xs) xs
  ·obtain ⟨h1,h2,h3⟩:=Zr h;obtain ⟨k,o,e,hk,hkb,he,f1,_,t1⟩:=Yp bG l.1 l.2 agu afa (fun p hp=>(h1 p hp).1) aa (by have:=hx _ h3;omega)
   have e0:e=0:=by
    have hon:=S3 Zg;rcases t1 with ⟨n,_⟩ | ⟨_,t1⟩
    ·exact absurd ⟨aa,hx _ h3⟩ n
    ·rw [hB l h,hD] at t1;rcases t1 with ⟨q,_⟩ | ⟨_,e0,_⟩
     ·rcases q with q | q
      ·exact absurd ⟨aiW,hl⟩ q
      ·unfold turnQ at q;rw [aiX,← acJ fd hon] at q;exact absurd q hm
     ·exact e0
   subst e0;exact ⟨81 :: 32 :: k,fun _=>abI agu hk f1⟩
  ·exact ⟨[],fun h'=>absurd h' h⟩
 obtain ⟨F,hF⟩:=Classical.axiomOfChoice key;exact ⟨F,hF⟩
theorem awC:∃ O:Lf→List Nat,∀ l,l ∈ Tc (A7 [o4 (D0 []),o4 (D8 z32 3)]) [o4 (D0 []),o4 (D8 z32 3)]→d9 Tryz.prog 18 [.agg (n7 bG (.d (r6 l.1)) (.d (nb l.2)))] (fun r=>r=.tup [.d (nb (O l)),.d (.int .i64 0)]):=by
 rw [ae9,aoU];have hT:I1 dT1=9422285451324570057901192470951034667041824789260974292028693021899629171894:=by kernel_rfl
 refine afb [scX,amk] dB1 dT1 ?_ ?_ (YA amj arY) (by rw [hT];omega) (by rw [hT];exact ar3)
 ·intro x hx;simp only [List.mem_cons,List.mem_nil_iff,or_false] at hx;rcases hx with rfl | rfl <;> exact TG (by kernel_rfl)
 ·intro l hl;rw [apC _ _ l hl,apA,ar5,aoV]
theorem awD:∃ O:Lf→List Nat,∀ l,l ∈ Tc (A7 [o4 (D0 []),o4 (D2 t9 3)]) [o4 (D0 []),o4 (D2 t9 3)]→d9 Tryz.prog 18 [.agg (n7 bG (.d (r6 l.1)) (.d (nb l.2)))] (fun r=>r=.tup [.d (nb (O l)),.d (.int .i64 0)]):=by
 rw [ae9,ahX];have hT:I1 dT2=4449286791923882000517327537479225864197293264887270585588255640113699980116:=by kernel_rfl
 refine afb [scX,aaY] dB2 dT2 ?_ ?_ (YA amj ar0) (by rw [hT];omega) (by rw [hT];exact ar4)
 ·intro x hx;simp only [List.mem_cons,List.mem_nil_iff,or_false] at hx;rcases hx with rfl | rfl <;> exact TG (by kernel_rfl)
 ·intro l hl;rw [apC _ _ l hl,apA,ar6,aoW]
def zPn:List AV:=cb z32 ++ [.nil,.d (.int .i64 0)] ++ cb z32
theorem auI:P2 Tryz.prog 47=some zPn:=by kernel_rfl
attribute [go_sem] auI
theorem abW:d9 Tryz.prog 61 [] (fun r=>r=.agg (cb bG)):=by
 refine s8 Tryz.func61 Tryz.ntmps61 (rs:=[.cell 0 23]) ab ?_;simp [go_sem];exact b7 (v:=.agg (cb bG)) (s6 bG) rfl
def abX (inner:List Nat) (d:Int):List AV:=cb inner ++ ([.nil,.d (.int .i64 d)] ++ cb z32)
theorem aaI {hp:Hp} {I:Nat→Prop} (inner:List Nat) (d:Int):Snap hp I (.agg (abX inner d)) (.agg (t5 inner [] d z32)) :=
 .agg ⟨by simp [abX,t5],abt _ (s6 _) (o9 (m8 (.nil 1)) (o9 (C7 trivial) (fun i c c' h1 h2=>by
  rw [h1] at h2
  cases h2
  exact C7 (s6 _ _ (List.mem_of_getElem? h1)))))⟩
theorem amo (inner:List Nat) (l:Lf) (hi:inner.length=32):(I3 inner l)[33]?=some (nb l.2):=by
 unfold I3;rw [List.getElem?_append_right (by rw [C8];omega),C8,hi];rfl
theorem aiY (inner:List Nat) (l:Lf) (hi:inner.length=32) (h:33<(I3 inner l).length):(I3 inner l)[33]=nb l.2:=by
 have:=amo inner l hi;rw [List.getElem?_eq_getElem h] at this;exact Option.some.inj this
theorem ahY:zPn.length=66:=rfl
theorem aiZ {inner:List Nat} (hi:inner.length=32) (d:Int):(abX inner d).length=66:=by simp [abX,d0,hi];rfl
theorem amq {inner:List Nat} (hi:inner.length=32) (d:Int):List.take 33 (cb inner ++ List.drop 32 zPn) ++ AV.d (DV.int IntKind.i64 d) :: List.drop 34 (cb inner ++ List.drop 32 zPn)=abX inner d:=by
 have e:List.drop 32 zPn=.nil :: .d (.int .i64 0) :: cb z32:=rfl;have hl:(cb inner).length=32:=by rw [d0,hi]
 rw [e,List.take_append,List.drop_append,List.take_of_length_le aa,List.drop_eq_nil_of_le aa,hl];simp [abX]
theorem afc (inner X Y:List Nat):C6 inner [X,Y] (fun _=>0)=.tup [.d (.ro 34 [I3 inner (A7 [X,Y] 0,X),I3 inner (A7 [X,Y] 1,Y)]),.d (.int .i64 0)]:=by
 unfold C6;rw [if_neg (by simp [XL])];rfl
theorem TD:d9 Tryz.prog 26 [] (fun r=>r=.d (.bool true)):=by
 refine s8 Tryz.func26 Tryz.ntmps26 (rs:=[.tmp 0]) ab ?_;have zb:bytes z32:=fun x hx=>by simp [z32] at hx;omega
 have zl:z32.length=32:=rfl;have t9l:t9.length=32:=rfl;have t9b:bytes t9:=fun x hx=>by simp [t9,z32] at hx;omega
 have hbl:=agu;have hl1:=aiZ hbl 3;obtain ⟨O1,hO1⟩:=awC;obtain ⟨O2,hO2⟩:=awD
 obtain ⟨O3,E3,hOE3⟩:=XP bG [o4 (D0 []),o4 (D8 z32 (-1))] hbl afa (by
  intro x hx;simp at hx;rcases hx with rfl | rfl
  ·exact U4 []
  ·exact TW (-1) zl zb) (by
  intro x hx;simp at hx;rcases hx with rfl | rfl
  ·have:=Uw [];omega
  ·have:=Ux (-1) zl;omega)
 have hV:P1 bG [] 3 z32 (fun _=>0)=C6 bG [o4 (D0 []),o4 (D8 z32 3)] (fun _=>0):=if_pos ⟨aa,aa,ab⟩;rw [afc] at hV;have hle:=U0 bG [] 3 z32 hbl zl zb aa aa O1 (fun _=>0) hO1;rw [hV] at hle;have hpe:=VJ bG [] 3 z32 t9 hbl zl t9l t9b aa aa _ (.inr ⟨ab,_,rfl⟩) hle O2 (fun _=>0) hO2;simp only [okV,↓reduceIte] at hpe;rw [afc,ahX] at hpe;have hlm:=U0 bG [] (-1) z32 hbl zl zb aa aa O3 E3 (fun l h=>(hOE3 l h).2.1);have hm:P1 bG [] (-1) z32 E3=.tup [.nil,.d (.int .i64 1)]:=if_neg aa;rw [hm] at hlm;generalize A7 [o4 (D0 []),aaY] 0=p0 at hpe;generalize A7 [o4 (D0 []),aaY] 1=p1 at hpe;generalize o4 (D0 [])=xr at hpe;clear hle hV hm hO1 hO2 hOE3;have hb3:=amq hbl 3;have hbm:=amq hbl (-1);have h9:AV.d (DV.int IntKind.u8 9) :: (cb z32).tail=cb t9:=rfl;simp [go_sem];refine a9 abW ab ?_;simp [go_sem,hbl,d0,ahY,hb3,h9];refine B2 [] hpe rfl (m7 (aaI bG 3) (m7 (.deep (s6 _)) t4)) ?_;simp [go_sem];refine a9 abW ab ?_;simp [go_sem,hbl,d0,ahY,hbm];refine B2 [] hlm rfl (m7 (aaI bG (-1)) t4) ?_;have hY:aaY.length=37:=by kernel_rfl
 have hD:aaY.drop 33=[83,178,117,179]:=by kernel_rfl
 generalize aaY=Y at *;have e1:=RG hbl (p1,Y);have e2:=aiY bG (p1,Y) hbl;simp [go_sem,e1,e2,nb,hY]
 have hrow:List.drop 33 (List.take 37 (List.map (fun (b:Nat)=>[DV.int IntKind.u8 (b:Int)]) Y))=[83,178,117,179].map fun (b:Nat)=>[DV.int IntKind.u8 (b:Int)]:=by
  rw [List.take_of_length_le (by simp [hY]),← List.map_drop,hD]
 rw [hrow];refine af7 [83,178,117,179] 5 (by intro x hx;simp at hx;omega) (by simp [go_sem]) (by simp [go_sem]) Tryz.underlying5 ?_;simp [go_sem,sb,d6];exact b7 ae rfl
end Go.Proofs.YtldccnbokbieiaaGreat
