/-
 Part 17 of what the claim rests on.
-/
import Derived.Test.YtldccnbokbieiaaGreatM7
import Derived.Test.YtldccnbokbieiaaGreatM14
import Derived.Test.YtldccnbokbieiaaGreatM15
set_option linter.unusedVariables false
set_option linter.unusedSimpArgs false
set_option maxRecDepth 100000
set_option maxHeartbeats 16000000
namespace Go.Proofs.YtldccnbokbieiaaGreat
open Go.Am Go.Sha Go.Ec
theorem zC:db bG=55066263022277343669578718895168534326250603453777594175500187360389116729240:=by kernel_rfl
theorem GX (c e p:Nat):(c:Int) ^ e % (p:Int)=((c ^ e % p:Nat):Int):=by rw [Int.natCast_emod,Int.natCast_pow]
def bC:Nat:=32748224938747404814623910738487752935528512903530129802856995983256684603122
def bY:Nat:=32670510020758816978083085130507043184471273380659243275938904335757337482424
def bE:Nat:=28948022309329048855892746252171976963317496166410141009864396001977208667916
theorem xH:fX (db bG)=(bC:Int):=by rw [zC];kernel_rfl
theorem xI:iJ (db bG)=(bY:Int):=by
 have e:iJ (db bG)=fX (db bG) ^ bE % (pP:Int):=by rw [eO];rfl
 have h:=mR pP 300 bC bE 1 (jy (by kernel_rfl)) (Nat.mod_eq_of_lt (jy (by kernel_rfl)))
 have hk:Jl pP 300 bC bE 1=bY:=by kernel_rfl
 rw [e,xH,GX]
 rw [hk,Nat.one_mul] at h
 rw [← h]
theorem B7:lb (db bG):=by
 refine ⟨?_,?_⟩
 ·rw [zC];omega
 ·rw [xI,xH];kernel_rfl
theorem B8:liftPt (db bG)=PV gX gY false:=by
 have e1:V gX=((db bG:Nat):Int):=by rw [zC];kernel_rfl
 have e2:V gY=((bY:Nat):Int):=by kernel_rfl
 have e3:((bY:Nat):Int) % 2=0:=by kernel_rfl
 show some (CX pP ((db bG:Nat):Int),CX pP (if iJ (db bG) % 2=0 then iJ (db bG) else _))=some (CX pP (V gX),CX pP (V gY))
 rw [e1,e2,xI,if_pos e3]
theorem xJ:(1:F) ≠ 0:=fun h=>absurd (congrArg Fin.val h) (by
 show ¬ 1 % pP=0 % pP
 rw [Nat.zero_mod,Nat.mod_eq_of_lt (by rw [rQ];omega)]
 omega)
theorem xK (k:Nat) (hk:k<2 ^ 256) (h:(DI pP (55066263022277343669578718895168534326250603453777594175500187360389116729240,bY,1) 256 k (0,1,0)).2.2 % pP ≠ 0):mp fd k (PV gX gY false) ≠ none:=by
 have hon:=gZ qf
 have e1:FV gX=Fin.ofNat pP 55066263022277343669578718895168534326250603453777594175500187360389116729240:=by
  refine kW ?_
  rw [cp,← eO]
  kernel_rfl
 have e2:FV gY=Fin.ofNat pP bY:=by
  refine kW ?_
  rw [cp,← eO]
  kernel_rfl
 have hg:AM fd (CU pP (55066263022277343669578718895168534326250603453777594175500187360389116729240,bY,1)) (PV gX gY false):=by
  refine ⟨1,xJ,?_⟩
  show _=sc 1 (FV gX,FV gY,CR.ic 1)
  rw [e1,e2]
  simp only [sc,CU,Fin.one_mul]
  rfl
 have h0:AM fd (CU pP (0,1,0)) (mp fd (k / 2 ^ 256) (PV gX gY false)):=by
  rw [Nat.div_eq_of_lt hk]
  refine ⟨1,xJ,?_⟩
  show _=sc 1 (CR.ic 0,CR.ic 1,CR.ic 0)
  simp only [sc,CU,Fin.one_mul]
  rfl
 have hr:=qX fd (by rw [rQ];omega) hon hg k 256 (0,1,0) h0
 refine DJ fd hr ?_
 intro hz
 refine h ?_
 exact congrArg Fin.val hz
theorem JZ:mp fd 9422285451324570057901192470951034667041824789260974292028693021899629171895 (PV gX gY false) ≠ none:=xK _ (jy (by kernel_rfl)) (Nat.ne_of_beq_eq_false (by kernel_rfl))
theorem J0:mp fd 4449286791923882000517327537479225864197293264887270585588255640113699980117 (PV gX gY false) ≠ none:=xK _ (jy (by kernel_rfl)) (Nat.ne_of_beq_eq_false (by kernel_rfl))
theorem oB {t d b r:List Nat} (h1:dU t=d) (h2:dU (d ++ (d ++ b))=r):c6 t b=r:=by unfold c6;rw [h1];exact h2
theorem DP:kr []=QH:=by
 have e:aI ([]:List Nat).length ++ []=(0 :: []):=by kernel_rfl
 unfold kr
 rw [e]
 exact oB JM JO
theorem xL:az (bO [])=L7:=by
 unfold bO
 rw [DP]
 kernel_rfl
theorem GY:az (cr z32 3)=DM:=by kernel_rfl
def t9:List Nat:=9 :: (z32.drop 1)
theorem AQ:az (bT t9 3)=sr:=by kernel_rfl
theorem uH {x:List Nat} {n:Nat} {d:List Nat} (h:aI x.length ++ x=n :: x) (h2:dU (zy ++ (zy ++ (192 :: n :: x)))=d):ct x=d:=by
 unfold ct
 rw [h]
 exact oB JN h2
theorem I8:ct L7=dX:=uH (by kernel_rfl) Mt
theorem J1:ct DM=GP:=uH (by kernel_rfl) JP
theorem J2:ct sr=GQ:=uH (by kernel_rfl) JQ
theorem GZ:aO dX GP=Mu:=by
 have e:(if 0<Lib.compareBytes (fO dX) (fO GP) then GP ++ dX else dX ++ GP)=GP ++ dX:=by kernel_rfl
 unfold aO
 rw [e]
 exact oB DK JR
theorem G0:aO dX GQ=Mv:=by
 have e:(if 0<Lib.compareBytes (fO dX) (fO GQ) then GQ ++ dX else dX ++ GQ)=GQ ++ dX:=by kernel_rfl
 unfold aO
 rw [e]
 exact oB DK JT
theorem I9 (X Y:List Nat):∀ l,l ∈ gK (bc [X,Y]) [X,Y]→dP l.1 (ct l.2)=aO (ct X) (ct Y):=by
 obtain ⟨h,hh⟩:=DD [X,Y] (by simp)
 have h0:=hh (bc [X,Y] 0,X) (by simp [gK])
 have p0:bc [X,Y] 0=[ct Y]:=by simp [bc,dk,cx,cU,aU,bF]
 rw [p0] at h0
 intro l hl
 rw [hh l hl,← h0]
 rfl
theorem zD:bG.length=32:=by kernel_rfl
theorem xM:bytes bG:=by
 have h:bG.all (fun x=>Nat.blt x 256)=true:=by kernel_rfl
 intro x hx
 exact jy (List.all_eq_true.1 h x hx)
theorem xN (xs:List (List Nat)) (B D:List Nat) (hx:∀ x,x ∈ xs→x.length≤1000) (hB:∀ l,l ∈ gK (bc xs) xs→dP l.1 (ct l.2)=B) (hD:c6 cX (bG ++ B)=D)
  (hl:db D<115792089237316195423570985008687907852837564279074904382605163141518161494337) (hm:mp fd (1+db D) (PV gX gY false) ≠ none) :
  ∃ O:Lf→List Nat,∀ l,l ∈ gK (bc xs) xs→aq Tryz.prog 18 [.agg (aB bG (.d (cF l.1)) (.d (nb l.2)))] (fun r=>r=.tup [.d (nb (O l)),.d (.int .i64 0)]):=by
 have key:∀ l,∃ a:List Nat,l ∈ gK (bc xs) xs→aq Tryz.prog 18 [.agg (aB bG (.d (cF l.1)) (.d (nb l.2)))] (fun r=>r=.tup [.d (nb a),.d (.int .i64 0)]):=by
  intro l
  by_cases h:l ∈ gK (bc xs) xs
  ·obtain ⟨h1,h2,h3⟩:=uA h
   obtain ⟨k,o,e,hk,hkb,he,f1,_,t1⟩:=tL bG l.1 l.2 zD xM (fun p hp=>(h1 p hp).1) (by omega) (by have:=hx _ h3;omega)
   have e0:e=0:=by
    have hon:=gZ qf
    rcases t1 with ⟨n,_⟩ | ⟨_,t1⟩
    ·exact absurd ⟨by omega,hx _ h3⟩ n
    ·rw [hB l h,hD] at t1
     rcases t1 with ⟨q,_⟩ | ⟨_,e0,_⟩
     ·rcases q with q | q
      ·exact absurd ⟨B7,hl⟩ q
      ·unfold turnQ at q
       rw [B8,← vI fd hon] at q
       exact absurd q hm
     ·exact e0
   subst e0
   exact ⟨81 :: 32 :: k,fun _=>tO zD hk f1⟩
  ·exact ⟨[],fun h'=>absurd h' h⟩
 obtain ⟨F,hF⟩:=Classical.axiomOfChoice key
 exact ⟨F,hF⟩
theorem Pc:∃ O:Lf→List Nat,∀ l,l ∈ gK (bc [az (bO []),az (cr z32 3)]) [az (bO []),az (cr z32 3)]→aq Tryz.prog 18 [.agg (aB bG (.d (cF l.1)) (.d (nb l.2)))] (fun r=>r=.tup [.d (nb (O l)),.d (.int .i64 0)]):=by
 rw [xL,GY]
 have hT:db Pa=9422285451324570057901192470951034667041824789260974292028693021899629171894:=by kernel_rfl
 refine xN [L7,DM] Mu Pa ?_ ?_ (oB DL JS) (by rw [hT];omega) (by rw [hT];exact JZ)
 ·intro x hx
  simp only [List.mem_cons,List.mem_nil_iff,or_false] at hx
  rcases hx with rfl | rfl <;> exact jy (by kernel_rfl)
 ·intro l hl
  rw [I9 _ _ l hl,I8,J1,GZ]
theorem Pd:∃ O:Lf→List Nat,∀ l,l ∈ gK (bc [az (bO []),az (bT t9 3)]) [az (bO []),az (bT t9 3)]→aq Tryz.prog 18 [.agg (aB bG (.d (cF l.1)) (.d (nb l.2)))] (fun r=>r=.tup [.d (nb (O l)),.d (.int .i64 0)]):=by
 rw [xL,AQ]
 have hT:db Pb=4449286791923882000517327537479225864197293264887270585588255640113699980116:=by kernel_rfl
 refine xN [L7,sr] Mv Pb ?_ ?_ (oB DL JU) (by rw [hT];omega) (by rw [hT];exact J0)
 ·intro x hx
  simp only [List.mem_cons,List.mem_nil_iff,or_false] at hx
  rcases hx with rfl | rfl <;> exact jy (by kernel_rfl)
 ·intro l hl
  rw [I9 _ _ l hl,I8,J2,G0]
def My:List AV:=cb z32 ++ [.nil,.d (.int .i64 0)] ++ cb z32
theorem Mz:eH Tryz.prog 47=some My:=by kernel_rfl
attribute [go_sem] Mz
theorem sY:aq Tryz.prog 61 [] (fun r=>r=.agg (cb bG)):=by
 refine aS Tryz.func61 Tryz.ntmps61 (rs:=[.cell 0 23]) (by simp) ?_
 simp [go_sem]
 exact ae (v:=.agg (cb bG)) (aL bG) rfl
def sZ (inner:List Nat) (d:Int):List AV:=cb inner ++ ([.nil,.d (.int .i64 d)] ++ cb z32)
theorem rj {hp:Hp} {I:Nat→Prop} (inner:List Nat) (d:Int):Snap hp I (.agg (sZ inner d)) (.agg (bJ inner [] d z32)) :=
 .agg ⟨by simp [sZ,bJ],tq _ (aL _) (aG (aw (.nil 1)) (aG (cf trivial) (fun i c c' h1 h2=>by
  rw [h1] at h2
  cases h2
  exact cf (aL _ _ (List.mem_of_getElem? h1)))))⟩
theorem DQ (inner:List Nat) (l:Lf) (hi:inner.length=32):(cS inner l)[33]?=some (nb l.2):=by
 unfold cS
 rw [List.getElem?_append_right (by rw [dJ];omega),dJ,hi];rfl
theorem B9 (inner:List Nat) (l:Lf) (hi:inner.length=32) (h:33<(cS inner l).length):(cS inner l)[33]=nb l.2:=by
 have:=DQ inner l hi
 rw [List.getElem?_eq_getElem h] at this
 exact Option.some.inj this
theorem AR:My.length=66:=rfl
theorem Ca {inner:List Nat} (hi:inner.length=32) (d:Int):(sZ inner d).length=66:=by simp [sZ,am,hi];rfl
theorem DR {inner:List Nat} (hi:inner.length=32) (d:Int):List.take 33 (cb inner ++ List.drop 32 My) ++ AV.d (DV.int IntKind.i64 d) :: List.drop 34 (cb inner ++ List.drop 32 My)=sZ inner d:=by
 have e:List.drop 32 My=.nil :: .d (.int .i64 0) :: cb z32:=rfl
 have hl:(cb inner).length=32:=by rw [am,hi]
 rw [e,List.take_append,List.drop_append,List.take_of_length_le (by omega),List.drop_eq_nil_of_le (by omega),hl]
 simp [sZ]
theorem xO (inner X Y:List Nat):bN inner [X,Y] (fun _=>0)=.tup [.d (.ro 34 [cS inner (bc [X,Y] 0,X),cS inner (bc [X,Y] 1,Y)]),.d (.int .i64 0)]:=by
 unfold bN
 rw [if_neg (by simp [nl])]
 rfl
theorem mI:aq Tryz.prog 26 [] (fun r=>r=.d (.bool true)):=by
 refine aS Tryz.func26 Tryz.ntmps26 (rs:=[.tmp 0]) (by simp) ?_
 have zb:bytes z32:=fun x hx=>by simp [z32] at hx;omega
 have zl:z32.length=32:=rfl
 have t9l:t9.length=32:=rfl
 have t9b:bytes t9:=fun x hx=>by simp [t9,z32] at hx;omega
 have hbl:=zD
 have hl1:=Ca hbl 3
 obtain ⟨O1,hO1⟩:=Pc
 obtain ⟨O2,hO2⟩:=Pd
 obtain ⟨O3,E3,hOE3⟩:=qW bG [az (bO []),az (cr z32 (-1))] hbl xM (by
  intro x hx;simp at hx
  rcases hx with rfl | rfl
  ·exact mH []
  ·exact kQ (-1) zl zb) (by
  intro x hx;simp at hx
  rcases hx with rfl | rfl
  ·have:=kO [];omega
  ·have:=lI (-1) zl;omega)
 have hV:dF bG [] 3 z32 (fun _=>0)=bN bG [az (bO []),az (cr z32 3)] (fun _=>0):=if_pos ⟨by omega,by omega,by simp⟩
 rw [xO] at hV
 have hle:=mG bG [] 3 z32 hbl zl zb (by omega) (by omega) O1 (fun _=>0) hO1
 rw [hV] at hle
 have hpe:=kP bG [] 3 z32 t9 hbl zl t9l t9b (by omega) (by omega) _ (.inr ⟨by simp,_,rfl⟩) hle O2 (fun _=>0) hO2
 simp only [GV,↓reduceIte] at hpe
 rw [xO,AQ] at hpe
 have hlm:=mG bG [] (-1) z32 hbl zl zb (by omega) (by omega) O3 E3 (fun l h=>(hOE3 l h).2.1)
 have hm:dF bG [] (-1) z32 E3=.tup [.nil,.d (.int .i64 1)]:=if_neg (by omega)
 rw [hm] at hlm
 generalize bc [az (bO []),sr] 0=p0 at hpe
 generalize bc [az (bO []),sr] 1=p1 at hpe
 generalize az (bO [])=xr at hpe
 clear hle hV hm hO1 hO2 hOE3
 have hb3:=DR hbl 3
 have hbm:=DR hbl (-1)
 have h9:AV.d (DV.int IntKind.u8 9) :: (cb z32).tail=cb t9:=rfl
 simp [go_sem]
 refine ab sY (by simp) ?_
 simp [go_sem,hbl,am,AR,hb3,h9]
 refine bU [] hpe rfl (ay (rj bG 3) (ay (.deep (aL _)) aT)) ?_
 simp [go_sem]
 refine ab sY (by simp) ?_
 simp [go_sem,hbl,am,AR,hbm]
 refine bU [] hlm rfl (ay (rj bG (-1)) aT) ?_
 have hY:sr.length=37:=by kernel_rfl
 have hD:sr.drop 33=[83,178,117,179]:=by kernel_rfl
 generalize sr=Y at *
 have e1:=jn hbl (p1,Y)
 have e2:=B9 bG (p1,Y) hbl
 simp [go_sem,e1,e2,nb,hY]
 have hrow:List.drop 33 (List.take 37 (List.map (fun (b:Nat)=>[DV.int IntKind.u8 (b:Int)]) Y))=[83,178,117,179].map fun (b:Nat)=>[DV.int IntKind.u8 (b:Int)]:=by
  rw [List.take_of_length_le (by simp [hY]),← List.map_drop,hD]
 rw [hrow]
 refine Aj [83,178,117,179] 5 (by intro x hx;simp at hx;omega) (by simp [go_sem]) (by simp [go_sem]) Tryz.underlying5 ?_
 simp [go_sem,sb,ak]
 exact ae (by simp [AV.deep,AV.deep1]) rfl
theorem mJ:aq Tryz.prog 31 [.nil,.nil] (fun r=>r=.d (.bool true)):=by
 refine aS Tryz.func31 Tryz.ntmps31 (rs:=[.tmp 4]) (by simp [AV.deep,AV.deep1]) ?_
 simp [go_sem]
 refine au (fun k:Nat=>⟨[(0,.nil),(5,.d (.int .i64 0))],[],3000⟩) (fun k=>True) (fun k=>0) 0 trivial (by simp [av,ag,fv,lk,AV.low,AV.low1]) ?_
 intro k _
 simp [go_sem,ak]
 exact ae (by simp [AV.deep,AV.deep1]) rfl
theorem Cb (inner:List Nat) (ls:List Lf) (hi:inner.length=32) (hn:ls.length≤1000) (hls:∀ l,l ∈ ls→(∀ p,p ∈ l.1→p.length=32)∧l.1.length≤1000∧bytes l.2) :
  aq Tryz.prog 31 [.d (.ro 34 (ls.map (cS inner))),.d (.ro 34 (ls.map (cS inner)))] (fun r=>r=.d (.bool true)):=by
 refine aS Tryz.func31 Tryz.ntmps31 (rs:=[.tmp 4]) (by simp [AV.deep,AV.deep1]) ?_
 simp [go_sem]
 refine au (fun k:Nat=>⟨[(0,.d (.ro 34 (ls.map (cS inner)))),(1,.d (.ro 34 (ls.map (cS inner)))),(5,.d (.int .i64 (k:Int)))],[],3000⟩)
  (fun k=>k≤ls.length) (fun k=>ls.length - k) 0 (by omega) (by simp [av,ag,fv,lk,AV.low,AV.low1]) ?_
 intro k hk
 simp [go_sem]
 refine ⟨fun h=>?_,fun h=>?_⟩
 ·have hkn:k<ls.length:=by omega
  obtain ⟨l,hl⟩:∃ l,ls[k]?=some l:=⟨_,List.getElem?_eq_getElem (by omega)⟩
  have ml:=List.mem_of_getElem? hl
  obtain ⟨h1,h2,h3⟩:=hls l ml
  have w3:=ax (k:=k) (by omega)
  have hrow:=jn hi l
  refine bk [0,1,2,3,4,5,6,7] [(8,[9])] 1 (k:=10) ?_
  intro G hG
  simp [go_sem,hl,hrow,om,jo hi,jQ hi]
  refine ab (II (ps:=l.1) (x:=l.2) hi h1 h2 h3) (by intro v hv;simp at hv;subst hv;exact qR _ _ _) ?_
  simp [go_sem]
  refine hG _ _ ?_
  clear hG G
  simp [go_sem,w3]
  refine ai (k+1) (by omega) (by omega) ?_
  simp [av,ag,fv,lk,AV.low,AV.low1]
 ·exact ae (by simp [AV.deep,AV.deep1]) rfl
theorem s5 (inner:List Nat) (xs:List (List Nat)) (hi:inner.length=32) (hxb:∀ x,x ∈ xs→bytes x) (hn:xs.length≤1000) :
  aq Tryz.prog 31 [.d (.ro 34 ((gK (bc xs) xs).map (cS inner))),.d (.ro 34 ((gK (bc xs) xs).map (cS inner)))] (fun r=>r=.d (.bool true)) :=
 Cb inner _ hi (by rw [nn];exact hn) (fun l hl=>by
  obtain ⟨h1,h2,h3⟩:=uA hl
  exact ⟨fun p hp=>(h1 p hp).1,by omega,hxb _ h3⟩)
theorem zE (inner rec:List Nat) (d:Int) (trig t:List Nat) (hi:inner.length=32) (hib:bytes inner) (hrb:bytes rec) (ht:trig.length=32) (hb:bytes trig) (htl:t.length=32) (htb:bytes t) (h1:-9223372036854775808≤d) (h2:d<9223372036854775808) :
  aq Tryz.prog 6 [.agg (bJ inner rec d trig),.agg (cb t)] (fun r=>r=.d (.bool true)):=by
 refine aS Tryz.func6 Tryz.ntmps6 (rs:=[.tmp 4]) (eB _ _ _ _ _) ?_
 have hl:=bV hi ht rec d
 have g32:=jt hi rec d trig
 have e32:=jr hi rec d trig
 by_cases hbig:1100<rec.length
 ·have i1:(1100:Int)<(rec.length:Int):=by omega
  simp [go_sem,hl,ap hi ht,am,htl,aj htl,e32,g32,nb,i1,hbig]
  refine ab mI (by simp) ?_
  simp [go_sem,ak]
  exact ae (by simp [AV.deep,AV.deep1]) rfl
 have i1:¬ (1100:Int)<(rec.length:Int):=by omega
 have bX:=mH rec
 have bY1:=kQ d ht hb
 have bY2:=pe d htl htb
 have lX:=kO rec
 have lY1:=lI d ht
 have lY2:=ox d htl
 obtain ⟨O1,E1,hOE1⟩:=qW inner [az (bO rec),az (cr trig d)] hi hib (by
  intro x hx;simp at hx
  rcases hx with rfl | rfl
  ·exact bX
  ·exact bY1) (by
  intro x hx;simp at hx
  rcases hx with rfl | rfl <;> omega)
 obtain ⟨O2,E2,hOE2⟩:=qW inner [az (bO rec),az (bT t d)] hi hib (by
  intro x hx;simp at hx
  rcases hx with rfl | rfl
  ·exact bX
  ·exact bY2) (by
  intro x hx;simp at hx
  rcases hx with rfl | rfl <;> omega)
 have s1:=s5 inner [az (bO rec),az (cr trig d)] hi (by
  intro x hx;simp at hx
  rcases hx with rfl | rfl
  ·exact bX
  ·exact bY1) (by simp)
 have s2:=s5 inner [az (bO rec),az (bT t d)] hi (by
  intro x hx;simp at hx
  rcases hx with rfl | rfl
  ·exact bX
  ·exact bY2) (by simp)
 have pL:=mG inner rec d trig hi ht hb h1 h2 O1 E1 (fun l hl=>(hOE1 l hl).2.1)
 have rL:=zB inner rec d trig hi hib ht hb hrb (by omega) h1 h2 O1 E1 (fun l hl=>(hOE1 l hl).1) (fun l hl=>(hOE1 l hl).2.2)
 have hV:dF inner rec d trig E1=.tup [.nil,.d (.int .i64 1)] ∨ (0≤d∧d≤65535∧rec.length≤1000)∧dF inner rec d trig E1=.tup [.d (.ro 34 ((gK (bc [az (bO rec),az (cr trig d)]) [az (bO rec),az (cr trig d)]).map (cS inner))),.d (.int .i64 0)]:=by
  rcases mn inner rec d trig E1 with h | ⟨a,b,c,h⟩
  ·exact .inl h
  ·exact .inr ⟨⟨a,b,c⟩,h⟩
 generalize dF inner rec d trig E1=V at *
 rcases hV with rfl | ⟨hok,rfl⟩
 ·have pP:=kP inner rec d trig t hi ht htl htb h1 h2 _ (.inl rfl) pL O2 E2 (fun l hl=>(hOE2 l hl).2.1)
  have rP:=ph inner rec d trig t hi hib ht htl htb hrb (by omega) h1 h2 _ (.inl rfl) rL O2 E2 (fun l hl=>(hOE2 l hl).1) (fun l hl=>(hOE2 l hl).2.2)
  have pC:=oy inner rec d trig hi ht _ (.inl rfl) pL
  have rC:=oA inner rec d trig hi ht _ (.inl rfl) rL
  simp only [GV,I7,Bool.false_eq_true,↓reduceIte] at pP rP pC rC
  simp [go_sem,hl,ap hi ht,am,htl,aj htl,e32,g32,nb,i1,hbig]
  refine ab pL (aK _ _ _ _) ?_
  simp [go_sem,hl,ap hi ht]
  refine ab rL (aK _ _ _ _) ?_
  simp [go_sem,hl,ap hi ht,am,htl,aj htl]
  refine ab pP (eB _ _ _ _ _) ?_
  simp [go_sem,hl,ap hi ht,am,htl,aj htl]
  refine ab rP (eB _ _ _ _ _) ?_
  simp [go_sem]
  refine bk [] [(0,[1,2,3]),(4,[5,6,7,8,9,10,11,12,13]),(14,[15,16,17,18,19,20,21,22,24]),(23,[]),(25,[26,27,28])] 5 (k:=29) ?_
  intro G hG
  simp [go_sem]
  refine ab mI (by simp) ?_
  simp [go_sem]
  refine ab mJ (by simp [AV.deep,AV.deep1]) ?_
  simp [go_sem]
  refine ab mJ (by simp [AV.deep,AV.deep1]) ?_
  simp [go_sem,hl,ap hi ht]
  refine ab pC (aK _ _ _ _) ?_
  simp [go_sem,hl,ap hi ht]
  refine ab rC (aK _ _ _ _) ?_
  simp [go_sem]
  refine hG _ _ ?_
  clear hG G
  simp [go_sem,ak]
  exact ae (by simp [AV.deep,AV.deep1]) rfl
 ·have pP:=kP inner rec d trig t hi ht htl htb h1 h2 _ (.inr ⟨hok.2.2,_,rfl⟩) pL O2 E2 (fun l hl=>(hOE2 l hl).2.1)
  have rP:=ph inner rec d trig t hi hib ht htl htb hrb (by omega) h1 h2 _ (.inr ⟨hok,_,rfl⟩) rL O2 E2 (fun l hl=>(hOE2 l hl).1) (fun l hl=>(hOE2 l hl).2.2)
  have pC:=oy inner rec d trig hi ht _ (.inr ⟨_,rfl⟩) pL
  have rC:=oA inner rec d trig hi ht _ (.inr ⟨_,rfl⟩) rL
  simp only [GV,I7,↓reduceIte] at pP rP pC rC
  have hW:bN inner [az (bO rec),az (bT t d)] E2=.tup [.nil,.d (.int .i64 1)] ∨ bN inner [az (bO rec),az (bT t d)] E2=.tup [.d (.ro 34 ((gK (bc [az (bO rec),az (bT t d)]) [az (bO rec),az (bT t d)]).map (cS inner))),.d (.int .i64 0)]:=by
   unfold bN
   split
   ·exact .inl rfl
   ·exact .inr rfl
  generalize bN inner [az (bO rec),az (bT t d)] E2=W at *
  generalize (gK (bc [az (bO rec),az (bT t d)]) [az (bO rec),az (bT t d)]).map (cS inner)=R2 at *
  generalize (gK (bc [az (bO rec),az (cr trig d)]) [az (bO rec),az (cr trig d)]).map (cS inner)=R1 at *
  rcases hW with rfl | rfl
  all_goals
   simp [go_sem,hl,ap hi ht,am,htl,aj htl,e32,g32,nb,i1,hbig]
   refine ab pL (aK _ _ _ _) ?_
   simp [go_sem,hl,ap hi ht]
   refine ab rL (aK _ _ _ _) ?_
   simp [go_sem,hl,ap hi ht,am,htl,aj htl]
   refine ab pP (eB _ _ _ _ _) ?_
   simp [go_sem,hl,ap hi ht,am,htl,aj htl]
   refine ab rP (eB _ _ _ _ _) ?_
   simp [go_sem]
   refine bk [] [(0,[1,2,3]),(4,[5,6,7,8,9,10,11,12,13]),(14,[15,16,17,18,19,20,21,22,24]),(23,[]),(25,[26,27,28])] 5 (k:=29) ?_
   intro G hG
   simp [go_sem]
   refine ab mI (by simp) ?_
   simp [go_sem]
   refine ab s1 (by simp [AV.deep,AV.deep1]) ?_
   simp [go_sem]
   first | refine ab s2 (by simp [AV.deep,AV.deep1]) ?_ | refine ab mJ (by simp [AV.deep,AV.deep1]) ?_
   simp [go_sem,hl,ap hi ht]
   refine ab pC (aK _ _ _ _) ?_
   simp [go_sem,hl,ap hi ht]
   refine ab rC (aK _ _ _ _) ?_
   simp [go_sem]
   refine hG _ _ ?_
   clear hG G
   simp [go_sem,ak]
   exact ae (by simp [AV.deep,AV.deep1]) rfl
theorem G1 {n:Nat} {ds:List DV} (h:mf Tryz.prog (n+1) 2 ds):∃ x:Int,ds=[.int .i64 x]∧-9223372036854775808≤x∧x<9223372036854775808:=by
 rw [mf] at h
 simp only [Tryz.underlying2] at h
 obtain ⟨x,rfl,hx⟩:=h
 have hx':-9223372036854775808≤x∧x<9223372036854775808:=by simp [IntKind.has,IntKind.min,IntKind.max,IntKind.signed,IntKind.bits] at hx;omega
 exact ⟨x,rfl,hx'⟩
theorem DS {n:Nat} {a:AV} (h:rn Tryz.prog (n+4) 47 a):∃ (inner rec:List Nat) (d:Int) (trig:List Nat),a=.agg (bJ inner rec d trig)∧inner.length=32∧bytes inner∧bytes rec∧(-9223372036854775808≤d∧d<9223372036854775808)∧trig.length=32∧bytes trig:=by
 unfold rn at h
 simp only [Tryz.underlying47] at h
 obtain ⟨ds,rfl,h⟩:=h
 rw [mf] at h
 simp only [Tryz.underlying47,List.map_cons,List.map_nil] at h
 obtain ⟨a,b,rfl,ha,ha2,a',b',rfl,hb,hb2,a3,b3,rfl,hc,hc2,a4,b4,rfl,hd,hd2,rfl⟩:=h
 obtain ⟨inner,rfl,h1,h2⟩:=zP ha2
 rw [show Tryz.prog.cellsOf 22=1 by kernel_rfl] at hb
 obtain ⟨d,rfl,h3⟩:=G1 hc2
 obtain ⟨trig,rfl,h5,h6⟩:=zP hd2
 match a',hb,hb2 with
 | [y],_,hb2 =>
  obtain ⟨rec,rfl,_,h4⟩:=EN hb2
  exact ⟨inner,rec,d,trig,by simp [bJ,fP],h1,h2,h4,h3,h5,h6⟩
theorem xP (l:List AV) (h:uN Tryz.prog 6 [47,23] l):aq Tryz.prog 6 l (fun r=>r=.d (.bool true)):=by
 obtain ⟨a0,r0,rfl,h0,a1,r1,rfl,h1,rfl⟩:=h
 obtain ⟨inner,rec,d,trig,rfl,q1,q2,q3,q4,q5,q6⟩:=DS h0
 obtain ⟨t,rfl,q7,q8⟩:=HY h1
 exact zE inner rec d trig t q1 q2 q3 q5 q6 q7 q8 q4.1 q4.2
end Go.Proofs.YtldccnbokbieiaaGreat
