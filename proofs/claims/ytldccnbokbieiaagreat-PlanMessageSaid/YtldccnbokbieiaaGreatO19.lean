/-
 Part 20 of what the claim rests on.
-/
import Derived.Test.YtldccnbokbieiaaGreatO16
import Derived.Test.YtldccnbokbieiaaGreatO18
set_option linter.unusedVariables false
set_option linter.unusedSimpArgs false
set_option maxRecDepth 100000
set_option maxHeartbeats 16000000
namespace Go.Proofs.YtldccnbokbieiaaGreat
open Go.Am Go.Sha Go.Ec
theorem abk (t:Tn) (n:Int) (coins:List (Nat × List Nat)):(eS t n coins).length=6:=rfl
theorem ad7 (t:Tn) (n:Int) (coins:List (Nat × List Nat)):List.take 6 (eS t n coins)=eS t n coins:=rfl
theorem WY (inner rec:List Nat) (d:Int) (trig:List Nat) (t:Tn) (n:Int) (coins:List (Nat × List Nat)):∀ v,v ∈ [AV.agg (A8 inner rec d trig),.agg (eS t n coins)]→v.deep:=by
 intro v hv;simp only [aF,List.mem_nil_iff,or_false] at hv;rcases hv with rfl | rfl
 ·exact Ud _ _ _ _
 ·exact acF t n coins _ ab
theorem Z1 (k:List Nat) (e:Int):(AV.tup [.agg (cb k),.d (.int .i64 e)]).deep:=by
 intro c hc;simp only [aF,List.mem_nil_iff,or_false] at hc;rcases hc with rfl | rfl
 ·exact .inr ⟨_,rfl,r6 _⟩
 ·exact .inl trivial
theorem aiO (k:List Nat) (e:Int):(AV.tup [.agg (cb k),.d (.int .i64 e)]).flat:=by
 intro c hc;simp only [aF,List.mem_nil_iff,or_false] at hc;rcases hc with rfl | rfl
 ·refine .inr ⟨_,rfl,?_⟩;intro x hx;simp only [cb,List.mem_map] at hx;obtain ⟨y,_,rfl⟩:=hx
  trivial
 ·exact .inl trivial
theorem XF (t:Tn) (n:Int) (coins:List (Nat × List Nat)) (h:List Nat):∃ (k:List Nat) (e:Int),k.length=32∧afX t n coins h=.tup [.agg (cb k),.d (.int .i64 e)]:=by
 unfold afX
 split
 ·exact ⟨_,0,s8 _,rfl⟩
 ·exact ⟨z32,1,rfl,rfl⟩
theorem aqe (inner rec:List Nat) (d:Int) (trig:List Nat) (t:Tn) (n:Int) (coins:List (Nat × List Nat)) (hi:inner.length=32) (hrb:bytes rec) (ht:trig.length=32) (hb:bytes trig) (h1:-9223372036854775808≤d) (h2:d<9223372036854775808)
  (hs:Sm t) (hc:okC coins) (n1:-9223372036854775808≤n) (n2:n<9223372036854775808)
  (hC:m6 Tryz.prog 32 [.agg (A8 inner rec d trig)] (fun r=>r=.d (.int .i64 0))) :
  m6 Tryz.prog 48 [.agg (A8 inner rec d trig),.agg (eS t n coins)] (fun r=>r=afX t n coins (E9 (r5 (E0 trig d)))):=by
 refine t6 Tryz.func48 Tryz.ntmps48 (rs:=[.cell 4 23,.tmp 5]) (WY _ _ _ _ _ _ _) ?_;have hl:=D2 hi ht rec d;have htk:=o4 hi ht rec d;have hpd:=z6 inner rec d trig;have hT:=Zu inner rec d trig hi ht hb h1 h2;have hTl:=TP d ht;have hH:=VW (r5 (E0 trig d)) aa;rw [show G9 [84,97,112,76,101,97,102] (192 :: (m8 (r5 (E0 trig d)).length ++ r5 (E0 trig d)))=E9 (r5 (E0 trig d)) from rfl] at hH;have hHl:=RU (r5 (E0 trig d));generalize r5 (E0 trig d)=x at *;generalize E9 x=y at *;have hM:=atz t n coins y hs hc hHl n1 n2;obtain ⟨k,e,hk,hV⟩:=XF t n coins y;rw [hV] at hM ⊢;have sl:=abk t n coins;have st:=ad7 t n coins;have hSd:=acF t n coins;generalize eS t n coins=S at *;simp [go_sem,hl,htk,sl];refine a9 hC hpd ?_;simp [go_sem,hl,htk];refine a9 hT hpd ?_;simp [go_sem];refine a9 hH ae ?_;simp [go_sem,hHl,d0,s9];refine C4 [0,1] [2,4,5,6] [0,1,3] (.step 2 [3] true (ah 4 (ag [5,6]))) ⟨[(4,.ptr 64 0 0 1),(5,.d (.int .i64 e))],[(64,⟨23,32,[cb k]⟩)],5000⟩ (k:=7) ?h3 ?hq
 case h3 =>
  intro G hG
  have hW:∀ (fr:Fr) (hp:Hp),(fv 4 fr=.ptr 64 0 0 1∧fv 5 fr=.d (.int .i64 e)∧lk 64 hp=some ⟨23,32,[cb k]⟩)→G fr hp:=by
   rintro fr hp ⟨q0,q1,q2⟩;refine hG _ _ (E5 ⟨?_,?_,ab⟩)
   ·simp [c6,AV.low,AV.low1,q0,q1]
   ·simp [q2];exact o5 _ _
  simp [go_sem,sl,st];refine U8 hM rfl (c7 (.deep (hSd _ ab)) (c7 (.one (d9 (Si rfl trivial hHl))) (c7 (.deep ae) n7))) (aiO _ _) ?_;simp [go_sem,d0,hk,s9];refine hW _ _ ?_;simp [fv,lk]
 case hq =>
  simp [go_sem,d0,hk,d6 hk,d7];exact b7 (Z1 _ _) rfl
theorem anC (inner rec:List Nat) (d:Int) (trig:List Nat) (t:Tn) (n:Int) (coins:List (Nat × List Nat)) (hi:inner.length=32) (hrb:bytes rec) (ht:trig.length=32) (hb:bytes trig) (h1:-9223372036854775808≤d) (h2:d<9223372036854775808)
  (hs:Sm t) (hbt:aj2 t) (hc:okC coins) (hcb:∀ o,o ∈ coins→bytes o.2) (n1:-9223372036854775808≤n) (n2:n<9223372036854775808)
  (hC:m6 Tryz.prog 33 [.agg (A8 inner rec d trig)] (fun r=>r=.d (.int .i64 0))) :
  m6 Tryz.prog 49 [.agg (A8 inner rec d trig),.agg (eS t n coins)] (fun r=>r=afX t n coins (E9 (r5 (E0 trig d)))):=by
 refine t6 Tryz.func49 Tryz.ntmps49 (rs:=[.cell 4 23,.tmp 5]) (WY _ _ _ _ _ _ _) ?_;have hl:=D2 hi ht rec d;have htk:=o4 hi ht rec d;have hpd:=z6 inner rec d trig;have hT:=Zv inner rec d trig hi ht hb h1 h2;have hTl:=TP d ht;have hH:=Vh (r5 (E0 trig d)) aa (Uq d ht hb);have hHb:=Zq (r5 (E0 trig d));have hHl:=RU (r5 (E0 trig d));generalize r5 (E0 trig d)=x at *;generalize E9 x=y at *;have hM:=aqd t n coins y hs hbt hc hcb hHl hHb n1 n2;obtain ⟨k,e,hk,hV⟩:=XF t n coins y;rw [hV] at hM ⊢;have sl:=abk t n coins;have st:=ad7 t n coins;have hSd:=acF t n coins;generalize eS t n coins=S at *;simp [go_sem,hl,htk,sl];refine a9 hC hpd ?_;simp [go_sem,hl,htk];refine a9 hT hpd ?_;simp [go_sem];refine a9 hH ae ?_;simp [go_sem,hHl,d0,s9];refine C4 [0,1] [2,4,5,6] [0,1,3] (.step 2 [3] true (ah 4 (ag [5,6]))) ⟨[(4,.ptr 64 0 0 1),(5,.d (.int .i64 e))],[(64,⟨23,32,[cb k]⟩)],5000⟩ (k:=7) ?h3 ?hq
 case h3 =>
  intro G hG
  have hW:∀ (fr:Fr) (hp:Hp),(fv 4 fr=.ptr 64 0 0 1∧fv 5 fr=.d (.int .i64 e)∧lk 64 hp=some ⟨23,32,[cb k]⟩)→G fr hp:=by
   rintro fr hp ⟨q0,q1,q2⟩;refine hG _ _ (E5 ⟨?_,?_,ab⟩)
   ·simp [c6,AV.low,AV.low1,q0,q1]
   ·simp [q2];exact o5 _ _
  simp [go_sem,sl,st];refine U8 hM rfl (c7 (.deep (hSd _ ab)) (c7 (.one (d9 (Si rfl trivial hHl))) (c7 (.deep ae) n7))) (aiO _ _) ?_;simp [go_sem,d0,hk,s9];refine hW _ _ ?_;simp [fv,lk]
 case hq =>
  simp [go_sem,d0,hk,d6 hk,d7];exact b7 (Z1 _ _) rfl
theorem aqf (inner rec:List Nat) (d:Int) (trig:List Nat) (t:Tn) (n:Int) (coins:List (Nat × List Nat)) (hi:inner.length=32) (ht:trig.length=32)
  (hC:m6 Tryz.prog 32 [.agg (A8 inner rec d trig)] (fun r=>r=.d (.int .i64 1))) :
  m6 Tryz.prog 48 [.agg (A8 inner rec d trig),.agg (eS t n coins)] (fun r=>r=.tup [.agg (cb z32),.d (.int .i64 1)]):=by
 refine t6 Tryz.func48 Tryz.ntmps48 (rs:=[.cell 4 23,.tmp 5]) (WY _ _ _ _ _ _ _) ?_;have hl:=D2 hi ht rec d;have htk:=o4 hi ht rec d;have sl:=abk t n coins;simp [go_sem,hl,htk,sl];refine a9 hC (z6 _ _ _ _) ?_;simp [go_sem,d0,s9,d6 (show z32.length=32 from rfl),d7];exact b7 (Z1 _ _) rfl
theorem anD (inner rec:List Nat) (d:Int) (trig:List Nat) (t:Tn) (n:Int) (coins:List (Nat × List Nat)) (hi:inner.length=32) (ht:trig.length=32)
  (hC:m6 Tryz.prog 33 [.agg (A8 inner rec d trig)] (fun r=>r=.d (.int .i64 1))) :
  m6 Tryz.prog 49 [.agg (A8 inner rec d trig),.agg (eS t n coins)] (fun r=>r=.tup [.agg (cb z32),.d (.int .i64 1)]):=by
 refine t6 Tryz.func49 Tryz.ntmps49 (rs:=[.cell 4 23,.tmp 5]) (WY _ _ _ _ _ _ _) ?_;have hl:=D2 hi ht rec d;have htk:=o4 hi ht rec d;have sl:=abk t n coins;simp [go_sem,hl,htk,sl];refine a9 hC (z6 _ _ _ _) ?_;simp [go_sem,d0,s9,d6 (show z32.length=32 from rfl),d7];exact b7 (Z1 _ _) rfl
theorem aj4 (inner rec:List Nat) (d:Int) (trig:List Nat) (t:Tn) (n:Int) (coins:List (Nat × List Nat)) (hi:inner.length=32) (hib:bytes inner) (hrb:bytes rec) (hrl:rec.length≤100000) (ht:trig.length=32) (hb:bytes trig) (h1:-9223372036854775808≤d) (h2:d<9223372036854775808)
  (hs:Sm t) (hbt:aj2 t) (hc:okC coins) (hcb:∀ o,o ∈ coins→bytes o.2) (n1:-9223372036854775808≤n) (n2:n<9223372036854775808) :
  ∃ (k:List Nat) (e:Int),k.length=32∧m6 Tryz.prog 48 [.agg (A8 inner rec d trig),.agg (eS t n coins)] (fun r=>r=.tup [.agg (cb k),.d (.int .i64 e)]) ∧
   m6 Tryz.prog 49 [.agg (A8 inner rec d trig),.agg (eS t n coins)] (fun r=>r=.tup [.agg (cb k),.d (.int .i64 e)]):=by
 have bX:=XB rec;have bY:=Uq d ht hb;have lX:=Wh rec;have lY:=TP d ht
 obtain ⟨O1,E1,hOE1⟩:=afD inner [r5 (I3 rec),r5 (E0 trig d)] hi hib (by
  intro x hx;simp at hx;rcases hx with rfl | rfl
  ·exact bX
  ·exact bY) (by
  intro x hx;simp at hx
  rcases hx with rfl | rfl <;> omega)
 have pL:=Xz inner rec d trig hi ht hb h1 h2 O1 E1 (fun l hl=>(hOE1 l hl).2.1);have rL:=aha inner rec d trig hi hib ht hb hrb hrl h1 h2 O1 E1 (fun l hl=>(hOE1 l hl).1) (fun l hl=>(hOE1 l hl).2.2);rcases Xb inner rec d trig E1 with h | ⟨_,_,_,h⟩
 ·rw [h] at pL rL;have pC:=Y8 inner rec d trig hi ht _ (.inl rfl) pL;have rC:=acy inner rec d trig hi ht _ (.inl rfl) rL;exact ⟨z32,1,rfl,aqf inner rec d trig t n coins hi ht pC,anD inner rec d trig t n coins hi ht rC⟩
 ·rw [h] at pL rL;have pC:=Y8 inner rec d trig hi ht _ (.inr ⟨_,rfl⟩) pL;have rC:=acy inner rec d trig hi ht _ (.inr ⟨_,rfl⟩) rL;have q1:=aqe inner rec d trig t n coins hi hrb ht hb h1 h2 hs hc n1 n2 pC;have q2:=anC inner rec d trig t n coins hi hrb ht hb h1 h2 hs hbt hc hcb n1 n2 rC;obtain ⟨k,e,hk,hV⟩:=XF t n coins (E9 (r5 (E0 trig d)));rw [hV] at q1 q2;exact ⟨k,e,hk,q1,q2⟩
theorem atA {t:Tn} {coins:List (Nat × List Nat)} (h:Zc t coins=true) (hc:∀ o,o ∈ coins→o.1<18446744073709551616):okC coins∧Q1 6 6 600 t=true:=by
 simp only [Zc,Bool.and_eq_true,decide_eq_true_eq,F1,aD] at h;exact ⟨⟨h.2.1,fun o ho=>⟨hc o ho,h.2.2 o ho⟩⟩,h.1⟩
theorem anE (inner rec:List Nat) (d:Int) (trig:List Nat) (t:Tn) (n:Int) (coins:List (Nat × List Nat)) (hi:inner.length=32) (hib:bytes inner) (hrb:bytes rec) (ht:trig.length=32) (hb:bytes trig) (h1:-9223372036854775808≤d) (h2:d<9223372036854775808)
  (hok:t.ok) (hbt:aj2 t) (hcv:∀ o,o ∈ coins→o.1<18446744073709551616) (hcb:∀ o,o ∈ coins→bytes o.2) (n1:-9223372036854775808≤n) (n2:n<9223372036854775808) :
  m6 Tryz.prog 10 [.agg (A8 inner rec d trig),.agg (eS t n coins)] (fun r=>r=.d (.bool true)):=by
 refine t6 Tryz.func10 Tryz.ntmps10 (rs:=[.tmp 4]) (WY _ _ _ _ _ _ _) ?_;have hl:=D2 hi ht rec d;have htk:=o4 hi ht rec d;have g32:=UV hi rec d trig;have e32:=UT hi rec d trig;have sl:=abk t n coins;have st:=ad7 t n coins;have hSm:=aj0 t n coins hok;have hSd:=acF t n coins;have hpd:=WY inner rec d trig t n coins;by_cases c1:600<rec.length
 ·have i1:(600:Int)<(rec.length:Int):=aa;simp [go_sem,hl,htk,e32,g32,nb,i1,c1,sl,st];refine a9 XC ab ?_;simp [go_sem,d7];exact b7 ae rfl
 have i1:¬ (600:Int)<(rec.length:Int):=aa
 cases hs:Zc t coins with
 | false =>
  rw [hs] at hSm;generalize eS t n coins=S at *;simp [go_sem,hl,htk,e32,g32,nb,i1,c1,sl,st];refine a9 hSm hSd ?_;simp [go_sem];refine a9 XC ab ?_;simp [go_sem,d7];exact b7 ae rfl
 | true =>
  rw [hs] at hSm;obtain ⟨hc,hw⟩:=atA hs hcv;obtain ⟨k,e,hk,p1,p2⟩:=aj4 inner rec d trig t n coins hi hib hrb aa ht hb h1 h2 (awe hok hw) hbt hc hcb n1 n2;generalize eS t n coins=S at *;generalize A8 inner rec d trig=Q at *;simp [go_sem,hl,htk,e32,g32,nb,i1,c1,sl,st];refine a9 hSm hSd ?_;simp [go_sem,hl,htk,sl,st];refine a9 p1 hpd ?_;simp [go_sem,hl,htk,sl,st,d0,hk,s9];refine a9 p2 hpd ?_;simp [go_sem,d0,hk,s9];refine a9 XC ab ?_;simp [go_sem,d0,hk,d6 hk,aoT,d7];exact b7 ae rfl
theorem aqg {n:Nat} {ds:List DV} (h:S9 Tryz.prog (n+1) 2 ds):∃ x:Int,ds=[.int .i64 x]∧-9223372036854775808≤x∧x<9223372036854775808:=by
 rw [S9] at h;simp only [Tryz.underlying2] at h;obtain ⟨x,rfl,hx⟩:=h;have hx':-9223372036854775808≤x∧x<9223372036854775808:=by simp [IntKind.has,IntKind.min,IntKind.max,IntKind.signed,IntKind.bits] at hx;omega
 exact ⟨x,rfl,hx'⟩
theorem aqh {n:Nat} {ds:List DV} (h:S9 Tryz.prog (n+1) 3 ds):∃ x:Int,ds=[.int .i64 x]∧-9223372036854775808≤x∧x<9223372036854775808:=by
 rw [S9] at h;simp only [Tryz.underlying3] at h;obtain ⟨x,rfl,hx⟩:=h;have hx':-9223372036854775808≤x∧x<9223372036854775808:=by simp [IntKind.has,IntKind.min,IntKind.max,IntKind.signed,IntKind.bits] at hx;omega
 exact ⟨x,rfl,hx'⟩
theorem aj5 {n:Nat} {a:AV} (h:aak Tryz.prog (n+4) 47 a):∃ (inner rec:List Nat) (d:Int) (trig:List Nat),a=.agg (A8 inner rec d trig)∧inner.length=32∧bytes inner∧bytes rec∧(-9223372036854775808≤d∧d<9223372036854775808)∧trig.length=32∧bytes trig:=by
 unfold aak at h;simp only [Tryz.underlying47] at h;obtain ⟨ds,rfl,h⟩:=h;rw [S9] at h;simp only [Tryz.underlying47,List.map_cons,List.map_nil] at h;obtain ⟨a,b,rfl,ha,ha2,a',b',rfl,hb,hb2,a3,b3,rfl,hc,hc2,a4,b4,rfl,hd,hd2,rfl⟩:=h;obtain ⟨inner,rfl,h1,h2⟩:=agt ha2;rw [show Tryz.prog.cellsOf 22=1 by kernel_rfl] at hb;obtain ⟨d,rfl,h3⟩:=aqg hc2;obtain ⟨trig,rfl,h5,h6⟩:=agt hd2
 match a',hb,hb2 with
 | [y],_,hb2 =>
  obtain ⟨rec,rfl,_,h4⟩:=aav hb2;exact ⟨inner,rec,d,trig,by simp [A8,Tj],h1,h2,h4,h3,h5,h6⟩
theorem aqi {n:Nat} {a:AV} (h:aak Tryz.prog (n+7) 59 a):∃ (t:Tn) (m:Int) (coins:List (Nat × List Nat)),a=.agg (eS t m coins)∧t.ok∧aj2 t∧(-9223372036854775808≤m∧m<9223372036854775808)∧∀ o,o ∈ coins→o.1<18446744073709551616∧bytes o.2:=by
 unfold aak at h;simp only [Tryz.underlying59] at h;obtain ⟨ds,rfl,h⟩:=h;rw [S9] at h;simp only [Tryz.underlying59,List.map_cons,List.map_nil] at h;obtain ⟨a,b,rfl,ha,ha2,a',b',rfl,hb,hb2,a3,b3,rfl,hc,hc2,rfl⟩:=h;obtain ⟨t,h1,h2,h3,h4⟩:=awg ha2;obtain ⟨m,rfl,hm⟩:=aqh hb2;obtain ⟨os,rfl,hos⟩:=aiL hc2;refine ⟨t,m,os,?_,h2,⟨h3,h4⟩,hm,hos⟩;rw [List.map_append,h1];rfl
theorem aj6 (l:List AV) (h:ac1 Tryz.prog 8 [47,59] l):m6 Tryz.prog 10 l (fun r=>r=.d (.bool true)):=by
 obtain ⟨a0,r0,rfl,h0,a1,r1,rfl,h1,rfl⟩:=h;obtain ⟨inner,rec,d,trig,rfl,q1,q2,q3,q4,q5,q6⟩:=aj5 h0;obtain ⟨t,m,coins,rfl,p1,p2,p3,p4⟩:=aqi h1;exact anE inner rec d trig t m coins q1 q2 q3 q5 q6 q4.1 q4.2 p1 p2 (fun o ho=>(p4 o ho).1) (fun o ho=>(p4 o ho).2) p3.1 p3.2
end Go.Proofs.YtldccnbokbieiaaGreat
