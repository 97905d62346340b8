/-
 Part 12 of what the claim rests on.
-/
import Derived.Test.YtldccnbokbieiaaGreatO2
import Derived.Test.YtldccnbokbieiaaGreatO3
set_option linter.unusedVariables false
set_option linter.unusedSimpArgs false
set_option maxRecDepth 100000
set_option maxHeartbeats 16000000
namespace Go.Sha
abbrev Wd:=Nat × List Nat
def L4 (x:List Nat):Wd:=(if x.length≤75 then x.length else if x.length≤255 then 76 else 77,x)
def D4 (x:List Nat):Wd :=
 match x with
 | [c]=>if 1≤c∧c≤16 then (80+c,[]) else if c=129 then (79,[]) else L4 [c]
 | x=>L4 x
theorem aaV {x:List Nat} (h:x.length ≠ 1):D4 x=L4 x:=by
 match x,h with
 | [],_=>rfl
 | [c],h=>exact absurd rfl h
 | _ :: _ :: _,_=>rfl
theorem aqN {x:Nat} (h:x<256):t8 x=x:=Nat.mod_eq_of_lt h
end Go.Sha
namespace Go.Proofs.YtldccnbokbieiaaGreat
open Go.Am Go.Sha
def SG (w:Wd):List DV:=[.int .u8 (w.1:Int),nb w.2]
def Ti (w:Wd):List AV:=[.d (.int .u8 (w.1:Int)),.d (nb w.2)]
theorem UO (b:List Nat) (hl:b.length≤100000000000):m6 Tryz.prog 52 [.d (nb b)] (fun r=>r=.d (nb b)):=by
 refine t6 Tryz.func52 Tryz.ntmps52 (rs:=[.tmp 2]) ae ?_;simp only [go_sem,nb,Nat.reduceEqDiff,Nat.reduceAdd,Nat.reduceLT,↓reduceIte];intro t hb
 cases t with
 | true =>
  have h0:b=[]:=List.eq_nil_of_length_eq_zero (by simpa using hb rfl);subst h0;simp only [go_sem,Nat.reduceEqDiff,Nat.reduceAdd,Nat.reduceLT,↓reduceIte];exact F3 (.inr ⟨_,rfl,.nil 1⟩) ae rfl
 | false =>
  simp [go_sem,E6,o6];refine ⟨aa,F3 (d9 (n9 (L:=b) rfl rfl trivial)) ae rfl⟩
theorem Yj (x:List Nat) (hl:x.length≤60000) (hxb:bytes x):m6 Tryz.prog 96 [.d (nb x)] (fun r=>r=.agg (Ti (D4 x))):=by
 refine t6 Tryz.func96 Tryz.ntmps96 (rs:=[.cell 2 130]) ae ?_;by_cases h1:x.length=1
 ·obtain ⟨c,rfl⟩:∃ c,x=[c]:=by
   match x,h1 with
   | [c],_=>exact ⟨c,rfl⟩
  have hc:=hxb c ab;by_cases hA:1≤c∧c≤16
  ·have i1:1≤(c:Int):=aa;have i2:(c:Int)≤16:=aa;have hP:D4 [c]=(80+c,[]):=if_pos hA;have w:IntKind.u8.wrap (80+(c:Int))=((80+c:Nat):Int):=by rw [u8w];omega
   rw [hP];simp [go_sem,nb,i1,i2,w,d7];exact Ru (s6 (F6 trivial) (s6 (d9 (.nil 1)) H7)) rfl ae (by simp [Ti,nb])
  ·by_cases hB:c=129
   ·subst hB;have hP:D4 [129]=(79,[]):=rfl;rw [hP];simp [go_sem,nb,d7];exact Ru (s6 (F6 trivial) (s6 (d9 (.nil 1)) H7)) rfl ae (by simp [Ti,nb])
   ·have hP:D4 [c]=L4 [c]:=(if_neg hA).trans (if_neg hB);have hB':¬ (c:Int)=129:=aa;rw [hP];by_cases j1:1≤c
    ·have i1:1≤(c:Int):=aa;have i2:¬ (c:Int)≤16:=aa;simp [go_sem,nb,i1,i2,hB'];refine a9 (UO [c] ab) ae ?_;simp [go_sem,d7,F7,nb];refine b7 ae ?_;simp [L4,Ti,nb];decide
    ·have i1:¬ 1≤(c:Int):=aa;simp [go_sem,nb,i1,hB'];refine a9 (UO [c] ab) ae ?_;simp [go_sem,d7,F7,nb];refine b7 ae ?_;simp [L4,Ti,nb];decide
 ·have h1':¬ (x.length:Int)=1:=aa;rw [aaV h1];simp [go_sem,nb,h1'];refine a9 (UO x aa) ae ?_;rcases (by omega:x.length≤75 ∨ (75<x.length∧x.length≤255) ∨ 255<x.length) with hn | ⟨hn,hn2⟩ | hn
  ·have i1:(x.length:Int)≤75:=aa;simp [go_sem,i1,d7,F7];refine b7 ae ?_;simp [L4,Ti,nb,hn,aqN (show x.length<256 by omega)]
  ·have i1:¬ (x.length:Int)≤75:=aa;have i2:(x.length:Int)≤255:=aa;have n1:¬ x.length≤75:=aa;simp [go_sem,i1,i2,d7];refine b7 ae ?_;simp [L4,Ti,nb,n1,hn2]
  ·have i1:¬ (x.length:Int)≤75:=aa;have i2:¬ (x.length:Int)≤255:=aa;have n1:¬ x.length≤75:=aa;have n2:¬ x.length≤255:=aa;simp [go_sem,i1,i2,d7];refine b7 ae ?_;simp [L4,Ti,nb,n1,n2]
theorem Yk (x:List Nat) (hl:x.length≤60000) (hxb:bytes x):m6 Tryz.prog 101 [.d (nb x)] (fun r=>r=.agg (Ti (D4 x))):=by
 refine t6 Tryz.func101 Tryz.ntmps101 (rs:=[.cell 2 130]) ae ?_;by_cases h1:x.length=1
 ·obtain ⟨c,rfl⟩:∃ c,x=[c]:=by
   match x,h1 with
   | [c],_=>exact ⟨c,rfl⟩
  have hc:=hxb c ab;by_cases hA:1≤c∧c≤16
  ·have i1:1≤(c:Int):=aa;have i2:(c:Int)≤16:=aa;have hP:D4 [c]=(80+c,[]):=if_pos hA;have w:IntKind.u8.wrap (80+(c:Int))=((80+c:Nat):Int):=by rw [u8w];omega
   rw [hP];simp [go_sem,nb,i1,i2,w,d7];exact Ru (s6 (F6 trivial) (s6 (d9 (.nil 1)) H7)) rfl ae (by simp [Ti,nb])
  ·by_cases hB:c=129
   ·subst hB;have hP:D4 [129]=(79,[]):=rfl;rw [hP];simp [go_sem,nb,d7];exact Ru (s6 (F6 trivial) (s6 (d9 (.nil 1)) H7)) rfl ae (by simp [Ti,nb])
   ·have hP:D4 [c]=L4 [c]:=(if_neg hA).trans (if_neg hB);have hB':¬ (c:Int)=129:=aa;rw [hP];by_cases j1:1≤c
    ·have i1:1≤(c:Int):=aa;have i2:¬ (c:Int)≤16:=aa;simp [go_sem,nb,i1,i2,hB',d7,F7];exact Ru (cs':=Ti (L4 [c])) (s6 (.inl ⟨by simp [L4];decide,trivial⟩) (s6 (d9 (n9 (L:=[c]) rfl rfl trivial)) H7)) rfl (by simp [AV.deep,AV.deep1,Ti]) rfl
    ·have i1:¬ 1≤(c:Int):=aa;simp [go_sem,nb,i1,hB',d7,F7];exact Ru (cs':=Ti (L4 [c])) (s6 (.inl ⟨by simp [L4];decide,trivial⟩) (s6 (d9 (n9 (L:=[c]) rfl rfl trivial)) H7)) rfl (by simp [AV.deep,AV.deep1,Ti]) rfl
 ·have h1':¬ (x.length:Int)=1:=aa;rw [aaV h1];rcases (by omega:x.length≤75 ∨ (75<x.length∧x.length≤255) ∨ 255<x.length) with hn | ⟨hn,hn2⟩ | hn
  ·have i1:(x.length:Int)≤75:=aa;have i2:(x.length:Int)≤255:=aa;simp [go_sem,nb,h1',i1,i2,d7,F7,E6,o6];refine ⟨aa,Ru (cs':=Ti (L4 x)) (s6 (.inl ⟨by simp [L4,hn,aqN (show x.length<256 by omega)],trivial⟩) (s6 (d9 (n9 (L:=x) rfl rfl trivial)) H7)) rfl (by simp [AV.deep,AV.deep1,Ti]) rfl⟩
  ·have i1:¬ (x.length:Int)≤75:=aa;have i2:(x.length:Int)≤255:=aa;have n1:¬ x.length≤75:=aa;simp [go_sem,nb,h1',i1,i2,d7,F7,E6,o6];refine ⟨aa,Ru (cs':=Ti (L4 x)) (s6 (.inl ⟨by simp [L4,n1,hn2],trivial⟩) (s6 (d9 (n9 (L:=x) rfl rfl trivial)) H7)) rfl (by simp [AV.deep,AV.deep1,Ti]) rfl⟩
  ·have i1:¬ (x.length:Int)≤75:=aa;have i2:¬ (x.length:Int)≤255:=aa;have n1:¬ x.length≤75:=aa;have n2:¬ x.length≤255:=aa;simp [go_sem,nb,h1',i1,i2,d7,F7,E6,o6];refine ⟨aa,Ru (cs':=Ti (L4 x)) (s6 (.inl ⟨by simp [L4,n1,n2],trivial⟩) (s6 (d9 (n9 (L:=x) rfl rfl trivial)) H7)) rfl (by simp [AV.deep,AV.deep1,Ti]) rfl⟩
end Go.Proofs.YtldccnbokbieiaaGreat
namespace Go.Sha
def K8 (w:Wd):List Nat × Bool :=
 if 0<w.1∧w.1≤75 then (w.1 :: w.2,decide (w.2.length=w.1))
 else if w.1=76 then (76 :: t8 w.2.length :: w.2,decide (w.2.length≤255))
 else if w.1=77 then (77 :: t8 w.2.length :: t8 (I7 8 w.2.length) :: w.2,decide (w.2.length≤65535))
 else ([w.1],decide (w.2.length=0))
theorem afk (w:Wd):(K8 w).1.length≤w.2.length+3:=by
 unfold K8
 split
 ·simp
 ·split
  ·simp
  ·split
   ·simp
   ·simp
def ZF:List Nat→List Wd→List Nat × Int
 | out,[]=>(out,0)
 | out,w :: r=>if (K8 w).2=true then ZF (out ++ (K8 w).1) r else ([],1)
def YY (w:Wd):List Nat:=[w.1] ++ (if w.1=76 ∨ w.1=77 then [t8 w.2.length] else []) ++ (if w.1=77 then [t8 (I7 8 w.2.length)] else []) ++ w.2
theorem adI {w:Wd} (h:(K8 w).2=true):YY w=(K8 w).1:=by
 unfold K8 at h ⊢;unfold YY;by_cases h1:0<w.1∧w.1≤75
 ·have n1:¬ (w.1=76 ∨ w.1=77):=aa;have n2:¬ w.1=77:=aa;rw [if_pos h1,if_neg n1,if_neg n2];simp
 ·by_cases h2:w.1=76
  ·simp [h1,h2]
  ·by_cases h3:w.1=77
   ·simp [h1,h2,h3]
   ·rw [if_neg h1,if_neg h2,if_neg h3] at h;have:w.2=[]:=by simpa using h
    simp [h1,h2,h3,this]
end Go.Sha
namespace Go.Proofs.YtldccnbokbieiaaGreat
open Go.Am Go.Sha
theorem Yl (w:Wd):∀ c,c ∈ Ti w→c.deep1:=by
 intro c hc;simp [Ti] at hc;rcases hc with rfl | rfl <;> trivial
theorem V7 {Q:AV→Prop} {st:St} {id n:Nat} {b:Bool} {L:List Nat} (hl:L.length=n) (hb:lk id st.hp=some ⟨5,1,rb L⟩) (hq:Q (.tup [.d (nb L),.d (.bool b)])):N6 Q (.tup [.own id 0 n n,.d (.bool b)]) st :=
 UD (s6 (d9 (n9 hl hb trivial)) (s6 (F6 trivial) H7)) rfl ae hq
theorem ata (w:Wd) (hl:w.2.length≤60000) (h8:w.1<256):m6 Tryz.prog 140 [.agg (Ti w)] (fun r=>r=.tup [.d (nb (K8 w).1),.d (.bool (K8 w).2)]):=by
 refine t6 Tryz.func140 Tryz.ntmps140 (rs:=[.tmp 2,.tmp 3]) (by intro v hv;simp at hv;subst hv;exact Yl w) ?_;obtain ⟨op,p⟩:=w;simp only at hl h8;by_cases h1:0<op∧op≤75
 ·obtain ⟨j1,j2⟩:=h1;have i1:0<(op:Int):=aa;have i2:(op:Int)≤75:=aa;have wi:IntKind.i64.wrap (op:Int)=(op:Int):=IntWalk.i64_in _ aa;simp [go_sem,Ti,i1,i2,j1,j2];refine B7 [0,1,3,4,6,7,8,9,10] [(2,[]),(5,[11,12])] 2 (k:=13) ?_;intro G hG;simp [go_sem,nb,E6,wi,o6];refine ⟨aa,hG _ _ ?_⟩;clear hG G;have hy:K8 (op,p)=(op :: p,decide (p.length=op)):=by unfold K8;rw [if_pos ⟨j1,j2⟩]
  rw [hy];have hcast:decide ((p.length:Int)=(op:Int))=decide (p.length=op):=by congr 1;exact propext aa
  simp [go_sem,d7,hcast];exact V7 (L:=op :: p) (by simp;omega) rfl rfl
 ·by_cases h2:op=76
  ·subst h2;have hy:K8 (76,p)=(76 :: t8 p.length :: p,decide (p.length≤255)):=rfl;rw [hy];have hcast:decide ((p.length:Int)≤255)=decide (p.length≤255):=by congr 1;exact propext aa
   simp [go_sem,Ti,nb,E6,o6,F7,hcast,d7];exact ⟨aa,V7 (L:=76 :: t8 p.length :: p) (by simp;omega) rfl (by simp [nb])⟩
  ·by_cases h3:op=77
   ·subst h3;have hy:K8 (77,p)=(77 :: t8 p.length :: t8 (I7 8 p.length) :: p,decide (p.length≤65535)):=rfl;rw [hy];have hcast:decide ((p.length:Int)≤65535)=decide (p.length≤65535):=by congr 1;exact propext aa
    simp [go_sem,Ti,nb,E6,o6,F7,hcast,d7,IntKind.bits,aeK];exact ⟨aa,V7 (L:=77 :: t8 p.length :: t8 (I7 8 p.length) :: p) (by simp;omega) rfl (by simp [nb])⟩
   ·have hy:K8 (op,p)=([op],decide (p.length=0)):=by unfold K8;rw [if_neg h1,if_neg h2,if_neg h3]
    rw [hy];have e2:¬ (op:Int)=76:=aa;have e3:¬ (op:Int)=77:=aa;have hcast:decide ((p.length:Int)=0)=decide (p.length=0):=by congr 1;exact propext aa
    by_cases j1:0<op
    ·have i1:0<(op:Int):=aa;have i2:¬ (op:Int)≤75:=aa;simp [go_sem,Ti,nb,E6,o6,i1,j1,i2,e2,e3,hcast,d7];refine V7 (L:=[op]) (id:=832) rfl rfl ?_;simp [nb]
    ·have i1:¬ 0<(op:Int):=aa;simp [go_sem,Ti,nb,E6,o6,i1,j1,e2,e3,hcast,d7];refine V7 (L:=[op]) (id:=832) rfl rfl ?_;simp [nb]
end Go.Proofs.YtldccnbokbieiaaGreat
namespace Go.Sha
theorem afl (w:Wd):(YY w).length≤w.2.length+3:=by
 unfold YY;simp only [aj]
 split <;> split <;> simp <;> omega
def adJ:List Nat→List (List Nat)→Option (List Nat)
 | out,[]=>some out
 | out,x :: r=>if 1000<x.length then none else adJ (out ++ (K8 (D4 x)).1) r
def am8 (things:List (List Nat)) (body:List Nat):List Nat × Int :=
 match adJ [] things with
 | none=>([],4)
 | some out=>if 1000<(out ++ body).length then ([],4) else (out ++ body,0)
theorem WL {x:List Nat} (h:x.length≤1000):(K8 (D4 x)).2=true:=by
 have g:(K8 (L4 x)).2=true:=by
  unfold L4 K8;by_cases h1:x.length≤75
  ·by_cases h0:x.length=0
   ·have:x=[]:=List.eq_nil_of_length_eq_zero h0;subst this;rfl
   ·have:0<x.length∧x.length≤75:=aa;simp [h1,this]
  ·by_cases h2:x.length≤255
   ·simp [h1,h2]
   ·simp [h1,h2];omega
 match x,g with
 | [],g=>exact g
 | [c],g =>
  show (K8 (if 1≤c∧c≤16 then (80+c,[]) else if c=129 then (79,[]) else L4 [c])).2=true;by_cases hA:1≤c∧c≤16
  ·rw [if_pos hA];unfold K8;have n1:¬ (0<80+c∧80+c≤75):=aa;have n2:¬ 80+c=76:=aa;have n3:¬ 80+c=77:=aa;simp [n1,n2,n3]
  ·rw [if_neg hA];by_cases hB:c=129
   ·rw [if_pos hB];rfl
   ·rw [if_neg hB];exact g
 | _ :: _ :: _,g=>exact g
end Go.Sha
namespace Go.Sha
theorem R4 (x:List Nat):(D4 x).2.length≤x.length:=by
 match x with
 | []=>exact av _
 | [c] =>
  show (if 1≤c∧c≤16 then (80+c,[]) else if c=129 then (79,[]) else L4 [c]).2.length≤1
  split
  ·simp
  ·split
   ·simp
   ·exact av _
 | _ :: _ :: _=>exact av _
end Go.Sha
namespace Go.Proofs.YtldccnbokbieiaaGreat
open Go.Am Go.Sha
def aaW (w:Wd):Prop:=w.2.length≤60000∧w.1<256
theorem aco {Q:AV→Prop} {st:St} {id:Nat} {e:Int} {L:List Nat} (hb:lk id st.hp=some ⟨5,1,rb L⟩) (hq:Q (.tup [.d (nb L),.d (.int .i64 e)])):N6 Q (.tup [.own id 0 L.length L.length,.d (.int .i64 e)]) st :=
 UD (s6 (d9 (n9 rfl hb trivial)) (s6 (F6 trivial) H7)) rfl ae hq
theorem Xs {Q:AV→Prop} {st:St} {e:Int} (hq:Q (.tup [.d (nb []),.d (.int .i64 e)])):N6 Q (.tup [.nil,.d (.int .i64 e)]) st :=
 UD (s6 (d9 (.nil 1)) (s6 (F6 trivial) H7)) rfl ae hq
theorem afm (ws:List Wd) (hw:∀ w,w ∈ ws→aaW w) (hl:ws.length≤10000):m6 Tryz.prog 103 [.d (.ro 2 (ws.map SG))] (fun r=>r=.tup [.d (nb (ZF [] ws).1),.d (.int .i64 (ZF [] ws).2)]):=by
 refine t6 Tryz.func103 Tryz.ntmps103 (rs:=[.tmp 2,.tmp 3]) ae ?_;generalize hB:ZF [] ws=B;simp only [go_sem,Nat.reduceEqDiff,Nat.reduceAdd,Nat.reduceLT,↓reduceIte,Nat.reduceMul]
 refine j9 (fun t:Nat × List Nat=>⟨[(4,.own 1000 0 t.2.length t.2.length),(9,.d (.ro 2 (ws.map SG))),(10,.d (.int .i64 (ws.length:Int))),(11,.d (.int .i64 (t.1:Int)))],[(1000,⟨5,1,rb t.2⟩)],1001⟩)
  (fun t=>t.1≤ws.length∧t.2.length≤60003*t.1∧ZF t.2 (ws.drop t.1)=B) (fun t=>ws.length - t.1) (0,[]) ⟨aa,ab,hB⟩ (by
   simp [m7,c6,fv,lk,AV.low,AV.low1,rb]) ?_
 clear hB;rintro ⟨k,out⟩ ⟨hk,ho,hB⟩;simp only at hk ho hB;simp only [go_sem,Nat.reduceEqDiff,Nat.reduceAdd,Nat.reduceLT,↓reduceIte,Nat.reduceMul];refine ⟨fun h=>?_,fun h=>?_⟩
 ·obtain ⟨w,hw1,hd⟩:=t5 (l:=ws) (k:=k) aa;obtain ⟨q1,q2⟩:=hw w (ao hw1);rw [hd] at hB;simp only [ZF] at hB;have hll:=afk w;have hrow:SG w=[.int .u8 (w.1:Int),nb w.2]:=rfl;simp [go_sem,hw1,hrow];refine a9 (ata w q1 q2) (by intro v hv;simp at hv;subst hv;exact Yl w) ?_
  cases hok:(K8 w).2 with
  | false =>
   simp [go_sem,d7];rw [hok,if_neg ab] at hB;rw [← hB];exact Xs rfl
  | true =>
   rw [hok,if_pos rfl] at hB;have w3:=j6 (k:=k) aa;generalize (K8 w).1=L at *;simp [go_sem,nb,E6,o6,RI,w3];refine ⟨aa,?_⟩;refine c8 (k+1,out ++ L) ⟨by simp only;omega,by simp only [aj];omega,hB⟩ (by simp only;omega) ?_;simp [m7,c6,fv,lk,AV.low,AV.low1];exact s7 _ _
 ·rw [az aa] at hB;simp only [ZF] at hB;simp [go_sem,d7];rw [← hB];exact aco rfl rfl
def RL (x:List Nat):List DV:=[nb x]
theorem V9 {x:List Nat} (h:x.length≤60000) (hb:bytes x):aaW (D4 x):=by
 have g:aaW (L4 x):=by
  unfold L4;refine ⟨h,?_⟩;simp only
  split
  ·omega
  ·split <;> omega
 match x,hb,g with
 | [],_,g=>exact g
 | [c],hb,g =>
  show aaW (if 1≤c∧c≤16 then (80+c,[]) else if c=129 then (79,[]) else L4 [c]);by_cases hA:1≤c∧c≤16
  ·rw [if_pos hA];exact ⟨ab,by simp only;omega⟩
  ·rw [if_neg hA];by_cases hB:c=129
   ·rw [if_pos hB];exact ⟨ab,ab⟩
   ·rw [if_neg hB];exact g
 | _ :: _ :: _,_,g=>exact g
theorem apO {hp:Hp} {I:Nat→Prop} {id:Nat} {w:Wd} (hb:lk id hp=some ⟨130,2,[Ti w]⟩) (hI:I id):SnapD hp I (.own id 0 1 1) (.ro 2 ([w].map SG)) :=
 H2 (es:=[w].map SG) (by rw [hb];rfl) hI rfl (by simp [SG])
theorem agZ (things:List (List Nat)) (body:List Nat) (hl:things.length≤1000) (ht:∀ x,x ∈ things→x.length≤60000∧bytes x) (hb:body.length≤100000) :
  m6 Tryz.prog 70 [.d (.ro 1 (things.map RL)),.d (nb body)] (fun r=>r=.tup [.d (nb (am8 things body).1),.d (.int .i64 (am8 things body).2)]):=by
 refine t6 Tryz.func70 Tryz.ntmps70 (rs:=[.tmp 4,.tmp 5]) ae ?_;unfold am8;generalize hB:adJ [] things=B;simp only [go_sem,Nat.reduceEqDiff,Nat.reduceAdd,Nat.reduceLT,↓reduceIte,Nat.reduceMul]
 refine j9 (fun t:Nat × List Nat=>⟨[(1,.d (nb body)),(6,.own 1000 0 t.2.length t.2.length),(11,.d (.ro 1 (things.map RL))),(12,.d (.int .i64 (things.length:Int))),(13,.d (.int .i64 (t.1:Int)))],[(1000,⟨5,1,rb t.2⟩)],1001⟩)
  (fun t=>t.1≤things.length∧t.2.length≤60003*t.1∧adJ t.2 (things.drop t.1)=B) (fun t=>things.length - t.1) (0,[]) ⟨aa,ab,hB⟩ (by
   simp [m7,c6,fv,lk,AV.low,AV.low1,rb]) ?_
 clear hB;rintro ⟨k,out⟩ ⟨hk,ho,hB⟩;simp only at hk ho hB;simp only [go_sem,Nat.reduceEqDiff,Nat.reduceAdd,Nat.reduceLT,↓reduceIte,Nat.reduceMul];refine ⟨fun h=>?_,fun h=>?_⟩
 ·obtain ⟨x,hx1,hd⟩:=t5 (l:=things) (k:=k) aa;obtain ⟨q1,q2⟩:=ht x (ao hx1);rw [hd] at hB;simp only [adJ] at hB;by_cases hxl:1000<x.length
  ·rw [if_pos hxl] at hB;subst hB;have i1:1000<(x.length:Int):=aa;simp [go_sem,hx1,RL,nb,i1,d7];exact Xs rfl
  ·rw [if_neg hxl] at hB;have i1:¬ 1000<(x.length:Int):=aa;have hok:=WL (x:=x) aa;have hwd:=V9 q1 q2;have hll:=afk (D4 x);have hpl:(D4 x).2.length≤x.length:=R4 x;have hbl:ZF [] [D4 x]=((K8 (D4 x)).1,0):=by simp [ZF,hok]
   simp [go_sem,hx1,RL,nb,i1];refine a9 (Yj x q1 q2) ae ?_;have hsz:(Ti (D4 x)).length=2:=rfl;simp [go_sem,hsz];refine u7 [1289] (afm [D4 x] (by intro w hw;simp at hw;subst hw;exact hwd) ab) rfl (c7 (.one (d9 (apO rfl ab))) n7) ?_;rw [hbl];have w3:=j6 (k:=k) aa;generalize (K8 (D4 x)).1=L at *;simp [go_sem,p9,nb,E6,o6,RI,w3];refine ⟨aa,?_⟩;refine c8 (k+1,out ++ L) ⟨by simp only;omega,by simp only [aj];omega,hB⟩ (by simp only;omega) ?_;simp [m7,c6,fv,lk,AV.low,AV.low1,nb];exact s7 _ _
 ·rw [az aa] at hB;simp only [adJ] at hB;subst hB;have hkl:k=things.length:=aa;simp only;by_cases hbig:1000<out.length+body.length
  ·rw [if_pos hbig];have i1:1000<((out.length+body.length:Nat):Int):=aa;have i2:1000<(out.length:Int)+(body.length:Int):=aa;simp [go_sem,nb,E6,o6,i1,i2,d7];exact ⟨aa,Xs rfl⟩
  ·rw [if_neg hbig];have i1:¬ 1000<((out.length+body.length:Nat):Int):=aa;have i2:¬ 1000<(out.length:Int)+(body.length:Int):=aa;simp [go_sem,nb,E6,o6,RI,i1,i2,d7];refine ⟨aa,?_⟩;have:=aco (id:=1000) (L:=out ++ body) (e:=0) (Q:=fun r=>r=AV.tup [AV.d (nb (out ++ body)),AV.d (.int .i64 0)]) (st:=⟨[],[(1000,⟨5,1,rb (out ++ body)⟩)],0⟩) rfl rfl;simp [nb] at this;exact this
theorem apP {a b:Nat}:decide ((a:Int)=(b:Int))=decide (a=b):=by congr 1;exact propext aa
theorem apQ (w:Wd) (hl:w.2.length≤60000) (h8:w.1<256):m6 Tryz.prog 189 [.agg (Ti w)] (fun r=>r=.d (.bool (K8 w).2)):=by
 refine t6 Tryz.func189 Tryz.ntmps189 (rs:=[.tmp 2]) (by intro v hv;simp at hv;subst hv;exact Yl w) ?_;obtain ⟨op,p⟩:=w;simp only at hl h8;by_cases h1:0<op∧op≤75
 ·obtain ⟨j1,j2⟩:=h1;have i1:1≤(op:Int):=aa;have i2:(op:Int)≤75:=aa;have wi:IntKind.i64.wrap (op:Int)=(op:Int):=IntWalk.i64_in _ aa;have hy:K8 (op,p)=(op :: p,decide (p.length=op)):=by unfold K8;rw [if_pos ⟨j1,j2⟩]
  rw [hy];simp [go_sem,Ti,nb,i1,i2,j2,wi,d7,apP];exact b7 ae rfl
 ·by_cases h2:op=76
  ·subst h2;have hy:K8 (76,p)=(76 :: t8 p.length :: p,decide (p.length≤255)):=rfl;rw [hy];have hcast:decide ((p.length:Int)≤255)=decide (p.length≤255):=by congr 1;exact propext aa
   simp [go_sem,Ti,nb,hcast,d7];exact b7 ae rfl
  ·by_cases h3:op=77
   ·subst h3;have hy:K8 (77,p)=(77 :: t8 p.length :: t8 (I7 8 p.length) :: p,decide (p.length≤65535)):=rfl;rw [hy];have hcast:decide ((p.length:Int)≤65535)=decide (p.length≤65535):=by congr 1;exact propext aa
    simp [go_sem,Ti,nb,hcast,d7];exact b7 ae rfl
   ·have hy:K8 (op,p)=([op],decide (p.length=0)):=by unfold K8;rw [if_neg h1,if_neg h2,if_neg h3]
    rw [hy];have e2:¬ (op:Int)=76:=aa;have e3:¬ (op:Int)=77:=aa;by_cases j1:0<op
    ·have i1:1≤(op:Int):=aa;have i2:¬ (op:Int)≤75:=aa;simp [go_sem,Ti,nb,i1,i2,e2,e3,d7];exact b7 ae ab
    ·have i1:¬ 1≤(op:Int):=aa;simp [go_sem,Ti,nb,i1,e2,e3,d7];exact b7 ae ab
def r5 (ws:List Wd):List Nat:=(ws.map YY).flatten
theorem ag0 (ws:List Wd) (hw:∀ w,w ∈ ws→aaW w∧(K8 w).2=true) (hl:ws.length≤10000):I1 Tryz.prog 138 0 [] [.d (.ro 2 (ws.map SG))]
  (fun r hp'=>r=.tup [.own 65 0 (r5 ws).length (r5 ws).length,.d (.int .i64 0)]∧lk 65 hp'=some ⟨5,1,rb (r5 ws)⟩):=by
 refine C6 Tryz.func138 (by kernel_rfl) rfl Tryz.ntmps138 (rs:=[.tmp 2,.tmp 3]) rfl (Ut rfl) (by decide) ?_;simp [go_sem]
 refine j9 (fun k:Nat=>⟨[(0,.d (.ro 2 (ws.map SG))),(4,.own 65 0 (r5 (ws.take k)).length (r5 (ws.take k)).length),(5,.d (.int .i64 (k:Int)))],[(65,⟨5,1,rb (r5 (ws.take k))⟩)],1000⟩)
  (fun k=>k≤ws.length∧(r5 (ws.take k)).length≤60003*k) (fun k=>ws.length - k) 0 ⟨aa,by simp [r5]⟩ (by
   simp [m7,c6,fv,lk,AV.low,AV.low1,r5,rb]) ?_
 rintro k ⟨hk,ho⟩;simp only [go_sem,Nat.reduceEqDiff,Nat.reduceAdd,Nat.reduceLT,↓reduceIte,Nat.reduceMul];refine ⟨fun h=>?_,fun h=>?_⟩
 ·obtain ⟨w,hw1,hd⟩:=t5 (l:=ws) (k:=k) aa;obtain ⟨⟨q1,q2⟩,q3⟩:=hw w (ao hw1)
  have hcat:r5 (ws.take (k+1))=r5 (ws.take k) ++ YY w:=by
   unfold r5;rw [List.take_add_one,hw1];simp
  have hll:=afl w;have hrl:(r5 (ws.take (k+1))).length=(r5 (ws.take k)).length+(YY w).length:=by rw [hcat,aj]
  have hrow:SG w=[.int .u8 (w.1:Int),nb w.2]:=rfl;have w3:=j6 (k:=k) aa
  have hdiv:IntKind.u8.wrap (IntKind.i64.wrap (Int.tdiv (w.2.length:Int) 256))=((t8 (I7 8 w.2.length):Nat):Int):=by
   have e:Int.tdiv (w.2.length:Int) 256=((w.2.length / 256:Nat):Int):=(Int.ofNat_tdiv _ 256).symm;rw [e,IntWalk.i64_in _ aa,F7];rfl
  have hdiv2:IntKind.u8.wrap (IntKind.i64.wrap ((w.2.length:Int) / 256))=((t8 (I7 8 w.2.length):Nat):Int):=by
   rw [← hdiv,Int.tdiv_eq_ediv_of_nonneg aa]
  simp [go_sem,hw1,hrow];refine a9 (apQ w q1 q2) (by intro v hv;simp at hv;subst hv;exact Yl w) ?_;rw [q3];obtain ⟨op,p⟩:=w;generalize r5 (ws.take k)=out at *;simp only at q1 q2 hdiv hdiv2;by_cases h2:op=76
  ·subst h2;have hr:YY (76,p)=76 :: t8 p.length :: p:=by simp [YY]
   rw [hr] at hcat hrl;simp [go_sem,nb,E6,o6,F7,w3];refine ⟨aa,aa,aa,?_⟩;refine c8 (k+1) ⟨aa,by rw [hrl];simp only [List.length_cons];omega⟩ aa ?_;simp [m7,c6,fv,lk,AV.low,AV.low1,hcat];exact ⟨aa,by simp [rb],s7 _ _⟩
  ·by_cases h3:op=77
   ·subst h3;have hr:YY (77,p)=77 :: t8 p.length :: t8 (I7 8 p.length) :: p:=by simp [YY]
    rw [hr] at hcat hrl;simp [go_sem,nb,E6,o6,F7,hdiv,w3];refine ⟨aa,aa,aa,aa,?_⟩;refine c8 (k+1) ⟨aa,by rw [hrl];simp only [List.length_cons];omega⟩ aa ?_;simp [m7,c6,fv,lk,AV.low,AV.low1,hcat];exact ⟨aa,by simp [rb,hdiv2],s7 _ _⟩
   ·have hr:YY (op,p)=op :: p:=by simp [YY,h2,h3]
    have e2:¬ (op:Int)=76:=aa;have e3:¬ (op:Int)=77:=aa;rw [hr] at hcat hrl;simp [go_sem,nb,E6,o6,F7,e2,e3,w3];refine ⟨aa,aa,?_⟩;refine c8 (k+1) ⟨aa,by rw [hrl];simp only [List.length_cons];omega⟩ aa ?_;simp [m7,c6,fv,lk,AV.low,AV.low1,hcat];exact ⟨aa,by simp [rb],s7 _ _⟩
 ·have hkl:k=ws.length:=aa;subst hkl;rw [List.take_length];simp [go_sem,d7]
def adK (things:List (List Nat)):List Wd:=things.map D4
theorem afn:∀ (things:List (List Nat)) (out:List Nat),(∀ x,x ∈ things→x.length≤1000)→adJ out things=some (out ++ r5 (adK things))
 | [],out,_=>by simp [adJ,r5,adK]
 | x :: r,out,h=>by
  have hx:=h x (aC ..);simp only [adJ];rw [if_neg aa,afn r _ (fun y hy=>h y (ax _ hy)),← adI (WL hx)];simp [r5,adK]
def Wb:List Nat:=[86,97,117,108,116,82,101,99,111,118,101,114,121]
def VI (x:List Nat):List Nat:=G9 Wb (m8 x.length ++ x)
theorem T0 (x:List Nat):(VI x).length=32:=s8 _
theorem ag1 (x:List Nat) (hx:x.length≤100000):m6 Tryz.prog 78 [.d (nb x)] (fun r=>r=.agg (cb (VI x))):=by
 refine t6 Tryz.func78 Tryz.ntmps78 (rs:=[.cell 2 23]) ae ?_;have hp5:=y9 x.length;simp [go_sem];refine u7 [] (RS [] x ab aa) rfl (c7 (.one (d9 (.nil 1))) (c7 (.deep ae) n7)) ?_;simp [go_sem,p9];refine a9 (TG Wb (.str [86,97,117,108,116,82,101,99,111,118,101,114,121]) rfl (m8 x.length ++ x) (by simp [Wb]) (by simp;omega)) ae ?_;have hR:VI x=G9 Wb (m8 x.length ++ x):=rfl;rw [← hR];have hL:=T0 x;generalize VI x=R at *;simp [go_sem,d7,hL,d6 hL,s9];exact b7 (by simp [AV.deep];exact r6 _) rfl
theorem afo (x:List Nat) (hx:x.length≤100000) (hxb:bytes x):m6 Tryz.prog 137 [.d (nb x)] (fun r=>r=.agg (cb (VI x))):=by
 refine t6 Tryz.func137 Tryz.ntmps137 (rs:=[.cell 2 23]) ae ?_;have hp5:=y9 x.length;simp [go_sem];refine u7 [] (Tz [] x ab aa) rfl (c7 (.one (d9 (.nil 1))) (c7 (.deep ae) n7)) ?_;simp [go_sem,p9]
 refine a9 (SD Wb (.str [86,97,117,108,116,82,101,99,111,118,101,114,121]) rfl (m8 x.length ++ x) (by simp [Wb]) (by simp [Wb]) (by simp;omega) (by
  intro y hy;rcases au.1 hy with h | h
  ·exact WA _ y h
  ·exact hxb y h)) ae ?_
 have hR:VI x=G9 Wb (m8 x.length ++ x):=rfl;rw [← hR];have hL:=T0 x;generalize VI x=R at *;simp [go_sem,d7,hL,d6 hL,s9];exact b7 (by simp [AV.deep];exact r6 _) rfl
theorem ag2 {w:Wd} (h8:w.1<256) (hp:bytes w.2):bytes (K8 w).1:=by
 unfold K8
 split
 ·intro y hy;rcases aF.1 hy with rfl | hy
  ·exact h8
  ·exact hp y hy
 ·split
  ·intro y hy;simp only [aF] at hy;rcases hy with rfl | rfl | hy
   ·omega
   ·exact UJ _
   ·exact hp y hy
  ·split
   ·intro y hy;simp only [aF] at hy;rcases hy with rfl | rfl | rfl | hy
    ·omega
    ·exact UJ _
    ·exact UJ _
    ·exact hp y hy
   ·intro y hy;simp only [List.mem_singleton] at hy;rw [hy];exact h8
theorem Um {x:List Nat} (hb:bytes x):bytes (D4 x).2:=by
 match x,hb with
 | [],hb=>exact hb
 | [c],hb =>
  show bytes (if 1≤c∧c≤16 then (80+c,[]) else if c=129 then (79,[]) else L4 [c]).2
  split
  ·intro y hy;simp at hy
  ·split
   ·intro y hy;simp at hy
   ·exact hb
 | _ :: _ :: _,hb=>exact hb
theorem G0 {a b:List Nat} (ha:bytes a) (hb:bytes b):bytes (a ++ b):=fun y hy=>(au.1 hy).elim (ha y) (hb y)
theorem ajD {n:Nat} {d:DV} (h:S9 Tryz.prog (n+3) 41 [d]):∃ xs:List (List Nat),d=.ro 1 (xs.map RL)∧∀ x,x ∈ xs→bytes x:=by
 rw [S9] at h;simp only [Tryz.underlying41,List.cons.injEq,and_true] at h;obtain ⟨es,rfl,hl,hr⟩:=h
 obtain ⟨xs,rfl,hxs⟩:=aal (enc:=RL) (R:=fun x=>bytes x) (es:=es) (fun r hr'=>by
  obtain ⟨h1,h2⟩:=hr r hr';rw [show Tryz.prog.cellsOf 22=1 by kernel_rfl] at h2
  match r,h1,h2 with
  | [y],h1,_ =>
   obtain ⟨x,rfl,_,hb⟩:=aav h1
   exact ⟨x,rfl,hb⟩)
 exact ⟨xs,by rw [show Tryz.prog.cellsOf 22=1 by kernel_rfl],hxs⟩
end Go.Proofs.YtldccnbokbieiaaGreat
