/-
 Part 12 of what the claim rests on.
-/
import Derived.Test.YtldccnbokbieiaaGreatN2
import Derived.Test.YtldccnbokbieiaaGreatN3
set_option linter.unusedVariables false
set_option linter.unusedSimpArgs false
set_option maxRecDepth 100000
set_option maxHeartbeats 16000000
namespace Go.Sha
abbrev Wd:=Nat × List Nat
def K0 (x:List Nat):Wd:=(if x.length≤75 then x.length else if x.length≤255 then 76 else 77,x)
def B1 (x:List Nat):Wd :=
 match x with
 | [c]=>if 1≤c∧c≤16 then (80+c,[]) else if c=129 then (79,[]) else K0 [c]
 | x=>K0 x
theorem aao {x:List Nat} (h:x.length ≠ 1):B1 x=K0 x:=by
 match x,h with
 | [],_=>rfl
 | [c],h=>exact absurd rfl h
 | _ :: _ :: _,_=>rfl
theorem apy {x:Nat} (h:x<256):t8 x=x:=Nat.mod_eq_of_lt h
end Go.Sha
namespace Go.Proofs.YtldccnbokbieiaaGreat
open Go.Am Go.Sha
def N6 (w:Wd):List DV:=[.int .u8 (w.1:Int),nb w.2]
def SI (w:Wd):List AV:=[.d (.int .u8 (w.1:Int)),.d (nb w.2)]
theorem Sc (b:List Nat) (hl:b.length≤100000000000):d9 Tryz.prog 52 [.d (nb b)] (fun r=>r=.d (nb b)):=by
 refine s8 Tryz.func52 Tryz.ntmps52 (rs:=[.tmp 2]) ae ?_;simp only [go_sem,nb,Nat.reduceEqDiff,Nat.reduceAdd,Nat.reduceLT,↓reduceIte];intro t hb
 cases t with
 | true =>
  have h0:b=[]:=List.eq_nil_of_length_eq_zero (by simpa using hb rfl);subst h0;simp only [go_sem,Nat.reduceEqDiff,Nat.reduceAdd,Nat.reduceLT,↓reduceIte];exact D1 (.inr ⟨_,rfl,.nil 1⟩) ae rfl
 | false =>
  simp [go_sem,F2,n9];refine ⟨aa,D1 (m8 (s9 (L:=b) rfl rfl trivial)) ae rfl⟩
theorem XI (x:List Nat) (hl:x.length≤60000) (hxb:bytes x):d9 Tryz.prog 96 [.d (nb x)] (fun r=>r=.agg (SI (B1 x))):=by
 refine s8 Tryz.func96 Tryz.ntmps96 (rs:=[.cell 2 130]) ae ?_;by_cases h1:x.length=1
 ·obtain ⟨c,rfl⟩:∃ c,x=[c]:=by
   match x,h1 with
   | [c],_=>exact ⟨c,rfl⟩
  have hc:=hxb c ab;by_cases hA:1≤c∧c≤16
  ·have i1:1≤(c:Int):=aa;have i2:(c:Int)≤16:=aa;have hP:B1 [c]=(80+c,[]):=if_pos hA;have w:IntKind.u8.wrap (80+(c:Int))=((80+c:Nat):Int):=by rw [u8w];omega
   rw [hP];simp [go_sem,nb,i1,i2,w,d6];exact Q2 (o9 (C7 trivial) (o9 (m8 (.nil 1)) E8)) rfl ae (by simp [SI,nb])
  ·by_cases hB:c=129
   ·subst hB;have hP:B1 [129]=(79,[]):=rfl;rw [hP];simp [go_sem,nb,d6];exact Q2 (o9 (C7 trivial) (o9 (m8 (.nil 1)) E8)) rfl ae (by simp [SI,nb])
   ·have hP:B1 [c]=K0 [c]:=(if_neg hA).trans (if_neg hB);have hB':¬ (c:Int)=129:=aa;rw [hP];by_cases j1:1≤c
    ·have i1:1≤(c:Int):=aa;have i2:¬ (c:Int)≤16:=aa;simp [go_sem,nb,i1,i2,hB'];refine a9 (Sc [c] ab) ae ?_;simp [go_sem,d6,E0,nb];refine b7 ae ?_;simp [K0,SI,nb];decide
    ·have i1:¬ 1≤(c:Int):=aa;simp [go_sem,nb,i1,hB'];refine a9 (Sc [c] ab) ae ?_;simp [go_sem,d6,E0,nb];refine b7 ae ?_;simp [K0,SI,nb];decide
 ·have h1':¬ (x.length:Int)=1:=aa;rw [aao h1];simp [go_sem,nb,h1'];refine a9 (Sc x aa) ae ?_;rcases (by omega:x.length≤75 ∨ (75<x.length∧x.length≤255) ∨ 255<x.length) with hn | ⟨hn,hn2⟩ | hn
  ·have i1:(x.length:Int)≤75:=aa;simp [go_sem,i1,d6,E0];refine b7 ae ?_;simp [K0,SI,nb,hn,apy (show x.length<256 by omega)]
  ·have i1:¬ (x.length:Int)≤75:=aa;have i2:(x.length:Int)≤255:=aa;have n1:¬ x.length≤75:=aa;simp [go_sem,i1,i2,d6];refine b7 ae ?_;simp [K0,SI,nb,n1,hn2]
  ·have i1:¬ (x.length:Int)≤75:=aa;have i2:¬ (x.length:Int)≤255:=aa;have n1:¬ x.length≤75:=aa;have n2:¬ x.length≤255:=aa;simp [go_sem,i1,i2,d6];refine b7 ae ?_;simp [K0,SI,nb,n1,n2]
theorem VE (x:List Nat) (hl:x.length≤60000) (hxb:bytes x):d9 Tryz.prog 101 [.d (nb x)] (fun r=>r=.agg (SI (B1 x))):=by
 refine s8 Tryz.func101 Tryz.ntmps101 (rs:=[.cell 2 130]) ae ?_;by_cases h1:x.length=1
 ·obtain ⟨c,rfl⟩:∃ c,x=[c]:=by
   match x,h1 with
   | [c],_=>exact ⟨c,rfl⟩
  have hc:=hxb c ab;by_cases hA:1≤c∧c≤16
  ·have i1:1≤(c:Int):=aa;have i2:(c:Int)≤16:=aa;have hP:B1 [c]=(80+c,[]):=if_pos hA;have w:IntKind.u8.wrap (80+(c:Int))=((80+c:Nat):Int):=by rw [u8w];omega
   rw [hP];simp [go_sem,nb,i1,i2,w,d6];exact Q2 (o9 (C7 trivial) (o9 (m8 (.nil 1)) E8)) rfl ae (by simp [SI,nb])
  ·by_cases hB:c=129
   ·subst hB;have hP:B1 [129]=(79,[]):=rfl;rw [hP];simp [go_sem,nb,d6];exact Q2 (o9 (C7 trivial) (o9 (m8 (.nil 1)) E8)) rfl ae (by simp [SI,nb])
   ·have hP:B1 [c]=K0 [c]:=(if_neg hA).trans (if_neg hB);have hB':¬ (c:Int)=129:=aa;rw [hP];by_cases j1:1≤c
    ·have i1:1≤(c:Int):=aa;have i2:¬ (c:Int)≤16:=aa;simp [go_sem,nb,i1,i2,hB',d6,E0];exact Q2 (cs':=SI (K0 [c])) (o9 (.inl ⟨by simp [K0];decide,trivial⟩) (o9 (m8 (s9 (L:=[c]) rfl rfl trivial)) E8)) rfl (by simp [AV.deep,AV.deep1,SI]) rfl
    ·have i1:¬ 1≤(c:Int):=aa;simp [go_sem,nb,i1,hB',d6,E0];exact Q2 (cs':=SI (K0 [c])) (o9 (.inl ⟨by simp [K0];decide,trivial⟩) (o9 (m8 (s9 (L:=[c]) rfl rfl trivial)) E8)) rfl (by simp [AV.deep,AV.deep1,SI]) rfl
 ·have h1':¬ (x.length:Int)=1:=aa;rw [aao h1];rcases (by omega:x.length≤75 ∨ (75<x.length∧x.length≤255) ∨ 255<x.length) with hn | ⟨hn,hn2⟩ | hn
  ·have i1:(x.length:Int)≤75:=aa;have i2:(x.length:Int)≤255:=aa;simp [go_sem,nb,h1',i1,i2,d6,E0,F2,n9];refine ⟨aa,Q2 (cs':=SI (K0 x)) (o9 (.inl ⟨by simp [K0,hn,apy (show x.length<256 by omega)],trivial⟩) (o9 (m8 (s9 (L:=x) rfl rfl trivial)) E8)) rfl (by simp [AV.deep,AV.deep1,SI]) rfl⟩
  ·have i1:¬ (x.length:Int)≤75:=aa;have i2:(x.length:Int)≤255:=aa;have n1:¬ x.length≤75:=aa;simp [go_sem,nb,h1',i1,i2,d6,E0,F2,n9];refine ⟨aa,Q2 (cs':=SI (K0 x)) (o9 (.inl ⟨by simp [K0,n1,hn2],trivial⟩) (o9 (m8 (s9 (L:=x) rfl rfl trivial)) E8)) rfl (by simp [AV.deep,AV.deep1,SI]) rfl⟩
  ·have i1:¬ (x.length:Int)≤75:=aa;have i2:¬ (x.length:Int)≤255:=aa;have n1:¬ x.length≤75:=aa;have n2:¬ x.length≤255:=aa;simp [go_sem,nb,h1',i1,i2,d6,E0,F2,n9];refine ⟨aa,Q2 (cs':=SI (K0 x)) (o9 (.inl ⟨by simp [K0,n1,n2],trivial⟩) (o9 (m8 (s9 (L:=x) rfl rfl trivial)) E8)) rfl (by simp [AV.deep,AV.deep1,SI]) rfl⟩
end Go.Proofs.YtldccnbokbieiaaGreat
namespace Go.Sha
def J0 (w:Wd):List Nat × Bool :=
 if 0<w.1∧w.1≤75 then (w.1 :: w.2,decide (w.2.length=w.1))
 else if w.1=76 then (76 :: t8 w.2.length :: w.2,decide (w.2.length≤255))
 else if w.1=77 then (77 :: t8 w.2.length :: t8 (I0 8 w.2.length) :: w.2,decide (w.2.length≤65535))
 else ([w.1],decide (w.2.length=0))
theorem aeE (w:Wd):(J0 w).1.length≤w.2.length+3:=by
 unfold J0
 split
 ·simp
 ·split
  ·simp
  ·split
   ·simp
   ·simp
def Y6:List Nat→List Wd→List Nat × Int
 | out,[]=>(out,0)
 | out,w :: r=>if (J0 w).2=true then Y6 (out ++ (J0 w).1) r else ([],1)
def Ys (w:Wd):List Nat:=[w.1] ++ (if w.1=76 ∨ w.1=77 then [t8 w.2.length] else []) ++ (if w.1=77 then [t8 (I0 8 w.2.length)] else []) ++ w.2
theorem ac1 {w:Wd} (h:(J0 w).2=true):Ys w=(J0 w).1:=by
 unfold J0 at h ⊢;unfold Ys;by_cases h1:0<w.1∧w.1≤75
 ·have n1:¬ (w.1=76 ∨ w.1=77):=aa;have n2:¬ w.1=77:=aa;rw [if_pos h1,if_neg n1,if_neg n2];simp
 ·by_cases h2:w.1=76
  ·simp [h1,h2]
  ·by_cases h3:w.1=77
   ·simp [h1,h2,h3]
   ·rw [if_neg h1,if_neg h2,if_neg h3] at h;have:w.2=[]:=by simpa using h
    simp [h1,h2,h3,this]
end Go.Sha
namespace Go.Proofs.YtldccnbokbieiaaGreat
open Go.Am Go.Sha
theorem XJ (w:Wd):∀ c,c ∈ SI w→c.deep1:=by
 intro c hc;simp [SI] at hc;rcases hc with rfl | rfl <;> trivial
theorem VF {Q:AV→Prop} {st:St} {id n:Nat} {b:Bool} {L:List Nat} (hl:L.length=n) (hb:lk id st.hp=some ⟨5,1,rb L⟩) (hq:Q (.tup [.d (nb L),.d (.bool b)])):K9 Q (.tup [.own id 0 n n,.d (.bool b)]) st :=
 Tk (o9 (m8 (s9 hl hb trivial)) (o9 (C7 trivial) E8)) rfl ae hq
theorem arP (w:Wd) (hl:w.2.length≤60000) (h8:w.1<256):d9 Tryz.prog 140 [.agg (SI w)] (fun r=>r=.tup [.d (nb (J0 w).1),.d (.bool (J0 w).2)]):=by
 refine s8 Tryz.func140 Tryz.ntmps140 (rs:=[.tmp 2,.tmp 3]) (by intro v hv;simp at hv;subst hv;exact XJ w) ?_;obtain ⟨op,p⟩:=w;simp only at hl h8;by_cases h1:0<op∧op≤75
 ·obtain ⟨j1,j2⟩:=h1;have i1:0<(op:Int):=aa;have i2:(op:Int)≤75:=aa;have wi:IntKind.i64.wrap (op:Int)=(op:Int):=IntWalk.i64_in _ aa;simp [go_sem,SI,i1,i2,j1,j2];refine z6 [0,1,3,4,6,7,8,9,10] [(2,[]),(5,[11,12])] 2 (k:=13) ?_;intro G hG;simp [go_sem,nb,F2,wi,n9];refine ⟨aa,hG _ _ ?_⟩;clear hG G;have hy:J0 (op,p)=(op :: p,decide (p.length=op)):=by unfold J0;rw [if_pos ⟨j1,j2⟩]
  rw [hy];have hcast:decide ((p.length:Int)=(op:Int))=decide (p.length=op):=by congr 1;exact propext aa
  simp [go_sem,d6,hcast];exact VF (L:=op :: p) (by simp;omega) rfl rfl
 ·by_cases h2:op=76
  ·subst h2;have hy:J0 (76,p)=(76 :: t8 p.length :: p,decide (p.length≤255)):=rfl;rw [hy];have hcast:decide ((p.length:Int)≤255)=decide (p.length≤255):=by congr 1;exact propext aa
   simp [go_sem,SI,nb,F2,n9,E0,hcast,d6];exact ⟨aa,VF (L:=76 :: t8 p.length :: p) (by simp;omega) rfl (by simp [nb])⟩
  ·by_cases h3:op=77
   ·subst h3;have hy:J0 (77,p)=(77 :: t8 p.length :: t8 (I0 8 p.length) :: p,decide (p.length≤65535)):=rfl;rw [hy];have hcast:decide ((p.length:Int)≤65535)=decide (p.length≤65535):=by congr 1;exact propext aa
    simp [go_sem,SI,nb,F2,n9,E0,hcast,d6,IntKind.bits,afI];exact ⟨aa,VF (L:=77 :: t8 p.length :: t8 (I0 8 p.length) :: p) (by simp;omega) rfl (by simp [nb])⟩
   ·have hy:J0 (op,p)=([op],decide (p.length=0)):=by unfold J0;rw [if_neg h1,if_neg h2,if_neg h3]
    rw [hy];have e2:¬ (op:Int)=76:=aa;have e3:¬ (op:Int)=77:=aa;have hcast:decide ((p.length:Int)=0)=decide (p.length=0):=by congr 1;exact propext aa
    by_cases j1:0<op
    ·have i1:0<(op:Int):=aa;have i2:¬ (op:Int)≤75:=aa;simp [go_sem,SI,nb,F2,n9,i1,j1,i2,e2,e3,hcast,d6];refine VF (L:=[op]) (id:=832) rfl rfl ?_;simp [nb]
    ·have i1:¬ 0<(op:Int):=aa;simp [go_sem,SI,nb,F2,n9,i1,j1,e2,e3,hcast,d6];refine VF (L:=[op]) (id:=832) rfl rfl ?_;simp [nb]
end Go.Proofs.YtldccnbokbieiaaGreat
namespace Go.Sha
theorem aeF (w:Wd):(Ys w).length≤w.2.length+3:=by
 unfold Ys;simp only [List.length_append]
 split <;> split <;> simp <;> omega
def ac2:List Nat→List (List Nat)→Option (List Nat)
 | out,[]=>some out
 | out,x :: r=>if 1000<x.length then none else ac2 (out ++ (J0 (B1 x)).1) r
def al5 (things:List (List Nat)) (body:List Nat):List Nat × Int :=
 match ac2 [] things with
 | none=>([],4)
 | some out=>if 1000<(out ++ body).length then ([],4) else (out ++ body,0)
theorem UU {x:List Nat} (h:x.length≤1000):(J0 (B1 x)).2=true:=by
 have g:(J0 (K0 x)).2=true:=by
  unfold K0 J0;by_cases h1:x.length≤75
  ·by_cases h0:x.length=0
   ·have:x=[]:=List.eq_nil_of_length_eq_zero h0;subst this;rfl
   ·have:0<x.length∧x.length≤75:=aa;simp [h1,this]
  ·by_cases h2:x.length≤255
   ·simp [h1,h2]
   ·simp [h1,h2];omega
 match x,g with
 | [],g=>exact g
 | [c],g =>
  show (J0 (if 1≤c∧c≤16 then (80+c,[]) else if c=129 then (79,[]) else K0 [c])).2=true;by_cases hA:1≤c∧c≤16
  ·rw [if_pos hA];unfold J0;have n1:¬ (0<80+c∧80+c≤75):=aa;have n2:¬ 80+c=76:=aa;have n3:¬ 80+c=77:=aa;simp [n1,n2,n3]
  ·rw [if_neg hA];by_cases hB:c=129
   ·rw [if_pos hB];rfl
   ·rw [if_neg hB];exact g
 | _ :: _ :: _,g=>exact g
end Go.Sha
namespace Go.Sha
theorem RD (x:List Nat):(B1 x).2.length≤x.length:=by
 match x with
 | []=>exact Nat.le_refl _
 | [c] =>
  show (if 1≤c∧c≤16 then (80+c,[]) else if c=129 then (79,[]) else K0 [c]).2.length≤1
  split
  ·simp
  ·split
   ·simp
   ·exact Nat.le_refl _
 | _ :: _ :: _=>exact Nat.le_refl _
end Go.Sha
namespace Go.Proofs.YtldccnbokbieiaaGreat
open Go.Am Go.Sha
def Y7 (w:Wd):Prop:=w.2.length≤60000∧w.1<256
theorem abO {Q:AV→Prop} {st:St} {id:Nat} {e:Int} {L:List Nat} (hb:lk id st.hp=some ⟨5,1,rb L⟩) (hq:Q (.tup [.d (nb L),.d (.int .i64 e)])):K9 Q (.tup [.own id 0 L.length L.length,.d (.int .i64 e)]) st :=
 Tk (o9 (m8 (s9 rfl hb trivial)) (o9 (C7 trivial) E8)) rfl ae hq
theorem WR {Q:AV→Prop} {st:St} {e:Int} (hq:Q (.tup [.d (nb []),.d (.int .i64 e)])):K9 Q (.tup [.nil,.d (.int .i64 e)]) st :=
 Tk (o9 (m8 (.nil 1)) (o9 (C7 trivial) E8)) rfl ae hq
theorem aeG (ws:List Wd) (hw:∀ w,w ∈ ws→Y7 w) (hl:ws.length≤10000):d9 Tryz.prog 103 [.d (.ro 2 (ws.map N6))] (fun r=>r=.tup [.d (nb (Y6 [] ws).1),.d (.int .i64 (Y6 [] ws).2)]):=by
 refine s8 Tryz.func103 Tryz.ntmps103 (rs:=[.tmp 2,.tmp 3]) ae ?_;generalize hB:Y6 [] ws=B;simp only [go_sem,Nat.reduceEqDiff,Nat.reduceAdd,Nat.reduceLT,↓reduceIte,Nat.reduceMul]
 refine j6 (fun t:Nat × List Nat=>⟨[(4,.own 1000 0 t.2.length t.2.length),(9,.d (.ro 2 (ws.map N6))),(10,.d (.int .i64 (ws.length:Int))),(11,.d (.int .i64 (t.1:Int)))],[(1000,⟨5,1,rb t.2⟩)],1001⟩)
  (fun t=>t.1≤ws.length∧t.2.length≤60003*t.1∧Y6 t.2 (ws.drop t.1)=B) (fun t=>ws.length - t.1) (0,[]) ⟨aa,ab,hB⟩ (by
   simp [m6,c6,fv,lk,AV.low,AV.low1,rb]) ?_
 clear hB;rintro ⟨k,out⟩ ⟨hk,ho,hB⟩;simp only at hk ho hB;simp only [go_sem,Nat.reduceEqDiff,Nat.reduceAdd,Nat.reduceLT,↓reduceIte,Nat.reduceMul];refine ⟨fun h=>?_,fun h=>?_⟩
 ·obtain ⟨w,hw1,hd⟩:=G3 (l:=ws) (k:=k) aa;obtain ⟨q1,q2⟩:=hw w (List.mem_of_getElem? hw1);rw [hd] at hB;simp only [Y6] at hB;have hll:=aeE w;have hrow:N6 w=[.int .u8 (w.1:Int),nb w.2]:=rfl;simp [go_sem,hw1,hrow];refine a9 (arP w q1 q2) (by intro v hv;simp at hv;subst hv;exact XJ w) ?_
  cases hok:(J0 w).2 with
  | false =>
   simp [go_sem,d6];rw [hok,if_neg ab] at hB;rw [← hB];exact WR rfl
  | true =>
   rw [hok,if_pos rfl] at hB;have w3:=m9 (k:=k) aa;generalize (J0 w).1=L at *;simp [go_sem,nb,F2,n9,T0,w3];refine ⟨aa,?_⟩;refine c8 (k+1,out ++ L) ⟨by simp only;omega,by simp only [List.length_append];omega,hB⟩ (by simp only;omega) ?_;simp [m6,c6,fv,lk,AV.low,AV.low1];exact r5 _ _
 ·rw [List.drop_eq_nil_of_le aa] at hB;simp only [Y6] at hB;simp [go_sem,d6];rw [← hB];exact abO rfl rfl
def aeH (x:List Nat):List DV:=[nb x]
theorem Un {x:List Nat} (h:x.length≤60000) (hb:bytes x):Y7 (B1 x):=by
 have g:Y7 (K0 x):=by
  unfold K0;refine ⟨h,?_⟩;simp only
  split
  ·omega
  ·split <;> omega
 match x,hb,g with
 | [],_,g=>exact g
 | [c],hb,g =>
  show Y7 (if 1≤c∧c≤16 then (80+c,[]) else if c=129 then (79,[]) else K0 [c]);by_cases hA:1≤c∧c≤16
  ·rw [if_pos hA];exact ⟨ab,by simp only;omega⟩
  ·rw [if_neg hA];by_cases hB:c=129
   ·rw [if_pos hB];exact ⟨ab,ab⟩
   ·rw [if_neg hB];exact g
 | _ :: _ :: _,_,g=>exact g
theorem aoG {hp:Hp} {I:Nat→Prop} {id:Nat} {w:Wd} (hb:lk id hp=some ⟨130,2,[SI w]⟩) (hI:I id):SnapD hp I (.own id 0 1 1) (.ro 2 ([w].map N6)) :=
 C4 (es:=[w].map N6) (by rw [hb];rfl) hI rfl (by simp [N6])
theorem agi (things:List (List Nat)) (body:List Nat) (hl:things.length≤1000) (ht:∀ x,x ∈ things→x.length≤60000∧bytes x) (hb:body.length≤100000) :
  d9 Tryz.prog 70 [.d (.ro 1 (things.map aeH)),.d (nb body)] (fun r=>r=.tup [.d (nb (al5 things body).1),.d (.int .i64 (al5 things body).2)]):=by
 refine s8 Tryz.func70 Tryz.ntmps70 (rs:=[.tmp 4,.tmp 5]) ae ?_;unfold al5;generalize hB:ac2 [] things=B;simp only [go_sem,Nat.reduceEqDiff,Nat.reduceAdd,Nat.reduceLT,↓reduceIte,Nat.reduceMul]
 refine j6 (fun t:Nat × List Nat=>⟨[(1,.d (nb body)),(6,.own 1000 0 t.2.length t.2.length),(11,.d (.ro 1 (things.map aeH))),(12,.d (.int .i64 (things.length:Int))),(13,.d (.int .i64 (t.1:Int)))],[(1000,⟨5,1,rb t.2⟩)],1001⟩)
  (fun t=>t.1≤things.length∧t.2.length≤60003*t.1∧ac2 t.2 (things.drop t.1)=B) (fun t=>things.length - t.1) (0,[]) ⟨aa,ab,hB⟩ (by
   simp [m6,c6,fv,lk,AV.low,AV.low1,rb]) ?_
 clear hB;rintro ⟨k,out⟩ ⟨hk,ho,hB⟩;simp only at hk ho hB;simp only [go_sem,Nat.reduceEqDiff,Nat.reduceAdd,Nat.reduceLT,↓reduceIte,Nat.reduceMul];refine ⟨fun h=>?_,fun h=>?_⟩
 ·obtain ⟨x,hx1,hd⟩:=G3 (l:=things) (k:=k) aa;obtain ⟨q1,q2⟩:=ht x (List.mem_of_getElem? hx1);rw [hd] at hB;simp only [ac2] at hB;by_cases hxl:1000<x.length
  ·rw [if_pos hxl] at hB;subst hB;have i1:1000<(x.length:Int):=aa;simp [go_sem,hx1,aeH,nb,i1,d6];exact WR rfl
  ·rw [if_neg hxl] at hB;have i1:¬ 1000<(x.length:Int):=aa;have hok:=UU (x:=x) aa;have hwd:=Un q1 q2;have hll:=aeE (B1 x);have hpl:(B1 x).2.length≤x.length:=RD x;have hbl:Y6 [] [B1 x]=((J0 (B1 x)).1,0):=by simp [Y6,hok]
   simp [go_sem,hx1,aeH,nb,i1];refine a9 (XI x q1 q2) ae ?_;have hsz:(SI (B1 x)).length=2:=rfl;simp [go_sem,hsz];refine B2 [1289] (aeG [B1 x] (by intro w hw;simp at hw;subst hw;exact hwd) ab) rfl (m7 (.one (m8 (aoG rfl ab))) t4) ?_;rw [hbl];have w3:=m9 (k:=k) aa;generalize (J0 (B1 x)).1=L at *;simp [go_sem,s7,nb,F2,n9,T0,w3];refine ⟨aa,?_⟩;refine c8 (k+1,out ++ L) ⟨by simp only;omega,by simp only [List.length_append];omega,hB⟩ (by simp only;omega) ?_;simp [m6,c6,fv,lk,AV.low,AV.low1,nb];exact r5 _ _
 ·rw [List.drop_eq_nil_of_le aa] at hB;simp only [ac2] at hB;subst hB;have hkl:k=things.length:=aa;simp only;by_cases hbig:1000<out.length+body.length
  ·rw [if_pos hbig];have i1:1000<((out.length+body.length:Nat):Int):=aa;have i2:1000<(out.length:Int)+(body.length:Int):=aa;simp [go_sem,nb,F2,n9,i1,i2,d6];exact ⟨aa,WR rfl⟩
  ·rw [if_neg hbig];have i1:¬ 1000<((out.length+body.length:Nat):Int):=aa;have i2:¬ 1000<(out.length:Int)+(body.length:Int):=aa;simp [go_sem,nb,F2,n9,T0,i1,i2,d6];refine ⟨aa,?_⟩;have:=abO (id:=1000) (L:=out ++ body) (e:=0) (Q:=fun r=>r=AV.tup [AV.d (nb (out ++ body)),AV.d (.int .i64 0)]) (st:=⟨[],[(1000,⟨5,1,rb (out ++ body)⟩)],0⟩) rfl rfl;simp [nb] at this;exact this
theorem aoH {a b:Nat}:decide ((a:Int)=(b:Int))=decide (a=b):=by congr 1;exact propext aa
theorem aoI (w:Wd) (hl:w.2.length≤60000) (h8:w.1<256):d9 Tryz.prog 189 [.agg (SI w)] (fun r=>r=.d (.bool (J0 w).2)):=by
 refine s8 Tryz.func189 Tryz.ntmps189 (rs:=[.tmp 2]) (by intro v hv;simp at hv;subst hv;exact XJ w) ?_;obtain ⟨op,p⟩:=w;simp only at hl h8;by_cases h1:0<op∧op≤75
 ·obtain ⟨j1,j2⟩:=h1;have i1:1≤(op:Int):=aa;have i2:(op:Int)≤75:=aa;have wi:IntKind.i64.wrap (op:Int)=(op:Int):=IntWalk.i64_in _ aa;have hy:J0 (op,p)=(op :: p,decide (p.length=op)):=by unfold J0;rw [if_pos ⟨j1,j2⟩]
  rw [hy];simp [go_sem,SI,nb,i1,i2,j2,wi,d6,aoH];exact b7 ae rfl
 ·by_cases h2:op=76
  ·subst h2;have hy:J0 (76,p)=(76 :: t8 p.length :: p,decide (p.length≤255)):=rfl;rw [hy];have hcast:decide ((p.length:Int)≤255)=decide (p.length≤255):=by congr 1;exact propext aa
   simp [go_sem,SI,nb,hcast,d6];exact b7 ae rfl
  ·by_cases h3:op=77
   ·subst h3;have hy:J0 (77,p)=(77 :: t8 p.length :: t8 (I0 8 p.length) :: p,decide (p.length≤65535)):=rfl;rw [hy];have hcast:decide ((p.length:Int)≤65535)=decide (p.length≤65535):=by congr 1;exact propext aa
    simp [go_sem,SI,nb,hcast,d6];exact b7 ae rfl
   ·have hy:J0 (op,p)=([op],decide (p.length=0)):=by unfold J0;rw [if_neg h1,if_neg h2,if_neg h3]
    rw [hy];have e2:¬ (op:Int)=76:=aa;have e3:¬ (op:Int)=77:=aa;by_cases j1:0<op
    ·have i1:1≤(op:Int):=aa;have i2:¬ (op:Int)≤75:=aa;simp [go_sem,SI,nb,i1,i2,e2,e3,d6];exact b7 ae ab
    ·have i1:¬ 1≤(op:Int):=aa;simp [go_sem,SI,nb,i1,e2,e3,d6];exact b7 ae ab
def o4 (ws:List Wd):List Nat:=(ws.map Ys).flatten
theorem agj (ws:List Wd) (hw:∀ w,w ∈ ws→Y7 w∧(J0 w).2=true) (hl:ws.length≤10000):J9 Tryz.prog 138 0 [] [.d (.ro 2 (ws.map N6))]
  (fun r hp'=>r=.tup [.own 65 0 (o4 ws).length (o4 ws).length,.d (.int .i64 0)]∧lk 65 hp'=some ⟨5,1,rb (o4 ws)⟩):=by
 refine B9 Tryz.func138 (by kernel_rfl) rfl Tryz.ntmps138 (rs:=[.tmp 2,.tmp 3]) rfl (TG rfl) (by decide) ?_;simp [go_sem]
 refine j6 (fun k:Nat=>⟨[(0,.d (.ro 2 (ws.map N6))),(4,.own 65 0 (o4 (ws.take k)).length (o4 (ws.take k)).length),(5,.d (.int .i64 (k:Int)))],[(65,⟨5,1,rb (o4 (ws.take k))⟩)],1000⟩)
  (fun k=>k≤ws.length∧(o4 (ws.take k)).length≤60003*k) (fun k=>ws.length - k) 0 ⟨aa,by simp [o4]⟩ (by
   simp [m6,c6,fv,lk,AV.low,AV.low1,o4,rb]) ?_
 rintro k ⟨hk,ho⟩;simp only [go_sem,Nat.reduceEqDiff,Nat.reduceAdd,Nat.reduceLT,↓reduceIte,Nat.reduceMul];refine ⟨fun h=>?_,fun h=>?_⟩
 ·obtain ⟨w,hw1,hd⟩:=G3 (l:=ws) (k:=k) aa;obtain ⟨⟨q1,q2⟩,q3⟩:=hw w (List.mem_of_getElem? hw1)
  have hcat:o4 (ws.take (k+1))=o4 (ws.take k) ++ Ys w:=by
   unfold o4;rw [List.take_add_one,hw1];simp
  have hll:=aeF w;have hrl:(o4 (ws.take (k+1))).length=(o4 (ws.take k)).length+(Ys w).length:=by rw [hcat,List.length_append]
  have hrow:N6 w=[.int .u8 (w.1:Int),nb w.2]:=rfl;have w3:=m9 (k:=k) aa
  have hdiv:IntKind.u8.wrap (IntKind.i64.wrap (Int.tdiv (w.2.length:Int) 256))=((t8 (I0 8 w.2.length):Nat):Int):=by
   have e:Int.tdiv (w.2.length:Int) 256=((w.2.length / 256:Nat):Int):=(Int.ofNat_tdiv _ 256).symm;rw [e,IntWalk.i64_in _ aa,E0];rfl
  have hdiv2:IntKind.u8.wrap (IntKind.i64.wrap ((w.2.length:Int) / 256))=((t8 (I0 8 w.2.length):Nat):Int):=by
   rw [← hdiv,Int.tdiv_eq_ediv_of_nonneg aa]
  simp [go_sem,hw1,hrow];refine a9 (aoI w q1 q2) (by intro v hv;simp at hv;subst hv;exact XJ w) ?_;rw [q3];obtain ⟨op,p⟩:=w;generalize o4 (ws.take k)=out at *;simp only at q1 q2 hdiv hdiv2;by_cases h2:op=76
  ·subst h2;have hr:Ys (76,p)=76 :: t8 p.length :: p:=by simp [Ys]
   rw [hr] at hcat hrl;simp [go_sem,nb,F2,n9,E0,w3];refine ⟨aa,aa,aa,?_⟩;refine c8 (k+1) ⟨aa,by rw [hrl];simp only [List.length_cons];omega⟩ aa ?_;simp [m6,c6,fv,lk,AV.low,AV.low1,hcat];exact ⟨aa,by simp [rb],r5 _ _⟩
  ·by_cases h3:op=77
   ·subst h3;have hr:Ys (77,p)=77 :: t8 p.length :: t8 (I0 8 p.length) :: p:=by simp [Ys]
    rw [hr] at hcat hrl;simp [go_sem,nb,F2,n9,E0,hdiv,w3];refine ⟨aa,aa,aa,aa,?_⟩;refine c8 (k+1) ⟨aa,by rw [hrl];simp only [List.length_cons];omega⟩ aa ?_;simp [m6,c6,fv,lk,AV.low,AV.low1,hcat];exact ⟨aa,by simp [rb,hdiv2],r5 _ _⟩
   ·have hr:Ys (op,p)=op :: p:=by simp [Ys,h2,h3]
    have e2:¬ (op:Int)=76:=aa;have e3:¬ (op:Int)=77:=aa;rw [hr] at hcat hrl;simp [go_sem,nb,F2,n9,E0,e2,e3,w3];refine ⟨aa,aa,?_⟩;refine c8 (k+1) ⟨aa,by rw [hrl];simp only [List.length_cons];omega⟩ aa ?_;simp [m6,c6,fv,lk,AV.low,AV.low1,hcat];exact ⟨aa,by simp [rb],r5 _ _⟩
 ·have hkl:k=ws.length:=aa;subst hkl;rw [List.take_length];simp [go_sem,d6]
def ac3 (things:List (List Nat)):List Wd:=things.map B1
theorem aeI:∀ (things:List (List Nat)) (out:List Nat),(∀ x,x ∈ things→x.length≤1000)→ac2 out things=some (out ++ o4 (ac3 things))
 | [],out,_=>by simp [ac2,o4,ac3]
 | x :: r,out,h=>by
  have hx:=h x (List.mem_cons_self ..);simp only [ac2];rw [if_neg aa,aeI r _ (fun y hy=>h y (List.mem_cons_of_mem _ hy)),← ac1 (UU hx)];simp [o4,ac3]
def VG:List Nat:=[86,97,117,108,116,82,101,99,111,118,101,114,121]
def Vg (x:List Nat):List Nat:=H9 VG (r7 x.length ++ x)
theorem Tv (x:List Nat):(Vg x).length=32:=F8 _
theorem agk (x:List Nat) (hx:x.length≤100000):d9 Tryz.prog 78 [.d (nb x)] (fun r=>r=.agg (cb (Vg x))):=by
 refine s8 Tryz.func78 Tryz.ntmps78 (rs:=[.cell 2 23]) ae ?_;have hp5:=Rv x.length;simp [go_sem];refine B2 [] (YI [] x ab aa) rfl (m7 (.one (m8 (.nil 1))) (m7 (.deep ae) t4)) ?_;simp [go_sem,s7];refine a9 (Uh VG (.str [86,97,117,108,116,82,101,99,111,118,101,114,121]) rfl (r7 x.length ++ x) (by simp [VG]) (by simp;omega)) ae ?_;have hR:Vg x=H9 VG (r7 x.length ++ x):=rfl;rw [← hR];have hL:=Tv x;generalize Vg x=R at *;simp [go_sem,d6,hL,d5 hL,B4];exact b7 (by simp [AV.deep];exact s6 _) rfl
theorem aeJ (x:List Nat) (hx:x.length≤100000) (hxb:bytes x):d9 Tryz.prog 137 [.d (nb x)] (fun r=>r=.agg (cb (Vg x))):=by
 refine s8 Tryz.func137 Tryz.ntmps137 (rs:=[.cell 2 23]) ae ?_;have hp5:=Rv x.length;simp [go_sem];refine B2 [] (Xq [] x ab aa) rfl (m7 (.one (m8 (.nil 1))) (m7 (.deep ae) t4)) ?_;simp [go_sem,s7]
 refine a9 (Tp VG (.str [86,97,117,108,116,82,101,99,111,118,101,114,121]) rfl (r7 x.length ++ x) (by simp [VG]) (by simp [VG]) (by simp;omega) (by
  intro y hy;rcases List.mem_append.1 hy with h | h
  ·exact abx _ y h
  ·exact hxb y h)) ae ?_
 have hR:Vg x=H9 VG (r7 x.length ++ x):=rfl;rw [← hR];have hL:=Tv x;generalize Vg x=R at *;simp [go_sem,d6,hL,d5 hL,B4];exact b7 (by simp [AV.deep];exact s6 _) rfl
theorem agl {w:Wd} (h8:w.1<256) (hp:bytes w.2):bytes (J0 w).1:=by
 unfold J0
 split
 ·intro y hy;rcases List.mem_cons.1 hy with rfl | hy
  ·exact h8
  ·exact hp y hy
 ·split
  ·intro y hy;simp only [List.mem_cons] at hy;rcases hy with rfl | rfl | hy
   ·omega
   ·exact Ui _
   ·exact hp y hy
  ·split
   ·intro y hy;simp only [List.mem_cons] at hy;rcases hy with rfl | rfl | rfl | hy
    ·omega
    ·exact Ui _
    ·exact Ui _
    ·exact hp y hy
   ·intro y hy;simp only [List.mem_singleton] at hy;rw [hy];exact h8
theorem RE {x:List Nat} (hb:bytes x):bytes (B1 x).2:=by
 match x,hb with
 | [],hb=>exact hb
 | [c],hb =>
  show bytes (if 1≤c∧c≤16 then (80+c,[]) else if c=129 then (79,[]) else K0 [c]).2
  split
  ·intro y hy;simp at hy
  ·split
   ·intro y hy;simp at hy
   ·exact hb
 | _ :: _ :: _,hb=>exact hb
end Go.Proofs.YtldccnbokbieiaaGreat
