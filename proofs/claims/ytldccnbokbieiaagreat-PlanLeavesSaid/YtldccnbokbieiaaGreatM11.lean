/-
 Part 12 of what the claim rests on.
-/
import Derived.Test.YtldccnbokbieiaaGreatM2
import Derived.Test.YtldccnbokbieiaaGreatM3
set_option linter.unusedVariables false
set_option linter.unusedSimpArgs false
set_option maxRecDepth 100000
set_option maxHeartbeats 16000000
namespace Go.Sha
abbrev Wd:=Nat × List Nat
def dD (x:List Nat):Wd:=(if x.length≤75 then x.length else if x.length≤255 then 76 else 77,x)
def bB (x:List Nat):Wd :=
 match x with
 | [c]=>if 1≤c∧c≤16 then (80+c,[]) else if c=129 then (79,[]) else dD [c]
 | x=>dD x
theorem qL {x:List Nat} (h:x.length ≠ 1):bB x=dD x:=by
 match x,h with
 | [],_=>rfl
 | [c],h=>exact absurd rfl h
 | _ :: _ :: _,_=>rfl
theorem I5 {x:Nat} (h:x<256):t8 x=x:=Nat.mod_eq_of_lt h
end Go.Sha
namespace Go.Proofs.YtldccnbokbieiaaGreat
open Go.Am Go.Sha
def eo (w:Wd):List DV:=[.int .u8 (w.1:Int),nb w.2]
def gE (w:Wd):List AV:=[.d (.int .u8 (w.1:Int)),.d (nb w.2)]
theorem jj (b:List Nat) (hl:b.length≤100000000000):aq Tryz.prog 52 [.d (nb b)] (fun r=>r=.d (nb b)):=by
 refine aS Tryz.func52 Tryz.ntmps52 (rs:=[.tmp 2]) (by simp [AV.deep,AV.deep1]) ?_
 simp only [go_sem,nb,Nat.reduceEqDiff,Nat.reduceAdd,Nat.reduceLT,↓reduceIte]
 intro t hb
 cases t with
 | true =>
  have h0:b=[]:=List.eq_nil_of_length_eq_zero (by simpa using hb rfl)
  subst h0
  simp only [go_sem,Nat.reduceEqDiff,Nat.reduceAdd,Nat.reduceLT,↓reduceIte]
  exact ca (.inr ⟨_,rfl,.nil 1⟩) (by simp [AV.deep,AV.deep1]) rfl
 | false =>
  simp [go_sem,cB,aC]
  refine ⟨by omega,ca (aw (aM (L:=b) rfl rfl trivial)) (by simp [AV.deep,AV.deep1]) rfl⟩
theorem ni (x:List Nat) (hl:x.length≤60000) (hxb:bytes x):aq Tryz.prog 96 [.d (nb x)] (fun r=>r=.agg (gE (bB x))):=by
 refine aS Tryz.func96 Tryz.ntmps96 (rs:=[.cell 2 130]) (by simp [AV.deep,AV.deep1]) ?_
 by_cases h1:x.length=1
 ·obtain ⟨c,rfl⟩:∃ c,x=[c]:=by
   match x,h1 with
   | [c],_=>exact ⟨c,rfl⟩
  have hc:=hxb c (by simp)
  by_cases hA:1≤c∧c≤16
  ·have i1:1≤(c:Int):=by omega
   have i2:(c:Int)≤16:=by omega
   have hP:bB [c]=(80+c,[]):=if_pos hA
   have w:IntKind.u8.wrap (80+(c:Int))=((80+c:Nat):Int):=by rw [AW];omega
   rw [hP]
   simp [go_sem,nb,i1,i2,w,ak]
   exact eU (aG (cf trivial) (aG (aw (.nil 1)) cM)) rfl (by simp [AV.deep,AV.deep1]) (by simp [gE,nb])
  ·by_cases hB:c=129
   ·subst hB
    have hP:bB [129]=(79,[]):=rfl
    rw [hP]
    simp [go_sem,nb,ak]
    exact eU (aG (cf trivial) (aG (aw (.nil 1)) cM)) rfl (by simp [AV.deep,AV.deep1]) (by simp [gE,nb])
   ·have hP:bB [c]=dD [c]:=(if_neg hA).trans (if_neg hB)
    have hB':¬ (c:Int)=129:=by omega
    rw [hP]
    by_cases j1:1≤c
    ·have i1:1≤(c:Int):=by omega
     have i2:¬ (c:Int)≤16:=by omega
     simp [go_sem,nb,i1,i2,hB']
     refine ab (jj [c] (by simp)) (by simp [AV.deep,AV.deep1]) ?_
     simp [go_sem,ak,cm,nb]
     refine ae (by simp [AV.deep,AV.deep1]) ?_
     simp [dD,gE,nb]
     decide
    ·have i1:¬ 1≤(c:Int):=by omega
     simp [go_sem,nb,i1,hB']
     refine ab (jj [c] (by simp)) (by simp [AV.deep,AV.deep1]) ?_
     simp [go_sem,ak,cm,nb]
     refine ae (by simp [AV.deep,AV.deep1]) ?_
     simp [dD,gE,nb]
     decide
 ·have h1':¬ (x.length:Int)=1:=by omega
  rw [qL h1]
  simp [go_sem,nb,h1']
  refine ab (jj x (by omega)) (by simp [AV.deep,AV.deep1]) ?_
  rcases (by omega:x.length≤75 ∨ (75<x.length∧x.length≤255) ∨ 255<x.length) with hn | ⟨hn,hn2⟩ | hn
  ·have i1:(x.length:Int)≤75:=by omega
   simp [go_sem,i1,ak,cm]
   refine ae (by simp [AV.deep,AV.deep1]) ?_
   simp [dD,gE,nb,hn,I5 (show x.length<256 by omega)]
  ·have i1:¬ (x.length:Int)≤75:=by omega
   have i2:(x.length:Int)≤255:=by omega
   have n1:¬ x.length≤75:=by omega
   simp [go_sem,i1,i2,ak]
   refine ae (by simp [AV.deep,AV.deep1]) ?_
   simp [dD,gE,nb,n1,hn2]
  ·have i1:¬ (x.length:Int)≤75:=by omega
   have i2:¬ (x.length:Int)≤255:=by omega
   have n1:¬ x.length≤75:=by omega
   have n2:¬ x.length≤255:=by omega
   simp [go_sem,i1,i2,ak]
   refine ae (by simp [AV.deep,AV.deep1]) ?_
   simp [dD,gE,nb,n1,n2]
theorem kI (x:List Nat) (hl:x.length≤60000) (hxb:bytes x):aq Tryz.prog 101 [.d (nb x)] (fun r=>r=.agg (gE (bB x))):=by
 refine aS Tryz.func101 Tryz.ntmps101 (rs:=[.cell 2 130]) (by simp [AV.deep,AV.deep1]) ?_
 by_cases h1:x.length=1
 ·obtain ⟨c,rfl⟩:∃ c,x=[c]:=by
   match x,h1 with
   | [c],_=>exact ⟨c,rfl⟩
  have hc:=hxb c (by simp)
  by_cases hA:1≤c∧c≤16
  ·have i1:1≤(c:Int):=by omega
   have i2:(c:Int)≤16:=by omega
   have hP:bB [c]=(80+c,[]):=if_pos hA
   have w:IntKind.u8.wrap (80+(c:Int))=((80+c:Nat):Int):=by rw [AW];omega
   rw [hP]
   simp [go_sem,nb,i1,i2,w,ak]
   exact eU (aG (cf trivial) (aG (aw (.nil 1)) cM)) rfl (by simp [AV.deep,AV.deep1]) (by simp [gE,nb])
  ·by_cases hB:c=129
   ·subst hB
    have hP:bB [129]=(79,[]):=rfl
    rw [hP]
    simp [go_sem,nb,ak]
    exact eU (aG (cf trivial) (aG (aw (.nil 1)) cM)) rfl (by simp [AV.deep,AV.deep1]) (by simp [gE,nb])
   ·have hP:bB [c]=dD [c]:=(if_neg hA).trans (if_neg hB)
    have hB':¬ (c:Int)=129:=by omega
    rw [hP]
    by_cases j1:1≤c
    ·have i1:1≤(c:Int):=by omega
     have i2:¬ (c:Int)≤16:=by omega
     simp [go_sem,nb,i1,i2,hB',ak,cm]
     exact eU (cs':=gE (dD [c])) (aG (.inl ⟨by simp [dD];decide,trivial⟩) (aG (aw (aM (L:=[c]) rfl rfl trivial)) cM)) rfl (by simp [AV.deep,AV.deep1,gE]) rfl
    ·have i1:¬ 1≤(c:Int):=by omega
     simp [go_sem,nb,i1,hB',ak,cm]
     exact eU (cs':=gE (dD [c])) (aG (.inl ⟨by simp [dD];decide,trivial⟩) (aG (aw (aM (L:=[c]) rfl rfl trivial)) cM)) rfl (by simp [AV.deep,AV.deep1,gE]) rfl
 ·have h1':¬ (x.length:Int)=1:=by omega
  rw [qL h1]
  rcases (by omega:x.length≤75 ∨ (75<x.length∧x.length≤255) ∨ 255<x.length) with hn | ⟨hn,hn2⟩ | hn
  ·have i1:(x.length:Int)≤75:=by omega
   have i2:(x.length:Int)≤255:=by omega
   simp [go_sem,nb,h1',i1,i2,ak,cm,cB,aC]
   refine ⟨by omega,eU (cs':=gE (dD x)) (aG (.inl ⟨by simp [dD,hn,I5 (show x.length<256 by omega)],trivial⟩) (aG (aw (aM (L:=x) rfl rfl trivial)) cM)) rfl (by simp [AV.deep,AV.deep1,gE]) rfl⟩
  ·have i1:¬ (x.length:Int)≤75:=by omega
   have i2:(x.length:Int)≤255:=by omega
   have n1:¬ x.length≤75:=by omega
   simp [go_sem,nb,h1',i1,i2,ak,cm,cB,aC]
   refine ⟨by omega,eU (cs':=gE (dD x)) (aG (.inl ⟨by simp [dD,n1,hn2],trivial⟩) (aG (aw (aM (L:=x) rfl rfl trivial)) cM)) rfl (by simp [AV.deep,AV.deep1,gE]) rfl⟩
  ·have i1:¬ (x.length:Int)≤75:=by omega
   have i2:¬ (x.length:Int)≤255:=by omega
   have n1:¬ x.length≤75:=by omega
   have n2:¬ x.length≤255:=by omega
   simp [go_sem,nb,h1',i1,i2,ak,cm,cB,aC]
   refine ⟨by omega,eU (cs':=gE (dD x)) (aG (.inl ⟨by simp [dD,n1,n2],trivial⟩) (aG (aw (aM (L:=x) rfl rfl trivial)) cM)) rfl (by simp [AV.deep,AV.deep1,gE]) rfl⟩
end Go.Proofs.YtldccnbokbieiaaGreat
namespace Go.Sha
def dj (w:Wd):List Nat × Bool :=
 if 0<w.1∧w.1≤75 then (w.1 :: w.2,decide (w.2.length=w.1))
 else if w.1=76 then (76 :: t8 w.2.length :: w.2,decide (w.2.length≤255))
 else if w.1=77 then (77 :: t8 w.2.length :: t8 (c7 8 w.2.length) :: w.2,decide (w.2.length≤65535))
 else ([w.1],decide (w.2.length=0))
theorem wX (w:Wd):(dj w).1.length≤w.2.length+3:=by
 unfold dj
 split
 ·simp
 ·split
  ·simp
  ·split
   ·simp
   ·simp
def pA:List Nat→List Wd→List Nat × Int
 | out,[]=>(out,0)
 | out,w :: r=>if (dj w).2=true then pA (out ++ (dj w).1) r else ([],1)
def og (w:Wd):List Nat:=[w.1] ++ (if w.1=76 ∨ w.1=77 then [t8 w.2.length] else []) ++ (if w.1=77 then [t8 (c7 8 w.2.length)] else []) ++ w.2
theorem uh {w:Wd} (h:(dj w).2=true):og w=(dj w).1:=by
 unfold dj at h ⊢
 unfold og
 by_cases h1:0<w.1∧w.1≤75
 ·have n1:¬ (w.1=76 ∨ w.1=77):=by omega
  have n2:¬ w.1=77:=by omega
  rw [if_pos h1,if_neg n1,if_neg n2]
  simp
 ·by_cases h2:w.1=76
  ·simp [h1,h2]
  ·by_cases h3:w.1=77
   ·simp [h1,h2,h3]
   ·rw [if_neg h1,if_neg h2,if_neg h3] at h
    have:w.2=[]:=by simpa using h
    simp [h1,h2,h3,this]
end Go.Sha
namespace Go.Proofs.YtldccnbokbieiaaGreat
open Go.Am Go.Sha
theorem nj (w:Wd):∀ c,c ∈ gE w→c.deep1:=by
 intro c hc
 simp [gE] at hc
 rcases hc with rfl | rfl <;> trivial
theorem kJ {Q:AV→Prop} {st:St} {id n:Nat} {b:Bool} {L:List Nat} (hl:L.length=n) (hb:lk id st.hp=some ⟨5,1,rb L⟩) (hq:Q (.tup [.d (nb L),.d (.bool b)])):dW Q (.tup [.own id 0 n n,.d (.bool b)]) st :=
 ji (aG (aw (aM hl hb trivial)) (aG (cf trivial) cM)) rfl (by simp [AV.deep,AV.deep1]) hq
theorem JJ (w:Wd) (hl:w.2.length≤60000) (h8:w.1<256):aq Tryz.prog 140 [.agg (gE w)] (fun r=>r=.tup [.d (nb (dj w).1),.d (.bool (dj w).2)]):=by
 refine aS Tryz.func140 Tryz.ntmps140 (rs:=[.tmp 2,.tmp 3]) (by intro v hv;simp at hv;subst hv;exact nj w) ?_
 obtain ⟨op,p⟩:=w
 simp only at hl h8
 by_cases h1:0<op∧op≤75
 ·obtain ⟨j1,j2⟩:=h1
  have i1:0<(op:Int):=by omega
  have i2:(op:Int)≤75:=by omega
  have wi:IntKind.i64.wrap (op:Int)=(op:Int):=IntWalk.i64_in _ (by omega)
  simp [go_sem,gE,i1,i2,j1,j2]
  refine bk [0,1,3,4,6,7,8,9,10] [(2,[]),(5,[11,12])] 2 (k:=13) ?_
  intro G hG
  simp [go_sem,nb,cB,wi,aC]
  refine ⟨by omega,hG _ _ ?_⟩
  clear hG G
  have hy:dj (op,p)=(op :: p,decide (p.length=op)):=by unfold dj;rw [if_pos ⟨j1,j2⟩]
  rw [hy]
  have hcast:decide ((p.length:Int)=(op:Int))=decide (p.length=op):=by congr 1;exact propext (by omega)
  simp [go_sem,ak,hcast]
  exact kJ (L:=op :: p) (by simp;omega) rfl rfl
 ·by_cases h2:op=76
  ·subst h2
   have hy:dj (76,p)=(76 :: t8 p.length :: p,decide (p.length≤255)):=rfl
   rw [hy]
   have hcast:decide ((p.length:Int)≤255)=decide (p.length≤255):=by congr 1;exact propext (by omega)
   simp [go_sem,gE,nb,cB,aC,cm,hcast,ak]
   exact ⟨by omega,kJ (L:=76 :: t8 p.length :: p) (by simp;omega) rfl (by simp [nb])⟩
  ·by_cases h3:op=77
   ·subst h3
    have hy:dj (77,p)=(77 :: t8 p.length :: t8 (c7 8 p.length) :: p,decide (p.length≤65535)):=rfl
    rw [hy]
    have hcast:decide ((p.length:Int)≤65535)=decide (p.length≤65535):=by congr 1;exact propext (by omega)
    simp [go_sem,gE,nb,cB,aC,cm,hcast,ak,IntKind.bits,zM]
    exact ⟨by omega,kJ (L:=77 :: t8 p.length :: t8 (c7 8 p.length) :: p) (by simp;omega) rfl (by simp [nb])⟩
   ·have hy:dj (op,p)=([op],decide (p.length=0)):=by unfold dj;rw [if_neg h1,if_neg h2,if_neg h3]
    rw [hy]
    have e2:¬ (op:Int)=76:=by omega
    have e3:¬ (op:Int)=77:=by omega
    have hcast:decide ((p.length:Int)=0)=decide (p.length=0):=by congr 1;exact propext (by omega)
    by_cases j1:0<op
    ·have i1:0<(op:Int):=by omega
     have i2:¬ (op:Int)≤75:=by omega
     simp [go_sem,gE,nb,cB,aC,i1,j1,i2,e2,e3,hcast,ak]
     refine kJ (L:=[op]) (id:=832) rfl rfl ?_
     simp [nb]
    ·have i1:¬ 0<(op:Int):=by omega
     simp [go_sem,gE,nb,cB,aC,i1,j1,e2,e3,hcast,ak]
     refine kJ (L:=[op]) (id:=832) rfl rfl ?_
     simp [nb]
end Go.Proofs.YtldccnbokbieiaaGreat
namespace Go.Sha
theorem wY (w:Wd):(og w).length≤w.2.length+3:=by
 unfold og
 simp only [List.length_append]
 split <;> split <;> simp <;> omega
def ui:List Nat→List (List Nat)→Option (List Nat)
 | out,[]=>some out
 | out,x :: r=>if 1000<x.length then none else ui (out ++ (dj (bB x)).1) r
def Dx (things:List (List Nat)) (body:List Nat):List Nat × Int :=
 match ui [] things with
 | none=>([],4)
 | some out=>if 1000<(out ++ body).length then ([],4) else (out ++ body,0)
theorem jN {x:List Nat} (h:x.length≤1000):(dj (bB x)).2=true:=by
 have g:(dj (dD x)).2=true:=by
  unfold dD dj
  by_cases h1:x.length≤75
  ·by_cases h0:x.length=0
   ·have:x=[]:=List.eq_nil_of_length_eq_zero h0
    subst this
    rfl
   ·have:0<x.length∧x.length≤75:=by omega
    simp [h1,this]
  ·by_cases h2:x.length≤255
   ·simp [h1,h2]
   ·simp [h1,h2]
    omega
 match x,g with
 | [],g=>exact g
 | [c],g =>
  show (dj (if 1≤c∧c≤16 then (80+c,[]) else if c=129 then (79,[]) else dD [c])).2=true
  by_cases hA:1≤c∧c≤16
  ·rw [if_pos hA]
   unfold dj
   have n1:¬ (0<80+c∧80+c≤75):=by omega
   have n2:¬ 80+c=76:=by omega
   have n3:¬ 80+c=77:=by omega
   simp [n1,n2,n3]
  ·rw [if_neg hA]
   by_cases hB:c=129
   ·rw [if_pos hB];rfl
   ·rw [if_neg hB];exact g
 | _ :: _ :: _,g=>exact g
end Go.Sha
namespace Go.Sha
theorem fq (x:List Nat):(bB x).2.length≤x.length:=by
 match x with
 | []=>exact Nat.le_refl _
 | [c] =>
  show (if 1≤c∧c≤16 then (80+c,[]) else if c=129 then (79,[]) else dD [c]).2.length≤1
  split
  ·simp
  ·split
   ·simp
   ·exact Nat.le_refl _
 | _ :: _ :: _=>exact Nat.le_refl _
end Go.Sha
namespace Go.Proofs.YtldccnbokbieiaaGreat
open Go.Am Go.Sha
def pD (w:Wd):Prop:=w.2.length≤60000∧w.1<256
theorem sP {Q:AV→Prop} {st:St} {id:Nat} {e:Int} {L:List Nat} (hb:lk id st.hp=some ⟨5,1,rb L⟩) (hq:Q (.tup [.d (nb L),.d (.int .i64 e)])):dW Q (.tup [.own id 0 L.length L.length,.d (.int .i64 e)]) st :=
 ji (aG (aw (aM rfl hb trivial)) (aG (cf trivial) cM)) rfl (by simp [AV.deep,AV.deep1]) hq
theorem mB {Q:AV→Prop} {st:St} {e:Int} (hq:Q (.tup [.d (nb []),.d (.int .i64 e)])):dW Q (.tup [.nil,.d (.int .i64 e)]) st :=
 ji (aG (aw (.nil 1)) (aG (cf trivial) cM)) rfl (by simp [AV.deep,AV.deep1]) hq
theorem wZ (ws:List Wd) (hw:∀ w,w ∈ ws→pD w) (hl:ws.length≤10000):aq Tryz.prog 103 [.d (.ro 2 (ws.map eo))] (fun r=>r=.tup [.d (nb (pA [] ws).1),.d (.int .i64 (pA [] ws).2)]):=by
 refine aS Tryz.func103 Tryz.ntmps103 (rs:=[.tmp 2,.tmp 3]) (by simp [AV.deep,AV.deep1]) ?_
 generalize hB:pA [] ws=B
 simp only [go_sem,Nat.reduceEqDiff,Nat.reduceAdd,Nat.reduceLT,↓reduceIte,Nat.reduceMul]
 refine au (fun t:Nat × List Nat=>⟨[(4,.own 1000 0 t.2.length t.2.length),(9,.d (.ro 2 (ws.map eo))),(10,.d (.int .i64 (ws.length:Int))),(11,.d (.int .i64 (t.1:Int)))],[(1000,⟨5,1,rb t.2⟩)],1001⟩)
  (fun t=>t.1≤ws.length∧t.2.length≤60003*t.1∧pA t.2 (ws.drop t.1)=B) (fun t=>ws.length - t.1) (0,[]) ⟨by omega,by simp,hB⟩ (by
   simp [av,ag,fv,lk,AV.low,AV.low1,rb]) ?_
 clear hB
 rintro ⟨k,out⟩ ⟨hk,ho,hB⟩
 simp only at hk ho hB
 simp only [go_sem,Nat.reduceEqDiff,Nat.reduceAdd,Nat.reduceLT,↓reduceIte,Nat.reduceMul]
 refine ⟨fun h=>?_,fun h=>?_⟩
 ·obtain ⟨w,hw1,hd⟩:=cN (l:=ws) (k:=k) (by omega)
  obtain ⟨q1,q2⟩:=hw w (List.mem_of_getElem? hw1)
  rw [hd] at hB
  simp only [pA] at hB
  have hll:=wX w
  have hrow:eo w=[.int .u8 (w.1:Int),nb w.2]:=rfl
  simp [go_sem,hw1,hrow]
  refine ab (JJ w q1 q2) (by intro v hv;simp at hv;subst hv;exact nj w) ?_
  cases hok:(dj w).2 with
  | false =>
   simp [go_sem,ak]
   rw [hok,if_neg (by simp)] at hB
   rw [← hB]
   exact mB rfl
  | true =>
   rw [hok,if_pos rfl] at hB
   have w3:=ax (k:=k) (by omega)
   generalize (dj w).1=L at *
   simp [go_sem,nb,cB,aC,jc,w3]
   refine ⟨by omega,?_⟩
   refine ai (k+1,out ++ L) ⟨by simp only;omega,by simp only [List.length_append];omega,hB⟩ (by simp only;omega) ?_
   simp [av,ag,fv,lk,AV.low,AV.low1]
   exact aV _ _
 ·rw [List.drop_eq_nil_of_le (by omega)] at hB
  simp only [pA] at hB
  simp [go_sem,ak]
  rw [← hB]
  exact sP rfl rfl
def w9 (x:List Nat):List DV:=[nb x]
theorem jk {x:List Nat} (h:x.length≤60000) (hb:bytes x):pD (bB x):=by
 have g:pD (dD x):=by
  unfold dD
  refine ⟨h,?_⟩
  simp only
  split
  ·omega
  ·split <;> omega
 match x,hb,g with
 | [],_,g=>exact g
 | [c],hb,g =>
  show pD (if 1≤c∧c≤16 then (80+c,[]) else if c=129 then (79,[]) else dD [c])
  by_cases hA:1≤c∧c≤16
  ·rw [if_pos hA];exact ⟨by simp,by simp only;omega⟩
  ·rw [if_neg hA]
   by_cases hB:c=129
   ·rw [if_pos hB];exact ⟨by simp,by simp⟩
   ·rw [if_neg hB];exact g
 | _ :: _ :: _,_,g=>exact g
theorem GI {hp:Hp} {I:Nat→Prop} {id:Nat} {w:Wd} (hb:lk id hp=some ⟨130,2,[gE w]⟩) (hI:I id):SnapD hp I (.own id 0 1 1) (.ro 2 ([w].map eo)) :=
 cq (es:=[w].map eo) (by rw [hb];rfl) hI rfl (by simp [eo])
theorem zk (things:List (List Nat)) (body:List Nat) (hl:things.length≤1000) (ht:∀ x,x ∈ things→x.length≤60000∧bytes x) (hb:body.length≤100000) :
  aq Tryz.prog 70 [.d (.ro 1 (things.map w9)),.d (nb body)] (fun r=>r=.tup [.d (nb (Dx things body).1),.d (.int .i64 (Dx things body).2)]):=by
 refine aS Tryz.func70 Tryz.ntmps70 (rs:=[.tmp 4,.tmp 5]) (by simp [AV.deep,AV.deep1]) ?_
 unfold Dx
 generalize hB:ui [] things=B
 simp only [go_sem,Nat.reduceEqDiff,Nat.reduceAdd,Nat.reduceLT,↓reduceIte,Nat.reduceMul]
 refine au (fun t:Nat × List Nat=>⟨[(1,.d (nb body)),(6,.own 1000 0 t.2.length t.2.length),(11,.d (.ro 1 (things.map w9))),(12,.d (.int .i64 (things.length:Int))),(13,.d (.int .i64 (t.1:Int)))],[(1000,⟨5,1,rb t.2⟩)],1001⟩)
  (fun t=>t.1≤things.length∧t.2.length≤60003*t.1∧ui t.2 (things.drop t.1)=B) (fun t=>things.length - t.1) (0,[]) ⟨by omega,by simp,hB⟩ (by
   simp [av,ag,fv,lk,AV.low,AV.low1,rb]) ?_
 clear hB
 rintro ⟨k,out⟩ ⟨hk,ho,hB⟩
 simp only at hk ho hB
 simp only [go_sem,Nat.reduceEqDiff,Nat.reduceAdd,Nat.reduceLT,↓reduceIte,Nat.reduceMul]
 refine ⟨fun h=>?_,fun h=>?_⟩
 ·obtain ⟨x,hx1,hd⟩:=cN (l:=things) (k:=k) (by omega)
  obtain ⟨q1,q2⟩:=ht x (List.mem_of_getElem? hx1)
  rw [hd] at hB
  simp only [ui] at hB
  by_cases hxl:1000<x.length
  ·rw [if_pos hxl] at hB
   subst hB
   have i1:1000<(x.length:Int):=by omega
   simp [go_sem,hx1,w9,nb,i1,ak]
   exact mB rfl
  ·rw [if_neg hxl] at hB
   have i1:¬ 1000<(x.length:Int):=by omega
   have hok:=jN (x:=x) (by omega)
   have hwd:=jk q1 q2
   have hll:=wX (bB x)
   have hpl:(bB x).2.length≤x.length:=fq x
   have hbl:pA [] [bB x]=((dj (bB x)).1,0):=by simp [pA,hok]
   simp [go_sem,hx1,w9,nb,i1]
   refine ab (ni x q1 q2) (by simp [AV.deep,AV.deep1]) ?_
   have hsz:(gE (bB x)).length=2:=rfl
   simp [go_sem,hsz]
   refine bU [1289] (wZ [bB x] (by intro w hw;simp at hw;subst hw;exact hwd) (by simp)) rfl (ay (.one (aw (GI rfl (by simp)))) aT) ?_
   rw [hbl]
   have w3:=ax (k:=k) (by omega)
   generalize (dj (bB x)).1=L at *
   simp [go_sem,aQ,nb,cB,aC,jc,w3]
   refine ⟨by omega,?_⟩
   refine ai (k+1,out ++ L) ⟨by simp only;omega,by simp only [List.length_append];omega,hB⟩ (by simp only;omega) ?_
   simp [av,ag,fv,lk,AV.low,AV.low1,nb]
   exact aV _ _
 ·rw [List.drop_eq_nil_of_le (by omega)] at hB
  simp only [ui] at hB
  subst hB
  have hkl:k=things.length:=by omega
  simp only
  by_cases hbig:1000<out.length+body.length
  ·rw [if_pos hbig]
   have i1:1000<((out.length+body.length:Nat):Int):=by omega
   have i2:1000<(out.length:Int)+(body.length:Int):=by omega
   simp [go_sem,nb,cB,aC,i1,i2,ak]
   exact ⟨by omega,mB rfl⟩
  ·rw [if_neg hbig]
   have i1:¬ 1000<((out.length+body.length:Nat):Int):=by omega
   have i2:¬ 1000<(out.length:Int)+(body.length:Int):=by omega
   simp [go_sem,nb,cB,aC,jc,i1,i2,ak]
   refine ⟨by omega,?_⟩
   have:=sP (id:=1000) (L:=out ++ body) (e:=0) (Q:=fun r=>r=AV.tup [AV.d (nb (out ++ body)),AV.d (.int .i64 0)]) (st:=⟨[],[(1000,⟨5,1,rb (out ++ body)⟩)],0⟩) rfl rfl
   simp [nb] at this
   exact this
theorem GJ {a b:Nat}:decide ((a:Int)=(b:Int))=decide (a=b):=by congr 1;exact propext (by omega)
theorem GK (w:Wd) (hl:w.2.length≤60000) (h8:w.1<256):aq Tryz.prog 189 [.agg (gE w)] (fun r=>r=.d (.bool (dj w).2)):=by
 refine aS Tryz.func189 Tryz.ntmps189 (rs:=[.tmp 2]) (by intro v hv;simp at hv;subst hv;exact nj w) ?_
 obtain ⟨op,p⟩:=w
 simp only at hl h8
 by_cases h1:0<op∧op≤75
 ·obtain ⟨j1,j2⟩:=h1
  have i1:1≤(op:Int):=by omega
  have i2:(op:Int)≤75:=by omega
  have wi:IntKind.i64.wrap (op:Int)=(op:Int):=IntWalk.i64_in _ (by omega)
  have hy:dj (op,p)=(op :: p,decide (p.length=op)):=by unfold dj;rw [if_pos ⟨j1,j2⟩]
  rw [hy]
  simp [go_sem,gE,nb,i1,i2,j2,wi,ak,GJ]
  exact ae (by simp [AV.deep,AV.deep1]) rfl
 ·by_cases h2:op=76
  ·subst h2
   have hy:dj (76,p)=(76 :: t8 p.length :: p,decide (p.length≤255)):=rfl
   rw [hy]
   have hcast:decide ((p.length:Int)≤255)=decide (p.length≤255):=by congr 1;exact propext (by omega)
   simp [go_sem,gE,nb,hcast,ak]
   exact ae (by simp [AV.deep,AV.deep1]) rfl
  ·by_cases h3:op=77
   ·subst h3
    have hy:dj (77,p)=(77 :: t8 p.length :: t8 (c7 8 p.length) :: p,decide (p.length≤65535)):=rfl
    rw [hy]
    have hcast:decide ((p.length:Int)≤65535)=decide (p.length≤65535):=by congr 1;exact propext (by omega)
    simp [go_sem,gE,nb,hcast,ak]
    exact ae (by simp [AV.deep,AV.deep1]) rfl
   ·have hy:dj (op,p)=([op],decide (p.length=0)):=by unfold dj;rw [if_neg h1,if_neg h2,if_neg h3]
    rw [hy]
    have e2:¬ (op:Int)=76:=by omega
    have e3:¬ (op:Int)=77:=by omega
    by_cases j1:0<op
    ·have i1:1≤(op:Int):=by omega
     have i2:¬ (op:Int)≤75:=by omega
     simp [go_sem,gE,nb,i1,i2,e2,e3,ak]
     exact ae (by simp [AV.deep,AV.deep1]) (by simp)
    ·have i1:¬ 1≤(op:Int):=by omega
     simp [go_sem,gE,nb,i1,e2,e3,ak]
     exact ae (by simp [AV.deep,AV.deep1]) (by simp)
def az (ws:List Wd):List Nat:=(ws.map og).flatten
theorem zo (ws:List Wd) (hw:∀ w,w ∈ ws→pD w∧(dj w).2=true) (hl:ws.length≤10000):dO Tryz.prog 138 0 [] [.d (.ro 2 (ws.map eo))]
  (fun r hp'=>r=.tup [.own 65 0 (az ws).length (az ws).length,.d (.int .i64 0)]∧lk 65 hp'=some ⟨5,1,rb (az ws)⟩):=by
 refine b7 Tryz.func138 (by kernel_rfl) rfl Tryz.ntmps138 (rs:=[.tmp 2,.tmp 3]) rfl (jy rfl) (by decide) ?_
 simp [go_sem]
 refine au (fun k:Nat=>⟨[(0,.d (.ro 2 (ws.map eo))),(4,.own 65 0 (az (ws.take k)).length (az (ws.take k)).length),(5,.d (.int .i64 (k:Int)))],[(65,⟨5,1,rb (az (ws.take k))⟩)],1000⟩)
  (fun k=>k≤ws.length∧(az (ws.take k)).length≤60003*k) (fun k=>ws.length - k) 0 ⟨by omega,by simp [az]⟩ (by
   simp [av,ag,fv,lk,AV.low,AV.low1,az,rb]) ?_
 rintro k ⟨hk,ho⟩
 simp only [go_sem,Nat.reduceEqDiff,Nat.reduceAdd,Nat.reduceLT,↓reduceIte,Nat.reduceMul]
 refine ⟨fun h=>?_,fun h=>?_⟩
 ·obtain ⟨w,hw1,hd⟩:=cN (l:=ws) (k:=k) (by omega)
  obtain ⟨⟨q1,q2⟩,q3⟩:=hw w (List.mem_of_getElem? hw1)
  have hcat:az (ws.take (k+1))=az (ws.take k) ++ og w:=by
   unfold az
   rw [List.take_add_one,hw1]
   simp
  have hll:=wY w
  have hrl:(az (ws.take (k+1))).length=(az (ws.take k)).length+(og w).length:=by rw [hcat,List.length_append]
  have hrow:eo w=[.int .u8 (w.1:Int),nb w.2]:=rfl
  have w3:=ax (k:=k) (by omega)
  have hdiv:IntKind.u8.wrap (IntKind.i64.wrap (Int.tdiv (w.2.length:Int) 256))=((t8 (c7 8 w.2.length):Nat):Int):=by
   have e:Int.tdiv (w.2.length:Int) 256=((w.2.length / 256:Nat):Int):=(Int.ofNat_tdiv _ 256).symm
   rw [e,IntWalk.i64_in _ (by omega),cm]
   rfl
  have hdiv2:IntKind.u8.wrap (IntKind.i64.wrap ((w.2.length:Int) / 256))=((t8 (c7 8 w.2.length):Nat):Int):=by
   rw [← hdiv,Int.tdiv_eq_ediv_of_nonneg (by omega)]
  simp [go_sem,hw1,hrow]
  refine ab (GK w q1 q2) (by intro v hv;simp at hv;subst hv;exact nj w) ?_
  rw [q3]
  obtain ⟨op,p⟩:=w
  generalize az (ws.take k)=out at *
  simp only at q1 q2 hdiv hdiv2
  by_cases h2:op=76
  ·subst h2
   have hr:og (76,p)=76 :: t8 p.length :: p:=by simp [og]
   rw [hr] at hcat hrl
   simp [go_sem,nb,cB,aC,cm,w3]
   refine ⟨by omega,by omega,by omega,?_⟩
   refine ai (k+1) ⟨by omega,by rw [hrl];simp only [List.length_cons];omega⟩ (by omega) ?_
   simp [av,ag,fv,lk,AV.low,AV.low1,hcat]
   exact ⟨by omega,by simp [rb],aV _ _⟩
  ·by_cases h3:op=77
   ·subst h3
    have hr:og (77,p)=77 :: t8 p.length :: t8 (c7 8 p.length) :: p:=by simp [og]
    rw [hr] at hcat hrl
    simp [go_sem,nb,cB,aC,cm,hdiv,w3]
    refine ⟨by omega,by omega,by omega,by omega,?_⟩
    refine ai (k+1) ⟨by omega,by rw [hrl];simp only [List.length_cons];omega⟩ (by omega) ?_
    simp [av,ag,fv,lk,AV.low,AV.low1,hcat]
    exact ⟨by omega,by simp [rb,hdiv2],aV _ _⟩
   ·have hr:og (op,p)=op :: p:=by simp [og,h2,h3]
    have e2:¬ (op:Int)=76:=by omega
    have e3:¬ (op:Int)=77:=by omega
    rw [hr] at hcat hrl
    simp [go_sem,nb,cB,aC,cm,e2,e3,w3]
    refine ⟨by omega,by omega,?_⟩
    refine ai (k+1) ⟨by omega,by rw [hrl];simp only [List.length_cons];omega⟩ (by omega) ?_
    simp [av,ag,fv,lk,AV.low,AV.low1,hcat]
    exact ⟨by omega,by simp [rb],aV _ _⟩
 ·have hkl:k=ws.length:=by omega
  subst hkl
  rw [List.take_length]
  simp [go_sem,ak]
def uj (things:List (List Nat)):List Wd:=things.map bB
theorem xb:∀ (things:List (List Nat)) (out:List Nat),(∀ x,x ∈ things→x.length≤1000)→ui out things=some (out ++ az (uj things))
 | [],out,_=>by simp [ui,az,uj]
 | x :: r,out,h=>by
  have hx:=h x (List.mem_cons_self ..)
  simp only [ui]
  rw [if_neg (by omega),xb r _ (fun y hy=>h y (List.mem_cons_of_mem _ hy)),← uh (jN hx)]
  simp [az,uj]
def kK:List Nat:=[86,97,117,108,116,82,101,99,111,118,101,114,121]
def kr (x:List Nat):List Nat:=c6 kK (aI x.length ++ x)
theorem io (x:List Nat):(kr x).length=32:=cE _
theorem zp (x:List Nat) (hx:x.length≤100000):aq Tryz.prog 78 [.d (nb x)] (fun r=>r=.agg (cb (kr x))):=by
 refine aS Tryz.func78 Tryz.ntmps78 (rs:=[.cell 2 23]) (by simp [AV.deep,AV.deep1]) ?_
 have hp5:=fx x.length
 simp [go_sem]
 refine bU [] (pp [] x (by simp) (by omega)) rfl (ay (.one (aw (.nil 1))) (ay (.deep (by simp [AV.deep,AV.deep1])) aT)) ?_
 simp [go_sem,aQ]
 refine ab (jB kK (.str [86,97,117,108,116,82,101,99,111,118,101,114,121]) rfl (aI x.length ++ x) (by simp [kK]) (by simp;omega)) (by simp [AV.deep,AV.deep1]) ?_
 have hR:kr x=c6 kK (aI x.length ++ x):=rfl
 rw [← hR]
 have hL:=io x
 generalize kr x=R at *
 simp [go_sem,ak,hL,aj hL,bR]
 exact ae (by simp [AV.deep];exact aL _) rfl
theorem xc (x:List Nat) (hx:x.length≤100000) (hxb:bytes x):aq Tryz.prog 137 [.d (nb x)] (fun r=>r=.agg (cb (kr x))):=by
 refine aS Tryz.func137 Tryz.ntmps137 (rs:=[.cell 2 23]) (by simp [AV.deep,AV.deep1]) ?_
 have hp5:=fx x.length
 simp [go_sem]
 refine bU [] (nG [] x (by simp) (by omega)) rfl (ay (.one (aw (.nil 1))) (ay (.deep (by simp [AV.deep,AV.deep1])) aT)) ?_
 simp [go_sem,aQ]
 refine ab (iF kK (.str [86,97,117,108,116,82,101,99,111,118,101,114,121]) rfl (aI x.length ++ x) (by simp [kK]) (by simp [kK]) (by simp;omega) (by
  intro y hy
  rcases List.mem_append.1 hy with h | h
  ·exact tB _ y h
  ·exact hxb y h)) (by simp [AV.deep,AV.deep1]) ?_
 have hR:kr x=c6 kK (aI x.length ++ x):=rfl
 rw [← hR]
 have hL:=io x
 generalize kr x=R at *
 simp [go_sem,ak,hL,aj hL,bR]
 exact ae (by simp [AV.deep];exact aL _) rfl
theorem zq {w:Wd} (h8:w.1<256) (hp:bytes w.2):bytes (dj w).1:=by
 unfold dj
 split
 ·intro y hy
  rcases List.mem_cons.1 hy with rfl | hy
  ·exact h8
  ·exact hp y hy
 ·split
  ·intro y hy
   simp only [List.mem_cons] at hy
   rcases hy with rfl | rfl | hy
   ·omega
   ·exact jC _
   ·exact hp y hy
  ·split
   ·intro y hy
    simp only [List.mem_cons] at hy
    rcases hy with rfl | rfl | rfl | hy
    ·omega
    ·exact jC _
    ·exact jC _
    ·exact hp y hy
   ·intro y hy
    simp only [List.mem_singleton] at hy
    rw [hy];exact h8
theorem fu {x:List Nat} (hb:bytes x):bytes (bB x).2:=by
 match x,hb with
 | [],hb=>exact hb
 | [c],hb =>
  show bytes (if 1≤c∧c≤16 then (80+c,[]) else if c=129 then (79,[]) else dD [c]).2
  split
  ·intro y hy;simp at hy
  ·split
   ·intro y hy;simp at hy
   ·exact hb
 | _ :: _ :: _,hb=>exact hb
end Go.Proofs.YtldccnbokbieiaaGreat
