/-
  Part 9 of what the claim rests on.
-/
import Derived.Test.YtfahccoobfjkeaaGreatT2
import Derived.Test.YtfahccoobfjkeaaGreatT3
set_option linter.unusedVariables false
set_option linter.unusedSimpArgs false
set_option maxRecDepth 100000
set_option maxHeartbeats 16000000
namespace Go.Sha
abbrev Wd:=Nat × List Nat
def pushG (x:List Nat):Wd:=(if x.length≤75 then x.length else if x.length≤255 then 76 else 77,x)
def pushW (x:List Nat):Wd :=
  match x with
  | [c]=>if 1≤c∧c≤16 then (80+c,[]) else if c=129 then (79,[]) else pushG [c]
  | x=>pushG x
theorem pushW_long {x:List Nat} (h:x.length ≠ 1):pushW x=pushG x:=by
  match x,h with
  | [],_=>rfl
  | [c],h=>exact absurd rfl h
  | _ :: _ :: _,_=>rfl
theorem t8_lt {x:Nat} (h:x<256):t8 x=x:=Nat.mod_eq_of_lt h
end Go.Sha
namespace Go.Proofs.YtfahccoobfjkeaaGreat
open Go.Am Go.Sha
def encW (w:Wd):List DV:=[.int .u8 (w.1:Int),nb w.2]
def wcs (w:Wd):List AV:=[.d (.int .u8 (w.1:Int)),.d (nb w.2)]
theorem clone_fnV (b:List Nat) (hl:b.length≤100000000000):Rets Tryz.prog 69 [.d (nb b)] (fun r=>r=.d (nb b)):=by
  refine fna Tryz.func69 Tryz.ntmps69 (rs:=[.tmp 2]) (by simp [AV.deep,AV.deep1]) ?_
  simp only [go_sem,nb,Nat.reduceEqDiff,Nat.reduceAdd,Nat.reduceLT,↓reduceIte]
  intro t hb
  cases t with
  | true =>
    have h0:b=[]:=List.eq_nil_of_length_eq_zero (by simpa using hb rfl)
    subst h0
    simp only [go_sem,Nat.reduceEqDiff,Nat.reduceAdd,Nat.reduceLT,↓reduceIte]
    exact post_one (.inr ⟨_,rfl,.nil 1⟩) (by simp [AV.deep,AV.deep1]) rfl
  | false =>
    simp [go_sem,rb_of,rb_len]
    refine ⟨by omega,post_one (snap1_d (snap_full (L:=b) rfl rfl trivial)) (by simp [AV.deep,AV.deep1]) rfl⟩
theorem push_fn (x:List Nat) (hl:x.length≤60000) (hxb:bytes x):Rets Tryz.prog 83 [.d (nb x)] (fun r=>r=.agg (wcs (pushW x))):=by
  refine fna Tryz.func83 Tryz.ntmps83 (rs:=[.cell 2 159]) (by simp [AV.deep,AV.deep1]) ?_
  by_cases h1:x.length=1
  · obtain ⟨c,rfl⟩:∃ c,x=[c]:=by
      match x,h1 with
      | [c],_=>exact ⟨c,rfl⟩
    have hc:=hxb c (by simp)
    by_cases hA:1≤c∧c≤16
    · have i1:1≤(c:Int):=by omega
      have i2:(c:Int)≤16:=by omega
      have hP:pushW [c]=(80+c,[]):=if_pos hA
      have w:IntKind.u8.wrap (80+(c:Int))=((80+c:Nat):Int):=by rw [u8w];omega
      rw [hP]
      simp [go_sem,nb,i1,i2,w,resV]
      exact post_agg (snap1_cons (snap1_same trivial) (snap1_cons (snap1_d (.nil 1)) snap1_nil)) rfl (by simp [AV.deep,AV.deep1]) (by simp [wcs,nb])
    · by_cases hB:c=129
      · subst hB
        have hP:pushW [129]=(79,[]):=rfl
        rw [hP]
        simp [go_sem,nb,resV]
        exact post_agg (snap1_cons (snap1_same trivial) (snap1_cons (snap1_d (.nil 1)) snap1_nil)) rfl (by simp [AV.deep,AV.deep1]) (by simp [wcs,nb])
      · have hP:pushW [c]=pushG [c]:=(if_neg hA).trans (if_neg hB)
        have hB':¬ (c:Int)=129:=by omega
        rw [hP]
        by_cases j1:1≤c
        · have i1:1≤(c:Int):=by omega
          have i2:¬ (c:Int)≤16:=by omega
          simp [go_sem,nb,i1,i2,hB']
          refine cl_eq (clone_fnV [c] (by simp)) (by simp [AV.deep,AV.deep1]) ?_
          simp [go_sem,resV,w8_nat,nb]
          refine post_same (by simp [AV.deep,AV.deep1]) ?_
          simp [pushG,wcs,nb]
          decide
        · have i1:¬ 1≤(c:Int):=by omega
          simp [go_sem,nb,i1,hB']
          refine cl_eq (clone_fnV [c] (by simp)) (by simp [AV.deep,AV.deep1]) ?_
          simp [go_sem,resV,w8_nat,nb]
          refine post_same (by simp [AV.deep,AV.deep1]) ?_
          simp [pushG,wcs,nb]
          decide
  · have h1':¬ (x.length:Int)=1:=by omega
    rw [pushW_long h1]
    simp [go_sem,nb,h1']
    refine cl_eq (clone_fnV x (by omega)) (by simp [AV.deep,AV.deep1]) ?_
    rcases (by omega:x.length≤75 ∨ (75<x.length∧x.length≤255) ∨ 255<x.length) with hn | ⟨hn,hn2⟩ | hn
    · have i1:(x.length:Int)≤75:=by omega
      simp [go_sem,i1,resV,w8_nat]
      refine post_same (by simp [AV.deep,AV.deep1]) ?_
      simp [pushG,wcs,nb,hn,t8_lt (show x.length<256 by omega)]
    · have i1:¬ (x.length:Int)≤75:=by omega
      have i2:(x.length:Int)≤255:=by omega
      have n1:¬ x.length≤75:=by omega
      simp [go_sem,i1,i2,resV]
      refine post_same (by simp [AV.deep,AV.deep1]) ?_
      simp [pushG,wcs,nb,n1,hn2]
    · have i1:¬ (x.length:Int)≤75:=by omega
      have i2:¬ (x.length:Int)≤255:=by omega
      have n1:¬ x.length≤75:=by omega
      have n2:¬ x.length≤255:=by omega
      simp [go_sem,i1,i2,resV]
      refine post_same (by simp [AV.deep,AV.deep1]) ?_
      simp [pushG,wcs,nb,n1,n2]
end Go.Proofs.YtfahccoobfjkeaaGreat
namespace Go.Sha
def layW (w:Wd):List Nat × Bool :=
  if 0<w.1∧w.1≤75 then (w.1 :: w.2,decide (w.2.length=w.1))
  else if w.1=76 then (76 :: t8 w.2.length :: w.2,decide (w.2.length≤255))
  else if w.1=77 then (77 :: t8 w.2.length :: t8 (r32 8 w.2.length) :: w.2,decide (w.2.length≤65535))
  else ([w.1],decide (w.2.length=0))
theorem layW_len (w:Wd):(layW w).1.length≤w.2.length+3:=by
  unfold layW
  split
  · simp
  · split
    · simp
    · split
      · simp
      · simp
def bldW:List Nat→List Wd→List Nat × Int
  | out,[]=>(out,0)
  | out,w :: r=>if (layW w).2=true then bldW (out ++ (layW w).1) r else ([],1)
def refW (w:Wd):List Nat:=[w.1] ++ (if w.1=76 ∨ w.1=77 then [t8 w.2.length] else []) ++ (if w.1=77 then [t8 (r32 8 w.2.length)] else []) ++ w.2
theorem refW_eq {w:Wd} (h:(layW w).2=true):refW w=(layW w).1:=by
  unfold layW at h ⊢
  unfold refW
  by_cases h1:0<w.1∧w.1≤75
  · have n1:¬ (w.1=76 ∨ w.1=77):=by omega
    have n2:¬ w.1=77:=by omega
    rw [if_pos h1,if_neg n1,if_neg n2]
    simp
  · by_cases h2:w.1=76
    · simp [h1,h2]
    · by_cases h3:w.1=77
      · simp [h1,h2,h3]
      · rw [if_neg h1,if_neg h2,if_neg h3] at h
        have:w.2=[]:=by simpa using h
        simp [h1,h2,h3,this]
end Go.Sha
namespace Go.Proofs.YtfahccoobfjkeaaGreat
open Go.Am Go.Sha
theorem wcs_deep (w:Wd):∀ c,c ∈ wcs w→c.deep1:=by
  intro c hc
  simp [wcs] at hc
  rcases hc with rfl | rfl <;> trivial
theorem post_lay {Q:AV→Prop} {st:St} {id n:Nat} {b:Bool} {L:List Nat} (hl:L.length=n) (hb:lk id st.hp=some ⟨5,1,rb L⟩) (hq:Q (.tup [.d (nb L),.d (.bool b)])):PostK Q (.tup [.own id 0 n n,.d (.bool b)]) st :=
  post_tup (snap1_cons (snap1_d (snap_full hl hb trivial)) (snap1_cons (snap1_same trivial) snap1_nil)) rfl (by simp [AV.deep,AV.deep1]) hq
theorem lay_fn (w:Wd) (hl:w.2.length≤60000) (h8:w.1<256):Rets Tryz.prog 160 [.agg (wcs w)] (fun r=>r=.tup [.d (nb (layW w).1),.d (.bool (layW w).2)]):=by
  refine fna Tryz.func160 Tryz.ntmps160 (rs:=[.tmp 2,.tmp 3]) (by intro v hv;simp at hv;subst hv;exact wcs_deep w) ?_
  obtain ⟨op,p⟩:=w
  simp only at hl h8
  by_cases h1:0<op∧op≤75
  · obtain ⟨j1,j2⟩:=h1
    have i1:0<(op:Int):=by omega
    have i2:(op:Int)≤75:=by omega
    have wi:IntKind.i64.wrap (op:Int)=(op:Int):=IntWalk.i64_in _ (by omega)
    simp [go_sem,wcs,i1,i2,j1,j2]
    refine drw2 [0,1,3,4,6,7,8,9,10] [(2,[]),(5,[11,12])] 2 (k:=13) ?_
    intro G hG
    simp [go_sem,nb,rb_of,wi,rb_len]
    refine ⟨by omega,hG _ _ ?_⟩
    clear hG G
    have hy:layW (op,p)=(op :: p,decide (p.length=op)):=by unfold layW;rw [if_pos ⟨j1,j2⟩]
    rw [hy]
    have hcast:decide ((p.length:Int)=(op:Int))=decide (p.length=op):=by congr 1;exact propext (by omega)
    simp [go_sem,resV,hcast]
    exact post_lay (L:=op :: p) (by simp;omega) rfl rfl
  · by_cases h2:op=76
    · subst h2
      have hy:layW (76,p)=(76 :: t8 p.length :: p,decide (p.length≤255)):=rfl
      rw [hy]
      have hcast:decide ((p.length:Int)≤255)=decide (p.length≤255):=by congr 1;exact propext (by omega)
      simp [go_sem,wcs,nb,rb_of,rb_len,w8_nat,hcast,resV]
      exact ⟨by omega,post_lay (L:=76 :: t8 p.length :: p) (by simp;omega) rfl (by simp [nb])⟩
    · by_cases h3:op=77
      · subst h3
        have hy:layW (77,p)=(77 :: t8 p.length :: t8 (r32 8 p.length) :: p,decide (p.length≤65535)):=rfl
        rw [hy]
        have hcast:decide ((p.length:Int)≤65535)=decide (p.length≤65535):=by congr 1;exact propext (by omega)
        simp [go_sem,wcs,nb,rb_of,rb_len,w8_nat,hcast,resV,IntKind.bits,d_r8]
        exact ⟨by omega,post_lay (L:=77 :: t8 p.length :: t8 (r32 8 p.length) :: p) (by simp;omega) rfl (by simp [nb])⟩
      · have hy:layW (op,p)=([op],decide (p.length=0)):=by unfold layW;rw [if_neg h1,if_neg h2,if_neg h3]
        rw [hy]
        have e2:¬ (op:Int)=76:=by omega
        have e3:¬ (op:Int)=77:=by omega
        have hcast:decide ((p.length:Int)=0)=decide (p.length=0):=by congr 1;exact propext (by omega)
        by_cases j1:0<op
        · have i1:0<(op:Int):=by omega
          have i2:¬ (op:Int)≤75:=by omega
          simp [go_sem,wcs,nb,rb_of,rb_len,i1,j1,i2,e2,e3,hcast,resV]
          refine post_lay (L:=[op]) (id:=832) rfl rfl ?_
          simp [nb]
        · have i1:¬ 0<(op:Int):=by omega
          simp [go_sem,wcs,nb,rb_of,rb_len,i1,j1,e2,e3,hcast,resV]
          refine post_lay (L:=[op]) (id:=832) rfl rfl ?_
          simp [nb]
end Go.Proofs.YtfahccoobfjkeaaGreat
namespace Go.Sha
theorem refW_len (w:Wd):(refW w).length≤w.2.length+3:=by
  unfold refW
  simp only [List.length_append]
  split <;> split <;> simp <;> omega
def updL:List Nat→List (List Nat)→Option (List Nat)
  | out,[]=>some out
  | out,x :: r=>if 1000<x.length then none else updL (out ++ (layW (pushW x)).1) r
def updW (things:List (List Nat)) (body:List Nat):List Nat × Int :=
  match updL [] things with
  | none=>([],4)
  | some out=>if 1000<(out ++ body).length then ([],4) else (out ++ body,0)
theorem push_ok {x:List Nat} (h:x.length≤1000):(layW (pushW x)).2=true:=by
  have g:(layW (pushG x)).2=true:=by
    unfold pushG layW
    by_cases h1:x.length≤75
    · by_cases h0:x.length=0
      · have:x=[]:=List.eq_nil_of_length_eq_zero h0
        subst this
        rfl
      · have:0<x.length∧x.length≤75:=by omega
        simp [h1,this]
    · by_cases h2:x.length≤255
      · simp [h1,h2]
      · simp [h1,h2]
        omega
  match x,g with
  | [],g=>exact g
  | [c],g =>
    show (layW (if 1≤c∧c≤16 then (80+c,[]) else if c=129 then (79,[]) else pushG [c])).2=true
    by_cases hA:1≤c∧c≤16
    · rw [if_pos hA]
      unfold layW
      have n1:¬ (0<80+c∧80+c≤75):=by omega
      have n2:¬ 80+c=76:=by omega
      have n3:¬ 80+c=77:=by omega
      simp [n1,n2,n3]
    · rw [if_neg hA]
      by_cases hB:c=129
      · rw [if_pos hB];rfl
      · rw [if_neg hB];exact g
  | _ :: _ :: _,g=>exact g
end Go.Sha
namespace Go.Sha
theorem pushW_len (x:List Nat):(pushW x).2.length≤x.length:=by
  match x with
  | []=>exact Nat.le_refl _
  | [c] =>
    show (if 1≤c∧c≤16 then (80+c,[]) else if c=129 then (79,[]) else pushG [c]).2.length≤1
    split
    · simp
    · split
      · simp
      · exact Nat.le_refl _
  | _ :: _ :: _=>exact Nat.le_refl _
end Go.Sha
namespace Go.Proofs.YtfahccoobfjkeaaGreat
open Go.Am Go.Sha
def WdOk (w:Wd):Prop:=w.2.length≤60000∧w.1<256
theorem post_bldV {Q:AV→Prop} {st:St} {id:Nat} {e:Int} {L:List Nat} (hb:lk id st.hp=some ⟨5,1,rb L⟩) (hq:Q (.tup [.d (nb L),.d (.int .i64 e)])):PostK Q (.tup [.own id 0 L.length L.length,.d (.int .i64 e)]) st :=
  post_tup (snap1_cons (snap1_d (snap_full rfl hb trivial)) (snap1_cons (snap1_same trivial) snap1_nil)) rfl (by simp [AV.deep,AV.deep1]) hq
theorem post_bldV0 {Q:AV→Prop} {st:St} {e:Int} (hq:Q (.tup [.d (nb []),.d (.int .i64 e)])):PostK Q (.tup [.nil,.d (.int .i64 e)]) st :=
  post_tup (snap1_cons (snap1_d (.nil 1)) (snap1_cons (snap1_same trivial) snap1_nil)) rfl (by simp [AV.deep,AV.deep1]) hq
theorem build_fn (ws:List Wd) (hw:∀ w,w ∈ ws→WdOk w) (hl:ws.length≤10000):Rets Tryz.prog 123 [.d (.ro 2 (ws.map encW))] (fun r=>r=.tup [.d (nb (bldW [] ws).1),.d (.int .i64 (bldW [] ws).2)]):=by
  refine fna Tryz.func123 Tryz.ntmps123 (rs:=[.tmp 2,.tmp 3]) (by simp [AV.deep,AV.deep1]) ?_
  generalize hB:bldW [] ws=B
  simp only [go_sem,Nat.reduceEqDiff,Nat.reduceAdd,Nat.reduceLT,↓reduceIte,Nat.reduceMul]
  refine loop_of (fun t:Nat × List Nat=>⟨[(4,.own 1000 0 t.2.length t.2.length),(9,.d (.ro 2 (ws.map encW))),(10,.d (.int .i64 (ws.length:Int))),(11,.d (.int .i64 (t.1:Int)))],[(1000,⟨5,1,rb t.2⟩)],1001⟩)
    (fun t=>t.1≤ws.length∧t.2.length≤60003*t.1∧bldW t.2 (ws.drop t.1)=B) (fun t=>ws.length - t.1) (0,[]) ⟨by omega,by simp,hB⟩ (by
      simp [Weak,slotOk,fv,lk,AV.low,AV.low1,rb]) ?_
  clear hB
  rintro ⟨k,out⟩ ⟨hk,ho,hB⟩
  simp only at hk ho hB
  simp only [go_sem,Nat.reduceEqDiff,Nat.reduceAdd,Nat.reduceLT,↓reduceIte,Nat.reduceMul]
  refine ⟨fun h=>?_,fun h=>?_⟩
  · obtain ⟨w,hw1,hd⟩:=drop_of (l:=ws) (k:=k) (by omega)
    obtain ⟨q1,q2⟩:=hw w (List.mem_of_getElem? hw1)
    rw [hd] at hB
    simp only [bldW] at hB
    have hll:=layW_len w
    have hrow:encW w=[.int .u8 (w.1:Int),nb w.2]:=rfl
    simp [go_sem,hw1,hrow]
    refine cl_eq (lay_fn w q1 q2) (by intro v hv;simp at hv;subst hv;exact wcs_deep w) ?_
    cases hok:(layW w).2 with
    | false =>
      simp [go_sem,resV]
      rw [hok,if_neg (by simp)] at hB
      rw [← hB]
      exact post_bldV0 rfl
    | true =>
      rw [hok,if_pos rfl] at hB
      have w3:=next_i64 (k:=k) (by omega)
      generalize (layW w).1=L at *
      simp [go_sem,nb,rb_of,rb_len,rb_app,w3]
      refine ⟨by omega,?_⟩
      refine next_of (k+1,out ++ L) ⟨by simp only;omega,by simp only [List.length_append];omega,hB⟩ (by simp only;omega) ?_
      simp [Weak,slotOk,fv,lk,AV.low,AV.low1]
      exact rb_low _ _
  · rw [List.drop_eq_nil_of_le (by omega)] at hB
    simp only [bldW] at hB
    simp [go_sem,resV]
    rw [← hB]
    exact post_bldV rfl rfl
def encT (x:List Nat):List DV:=[nb x]
theorem pushW_ok {x:List Nat} (h:x.length≤60000) (hb:bytes x):WdOk (pushW x):=by
  have g:WdOk (pushG x):=by
    unfold pushG
    refine ⟨h,?_⟩
    simp only
    split
    · omega
    · split <;> omega
  match x,hb,g with
  | [],_,g=>exact g
  | [c],hb,g =>
    show WdOk (if 1≤c∧c≤16 then (80+c,[]) else if c=129 then (79,[]) else pushG [c])
    by_cases hA:1≤c∧c≤16
    · rw [if_pos hA];exact ⟨by simp,by simp only;omega⟩
    · rw [if_neg hA]
      by_cases hB:c=129
      · rw [if_pos hB];exact ⟨by simp,by simp⟩
      · rw [if_neg hB];exact g
  | _ :: _ :: _,_,g=>exact g
theorem snap_wd {hp:Hp} {I:Nat→Prop} {id:Nat} {w:Wd} (hb:lk id hp=some ⟨159,2,[wcs w]⟩) (hI:I id):SnapD hp I (.own id 0 1 1) (.ro 2 ([w].map encW)) :=
  snap_row (es:=[w].map encW) (by rw [hb];rfl) hI rfl (by simp [encW])
theorem updated_fn (things:List (List Nat)) (body:List Nat) (hl:things.length≤1000) (ht:∀ x,x ∈ things→x.length≤60000∧bytes x) (hb:body.length≤100000) :
    Rets Tryz.prog 98 [.d (.ro 1 (things.map encT)),.d (nb body)] (fun r=>r=.tup [.d (nb (updW things body).1),.d (.int .i64 (updW things body).2)]):=by
  refine fna Tryz.func98 Tryz.ntmps98 (rs:=[.tmp 4,.tmp 5]) (by simp [AV.deep,AV.deep1]) ?_
  unfold updW
  generalize hB:updL [] things=B
  simp only [go_sem,Nat.reduceEqDiff,Nat.reduceAdd,Nat.reduceLT,↓reduceIte,Nat.reduceMul]
  refine loop_of (fun t:Nat × List Nat=>⟨[(1,.d (nb body)),(6,.own 1000 0 t.2.length t.2.length),(11,.d (.ro 1 (things.map encT))),(12,.d (.int .i64 (things.length:Int))),(13,.d (.int .i64 (t.1:Int)))],[(1000,⟨5,1,rb t.2⟩)],1001⟩)
    (fun t=>t.1≤things.length∧t.2.length≤60003*t.1∧updL t.2 (things.drop t.1)=B) (fun t=>things.length - t.1) (0,[]) ⟨by omega,by simp,hB⟩ (by
      simp [Weak,slotOk,fv,lk,AV.low,AV.low1,rb]) ?_
  clear hB
  rintro ⟨k,out⟩ ⟨hk,ho,hB⟩
  simp only at hk ho hB
  simp only [go_sem,Nat.reduceEqDiff,Nat.reduceAdd,Nat.reduceLT,↓reduceIte,Nat.reduceMul]
  refine ⟨fun h=>?_,fun h=>?_⟩
  · obtain ⟨x,hx1,hd⟩:=drop_of (l:=things) (k:=k) (by omega)
    obtain ⟨q1,q2⟩:=ht x (List.mem_of_getElem? hx1)
    rw [hd] at hB
    simp only [updL] at hB
    by_cases hxl:1000<x.length
    · rw [if_pos hxl] at hB
      subst hB
      have i1:1000<(x.length:Int):=by omega
      simp [go_sem,hx1,encT,nb,i1,resV]
      exact post_bldV0 rfl
    · rw [if_neg hxl] at hB
      have i1:¬ 1000<(x.length:Int):=by omega
      have hok:=push_ok (x:=x) (by omega)
      have hwd:=pushW_ok q1 q2
      have hll:=layW_len (pushW x)
      have hpl:(pushW x).2.length≤x.length:=pushW_len x
      have hbl:bldW [] [pushW x]=((layW (pushW x)).1,0):=by simp [bldW,hok]
      simp [go_sem,hx1,encT,nb,i1]
      refine cl_eq (push_fn x q1 q2) (by simp [AV.deep,AV.deep1]) ?_
      have hsz:(wcs (pushW x)).length=2:=rfl
      simp [go_sem,hsz]
      refine cl_froz [1289] (build_fn [pushW x] (by intro w hw;simp at hw;subst hw;exact hwd) (by simp)) rfl (snap_cons (.one (snap1_d (snap_wd rfl (by simp)))) snap_nil) ?_
      rw [hbl]
      have w3:=next_i64 (k:=k) (by omega)
      generalize (layW (pushW x)).1=L at *
      simp [go_sem,dropH,nb,rb_of,rb_len,rb_app,w3]
      refine ⟨by omega,?_⟩
      refine next_of (k+1,out ++ L) ⟨by simp only;omega,by simp only [List.length_append];omega,hB⟩ (by simp only;omega) ?_
      simp [Weak,slotOk,fv,lk,AV.low,AV.low1,nb]
      exact rb_low _ _
  · rw [List.drop_eq_nil_of_le (by omega)] at hB
    simp only [updL] at hB
    subst hB
    have hkl:k=things.length:=by omega
    simp only
    by_cases hbig:1000<out.length+body.length
    · rw [if_pos hbig]
      have i1:1000<((out.length+body.length:Nat):Int):=by omega
      have i2:1000<(out.length:Int)+(body.length:Int):=by omega
      simp [go_sem,nb,rb_of,rb_len,i1,i2,resV]
      exact ⟨by omega,post_bldV0 rfl⟩
    · rw [if_neg hbig]
      have i1:¬ 1000<((out.length+body.length:Nat):Int):=by omega
      have i2:¬ 1000<(out.length:Int)+(body.length:Int):=by omega
      simp [go_sem,nb,rb_of,rb_len,rb_app,i1,i2,resV]
      refine ⟨by omega,?_⟩
      have:=post_bldV (id:=1000) (L:=out ++ body) (e:=0) (Q:=fun r=>r=AV.tup [AV.d (nb (out ++ body)),AV.d (.int .i64 0)]) (st:=⟨[],[(1000,⟨5,1,rb (out ++ body)⟩)],0⟩) rfl rfl
      simp [nb] at this
      exact this
def catR (ws:List Wd):List Nat:=(ws.map refW).flatten
def wdsT (things:List (List Nat)):List Wd:=things.map pushW
theorem updL_cat:∀ (things:List (List Nat)) (out:List Nat),(∀ x,x ∈ things→x.length≤1000)→updL out things=some (out ++ catR (wdsT things))
  | [],out,_=>by simp [updL,catR,wdsT]
  | x :: r,out,h=>by
    have hx:=h x (List.mem_cons_self ..)
    simp only [updL]
    rw [if_neg (by omega),updL_cat r _ (fun y hy=>h y (List.mem_cons_of_mem _ hy)),← refW_eq (push_ok hx)]
    simp [catR,wdsT]
def recTag:List Nat:=[86,97,117,108,116,82,101,99,111,118,101,114,121]
def recB (x:List Nat):List Nat:=tagB recTag (putSize x.length ++ x)
theorem recB_len (x:List Nat):(recB x).length=32:=sumB_len _
theorem recHash_fn (x:List Nat) (hx:x.length≤100000):Rets Tryz.prog 81 [.d (nb x)] (fun r=>r=.agg (cb (recB x))):=by
  refine fna Tryz.func81 Tryz.ntmps81 (rs:=[.cell 2 22]) (by simp [AV.deep,AV.deep1]) ?_
  have hp5:=putSize_len x.length
  simp [go_sem]
  refine cl_froz [] (putBytes_fn [] x (by simp) (by omega)) rfl (snap_cons (.one (snap1_d (.nil 1))) (snap_cons (.deep (by simp [AV.deep,AV.deep1])) snap_nil)) ?_
  simp [go_sem,dropH]
  refine cl_eq (tagged_fn recTag (.str [86,97,117,108,116,82,101,99,111,118,101,114,121]) rfl (putSize x.length ++ x) (by simp [recTag]) (by simp;omega)) (by simp [AV.deep,AV.deep1]) ?_
  have hR:recB x=tagB recTag (putSize x.length ++ x):=rfl
  rw [← hR]
  have hL:=recB_len x
  generalize recB x=R at *
  simp [go_sem,resV,hL,cb_take hL,z32_drop]
  exact post_same (by simp [AV.deep];exact cb_deep _) rfl
theorem cvS_nbV {P:Program} {s t:TypeId} {Kk:AV→Hp→Prop} {hp:Hp} (l:List Nat) (el:TypeId) (hb:bytes l) (h1:tyk P s=.slice el) (h2:tyk P t=.str) (h3:P.underlying el=some (.int .u8)) (hK:Kk (.d (.str (sb l))) hp):cvS P s t (l.map fun (x:Nat)=>[DV.int .u8 (x:Int)]) Kk hp:=by
  refine ⟨sb l,by simp [sb],fun b h=>?_,?_⟩
  · simp only [sb,List.mem_map] at h
    obtain ⟨x,hx,rfl⟩:=h
    have:=hb x hx
    omega
  · rw [h1,h2]
    exact ⟨h3,hK⟩
theorem layW_bytes {w:Wd} (h8:w.1<256) (hp:bytes w.2):bytes (layW w).1:=by
  unfold layW
  split
  · intro y hy
    rcases List.mem_cons.1 hy with rfl | hy
    · exact h8
    · exact hp y hy
  · split
    · intro y hy
      simp only [List.mem_cons] at hy
      rcases hy with rfl | rfl | hy
      · omega
      · exact le_bytes _
      · exact hp y hy
    · split
      · intro y hy
        simp only [List.mem_cons] at hy
        rcases hy with rfl | rfl | rfl | hy
        · omega
        · exact le_bytes _
        · exact le_bytes _
        · exact hp y hy
      · intro y hy
        simp only [List.mem_singleton] at hy
        rw [hy];exact h8
theorem pushW_bytes {x:List Nat} (hb:bytes x):bytes (pushW x).2:=by
  match x,hb with
  | [],hb=>exact hb
  | [c],hb =>
    show bytes (if 1≤c∧c≤16 then (80+c,[]) else if c=129 then (79,[]) else pushG [c]).2
    split
    · intro y hy;simp at hy
    · split
      · intro y hy;simp at hy
      · exact hb
  | _ :: _ :: _,hb=>exact hb
theorem ty_things {n:Nat} {d:DV} (h:TyD Tryz.prog (n+3) 84 [d]):∃ xs:List (List Nat),d=.ro 1 (xs.map encT)∧∀ x,x ∈ xs→bytes x:=by
  rw [TyD] at h
  simp only [Tryz.underlying84,List.cons.injEq,and_true] at h
  obtain ⟨es,rfl,hl,hr⟩:=h
  obtain ⟨xs,rfl,hxs⟩:=map_of (enc:=encT) (R:=fun x=>bytes x) (es:=es) (fun r hr'=>by
    obtain ⟨h1,h2⟩:=hr r hr'
    rw [show Tryz.prog.cellsOf 29=1 by kernel_rfl] at h2
    match r,h1,h2 with
    | [y],h1,_ =>
      obtain ⟨x,rfl,_,hb⟩:=ty_bytes h1
      exact ⟨x,rfl,hb⟩)
  exact ⟨xs,by rw [show Tryz.prog.cellsOf 29=1 by kernel_rfl],hxs⟩
end Go.Proofs.YtfahccoobfjkeaaGreat
namespace Go.Sha
structure Ip where
  hash:List Nat
  idx:Nat
  seq:Nat
  wit:List (List Nat)
structure Tn where
  ver:Nat
  ins:List Ip
  outs:List (Nat × List Nat)
  lock:Nat
def Ip.ok (i:Ip):Prop:=i.hash.length=32∧i.idx<4294967296∧i.seq<4294967296
def Tn.ok (t:Tn):Prop:=t.ver<4294967296∧t.lock<4294967296∧(∀ i,i ∈ t.ins→i.ok)∧(∀ o,o ∈ t.outs→o.1<18446744073709551616)
def shortW (n:Nat) (xs:List (List Nat)):Bool:=xs.all fun x=>decide (x.length≤n)
def shortO (n:Nat) (os:List (Nat × List Nat)):Bool:=os.all fun o=>decide (o.2.length≤n)
def shortI (m n:Nat) (is:List Ip):Bool:=is.all fun i=>decide (i.wit.length≤m) && shortW n i.wit
def within (a m n:Nat) (t:Tn):Bool:=decide (t.ins.length≤a) && (decide (t.outs.length≤a) && (shortO n t.outs && shortI m n t.ins))
end Go.Sha
namespace Go.Proofs.YtfahccoobfjkeaaGreat
open Go.Am Go.Sha
def eO (o:Nat × List Nat):List DV:=[.int .u64 (o.1:Int),nb o.2]
def eI (i:Ip):List DV:=cd i.hash ++ [.int .u32 (i.idx:Int),.int .u32 (i.seq:Int),.ro 1 (i.wit.map encT)]
def eT (t:Tn):List AV:=[.d (.int .u32 (t.ver:Int)),.d (.ro 35 (t.ins.map eI)),.d (.ro 2 (t.outs.map eO)),.d (.int .u32 (t.lock:Int))]
theorem eI34 {i:Ip} (h:i.hash.length=32):(eI i).drop 34=[.ro 1 (i.wit.map encT)]:=by
  unfold eI
  rw [List.drop_append,List.drop_eq_nil_of_le (by rw [cd_len];omega),cd_len,h];rfl
theorem eI33 {i:Ip} (h:i.hash.length=32):(eI i).drop 33=[.int .u32 (i.seq:Int),.ro 1 (i.wit.map encT)]:=by
  unfold eI
  rw [List.drop_append,List.drop_eq_nil_of_le (by rw [cd_len];omega),cd_len,h];rfl
theorem eI32 {i:Ip} (h:i.hash.length=32):(eI i).drop 32=[.int .u32 (i.idx:Int),.int .u32 (i.seq:Int),.ro 1 (i.wit.map encT)]:=by
  unfold eI
  rw [List.drop_append,List.drop_eq_nil_of_le (by rw [cd_len];omega),cd_len,h];rfl
theorem eI_len {i:Ip} (h:i.hash.length=32):(eI i).length=35:=by simp [eI,cd_len,h]
theorem all_step {α:Type} {l:List α} {k:Nat} {p:α→Bool} {x:α} {b:Bool} (hd:l.drop k=x :: l.drop (k+1)) (h:(l.drop k).all p=b) (hx:p x=true):(l.drop (k+1)).all p=b:=by
  rw [hd,List.all_cons,hx,Bool.true_and] at h
  exact h
theorem all_stop {α:Type} {l:List α} {k:Nat} {p:α→Bool} {x:α} {b:Bool} (hd:l.drop k=x :: l.drop (k+1)) (h:(l.drop k).all p=b) (hx:p x=false):b=false:=by
  rw [hd,List.all_cons,hx,Bool.false_and] at h
  exact h.symm
theorem all_done {α:Type} {l:List α} {p:α→Bool} {b:Bool} (h:(l.drop l.length).all p=b):b=true:=by
  rw [List.drop_length] at h
  exact h.symm
theorem small09_fn (t:Tn) (ht:t.ok):Rets Tryz.prog 37 [.agg (eT t)] (fun r=>r=.d (.bool (within 6 6 600 t))):=by
  obtain ⟨_,_,hi,_⟩:=ht
  refine fna Tryz.func37 Tryz.ntmps37 (rs:=[.tmp 2]) (by simp [AV.deep,AV.deep1,eT]) ?_
  by_cases h1:t.ins.length≤6
  · by_cases h2:t.outs.length≤6
    · have i1:¬ 6<(t.ins.length:Int):=by omega
      have i2:¬ 6<(t.outs.length:Int):=by omega
      have hw:within 6 6 600 t=(shortO 600 t.outs && shortI 6 600 t.ins):=by simp [within,h1,h2]
      rw [hw]
      simp [go_sem,eT,i1,i2]
      refine loop_of (fun k:Nat=>⟨[(1,.ptr 0 0 0 1),(3,.d (.int .i64 (k:Int)))],[(0,⟨79,4,[eT t]⟩)],2000⟩)
        (fun k=>k≤t.outs.length∧shortO 600 (t.outs.drop k)=shortO 600 t.outs) (fun k=>t.outs.length - k) 0 ⟨by omega,rfl⟩ (by
          simp [Weak,slotOk,fv,lk,AV.low,AV.low1,eT]) ?_
      rintro k ⟨hk,ho⟩
      simp only [eT]
      simp only [go_sem,Nat.reduceEqDiff,Nat.reduceAdd,Nat.reduceLT,↓reduceIte,Nat.reduceMul]
      refine ⟨fun h=>?_,fun h=>?_⟩
      · obtain ⟨o,ho1,hd⟩:=drop_of (l:=t.outs) (k:=k) (by omega)
        have w3:=next_i64 (k:=k) (by omega)
        by_cases hx:o.2.length≤600
        · have j1:¬ 600<(o.2.length:Int):=by omega
          simp [go_sem,ho1,eO,nb,j1,w3]
          refine next_of (k+1) ⟨by omega,all_step hd ho (by simpa using hx)⟩ (by omega) ?_
          simp [Weak,slotOk,fv,lk,AV.low,AV.low1,eT]
        · have j1:600<(o.2.length:Int):=by omega
          have:=all_stop hd ho (by simpa using hx)
          simp [go_sem,ho1,eO,nb,j1]
          exact post_same (by simp [AV.deep,AV.deep1]) (by rw [this];rfl)
      · have hkl:k=t.outs.length:=by omega
        subst hkl
        have hO:shortO 600 t.outs=true:=all_done ho
        rw [hO,Bool.true_and]
        clear ho h
        simp [go_sem]
        refine loop_of (fun k:Nat=>⟨[(1,.ptr 0 0 0 1),(4,.d (.int .i64 (k:Int)))],[(0,⟨79,4,[eT t]⟩)],4000⟩)
          (fun k=>k≤t.ins.length∧shortI 6 600 (t.ins.drop k)=shortI 6 600 t.ins) (fun k=>t.ins.length - k) 0 ⟨by omega,rfl⟩ (by
            simp [Weak,slotOk,fv,lk,AV.low,AV.low1,eT]) ?_
        rintro k ⟨hk,ho⟩
        simp only [eT]
        simp only [go_sem,Nat.reduceEqDiff,Nat.reduceAdd,Nat.reduceLT,↓reduceIte,Nat.reduceMul]
        refine ⟨fun h=>?_,fun h=>?_⟩
        · obtain ⟨i,hi1,hd⟩:=drop_of (l:=t.ins) (k:=k) (by omega)
          have hi32:=(hi i (List.mem_of_getElem? hi1)).1
          by_cases hx:i.wit.length≤6
          · have j1:¬ 6<(i.wit.length:Int):=by omega
            simp [go_sem,hi1,eI34 hi32,j1]
            refine loop_of (fun j:Nat=>⟨[(1,.ptr 0 0 0 1),(4,.d (.int .i64 (k:Int))),(5,.d (.int .i64 (j:Int)))],[(0,⟨79,4,[eT t]⟩)],6000⟩)
              (fun j=>j≤i.wit.length∧shortW 600 (i.wit.drop j)=shortW 600 i.wit) (fun j=>i.wit.length - j) 0 ⟨by omega,rfl⟩ (by
                simp [Weak,slotOk,fv,lk,AV.low,AV.low1,eT]) ?_
            rintro j ⟨hj,ho2⟩
            simp only [eT]
            simp [go_sem,hi1,eI34 hi32]
            refine ⟨fun h'=>?_,fun h'=>?_⟩
            · obtain ⟨x,hx1,hd2⟩:=drop_of (l:=i.wit) (k:=j) (by omega)
              have w4:=next_i64 (k:=j) (by omega)
              by_cases hy:x.length≤600
              · have j2:¬ 600<(x.length:Int):=by omega
                simp [go_sem,hi1,eI34 hi32,hx1,encT,nb,j2,w4]
                intro _
                refine next_of (j+1) ⟨by omega,all_step hd2 ho2 (by simpa using hy)⟩ (by omega) ?_
                simp [Weak,slotOk,fv,lk,AV.low,AV.low1,eT]
              · have j2:600<(x.length:Int):=by omega
                have h3:=all_stop hd2 ho2 (by simpa using hy)
                have:=all_stop hd ho (by rw [show shortW 600 i.wit=false from h3];simp)
                simp [go_sem,hi1,eI34 hi32,hx1,encT,nb,j2]
                refine ⟨?_,fun h=>by omega⟩
                exact post_same (by simp [AV.deep,AV.deep1]) (by rw [show shortI 6 600 t.ins=false from this])
            · have hjl:j=i.wit.length:=by omega
              subst hjl
              have h3:shortW 600 i.wit=true:=all_done ho2
              have w4:=next_i64 (k:=k) (by omega)
              simp [go_sem,w4]
              refine next_of (k+1) ⟨by omega,all_step hd ho (by rw [h3];simpa using hx)⟩ (by omega) ?_
              simp [Weak,slotOk,fv,lk,AV.low,AV.low1,eT]
          · have j1:6<(i.wit.length:Int):=by omega
            have:=all_stop hd ho (by simp;omega)
            simp [go_sem,hi1,eI34 hi32,j1]
            exact post_same (by simp [AV.deep,AV.deep1]) (by rw [show shortI 6 600 t.ins=false from this])
        · have hkl:k=t.ins.length:=by omega
          subst hkl
          have hI:shortI 6 600 t.ins=true:=all_done ho
          simp [go_sem]
          exact post_same (by simp [AV.deep,AV.deep1]) (by rw [hI])
    · have i1:¬ 6<(t.ins.length:Int):=by omega
      have i2:6<(t.outs.length:Int):=by omega
      simp [go_sem,eT,i1,i2]
      exact post_same (by simp [AV.deep,AV.deep1]) (by simp [within,h2])
  · have i1:6<(t.ins.length:Int):=by omega
    simp [go_sem,eT,i1]
    exact post_same (by simp [AV.deep,AV.deep1]) (by simp [within,h1])
theorem long_fn (x:List Nat):Rets Tryz.prog 86 [.d (nb x)] (fun r=>r=.d (.bool (decide (1000<x.length)))):=by
  refine fna Tryz.func86 Tryz.ntmps86 (rs:=[.tmp 2]) (by simp [AV.deep,AV.deep1]) ?_
  simp [go_sem,nb]
  refine post_same (by simp [AV.deep,AV.deep1]) ?_
  have:((1000:Int)<(x.length:Int)) ↔ 1000<x.length:=by omega
  simp [this]
theorem indexW_fn (xs:List (List Nat)) (hl:xs.length≤1000000000):Rets Tryz.prog 125 [.d (.ro 1 (xs.map encT)),.fn 86 []] (fun r=>∃ n:Int,r=.d (.int .i64 n)∧decide (0≤n)=!shortW 1000 xs):=by
  refine fna Tryz.func125 Tryz.ntmps125 (rs:=[.tmp 4]) (by simp [AV.deep,AV.deep1]) ?_
  simp [go_sem]
  refine loop_of (fun k:Nat=>⟨[(0,.d (.ro 1 (xs.map encT))),(1,.fn 86 []),(7,.d (.int .i64 (xs.length:Int))),(8,.d (.int .i64 (k:Int)))],[],1000⟩)
    (fun k=>k≤xs.length∧shortW 1000 (xs.drop k)=shortW 1000 xs) (fun k=>xs.length - k) 0 ⟨by omega,rfl⟩ (by
      simp [Weak,slotOk,fv,lk,AV.low,AV.low1]) ?_
  rintro k ⟨hk,ho⟩
  simp only [go_sem,Nat.reduceEqDiff,Nat.reduceAdd,Nat.reduceLT,↓reduceIte,Nat.reduceMul]
  refine ⟨fun h=>?_,fun h=>?_⟩
  · obtain ⟨x,hx1,hd⟩:=drop_of (l:=xs) (k:=k) (by omega)
    have w3:=next_i64 (k:=k) (by omega)
    simp [go_sem,hx1,encT]
    refine cl_eq (long_fn x) (by simp [AV.deep,AV.deep1]) ?_
    by_cases hx:x.length≤1000
    · have j1:¬ 1000<x.length:=by omega
      simp [go_sem,j1,w3]
      refine next_of (k+1) ⟨by omega,all_step hd ho (by simpa using hx)⟩ (by omega) ?_
      simp [Weak,slotOk,fv,lk,AV.low,AV.low1]
    · have j1:1000<x.length:=by omega
      have:=all_stop hd ho (by simpa using hx)
      simp [go_sem,j1]
      exact post_same (by simp [AV.deep,AV.deep1]) ⟨_,rfl,by rw [show shortW 1000 xs=false from this];simp⟩
  · have hkl:k=xs.length:=by omega
    subst hkl
    have hI:shortW 1000 xs=true:=all_done ho
    simp [go_sem]
    exact post_same (by simp [AV.deep,AV.deep1]) ⟨_,rfl,by rw [hI];rfl⟩
theorem containsW_fn (xs:List (List Nat)) (hl:xs.length≤1000000000):Rets Tryz.prog 87 [.d (.ro 1 (xs.map encT)),.fn 86 []] (fun r=>r=.d (.bool (!shortW 1000 xs))):=by
  refine fna Tryz.func87 Tryz.ntmps87 (rs:=[.tmp 4]) (by simp [AV.deep,AV.deep1]) ?_
  simp [go_sem]
  refine cl_fn (indexW_fn xs hl) (by simp [AV.deep,AV.deep1]) ?_
  rintro r ⟨n,rfl,hn⟩
  rw [← hn]
  simp [go_sem]
  exact post_same (by simp [AV.deep,AV.deep1]) rfl
end Go.Proofs.YtfahccoobfjkeaaGreat
namespace Go.Sha
def bytesB (x:List Nat):List Nat:=putSize x.length ++ x
def bytesL (xs:List (List Nat)):List Nat:=(xs.map bytesB).flatten
def listB (xs:List (List Nat)):List Nat:=putSize xs.length ++ bytesL xs
def inB (i:Ip):List Nat:=i.hash ++ (le i.idx 4 ++ le i.seq 4)
def insB (l:List Ip):List Nat:=(l.map inB).flatten
def payB (o:Nat × List Nat):List Nat:=le o.1 8 ++ bytesB o.2
def paysB (l:List (Nat × List Nat)):List Nat:=(l.map payB).flatten
def bareB (t:Tn):List Nat:=le t.ver 4 ++ (putSize t.ins.length ++ (insB t.ins ++ (putSize t.outs.length ++ (paysB t.outs ++ le t.lock 4))))
def witsB (l:List Ip):List Nat:=(l.map fun i=>listB i.wit).flatten
def wholeB (t:Tn):List Nat:=bareB t ++ witsB t.ins
def SmW (xs:List (List Nat)):Prop:=xs.length≤6∧∀ x,x ∈ xs→x.length≤600
theorem bytesB_len (x:List Nat):(bytesB x).length≤5+x.length:=by
  have:=putSize_len x.length
  unfold bytesB
  rw [List.length_append];omega
theorem bytesL_len:∀ (xs:List (List Nat)),(∀ x,x ∈ xs→x.length≤600)→(bytesL xs).length≤605*xs.length
  | [],_=>by simp [bytesL]
  | x :: r,h=>by
    have ih:=bytesL_len r fun y hy=>h y (List.mem_cons_of_mem _ hy)
    have hx:=h x (List.mem_cons_self ..)
    have h1:=bytesB_len x
    have e:(bytesL (x :: r)).length=(bytesB x).length+(bytesL r).length:=by simp [bytesL]
    rw [e,List.length_cons];omega
theorem listB_len {xs:List (List Nat)} (h:SmW xs):(listB xs).length≤3635:=by
  have h1:=bytesL_len xs h.2
  have h2:=putSize_len xs.length
  have h3:=h.1
  unfold listB
  rw [List.length_append];omega
end Go.Sha
namespace Go.Proofs.YtfahccoobfjkeaaGreat
open Go.Am Go.Sha
theorem lay64_own (b:List Nat) (x n:Nat) (hb:b.length≤1000000) (hx:x<18446744073709551616) (hn:n≤8):RetsE Tryz.prog 135 0 [] [.d (nb b),.d (.int .u64 (x:Int)),.d (.int .i64 (n:Int))] (OwnB (b ++ le x n)):=by
  refine fnE_of_awp Tryz.func135 (by kernel_rfl) rfl Tryz.ntmps135 (rs:=[.tmp 6]) rfl (nlb rfl) (by decide) ?_
  have w1:IntKind.i64.wrap ((b.length:Int)+(n:Int))=((b.length+n:Nat):Int):=by rw [IntWalk.i64_in _ (by omega)];omega
  have hr:List.replicate b.length [AV.d (.int .u8 0)]=rb (List.replicate b.length 0):=by simp [rb]
  simp only [go_sem,Nat.reduceEqDiff,Nat.reduceAdd,Nat.reduceLT,↓reduceIte,Nat.reduceMul,w1,nb,List.length_map,Int.toNat_natCast,hr]
  simp [go_sem,rb_of,rb_len]
  rw [cat_rb]
  refine ⟨by omega,by omega,by omega,by omega,?_⟩
  refine loop_of (fun k:Nat=>⟨[(7,.own 225 0 (b ++ le x k).length (b ++ le x k).length),(8,.d (.int .u64 ((r32 (8*k) x:Nat):Int))),(20,.d (.int .i64 (n:Int))),(21,.d (.int .i64 (k:Int)))],[(225,⟨5,1,rb (b ++ le x k)⟩)],545⟩)
    (fun k=>k≤n) (fun k=>n - k) 0 (by omega) (by
      simp [Weak,slotOk,fv,lk,AV.low,AV.low1,le,r32]
      exact rb_low _ _) ?_
  intro k hk
  have hl:(b ++ le x k).length=b.length+k:=by rw [List.length_append,le_len]
  have hs:rb (b ++ le x k) ++ [[AV.d (.int .u8 ((t8 (r32 (8*k) x):Nat):Int))]]=rb (b ++ le x (k+1)):=by rw [rb_snoc,List.append_assoc];rfl
  have w5:=next_i64 (k:=k) (by omega)
  simp only [go_sem,Nat.reduceEqDiff,Nat.reduceAdd,Nat.reduceLT,↓reduceIte]
  refine ⟨fun h=>?_,fun h=>?_⟩
  · simp [go_sem,w8_nat,rb_len,hs,le_len,IntKind.bits,d_r8,r32_8,w5]
    refine ⟨by omega,?_⟩
    refine next_of (k+1) (by omega) (by omega) ?_
    simp [Weak,slotOk,fv,lk,AV.low,AV.low1,le_len]
    exact ⟨by omega,rb_low _ _⟩
  · have hkn:k=n:=by omega
    subst hkn
    exact ⟨225,by rw [List.length_append],rfl⟩
theorem put32_own (b:List Nat) (x:Nat) (hb:b.length≤1000000) (hx:x<4294967296):RetsE Tryz.prog 59 0 [] [.d (nb b),.d (.int .u32 (x:Int))] (OwnB (b ++ le x 4)):=by
  refine fnE_of_awp Tryz.func59 (by kernel_rfl) rfl Tryz.ntmps59 (rs:=[.tmp 4]) rfl (nlb rfl) (by decide) ?_
  simp [go_sem]
  refine cl_eff [] (lay32_own b x 4 hb hx (by omega)) rfl (by simp) (by simp) (by simp) (by simp [AV.renL,AV.ren]) ?_
  rintro r hp' ⟨rfl,h0⟩
  refine ⟨[(225,0)],rfl,?_⟩
  simp [go_sem,outH,outP,h0,Blk.ren,renR,rb_ren,AV.renL,AV.ren,rho,resV,OwnB]
theorem put64_own (b:List Nat) (x:Nat) (hb:b.length≤1000000) (hx:x<18446744073709551616):RetsE Tryz.prog 93 0 [] [.d (nb b),.d (.int .u64 (x:Int))] (OwnB (b ++ le x 8)):=by
  refine fnE_of_awp Tryz.func93 (by kernel_rfl) rfl Tryz.ntmps93 (rs:=[.tmp 4]) rfl (nlb rfl) (by decide) ?_
  simp [go_sem]
  refine cl_eff [] (lay64_own b x 8 hb hx (by omega)) rfl (by simp) (by simp) (by simp) (by simp [AV.renL,AV.ren]) ?_
  rintro r hp' ⟨I,rfl,h0⟩
  refine ⟨[(I,0)],by simp [newsB,prsB],?_⟩
  simp [go_sem,outH,outP,h0,Blk.ren,renR,rb_ren,AV.renL,AV.ren,rho,resV,OwnB]
theorem put32_fn (b:List Nat) (x:Nat) (hb:b.length≤1000000) (hx:x<4294967296):Rets Tryz.prog 59 [.d (nb b),.d (.int .u32 (x:Int))] (fun r=>r=.d (nb (b ++ le x 4))):=own_deep (put32_own b x hb hx) (by simp [AV.deep,AV.deep1])
theorem put64_fn (b:List Nat) (x:Nat) (hb:b.length≤1000000) (hx:x<18446744073709551616):Rets Tryz.prog 93 [.d (nb b),.d (.int .u64 (x:Int))] (fun r=>r=.d (nb (b ++ le x 8))):=own_deep (put64_own b x hb hx) (by simp [AV.deep,AV.deep1])
theorem putSize_fn (b:List Nat) (n:Nat) (hb:b.length≤100000) (hn:n<4294967296):Rets Tryz.prog 92 [.d (nb b),.d (.int .u64 (n:Int))] (fun r=>r=.d (nb (b ++ putSize n))):=own_deep (putSize_own b n hb hn) (by simp [AV.deep,AV.deep1])
def tailB {α:Type} (f:α→List Nat) (l:List α) (k:Nat):List Nat:=((l.drop k).map f).flatten
theorem rest_step {α:Type} {f:α→List Nat} {l:List α} {k:Nat} {x:α} {B R:List Nat} (hd:l.drop k=x :: l.drop (k+1)) (h:B ++ tailB f l k=R):(B ++ f x) ++ tailB f l (k+1)=R:=by
  unfold tailB at *
  rw [hd,List.map_cons,List.flatten_cons,← List.append_assoc] at h
  exact h
theorem rest_done {α:Type} {f:α→List Nat} {l:List α} {B R:List Nat} (h:B ++ tailB f l l.length=R):B=R:=by
  unfold tailB at h
  rw [List.drop_length] at h
  simpa using h
theorem putList_fn (b:List Nat) (xs:List (List Nat)) (hb:b.length≤50000) (hx:SmW xs):Rets Tryz.prog 88 [.d (nb b),.d (.ro 1 (xs.map encT))] (fun r=>r=.d (nb (b ++ listB xs))):=by
  refine fna Tryz.func88 Tryz.ntmps88 (rs:=[.tmp 4]) (by simp [AV.deep,AV.deep1]) ?_
  obtain ⟨hl,hx⟩:=hx
  have hp5:=putSize_len xs.length
  have w:IntKind.u64.wrap (xs.length:Int)=(xs.length:Int):=by rw [u64w];omega
  have hR0:(b ++ putSize xs.length) ++ tailB bytesB xs 0=b ++ listB xs:=by rw [List.append_assoc];rfl
  generalize b ++ listB xs=R at *
  simp [go_sem,w]
  refine cl_eq (putSize_fn b xs.length (by omega) (by omega)) (by simp [AV.deep,AV.deep1]) ?_
  have hB0:(b ++ putSize xs.length).length≤50005:=by rw [List.length_append];omega
  generalize b ++ putSize xs.length=B0 at *
  simp [go_sem]
  refine loop_of (fun t:Nat × List Nat=>⟨[(5,.d (nb t.2)),(13,.d (.ro 1 (xs.map encT))),(14,.d (.int .i64 (xs.length:Int))),(15,.d (.int .i64 (t.1:Int)))],[],1000⟩)
    (fun t=>t.1≤xs.length∧t.2.length≤50005+605*t.1∧t.2 ++ tailB bytesB xs t.1=R) (fun t=>xs.length - t.1) (0,B0) ⟨by simp,by simp;omega,hR0⟩ (by
      simp [Weak,slotOk,fv,lk,AV.low,AV.low1,nb]) ?_
  rintro ⟨k,B⟩ ⟨hk,hBl,hR⟩
  simp only at hk hBl hR
  simp only [go_sem,Nat.reduceEqDiff,Nat.reduceAdd,Nat.reduceLT,↓reduceIte,Nat.reduceMul]
  refine ⟨fun h=>?_,fun h=>?_⟩
  · obtain ⟨x,hx1,hd⟩:=drop_of (l:=xs) (k:=k) (by omega)
    have hxl:=hx x (List.mem_of_getElem? hx1)
    have w3:=next_i64 (k:=k) (by omega)
    have hbl:=bytesB_len x
    simp [go_sem,hx1,encT]
    refine cl_eq (putBytes_fn B x (by omega) (by omega)) (by simp [AV.deep,AV.deep1]) ?_
    simp [go_sem,w3]
    refine next_of (k+1,B ++ bytesB x) ⟨by simp only;omega,by simp only [List.length_append];omega,rest_step hd hR⟩ (by simp only;omega) ?_
    simp [Weak,slotOk,fv,lk,AV.low,AV.low1,nb,bytesB]
  · have hkl:k=xs.length:=by omega
    subst hkl
    have:=rest_done hR
    subst this
    simp [go_sem]
    exact post_same (by simp [AV.deep,AV.deep1]) rfl
end Go.Proofs.YtfahccoobfjkeaaGreat
namespace Go.Sha
theorem inB_len {i:Ip} (h:i.hash.length=32):(inB i).length=40:=by simp [inB,h,le_len]
theorem payB_len (o:Nat × List Nat):(payB o).length≤13+o.2.length:=by
  have:=bytesB_len o.2
  unfold payB
  rw [List.length_append,le_len];omega
def Sm (t:Tn):Prop:=t.ok∧t.ins.length≤6∧t.outs.length≤6∧(∀ o,o ∈ t.outs→o.2.length≤600)∧∀ i,i ∈ t.ins→SmW i.wit
theorem sm_of {t:Tn} (h:t.ok) (hw:within 6 6 600 t=true):Sm t:=by
  simp only [within,Bool.and_eq_true,decide_eq_true_eq,shortO,shortI,shortW,List.all_eq_true] at hw
  obtain ⟨h1,h2,h3,h4⟩:=hw
  exact ⟨h,h1,h2,h3,fun i hi=>⟨(h4 i hi).1,(h4 i hi).2⟩⟩
end Go.Sha
namespace Go.Proofs.YtfahccoobfjkeaaGreat
open Go.Am Go.Sha
def cIp (i:Ip):List AV:=cb i.hash ++ [.d (.int .u32 (i.idx:Int)),.d (.int .u32 (i.seq:Int)),.d (.ro 1 (i.wit.map encT))]
theorem eI_cI (i:Ip):(eI i).map AV.d=cIp i:=by simp [eI,cIp,cd_map]
theorem cIp_len {i:Ip} (h:i.hash.length=32):(cIp i).length=35:=by simp [cIp,cb_len,h]
theorem cI32 {i:Ip} (h:i.hash.length=32):(cIp i)[32]?=some (.d (.int .u32 (i.idx:Int))):=by
  rw [cIp,List.getElem?_append_right (by rw [cb_len];omega),cb_len,h];rfl
theorem cI33 {i:Ip} (h:i.hash.length=32):(cIp i)[33]?=some (.d (.int .u32 (i.seq:Int))):=by
  rw [cIp,List.getElem?_append_right (by rw [cb_len];omega),cb_len,h];rfl
theorem cI34 {i:Ip} (h:i.hash.length=32):(cIp i)[34]?=some (.d (.ro 1 (i.wit.map encT))):=by
  rw [cIp,List.getElem?_append_right (by rw [cb_len];omega),cb_len,h];rfl
theorem cI32g {i:Ip} (h:i.hash.length=32) (hl:32<(cIp i).length):(cIp i)[32]=.d (.int .u32 (i.idx:Int)):=by
  have:=cI32 h
  rw [List.getElem?_eq_getElem hl] at this
  exact Option.some.inj this
theorem cI33g {i:Ip} (h:i.hash.length=32) (hl:33<(cIp i).length):(cIp i)[33]=.d (.int .u32 (i.seq:Int)):=by
  have:=cI33 h
  rw [List.getElem?_eq_getElem hl] at this
  exact Option.some.inj this
theorem cI34g {i:Ip} (h:i.hash.length=32) (hl:34<(cIp i).length):(cIp i)[34]=.d (.ro 1 (i.wit.map encT)):=by
  have:=cI34 h
  rw [List.getElem?_eq_getElem hl] at this
  exact Option.some.inj this
theorem cIp_take {i:Ip} (h:i.hash.length=32):(cIp i).take 35=cIp i:=List.take_of_length_le (by rw [cIp_len h];omega)
theorem cIp_low (n:Nat) (i:Ip):∀ v,v ∈ cIp i→v.low1 n:=by
  intro v hv
  simp only [cIp,List.mem_append,List.mem_cons,List.mem_nil_iff,or_false] at hv
  rcases hv with hv | rfl | rfl | rfl
  · exact cb_low _ _ _ hv
  · trivial
  · trivial
  · trivial
theorem cIp_rows {i:Ip} (h:i.hash.length=32):(List.range 32).map (fun k=>((cIp i).drop k).take 1)=rb i.hash:=by
  have h1:=arr_rows h
  rw [rb_of] at h1
  rw [← h1]
  apply List.map_congr_left
  intro k hk
  have hk:=List.mem_range.1 hk
  unfold cIp
  rw [List.drop_append_of_le_length (by rw [cb_len];omega),List.take_append_of_le_length (by rw [List.length_drop,cb_len];omega)]
theorem zin:tzO Tryz.prog 86=some (cb z32 ++ [.d (.int .u32 0),.d (.int .u32 0),.nil]):=by kernel_rfl
attribute [go_sem] zin
theorem zin_drop:List.drop 35 (cb z32 ++ [AV.d (.int .u32 0),AV.d (.int .u32 0),AV.nil])=[]:=rfl
theorem bare_fn (t:Tn) (ht:Sm t):Rets Tryz.prog 54 [.agg (eT t)] (fun r=>r=.d (nb (bareB t))):=by
  obtain ⟨⟨hv,hlk,hi,ho⟩,h1,h2,h3,h4⟩:=ht
  refine fna Tryz.func54 Tryz.ntmps54 (rs:=[.tmp 2]) (by simp [AV.deep,AV.deep1,eT]) ?_
  have w1:IntKind.u64.wrap (t.ins.length:Int)=(t.ins.length:Int):=by rw [u64w];omega
  have w2:IntKind.u64.wrap (t.outs.length:Int)=(t.outs.length:Int):=by rw [u64w];omega
  have hp1:=putSize_len t.ins.length
  have hp2:=putSize_len t.outs.length
  simp [go_sem,eT]
  refine cl_froz [] (put32_fn [] t.ver (by simp) hv) rfl (snap_cons (.one (snap1_d (.nil 1))) (snap_cons (.deep (by simp [AV.deep,AV.deep1])) snap_nil)) ?_
  simp [go_sem,dropH,w1]
  refine cl_eff [] (putSize_own (le t.ver 4) t.ins.length (by simp [le_len]) (by omega)) rfl (by simp) (by simp) (by simp) (by simp [AV.renL,AV.ren]) ?_
  rintro r hp' ⟨I,rfl,h0⟩
  refine ⟨[(I,0)],by simp [newsB,prsB],?_⟩
  have hB0:(le t.ver 4 ++ putSize t.ins.length).length≤9:=by rw [List.length_append,le_len];omega
  have hR0:(le t.ver 4 ++ putSize t.ins.length) ++ tailB inB t.ins 0=le t.ver 4 ++ putSize t.ins.length ++ insB t.ins:=rfl
  have hR9:bareB t=(le t.ver 4 ++ putSize t.ins.length ++ insB t.ins) ++ (putSize t.outs.length ++ (paysB t.outs ++ le t.lock 4)):=by simp [bareB]
  rw [hR9]
  generalize le t.ver 4 ++ putSize t.ins.length ++ insB t.ins=R1 at *
  generalize le t.ver 4 ++ putSize t.ins.length=B0 at *
  simp [go_sem,outH,outP,h0,Blk.ren,renR,rb_ren,AV.renL,AV.ren,rho]
  refine loop_of (fun u:Nat × List Nat=>⟨[(1,.ptr 0 0 0 1),(3,.own 352 0 u.2.length u.2.length),(18,.d (.ro 35 (t.ins.map eI))),(19,.d (.int .i64 (t.ins.length:Int))),(20,.d (.int .i64 (u.1:Int)))],[(352,⟨5,1,rb u.2⟩),(0,⟨79,4,[eT t]⟩)],2000⟩)
    (fun u=>u.1≤t.ins.length∧u.2.length≤9+40*u.1∧u.2 ++ tailB inB t.ins u.1=R1) (fun u=>t.ins.length - u.1) (0,B0) ⟨by simp,by simp;omega,hR0⟩ (by
      simp [Weak,slotOk,fv,lk,AV.low,AV.low1,eT]
      exact rb_low _ _) ?_
  rintro ⟨k,B⟩ ⟨hk,hBl,hR⟩
  simp only at hk hBl hR
  simp only [eT]
  simp only [go_sem,Nat.reduceEqDiff,Nat.reduceAdd,Nat.reduceLT,↓reduceIte,Nat.reduceMul]
  refine ⟨fun h=>?_,fun h=>?_⟩
  · obtain ⟨i,hi1,hd⟩:=drop_of (l:=t.ins) (k:=k) (by omega)
    obtain ⟨hi32,hidx,hseq⟩:=hi i (List.mem_of_getElem? hi1)
    have w3:=next_i64 (k:=k) (by omega)
    have hil:=inB_len hi32
    have hel:=eI_len hi32
    have hcl:=cIp_len hi32
    have hx:=cIp_rows hi32
    simp [go_sem] at hx
    simp [go_sem,hi1,hel,eI_cI,hcl,cIp_take hi32,zin_drop,hx,rb_len,cI32g hi32,rb_app]
    refine ⟨by omega,?_⟩
    have hBh:(B ++ i.hash).length=B.length+32:=by rw [List.length_append,hi32]
    refine cl_effz [352] (put32_own (B ++ i.hash) i.idx (by omega) hidx) rfl (snap_cons (.one (snap1_d (snap_full hBh rfl (by simp)))) (snap_cons (.deep (by simp [AV.deep,AV.deep1])) snap_nil)) (fun ρ=>by simp [AV.renL,AV.ren]) ?_
    rintro r hp' ⟨I,rfl,h0⟩
    refine ⟨[(I,0)],by simp [newsB,prsB],?_⟩
    have hB1:(B ++ i.hash ++ le i.idx 4).length=B.length+36:=by rw [List.length_append,hBh,le_len]
    have hB3:B ++ inB i=B ++ i.hash ++ le i.idx 4 ++ le i.seq 4:=by simp [inB]
    generalize B ++ i.hash ++ le i.idx 4=B1 at *
    simp [go_sem,outH,outP,h0,Blk.ren,renR,rb_ren,AV.renL,AV.ren,rho,dropH,hcl,cI33g hi32]
    refine cl_effz [2480] (put32_own B1 i.seq (by omega) hseq) rfl (snap_cons (.one (snap1_d (snap_full rfl rfl (by simp)))) (snap_cons (.deep (by simp [AV.deep,AV.deep1])) snap_nil)) (fun ρ=>by simp [AV.renL,AV.ren]) ?_
    rintro r hp'' ⟨J,rfl,h0'⟩
    refine ⟨[(J,0)],by simp [newsB,prsB],?_⟩
    have hB2:(B1 ++ le i.seq 4).length=B1.length+4:=by rw [List.length_append,le_len]
    rw [← hB3] at h0' hB2 ⊢
    generalize hB4:B ++ inB i=B2 at *
    simp [go_sem,outH,outP,h0',Blk.ren,renR,rb_ren,AV.renL,AV.ren,rho,dropH,w3]
    refine nextR_of (k+1,B2) ⟨by simp only;omega,by simp only;omega,by rw [← hB4];exact rest_step hd hR⟩ (by simp only;omega) [(0,0),(2640,352)] 9000 (by decide) (by decide) (by decide) (by decide) ?_
    simp [renF,renH,rho,AV.ren,Blk.ren,renR,rb_ren,Weak,slotOk,fv,lk,AV.low,AV.low1,AV.renL,eT]
    exact rb_low _ _
  · have hkl:k=t.ins.length:=by omega
    subst hkl
    have:=rest_done hR
    subst this
    clear hR hR0 h hk
    have hR0:(B ++ putSize t.outs.length) ++ tailB payB t.outs 0=B ++ putSize t.outs.length ++ paysB t.outs:=rfl
    have hR9:B ++ (putSize t.outs.length ++ (paysB t.outs ++ le t.lock 4))=(B ++ putSize t.outs.length ++ paysB t.outs) ++ le t.lock 4:=by simp
    rw [hR9]
    simp [go_sem,w2]
    refine cl_froz [352] (putSize_fn B t.outs.length (by omega) (by omega)) rfl (snap_cons (.one (snap1_d (snap_full rfl rfl (by simp)))) (snap_cons (.deep (by simp [AV.deep,AV.deep1])) snap_nil)) ?_
    have hB0':(B ++ putSize t.outs.length).length≤300:=by rw [List.length_append];omega
    generalize B ++ putSize t.outs.length ++ paysB t.outs=R2 at *
    generalize B ++ putSize t.outs.length=B1 at *
    simp [go_sem,dropH]
    refine loop_of (fun u:Nat × List Nat=>⟨[(1,.ptr 0 0 0 1),(3,.d (nb u.2)),(46,.d (.ro 2 (t.outs.map eO))),(47,.d (.int .i64 (t.outs.length:Int))),(48,.d (.int .i64 (u.1:Int)))],[(0,⟨79,4,[eT t]⟩)],9000⟩)
      (fun u=>u.1≤t.outs.length∧u.2.length≤300+613*u.1∧u.2 ++ tailB payB t.outs u.1=R2) (fun u=>t.outs.length - u.1) (0,B1) ⟨by simp,by simp;omega,hR0⟩ (by
        simp [Weak,slotOk,fv,lk,AV.low,AV.low1,eT]) ?_
    rintro ⟨k,B'⟩ ⟨hk,hBl',hR⟩
    simp only at hk hBl' hR
    simp only [eT]
    simp only [go_sem,Nat.reduceEqDiff,Nat.reduceAdd,Nat.reduceLT,↓reduceIte,Nat.reduceMul]
    refine ⟨fun h=>?_,fun h=>?_⟩
    · obtain ⟨o,ho1,hd⟩:=drop_of (l:=t.outs) (k:=k) (by omega)
      have ho64:=ho o (List.mem_of_getElem? ho1)
      have hol:=h3 o (List.mem_of_getElem? ho1)
      have w3:=next_i64 (k:=k) (by omega)
      have hoB:=payB_len o
      simp [go_sem,ho1,eO]
      refine cl_eq (put64_fn B' o.1 (by omega) ho64) (by simp [AV.deep,AV.deep1]) ?_
      simp [go_sem]
      have hl8:(B' ++ le o.1 8).length=B'.length+8:=by rw [List.length_append,le_len]
      have hB3:B' ++ payB o=B' ++ le o.1 8 ++ (putSize o.2.length ++ o.2):=by simp [payB,bytesB]
      refine cl_eq (putBytes_fn (B' ++ le o.1 8) o.2 (by omega) (by omega)) (by simp [AV.deep,AV.deep1]) ?_
      rw [← hB3]
      have hB4l:(B' ++ payB o).length=B'.length+(payB o).length:=List.length_append
      simp [go_sem,w3]
      refine next_of (k+1,B' ++ payB o) ⟨by simp only;omega,by simp only;omega,rest_step hd hR⟩ (by simp only;omega) ?_
      simp [Weak,slotOk,fv,lk,AV.low,AV.low1,eT]
    · have hkl:k=t.outs.length:=by omega
      subst hkl
      have:=rest_done hR
      subst this
      simp [go_sem]
      refine cl_eq (put32_fn B' t.lock (by omega) hlk) (by simp [AV.deep,AV.deep1]) ?_
      simp [go_sem]
      exact post_same (by simp [AV.deep,AV.deep1]) (by rw [hR9])
theorem bareB_len {t:Tn} (ht:Sm t):(bareB t).length≤4000:=by
  obtain ⟨⟨hv,hlk,hi,ho⟩,h1,h2,h3,h4⟩:=ht
  have hp1:=putSize_len t.ins.length
  have hp2:=putSize_len t.outs.length
  have e1:∀ l:List Ip,(∀ i,i ∈ l→i.hash.length=32)→(insB l).length=40*l.length:=by
    intro l
    induction l with
    | nil=>intro _;rfl
    | cons i r ih =>
      intro h
      have h1:=ih fun j hj=>h j (List.mem_cons_of_mem _ hj)
      have h2:=inB_len (h i (List.mem_cons_self ..))
      have e:(insB (i :: r)).length=(inB i).length+(insB r).length:=by simp [insB]
      rw [e,List.length_cons];omega
  have e2:∀ l:List (Nat × List Nat),(∀ o,o ∈ l→o.2.length≤600)→(paysB l).length≤613*l.length:=by
    intro l
    induction l with
    | nil=>intro _;simp [paysB]
    | cons i r ih =>
      intro h
      have h1:=ih fun j hj=>h j (List.mem_cons_of_mem _ hj)
      have h2:=payB_len i
      have h3:=h i (List.mem_cons_self ..)
      have e:(paysB (i :: r)).length=(payB i).length+(paysB r).length:=by simp [paysB]
      rw [e,List.length_cons];omega
  have f1:=e1 t.ins fun i h=>(hi i h).1
  have f2:=e2 t.outs h3
  unfold bareB
  simp only [List.length_append,le_len]
  omega
def whB (i:Ip):List Nat:=listB i.wit
theorem whole_fn (t:Tn) (ht:Sm t):Rets Tryz.prog 51 [.agg (eT t)] (fun r=>r=.d (nb (wholeB t))):=by
  have hbl:=bareB_len ht
  refine fna Tryz.func51 Tryz.ntmps51 (rs:=[.tmp 2]) (by simp [AV.deep,AV.deep1,eT]) ?_
  simp [go_sem,eT]
  refine cl_eq (bare_fn t ht) (by simp [AV.deep,AV.deep1,eT]) ?_
  obtain ⟨⟨hv,hlk,hi,ho⟩,h1,h2,h3,h4⟩:=ht
  have hR0:bareB t ++ tailB whB t.ins 0=wholeB t:=rfl
  generalize wholeB t=R at *
  generalize bareB t=B0 at *
  simp [go_sem]
  refine loop_of (fun u:Nat × List Nat=>⟨[(3,.d (nb u.2)),(9,.d (.ro 35 (t.ins.map eI))),(10,.d (.int .i64 (t.ins.length:Int))),(11,.d (.int .i64 (u.1:Int)))],[],9000⟩)
    (fun u=>u.1≤t.ins.length∧u.2.length≤4000+3635*u.1∧u.2 ++ tailB whB t.ins u.1=R) (fun u=>t.ins.length - u.1) (0,B0) ⟨by simp,by simp;omega,hR0⟩ (by
      simp [Weak,slotOk,fv,lk,AV.low,AV.low1]) ?_
  rintro ⟨k,B⟩ ⟨hk,hBl,hR⟩
  simp only at hk hBl hR
  simp only [go_sem,Nat.reduceEqDiff,Nat.reduceAdd,Nat.reduceLT,↓reduceIte,Nat.reduceMul]
  refine ⟨fun h=>?_,fun h=>?_⟩
  · obtain ⟨i,hi1,hd⟩:=drop_of (l:=t.ins) (k:=k) (by omega)
    obtain ⟨hi32,hidx,hseq⟩:=hi i (List.mem_of_getElem? hi1)
    have w3:=next_i64 (k:=k) (by omega)
    have hel:=eI_len hi32
    have hcl:=cIp_len hi32
    have hw:=h4 i (List.mem_of_getElem? hi1)
    have hll:=listB_len hw
    simp [go_sem,hi1,hel,eI_cI,hcl,cIp_take hi32,zin_drop,cI34g hi32]
    refine cl_eq (putList_fn B i.wit (by omega) hw) (by simp [AV.deep,AV.deep1]) ?_
    simp [go_sem,w3]
    refine next_of (k+1,B ++ listB i.wit) ⟨by simp only;omega,by simp only [List.length_append];omega,rest_step (f:=whB) hd hR⟩ (by simp only;omega) ?_
    simp [Weak,slotOk,fv,lk,AV.low,AV.low1]
  · have hkl:k=t.ins.length:=by omega
    subst hkl
    have:=rest_done hR
    subst this
    simp [go_sem]
    exact post_same (by simp [AV.deep,AV.deep1]) rfl
theorem shortW_of {xs:List (List Nat)} (h:SmW xs):shortW 1000 xs=true:=by
  simp only [shortW,List.all_eq_true,decide_eq_true_eq]
  exact fun x hx=>by have:=h.2 x hx;omega
theorem counts_fn (t:Tn) (ht:Sm t):Rets Tryz.prog 50 [.agg (eT t)] (fun r=>r=.d (.bool true)):=by
  refine fna Tryz.func50 Tryz.ntmps50 (rs:=[.tmp 2]) (by simp [AV.deep,AV.deep1,eT]) ?_
  obtain ⟨⟨hv,hlk,hi,ho⟩,h1,h2,h3,h4⟩:=ht
  have i1:¬ 20<(t.ins.length:Int):=by omega
  have i2:¬ 20<(t.outs.length:Int):=by omega
  simp [go_sem,eT,i1,i2]
  refine loop_of (fun k:Nat=>⟨[(1,.ptr 0 0 0 1),(18,.d (.ro 2 (t.outs.map eO))),(19,.d (.int .i64 (t.outs.length:Int))),(20,.d (.int .i64 (k:Int)))],[(0,⟨79,4,[eT t]⟩)],9000⟩)
    (fun k=>k≤t.outs.length) (fun k=>t.outs.length - k) 0 (by simp) (by
      simp [Weak,slotOk,fv,lk,AV.low,AV.low1,eT]) ?_
  intro k hk
  simp only [eT]
  simp only [go_sem,Nat.reduceEqDiff,Nat.reduceAdd,Nat.reduceLT,↓reduceIte,Nat.reduceMul]
  refine ⟨fun h=>?_,fun h=>?_⟩
  · obtain ⟨o,ho1,hd⟩:=drop_of (l:=t.outs) (k:=k) (by omega)
    have hol:=h3 o (List.mem_of_getElem? ho1)
    have w3:=next_i64 (k:=k) (by omega)
    simp [go_sem,ho1,eO]
    refine cl_eq (long_fn o.2) (by simp [AV.deep,AV.deep1]) ?_
    have j1:¬ 1000<o.2.length:=by omega
    simp [go_sem,j1,w3]
    refine next_of (k+1) (by omega) (by omega) ?_
    simp [Weak,slotOk,fv,lk,AV.low,AV.low1,eT]
  · simp [go_sem]
    refine loop_of (fun k:Nat=>⟨[(1,.ptr 0 0 0 1),(29,.d (.ro 35 (t.ins.map eI))),(30,.d (.int .i64 (t.ins.length:Int))),(31,.d (.int .i64 (k:Int)))],[(0,⟨79,4,[eT t]⟩)],19000⟩)
      (fun k=>k≤t.ins.length) (fun k=>t.ins.length - k) 0 (by simp) (by
        simp [Weak,slotOk,fv,lk,AV.low,AV.low1,eT]) ?_
    intro k hk
    simp only [eT]
    simp only [go_sem,Nat.reduceEqDiff,Nat.reduceAdd,Nat.reduceLT,↓reduceIte,Nat.reduceMul]
    refine ⟨fun h=>?_,fun h=>?_⟩
    · obtain ⟨i,hi1,hd⟩:=drop_of (l:=t.ins) (k:=k) (by omega)
      obtain ⟨hi32,hidx,hseq⟩:=hi i (List.mem_of_getElem? hi1)
      have w3:=next_i64 (k:=k) (by omega)
      have hel:=eI_len hi32
      have hcl:=cIp_len hi32
      have hw:=h4 i (List.mem_of_getElem? hi1)
      have hw6:=hw.1
      have j1:¬ 30<(i.wit.length:Int):=by omega
      simp [go_sem,hi1,hel,eI_cI,hcl,cIp_take hi32,zin_drop,cI34g hi32,j1]
      refine cl_eq (containsW_fn i.wit (by omega)) (by simp [AV.deep,AV.deep1]) ?_
      simp [go_sem,shortW_of hw,w3]
      refine next_of (k+1) (by omega) (by omega) ?_
      simp [Weak,slotOk,fv,lk,AV.low,AV.low1,eT]
    · simp [go_sem]
      exact post_same (by simp [AV.deep,AV.deep1]) rfl
def checkT (t:Tn):Int:=if 12000<(wholeB t).length then 4 else 0
theorem checkT_fn (t:Tn) (ht:Sm t):Rets Tryz.prog 30 [.agg (eT t)] (fun r=>r=.d (.int .i64 (checkT t))):=by
  refine fna Tryz.func30 Tryz.ntmps30 (rs:=[.tmp 2]) (by simp [AV.deep,AV.deep1,eT]) ?_
  simp [go_sem,eT]
  refine cl_eq (counts_fn t ht) (by simp [AV.deep,AV.deep1,eT]) ?_
  simp [go_sem]
  refine cl_eq (whole_fn t ht) (by simp [AV.deep,AV.deep1,eT]) ?_
  have hc:checkT t=if 12000<(wholeB t).length then 4 else 0:=rfl
  rw [hc]
  by_cases h:12000<(wholeB t).length
  · have i1:12000<((wholeB t).length:Int):=by omega
    simp [go_sem,nb,i1,h]
    exact post_same (by simp [AV.deep,AV.deep1]) rfl
  · have i1:¬ 12000<((wholeB t).length:Int):=by omega
    simp [go_sem,nb,i1,h]
    exact post_same (by simp [AV.deep,AV.deep1]) rfl
theorem equal_fn (a b:List Nat) (ha:bytes a) (hb:bytes b):Rets Tryz.prog 104 [.d (nb a),.d (nb b)] (fun r=>r=.d (.bool (decide (a=b)))):=by
  refine fna Tryz.func104 Tryz.ntmps104 (rs:=[.tmp 4]) (by simp [AV.deep,AV.deep1]) ?_
  simp [go_sem,nb]
  refine cvS_nbV a 5 ha (by simp [go_sem]) (by simp [go_sem]) Tryz.underlying5 ?_
  simp [go_sem,nb]
  refine cvS_nbV b 5 hb (by simp [go_sem]) (by simp [go_sem]) Tryz.underlying5 ?_
  simp [go_sem,sb_inj]
  exact post_same (by simp [AV.deep,AV.deep1]) rfl
theorem ty_u32 {n:Nat} {ds:List DV} (h:TyD Tryz.prog (n+1) 23 ds):∃ x:Nat,ds=[.int .u32 (x:Int)]∧x<4294967296:=by
  rw [TyD] at h
  simp only [Tryz.underlying23] at h
  obtain ⟨x,rfl,hx⟩:=h
  have hx':0≤x∧x<4294967296:=by simp [IntKind.has,IntKind.min,IntKind.max,IntKind.signed,IntKind.bits] at hx;omega
  exact ⟨x.toNat,by rw [show ((x.toNat:Nat):Int)=x by omega],by omega⟩
theorem ty_u64 {n:Nat} {ds:List DV} (h:TyD Tryz.prog (n+1) 26 ds):∃ x:Nat,ds=[.int .u64 (x:Int)]∧x<18446744073709551616:=by
  rw [TyD] at h
  simp only [Tryz.underlying26] at h
  obtain ⟨x,rfl,hx⟩:=h
  have hx':0≤x∧x<18446744073709551616:=by simp [IntKind.has,IntKind.min,IntKind.max,IntKind.signed,IntKind.bits] at hx;omega
  exact ⟨x.toNat,by rw [show ((x.toNat:Nat):Int)=x by omega],by omega⟩
theorem ty_out {n:Nat} {ds:List DV} (h:TyD Tryz.prog (n+3) 88 ds):∃ o:Nat × List Nat,ds=eO o∧o.1<18446744073709551616∧bytes o.2:=by
  rw [TyD] at h
  simp only [Tryz.underlying88,List.map_cons,List.map_nil] at h
  obtain ⟨a,b,rfl,ha,ha2,a',b',rfl,hb,hb2,rfl⟩:=h
  obtain ⟨x,rfl,hx⟩:=ty_u64 ha2
  rw [show Tryz.prog.cellsOf 29=1 by kernel_rfl] at hb
  match a',hb,hb2 with
  | [y],_,hb2 =>
    obtain ⟨bs,rfl,_,h5⟩:=ty_bytes hb2
    exact ⟨(x,bs),rfl,hx,h5⟩
theorem ty_outs {n:Nat} {ds:List DV} (h:TyD Tryz.prog (n+4) 77 ds):∃ os:List (Nat × List Nat),ds=[.ro 2 (os.map eO)]∧∀ o,o ∈ os→o.1<18446744073709551616∧bytes o.2:=by
  rw [TyD] at h
  simp only [Tryz.underlying77] at h
  obtain ⟨es,rfl,hl,hr⟩:=h
  obtain ⟨os,rfl,hos⟩:=map_of (enc:=eO) (R:=fun o=>o.1<18446744073709551616∧bytes o.2) (es:=es) (fun r hr'=>by
    obtain ⟨h1,h2⟩:=hr r hr'
    obtain ⟨o,rfl,h3,h4⟩:=ty_out h1
    exact ⟨o,rfl,h3,h4⟩)
  exact ⟨os,by rw [show Tryz.prog.cellsOf 88=2 by kernel_rfl],hos⟩
end Go.Proofs.YtfahccoobfjkeaaGreat
