/-
  Part 13 of what the claim rests on.
-/
import Derived.Test.YtfahccoobfjkeaaGreatT4
import Derived.Test.YtfahccoobfjkeaaGreatT11
set_option linter.unusedVariables false
set_option linter.unusedSimpArgs false
set_option maxRecDepth 100000
set_option maxHeartbeats 16000000
namespace Go.Proofs.YtfahccoobfjkeaaGreat
open Go.Am Go.Sha Go.Ec
theorem wtC_low (n:Nat) (w:Wt):∀ v,v ∈ wtC w→v.low1 n:=by
  intro v hv
  unfold wtC at hv
  rcases List.mem_append.1 hv with h | h
  · exact planC_low _ _ _ _ _ v h
  · simp at h;rcases h with rfl | rfl | rfl <;> trivial
theorem map_take_succ {α β:Type} {f:α→β} {l:List α} {k:Nat} {x:α} (h:l[k]?=some x):(l.take k).map f ++ [f x]=(l.take (k+1)).map f:=by
  rw [List.take_add_one,h];simp
def nwB (W:List Wt):Blk:=⟨111,69,W.map wtC⟩
def nwX (n:Nat):Blk:=⟨108,3,[[.own 5000 0 n n,.nil,.nil]]⟩
theorem new_ex (ps:List P4) (hp:∀ p,p ∈ ps→okP p):∃ o:Option (List Wt),(∀ W,o=some W→W.length=ps.length∧W.length≤8∧∀ w,w ∈ W→w.ok) ∧
    RetsE Tryz.prog 19 0 [] [.d (.ro 66 (ps.map pcD))] (fun r hp'=>match o with
      | none=>r=.tup [.d .nilp,.d (.int .i64 1)]
      | some W=>r=.tup [.ptr 193 0 0 1,.d (.int .i64 0)]∧lk 193 hp'=some (nwX W.length)∧lk 5000 hp'=some (nwB W)):=by
  obtain ⟨LK,hLK⟩:=pick (α:=P4) (β:=Option (List Nat)) (A:=okP) (B:=fun p o=>(∀ a,o=some a→(mkW p a).ok∧a.length=34) ∧
    Rets Tryz.prog 40 [.agg (pcC p)] (fun r=>match o with | none=>r=.tup [.agg zWt,.d (.int .i64 1)] | some a=>r=.tup [.agg (wtC (mkW p a)),.d (.int .i64 0)])) (fun p h=>look_ex p h)
  by_cases hc:ps.length≤8∧∀ p,p ∈ ps→(LK p).isSome=true
  · refine ⟨some (ps.map fun p=>mkW p ((LK p).getD [])),fun W e=>?_,?_⟩
    · cases e
      refine ⟨by simp,by simpa using hc.1,fun w hw=>?_⟩
      obtain ⟨p,hp',rfl⟩:=List.mem_map.1 hw
      have h1:=hc.2 p hp'
      cases hq:LK p with
      | none=>rw [hq] at h1;cases h1
      | some a=>exact ((hLK p (hp p hp')).1 a hq).1
    · refine fnE_of_awp Tryz.func19 (by kernel_rfl) rfl Tryz.ntmps19 (rs:=[.tmp 2,.tmp 3]) rfl (nlb rfl) (by decide) ?_
      have h8:¬ (8:Int)<(ps.length:Int):=by omega
      have h8':¬ 8<ps.length:=by omega
      simp [go_sem,h8,h8']
      refine loopW_of (fun k:Nat=>⟨[(4,.ptr 193 0 0 1),(14,.d (.ro 66 (ps.map pcD))),(15,.d (.int .i64 (ps.length:Int))),(16,.d (.int .i64 (k:Int)))],
          [(5000,nwB ((ps.take k).map fun p=>mkW p ((LK p).getD []))),(193,nwX k)],6000⟩)
        (fun k=>k≤ps.length) (fun k=>ps.length - k) 0 (by omega) ((weak_wk (st':=⟨[(4,.ptr 193 0 0 1),(14,.d (.ro 66 (ps.map pcD))),(15,.d (.int .i64 (ps.length:Int))),(16,.d (.int .i64 0))],
          [(5000,nwB []),(193,⟨108,3,[[.nil,.nil,.nil]]⟩)],6000⟩) (by
          simp [Weak,slotOk,fv,lk,AV.low,AV.low1,nwB])).trans (le_one (L:=193) (ty:=108) (e:=3) (x:=[.nil,.nil,.nil]) (x':=[.own 5000 0 0 0,.nil,.nil]) rfl (by decide) (leRow_mid [] [.nil,.nil] (.inr (.inr ⟨.inl rfl,.inl ⟨5000,by show 5000<6000;omega,rfl⟩⟩))))) ?_
      intro k hk
      simp only [nwB,nwX]
      simp only [go_sem,Nat.reduceEqDiff,Nat.reduceAdd,Nat.reduceLT,↓reduceIte,Nat.reduceMul]
      refine ⟨fun h=>?_,fun h=>?_⟩
      · obtain ⟨p,hp1,hd⟩:=drop_of (l:=ps) (k:=k) (by omega)
        have hpm:=List.mem_of_getElem? hp1
        have h1:=hc.2 p hpm
        obtain ⟨a,ha⟩:∃ a,LK p=some a:=Option.isSome_iff_exists.1 h1
        obtain ⟨r1,r2⟩:=hLK p (hp p hpm)
        rw [ha] at r2
        obtain ⟨w1,w2⟩:=r1 a ha
        have w3:=next_i64 (k:=k) (by omega)
        have hpl:(pcC p).length=66:=planC_len (hp p hpm).1 (hp p hpm).2.2.2.2.1 _ _
        have hpt:List.take 66 (pcC p)=pcC p:=planC_take (hp p hpm).1 (hp p hpm).2.2.2.2.1 _ _
        have hpl2:(pcD p).length=66:=by rw [← List.length_map (f:=AV.d),pcD_map,hpl]
        have hwl:=wtC_len w1
        have hwt:=wtC_take w1
        have hms:=map_take_succ (f:=fun p=>wtC (mkW p ((LK p).getD []))) hp1
        rw [ha] at hms
        have hdp:∀ v,v ∈ [AV.agg (pcC p)]→v.deep:=by intro v hv;simp at hv;subst hv;exact planC_deep _ _ _ _
        have zd:List.drop 66 zPl=[]:=rfl
        simp [go_sem,hp1,hpl,hpl2,hpt,pcD_map,zPl_len,zd]
        refine cl_eq r2 hdp ?_
        simp [go_sem,hwl,hwt,zWt_len,zWt_drop]
        refine drw3 [1,2,3,4,5] [0,6,7,8,9,10] [1,2,3,4,5] (.alt (.step 0 [] true (.step 6 [] true (.step 7 [] false (.step 8 [] false (.step 9 [] false (.step 10 [] false .done)))))) (.step 6 [] true (.alt (.step 0 [] true (.step 7 [] false (.step 8 [] false (.step 9 [] false (.step 10 [] false .done))))) (.step 7 [] false (.step 0 [] false (.step 8 [] false (.step 9 [] false (.step 10 [] false .done)))))))) ⟨[(4,.ptr 193 0 0 1),(14,.d (.ro 66 (ps.map pcD))),(15,.d (.int .i64 (ps.length:Int))),(16,.d (.int .i64 (k:Int)))],[(5000,nwB ((ps.take (k+1)).map fun p=>mkW p ((LK p).getD []))),(193,nwX (k+1))],9000⟩ (k:=11) ?h3 ?hq
        case h3 =>
          intro G hG
          have hW:∀ (fr:Fr) (hp:Hp),(fv 4 fr=.ptr 193 0 0 1∧fv 14 fr=.d (.ro 66 (ps.map pcD))∧fv 15 fr=.d (.int .i64 (ps.length:Int))∧fv 16 fr=.d (.int .i64 (k:Int))∧lk 5000 hp=some (nwB ((ps.take (k+1)).map fun p=>mkW p ((LK p).getD [])))∧lk 193 hp=some (nwX (k+1)))→G fr hp:=by
            rintro fr hp ⟨q0,q1,q2,q3,q4,q5⟩
            refine hG _ _ (weak_wk ⟨?_,?_,by simp⟩)
            · simp [slotOk,AV.low,AV.low1,q0,q1,q2,q3]
            · intro q hq
              simp only [List.mem_cons,List.mem_nil_iff,or_false] at hq
              rcases hq with rfl | rfl
              · refine ⟨.inl q4,by simp,?_⟩
                intro r hr
                simp only [nwB] at hr
                obtain ⟨w,_,rfl⟩:=List.mem_map.1 hr
                exact wtC_low _ _
              · refine ⟨.inl q5,by simp,?_⟩
                intro r hr v hv
                simp only [nwX,List.mem_cons,List.mem_nil_iff,or_false] at hr
                subst hr
                simp at hv
                rcases hv with rfl | rfl
                · show 5000<9000;omega
                · trivial
          have hmk:min k ps.length=k:=by omega
          have hms2:List.take k (List.map (wtC ∘ fun p=>mkW p ((LK p).getD [])) ps) ++ [wtC (mkW p a)]=List.take (k+1) (List.map (wtC ∘ fun p=>mkW p ((LK p).getD [])) ps):=by
            rw [← List.map_take,← List.map_take];exact hms
          simp [go_sem,hwl,hwt,hmk,hms2]
          repeat' apply And.intro
          all_goals first
            | omega
            | (refine hW _ _ ?_;simp [fv,lk,nwB,nwX];done)
        case hq =>
          simp only [nwB,nwX]
          simp [go_sem,w3]
          refine next_of (k+1) (by omega) (by omega) ?_
          simp [Weak,slotOk,fv,lk,AV.low,AV.low1,nwB,nwX]
          intro r hr
          have hm:=List.mem_of_mem_take hr
          obtain ⟨p',_,rfl⟩:=List.mem_map.1 hm
          exact wtC_low _ _
      · have hk2:k=ps.length:=by omega
        subst hk2
        simp [go_sem,resV,lk,nwX,nwB]
  · refine ⟨none,by simp,?_⟩
    refine fnE_of_awp Tryz.func19 (by kernel_rfl) rfl Tryz.ntmps19 (rs:=[.tmp 2,.tmp 3]) rfl (nlb rfl) (by decide) ?_
    by_cases h8':8<ps.length
    · have h8:(8:Int)<(ps.length:Int):=by omega
      simp [go_sem,h8,h8',resV]
    have h8:¬ (8:Int)<(ps.length:Int):=by omega
    simp [go_sem,h8,h8']
    refine loopW_of (fun k:Nat=>⟨[(4,.ptr 193 0 0 1),(14,.d (.ro 66 (ps.map pcD))),(15,.d (.int .i64 (ps.length:Int))),(16,.d (.int .i64 (k:Int)))],
        [(5000,nwB ((ps.take k).map fun p=>mkW p ((LK p).getD []))),(193,nwX k)],6000⟩)
      (fun k=>k≤ps.length∧∀ p,p ∈ ps.take k→(LK p).isSome=true) (fun k=>ps.length - k) 0 ⟨by omega,by simp⟩ ((weak_wk (st':=⟨[(4,.ptr 193 0 0 1),(14,.d (.ro 66 (ps.map pcD))),(15,.d (.int .i64 (ps.length:Int))),(16,.d (.int .i64 0))],
        [(5000,nwB []),(193,⟨108,3,[[.nil,.nil,.nil]]⟩)],6000⟩) (by
        simp [Weak,slotOk,fv,lk,AV.low,AV.low1,nwB])).trans (le_one (L:=193) (ty:=108) (e:=3) (x:=[.nil,.nil,.nil]) (x':=[.own 5000 0 0 0,.nil,.nil]) rfl (by decide) (leRow_mid [] [.nil,.nil] (.inr (.inr ⟨.inl rfl,.inl ⟨5000,by show 5000<6000;omega,rfl⟩⟩))))) ?_
    rintro k ⟨hk,hall⟩
    simp only [nwB,nwX]
    simp only [go_sem,Nat.reduceEqDiff,Nat.reduceAdd,Nat.reduceLT,↓reduceIte,Nat.reduceMul]
    refine ⟨fun h=>?_,fun h=>?_⟩
    · obtain ⟨p,hp1,hd⟩:=drop_of (l:=ps) (k:=k) (by omega)
      have hpm:=List.mem_of_getElem? hp1
      obtain ⟨r1,r2⟩:=hLK p (hp p hpm)
      have w3:=next_i64 (k:=k) (by omega)
      have hpl:(pcC p).length=66:=planC_len (hp p hpm).1 (hp p hpm).2.2.2.2.1 _ _
      have hpt:List.take 66 (pcC p)=pcC p:=planC_take (hp p hpm).1 (hp p hpm).2.2.2.2.1 _ _
      have hpl2:(pcD p).length=66:=by rw [← List.length_map (f:=AV.d),pcD_map,hpl]
      have hdp:∀ v,v ∈ [AV.agg (pcC p)]→v.deep:=by intro v hv;simp at hv;subst hv;exact planC_deep _ _ _ _
      have zd:List.drop 66 zPl=[]:=rfl
      cases ha:LK p with
      | none =>
        rw [ha] at r2
        simp [go_sem,hp1,hpl,hpl2,hpt,pcD_map,zPl_len,zd]
        refine cl_eq r2 hdp ?_
        simp [go_sem,zWt_len,zWt_drop,zWt_take,resV]
      | some a =>
        rw [ha] at r2
        obtain ⟨w1,w2⟩:=r1 a ha
        have hwl:=wtC_len w1
        have hwt:=wtC_take w1
        have hms:=map_take_succ (f:=fun p=>wtC (mkW p ((LK p).getD []))) hp1
        rw [ha] at hms
        simp [go_sem,hp1,hpl,hpl2,hpt,pcD_map,zPl_len,zd]
        refine cl_eq r2 hdp ?_
        simp [go_sem,hwl,hwt,zWt_len,zWt_drop]
        refine drw3 [1,2,3,4,5] [0,6,7,8,9,10] [1,2,3,4,5] (.alt (.step 0 [] true (.step 6 [] true (.step 7 [] false (.step 8 [] false (.step 9 [] false (.step 10 [] false .done)))))) (.step 6 [] true (.alt (.step 0 [] true (.step 7 [] false (.step 8 [] false (.step 9 [] false (.step 10 [] false .done))))) (.step 7 [] false (.step 0 [] false (.step 8 [] false (.step 9 [] false (.step 10 [] false .done)))))))) ⟨[(4,.ptr 193 0 0 1),(14,.d (.ro 66 (ps.map pcD))),(15,.d (.int .i64 (ps.length:Int))),(16,.d (.int .i64 (k:Int)))],[(5000,nwB ((ps.take (k+1)).map fun p=>mkW p ((LK p).getD []))),(193,nwX (k+1))],9000⟩ (k:=11) ?h3 ?hq
        case h3 =>
          intro G hG
          have hW:∀ (fr:Fr) (hp:Hp),(fv 4 fr=.ptr 193 0 0 1∧fv 14 fr=.d (.ro 66 (ps.map pcD))∧fv 15 fr=.d (.int .i64 (ps.length:Int))∧fv 16 fr=.d (.int .i64 (k:Int))∧lk 5000 hp=some (nwB ((ps.take (k+1)).map fun p=>mkW p ((LK p).getD [])))∧lk 193 hp=some (nwX (k+1)))→G fr hp:=by
            rintro fr hp ⟨q0,q1,q2,q3,q4,q5⟩
            refine hG _ _ (weak_wk ⟨?_,?_,by simp⟩)
            · simp [slotOk,AV.low,AV.low1,q0,q1,q2,q3]
            · intro q hq
              simp only [List.mem_cons,List.mem_nil_iff,or_false] at hq
              rcases hq with rfl | rfl
              · refine ⟨.inl q4,by simp,?_⟩
                intro r hr
                simp only [nwB] at hr
                obtain ⟨w,_,rfl⟩:=List.mem_map.1 hr
                exact wtC_low _ _
              · refine ⟨.inl q5,by simp,?_⟩
                intro r hr v hv
                simp only [nwX,List.mem_cons,List.mem_nil_iff,or_false] at hr
                subst hr
                simp at hv
                rcases hv with rfl | rfl
                · show 5000<9000;omega
                · trivial
          have hmk:min k ps.length=k:=by omega
          have hms2:List.take k (List.map (wtC ∘ fun p=>mkW p ((LK p).getD [])) ps) ++ [wtC (mkW p a)]=List.take (k+1) (List.map (wtC ∘ fun p=>mkW p ((LK p).getD [])) ps):=by
            rw [← List.map_take,← List.map_take];exact hms
          simp [go_sem,hwl,hwt,hmk,hms2]
          repeat' apply And.intro
          all_goals first
            | omega
            | (refine hW _ _ ?_;simp [fv,lk,nwB,nwX];done)
        case hq =>
          simp only [nwB,nwX]
          simp [go_sem,w3]
          have hnx:∀ x,x ∈ ps.take (k+1)→(LK x).isSome=true:=by
            intro x hx
            rw [List.take_add_one,hp1] at hx
            simp at hx
            rcases hx with hx | rfl
            · exact hall x hx
            · rw [ha];rfl
          refine next_of (k+1) ⟨by omega,fun a b c e=>hnx (a,b,c,e)⟩ (by omega) ?_
          simp [Weak,slotOk,fv,lk,AV.low,AV.low1,nwB,nwX]
          intro r hr
          have hm:=List.mem_of_mem_take hr
          obtain ⟨p',_,rfl⟩:=List.mem_map.1 hm
          exact wtC_low _ _
    · have hk2:k=ps.length:=by omega
      subst hk2
      rw [List.take_length] at hall
      exact absurd ⟨by omega,hall⟩ hc
theorem cloneB_fn (b:List Nat) (hl:b.length≤100000000000):Rets Tryz.prog 139 [.d (nb b)] (fun r=>r=.d (nb b)):=by
  refine fna Tryz.func139 Tryz.ntmps139 (rs:=[.tmp 2]) (by simp [AV.deep,AV.deep1]) ?_
  simp only [go_sem,nb,Nat.reduceEqDiff,Nat.reduceAdd,Nat.reduceLT,↓reduceIte]
  intro t hb
  cases t with
  | true =>
    have h0:b=[]:=List.eq_nil_of_length_eq_zero (by simpa using hb rfl)
    subst h0
    simp [go_sem,resV]
    exact post_one (snap1_d (.nil 1)) (by simp [AV.deep,AV.deep1]) rfl
  | false =>
    simp [go_sem,rb_of,rb_len,resV]
    refine ⟨by omega,?_⟩
    exact post_one (snap1_d (snap_full rfl rfl trivial)) (by simp [AV.deep,AV.deep1]) rfl
def annexX (ws:List (List Nat)):List Nat:=if 2≤ws.length∧(ws.getLastD []).head?=some 80 then ws.getLastD [] else []
/-- The loop behind: what is left is copied. -/
theorem annex_fn (ws:List (List Nat)) (hn:ws.length≤1000) (hw:∀ x,x ∈ ws→x.length≤100000) :
    Rets Tryz.prog 100 [.d (.ro 1 (ws.map encT))] (fun r=>r=.tup [.d (.ro 1 ((annexW ws).map encT)),.d (nb (annexX ws))]):=by
  refine fna Tryz.func100 Tryz.ntmps100 (rs:=[.tmp 2,.tmp 3]) (by simp [AV.deep,AV.deep1]) ?_
  by_cases hc:2≤ws.length∧(ws.getLastD []).head?=some 80
  · have hA:annexW ws=ws.dropLast:=if_pos hc
    have hX:annexX ws=ws.getLastD []:=if_pos hc
    rw [hA,hX]
    obtain ⟨h2,h80⟩:=hc
    have hlast:ws[ws.length - 1]?=some (ws.getLastD []):=by
      rw [List.getLastD_eq_getLast?,← List.getLast?_eq_getElem?]
      cases hq:ws.getLast? with
      | none=>rw [List.getLast?_eq_none_iff] at hq;subst hq;simp at h2
      | some x=>rfl
    have hxl:=hw _ (List.mem_of_getElem? hlast)
    have hdl:ws.dropLast=ws.take (ws.length - 1):=List.dropLast_eq_take
    rw [hdl]
    generalize ws.getLastD []=x at *
    obtain ⟨r,hr⟩:∃ r,x=80 :: r:=by
      cases x with
      | nil=>simp at h80
      | cons a r=>simp at h80;subst h80;exact ⟨r,rfl⟩
    have h2':(2:Int)≤(ws.length:Int):=by omega
    have w1:IntKind.i64.wrap ((ws.length:Int) - 1)=((ws.length - 1:Nat):Int):=by rw [IntWalk.i64_in _ (by omega)];omega
    have hcl:=cloneB_fn x (by omega)
    have hx0:0<x.length:=by rw [hr];simp
    have hx0':(0:Int)<(x.length:Int):=by omega
    have hx00:x[0]?=some 80:=by rw [hr];rfl
    have hx0g:∀ h:0<x.length,x[0]=80:=fun h=>(List.getElem?_eq_some_iff.1 hx00).2
    have hxs:∀ y,y ∈ ws.take (ws.length - 1)→y.length≤100000000000:=fun y hy=>by have:=hw y (List.mem_of_mem_take hy);omega
    have hxn:(ws.take (ws.length - 1)).length≤1000:=by rw [List.length_take];omega
    have htk:(ws.map encT).take (ws.length - 1)=(ws.take (ws.length - 1)).map encT:=(List.map_take).symm
    have hle:ws.length - 1≤ws.length:=by omega
    have hle':((ws.length - 1:Nat):Int)≤(ws.length:Int):=by omega
    simp [go_sem,h2,h2',w1,hlast,encT,nb,hx0,hx0',hx00,hx0g]
    refine drw2 [0,1,2,3,4,5,6,7,8] [(9,[10,11])] 1 (k:=12) ?_
    intro G hG
    simp [go_sem,w1,hlast,hle,hle']
    refine cl_eq hcl (by simp [AV.deep,AV.deep1]) ?_
    simp [go_sem]
    refine hG _ _ ?_
    clear hG G
    simp [go_sem]
    rw [← List.map_take]
    have hlx:(ws.take (ws.length - 1)).length=ws.length - 1:=by rw [List.length_take];omega
    generalize ws.take (ws.length - 1)=xs at *
    refine loop_of (fun k:Nat=>⟨[(5,.d (nb x)),(7,.own 5000 0 k k),(44,.d (.ro 1 (xs.map encT))),(45,.d (.int .i64 (xs.length:Int))),(46,.d (.int .i64 (k:Int)))],[(5000,⟨29,1,(xs.take k).map fun x=>[AV.d (nb x)]⟩)],6000⟩)
      (fun k=>k≤xs.length) (fun k=>xs.length - k) 0 (by omega) (by
        simp [Weak,slotOk,fv,lk,AV.low,AV.low1,encT,nb];omega) ?_
    intro k hk
    simp only [go_sem,Nat.reduceEqDiff,Nat.reduceAdd,Nat.reduceLT,↓reduceIte,Nat.reduceMul]
    refine ⟨fun h=>?_,fun h=>?_⟩
    · obtain ⟨y,hy1,hd⟩:=drop_of (l:=xs) (k:=k) (by omega)
      have w3:=next_i64 (k:=k) (by omega)
      have hyc:=cloneB_fn y (hxs y (List.mem_of_getElem? hy1))
      have hms:=map_take_succ (f:=fun x=>[AV.d (nb x)]) hy1
      have hmk:min k xs.length=k:=by omega
      simp [go_sem,hy1,encT,hmk]
      refine cl_eq hyc (by simp [AV.deep,AV.deep1]) ?_
      rw [List.map_take,List.map_take] at hms
      simp [go_sem,w3,hmk,hms]
      refine ⟨by omega,?_⟩
      refine next_of (k+1) (by omega) (by omega) ?_
      simp [Weak,slotOk,fv,lk,AV.low,AV.low1,encT,nb]
      intro r hr
      obtain ⟨x',_,rfl⟩:=List.mem_map.1 (List.mem_of_mem_take hr)
      intro v hv;simp at hv;subst hv;trivial
    · have hk2:k=xs.length:=by omega
      subst hk2
      simp [go_sem,resV]
      exact post_tup (snap1_cons (snap1_d (snap_row (ty:=29) (e:=1) (es:=xs.map encT) (by simp [lk,encT]) trivial (by simp) (by intro r hr;obtain ⟨x',_,rfl⟩:=List.mem_map.1 hr;rfl))) (snap1_cons (snap1_same trivial) snap1_nil)) rfl (by simp [AV.deep,AV.deep1]) rfl
  · have hA:annexW ws=ws:=if_neg hc
    have hX:annexX ws=[]:=if_neg hc
    rw [hA,hX]
    have hxs:∀ y,y ∈ ws→y.length≤100000000000:=fun y hy=>by have:=hw y hy;omega
    have hxn:ws.length≤1000:=hn
    generalize hgo:ws=xs at *
    by_cases h2:2≤xs.length
    · have h2':(2:Int)≤(xs.length:Int):=by omega
      have w1:IntKind.i64.wrap ((xs.length:Int) - 1)=((xs.length - 1:Nat):Int):=by rw [IntWalk.i64_in _ (by omega)];omega
      obtain ⟨x,hlast⟩:∃ x,xs[xs.length - 1]?=some x:=⟨_,List.getElem?_eq_getElem (by omega)⟩
      have hgl:xs.getLastD []=x:=by rw [List.getLastD_eq_getLast?,List.getLast?_eq_getElem?,hlast];rfl
      cases x with
      | nil =>
        simp [go_sem,h2,h2',w1,hlast,encT,nb]
        refine loop_of (fun k:Nat=>⟨[(5,.nil),(7,.own 5000 0 k k),(44,.d (.ro 1 (xs.map encT))),(45,.d (.int .i64 (xs.length:Int))),(46,.d (.int .i64 (k:Int)))],[(5000,⟨29,1,(xs.take k).map fun x=>[AV.d (nb x)]⟩)],6000⟩)
          (fun k=>k≤xs.length) (fun k=>xs.length - k) 0 (by omega) (by
            simp [Weak,slotOk,fv,lk,AV.low,AV.low1,encT,nb,hxn]) ?_
        intro k hk
        simp only [go_sem,Nat.reduceEqDiff,Nat.reduceAdd,Nat.reduceLT,↓reduceIte,Nat.reduceMul]
        refine ⟨fun h=>?_,fun h=>?_⟩
        · obtain ⟨y,hy1,hd⟩:=drop_of (l:=xs) (k:=k) (by omega)
          have w3:=next_i64 (k:=k) (by omega)
          have hyc:=cloneB_fn y (hxs y (List.mem_of_getElem? hy1))
          have hms:=map_take_succ (f:=fun x=>[AV.d (nb x)]) hy1
          have hmk:min k xs.length=k:=by omega
          simp [go_sem,hy1,encT,hmk]
          refine cl_eq hyc (by simp [AV.deep,AV.deep1]) ?_
          rw [List.map_take,List.map_take] at hms
          simp [go_sem,w3,hmk,hms]
          refine ⟨by omega,?_⟩
          refine next_of (k+1) (by omega) (by omega) ?_
          simp [Weak,slotOk,fv,lk,AV.low,AV.low1,encT,nb]
          intro r hr
          obtain ⟨x',_,rfl⟩:=List.mem_map.1 (List.mem_of_mem_take hr)
          intro v hv;simp at hv;subst hv;trivial
        · have hk2:k=xs.length:=by omega
          subst hk2
          simp [go_sem,resV]
          exact post_tup (snap1_cons (snap1_d (snap_row (ty:=29) (e:=1) (es:=xs.map encT) (by simp [lk,encT]) trivial (by simp) (by intro r hr;obtain ⟨x',_,rfl⟩:=List.mem_map.1 hr;rfl))) (snap1_cons (snap1_d (.nil 1)) snap1_nil)) rfl (by simp [AV.deep,AV.deep1]) rfl
      | cons c r =>
        have hc80:¬ c=80:=fun e=>hc ⟨h2,by rw [hgl,e];rfl⟩
        have hc80':¬ (c:Int)=80:=by omega
        simp [go_sem,h2,h2',w1,hlast,encT,nb,hc80,hc80']
        refine loop_of (fun k:Nat=>⟨[(5,.nil),(7,.own 5000 0 k k),(44,.d (.ro 1 (xs.map encT))),(45,.d (.int .i64 (xs.length:Int))),(46,.d (.int .i64 (k:Int)))],[(5000,⟨29,1,(xs.take k).map fun x=>[AV.d (nb x)]⟩)],6000⟩)
          (fun k=>k≤xs.length) (fun k=>xs.length - k) 0 (by omega) (by
            simp [Weak,slotOk,fv,lk,AV.low,AV.low1,encT,nb,hxn]) ?_
        intro k hk
        simp only [go_sem,Nat.reduceEqDiff,Nat.reduceAdd,Nat.reduceLT,↓reduceIte,Nat.reduceMul]
        refine ⟨fun h=>?_,fun h=>?_⟩
        · obtain ⟨y,hy1,hd⟩:=drop_of (l:=xs) (k:=k) (by omega)
          have w3:=next_i64 (k:=k) (by omega)
          have hyc:=cloneB_fn y (hxs y (List.mem_of_getElem? hy1))
          have hms:=map_take_succ (f:=fun x=>[AV.d (nb x)]) hy1
          have hmk:min k xs.length=k:=by omega
          simp [go_sem,hy1,encT,hmk]
          refine cl_eq hyc (by simp [AV.deep,AV.deep1]) ?_
          rw [List.map_take,List.map_take] at hms
          simp [go_sem,w3,hmk,hms]
          refine ⟨by omega,?_⟩
          refine next_of (k+1) (by omega) (by omega) ?_
          simp [Weak,slotOk,fv,lk,AV.low,AV.low1,encT,nb]
          intro r hr
          obtain ⟨x',_,rfl⟩:=List.mem_map.1 (List.mem_of_mem_take hr)
          intro v hv;simp at hv;subst hv;trivial
        · have hk2:k=xs.length:=by omega
          subst hk2
          simp [go_sem,resV]
          exact post_tup (snap1_cons (snap1_d (snap_row (ty:=29) (e:=1) (es:=xs.map encT) (by simp [lk,encT]) trivial (by simp) (by intro r hr;obtain ⟨x',_,rfl⟩:=List.mem_map.1 hr;rfl))) (snap1_cons (snap1_d (.nil 1)) snap1_nil)) rfl (by simp [AV.deep,AV.deep1]) rfl
    · have h2':¬ (2:Int)≤(xs.length:Int):=by omega
      simp [go_sem,h2,h2']
      refine loop_of (fun k:Nat=>⟨[(5,.nil),(7,.own 5000 0 k k),(44,.d (.ro 1 (xs.map encT))),(45,.d (.int .i64 (xs.length:Int))),(46,.d (.int .i64 (k:Int)))],[(5000,⟨29,1,(xs.take k).map fun x=>[AV.d (nb x)]⟩)],6000⟩)
        (fun k=>k≤xs.length) (fun k=>xs.length - k) 0 (by omega) (by
          simp [Weak,slotOk,fv,lk,AV.low,AV.low1,encT,nb,hxn]) ?_
      intro k hk
      simp only [go_sem,Nat.reduceEqDiff,Nat.reduceAdd,Nat.reduceLT,↓reduceIte,Nat.reduceMul]
      refine ⟨fun h=>?_,fun h=>?_⟩
      · obtain ⟨y,hy1,hd⟩:=drop_of (l:=xs) (k:=k) (by omega)
        have w3:=next_i64 (k:=k) (by omega)
        have hyc:=cloneB_fn y (hxs y (List.mem_of_getElem? hy1))
        have hms:=map_take_succ (f:=fun x=>[AV.d (nb x)]) hy1
        have hmk:min k xs.length=k:=by omega
        simp [go_sem,hy1,encT,hmk]
        refine cl_eq hyc (by simp [AV.deep,AV.deep1]) ?_
        rw [List.map_take,List.map_take] at hms
        simp [go_sem,w3,hmk,hms]
        refine ⟨by omega,?_⟩
        refine next_of (k+1) (by omega) (by omega) ?_
        simp [Weak,slotOk,fv,lk,AV.low,AV.low1,encT,nb]
        intro r hr
        obtain ⟨x',_,rfl⟩:=List.mem_map.1 (List.mem_of_mem_take hr)
        intro v hv;simp at hv;subst hv;trivial
      · have hk2:k=xs.length:=by omega
        subst hk2
        simp [go_sem,resV]
        exact post_tup (snap1_cons (snap1_d (snap_row (ty:=29) (e:=1) (es:=xs.map encT) (by simp [lk,encT]) trivial (by simp) (by intro r hr;obtain ⟨x',_,rfl⟩:=List.mem_map.1 hr;rfl))) (snap1_cons (snap1_d (.nil 1)) snap1_nil)) rfl (by simp [AV.deep,AV.deep1]) rfl
end Go.Proofs.YtfahccoobfjkeaaGreat
namespace Go.Sha
end Go.Sha
namespace Go.Proofs.YtfahccoobfjkeaaGreat
open Go.Am Go.Sha Go.Ec
def bgR (b:Bg):List AV:=.d (.int .i64 (b.pl:Int)) :: (cb b.t ++ [match b.o with | none=>.nil | some a=>.d (nb a)])
def Bg.okB (b:Bg):Prop:=b.t.length=32∧∀ a,b.o=some a→a.length=34∧bytes a
theorem bgR_len {b:Bg} (h:b.t.length=32):(bgR b).length=34:=by simp [bgR,cb_len,h]
theorem bgR_low (n:Nat) (b:Bg):∀ v,v ∈ bgR b→v.low1 n:=by
  intro v hv
  unfold bgR at hv
  rcases List.mem_cons.1 hv with rfl | hv
  · trivial
  · rcases List.mem_append.1 hv with h | h
    · exact cb_low _ _ v h
    · simp at h
      subst h
      cases b.o <;> trivial
def bgB (L:List Bg):Blk:=⟨183,34,L.map bgR⟩
theorem bgB_low (n:Nat) (L:List Bg):∀ r,r ∈ (bgB L).es→∀ v,v ∈ r→v.low1 n:=by
  intro r hr
  obtain ⟨b,_,rfl⟩:=List.mem_map.1 hr
  exact bgR_low n b
def vxT (B:Nat→List En):Hp:=hpL 24 (fun i=>i+3) (fun i=>⟨28,69,(B i).map enR⟩)
def vxI (W:List Wt) (E:List En) (B:Nat→List En) (m t:Nat):Hp :=
  (0,vxB W E B m t id 0) :: (1,vxB W E B m t id 1) :: (2,vxB W E B m t id 2) :: vxT B
theorem vxT_lk {B:Nat→List En} {i:Nat} (hi:i<24):lk (i+3) (vxT B)=some ⟨28,69,(B i).map enR⟩ :=
  lk_hpL (f:=fun i=>i+3) _ (fun a b _ _ h=>by simp only at h;omega) hi
theorem vxT_no {B:Nat→List En} {x:Nat} (h:x<3 ∨ 27≤x):lk x (vxT B)=none:=lk_hpL_none (fun i hi=>by show i+3 ≠ x;omega)
theorem vxI_lk {W:List Wt} {E:List En} {B:Nat→List En} {m t i:Nat} (hi:i<27):lk i (vxI W E B m t)=some (vxB W E B m t id i):=by
  match i,hi with
  | 0,_=>rfl
  | 1,_=>rfl
  | 2,_=>rfl
  | i+3,h =>
    simp only [vxI,lk]
    rw [if_neg (by omega),if_neg (by omega),if_neg (by omega),vxT_lk (by omega)]
    rfl
theorem vxI_is {W:List Wt} {E:List En} {B:Nat→List En} {m t:Nat}:∀ i b,lk i (vxI W E B m t)=some b→i<27∧b=vxB W E B m t id i:=by
  intro i b h
  by_cases hi:i<27
  · rw [vxI_lk hi] at h
    exact ⟨hi,(Option.some.inj h).symm⟩
  · simp only [vxI,lk] at h
    rw [if_neg (by omega),if_neg (by omega),if_neg (by omega),vxT_no (by omega)] at h
    cases h
theorem vxT_mem {B:Nat→List En} {p:Nat × Blk} (h:p ∈ vxT B):∃ i,i<24∧p=(i+3,⟨28,69,(B i).map enR⟩):=mem_hpL.1 h
theorem vxB_low {W:List Wt} {E:List En} {B:Nat→List En} {m t N:Nat} (hm:m≤24) (hN:27≤N) (i:Nat) (hi:i<27):∀ r,r ∈ (vxB W E B m t id i).es→∀ v,v ∈ r→v.low1 N:=by
  intro r hr v hv
  match i with
  | 0 =>
    simp only [vxB,List.mem_cons,List.mem_nil_iff,or_false] at hr
    subst hr
    simp only [List.mem_cons,List.mem_nil_iff,or_false] at hv
    rcases hv with rfl | rfl | rfl
    · trivial
    · show 1<N;omega
    · show 2<N;omega
  | 1 =>
    obtain ⟨e,_,rfl⟩:=List.mem_map.1 hr
    exact enR_low _ _ v hv
  | 2 =>
    rcases List.mem_append.1 hr with h | h
    · obtain ⟨k,hk,rfl⟩:=List.mem_map.1 h
      have:=List.mem_range.1 hk
      simp at hv
      subst hv
      show 3+k<N;omega
    · have:=List.eq_of_mem_replicate h
      subst this
      simp at hv
      subst hv
      trivial
  | i+3 =>
    obtain ⟨e,_,rfl⟩:=List.mem_map.1 hr
    exact enR_low _ _ v hv
theorem vxI_weak {W:List Wt} {E:List En} {B:Nat→List En} {m t nx N:Nat} {hp:Hp} (hm:m≤24) (hN:27≤N) (h:∀ i,i<27→lk i hp=some (vxB W E B m t id i)) :
    ∀ p,p ∈ vxI W E B m t→(lk p.1 hp=some p.2 ∨ (nx≤p.1∧p.2.es=[]))∧p.1<N∧∀ r,r ∈ p.2.es→∀ v,v ∈ r→v.low1 N:=by
  have key:∀ i,i<27→(lk i hp=some (vxB W E B m t id i) ∨ (nx≤i∧(vxB W E B m t id i).es=[]))∧i<N∧∀ r,r ∈ (vxB W E B m t id i).es→∀ v,v ∈ r→v.low1 N :=
    fun i hi=>⟨.inl (h i hi),by omega,vxB_low hm hN i hi⟩
  intro p hp'
  simp only [vxI,List.mem_cons] at hp'
  rcases hp' with rfl | rfl | rfl | hp'
  · exact key 0 (by omega)
  · exact key 1 (by omega)
  · exact key 2 (by omega)
  · obtain ⟨i,hi,rfl⟩:=vxT_mem hp'
    exact key (i+3) (by omega)
theorem ks88:kindsOf Tryz.prog 8 25=some (List.replicate 32 (some .u8) ++ [some .u32]):=by kernel_rfl
theorem eg88:Tryz.prog.eqGuardType Tryz.prog.depth 25=false:=by kernel_rfl
def l1B (l:List Nat):List L1:=l.map fun (x:Nat)=>L1.i .u8 (x:Int)
theorem lits_cb (l:List Nat) (r:List AV):litsOf (cb l ++ r)=(litsOf r).map (l1B l ++ ·):=by
  induction l with
  | nil=>cases h:litsOf r <;> simp [cb,l1B,h]
  | cons u us ih =>
    have e:litsOf (cb (u :: us) ++ r)=(litsOf (cb us ++ r)).map (L1.i .u8 (u:Int) :: ·):=rfl
    rw [e,ih]
    cases litsOf r <;> simp [l1B]
theorem l1B_kinds {l:List Nat} (h:l.length=32):(l1B l).map L1.k=List.replicate 32 (some .u8):=by
  rw [List.eq_replicate_iff]
  refine ⟨by simp [l1B,h],fun b hb=>?_⟩
  simp only [l1B,List.map_map,List.mem_map] at hb
  obtain ⟨x,_,rfl⟩:=hb
  rfl
theorem l1B_inj:∀ {a b:List Nat},l1B a=l1B b→a=b
  | [],[],_=>rfl
  | [],_ :: _,h=>by simp [l1B] at h
  | _ :: _,[],h=>by simp [l1B] at h
  | x :: a,y :: b,h=>by
    simp only [l1B,List.map_cons,List.cons.injEq,L1.i.injEq,true_and] at h
    rw [l1B_inj (a:=a) (b:=b) h.2,Int.ofNat.inj h.1]
def cR (h:List Nat) (i:Nat):List AV:=cb h ++ [.d (.int .u32 (i:Int))]
theorem cR_lits (h:List Nat) (i:Nat):litsOf (cR h i)=some (l1B h ++ [.i .u32 (i:Int)]):=by
  unfold cR
  rw [lits_cb]
  rfl
theorem cR_kinds {h:List Nat} (hl:h.length=32) (i:Nat):(l1B h ++ [L1.i .u32 (i:Int)]).map L1.k=List.replicate 32 (some .u8) ++ [some .u32]:=by
  rw [List.map_append,l1B_kinds hl];rfl
theorem cR_eq {a b:List Nat} {i j:Nat} (ha:a.length=32) (hb:b.length=32):(l1B a ++ [L1.i .u32 (i:Int)]=l1B b ++ [L1.i .u32 (j:Int)]) ↔ (a=b∧i=j):=by
  constructor
  · intro h
    obtain ⟨h1,h2⟩:=List.append_inj h (by simp [l1B,ha,hb])
    simp only [List.cons.injEq,L1.i.injEq,true_and,and_true] at h2
    exact ⟨l1B_inj h1,Int.ofNat.inj h2⟩
  · rintro ⟨rfl,rfl⟩;rfl
theorem cR_len {h:List Nat} (hl:h.length=32) (i:Nat):(cR h i).length=33:=by simp [cR,cb_len,hl]
def HPO (PO:Wt→List Nat→Option (List Nat)):Prop:=∀ (w:Wt) (t:List Nat),w.ok→t.length=32→bytes t→(∀ a,PO w t=some a→a.length=34∧bytes a) ∧
  Rets Tryz.prog 103 [.agg (wtC w),.agg (cb t)] (fun r=>r=match PO w t with | none=>.nil | some a=>.d (nb a))
def HEN (EN:Wt→En→List (List Nat)→Int):Prop:=∀ (w:Wt) (n:Nat) (e:En) (ws:List (List Nat)),w.ok→e.ok n→ws.length≤1000→(∀ x,x ∈ ws→bytes x)→endOk e.st (EN w e ws) ∧
  Rets Tryz.prog 102 [.agg (wtC w),.agg (enR e),.d (.ro 1 (ws.map encT))] (fun r=>r=.d (.int .i64 (EN w e ws)))
theorem hpo_ex:∃ PO,HPO PO:=by
  obtain ⟨F,hF⟩:=pick (α:=Wt × List Nat) (β:=Option (List Nat)) (A:=fun x=>x.1.ok∧x.2.length=32∧bytes x.2) (B:=fun x o=>(∀ a,o=some a→a.length=34∧bytes a) ∧
    Rets Tryz.prog 103 [.agg (wtC x.1),.agg (cb x.2)] (fun r=>r=match o with | none=>.nil | some a=>.d (nb a))) (fun x h=>pendOut_ex x.1 h.1 x.2 h.2.1 h.2.2)
  exact ⟨fun w t=>F (w,t),fun w t h1 h2 h3=>hF (w,t) ⟨h1,h2,h3⟩⟩
theorem hen_ex:∃ EN,HEN EN:=by
  obtain ⟨F,hF⟩:=pick (α:=Wt × En × List (List Nat)) (β:=Int) (A:=fun x=>x.1.ok∧(∃ n,x.2.1.ok n)∧x.2.2.length≤1000∧∀ y,y ∈ x.2.2→bytes y) (B:=fun x s=>endOk x.2.1.st s ∧
    Rets Tryz.prog 102 [.agg (wtC x.1),.agg (enR x.2.1),.d (.ro 1 (x.2.2.map encT))] (fun r=>r=.d (.int .i64 s))) (fun x h=>by
      obtain ⟨n,hn⟩:=h.2.1
      exact end_ex x.1 h.1 x.2.1 hn x.2.2 h.2.2.1 h.2.2.2)
  exact ⟨fun w e ws=>F (w,e,ws),fun w n e ws h1 h2 h3 h4=>hF (w,e,ws) ⟨h1,⟨n,h2⟩,h3,h4⟩⟩
theorem atW_get {W:List Wt} {k:Nat} (h:k<W.length):W[k]?=some (atW W k):=by
  unfold atW
  rw [List.getD_eq_getElem?_getD,List.getElem?_eq_getElem h];rfl
theorem atW_mem {W:List Wt} {k:Nat} (h:k<W.length):atW W k ∈ W:=List.mem_of_getElem? (atW_get h)
theorem stepE_ok {EN:Wt→En→List (List Nat)→Int} (hEN:HEN EN) {W:List Wt} (hW:∀ w,w ∈ W→w.ok) {i:Ip} {h:Nat} {e:En} (he:e.ok W.length) (hh:h<4294967296) (hl:(annexW i.wit).length≤1000) (hb:∀ x,x ∈ annexW i.wit→bytes x):(stepE EN W i h e).ok W.length:=by
  unfold stepE
  split
  · obtain ⟨h1,h2,h3,h4,h5,h6,h7,h8⟩:=he
    have:=(hEN (atW W e.pl) W.length e (annexW i.wit) (hW _ (atW_mem h3)) ⟨h1,h2,h3,h4,h5,h6,h7,h8⟩ hl hb).1
    unfold endOk at this
    exact ⟨h1,h2,h3,h4,hh,by show 1≤EN (atW W e.pl) e (annexW i.wit);omega,by show EN (atW W e.pl) e (annexW i.wit)≤6;omega,h8⟩
  · exact he
theorem annexW_len (ws:List (List Nat)):(annexW ws).length≤ws.length:=by
  unfold annexW
  split
  · rw [List.length_dropLast];omega
  · exact Nat.le_refl _
theorem annexW_mem {ws:List (List Nat)} {x:List Nat} (h:x ∈ annexW ws):x ∈ ws:=by
  unfold annexW at h
  split at h
  · rw [List.dropLast_eq_take] at h
    exact List.mem_of_mem_take h
  · exact h
end Go.Proofs.YtfahccoobfjkeaaGreat
