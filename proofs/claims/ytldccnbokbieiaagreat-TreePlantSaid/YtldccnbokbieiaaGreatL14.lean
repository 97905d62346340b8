/-
  Part 15 of what the claim rests on.
-/
import Derived.Test.YtldccnbokbieiaaGreatL10
import Derived.Test.YtldccnbokbieiaaGreatL12
import Derived.Test.YtldccnbokbieiaaGreatL13
set_option linter.unusedVariables false
set_option linter.unusedSimpArgs false
set_option maxRecDepth 100000
set_option maxHeartbeats 16000000
namespace Go.Proofs.YtldccnbokbieiaaGreat
open Go.Am Go.Sha Go.Ec
def Pby (f:Pth):Prop:=∀ j p,p ∈ f j→bytes p
theorem addP_by {first k:Nat} {h:List Nat} {f:Pth} (hf:Pby f) (hh:bytes h):Pby (addP first k h f):=by
  intro j p hp
  unfold addP at hp
  split at hp
  · rcases List.mem_append.1 hp with q | q
    · exact hf j p q
    · simp at q;subst q;exact hh
  · exact hf j p hp
theorem plant_by:∀ (n:Nat) (q:Row) (g:Pth),(∀ p,p ∈ q→bytes p.1)→Pby g→Pby (plantF n q g).2
  | 0,q,g,_,h=>h
  | n+1,q,g,hq,h=>by
    rw [plantF]
    split
    · refine plant_by n _ _ (pair_bytes q hq) ?_
      have key:∀ (r:Row) (s:Nat) (f:Pth),(∀ p,p ∈ r→bytes p.1)→Pby f→Pby (graftF s r f):=by
        intro r
        induction r using pairUp.induct with
        | case1 a b r ih =>
          intro s f hr hf
          exact ih _ _ (fun p hp=>hr p (by simp [hp])) (addP_by (addP_by hf (hr b (by simp))) (hr a (by simp)))
        | case2 r hr =>
          intro s f _ hf
          match r,hr with
          | [],_=>exact hf
          | [a],_=>exact hf
          | a :: b :: r,hr=>exact absurd rfl (hr a b r)
      exact key q 0 g hq h
    · exact h
theorem lvL_memR {f:Pth} {xs:List (List Nat)} {l:Lf} (h:l ∈ lvL f xs):∃ j:Nat,l.1=f j∧l.2 ∈ xs:=by
  simp only [lvL,List.mem_mapIdx] at h
  obtain ⟨j,hj,rfl⟩:=h
  exact ⟨j,rfl,List.getElem_mem _⟩
theorem path_ok {xs:List (List Nat)} {l:Lf} (h:l ∈ lvL (pathsF xs) xs):(∀ p,p ∈ l.1→p.length=32∧bytes p)∧l.1.length≤7∧l.2 ∈ xs:=by
  obtain ⟨j,h1,h2⟩:=lvL_memR h
  refine ⟨?_,?_,h2⟩
  · rw [h1]
    exact fun p hp=>⟨plant_32 7 (row0 xs) (fun _=>[]) (row0_32 xs) (fun j p hp=>by simp at hp) j p hp,plant_by 7 (row0 xs) (fun _=>[]) (by
      intro p hp
      obtain ⟨x,_,rfl⟩:=List.mem_map.1 hp
      exact sumB_bytes _) (fun j p hp=>by simp at hp) j p hp⟩
  · rw [h1]
    have:=plant_len 7 (row0 xs) (fun _=>[]) 0 (fun _=>by simp) j
    show ((plantF 7 (row0 xs) fun _=>[]).2 j).length≤7
    omega
theorem both_out1 (inner:List Nat) (ps:List (List Nat)) (x:List Nat) (hi:inner.length=32) (hib:bytes inner) (hp:∀ p,p ∈ ps→p.length=32∧bytes p) (hps:ps.length≤1000) (hx:x.length≤100000) (hxb:bytes x) :
    ∃ (a:List Nat) (e:Int),(e=0 ∨ e=1)∧Rets Tryz.prog 18 [leafV inner ps x] (fun r=>r=.tup [.d (nb a),.d (.int .i64 e)])∧Rets Tryz.prog 19 [leafV inner ps x] (fun r=>r=.tup [.d (nb a),.d (.int .i64 e)]):=by
  obtain ⟨k,o,e,hk,hkb,he,f1,_,t1⟩:=turned_ex inner ps x hi hib (fun p h=>(hp p h).1) hps hx
  obtain ⟨k',o',e',hk',hkb',_,f2,_,t2⟩:=rturned inner ps x hi hib hp hxb hps hx
  obtain ⟨rfl,rfl,rfl⟩:=leafTurn_uniq hk hkb hk' hkb' t1 t2
  rcases he with rfl | rfl
  · exact ⟨81 :: 32 :: k,0,.inl rfl,output_ok hi hk f1,routput_ok hi hk f2⟩
  · exact ⟨[],1,.inr rfl,output_no hi hk f1,routput_no hi hk f2⟩
theorem planted2 (inner:List Nat) (xs:List (List Nat)) (hi:inner.length=32) (hib:bytes inner) (hxb:∀ x,x ∈ xs→bytes x) (hx:∀ x,x ∈ xs→x.length≤100000) :
    ∃ (O:Lf→List Nat) (E:Lf→Int),∀ l,l ∈ lvL (pathsF xs) xs→(E l=0 ∨ E l=1)∧Rets Tryz.prog 18 [.agg (leafC inner (.d (hs32 l.1)) (.d (nb l.2)))] (fun r=>r=.tup [.d (nb (O l)),.d (.int .i64 (E l))]) ∧
      Rets Tryz.prog 19 [.agg (leafC inner (.d (hs32 l.1)) (.d (nb l.2)))] (fun r=>r=.tup [.d (nb (O l)),.d (.int .i64 (E l))]):=by
  obtain ⟨F,hF⟩:=Classical.axiomOfChoice (r:=fun (l:Lf) (p:List Nat × Int)=>l ∈ lvL (pathsF xs) xs→(p.2=0 ∨ p.2=1)∧Rets Tryz.prog 18 [.agg (leafC inner (.d (hs32 l.1)) (.d (nb l.2)))] (fun r=>r=.tup [.d (nb p.1),.d (.int .i64 p.2)]) ∧
      Rets Tryz.prog 19 [.agg (leafC inner (.d (hs32 l.1)) (.d (nb l.2)))] (fun r=>r=.tup [.d (nb p.1),.d (.int .i64 p.2)])) (fun l=>by
    by_cases h:l ∈ lvL (pathsF xs) xs
    · obtain ⟨h1,h2,h3⟩:=path_ok h
      obtain ⟨a,e,he,g1,g2⟩:=both_out1 inner l.1 l.2 hi hib h1 (by omega) (hx _ h3) (hxb _ h3)
      exact ⟨(a,e),fun _=>⟨he,g1,g2⟩⟩
    · exact ⟨([],0),fun h'=>absurd h' h⟩)
  exact ⟨fun l=>(F l).1,fun l=>(F l).2,hF⟩
theorem one_deepR (inner:List Nat) (xs:List (List Nat)):∀ v,v ∈ [AV.agg (cb inner),.d (.ro 1 (xs.map encS))]→v.deep:=by
  intro v hv;simp at hv
  rcases hv with rfl | rfl
  · exact cb_deep _
  · trivial
theorem plant_law (inner:List Nat) (xs:List (List Nat)) (hi:inner.length=32) (hib:bytes inner) (hxb:∀ x,x ∈ xs→bytes x) :
    Rets Tryz.prog 5 [.agg (cb inner),.d (.ro 1 (xs.map encS))] (fun r=>r=.d (.bool true)):=by
  refine fna Tryz.func5 Tryz.ntmps5 (rs:=[.tmp 4]) (one_deepR _ _) ?_
  by_cases h12:12<xs.length
  · have i12:(12:Int)<(xs.length:Int):=by omega
    simp [go_sem,cb_len,hi,cb_take hi,i12,h12]
    refine cl_eq alive16_fn (by simp) ?_
    simp [go_sem,resV]
    exact post_same (by simp [AV.deep,AV.deep1]) rfl
  have i12:¬ (12:Int)<(xs.length:Int):=by omega
  simp [go_sem,cb_len,hi,cb_take hi,i12,h12]
  refine loop_of (fun k:Nat=>⟨[(1,.d (.ro 1 (xs.map encS))),(2,.ptr 0 0 0 1),(5,.d (.int .i64 (k:Int)))],[(0,⟨23,32,[cb inner]⟩)],1000⟩)
    (fun k=>k≤xs.length∧∀ i x,i<k→xs[i]?=some x→x.length≤300) (fun k=>xs.length - k) 0 ⟨by omega,fun i x h=>by omega⟩ (by
      simp [Weak,slotOk,fv,lk,AV.low,AV.low1]
      exact cb_low _ _) ?_
  rintro k ⟨hk,hle⟩
  simp only [go_sem,Nat.reduceEqDiff,Nat.reduceAdd,Nat.reduceLT,↓reduceIte,Nat.reduceMul]
  refine ⟨fun h=>?_,fun h=>?_⟩
  · obtain ⟨x,hx1⟩:∃ x,xs[k]?=some x:=⟨_,List.getElem?_eq_getElem (by simpa using h)⟩
    have w3:=next_i64 (k:=k) (by omega)
    by_cases hx:300<x.length
    · have j1:(300:Int)<(x.length:Int):=by omega
      simp [go_sem,hx1,encS,nb,j1,hx]
      refine cl_eq alive16_fn (by simp) ?_
      simp [go_sem,resV]
      exact post_same (by simp [AV.deep,AV.deep1]) rfl
    · have j1:¬ (300:Int)<(x.length:Int):=by omega
      simp [go_sem,hx1,encS,nb,j1,hx,w3]
      refine next_of (k+1) ⟨by have:=(List.getElem?_eq_some_iff.1 hx1).1;omega,fun i y h1 h2=>?_⟩ (by have:=(List.getElem?_eq_some_iff.1 hx1).1;omega) ?_
      · by_cases hik:i=k
        · subst hik
          rw [hx1] at h2
          cases h2
          omega
        · exact hle i y (by omega) h2
      · simp [Weak,slotOk,fv,lk,AV.low,AV.low1]
        exact cb_low _ _
  · have hkl:k=xs.length:=by
      simp at h
      omega
    subst hkl
    have hx3:∀ x,x ∈ xs→x.length≤300:=by
      intro x hx
      obtain ⟨i,hi',rfl⟩:=List.mem_iff_getElem.1 hx
      exact hle i _ hi' (List.getElem?_eq_getElem hi')
    have hx4:∀ x,x ∈ xs→x.length≤100000:=fun x hx=>by have:=hx3 x hx;omega
    obtain ⟨O,E,hOE⟩:=planted2 inner xs hi hib hxb hx4
    have hpl:=plant_fn inner xs hi hx4 clone_fn O E (fun l hl=>(hOE l hl).2.1)
    have hpr:=plantR_fn inner xs hi hib hxb hx4 O E (fun l hl=>(hOE l hl).1) (fun l hl=>(hOE l hl).2.2)
    simp [go_sem,cb_len,hi,cb_take hi]
    refine cl_eq hpl (one_deepR _ _) ?_
    unfold plantV at hpr ⊢
    by_cases hbad:xs.length=0 ∨ 8<xs.length ∨ badL E (lvL (pathsF xs) xs)=true
    · rw [if_pos hbad] at hpr ⊢
      simp [go_sem,cb_len,hi,cb_take hi]
      refine cl_eq hpr (one_deepR _ _) ?_
      simp [go_sem]
      refine loop_of (fun k:Nat=>⟨[(6,.nil),(10,.d (.int .i64 0))],[],3000⟩) (fun k=>True) (fun k=>0) 0 trivial (by simp [Weak,slotOk,fv,lk,AV.low,AV.low1]) ?_
      intro k _
      simp [go_sem]
      refine cl_eq alive16_fn (by simp) ?_
      simp [go_sem,resV]
      exact post_same (by simp [AV.deep,AV.deep1]) rfl
    · rw [if_neg hbad] at hpr ⊢
      have n8:xs.length≤8:=by omega
      have hlen:=lvL_len (pathsF xs) xs
      simp [go_sem,cb_len,hi,cb_take hi]
      refine cl_eq hpr (one_deepR _ _) ?_
      simp [go_sem,hlen]
      refine loop_of (fun k:Nat=>⟨[(6,.d (.ro 34 ((lvL (pathsF xs) xs).map (leafE inner)))),(8,.d (.ro 34 ((lvL (pathsF xs) xs).map (leafE inner)))),(10,.d (.int .i64 (k:Int)))],[],3000⟩)
        (fun k=>k≤xs.length) (fun k=>xs.length - k) 0 (by omega) (by simp [Weak,slotOk,fv,lk,AV.low,AV.low1]) ?_
      intro k hk
      simp [go_sem,hlen]
      refine ⟨fun h=>?_,fun h=>?_⟩
      · have hkn:k<xs.length:=by omega
        obtain ⟨l,hl⟩:∃ l,(lvL (pathsF xs) xs)[k]?=some l:=⟨_,List.getElem?_eq_getElem (by omega)⟩
        have ml:=List.mem_of_getElem? hl
        obtain ⟨h1,h2,h3⟩:=path_ok ml
        have w3:=next_i64 (k:=k) (by omega)
        have hrow:=leafE_len hi l
        refine drw2 [0,1,2,3,4,5,6,7] [(8,[9])] 1 (k:=10) ?_
        intro G hG
        simp [go_sem,hl,hrow,leafE_map,leaf_lenE hi,leaf_takeE hi]
        refine cl_eq (same_ok (ps:=l.1) (x:=l.2) hi (fun p hp=>(h1 p hp).1) (by omega) (hxb _ h3)) (by intro v hv;simp at hv;subst hv;exact leafE_deep _ _ _) ?_
        simp [go_sem]
        refine hG _ _ ?_
        clear hG G
        simp [go_sem,w3]
        refine next_of (k+1) (by omega) (by omega) ?_
        simp [Weak,slotOk,fv,lk,AV.low,AV.low1]
      · refine cl_eq alive16_fn (by simp) ?_
        simp [go_sem,resV]
        exact post_same (by simp [AV.deep,AV.deep1]) rfl
theorem ty_scr {n:Nat} {d:DV} (h:TyD Tryz.prog (n+3) 41 [d]):∃ xs:List (List Nat),d=.ro 1 (xs.map encS)∧∀ x,x ∈ xs→bytes x:=by
  rw [TyD] at h
  simp only [Tryz.underlying41,List.cons.injEq,and_true] at h
  obtain ⟨es,rfl,hl,hr⟩:=h
  obtain ⟨xs,rfl,hxs⟩:=map_of (enc:=encS) (R:=fun x=>bytes x) (es:=es) (fun r hr'=>by
    obtain ⟨h1,h2⟩:=hr r hr'
    rw [show Tryz.prog.cellsOf 22=1 by kernel_rfl] at h2
    match r,h1,h2 with
    | [y],h1,_ =>
      obtain ⟨x,rfl,_,hb⟩:=ty_bytes h1
      exact ⟨x,rfl,hb⟩)
  exact ⟨xs,by rw [show Tryz.prog.cellsOf 22=1 by kernel_rfl],hxs⟩
theorem plant_args (l:List AV) (h:ArgTys Tryz.prog 6 [23,41] l):Rets Tryz.prog 5 l (fun r=>r=.d (.bool true)):=by
  obtain ⟨a0,r0,rfl,h0,a1,r1,rfl,h1,rfl⟩:=h
  obtain ⟨inner,rfl,q1,q2⟩:=arg_h32 h0
  obtain ⟨d1,rfl,t1⟩:=arg_oneR Tryz.underlying41 (by simp) (by simp) h1
  obtain ⟨xs,rfl,q3⟩:=ty_scr t1
  exact plant_law inner xs q1 q2 q3
end Go.Proofs.YtldccnbokbieiaaGreat
