/-
  Part 10 of what the claim rests on.
-/
import Derived.Test.YtldccnbokbieiaaB7
import Derived.Test.YtldccnbokbieiaaB8
set_option linter.unusedVariables false
set_option linter.unusedSimpArgs false
set_option maxRecDepth 100000
set_option maxHeartbeats 16000000
namespace Go.Proofs.Ytldccnbokbieiaa
open Go.Am Go.Sha Go.Ec
theorem lvL_mem {f:Pth} {xs:List (List Nat)} {l:Lf} (h:l ∈ lvL f xs):∃ j:Nat,l.1=f j∧l.2 ∈ xs:=by
  simp only [lvL,List.mem_mapIdx] at h
  obtain ⟨j,hj,rfl⟩:=h
  exact ⟨j,rfl,List.getElem_mem _⟩
def outT (inner:List Nat) (l:Lf) (O:List Nat) (e:Int):Prop:=(e=0∧∃ k o,k.length=32∧bytes k∧O=81 :: 32 :: k∧leafTurn inner l.1 l.2 k o 0) ∨ (e=1∧O=[])
theorem out_ex1 (inner:List Nat) (xs:List (List Nat)) (hi:inner.length=32) (hib:bytes inner) (hx:∀ x,x ∈ xs→x.length≤100000) (l:Lf) (hl:l ∈ lvL (pathsF xs) xs) :
    ∃ p:List Nat × Int,outT inner l p.1 p.2∧Rets Try.prog 6 [.agg (leafC inner (.d (hs32 l.1)) (.d (nb l.2)))] (fun r=>r=.tup [.d (nb p.1),.d (.int .i64 p.2)]):=by
  obtain ⟨j,h1,h2⟩:=lvL_mem hl
  have q1:∀ p,p ∈ l.1→p.length=32:=by
    rw [h1]
    exact plant_32 7 (row0 xs) (fun _=>[]) (row0_32 xs) (fun j p hp=>by simp at hp) j
  have q2:l.1.length≤1000:=by
    rw [h1]
    have:=plant_len 7 (row0 xs) (fun _=>[]) 0 (fun _=>by simp) j
    show ((plantF 7 (row0 xs) fun _=>[]).2 j).length≤1000
    omega
  obtain ⟨k,o,e,hk,hkb,he,f1,_,t1⟩:=turned_ex inner l.1 l.2 hi hib q1 q2 (hx _ h2)
  rcases he with rfl | rfl
  · exact ⟨(81 :: 32 :: k,0),.inl ⟨rfl,k,o,hk,hkb,rfl,t1⟩,output_ok hi hk f1⟩
  · exact ⟨([],1),.inr ⟨rfl,rfl⟩,output_no hi hk f1⟩
theorem planted (inner:List Nat) (xs:List (List Nat)) (hi:inner.length=32) (hib:bytes inner) (hx:∀ x,x ∈ xs→x.length≤100000) :
    ∃ (O:Lf→List Nat) (E:Lf→Int),∀ l,l ∈ lvL (pathsF xs) xs→outT inner l (O l) (E l)∧Rets Try.prog 6 [.agg (leafC inner (.d (hs32 l.1)) (.d (nb l.2)))] (fun r=>r=.tup [.d (nb (O l)),.d (.int .i64 (E l))]):=by
  obtain ⟨F,hF⟩:=Classical.axiomOfChoice (r:=fun (l:Lf) (p:List Nat × Int)=>l ∈ lvL (pathsF xs) xs→outT inner l p.1 p.2∧Rets Try.prog 6 [.agg (leafC inner (.d (hs32 l.1)) (.d (nb l.2)))] (fun r=>r=.tup [.d (nb p.1),.d (.int .i64 p.2)])) (fun l=>by
    by_cases h:l ∈ lvL (pathsF xs) xs
    · obtain ⟨p,hp⟩:=out_ex1 inner xs hi hib hx l h
      exact ⟨p,fun _=>hp⟩
    · exact ⟨([],0),fun h'=>absurd h' h⟩)
  exact ⟨fun l=>(F l).1,fun l=>(F l).2,hF⟩
theorem out_bytes {inner:List Nat} {l:Lf} {O:List Nat} {e:Int} (h:outT inner l O e):bytes O∧O.length≤40:=by
  rcases h with ⟨_,k,o,hk,hkb,rfl,_⟩ | ⟨_,rfl⟩
  · refine ⟨fun z hz=>?_,by simp [hk]⟩
    rcases List.mem_cons.1 hz with rfl | hz
    · omega
    · rcases List.mem_cons.1 hz with rfl | hz
      · omega
      · exact hkb z hz
  · exact ⟨fun z hz=>by simp at hz,by simp⟩
theorem one_out {inner:List Nat} {l l':Lf} {O O':List Nat} (hr:rootB l.1 (leafB l.2)=rootB l'.1 (leafB l'.2)) (h:outT inner l O 0) (h':outT inner l' O' 0):O=O':=by
  rcases h with ⟨_,k,o,hk,hkb,rfl,t⟩ | ⟨e,_⟩
  · rcases h' with ⟨_,k',o',hk',hkb',rfl,t'⟩ | ⟨e,_⟩
    · rcases t with ⟨_,e,_⟩ | ⟨_,t⟩
      · cases e
      · rcases t' with ⟨_,e,_⟩ | ⟨_,t'⟩
        · cases e
        · rw [hr] at t
          obtain ⟨rfl,_⟩:=turnR_uniq hk hkb hk' hkb' t t'
          rfl
    · cases e
  · cases e
theorem cvS_nbP {P:Program} {s t:TypeId} {Kk:AV→Hp→Prop} {hp:Hp} (l:List Nat) (el:TypeId) (hb:bytes l) (h1:tyk P s=.slice el) (h2:tyk P t=.str) (h3:P.underlying el=some (.int .u8)) (hK:Kk (.d (.str (sb l))) hp):cvS P s t (l.map fun (x:Nat)=>[DV.int .u8 (x:Int)]) Kk hp:=by
  refine ⟨sb l,by simp [sb],fun b h=>?_,?_⟩
  · simp only [sb,List.mem_map] at h
    obtain ⟨x,hx,rfl⟩:=h
    have:=hb x hx
    omega
  · rw [h1,h2]
    exact ⟨h3,hK⟩
theorem one_deep (inner:List Nat) (xs:List (List Nat)):∀ v,v ∈ [AV.agg (cb inner),.d (.ro 1 (xs.map encS))]→v.deep:=by
  intro v hv;simp at hv
  rcases hv with rfl | rfl
  · exact cb_deep _
  · trivial
theorem good_all {E:Lf→Int} {ls:List Lf} (h:badL E ls=false):∀ l,l ∈ ls→E l=0:=by
  intro l hl
  unfold badL at h
  rw [List.any_eq_false] at h
  simpa using h l hl
theorem leafE_at (inner:List Nat) (l:Lf) (hi:inner.length=32):(leafE inner l)[33]?=some (nb l.2):=by
  unfold leafE
  rw [List.getElem?_append_right (by rw [cd_len];omega),cd_len,hi];rfl
theorem leafE_atg (inner:List Nat) (l:Lf) (hi:inner.length=32) (h:33<(leafE inner l).length):(leafE inner l)[33]=nb l.2:=by
  have:=leafE_at inner l hi
  rw [List.getElem?_eq_getElem h] at this
  exact Option.some.inj this
theorem leafE_in (inner:List Nat) (l:Lf) (hi:inner.length=32):List.take 32 (leafE inner l)=cd inner:=by
  unfold leafE
  rw [List.take_append_of_le_length (by rw [cd_len,hi];exact Nat.le_refl _),List.take_of_length_le (by rw [cd_len,hi];exact Nat.le_refl _)]
theorem one_law (inner:List Nat) (xs:List (List Nat)) (hi:inner.length=32) (hib:bytes inner) (hxb:∀ x,x ∈ xs→bytes x) :
    Rets Try.prog 3 [.agg (cb inner),.d (.ro 1 (xs.map encS))] (fun r=>r=.d (.bool true)):=by
  refine fna Try.func3 Try.ntmps3 (rs:=[.tmp 4]) (one_deep _ _) ?_
  by_cases h12:12<xs.length
  · have i12:(12:Int)<(xs.length:Int):=by omega
    simp [go_sem,cb_len,hi,cb_take hi,i12,h12]
    refine cl_eq alive16_fn (by simp) ?_
    simp [go_sem,resV]
    exact post_same (by simp [AV.deep,AV.deep1]) rfl
  have i12:¬ (12:Int)<(xs.length:Int):=by omega
  simp [go_sem,cb_len,hi,cb_take hi,i12,h12]
  refine loop_of (fun k:Nat=>⟨[(1,.d (.ro 1 (xs.map encS))),(2,.ptr 0 0 0 1),(5,.d (.int .i64 (k:Int)))],[(0,⟨22,32,[cb inner]⟩)],1000⟩)
    (fun k=>k≤xs.length∧∀ i x,i<k→xs[i]?=some x→x.length≤300) (fun k=>xs.length - k) 0 ⟨by omega,fun i x h=>by omega⟩ (by
      simp [Weak,slotOk,fv,lk,AV.low,AV.low1]
      exact cb_low _ _) ?_
  rintro k ⟨hk,hle⟩
  simp only [go_sem,Nat.reduceEqDiff,Nat.reduceAdd,Nat.reduceLT,↓reduceIte,Nat.reduceMul]
  refine ⟨fun h=>?_,fun h=>?_⟩
  · obtain ⟨x,hx1⟩:∃ x,xs[k]?=some x:=⟨_,List.getElem?_eq_getElem (by simpa using h)⟩
    have w3:=next_i64 (k:=k) (by omega)
    by_cases hx:300<x.length
    · have j1:(300:Int)<(x.length:Int):=by omega
      simp [go_sem,hx1,encS,nb,j1,hx]
      refine cl_eq alive16_fn (by simp) ?_
      simp [go_sem,resV]
      exact post_same (by simp [AV.deep,AV.deep1]) rfl
    · have j1:¬ (300:Int)<(x.length:Int):=by omega
      simp [go_sem,hx1,encS,nb,j1,hx,w3]
      refine next_of (k+1) ⟨by have:=(List.getElem?_eq_some_iff.1 hx1).1;omega,fun i y h1 h2=>?_⟩ (by have:=(List.getElem?_eq_some_iff.1 hx1).1;omega) ?_
      · by_cases hik:i=k
        · subst hik
          rw [hx1] at h2
          cases h2
          omega
        · exact hle i y (by omega) h2
      · simp [Weak,slotOk,fv,lk,AV.low,AV.low1]
        exact cb_low _ _
  · have hkl:k=xs.length:=by
      simp at h
      omega
    subst hkl
    have hx3:∀ x,x ∈ xs→x.length≤300:=by
      intro x hx
      obtain ⟨i,hi',rfl⟩:=List.mem_iff_getElem.1 hx
      exact hle i _ hi' (List.getElem?_eq_getElem hi')
    obtain ⟨O,E,hOE⟩:=planted inner xs hi hib (fun x hx=>by have:=hx3 x hx;omega)
    have hpl:=plant_fn inner xs hi (fun x hx=>by have:=hx3 x hx;omega) clone_fn O E (fun l hl=>(hOE l hl).2)
    simp [go_sem,cb_len,hi,cb_take hi]
    refine cl_eq hpl (one_deep _ _) ?_
    unfold plantV
    by_cases hbad:xs.length=0 ∨ 8<xs.length ∨ badL E (lvL (pathsF xs) xs)=true
    · rw [if_pos hbad]
      simp [go_sem]
      refine cl_eq alive16_fn (by simp) ?_
      simp [go_sem,resV]
      exact post_same (by simp [AV.deep,AV.deep1]) rfl
    · rw [if_neg hbad]
      have n0:¬ xs.length=0:=fun h=>hbad (.inl h)
      have n8:¬ 8<xs.length:=fun h=>hbad (.inr (.inl h))
      have hgood:badL E (lvL (pathsF xs) xs)=false:=by
        cases hb:badL E (lvL (pathsF xs) xs)
        · rfl
        · exact absurd (.inr (.inr hb)) hbad
      have hE:=good_all hgood
      obtain ⟨rt,hrt⟩:=one_root xs (by omega)
      have hlen:=lvL_len (pathsF xs) xs
      obtain ⟨l0,hl0⟩:∃ l,(lvL (pathsF xs) xs)[0]?=some l:=⟨_,List.getElem?_eq_getElem (by omega)⟩
      have m0:=List.mem_of_getElem? hl0
      have g0:=hOE l0 m0
      have e0:=hE l0 m0
      rw [e0] at g0
      have b0:=(out_bytes g0.1).1
      have i0:¬ (xs.length:Int)=0:=by omega
      have hrow0:=leafE_len hi l0
      simp [go_sem,lvL_len,i0,n0,hl0,hrow0,leafE_map,leaf_lenE hi,leaf_takeE hi]
      refine cl_eq g0.2 (leaf_d1 _ _ _) ?_
      simp [go_sem]
      refine loop_of (fun k:Nat=>⟨[(1,.d (.ro 1 (xs.map encS))),(2,.ptr 0 0 0 1),(6,.d (.ro 34 ((lvL (pathsF xs) xs).map (leafE inner)))),(8,.d (nb (O l0))),(10,.d (.int .i64 (k:Int)))],[(0,⟨22,32,[cb inner]⟩)],3000⟩)
        (fun k=>k≤xs.length) (fun k=>xs.length - k) 0 (by omega) (by
          simp [Weak,slotOk,fv,lk,AV.low,AV.low1]
          exact cb_low _ _) ?_
      intro k hk
      simp [go_sem,lvL_len]
      refine ⟨fun h=>?_,fun h=>?_⟩
      · have hkn:k<xs.length:=by omega
        obtain ⟨l,hl⟩:∃ l,(lvL (pathsF xs) xs)[k]?=some l:=⟨_,List.getElem?_eq_getElem (by omega)⟩
        have ml:=List.mem_of_getElem? hl
        have gl:=hOE l ml
        rw [hE l ml] at gl
        have hOl:O l=O l0:=one_out (by rw [hrt l ml,hrt l0 m0]) gl.1 g0.1
        rw [hOl] at gl
        have hxl:xs[k]?=some l.2:=by
          simp only [lvL,List.getElem?_mapIdx,Option.map_eq_some_iff] at hl
          obtain ⟨x,hx,rfl⟩:=hl
          exact hx
        have bl:=hxb l.2 (List.mem_of_getElem? hxl)
        have w3:=next_i64 (k:=k) (by omega)
        have hrow:=leafE_len hi l
        have ha33:=leafE_at inner l hi
        have ha32:=leafE_in inner l hi
        simp [go_sem,hl,hrow,leafE_map,leaf_lenE hi,leaf_takeE hi]
        refine cl_eq gl.2 (leaf_d1 _ _ _) ?_
        simp [go_sem]
        refine drw2 [0,1,2,3,4,5,6,7,8,9,10,11,12,13,14,15,16,17,18,19,20,21,22,23,24,25,26,27,28,29,30,31] [] 0 (k:=32) ?_
        intro G hG
        simp [go_sem,hl,hrow,nb]
        refine cvS_nbP (O l0) 5 b0 (by simp [go_sem]) (by simp [go_sem]) Try.underlying5 ?_
        simp [go_sem,nb]
        refine cvS_nbP (O l0) 5 b0 (by simp [go_sem]) (by simp [go_sem]) Try.underlying5 ?_
        simp [go_sem,hl,hrow,leafE_atg inner l hi,hxl,encS,nb]
        refine cvS_nbP l.2 5 bl (by simp [go_sem]) (by simp [go_sem]) Try.underlying5 ?_
        simp [go_sem,hxl,encS,nb]
        refine cvS_nbP l.2 5 bl (by simp [go_sem]) (by simp [go_sem]) Try.underlying5 ?_
        have hin:List.take 32 ((leafE inner l).map AV.d)=cb inner:=by
          rw [leafE_map]
          unfold leafC
          rw [List.take_append_of_le_length (by rw [cb_len,hi];exact Nat.le_refl _),cb_take hi]
        simp [go_sem,hl,hrow,cb_len,hi,cb_take hi,ints_cb,hin]
        refine hG _ _ ?_
        clear hG G
        simp [go_sem,w3]
        refine next_of (k+1) (by omega) (by omega) ?_
        simp [Weak,slotOk,fv,lk,AV.low,AV.low1]
        exact ⟨rfl,cb_low _ _⟩
      · refine cl_eq alive16_fn (by simp) ?_
        simp [go_sem,resV]
        exact post_same (by simp [AV.deep,AV.deep1]) rfl
theorem arg_oneP {n:Nat} {t:TypeId} {a:AV} {k:TypeDesc} (hu:Try.prog.underlying t=some k) (hk:∀ fs,k ≠ .struct fs) (hk2:∀ m e,k ≠ .array m e) (h:ArgTy Try.prog n t a):∃ d,a=.d d∧TyD Try.prog n t [d]:=by
  unfold ArgTy at h
  rw [hu] at h
  cases k <;> first | exact h | exact absurd rfl (hk _) | exact absurd rfl (hk2 _ _)
theorem ty_scr {n:Nat} {d:DV} (h:TyD Try.prog (n+3) 23 [d]):∃ xs:List (List Nat),d=.ro 1 (xs.map encS)∧∀ x,x ∈ xs→bytes x:=by
  rw [TyD] at h
  simp only [Try.underlying23,List.cons.injEq,and_true] at h
  obtain ⟨es,rfl,hl,hr⟩:=h
  obtain ⟨xs,rfl,hxs⟩:=map_of (enc:=encS) (R:=fun x=>bytes x) (es:=es) (fun r hr'=>by
    obtain ⟨h1,h2⟩:=hr r hr'
    rw [show Try.prog.cellsOf 25=1 by kernel_rfl] at h2
    match r,h1,h2 with
    | [y],h1,_ =>
      obtain ⟨x,rfl,_,hb⟩:=ty_bytes h1
      exact ⟨x,rfl,hb⟩)
  exact ⟨xs,by rw [show Try.prog.cellsOf 25=1 by kernel_rfl],hxs⟩
theorem one_args (l:List AV) (h:ArgTys Try.prog 6 [22,23] l):Rets Try.prog 3 l (fun r=>r=.d (.bool true)):=by
  obtain ⟨a0,r0,rfl,h0,a1,r1,rfl,h1,rfl⟩:=h
  obtain ⟨inner,rfl,q1,q2⟩:=arg_h32 h0
  obtain ⟨d1,rfl,t1⟩:=arg_oneP Try.underlying23 (by simp) (by simp) h1
  obtain ⟨xs,rfl,q3⟩:=ty_scr t1
  exact one_law inner xs q1 q2 q3
end Go.Proofs.Ytldccnbokbieiaa
