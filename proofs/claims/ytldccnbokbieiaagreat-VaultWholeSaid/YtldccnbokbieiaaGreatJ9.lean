/-
  Part 10 of what the claim rests on.
-/
import Derived.Test.YtldccnbokbieiaaGreatJ7
import Derived.Test.YtldccnbokbieiaaGreatJ8
set_option linter.unusedVariables false
set_option linter.unusedSimpArgs false
set_option maxRecDepth 100000
set_option maxHeartbeats 16000000
namespace Go.Proofs.YtldccnbokbieiaaGreat
open Go.Am Go.Sha
def onV (t:Tn) (out:Int) (a:List Nat) (e:Int):Bool :=
  decide (0≤out) && match t.outs[out.toNat]? with
    | some o=>decide (e=0) && decide (o.2=a)
    | none=>false
def coinAt (coins:List (Nat × List Nat)) (n:Int):Nat × List Nat:=(coins[n.toNat]?).getD (0,[])
def clm (o v:Int):List DV:=[.int .i64 o,.int .u64 v]
def trigV (t:Tn) (n:Int) (coins:List (Nat × List Nat)) (o0 o1 back:Int) (a:List Nat) (e:Int):AV :=
  if checkS t n coins ≠ 0 then .tup [.nil,.d (.int .i64 1)]
  else if onV t o0 a e=false ∨ back<0 ∨ ((coinAt coins n).1:Int)<back then .tup [.nil,.d (.int .i64 24)]
  else if o1=-1∧back=0 then .tup [.d (.ro 2 [clm o0 (((coinAt coins n).1:Int) - back)]),.d (.int .i64 0)]
  else if o1=o0 ∨ onV t o1 (coinAt coins n).2 0=false then .tup [.nil,.d (.int .i64 24)]
  else .tup [.d (.ro 2 [clm o0 (((coinAt coins n).1:Int) - back),clm o1 back]),.d (.int .i64 0)]
theorem leaf_len3 {inner:List Nat} (hi:inner.length=32) (a b:AV):(leafC inner a b).length=34:=by simp [leafC,cb_len,hi]
theorem leaf_take3 {inner:List Nat} (hi:inner.length=32) (a b:AV):List.take 34 (leafC inner a b)=leafC inner a b:=List.take_of_length_le (by rw [leaf_len3 hi];exact Nat.le_refl _)
theorem leaf_set3 {inner:List Nat} (hi:inner.length=32) (a b c:AV):(leafC inner a b).set 33 c=leafC inner a c:=by
  have hl:(cb inner).length=32:=by rw [cb_len,hi]
  unfold leafC
  rw [List.set_append_right _ _ (by omega),hl]
  rfl
theorem goesOn_fn (t:Tn) (n:Int) (coins:List (Nat × List Nat)) (inner:List Nat) (ps:List (List Nat)) (x s a:List Nat) (out e:Int) (hi:inner.length=32) (ha:bytes a) (hob:∀ o,o ∈ t.outs→bytes o.2)
    (g:Rets Tryz.prog 18 [leafV inner ps s] (fun r=>r=.tup [.d (nb a),.d (.int .i64 e)])) :
    Rets Tryz.prog 73 [.agg (eS t n coins),leafV inner ps x,.d (nb s),.d (.int .i64 out)] (fun r=>r=.d (.bool (onV t out a e))):=by
  refine fna Tryz.func73 Tryz.ntmps73 (rs:=[.tmp 8]) (by
    intro v hv
    simp at hv
    rcases hv with rfl | rfl | rfl | rfl
    · simp [AV.deep,AV.deep1,eS]
    · exact leafC_deep _ _ _
    · trivial
    · trivial) ?_
  have hes:(eS t n coins).length=6:=rfl
  have het:List.take 6 (eS t n coins)=eS t n coins:=rfl
  simp [go_sem,leafV,leaf_len3 hi,leaf_take3 hi,hes,het]
  by_cases h2:out<0 ∨ (t.outs.length:Int)≤out
  · have hV:onV t out a e=false:=by
      unfold onV
      rcases h2 with h2 | h2
      · simp;omega
      · rw [List.getElem?_eq_none (by omega)];simp
    refine cl_eq (pays_no t n coins out h2) (by simp [AV.deep,AV.deep1,eS]) ?_
    rw [hV]
    simp [go_sem,resV]
    exact post_same (by simp [AV.deep,AV.deep1]) rfl
  · obtain ⟨k,rfl⟩:∃ k:Nat,out=(k:Int):=⟨out.toNat,by omega⟩
    have hk:k<t.outs.length:=by omega
    obtain ⟨o,ho⟩:∃ o,t.outs[k]?=some o:=⟨_,List.getElem?_eq_getElem hk⟩
    have hV:onV t k a e=(decide (e=0) && decide (o.2=a)):=by
      unfold onV
      simp [ho]
    rw [hV]
    refine cl_eq (pays_yes t n coins k o ho) (by simp [AV.deep,AV.deep1,eS]) ?_
    simp [go_sem,leaf_len3 hi,leaf_take3 hi,leaf_set3 hi,nb]
    refine cl_eq g (leafV_deep _ _ _) ?_
    simp [go_sem]
    by_cases he:e=0
    · subst he
      simp [go_sem]
      refine cl_eq (equal_fn o.2 a (hob o (List.mem_of_getElem? ho)) ha) (by simp [AV.deep,AV.deep1]) ?_
      simp [go_sem,resV]
      exact post_same (by simp [AV.deep,AV.deep1]) rfl
    · simp [go_sem,he,resV]
      exact post_same (by simp [AV.deep,AV.deep1]) rfl
theorem goesBack_fn (t:Tn) (m:Nat) (coins:List (Nat × List Nat)) (out:Int) (hm:m<coins.length) (hob:∀ o,o ∈ t.outs→bytes o.2) (hcb:∀ o,o ∈ coins→bytes o.2) :
    Rets Tryz.prog 74 [.agg (eS t m coins),.d (.int .i64 out)] (fun r=>r=.d (.bool (onV t out (coinAt coins m).2 0))):=by
  refine fna Tryz.func74 Tryz.ntmps74 (rs:=[.tmp 4]) (by simp [AV.deep,AV.deep1,eS]) ?_
  obtain ⟨c,hcm⟩:∃ o,coins[m]?=some o:=⟨_,List.getElem?_eq_getElem hm⟩
  have hca:coinAt coins m=c:=by simp [coinAt,hcm]
  simp [go_sem,eS]
  by_cases h2:out<0 ∨ (t.outs.length:Int)≤out
  · have hV:onV t out (coinAt coins m).2 0=false:=by
      unfold onV
      rcases h2 with h2 | h2
      · simp;omega
      · rw [List.getElem?_eq_none (by omega)];simp
    refine cl_eq (pays_no t m coins out h2) (by simp [AV.deep,AV.deep1,eS]) ?_
    rw [hV]
    simp [go_sem,resV]
    exact post_same (by simp [AV.deep,AV.deep1]) rfl
  · obtain ⟨k,rfl⟩:∃ k:Nat,out=(k:Int):=⟨out.toNat,by omega⟩
    have hk:k<t.outs.length:=by omega
    obtain ⟨o,ho⟩:∃ o,t.outs[k]?=some o:=⟨_,List.getElem?_eq_getElem hk⟩
    have hV:onV t k (coinAt coins m).2 0=decide (o.2=c.2):=by
      unfold onV
      simp [ho,hca]
    rw [hV]
    refine cl_eq (pays_yes t m coins k o ho) (by simp [AV.deep,AV.deep1,eS]) ?_
    simp [go_sem,hcm,eO]
    refine cl_eq (equal_fn o.2 c.2 (hob o (List.mem_of_getElem? ho)) (hcb c (List.mem_of_getElem? hcm))) (by simp [AV.deep,AV.deep1]) ?_
    simp [go_sem,resV]
    exact post_same (by simp [AV.deep,AV.deep1]) rfl
theorem post_cl {Q:AV→Prop} {st:St} {id n:Nat} {ty:TypeId} {e:Int} (rows:List (List DV)) (hn:rows.length=n) (hb:lk id st.hp=some ⟨ty,2,rows.map (fun r=>r.map AV.d)⟩) (hr:∀ r,r ∈ rows→r.length=2) (hq:Q (.tup [.d (.ro 2 rows),.d (.int .i64 e)])):PostK Q (.tup [.own id 0 n n,.d (.int .i64 e)]) st:=by
  subst hn
  refine post_tup (cs':=[.d (.ro 2 rows),.d (.int .i64 e)]) (fun i c c' h1 h2=>?_) rfl (by simp [AV.deep,AV.deep1]) hq
  match i,h1,h2 with
  | 0,h1,h2=>simp at h1 h2;subst h1 h2;exact snap1_d (own_of hb trivial (by simp) (by rw [List.drop_zero,List.take_of_length_le (by simp)];exact rows_map _) rfl hr)
  | 1,h1,h2=>simp at h1 h2;subst h1 h2;exact snap1_same trivial
  | k+2,h1,_=>simp at h1
theorem trig_deep (t:Tn) (n:Int) (coins:List (Nat × List Nat)) (inner:List Nat) (ps:List (List Nat)) (x s:List Nat) (o0 o1 back:Int):∀ v,v ∈ [AV.agg (eS t n coins),leafV inner ps x,.d (nb s),.agg [.d (.int .i64 o0),.d (.int .i64 o1)],.d (.int .i64 back)]→v.deep:=by
  intro v hv
  simp at hv
  rcases hv with rfl | rfl | rfl | rfl | rfl
  · simp [AV.deep,AV.deep1,eS]
  · exact leafC_deep _ _ _
  · trivial
  · simp [AV.deep,AV.deep1]
  · trivial
theorem on_deep (t:Tn) (n:Int) (coins:List (Nat × List Nat)) (inner:List Nat) (ps:List (List Nat)) (x s:List Nat) (o:Int):∀ v,v ∈ [AV.agg (eS t n coins),leafV inner ps x,.d (nb s),.d (.int .i64 o)]→v.deep:=by
  intro v hv
  simp at hv
  rcases hv with rfl | rfl | rfl | rfl
  · simp [AV.deep,AV.deep1,eS]
  · exact leafC_deep _ _ _
  · trivial
  · trivial
theorem trigger_fn (t:Tn) (n:Int) (coins:List (Nat × List Nat)) (inner:List Nat) (ps:List (List Nat)) (x s a:List Nat) (o0 o1 back e:Int) (ht:Sm t) (hc:coins.length≤1000) (hi:inner.length=32) (ha:bytes a) (hob:∀ o,o ∈ t.outs→bytes o.2) (hcb:∀ o,o ∈ coins→bytes o.2∧o.1<18446744073709551616)
    (hbk:back<9223372036854775808) (g:Rets Tryz.prog 18 [leafV inner ps s] (fun r=>r=.tup [.d (nb a),.d (.int .i64 e)])) :
    Rets Tryz.prog 37 [.agg (eS t n coins),leafV inner ps x,.d (nb s),.agg [.d (.int .i64 o0),.d (.int .i64 o1)],.d (.int .i64 back)] (fun r=>r=trigV t n coins o0 o1 back a e):=by
  refine fna Tryz.func37 Tryz.ntmps37 (rs:=[.tmp 10,.tmp 11]) (trig_deep _ _ _ _ _ _ _ _ _ _) ?_
  have hes:(eS t n coins).length=6:=rfl
  have het:List.take 6 (eS t n coins)=eS t n coins:=rfl
  simp [go_sem,leafV,leaf_len3 hi,leaf_take3 hi,hes,het]
  refine cl_eq (checkS_fn t n coins ht hc) (by simp [AV.deep,AV.deep1,eS]) ?_
  rcases checkS_cases t n coins with h1 | ⟨h1,hn1,hn2⟩
  · have hV:trigV t n coins o0 o1 back a e=.tup [.nil,.d (.int .i64 1)]:=by simp [trigV,h1]
    rw [h1,hV]
    simp [go_sem,resV]
    exact post_same (by simp [AV.deep,AV.deep1]) rfl
  · rw [h1]
    obtain ⟨m,rfl⟩:∃ k:Nat,n=(k:Int):=⟨n.toNat,by omega⟩
    obtain ⟨c,hcm⟩:∃ o,coins[m]?=some o:=⟨_,List.getElem?_eq_getElem (by omega:m<coins.length)⟩
    have hca:coinAt coins m=c:=by simp [coinAt,hcm]
    have hcl:=(hcb c (List.mem_of_getElem? hcm)).2
    simp [go_sem,eS,hcm,eO,leaf_len3 hi,leaf_take3 hi]
    refine cl_eq (goesOn_fn t m coins inner ps x s a o0 e hi ha hob g) (on_deep _ _ _ _ _ _ _ _) ?_
    unfold trigV
    rw [h1,hca]
    cases hon:onV t o0 a e
    · simp [go_sem,resV]
      exact post_same (by simp [AV.deep,AV.deep1]) rfl
    by_cases b1:back<0
    · simp [go_sem,b1,resV]
      exact post_same (by simp [AV.deep,AV.deep1]) rfl
    have wb:IntKind.u64.wrap back=back:=by rw [IntWalk.u64_in _ (by omega)]
    by_cases b2:(c.1:Int)<back
    · simp [go_sem,b1,wb,b2,resV]
      exact post_same (by simp [AV.deep,AV.deep1]) rfl
    have ws:IntKind.u64.wrap ((c.1:Int) - back)=(c.1:Int) - back:=by rw [IntWalk.u64_in _ (by omega)]
    by_cases q1:o1=-1∧back=0
    · obtain ⟨rfl,rfl⟩:=q1
      have wc:IntKind.u64.wrap (c.1:Int)=(c.1:Int):=by rw [IntWalk.u64_in _ (by omega)]
      simp [go_sem,b1,wb,b2,ws,wc,resV]
      exact post_cl [clm o0 (c.1:Int)] rfl rfl (by simp [clm]) rfl
    · have gb:=goesBack_fn t m coins o1 (by omega) hob (fun o h=>(hcb o h).1)
      rw [hca] at gb
      by_cases p1:o1=-1
      · have p2:¬ back=0:=fun h=>q1 ⟨p1,h⟩
        subst p1
        by_cases q2:(-1)=o0
        · subst q2
          simp [go_sem,b1,wb,b2,ws,p2,resV]
          exact post_same (by simp [AV.deep,AV.deep1]) rfl
        · simp [go_sem,b1,wb,b2,ws,p2,q2]
          refine cl_eq gb (by simp [AV.deep,AV.deep1,eS]) ?_
          cases hob1:onV t (-1) c.2 0
          · simp [go_sem,b1,wb,b2,ws,p2,q2,resV]
            exact post_same (by simp [AV.deep,AV.deep1]) rfl
          · simp [go_sem,b1,wb,b2,ws,p2,q2,resV]
            exact post_cl [clm o0 ((c.1:Int) - back),clm (-1) back] rfl rfl (by simp [clm]) rfl
      · skip
        by_cases q2:o1=o0
        · subst q2
          simp [go_sem,b1,wb,b2,ws,p1,resV]
          exact post_same (by simp [AV.deep,AV.deep1]) rfl
        · simp [go_sem,b1,wb,b2,ws,p1,q2]
          refine cl_eq gb (by simp [AV.deep,AV.deep1,eS]) ?_
          cases hob1:onV t o1 c.2 0
          · simp [go_sem,b1,wb,b2,ws,p1,q2,resV]
            exact post_same (by simp [AV.deep,AV.deep1]) rfl
          · simp [go_sem,b1,wb,b2,ws,p1,q2,resV]
            exact post_cl [clm o0 ((c.1:Int) - back),clm o1 back] rfl rfl (by simp [clm]) rfl
def stepC (inner:List Nat) (ps:List (List Nat)) (x s:List Nat) (o0 o1 back:Int):List AV :=
  leafC inner (.d (hs32 ps)) (.d (nb x)) ++ [.d (nb s),.d (.int .i64 o0),.d (.int .i64 o1),.d (.int .i64 back)]
theorem step_len {inner:List Nat} (hi:inner.length=32) (ps:List (List Nat)) (x s:List Nat) (o0 o1 back:Int):(stepC inner ps x s o0 o1 back).length=38:=by
  unfold stepC;rw [List.length_append,leaf_len3 hi];rfl
theorem step_take {inner:List Nat} (hi:inner.length=32) (ps:List (List Nat)) (x s:List Nat) (o0 o1 back:Int):List.take 38 (stepC inner ps x s o0 o1 back)=stepC inner ps x s o0 o1 back :=
  List.take_of_length_le (by rw [step_len hi];exact Nat.le_refl _)
theorem step_take34 {inner:List Nat} (hi:inner.length=32) (ps:List (List Nat)) (x s:List Nat) (o0 o1 back:Int):List.take 34 (stepC inner ps x s o0 o1 back)=leafC inner (.d (hs32 ps)) (.d (nb x)):=by
  unfold stepC;rw [List.take_append_of_le_length (by rw [leaf_len3 hi];exact Nat.le_refl _),leaf_take3 hi]
theorem step_drop {inner:List Nat} (hi:inner.length=32) (ps:List (List Nat)) (x s:List Nat) (o0 o1 back:Int) (k:Nat) (hk:32≤k):List.drop k (stepC inner ps x s o0 o1 back)=List.drop (k - 32) [.d (hs32 ps),.d (nb x),.d (nb s),.d (.int .i64 o0),.d (.int .i64 o1),.d (.int .i64 back)]:=by
  unfold stepC leafC
  rw [List.append_assoc,List.drop_append,cb_len,hi,List.drop_eq_nil_of_le (by rw [cb_len,hi];exact hk),List.nil_append]
  rfl
theorem step_at {inner:List Nat} (hi:inner.length=32) (ps:List (List Nat)) (x s:List Nat) (o0 o1 back:Int) (k:Nat) (hk:32≤k):(stepC inner ps x s o0 o1 back)[k]?=[AV.d (hs32 ps),.d (nb x),.d (nb s),.d (.int .i64 o0),.d (.int .i64 o1),.d (.int .i64 back)][k - 32]?:=by
  rw [← List.head?_drop,step_drop hi ps x s o0 o1 back k hk,List.head?_drop]
theorem step_deep {inner:List Nat} (ps:List (List Nat)) (x s:List Nat) (o0 o1 back:Int):(AV.agg (stepC inner ps x s o0 o1 back)).deep:=by
  intro c hc
  rcases List.mem_append.1 hc with h | h
  · exact leafC_deep _ _ _ _ h
  · simp at h;rcases h with rfl | rfl | rfl | rfl <;> trivial
theorem small21_fn (inner:List Nat) (ps:List (List Nat)) (x s:List Nat) (o0 o1 back:Int) (hi:inner.length=32) :
    Rets Tryz.prog 35 [.agg (stepC inner ps x s o0 o1 back)] (fun r=>r=.d (.bool (decide (ps.length≤12∧x.length≤600∧s.length≤1100)))):=by
  refine fna Tryz.func35 Tryz.ntmps35 (rs:=[.tmp 2]) (by
    intro v hv;simp at hv;subst hv;exact step_deep _ _ _ _ _ _) ?_
  have d32:=step_drop hi ps x s o0 o1 back 32 (by omega)
  have d33:=step_drop hi ps x s o0 o1 back 33 (by omega)
  have d34:=step_drop hi ps x s o0 o1 back 34 (by omega)
  have s34:=step_at hi ps x s o0 o1 back 34 (by omega)
  simp at d32 d33 d34 s34
  by_cases h1:ps.length≤12
  · have i1:(ps.length:Int)≤12:=by omega
    by_cases h2:x.length≤600
    · have i2:(x.length:Int)≤600:=by omega
      by_cases h3:s.length≤1100
      · have i3:(s.length:Int)≤1100:=by omega
        simp [go_sem,step_len hi,step_take hi,d32,d33,d34,s34,hs32,nb,i1,i2,i3,h1,h2,h3,resV]
        exact post_same (by simp [AV.deep,AV.deep1]) rfl
      · have i3:¬ (s.length:Int)≤1100:=by omega
        simp [go_sem,step_len hi,step_take hi,d32,d33,d34,s34,hs32,nb,i1,i2,i3,h1,h2,h3,resV]
        exact post_same (by simp [AV.deep,AV.deep1]) rfl
    · have i2:¬ (x.length:Int)≤600:=by omega
      simp [go_sem,step_len hi,step_take hi,d32,d33,d34,s34,hs32,nb,i1,i2,h1,h2,resV]
      exact post_same (by simp [AV.deep,AV.deep1]) rfl
  · have i1:¬ (ps.length:Int)≤12:=by omega
    simp [go_sem,step_len hi,step_take hi,d32,d33,d34,s34,hs32,nb,i1,h1,resV]
    exact post_same (by simp [AV.deep,AV.deep1]) rfl
def claimsOk (t:Tn) (v:Int) (L:List (Int × Int)):Prop:=(∀ c,c ∈ L→0≤c.1∧c.1<(t.outs.length:Int)∧0≤c.2∧c.2≤v)∧(L.map (·.2)).sum=v∧(L.length=1 ∨ ∃ a b,L=[a,b]∧a.1 ≠ b.1)
def encL (c:Int × Int):List DV:=clm c.1 c.2
theorem onV_in {t:Tn} {o:Int} {a:List Nat} {e:Int} (h:onV t o a e=true):0≤o∧o<(t.outs.length:Int):=by
  unfold onV at h
  simp only [Bool.and_eq_true,decide_eq_true_eq] at h
  obtain ⟨h1,h2⟩:=h
  refine ⟨h1,?_⟩
  by_cases h3:o<(t.outs.length:Int)
  · exact h3
  · rw [List.getElem?_eq_none (by omega)] at h2;simp at h2
theorem trig_cases (t:Tn) (n:Int) (coins:List (Nat × List Nat)) (o0 o1 back:Int) (a:List Nat) (e:Int) :
    trigV t n coins o0 o1 back a e=.tup [.nil,.d (.int .i64 1)] ∨ trigV t n coins o0 o1 back a e=.tup [.nil,.d (.int .i64 24)] ∨
      ∃ L,trigV t n coins o0 o1 back a e=.tup [.d (.ro 2 (L.map encL)),.d (.int .i64 0)]∧checkS t n coins=0∧claimsOk t ((coinAt coins n).1:Int) L:=by
  unfold trigV
  split
  · exact .inl rfl
  · rename_i h0
    split
    · exact .inr (.inl rfl)
    · rename_i h1
      have h1':onV t o0 a e=true∧0≤back∧back≤((coinAt coins n).1:Int):=by
        refine ⟨?_,by omega,by omega⟩
        cases h:onV t o0 a e
        · exact (h1 (.inl h)).elim
        · rfl
      obtain ⟨h2,h3,h4⟩:=h1'
      have h5:=onV_in h2
      have h0':checkS t n coins=0:=by simpa using h0
      split
      · rename_i h6
        refine .inr (.inr ⟨[(o0,((coinAt coins n).1:Int) - back)],rfl,h0',?_,?_,.inl rfl⟩)
        · intro c hc
          simp at hc
          subst hc
          exact ⟨h5.1,h5.2,by show 0≤((coinAt coins n).1:Int) - back;omega,by show ((coinAt coins n).1:Int) - back≤_;omega⟩
        · simp;omega
      · split
        · exact .inr (.inl rfl)
        · rename_i h7
          have h8:o1 ≠ o0:=fun h=>h7 (.inl h)
          have h9:onV t o1 (coinAt coins n).2 0=true:=by
            cases h:onV t o1 (coinAt coins n).2 0
            · exact (h7 (.inr h)).elim
            · rfl
          have h10:=onV_in h9
          refine .inr (.inr ⟨[(o0,((coinAt coins n).1:Int) - back),(o1,back)],rfl,h0',?_,?_,.inr ⟨_,_,rfl,fun h=>h8 h.symm⟩⟩)
          · intro c hc
            simp at hc
            rcases hc with rfl | rfl
            · exact ⟨h5.1,h5.2,by show 0≤((coinAt coins n).1:Int) - back;omega,by show ((coinAt coins n).1:Int) - back≤_;omega⟩
            · exact ⟨h10.1,h10.2,h3,h4⟩
          · simp
theorem recV_ok {t:Tn} {n:Int} {coins:List (Nat × List Nat)} {rec:List Nat} {out:Int} {c v e:Int} (h:recV t n coins rec out=(c,v,e)) (he:e=0):checkS t n coins=0∧v=((coinAt coins n).1:Int)∧0≤c∧c<(t.outs.length:Int):=by
  unfold recV at h
  by_cases h0:checkS t n coins=0
  · rw [if_neg (by simp [h0])] at h
    cases ho:t.outs[out.toNat]? with
    | none=>rw [ho] at h;simp at h;omega
    | some o =>
      rw [ho] at h
      simp only at h
      by_cases h1:0≤out
      · rw [if_pos h1] at h
        by_cases h2:recB o.2=rec
        · rw [if_pos h2] at h
          simp only [Prod.mk.injEq] at h
          obtain ⟨rfl,rfl,_⟩:=h
          have:=(List.getElem?_eq_some_iff.1 ho).1
          refine ⟨h0,?_,h1,by omega⟩
          unfold coinAt
          cases coins[n.toNat]? <;> rfl
        · rw [if_neg h2] at h;simp only [Prod.mk.injEq] at h;omega
      · rw [if_neg h1] at h;simp only [Prod.mk.injEq] at h;omega
  · rw [if_pos h0] at h;simp only [Prod.mk.injEq] at h;omega
theorem out_ex (inner:List Nat) (ps:List (List Nat)) (x:List Nat) (hi:inner.length=32) (hib:bytes inner) (hp:∀ p,p ∈ ps→p.length=32∧bytes p) (hps:ps.length≤1000) (hx:x.length≤100000) :
    ∃ (a:List Nat) (e:Int),bytes a∧Rets Tryz.prog 18 [leafV inner ps x] (fun r=>r=.tup [.d (nb a),.d (.int .i64 e)]):=by
  obtain ⟨k,o,e,hk,hkb,he,f1,_,_⟩:=turned_ex inner ps x hi hib (fun p h=>(hp p h).1) hps hx
  rcases he with rfl | rfl
  · refine ⟨81 :: 32 :: k,0,?_,output_ok hi hk f1⟩
    intro z hz
    rcases List.mem_cons.1 hz with rfl | hz
    · omega
    · rcases List.mem_cons.1 hz with rfl | hz
      · omega
      · exact hkb z hz
  · exact ⟨[],1,fun z hz=>by simp at hz,output_no hi hk f1⟩
theorem whole_deep (t:Tn) (n:Int) (coins:List (Nat × List Nat)) (inner:List Nat) (ps:List (List Nat)) (x s rec:List Nat) (o0 o1 back:Int):∀ v,v ∈ [AV.agg (eS t n coins),.agg (stepC inner ps x s o0 o1 back),.d (nb rec)]→v.deep:=by
  intro v hv
  simp at hv
  rcases hv with rfl | rfl | rfl
  · simp [AV.deep,AV.deep1,eS]
  · exact step_deep _ _ _ _ _ _
  · trivial
theorem sum_split {L:List (Int × Int)} {k:Nat} {c:Int × Int} (hd:L.drop k=c :: L.drop (k+1)):(L.map (·.2)).sum=((L.take k).map (·.2)).sum+c.2+((L.drop (k+1)).map (·.2)).sum:=by
  conv=>lhs;rw [← List.take_append_drop k L,hd]
  simp [Int.add_assoc]
theorem sum_nonneg {L:List (Int × Int)} (h:∀ c,c ∈ L→0≤c.2):0≤(L.map (·.2)).sum:=by
  induction L with
  | nil=>simp
  | cons a r ih =>
    have:=h a (by simp)
    have:=ih (fun c hc=>h c (by simp [hc]))
    simp only [List.map_cons,List.sum_cons]
    omega
def sumK (L:List (Int × Int)) (k:Nat):Int:=((L.take k).map (·.2)).sum
theorem sum_take {L:List (Int × Int)} {k:Nat} {c:Int × Int} (hk:L[k]?=some c):sumK L (k+1)=sumK L k+c.2:=by
  unfold sumK
  rw [List.take_add_one,hk]
  simp
theorem step_low {inner:List Nat} (N:Nat) (ps:List (List Nat)) (x s:List Nat) (o0 o1 back:Int):∀ v,v ∈ stepC inner ps x s o0 o1 back→v.low1 N:=by
  intro c hc
  rcases List.mem_append.1 hc with h | h
  · exact leafC_low _ _ _ _ (by simp [AV.low1]) (by simp [AV.low1]) _ h
  · simp at h;rcases h with rfl | rfl | rfl | rfl <;> trivial
theorem whole_law (t:Tn) (n:Int) (coins:List (Nat × List Nat)) (inner:List Nat) (ps:List (List Nat)) (x s rec:List Nat) (o0 o1 back:Int) (ht:t.ok) (hr:bytes rec) (hob:∀ o,o ∈ t.outs→bytes o.2) (hcb:∀ o,o ∈ coins→bytes o.2∧o.1<18446744073709551616)
    (hi:inner.length=32) (hib:bytes inner) (hp:∀ p,p ∈ ps→p.length=32∧bytes p) (hbk:back<9223372036854775808) :
    Rets Tryz.prog 8 [.agg (eS t n coins),.agg (stepC inner ps x s o0 o1 back),.d (nb rec)] (fun r=>r=.d (.bool true)):=by
  refine fna Tryz.func8 Tryz.ntmps8 (rs:=[.tmp 6]) (whole_deep _ _ _ _ _ _ _ _ _ _ _) ?_
  have hes:(eS t n coins).length=6:=rfl
  have het:List.take 6 (eS t n coins)=eS t n coins:=rfl
  have d34:=step_drop hi ps x s o0 o1 back 34 (by omega)
  have d35:=step_drop hi ps x s o0 o1 back 35 (by omega)
  have d37:=step_drop hi ps x s o0 o1 back 37 (by omega)
  have t34:=step_take34 hi ps x s o0 o1 back
  simp at d34 d35 d37
  simp [go_sem,hes,het,step_len hi,step_take hi]
  refine cl_eq (smallS_fn t n coins ht) (by simp [AV.deep,AV.deep1,eS]) ?_
  cases hs:smallS t coins
  · simp [go_sem]
    refine cl_eq alive21_fn (by simp) ?_
    simp [go_sem,resV]
    exact post_same (by simp [AV.deep,AV.deep1]) rfl
  simp [go_sem,step_len hi,step_take hi]
  refine cl_eq (small21_fn inner ps x s o0 o1 back hi) (by intro v hv;simp at hv;subst hv;exact step_deep _ _ _ _ _ _) ?_
  by_cases h1:ps.length≤12∧x.length≤600∧s.length≤1100
  · by_cases h2:rec.length≤600
    · have i2:¬ (600:Int)<(rec.length:Int):=by omega
      simp only [smallS,Bool.and_eq_true,decide_eq_true_eq] at hs
      obtain ⟨q1,q2,q3⟩:=hs
      have hsm:=sm_of ht q1
      obtain ⟨k1,k2,k3⟩:=h1
      obtain ⟨a,e,ha,g⟩:=out_ex inner ps s hi hib hp (by omega) (by omega)
      simp [go_sem,k1,k2,k3,i2,nb,hes,het,step_len hi,step_take hi,d35]
      refine cl_eq (recover_fn t n coins rec o0 hsm (by omega) hr) (by simp [AV.deep,AV.deep1,eS]) ?_
      rcases hV:recV t n coins rec o0 with ⟨c,v,f⟩
      have hok:=fun h=>recV_ok hV h
      simp [go_sem,recA]
      refine drw3 [0,1,2,3,4,5,6,7,8,9,10,11,12,13,14,15,16,17,18,19,20,21,22,23,24,25,26,27] [] [0,1,2,3,4,5,6,7,8,9,10,11,12,13,14,15,16,17,18,19,20,21,22,23,24,25,26,27] .done ⟨[(3,.ptr 0 0 0 1),(4,.ptr 32 0 0 1),(63,.d (.bool false))],[(32,⟨62,38,[stepC inner ps x s o0 o1 back]⟩),(0,⟨59,6,[eS t n coins]⟩)],9000⟩ (k:=28) ?h3 ?hq
      case h3 =>
        intro G hG
        have hW:∀ (fr:Fr) (hp:Hp),(fv 3 fr=.ptr 0 0 0 1∧fv 4 fr=.ptr 32 0 0 1∧fv 63 fr=.d (.bool false)∧lk 32 hp=some ⟨62,38,[stepC inner ps x s o0 o1 back]⟩∧lk 0 hp=some ⟨59,6,[eS t n coins]⟩)→G fr hp:=by
          rintro fr hp ⟨w1,w2,w3,w4,w5⟩
          refine hG _ _ (weak_wk ?_)
          simp [Weak,slotOk,AV.low,AV.low1,eS,w1,w2,w3,w4,w5]
          exact step_low _ _ _ _ _ _ _
        by_cases hf:f=0
        · obtain ⟨e1,e2,e3,e4⟩:=hok hf
          rcases checkS_cases t n coins with h0 | ⟨h0,hn1,hn2⟩
          · omega
          obtain ⟨m,rfl⟩:∃ k:Nat,n=(k:Int):=⟨n.toNat,by omega⟩
          obtain ⟨cc,hcm⟩:∃ o,coins[m]?=some o:=⟨_,List.getElem?_eq_getElem (by omega:m<coins.length)⟩
          have hca:coinAt coins m=cc:=by simp [coinAt,hcm]
          rw [hca] at e2
          subst e2 hf
          have e3':¬ c<0:=by omega
          have e4':¬ (t.outs.length:Int)≤c:=by omega
          simp [go_sem,hcm,eO,eS,e3',e4']
          exact hW _ _ (by simp [fv,lk,eS])
        · simp [go_sem,hf]
          exact hW _ _ (by simp [fv,lk,eS])
      case hq =>
        simp [go_sem,hes,het,step_len hi,step_take hi,d34,d35,d37,t34]
        refine cl_eq (trigger_fn t n coins inner ps x s a o0 o1 back e hsm (by omega) hi ha hob hcb hbk g) (trig_deep _ _ _ _ _ _ _ _ _ _) ?_
        rcases trig_cases t n coins o0 o1 back a e with hT | hT | ⟨L,hT,hz,hL1,hL2,hL3⟩
        · rw [hT]
          simp [go_sem]
          refine cl_eq alive21_fn (by simp) ?_
          simp [go_sem,resV]
          exact post_same (by simp [AV.deep,AV.deep1]) rfl
        · rw [hT]
          simp [go_sem]
          refine cl_eq alive21_fn (by simp) ?_
          simp [go_sem,resV]
          exact post_same (by simp [AV.deep,AV.deep1]) rfl
        · rw [hT]
          rcases checkS_cases t n coins with h0 | ⟨h0,hn1,hn2⟩
          · omega
          obtain ⟨m,rfl⟩:∃ k:Nat,n=(k:Int):=⟨n.toNat,by omega⟩
          obtain ⟨cc,hcm⟩:∃ o,coins[m]?=some o:=⟨_,List.getElem?_eq_getElem (by omega:m<coins.length)⟩
          have hca:coinAt coins m=cc:=by simp [coinAt,hcm]
          have hcl:=(hcb cc (List.mem_of_getElem? hcm)).2
          rw [hca] at hL1 hL2
          have hLl:L.length≤2:=by
            rcases hL3 with h | ⟨a,b,rfl,_⟩
            · omega
            · simp
          simp [go_sem]
          refine loop_of (fun k:Nat=>⟨[(3,.ptr 0 0 0 1),(9,.d (.ro 2 (L.map encL))),(11,.d (.int .u64 (sumK L k))),(12,.d (.int .i64 (k:Int)))],[(0,⟨59,6,[eS t m coins]⟩)],12000⟩)
            (fun k=>k≤L.length) (fun k=>L.length - k) 0 (by omega) (by
              simp [Weak,slotOk,fv,lk,AV.low,AV.low1,eS,sumK]) ?_
          intro k hk
          simp only [go_sem,Nat.reduceEqDiff,Nat.reduceAdd,Nat.reduceLT,↓reduceIte,Nat.reduceMul]
          refine ⟨fun h=>?_,fun h=>?_⟩
          · obtain ⟨c,hc⟩:∃ c,L[k]?=some c:=⟨_,List.getElem?_eq_getElem (by simpa using h)⟩
            obtain ⟨y1,y2,y3,y4⟩:=hL1 c (List.mem_of_getElem? hc)
            have w3:=next_i64 (k:=k) (by omega)
            have hst:=sum_take hc
            have hdr:L.drop k=c :: L.drop (k+1):=by rw [List.drop_eq_getElem_cons (by simpa using h),(List.getElem?_eq_some_iff.1 hc).2]
            have hsp:=sum_split hdr
            have p1:0≤sumK L k:=sum_nonneg (fun c hc=>(hL1 c (List.mem_of_mem_take hc)).2.2.1)
            have p2:0≤((L.drop (k+1)).map (·.2)).sum:=sum_nonneg (fun c hc=>(hL1 c (List.mem_of_mem_drop hc)).2.2.1)
            have hsp':(L.map (·.2)).sum=sumK L k+c.2+((L.drop (k+1)).map (·.2)).sum:=hsp
            have w4:IntKind.u64.wrap (sumK L k+c.2)=sumK L (k+1):=by rw [IntWalk.u64_in _ (by omega),hst]
            have y1':¬ c.1<0:=by omega
            have y2':¬ (t.outs.length:Int)≤c.1:=by omega
            have y4':¬ (cc.1:Int)<c.2:=by omega
            simp [go_sem,hc,encL,clm,w4]
            refine drw2 [0,1,2,3,4,5,6,7,8,9,10,11,12,13,14,15,16,17,18,19,20,21,22,23,24,25,26,27,28,29,30,31,32] [] 0 (k:=33) ?_
            intro G hG
            simp [go_sem,hc,encL,clm,y1',y2',y4',eS,hcm,eO]
            refine hG _ _ ?_
            clear hG G
            simp [go_sem,w3]
            refine next_of (k+1) (by have:=(List.getElem?_eq_some_iff.1 hc).1;omega) (by have:=(List.getElem?_eq_some_iff.1 hc).1;omega) ?_
            simp [Weak,slotOk,fv,lk,AV.low,AV.low1,eS]
          · have hkl:k=L.length:=by
              simp at h
              omega
            subst hkl
            have hs0:sumK L L.length=(cc.1:Int):=by unfold sumK;rw [List.take_length];exact hL2
            simp only [hs0]
            rcases hL3 with hL3 | ⟨c1,c2,rfl,hne⟩
            · simp [go_sem,hL3]
              refine drw2 [] [(0,[1,2,3,4,5,6,7,8,9,10,11,12,13,14,15,16,17,18,19,20,21,22,23,24,25,26,27,28,29,30,31,32,33])] 1 (k:=34) ?_
              intro G hG
              simp [go_sem]
              refine cl_eq alive21_fn (by simp) ?_
              simp [go_sem,eS,hcm,eO,hL3]
              refine hG _ _ ?_
              clear hG G
              simp [go_sem,resV]
              exact post_same (by simp [AV.deep,AV.deep1]) rfl
            · simp [go_sem]
              refine drw2 [] [(0,[1,2,3,4,5,6,7,8,9,10,11,12,13,14,15,16,17,18,19,20,21,22,23,24,25,26,27,28,29,30,31,32,33])] 1 (k:=34) ?_
              intro G hG
              simp [go_sem]
              refine cl_eq alive21_fn (by simp) ?_
              simp [go_sem,eS,hcm,eO,encL,clm,hne]
              refine hG _ _ ?_
              clear hG G
              simp [go_sem,resV]
              exact post_same (by simp [AV.deep,AV.deep1]) rfl
    · have i2:(600:Int)<(rec.length:Int):=by omega
      obtain ⟨k1,k2,k3⟩:=h1
      simp [go_sem,k1,k2,k3,i2,nb]
      refine cl_eq alive21_fn (by simp) ?_
      simp [go_sem,resV]
      exact post_same (by simp [AV.deep,AV.deep1]) rfl
  · simp [go_sem,h1]
    refine cl_eq alive21_fn (by simp) ?_
    simp [go_sem,resV]
    exact post_same (by simp [AV.deep,AV.deep1]) rfl
theorem arg_oneV {n:Nat} {t:TypeId} {a:AV} {k:TypeDesc} (hu:Tryz.prog.underlying t=some k) (hk:∀ fs,k ≠ .struct fs) (hk2:∀ m e,k ≠ .array m e) (h:ArgTy Tryz.prog n t a):∃ d,a=.d d∧TyD Tryz.prog n t [d]:=by
  unfold ArgTy at h
  rw [hu] at h
  cases k <;> first | exact h | exact absurd rfl (hk _) | exact absurd rfl (hk2 _ _)
theorem ty_leafD {n:Nat} {ds:List DV} (h:TyD Tryz.prog (n+4) 27 ds):∃ (inner:List Nat) (ps:List (List Nat)) (x:List Nat),ds=cd inner ++ [hs32 ps,nb x]∧inner.length=32∧bytes inner∧(∀ p,p ∈ ps→p.length=32∧bytes p)∧bytes x:=by
  rw [TyD] at h
  simp only [Tryz.underlying27,List.map_cons,List.map_nil] at h
  obtain ⟨a,b,rfl,ha,ha2,a',b',rfl,hb,hb2,a3,b3,rfl,hc,hc2,rfl⟩:=h
  obtain ⟨inner,rfl,h1,h2⟩:=ty_h32 ha2
  rw [show Tryz.prog.cellsOf 25=1 by kernel_rfl] at hb
  rw [show Tryz.prog.cellsOf 22=1 by kernel_rfl] at hc
  match a',hb,hb2,a3,hc,hc2 with
  | [y],_,hb2,[z],_,hc2 =>
    obtain ⟨ps,rfl,h3⟩:=ty_hs32 hb2
    obtain ⟨x,rfl,h4,h5⟩:=ty_bytes hc2
    exact ⟨inner,ps,x,by simp,h1,h2,h3,h5⟩
theorem ty_i64 {n:Nat} {ds:List DV} (h:TyD Tryz.prog (n+1) 2 ds):∃ x:Int,ds=[.int .i64 x]∧x<9223372036854775808:=by
  rw [TyD] at h
  simp only [Tryz.underlying2] at h
  obtain ⟨x,rfl,hx⟩:=h
  have hx':x<9223372036854775808:=by simp [IntKind.has,IntKind.min,IntKind.max,IntKind.signed,IntKind.bits] at hx;omega
  exact ⟨x,rfl,hx'⟩
theorem ty_two {n:Nat} {ds:List DV} (h:TyD Tryz.prog (n+2) 60 ds):∃ x y:Int,ds=[.int .i64 x,.int .i64 y]:=by
  rw [TyD] at h
  simp only [Tryz.underlying60,List.replicate] at h
  obtain ⟨a,b,rfl,_,h2,a',b',rfl,_,h3,rfl⟩:=h
  obtain ⟨x,rfl,_⟩:=ty_i64 h2
  obtain ⟨y,rfl,_⟩:=ty_i64 h3
  exact ⟨x,y,rfl⟩
theorem arg_step {n:Nat} {a:AV} (h:ArgTy Tryz.prog (n+5) 62 a):∃ (inner:List Nat) (ps:List (List Nat)) (x s:List Nat) (o0 o1 back:Int),a=.agg (stepC inner ps x s o0 o1 back)∧inner.length=32∧bytes inner∧(∀ p,p ∈ ps→p.length=32∧bytes p)∧bytes x∧bytes s∧back<9223372036854775808:=by
  unfold ArgTy at h
  simp only [Tryz.underlying62] at h
  obtain ⟨ds,rfl,h⟩:=h
  rw [TyD] at h
  simp only [Tryz.underlying62,List.map_cons,List.map_nil] at h
  obtain ⟨a,b,rfl,ha,ha2,a',b',rfl,hb,hb2,a3,b3,rfl,hc,hc2,a4,b4,rfl,hd,hd2,rfl⟩:=h
  obtain ⟨inner,ps,x,rfl,h1,h2,h3,h4⟩:=ty_leafD ha2
  rw [show Tryz.prog.cellsOf 22=1 by kernel_rfl] at hb
  obtain ⟨o0,o1,rfl⟩:=ty_two hc2
  obtain ⟨back,rfl,h6⟩:=ty_i64 hd2
  match a',hb,hb2 with
  | [y],_,hb2 =>
    obtain ⟨s,rfl,_,h5⟩:=ty_bytes hb2
    exact ⟨inner,ps,x,s,o0,o1,back,by simp [stepC,leafC,cd_map],h1,h2,h3,h4,h5,h6⟩
theorem whole_args (l:List AV) (h:ArgTys Tryz.prog 8 [59,62,22] l):Rets Tryz.prog 8 l (fun r=>r=.d (.bool true)):=by
  obtain ⟨a0,r0,rfl,h0,a1,r1,rfl,h1,a2,r2,rfl,h2,rfl⟩:=h
  obtain ⟨t,n,coins,rfl,q1,q2,q3⟩:=arg_sp h0
  obtain ⟨inner,ps,x,s,o0,o1,back,rfl,p1,p2,p3,p4,p5,p6⟩:=arg_step h1
  obtain ⟨d1,rfl,t1⟩:=arg_oneV Tryz.underlying22 (by simp) (by simp) h2
  obtain ⟨rec,rfl,_,q4⟩:=ty_bytes t1
  exact whole_law t n coins inner ps x s rec o0 o1 back q1 q4 q2 (fun o h=>⟨(q3 o h).2,(q3 o h).1⟩) p1 p2 p3 p6
end Go.Proofs.YtldccnbokbieiaaGreat
