/-
  Part 13 of what the claim rests on.
-/
import Derived.Test.YtldccnbokbieiaaGreatK7
import Derived.Test.YtldccnbokbieiaaGreatK10
import Derived.Test.YtldccnbokbieiaaGreatK11
set_option linter.unusedVariables false
set_option linter.unusedSimpArgs false
set_option maxRecDepth 100000
set_option maxHeartbeats 16000000
namespace Go.Proofs.YtldccnbokbieiaaGreat
open Go.Am Go.Sha
def onV (t:Tn) (out:Int) (a:List Nat) (e:Int):Bool :=
  decide (0≤out) && match t.outs[out.toNat]? with
    | some o=>decide (e=0) && decide (o.2=a)
    | none=>false
def coinAt (coins:List (Nat × List Nat)) (n:Int):Nat × List Nat:=(coins[n.toNat]?).getD (0,[])
def clm (o v:Int):List DV:=[.int .i64 o,.int .u64 v]
def trigV (t:Tn) (n:Int) (coins:List (Nat × List Nat)) (o0 o1 back:Int) (a:List Nat) (e:Int):AV :=
  if checkS t n coins ≠ 0 then .tup [.nil,.d (.int .i64 1)]
  else if onV t o0 a e=false ∨ back<0 ∨ ((coinAt coins n).1:Int)<back then .tup [.nil,.d (.int .i64 24)]
  else if o1=-1∧back=0 then .tup [.d (.ro 2 [clm o0 (((coinAt coins n).1:Int) - back)]),.d (.int .i64 0)]
  else if o1=o0 ∨ onV t o1 (coinAt coins n).2 0=false then .tup [.nil,.d (.int .i64 24)]
  else .tup [.d (.ro 2 [clm o0 (((coinAt coins n).1:Int) - back),clm o1 back]),.d (.int .i64 0)]
theorem leaf_len3 {inner:List Nat} (hi:inner.length=32) (a b:AV):(leafC inner a b).length=34:=by simp [leafC,cb_len,hi]
theorem leaf_take3 {inner:List Nat} (hi:inner.length=32) (a b:AV):List.take 34 (leafC inner a b)=leafC inner a b:=List.take_of_length_le (by rw [leaf_len3 hi];exact Nat.le_refl _)
theorem leaf_set3 {inner:List Nat} (hi:inner.length=32) (a b c:AV):(leafC inner a b).set 33 c=leafC inner a c:=by
  have hl:(cb inner).length=32:=by rw [cb_len,hi]
  unfold leafC
  rw [List.set_append_right _ _ (by omega),hl]
  rfl
theorem goesOn_fn (t:Tn) (n:Int) (coins:List (Nat × List Nat)) (inner:List Nat) (ps:List (List Nat)) (x s a:List Nat) (out e:Int) (hi:inner.length=32) (ha:bytes a) (hob:∀ o,o ∈ t.outs→bytes o.2)
    (g:Rets Tryz.prog 18 [leafV inner ps s] (fun r=>r=.tup [.d (nb a),.d (.int .i64 e)])) :
    Rets Tryz.prog 73 [.agg (eS t n coins),leafV inner ps x,.d (nb s),.d (.int .i64 out)] (fun r=>r=.d (.bool (onV t out a e))):=by
  refine fna Tryz.func73 Tryz.ntmps73 (rs:=[.tmp 8]) (by
    intro v hv
    simp at hv
    rcases hv with rfl | rfl | rfl | rfl
    · simp [AV.deep,AV.deep1,eS]
    · exact leafC_deep _ _ _
    · trivial
    · trivial) ?_
  have hes:(eS t n coins).length=6:=rfl
  have het:List.take 6 (eS t n coins)=eS t n coins:=rfl
  simp [go_sem,leafV,leaf_len3 hi,leaf_take3 hi,hes,het]
  by_cases h2:out<0 ∨ (t.outs.length:Int)≤out
  · have hV:onV t out a e=false:=by
      unfold onV
      rcases h2 with h2 | h2
      · simp;omega
      · rw [List.getElem?_eq_none (by omega)];simp
    refine cl_eq (pays_no t n coins out h2) (by simp [AV.deep,AV.deep1,eS]) ?_
    rw [hV]
    simp [go_sem,resV]
    exact post_same (by simp [AV.deep,AV.deep1]) rfl
  · obtain ⟨k,rfl⟩:∃ k:Nat,out=(k:Int):=⟨out.toNat,by omega⟩
    have hk:k<t.outs.length:=by omega
    obtain ⟨o,ho⟩:∃ o,t.outs[k]?=some o:=⟨_,List.getElem?_eq_getElem hk⟩
    have hV:onV t k a e=(decide (e=0) && decide (o.2=a)):=by
      unfold onV
      simp [ho]
    rw [hV]
    refine cl_eq (pays_yes t n coins k o ho) (by simp [AV.deep,AV.deep1,eS]) ?_
    simp [go_sem,leaf_len3 hi,leaf_take3 hi,leaf_set3 hi,nb]
    refine cl_eq g (leafV_deep _ _ _) ?_
    simp [go_sem]
    by_cases he:e=0
    · subst he
      simp [go_sem]
      refine cl_eq (equal_fn o.2 a (hob o (List.mem_of_getElem? ho)) ha) (by simp [AV.deep,AV.deep1]) ?_
      simp [go_sem,resV]
      exact post_same (by simp [AV.deep,AV.deep1]) rfl
    · simp [go_sem,he,resV]
      exact post_same (by simp [AV.deep,AV.deep1]) rfl
theorem goesBack_fn (t:Tn) (m:Nat) (coins:List (Nat × List Nat)) (out:Int) (hm:m<coins.length) (hob:∀ o,o ∈ t.outs→bytes o.2) (hcb:∀ o,o ∈ coins→bytes o.2) :
    Rets Tryz.prog 74 [.agg (eS t m coins),.d (.int .i64 out)] (fun r=>r=.d (.bool (onV t out (coinAt coins m).2 0))):=by
  refine fna Tryz.func74 Tryz.ntmps74 (rs:=[.tmp 4]) (by simp [AV.deep,AV.deep1,eS]) ?_
  obtain ⟨c,hcm⟩:∃ o,coins[m]?=some o:=⟨_,List.getElem?_eq_getElem hm⟩
  have hca:coinAt coins m=c:=by simp [coinAt,hcm]
  simp [go_sem,eS]
  by_cases h2:out<0 ∨ (t.outs.length:Int)≤out
  · have hV:onV t out (coinAt coins m).2 0=false:=by
      unfold onV
      rcases h2 with h2 | h2
      · simp;omega
      · rw [List.getElem?_eq_none (by omega)];simp
    refine cl_eq (pays_no t m coins out h2) (by simp [AV.deep,AV.deep1,eS]) ?_
    rw [hV]
    simp [go_sem,resV]
    exact post_same (by simp [AV.deep,AV.deep1]) rfl
  · obtain ⟨k,rfl⟩:∃ k:Nat,out=(k:Int):=⟨out.toNat,by omega⟩
    have hk:k<t.outs.length:=by omega
    obtain ⟨o,ho⟩:∃ o,t.outs[k]?=some o:=⟨_,List.getElem?_eq_getElem hk⟩
    have hV:onV t k (coinAt coins m).2 0=decide (o.2=c.2):=by
      unfold onV
      simp [ho,hca]
    rw [hV]
    refine cl_eq (pays_yes t m coins k o ho) (by simp [AV.deep,AV.deep1,eS]) ?_
    simp [go_sem,hcm,eO]
    refine cl_eq (equal_fn o.2 c.2 (hob o (List.mem_of_getElem? ho)) (hcb c (List.mem_of_getElem? hcm))) (by simp [AV.deep,AV.deep1]) ?_
    simp [go_sem,resV]
    exact post_same (by simp [AV.deep,AV.deep1]) rfl
theorem post_cl {Q:AV→Prop} {st:St} {id n:Nat} {ty:TypeId} {e:Int} (rows:List (List DV)) (hn:rows.length=n) (hb:lk id st.hp=some ⟨ty,2,rows.map (fun r=>r.map AV.d)⟩) (hr:∀ r,r ∈ rows→r.length=2) (hq:Q (.tup [.d (.ro 2 rows),.d (.int .i64 e)])):PostK Q (.tup [.own id 0 n n,.d (.int .i64 e)]) st:=by
  subst hn
  refine post_tup (cs':=[.d (.ro 2 rows),.d (.int .i64 e)]) (fun i c c' h1 h2=>?_) rfl (by simp [AV.deep,AV.deep1]) hq
  match i,h1,h2 with
  | 0,h1,h2=>simp at h1 h2;subst h1 h2;exact snap1_d (own_of hb trivial (by simp) (by rw [List.drop_zero,List.take_of_length_le (by simp)];exact rows_map _) rfl hr)
  | 1,h1,h2=>simp at h1 h2;subst h1 h2;exact snap1_same trivial
  | k+2,h1,_=>simp at h1
theorem trig_deep (t:Tn) (n:Int) (coins:List (Nat × List Nat)) (inner:List Nat) (ps:List (List Nat)) (x s:List Nat) (o0 o1 back:Int):∀ v,v ∈ [AV.agg (eS t n coins),leafV inner ps x,.d (nb s),.agg [.d (.int .i64 o0),.d (.int .i64 o1)],.d (.int .i64 back)]→v.deep:=by
  intro v hv
  simp at hv
  rcases hv with rfl | rfl | rfl | rfl | rfl
  · simp [AV.deep,AV.deep1,eS]
  · exact leafC_deep _ _ _
  · trivial
  · simp [AV.deep,AV.deep1]
  · trivial
theorem on_deep (t:Tn) (n:Int) (coins:List (Nat × List Nat)) (inner:List Nat) (ps:List (List Nat)) (x s:List Nat) (o:Int):∀ v,v ∈ [AV.agg (eS t n coins),leafV inner ps x,.d (nb s),.d (.int .i64 o)]→v.deep:=by
  intro v hv
  simp at hv
  rcases hv with rfl | rfl | rfl | rfl
  · simp [AV.deep,AV.deep1,eS]
  · exact leafC_deep _ _ _
  · trivial
  · trivial
theorem trigger_fn (t:Tn) (n:Int) (coins:List (Nat × List Nat)) (inner:List Nat) (ps:List (List Nat)) (x s a:List Nat) (o0 o1 back e:Int) (ht:Sm t) (hc:coins.length≤1000) (hi:inner.length=32) (ha:bytes a) (hob:∀ o,o ∈ t.outs→bytes o.2) (hcb:∀ o,o ∈ coins→bytes o.2∧o.1<18446744073709551616)
    (hbk:back<9223372036854775808) (g:Rets Tryz.prog 18 [leafV inner ps s] (fun r=>r=.tup [.d (nb a),.d (.int .i64 e)])) :
    Rets Tryz.prog 37 [.agg (eS t n coins),leafV inner ps x,.d (nb s),.agg [.d (.int .i64 o0),.d (.int .i64 o1)],.d (.int .i64 back)] (fun r=>r=trigV t n coins o0 o1 back a e):=by
  refine fna Tryz.func37 Tryz.ntmps37 (rs:=[.tmp 10,.tmp 11]) (trig_deep _ _ _ _ _ _ _ _ _ _) ?_
  have hes:(eS t n coins).length=6:=rfl
  have het:List.take 6 (eS t n coins)=eS t n coins:=rfl
  simp [go_sem,leafV,leaf_len3 hi,leaf_take3 hi,hes,het]
  refine cl_eq (checkS_fn t n coins ht hc) (by simp [AV.deep,AV.deep1,eS]) ?_
  rcases checkS_cases t n coins with h1 | ⟨h1,hn1,hn2⟩
  · have hV:trigV t n coins o0 o1 back a e=.tup [.nil,.d (.int .i64 1)]:=by simp [trigV,h1]
    rw [h1,hV]
    simp [go_sem,resV]
    exact post_same (by simp [AV.deep,AV.deep1]) rfl
  · rw [h1]
    obtain ⟨m,rfl⟩:∃ k:Nat,n=(k:Int):=⟨n.toNat,by omega⟩
    obtain ⟨c,hcm⟩:∃ o,coins[m]?=some o:=⟨_,List.getElem?_eq_getElem (by omega:m<coins.length)⟩
    have hca:coinAt coins m=c:=by simp [coinAt,hcm]
    have hcl:=(hcb c (List.mem_of_getElem? hcm)).2
    simp [go_sem,eS,hcm,eO,leaf_len3 hi,leaf_take3 hi]
    refine cl_eq (goesOn_fn t m coins inner ps x s a o0 e hi ha hob g) (on_deep _ _ _ _ _ _ _ _) ?_
    unfold trigV
    rw [h1,hca]
    cases hon:onV t o0 a e
    · simp [go_sem,resV]
      exact post_same (by simp [AV.deep,AV.deep1]) rfl
    by_cases b1:back<0
    · simp [go_sem,b1,resV]
      exact post_same (by simp [AV.deep,AV.deep1]) rfl
    have wb:IntKind.u64.wrap back=back:=by rw [IntWalk.u64_in _ (by omega)]
    by_cases b2:(c.1:Int)<back
    · simp [go_sem,b1,wb,b2,resV]
      exact post_same (by simp [AV.deep,AV.deep1]) rfl
    have ws:IntKind.u64.wrap ((c.1:Int) - back)=(c.1:Int) - back:=by rw [IntWalk.u64_in _ (by omega)]
    by_cases q1:o1=-1∧back=0
    · obtain ⟨rfl,rfl⟩:=q1
      have wc:IntKind.u64.wrap (c.1:Int)=(c.1:Int):=by rw [IntWalk.u64_in _ (by omega)]
      simp [go_sem,b1,wb,b2,ws,wc,resV]
      exact post_cl [clm o0 (c.1:Int)] rfl rfl (by simp [clm]) rfl
    · have gb:=goesBack_fn t m coins o1 (by omega) hob (fun o h=>(hcb o h).1)
      rw [hca] at gb
      by_cases p1:o1=-1
      · have p2:¬ back=0:=fun h=>q1 ⟨p1,h⟩
        subst p1
        by_cases q2:(-1)=o0
        · subst q2
          simp [go_sem,b1,wb,b2,ws,p2,resV]
          exact post_same (by simp [AV.deep,AV.deep1]) rfl
        · simp [go_sem,b1,wb,b2,ws,p2,q2]
          refine cl_eq gb (by simp [AV.deep,AV.deep1,eS]) ?_
          cases hob1:onV t (-1) c.2 0
          · simp [go_sem,b1,wb,b2,ws,p2,q2,resV]
            exact post_same (by simp [AV.deep,AV.deep1]) rfl
          · simp [go_sem,b1,wb,b2,ws,p2,q2,resV]
            exact post_cl [clm o0 ((c.1:Int) - back),clm (-1) back] rfl rfl (by simp [clm]) rfl
      · skip
        by_cases q2:o1=o0
        · subst q2
          simp [go_sem,b1,wb,b2,ws,p1,resV]
          exact post_same (by simp [AV.deep,AV.deep1]) rfl
        · simp [go_sem,b1,wb,b2,ws,p1,q2]
          refine cl_eq gb (by simp [AV.deep,AV.deep1,eS]) ?_
          cases hob1:onV t o1 c.2 0
          · simp [go_sem,b1,wb,b2,ws,p1,q2,resV]
            exact post_same (by simp [AV.deep,AV.deep1]) rfl
          · simp [go_sem,b1,wb,b2,ws,p1,q2,resV]
            exact post_cl [clm o0 ((c.1:Int) - back),clm o1 back] rfl rfl (by simp [clm]) rfl
def stepC (inner:List Nat) (ps:List (List Nat)) (x s:List Nat) (o0 o1 back:Int):List AV :=
  leafC inner (.d (hs32 ps)) (.d (nb x)) ++ [.d (nb s),.d (.int .i64 o0),.d (.int .i64 o1),.d (.int .i64 back)]
theorem step_len {inner:List Nat} (hi:inner.length=32) (ps:List (List Nat)) (x s:List Nat) (o0 o1 back:Int):(stepC inner ps x s o0 o1 back).length=38:=by
  unfold stepC;rw [List.length_append,leaf_len3 hi];rfl
theorem step_take {inner:List Nat} (hi:inner.length=32) (ps:List (List Nat)) (x s:List Nat) (o0 o1 back:Int):List.take 38 (stepC inner ps x s o0 o1 back)=stepC inner ps x s o0 o1 back :=
  List.take_of_length_le (by rw [step_len hi];exact Nat.le_refl _)
theorem step_take34 {inner:List Nat} (hi:inner.length=32) (ps:List (List Nat)) (x s:List Nat) (o0 o1 back:Int):List.take 34 (stepC inner ps x s o0 o1 back)=leafC inner (.d (hs32 ps)) (.d (nb x)):=by
  unfold stepC;rw [List.take_append_of_le_length (by rw [leaf_len3 hi];exact Nat.le_refl _),leaf_take3 hi]
theorem step_drop {inner:List Nat} (hi:inner.length=32) (ps:List (List Nat)) (x s:List Nat) (o0 o1 back:Int) (k:Nat) (hk:32≤k):List.drop k (stepC inner ps x s o0 o1 back)=List.drop (k - 32) [.d (hs32 ps),.d (nb x),.d (nb s),.d (.int .i64 o0),.d (.int .i64 o1),.d (.int .i64 back)]:=by
  unfold stepC leafC
  rw [List.append_assoc,List.drop_append,cb_len,hi,List.drop_eq_nil_of_le (by rw [cb_len,hi];exact hk),List.nil_append]
  rfl
theorem step_at {inner:List Nat} (hi:inner.length=32) (ps:List (List Nat)) (x s:List Nat) (o0 o1 back:Int) (k:Nat) (hk:32≤k):(stepC inner ps x s o0 o1 back)[k]?=[AV.d (hs32 ps),.d (nb x),.d (nb s),.d (.int .i64 o0),.d (.int .i64 o1),.d (.int .i64 back)][k - 32]?:=by
  rw [← List.head?_drop,step_drop hi ps x s o0 o1 back k hk,List.head?_drop]
theorem step_deep {inner:List Nat} (ps:List (List Nat)) (x s:List Nat) (o0 o1 back:Int):(AV.agg (stepC inner ps x s o0 o1 back)).deep:=by
  intro c hc
  rcases List.mem_append.1 hc with h | h
  · exact leafC_deep _ _ _ _ h
  · simp at h;rcases h with rfl | rfl | rfl | rfl <;> trivial
theorem small21_fn (inner:List Nat) (ps:List (List Nat)) (x s:List Nat) (o0 o1 back:Int) (hi:inner.length=32) :
    Rets Tryz.prog 35 [.agg (stepC inner ps x s o0 o1 back)] (fun r=>r=.d (.bool (decide (ps.length≤12∧x.length≤600∧s.length≤1100)))):=by
  refine fna Tryz.func35 Tryz.ntmps35 (rs:=[.tmp 2]) (by
    intro v hv;simp at hv;subst hv;exact step_deep _ _ _ _ _ _) ?_
  have d32:=step_drop hi ps x s o0 o1 back 32 (by omega)
  have d33:=step_drop hi ps x s o0 o1 back 33 (by omega)
  have d34:=step_drop hi ps x s o0 o1 back 34 (by omega)
  have s34:=step_at hi ps x s o0 o1 back 34 (by omega)
  simp at d32 d33 d34 s34
  by_cases h1:ps.length≤12
  · have i1:(ps.length:Int)≤12:=by omega
    by_cases h2:x.length≤600
    · have i2:(x.length:Int)≤600:=by omega
      by_cases h3:s.length≤1100
      · have i3:(s.length:Int)≤1100:=by omega
        simp [go_sem,step_len hi,step_take hi,d32,d33,d34,s34,hs32,nb,i1,i2,i3,h1,h2,h3,resV]
        exact post_same (by simp [AV.deep,AV.deep1]) rfl
      · have i3:¬ (s.length:Int)≤1100:=by omega
        simp [go_sem,step_len hi,step_take hi,d32,d33,d34,s34,hs32,nb,i1,i2,i3,h1,h2,h3,resV]
        exact post_same (by simp [AV.deep,AV.deep1]) rfl
    · have i2:¬ (x.length:Int)≤600:=by omega
      simp [go_sem,step_len hi,step_take hi,d32,d33,d34,s34,hs32,nb,i1,i2,h1,h2,resV]
      exact post_same (by simp [AV.deep,AV.deep1]) rfl
  · have i1:¬ (ps.length:Int)≤12:=by omega
    simp [go_sem,step_len hi,step_take hi,d32,d33,d34,s34,hs32,nb,i1,h1,resV]
    exact post_same (by simp [AV.deep,AV.deep1]) rfl
def claimsOk (t:Tn) (v:Int) (L:List (Int × Int)):Prop:=(∀ c,c ∈ L→0≤c.1∧c.1<(t.outs.length:Int)∧0≤c.2∧c.2≤v)∧(L.map (·.2)).sum=v∧(L.length=1 ∨ ∃ a b,L=[a,b]∧a.1 ≠ b.1)
def encL (c:Int × Int):List DV:=clm c.1 c.2
theorem onV_in {t:Tn} {o:Int} {a:List Nat} {e:Int} (h:onV t o a e=true):0≤o∧o<(t.outs.length:Int):=by
  unfold onV at h
  simp only [Bool.and_eq_true,decide_eq_true_eq] at h
  obtain ⟨h1,h2⟩:=h
  refine ⟨h1,?_⟩
  by_cases h3:o<(t.outs.length:Int)
  · exact h3
  · rw [List.getElem?_eq_none (by omega)] at h2;simp at h2
theorem trig_cases (t:Tn) (n:Int) (coins:List (Nat × List Nat)) (o0 o1 back:Int) (a:List Nat) (e:Int) :
    trigV t n coins o0 o1 back a e=.tup [.nil,.d (.int .i64 1)] ∨ trigV t n coins o0 o1 back a e=.tup [.nil,.d (.int .i64 24)] ∨
      ∃ L,trigV t n coins o0 o1 back a e=.tup [.d (.ro 2 (L.map encL)),.d (.int .i64 0)]∧checkS t n coins=0∧claimsOk t ((coinAt coins n).1:Int) L:=by
  unfold trigV
  split
  · exact .inl rfl
  · rename_i h0
    split
    · exact .inr (.inl rfl)
    · rename_i h1
      have h1':onV t o0 a e=true∧0≤back∧back≤((coinAt coins n).1:Int):=by
        refine ⟨?_,by omega,by omega⟩
        cases h:onV t o0 a e
        · exact (h1 (.inl h)).elim
        · rfl
      obtain ⟨h2,h3,h4⟩:=h1'
      have h5:=onV_in h2
      have h0':checkS t n coins=0:=by simpa using h0
      split
      · rename_i h6
        refine .inr (.inr ⟨[(o0,((coinAt coins n).1:Int) - back)],rfl,h0',?_,?_,.inl rfl⟩)
        · intro c hc
          simp at hc
          subst hc
          exact ⟨h5.1,h5.2,by show 0≤((coinAt coins n).1:Int) - back;omega,by show ((coinAt coins n).1:Int) - back≤_;omega⟩
        · simp;omega
      · split
        · exact .inr (.inl rfl)
        · rename_i h7
          have h8:o1 ≠ o0:=fun h=>h7 (.inl h)
          have h9:onV t o1 (coinAt coins n).2 0=true:=by
            cases h:onV t o1 (coinAt coins n).2 0
            · exact (h7 (.inr h)).elim
            · rfl
          have h10:=onV_in h9
          refine .inr (.inr ⟨[(o0,((coinAt coins n).1:Int) - back),(o1,back)],rfl,h0',?_,?_,.inr ⟨_,_,rfl,fun h=>h8 h.symm⟩⟩)
          · intro c hc
            simp at hc
            rcases hc with rfl | rfl
            · exact ⟨h5.1,h5.2,by show 0≤((coinAt coins n).1:Int) - back;omega,by show ((coinAt coins n).1:Int) - back≤_;omega⟩
            · exact ⟨h10.1,h10.2,h3,h4⟩
          · simp
theorem there_onV {t:Tn} {o:Int} {a:List Nat} {e:Int} (h:¬ (0≤o∧o<(t.outs.length:Int))):onV t o a e=false:=by
  unfold onV
  by_cases h1:0≤o
  · rw [List.getElem?_eq_none (by omega)];simp
  · simp [h1]
theorem triggerR_fn (t:Tn) (n:Int) (coins:List (Nat × List Nat)) (inner:List Nat) (ps:List (List Nat)) (x s a:List Nat) (o0 o1 back e:Int) (ht:Sm t) (hc:coins.length≤1000) (hi:inner.length=32) (ha:bytes a) (hob:∀ o,o ∈ t.outs→bytes o.2) (hcb:∀ o,o ∈ coins→bytes o.2∧o.1<18446744073709551616)
    (hbk:back<9223372036854775808) (g:Rets Tryz.prog 19 [leafV inner ps s] (fun r=>r=.tup [.d (nb a),.d (.int .i64 e)])) :
    Rets Tryz.prog 38 [.agg (eS t n coins),leafV inner ps x,.d (nb s),.agg [.d (.int .i64 o0),.d (.int .i64 o1)],.d (.int .i64 back)] (fun r=>r=trigV t n coins o0 o1 back a e):=by
  refine fna Tryz.func38 Tryz.ntmps38 (rs:=[.tmp 10,.tmp 11]) (trig_deep _ _ _ _ _ _ _ _ _ _) ?_
  have hes:(eS t n coins).length=6:=rfl
  have het:List.take 6 (eS t n coins)=eS t n coins:=rfl
  simp [go_sem,leafV,leaf_len3 hi,leaf_take3 hi,hes,het]
  refine cl_eq (checkSR_fn t n coins ht hc) (by simp [AV.deep,AV.deep1,eS]) ?_
  rcases checkS_cases t n coins with h1 | ⟨h1,hn1,hn2⟩
  · have hV:trigV t n coins o0 o1 back a e=.tup [.nil,.d (.int .i64 1)]:=by simp [trigV,h1]
    rw [h1,hV]
    simp [go_sem,resV]
    exact post_same (by simp [AV.deep,AV.deep1]) rfl
  · rw [h1]
    obtain ⟨m,rfl⟩:∃ k:Nat,n=(k:Int):=⟨n.toNat,by omega⟩
    obtain ⟨c,hcm⟩:∃ o,coins[m]?=some o:=⟨_,List.getElem?_eq_getElem (by omega:m<coins.length)⟩
    have hca:coinAt coins m=c:=by simp [coinAt,hcm]
    have hcl:=(hcb c (List.mem_of_getElem? hcm)).2
    have hcc:=(hcb c (List.mem_of_getElem? hcm)).1
    simp [go_sem,leaf_len3 hi,leaf_take3 hi,leaf_set3 hi]
    refine cl_eq g (leafV_deep _ _ _) ?_
    simp [go_sem,eS,hcm,eO,leaf_len3 hi,leaf_take3 hi]
    by_cases hon:onV t o0 a e=true
    · have hin:=onV_in hon
      obtain ⟨k,rfl⟩:∃ k:Nat,o0=(k:Int):=⟨o0.toNat,by omega⟩
      have hk:k<t.outs.length:=by omega
      obtain ⟨o,ho⟩:∃ o,t.outs[k]?=some o:=⟨_,List.getElem?_eq_getElem hk⟩
      have hea:e=0∧o.2=a:=by
        unfold onV at hon
        simpa [ho] using hon
      obtain ⟨rfl,rfl⟩:=hea
      have hbo:=hob o (List.mem_of_getElem? ho)
      generalize hV:trigV t m coins k o1 back o.2 0=V
      unfold trigV at hV
      rw [h1,hca,hon] at hV
      have h3:0≤(k:Int)∧(k:Int)<(t.outs.length:Int):=by omega
      refine drw2 [0,1,2,3,4,5] [(6,[7,8,9,10,11,12,13,14,15,16,17,18,19,20,21,22])] 1 (k:=23) ?_
      intro G hG
      simp [go_sem]
      refine cl_eq (there_fn t m coins k) (by simp [AV.deep,AV.deep1,eS]) ?_
      rw [decide_eq_true h3]
      simp [go_sem,ho,eO,nb]
      refine cvS_nb o.2 5 hbo (by simp [go_sem]) (by simp [go_sem]) Tryz.underlying5 ?_
      simp [go_sem,nb]
      refine cvS_nb o.2 5 hbo (by simp [go_sem]) (by simp [go_sem]) Tryz.underlying5 ?_
      simp [go_sem]
      refine hG _ _ ?_
      clear hG G
      by_cases b1:back<0
      · simp [b1] at hV
        subst hV
        simp [go_sem,b1,resV]
        exact post_same (by simp [AV.deep,AV.deep1]) rfl
      have wb:IntKind.u64.wrap back=back:=by rw [IntWalk.u64_in _ (by omega)]
      by_cases b2:(c.1:Int)<back
      · simp [b1,b2] at hV
        subst hV
        simp [go_sem,b1,wb,b2,resV]
        exact post_same (by simp [AV.deep,AV.deep1]) rfl
      have ws:IntKind.u64.wrap ((c.1:Int) - back)=(c.1:Int) - back:=by rw [IntWalk.u64_in _ (by omega)]
      by_cases q1:o1=-1∧back=0
      · obtain ⟨rfl,rfl⟩:=q1
        have wc:IntKind.u64.wrap (c.1:Int)=(c.1:Int):=by rw [IntWalk.u64_in _ (by omega)]
        have b2':¬ (c.1:Int)<0:=by omega
        simp [b2'] at hV
        subst hV
        simp [go_sem,b1,wb,b2,ws,wc,resV]
        exact post_cl [clm k (c.1:Int)] rfl rfl (by simp [clm]) rfl
      · rw [if_neg (by decide),if_neg (by simp [b1,b2]),if_neg q1] at hV
        by_cases r1:0≤o1∧o1<(t.outs.length:Int)
        · have p1:¬ o1=-1:=by omega
          obtain ⟨k1,rfl⟩:∃ k:Nat,o1=(k:Int):=⟨o1.toNat,by omega⟩
          have hk1:k1<t.outs.length:=by omega
          obtain ⟨o',ho'⟩:∃ o,t.outs[k1]?=some o:=⟨_,List.getElem?_eq_getElem hk1⟩
          have hbo':=hob o' (List.mem_of_getElem? ho')
          have hv:onV t k1 c.2 0=decide (o'.2=c.2):=by simp [onV,ho']
          rw [hv] at hV
          simp [go_sem,b1,wb,b2,ws,p1]
          by_cases r2:k1=k
          · subst r2
            rw [if_pos (.inl rfl)] at hV
            subst hV
            refine drw2 [0,1,2] [(3,[4,5,6,7,8,9,10,11,12,13,14,15,16,17,18,19,20,21,22,23,24,25,26])] 1 (k:=27) ?_
            intro G hG
            simp [go_sem]
            refine cl_eq (there_fn t m coins k1) (by simp [AV.deep,AV.deep1,eS]) ?_
            rw [decide_eq_true r1]
            simp [go_sem]
            refine hG _ _ ?_
            clear hG G
            simp [go_sem,resV]
            exact post_same (by simp [AV.deep,AV.deep1]) rfl
          · have r2':¬ (k1:Int)=(k:Int):=by omega
            refine drw2 [0,1,2] [(3,[4,5,6,7,8,9,10,11,12,13,14,15,16,17,18,19,20,21,22,23,24,25,26])] 1 (k:=27) ?_
            intro G hG
            simp [go_sem]
            refine cl_eq (there_fn t m coins k1) (by simp [AV.deep,AV.deep1,eS]) ?_
            rw [decide_eq_true r1]
            simp [go_sem,r2,r2',ho',eO,nb]
            refine cvS_nb o'.2 5 hbo' (by simp [go_sem]) (by simp [go_sem]) Tryz.underlying5 ?_
            simp [go_sem,nb]
            refine cvS_nb c.2 5 hcc (by simp [go_sem]) (by simp [go_sem]) Tryz.underlying5 ?_
            simp [go_sem,sb_inj,r2']
            refine hG _ _ ?_
            clear hG G
            by_cases r3:o'.2=c.2
            · simp [r2',r3] at hV
              subst hV
              simp [go_sem,r3,wb,resV]
              exact post_cl [clm k ((c.1:Int) - back),clm k1 back] rfl rfl (by simp [clm]) rfl
            · simp [r3] at hV
              subst hV
              simp [go_sem,r3,resV]
              exact post_same (by simp [AV.deep,AV.deep1]) rfl
        · rw [there_onV r1,if_pos (.inr rfl)] at hV
          subst hV
          by_cases p1:o1=-1
          · have p2:¬ back=0:=fun h=>q1 ⟨p1,h⟩
            subst p1
            simp [go_sem,b1,wb,b2,ws,p2]
            refine drw2 [0,1,2] [(3,[4,5,6,7,8,9,10,11,12,13,14,15,16,17,18,19,20,21,22,23,24,25,26])] 1 (k:=27) ?_
            intro G hG
            simp [go_sem]
            refine cl_eq (there_fn t m coins (-1)) (by simp [AV.deep,AV.deep1,eS]) ?_
            rw [decide_eq_false r1]
            simp [go_sem]
            refine hG _ _ ?_
            clear hG G
            simp [go_sem,resV]
            exact post_same (by simp [AV.deep,AV.deep1]) rfl
          · simp [go_sem,b1,wb,b2,ws,p1]
            refine drw2 [0,1,2] [(3,[4,5,6,7,8,9,10,11,12,13,14,15,16,17,18,19,20,21,22,23,24,25,26])] 1 (k:=27) ?_
            intro G hG
            simp [go_sem]
            refine cl_eq (there_fn t m coins o1) (by simp [AV.deep,AV.deep1,eS]) ?_
            rw [decide_eq_false r1]
            simp [go_sem]
            refine hG _ _ ?_
            clear hG G
            simp [go_sem,resV]
            exact post_same (by simp [AV.deep,AV.deep1]) rfl
    · have hV:trigV t m coins o0 o1 back a e=.tup [.nil,.d (.int .i64 24)]:=by
        unfold trigV
        rw [if_neg (by simp [h1]),if_pos (.inl (by simpa using hon))]
      rw [hV]
      by_cases he:e=0
      · subst he
        by_cases h3:0≤o0∧o0<(t.outs.length:Int)
        · obtain ⟨k,rfl⟩:∃ k:Nat,o0=(k:Int):=⟨o0.toNat,by omega⟩
          have hk:k<t.outs.length:=by omega
          obtain ⟨o,ho⟩:∃ o,t.outs[k]?=some o:=⟨_,List.getElem?_eq_getElem hk⟩
          have hne:¬ o.2=a:=by
            intro h
            exact hon (by simp [onV,ho,h])
          have hbo:=hob o (List.mem_of_getElem? ho)
          refine drw2 [0,1,2,3,4,5] [(6,[7,8,9,10,11,12,13,14,15,16,17,18,19,20,21,22])] 1 (k:=23) ?_
          intro G hG
          simp [go_sem]
          refine cl_eq (there_fn t m coins k) (by simp [AV.deep,AV.deep1,eS]) ?_
          rw [decide_eq_true h3]
          simp [go_sem,ho,eO,nb]
          refine cvS_nb o.2 5 hbo (by simp [go_sem]) (by simp [go_sem]) Tryz.underlying5 ?_
          simp [go_sem,nb]
          refine cvS_nb a 5 ha (by simp [go_sem]) (by simp [go_sem]) Tryz.underlying5 ?_
          simp [go_sem,sb_inj,hne]
          refine hG _ _ ?_
          clear hG G
          simp [go_sem,resV]
          exact post_same (by simp [AV.deep,AV.deep1]) rfl
        · skip
          refine drw2 [0,1,2,3,4,5] [(6,[7,8,9,10,11,12,13,14,15,16,17,18,19,20,21,22])] 1 (k:=23) ?_
          intro G hG
          simp [go_sem]
          refine cl_eq (there_fn t m coins o0) (by simp [AV.deep,AV.deep1,eS]) ?_
          rw [decide_eq_false h3]
          simp [go_sem]
          refine hG _ _ ?_
          clear hG G
          simp [go_sem,resV]
          exact post_same (by simp [AV.deep,AV.deep1]) rfl
      · skip
        refine drw2 [0,1,2,3,4,5] [(6,[7,8,9,10,11,12,13,14,15,16,17,18,19,20,21,22])] 1 (k:=23) ?_
        intro G hG
        simp [go_sem,he]
        refine hG _ _ ?_
        clear hG G
        simp [go_sem,resV]
        exact post_same (by simp [AV.deep,AV.deep1]) rfl
theorem ks72:kindsOf Tryz.prog 8 72=some [some .i64,some .u64]:=by kernel_rfl
theorem eg72:Tryz.prog.eqGuardType Tryz.prog.depth 72=false:=by kernel_rfl
theorem sameC_fn (L:List (Int × Int)) (hL:L.length≤1000) :
    Rets Tryz.prog 39 [.d (.ro 2 (L.map encL)),.d (.ro 2 (L.map encL))] (fun r=>r=.d (.bool true)):=by
  refine fna Tryz.func39 Tryz.ntmps39 (rs:=[.tmp 4]) (by simp [AV.deep,AV.deep1]) ?_
  simp [go_sem]
  refine loop_of (fun k:Nat=>⟨[(0,.d (.ro 2 (L.map encL))),(1,.d (.ro 2 (L.map encL))),(5,.d (.int .i64 (k:Int)))],[],2000⟩)
    (fun k=>k≤L.length) (fun k=>L.length - k) 0 (by omega) (by simp [Weak,slotOk,fv,lk,AV.low,AV.low1]) ?_
  intro k hk
  simp only [go_sem,Nat.reduceEqDiff,Nat.reduceAdd,Nat.reduceLT,↓reduceIte,Nat.reduceMul]
  refine ⟨fun h=>?_,fun h=>?_⟩
  · obtain ⟨c,hc⟩:∃ c,L[k]?=some c:=⟨_,List.getElem?_eq_getElem (by omega)⟩
    have w3:=next_i64 (k:=k) (by omega)
    refine drw2 [0,1,2,3,4,5,6,7,8] [] 0 (k:=9) ?_
    intro G hG
    simp [go_sem,hc,encL,clm,ks72,eg72,L1.k]
    refine hG _ _ ?_
    clear hG G
    simp [go_sem,w3]
    refine next_of (k+1) (by omega) (by omega) ?_
    simp [Weak,slotOk,fv,lk,AV.low,AV.low1]
  · simp [go_sem]
    exact post_same (by simp [AV.deep,AV.deep1]) rfl
theorem ty_leafD {n:Nat} {ds:List DV} (h:TyD Tryz.prog (n+4) 27 ds):∃ (inner:List Nat) (ps:List (List Nat)) (x:List Nat),ds=cd inner ++ [hs32 ps,nb x]∧inner.length=32∧bytes inner∧(∀ p,p ∈ ps→p.length=32∧bytes p)∧bytes x:=by
  rw [TyD] at h
  simp only [Tryz.underlying27,List.map_cons,List.map_nil] at h
  obtain ⟨a,b,rfl,ha,ha2,a',b',rfl,hb,hb2,a3,b3,rfl,hc,hc2,rfl⟩:=h
  obtain ⟨inner,rfl,h1,h2⟩:=ty_h32 ha2
  rw [show Tryz.prog.cellsOf 25=1 by kernel_rfl] at hb
  rw [show Tryz.prog.cellsOf 22=1 by kernel_rfl] at hc
  match a',hb,hb2,a3,hc,hc2 with
  | [y],_,hb2,[z],_,hc2 =>
    obtain ⟨ps,rfl,h3⟩:=ty_hs32 hb2
    obtain ⟨x,rfl,h4,h5⟩:=ty_bytes hc2
    exact ⟨inner,ps,x,by simp,h1,h2,h3,h5⟩
theorem ty_i64 {n:Nat} {ds:List DV} (h:TyD Tryz.prog (n+1) 2 ds):∃ x:Int,ds=[.int .i64 x]∧x<9223372036854775808:=by
  rw [TyD] at h
  simp only [Tryz.underlying2] at h
  obtain ⟨x,rfl,hx⟩:=h
  have hx':x<9223372036854775808:=by simp [IntKind.has,IntKind.min,IntKind.max,IntKind.signed,IntKind.bits] at hx;omega
  exact ⟨x,rfl,hx'⟩
theorem ty_two {n:Nat} {ds:List DV} (h:TyD Tryz.prog (n+2) 60 ds):∃ x y:Int,ds=[.int .i64 x,.int .i64 y]:=by
  rw [TyD] at h
  simp only [Tryz.underlying60,List.replicate] at h
  obtain ⟨a,b,rfl,_,h2,a',b',rfl,_,h3,rfl⟩:=h
  obtain ⟨x,rfl,_⟩:=ty_i64 h2
  obtain ⟨y,rfl,_⟩:=ty_i64 h3
  exact ⟨x,y,rfl⟩
theorem arg_step {n:Nat} {a:AV} (h:ArgTy Tryz.prog (n+5) 62 a):∃ (inner:List Nat) (ps:List (List Nat)) (x s:List Nat) (o0 o1 back:Int),a=.agg (stepC inner ps x s o0 o1 back)∧inner.length=32∧bytes inner∧(∀ p,p ∈ ps→p.length=32∧bytes p)∧bytes x∧bytes s∧back<9223372036854775808:=by
  unfold ArgTy at h
  simp only [Tryz.underlying62] at h
  obtain ⟨ds,rfl,h⟩:=h
  rw [TyD] at h
  simp only [Tryz.underlying62,List.map_cons,List.map_nil] at h
  obtain ⟨a,b,rfl,ha,ha2,a',b',rfl,hb,hb2,a3,b3,rfl,hc,hc2,a4,b4,rfl,hd,hd2,rfl⟩:=h
  obtain ⟨inner,ps,x,rfl,h1,h2,h3,h4⟩:=ty_leafD ha2
  rw [show Tryz.prog.cellsOf 22=1 by kernel_rfl] at hb
  obtain ⟨o0,o1,rfl⟩:=ty_two hc2
  obtain ⟨back,rfl,h6⟩:=ty_i64 hd2
  match a',hb,hb2 with
  | [y],_,hb2 =>
    obtain ⟨s,rfl,_,h5⟩:=ty_bytes hb2
    exact ⟨inner,ps,x,s,o0,o1,back,by simp [stepC,leafC,cd_map],h1,h2,h3,h4,h5,h6⟩
theorem trig2_deep (t:Tn) (n:Int) (coins:List (Nat × List Nat)) (inner:List Nat) (ps:List (List Nat)) (x s:List Nat) (o0 o1 back:Int):∀ v,v ∈ [AV.agg (eS t n coins),.agg (stepC inner ps x s o0 o1 back)]→v.deep:=by
  intro v hv
  simp at hv
  rcases hv with rfl | rfl
  · simp [AV.deep,AV.deep1,eS]
  · exact step_deep _ _ _ _ _ _
theorem sameC0_fn:Rets Tryz.prog 39 [.nil,.nil] (fun r=>r=.d (.bool true)):=by
  refine fna Tryz.func39 Tryz.ntmps39 (rs:=[.tmp 4]) (by simp [AV.deep,AV.deep1]) ?_
  simp [go_sem]
  refine loop_of (fun k:Nat=>⟨[(0,.nil),(1,.nil),(5,.d (.int .i64 0))],[],2000⟩)
    (fun k=>True) (fun k=>0) 0 trivial (by simp [Weak,slotOk,fv,lk,AV.low,AV.low1]) ?_
  intro k hk
  simp [go_sem,resV]
  exact post_same (by simp [AV.deep,AV.deep1]) rfl
theorem trigger_law (t:Tn) (n:Int) (coins:List (Nat × List Nat)) (inner:List Nat) (ps:List (List Nat)) (x s:List Nat) (o0 o1 back:Int) (ht:t.ok) (hob:∀ o,o ∈ t.outs→bytes o.2) (hcb:∀ o,o ∈ coins→bytes o.2∧o.1<18446744073709551616)
    (hi:inner.length=32) (hib:bytes inner) (hp:∀ p,p ∈ ps→p.length=32∧bytes p) (hsb:bytes s) (hbk:back<9223372036854775808) :
    Rets Tryz.prog 7 [.agg (eS t n coins),.agg (stepC inner ps x s o0 o1 back)] (fun r=>r=.d (.bool true)):=by
  refine fna Tryz.func7 Tryz.ntmps7 (rs:=[.tmp 4]) (trig2_deep _ _ _ _ _ _ _ _ _ _) ?_
  have hes:(eS t n coins).length=6:=rfl
  have het:List.take 6 (eS t n coins)=eS t n coins:=rfl
  have d34:=step_drop hi ps x s o0 o1 back 34 (by omega)
  have d35:=step_drop hi ps x s o0 o1 back 35 (by omega)
  have d37:=step_drop hi ps x s o0 o1 back 37 (by omega)
  have s34:=step_at hi ps x s o0 o1 back 34 (by omega)
  have s37:=step_at hi ps x s o0 o1 back 37 (by omega)
  have t34:=step_take34 hi ps x s o0 o1 back
  simp at d34 d35 d37 s34 s37
  simp [go_sem,hes,het,step_len hi,step_take hi]
  refine cl_eq (smallS_fn t n coins ht) (by simp [AV.deep,AV.deep1,eS]) ?_
  cases hs:smallS t coins
  · simp [go_sem]
    refine cl_eq alive21_fn (by simp) ?_
    simp [go_sem,resV]
    exact post_same (by simp [AV.deep,AV.deep1]) rfl
  simp [go_sem,step_len hi,step_take hi]
  refine cl_eq (small21_fn inner ps x s o0 o1 back hi) (by intro v hv;simp at hv;subst hv;exact step_deep _ _ _ _ _ _) ?_
  by_cases h1:ps.length≤12∧x.length≤600∧s.length≤1100
  · simp only [smallS,Bool.and_eq_true,decide_eq_true_eq] at hs
    obtain ⟨q1,q2,q3⟩:=hs
    have hsm:=sm_of ht q1
    obtain ⟨k1,k2,k3⟩:=h1
    obtain ⟨a,_,e,ha,_,g1,g2,_,_⟩:=both_out inner ps s hi hib hp (by omega) (by omega) hsb
    simp [go_sem,k1,k2,k3,hes,het,step_len hi,step_take hi,d34,d35,d37,s34,s37,t34]
    refine cl_eq (trigger_fn t n coins inner ps x s a o0 o1 back e hsm (by omega) hi ha hob hcb hbk g1) (trig_deep _ _ _ _ _ _ _ _ _ _) ?_
    have g3:=triggerR_fn t n coins inner ps x s a o0 o1 back e hsm (by omega) hi ha hob hcb hbk g2
    rcases trig_cases t n coins o0 o1 back a e with hT | hT | ⟨L,hT,hz,hL1,hL2,hL3⟩
    · rw [hT] at g3 ⊢
      simp [go_sem,hes,het,step_len hi,step_take hi,d34,d35,d37,s34,s37,t34]
      refine cl_eq g3 (trig_deep _ _ _ _ _ _ _ _ _ _) ?_
      simp [go_sem]
      refine cl_eq alive21_fn (by simp) ?_
      simp [go_sem]
      refine cl_eq sameC0_fn (by simp [AV.deep,AV.deep1]) ?_
      simp [go_sem,resV]
      exact post_same (by simp [AV.deep,AV.deep1]) rfl
    · rw [hT] at g3 ⊢
      simp [go_sem,hes,het,step_len hi,step_take hi,d34,d35,d37,s34,s37,t34]
      refine cl_eq g3 (trig_deep _ _ _ _ _ _ _ _ _ _) ?_
      simp [go_sem]
      refine cl_eq alive21_fn (by simp) ?_
      simp [go_sem]
      refine cl_eq sameC0_fn (by simp [AV.deep,AV.deep1]) ?_
      simp [go_sem,resV]
      exact post_same (by simp [AV.deep,AV.deep1]) rfl
    · have hLl:L.length≤2:=by
        rcases hL3 with h | ⟨a,b,rfl,_⟩
        · omega
        · simp
      rw [hT] at g3 ⊢
      simp [go_sem,hes,het,step_len hi,step_take hi,d34,d35,d37,s34,s37,t34]
      refine cl_eq g3 (trig_deep _ _ _ _ _ _ _ _ _ _) ?_
      simp [go_sem]
      refine cl_eq alive21_fn (by simp) ?_
      simp [go_sem]
      refine cl_eq (sameC_fn L (by omega)) (by simp [AV.deep,AV.deep1]) ?_
      simp [go_sem,resV]
      exact post_same (by simp [AV.deep,AV.deep1]) rfl
  · simp [go_sem,h1]
    refine cl_eq alive21_fn (by simp) ?_
    simp [go_sem,resV]
    exact post_same (by simp [AV.deep,AV.deep1]) rfl
theorem trigger_args (l:List AV) (h:ArgTys Tryz.prog 8 [59,62] l):Rets Tryz.prog 7 l (fun r=>r=.d (.bool true)):=by
  obtain ⟨a0,r0,rfl,h0,a1,r1,rfl,h1,rfl⟩:=h
  obtain ⟨t,n,coins,rfl,q1,q2,q3⟩:=arg_sp h0
  obtain ⟨inner,ps,x,s,o0,o1,back,rfl,p1,p2,p3,p4,p5,p6⟩:=arg_step h1
  exact trigger_law t n coins inner ps x s o0 o1 back q1 q2 (fun o h=>⟨(q3 o h).2,(q3 o h).1⟩) p1 p2 p3 p5 p6
end Go.Proofs.YtldccnbokbieiaaGreat
