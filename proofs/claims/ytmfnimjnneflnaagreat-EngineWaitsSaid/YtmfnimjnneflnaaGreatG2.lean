/-
 Part 3 of what the claim rests on.
-/
import Derived.Test.YtmfnimjnneflnaaGreatG1
set_option linter.unusedVariables false
set_option linter.unusedSimpArgs false
set_option maxRecDepth 100000
set_option maxHeartbeats 16000000
namespace Go.Am
inductive Tr where
 | done
 | alt (a b:Tr)
 | step (i:Nat) (zs:List Nat) (keep:Bool) (t:Tr)
def O7 (i:Nat) (hs:List Nat):List Nat:=hs.filter fun j=>j != i
def wO (za zs:List Nat):List Nat:=za.filter fun z=>!zs.contains z
theorem pq {i k:Nat} {hs:List Nat}:k ∈ O7 i hs ↔ k ∈ hs∧k ≠ i:=by simp [O7]
theorem fe {za zs:List Nat} {k:Nat}:k ∈ wO za zs ↔ k ∈ za∧k ∉ zs:=by simp [wO]
def mC:Tr→List Nat
 | .done=>[]
 | .alt a b=>mC a ++ mC b
 | .step i _ _ _=>[i]
def Qd (ms:List Nat) (hs:List Nat) (t:Tr):Bool:=hs.all fun j=>(mC t).contains j || hs.any fun p=>wt ms j p
def LI (ops:Array Oper) (hs:List Nat) (t:Tr):Prop:=∀ j,j ∈ hs→j ∈ mC t ∨ ∃ p,p ∈ hs∧Waits ops j p
def Qe (ops:Array Oper) (z:Nat):Bool:=match ops[z]? with
 | some o=>Fp o.op
 | none=>false
def O8 (ops:Array Oper) (ms za is:List Nat):List Nat→List Nat→Tr→Bool
 | zv,hs,.done=>hs.isEmpty && za.all fun z=>zv.contains z
 | zv,hs,.alt a b=>O8 ops ms za is zv hs a && O8 ops ms za is zv hs b
 | zv,hs,.step i zs keep t=>hs.contains i && (keep || za.all fun z=>Qe ops z || wt ms i z || is.any fun h=>!hs.contains h && wt ms h z) && (match bT ops i with
   | some d=>zv.all fun z=>!(fU ops z).contains d || wt ms i z
   | none=>true) && (zs.all fun z=>wt ms z i) && (zs.all fun z=>za.contains z) && fL ops (zv ++ zs) && dL (zv ++ zs) && Qd ms (O7 i hs) t && O8 ops ms za is (zv ++ zs) (O7 i hs) t
def HA (ops:Array Oper) (za is:List Nat):List Nat→List Nat→Tr→Prop
 | zv,hs,.done=>hs=[]∧∀ z,z ∈ za→z ∈ zv
 | zv,hs,.alt a b=>HA ops za is zv hs a∧HA ops za is zv hs b
 | zv,hs,.step i zs keep t=>(i ∈ hs∧(keep=false→∀ z,z ∈ za→Qe ops z=false→Waits ops i z ∨ ∃ h,h ∈ is∧h ∉ hs∧Waits ops h z))∧(∀ d,bT ops i=some d→∀ z,z ∈ zv→d ∈ fU ops z→Waits ops i z)∧(∀ z,z ∈ zs→Waits ops z i)∧(∀ z,z ∈ zs→z ∈ za) ∧
   fL ops (zv ++ zs)=true∧dL (zv ++ zs)=true∧LI ops (O7 i hs) t∧HA ops za is (zv ++ zs) (O7 i hs) t
theorem HB {ops:Array Oper} {hs:List Nat} {t:Tr} (h:Qd (Qb ops) hs t=true):LI ops hs t:=by
 intro j hj;have:=d7.1 h j hj;rw [Bool.or_eq_true] at this;rcases this with h | h
 ·exact .inl (by simpa using h)
 ·obtain ⟨p,h1,h2⟩:=List.any_eq_true.1 h;exact .inr ⟨p,h1,jQ h2⟩
theorem Dj {ops:Array Oper} {za is:List Nat}:∀ (t:Tr) {zv hs:List Nat},O8 ops (Qb ops) za is zv hs t=true→HA ops za is zv hs t
 | .done,zv,hs,h=>by
  simp only [O8,Bool.and_eq_true,List.isEmpty_iff] at h;exact ⟨h.1,fun z hz=>by simpa using d7.1 h.2 z hz⟩
 | .alt a b,zv,hs,h=>by
  simp only [O8,Bool.and_eq_true] at h;exact ⟨Dj a h.1,Dj b h.2⟩
 | .step i zs keep t,zv,hs,h=>by
  simp only [O8,Bool.and_eq_true] at h;obtain ⟨⟨⟨⟨⟨⟨⟨⟨h1,h2⟩,h3⟩,h4⟩,h5⟩,h6⟩,h7⟩,h8⟩,h9⟩:=h;refine ⟨⟨by simpa using h1,fun hk z hz hnm=>?_⟩,fun d hd z hz hl=>?_,fun z hz=>jQ (d7.1 h4 z hz),fun z hz=>by simpa using d7.1 h5 z hz,h6,h7,HB h8,Dj t h9⟩
  ·rw [hk,Bool.false_or] at h2;have h2':=d7.1 h2 z hz;rw [hnm,Bool.false_or,Bool.or_eq_true] at h2';rcases h2' with h | h
   ·exact .inl (jQ h)
   ·obtain ⟨q,q1,q2⟩:=List.any_eq_true.1 h;rw [Bool.and_eq_true] at q2;exact .inr ⟨q,q1,by simpa using q2.1,jQ q2.2⟩
  ·simp only [hd] at h3;have:=d7.1 h3 z hz;simp only [hl,List.contains_eq_mem,decide_true,Bool.not_true,Bool.false_or] at this;exact jQ this
section
variable (P:Program) (ops:Array Oper) (base:Nat) (hp0:Hp) (K:Fr→Hp→Prop)
def uD:Tr→Fr→Hp→Prop
 | .done,fr,hp=>K fr hp
 | .alt a b,fr,hp=>uD a fr hp∧uD b fr hp
 | .step i zs keep t,fr,hp=>match ops[i]? with
  | some o=>(match o.guard with
   | none=>bK P fr hp (base+32*i) o.op fun v hp'=>(keep=true→dM hp0 hp')∧zW P ops base hp0 (fun fr=>uD t fr hp') zs (bn fr o.dst v)
   | some (g,want)=>(match (ops[g]?).bind (·.dst) with
    | some d=>(match fv d fr with
     | .d (.bool b)=>(b=want→bK P fr hp (base+32*i) o.op fun v hp'=>(keep=true→dM hp0 hp')∧zW P ops base hp0 (fun fr=>uD t fr hp') zs (bn fr o.dst v)) ∧
       (b=!want→zW P ops base hp0 (fun fr=>uD t fr hp) zs (bn fr o.dst (.tup [])))
     | .tup []=>zW P ops base hp0 (fun fr=>uD t fr hp) zs (bn fr o.dst (.tup []))
     | _=>False)
    | none=>False))
  | none=>False
end
section
variable {P:Program} {c:Ctx} {ops:Array Oper} {base:Nat} {hp0:Hp} {K:Fr→Hp→Prop} {fr fr':Fr}
theorem yR {za is zs:List Nat} {hp:Hp}:∀ (t:Tr),HA ops za is zs [] t→uD P ops base hp0 K t fr hp→K fr hp
 | .done,_,h=>h
 | .alt a b,hT,h=>yR a hT.1 h.1
 | .step i zs keep t,hT,h=>by have:=hT.1.1;simp at this
theorem sP {za is:List Nat}:∀ (t:Tr) {zs hs:List Nat} {z:Nat},HA ops za is zs hs t→z ∈ za→z ∉ zs→∃ p,p ∈ hs∧Waits ops z p
 | .done,zs,hs,z,hT,h1,h2=>absurd (hT.2 z h1) h2
 | .alt a b,zs,hs,z,hT,h1,h2=>sP a hT.1 h1 h2
 | .step i zj keep t,zs,hs,z,hT,h1,h2=>by
  obtain ⟨p1,p2,p3,p4,p5,p6,p7,p8⟩:=hT;rcases Classical.em (z ∈ zj) with h | h
  ·exact ⟨i,p1.1,p3 z h⟩
  ·obtain ⟨p,q1,q2⟩:=sP t p8 h1 (fun e=>(cD.1 e).elim h2 h);exact ⟨p,(pq.1 q1).1,q2⟩
theorem qA {za is zs hs:List Nat} {hp:Hp} {i:Nat}:∀ (t:Tr),i ∈ mC t→HA ops za is zs hs t→uD P ops base hp0 K t fr hp→∃ zj keep t',HA ops za is zs hs (.step i zj keep t')∧uD P ops base hp0 K (.step i zj keep t') fr hp
 | .done,h,_,_=>by simp [mC] at h
 | .alt a b,h,hT,hW=>by
  rcases cD.1 h with h | h
  ·exact qA a h hT.1 hW.1
  ·exact qA b h hT.2 hW.2
 | .step j zj keep t',h,hT,hW=>by
  simp only [mC,List.mem_singleton] at h;subst h;exact ⟨zj,keep,t',hT,hW⟩
/-- Every order. -/
theorem Qf {za is:List Nat} {Q:Exit→Act→World→Prop} (hB:RegOk c.n ops za is)
  (hQ:∀ fr hp a w U,K fr hp→(∀ k,U k→k<base+32*ops.size)→nW c fr hp U a w→Q .normal a w) :
  ∀ (fuel:Nat) (listed:Array Bool) (zs hs:List Nat) (t:Tr) (fr:Fr) (hp:Hp) (a:Act) (w:World),LG listed≤fuel→HA ops za is zs hs t→LI ops hs t→(∀ i,i ∈ hs→i ∈ is)→(∀ z,z ∈ zs→z ∈ za) →
   RInv P c ops base hp0 (za.filter fun z=>!Qe ops z) zs (hs ++ wO za zs) listed fr hp a w→uD P ops base hp0 K t fr hp→wpAny P .any ops Q fuel listed a w:=by
 have notboth:∀ {listed:Array Bool} {i:Nat},listed.getD i true=false→listed.getD i false=true→False:=by
  intro listed i h1 h2;rw [jz h2] at h1
  cases h1
 -- where nothing is left
 have rF:∀ (listed:Array Bool) (zs hs:List Nat) (t:Tr) (fr:Fr) (hp:Hp) (a:Act) (w:World),HA ops za is zs hs t→(∀ i,i ∈ hs→i ∈ is)→RInv P c ops base hp0 (za.filter fun z=>!Qe ops z) zs (hs ++ wO za zs) listed fr hp a w→uD P ops base hp0 K t fr hp→Region.ready .any ops listed=[]→Q .normal a w:=by
  intro listed zs hs t fr hp a w hT hsub hI hW hr0
  have all:∀ k j,j≤k→j<ops.size→listed.getD j false=true:=by
   intro k
   induction k with
   | zero =>
    intro j hj hjs
    cases hl:listed.getD j false with
    | true=>rfl
    | false =>
     have hmem:j ∈ Region.ready .any ops listed:=mem_ready.2 ⟨iU (by rw [hI.size];exact hjs) hl,ops[j],dg hjs,fun e he hb=>by
      have:=hB.low j _ (dg hjs) e he hb
      omega⟩
     rw [hr0] at hmem;simp at hmem
   | succ k ih =>
    intro j hj hjs
    cases hl:listed.getD j false with
    | true=>rfl
    | false =>
     have hmem:j ∈ Region.ready .any ops listed:=mem_ready.2 ⟨iU (by rw [hI.size];exact hjs) hl,ops[j],dg hjs,fun e he hb=>by
      have:=hB.low j _ (dg hjs) e he hb
      exact ih e.on aq aq⟩
     rw [hr0] at hmem;simp at hmem
  have hnil:hs=[]:=by
   cases hs with
   | nil=>rfl
   | cons j r =>
    have h1:=hI.un j (cD.2 (.inl (dz ..)));exact (notboth h1 (all j j (cL _) (hB.inb j (hsub j (dz ..))))).elim
  subst hnil;have hW:=yR t hT hW;obtain ⟨U,σ,hr,hh,hU,hf⟩:=hI.sim;refine hQ fr hp a w U hW (fun k hk=>?_) ⟨hI.def_,hI.tmps,σ,hr,fun t=>hf t fun z hz hun=>?_,hh⟩
  ·rcases hU k hk with h | ⟨j,hj1,hj2,hj⟩
   ·omega
   ·have:j<listed.size:=by
     rcases Nat.lt_or_ge j listed.size with h | h
     ·exact h
     ·simp [ct,Array.getElem?_eq_none h] at hj
    have:=hI.size;omega
  ·intro he
   have:z<ops.size:=by
    rcases Nat.lt_or_ge z ops.size with h | h
    ·exact h
    ·simp [bT,Array.getElem?_eq_none h] at he
   exact notboth hun (all z z (cL _) this)
 intro fuel
 induction fuel with
 | zero =>
  intro listed zs hs t fr hp a w hf hT hcov hsub hza hI hW
  have hr0:Region.ready .any ops listed=[]:=by
   rw [List.eq_nil_iff_forall_not_mem];intro i hi;have:=rX (mem_ready.1 hi).1;omega
  exact ⟨hr0,rF listed zs hs t fr hp a w hT hsub hI hW hr0⟩
 | succ fuel ih =>
  intro listed zs hs tr fr hp a w hfuel hT hcov hsub hza hI hW;refine ⟨rF listed zs hs tr fr hp a w hT hsub hI hW,fun i hi=>?_⟩;obtain ⟨hun,o,ho,haft⟩:=mem_ready.1 hi;have his:i<ops.size:=(Array.getElem?_eq_some_iff.1 ho).1;have hil:i<listed.size:=by rw [hI.size];exact his
  have hdi:bT ops i=o.dst:=by simp [bT,ho]
  have hli:fU ops i=o.looksAt ops:=by simp [fU,ho]
  have hwl:∀ z,Waits ops i z→listed.getD z false=true:=fun z hz=>lv hI.closed hz fun o' ho'=>by
   rw [ho] at ho';injection ho' with ho';subst ho';exact haft
  have hzza:∀ z,z ∈ zs→z ∈ za:=hza
  have hdst:fJ c.n o.dst:=by
   unfold fJ
   cases hd:o.dst with
   | none=>trivial
   | some d=>exact hB.lt i d (by rw [hdi,hd])
  have hun':∀ z,(listed.setIfInBounds i true).getD z true=false→listed.getD z true=false∧z ≠ i:=by
   intro z hz;rw [aI true hil] at hz
   split at hz
   ·cases hz
   ·rename_i hne;exact ⟨hz,fun h=>hne h.symm⟩
  have hclosed':∀ j o',ops[j]?=some o'→(listed.setIfInBounds i true).getD j false=true→∀ e,e ∈ o'.after→Region.binds .any e=true→(listed.setIfInBounds i true).getD e.on false=true:=by
   intro j o' hj hl e he hb;rw [aI false hil] at hl ⊢
   split
   ·rfl
   ·split at hl
    ·rename_i hij;subst hij;rw [ho] at hj;injection hj with hj;subst hj;exact haft e he hb
    ·exact hI.closed j o' hj hl e he hb
  have hfuel':LG (listed.setIfInBounds i true)≤fuel:=by
   have:=rX hun;omega
  obtain ⟨U,σ,hr,hh,hU,hf⟩:=hI.sim
  have hNU:Free U (base+32*i):=by
   intro k k1 k2 h;rcases hU _ h with h | ⟨j,hj,hj2,hl⟩
   ·omega
   ·have:j=i:=aq;subst this;exact notboth hun hl
  have hU':∀ k,dJ U (base+32*i) k→k<base ∨ ∃ j,base+32*j≤k∧k<base+32*j+32∧(listed.setIfInBounds i true).getD j false=true:=by
   rintro k (h | h)
   ·rcases hU k h with h | ⟨j,h1,h1',h2⟩
    ·exact .inl h
    ·exact .inr ⟨j,h1,h1',by rw [aI false hil];split <;> simp [h2]⟩
   ·exact .inr ⟨i,h.1,h.2,by rw [aI false hil];simp⟩
  obtain ⟨frm,hm1,hm2⟩:=A8 fr (zs.filterMap fun z=>if listed.getD z true=true then none else bT ops z)
  have hml:∀ t,t ∈ (zs.filterMap fun z=>if listed.getD z true=true then none else bT ops z) ↔ ∃ z,z ∈ zs∧listed.getD z true=false∧bT ops z=some t:=by
   intro t;rw [List.mem_filterMap];constructor
   ·rintro ⟨z,hz,h⟩
    split at h
    ·cases h
    ·rename_i hne;exact ⟨z,hz,by simpa using hne,h⟩
   ·rintro ⟨z,hz,h1,h2⟩;exact ⟨z,hz,by simp [h1,h2]⟩
  have hfm:∀ t,AIs w (bJ c w σ hp) σ hp U (fv t frm) (a.tmps.getD t undef):=by
   intro t;by_cases hm:t ∈ (zs.filterMap fun z=>if listed.getD z true=true then none else bT ops z)
   ·rw [hm1 t hm];exact .any _
   ·rw [hm2 t hm];exact hf t fun z hz hzu he=>hm ((hml t).2 ⟨z,hz,hzu,he⟩)
  have hlook:∀ t,t ∈ o.looksAt ops→fv t frm=fv t fr:=by
   intro t ht';refine hm2 t fun hm=>?_;obtain ⟨z,hz,hzu,he⟩:=(hml t).1 hm;exact notboth hzu (hwl z (hB.zdst z (hzza z hz) t he i (by rw [hli];exact ht')))
  have hlook':∀ t,t ∈ o.looksAt ops→fv t fr=fv t frm:=fun t ht'=>(hlook t ht').symm
  have hgu:∀ {g want d},o.guard=some (g,want)→(ops[g]?).bind (·.dst)=some d→fv d fr=.tup []→¬ (yielded ops a.tmps g=some want):=by
   intro g want d hg hd hb;have hx:=hfm d;rw [hlook d (jd hg hd),hb] at hx;unfold yielded;rw [hd]
   cases ht:a.tmps[d]? with
   | none=>simp [ht]
   | some u =>
    have e:a.tmps.getD d undef=u:=by simp [ct,ht]
    rw [e] at hx
    cases hx with
    | tup _ xs _ _=>simp [ht]
  have hgv:∀ {g want d b},o.guard=some (g,want)→(ops[g]?).bind (·.dst)=some d→fv d fr=.d (.bool b)→yielded ops a.tmps g=some b:=by
   intro g want d b hg hd hb;have hx:=hfm d;rw [hlook d (jd hg hd),hb] at hx;have hv:=fE hx;unfold yielded;rw [hd];have hv':a.tmps[d]?.getD undef=.bool b:=by simpa using hv
   cases ht:a.tmps[d]? with
   | none=>rw [ht] at hv';cases hv'
   | some u=>rw [ht] at hv';simp at hv';subst hv';simp [ht]
  unfold wpOp;simp only [ho];by_cases hz:i ∈ zs
  ·
   have hopw:∀ (K':AV→Hp→Prop) (v:AV),kQ P frm hp0 o.op v→K' v hp→bK P frm hp (base+32*i) o.op K':=by
    intro K' v hs hk;rcases hI.sa with h | h
    ·exact hs hp _ K' h hk
    ·have hn:Fp o.op=true:=by
      cases hn:Fp o.op with
      | true=>rfl
      | false =>
       have:=h i (List.mem_filter.2 ⟨hzza i hz,by simp [Qe,ho,hn]⟩);rw [hun] at this;cases this
     exact LD hn hs hp _ K' hk
   have hsa':rB hp0 hp ∨ ∀ z,z ∈ (za.filter fun z=>!Qe ops z)→(listed.setIfInBounds i true).getD z true=true:=hI.sa.imp id fun h z hz'=>by
    rw [aI true hil]
    split
    ·rfl
    ·exact h z hz'
   have hirest:i ∉ hs ++ wO za zs:=fun h=>by
    rcases cD.1 h with h | h
    ·exact (hB.part i his).2 ⟨hzza i hz,hsub i h⟩
    ·exact (fe.1 h).2 hz
   obtain ⟨v,o',ho',hdv,hzk⟩:=hI.facts i hz hun;rw [ho] at ho';injection ho' with ho';subst ho'
   have next:∀ a' w',nW c (bn frm o.dst v) hp (dJ U (base+32*i)) a' w'→wpAny P .any ops Q fuel (listed.setIfInBounds i true) a' w':=by
    rintro a' w' ⟨q1,q2,σ',q3,q4,q5⟩;refine ih _ zs hs tr fr hp a' w' hfuel' hT hcov hsub hza ⟨by simp [hI.size],hclosed',fun j hj=>?_,fun j hj hjz hjr=>?_,q1,q2,⟨_,σ',q3,q5,hU',fun t htu=>?_⟩,fun z hz' hzu=>hI.facts z hz' (hun' z hzu).1,hsa'⟩ hW
    ·rw [aI true hil,if_neg (fun e=>hirest (by rw [e];exact hj))];exact hI.un j hj
    ·rw [aI false hil]
     split
     ·rfl
     ·exact hI.done j hj hjz hjr
    ·have:=q4 t;by_cases hd:o.dst=some t
     ·rw [hd,je] at this;rw [hdv t hd];exact this
     ·rw [kF hd,hm2 t fun hm=>?_] at this
      ·exact this
      ·obtain ⟨z,hz',hzu,he⟩:=(hml t).1 hm;refine htu z hz' ?_ he;rw [aI true hil,if_neg]
       ·exact hzu
       ·intro e;subst e;exact hd (by rw [← hdi];exact he)
   have exec:kQ P fr hp0 o.op v→o.wp P a w (wpAny P .any ops Q fuel (listed.setIfInBounds i true)) Q:=by
    intro hs;have hop:=hopw (fun v' hp'=>v'=v∧hp'=hp) v (ko hlook' hs) ⟨rfl,rfl⟩;have hok:=pj (o:=o) hr (fun x=>uL hfm x) hNU hop;refine o5 hI.def_ hI.tmps hdst hfm hh hok fun v' hp' a' w' hK hS=>?_;obtain ⟨rfl,rfl⟩:=hK;exact next a' w' hS
   unfold Hy at hzk
   split at hzk
   ·rename_i hg;rw [if_pos (by simp [Region.wanted,hg])];exact .inl (exec hzk)
   ·rename_i g want hg;obtain ⟨d,hd,⟨b,hb,h1,h2⟩ | ⟨hb,hv⟩⟩:=hzk
    ·have hy:=hgv hg hd hb;by_cases hbw:b=want
     ·rw [if_pos (by simp [Region.wanted,hg,hy,hbw])];exact .inl (exec (h1 hbw))
     ·rw [if_neg (by simp [Region.wanted,hg,hy,hbw])];have hv:=h2 (by cases b <;> cases want <;> simp_all)
      subst hv;exact next _ _ (kp hI.def_ hI.tmps hr hh hfm)
    ·have hy:=hgu hg hd hb;rw [if_neg (by simp [Region.wanted,hg,hy])];subst hv;exact next _ _ (kp hI.def_ hI.tmps hr hh hfm)
  ·
   have hir:i ∈ hs ++ wO za zs:=by
    rcases Classical.em (i ∈ hs ++ wO za zs) with h | h
    ·exact h
    ·exact (notboth hun (hI.done i his hz h)).elim
   have far:∀ p,p ∈ hs→Waits ops i p→False:=fun p hp1 hp2=>notboth (hI.un p (cD.2 (.inl hp1))) (hwl p hp2)
   have hih:i ∈ hs:=by
    rcases cD.1 hir with h | h
    ·exact h
    ·obtain ⟨p,hp1,hp2⟩:=sP tr hT (fe.1 h).1 (fe.1 h).2;exact (far p hp1 hp2).elim
   have hfi:i ∈ mC tr:=by
    rcases hcov i hih with h | ⟨p,hp1,hp2⟩
    ·exact h
    ·exact (far p hp1 hp2).elim
   obtain ⟨zj,keep,t',hT',hW'⟩:=qA tr hfi hT hW;clear hT hW hcov hfi;obtain ⟨p1,p2,p3,p4,p5,p6,p7,p8⟩:=hT';have hW:=hW';clear hW'
   ·have hiza:i ∉ za:=fun h=>(hB.part i his).2 ⟨h,hsub i hih⟩;have hzj:∀ z,z ∈ zj→z ∈ za:=p4;have hza':∀ z,z ∈ zs ++ zj→z ∈ za:=fun z hz'=>(cD.1 hz').elim (hza z) (p4 z);have hordj:=jR p5;have hnzj:=iG p6
    have hmr:∀ {k},k ∈ O7 i hs ++ wO za (zs ++ zj)→k ∈ hs ++ wO za zs∧k ≠ i:=by
     intro k hk;rcases cD.1 hk with h | h
     ·exact ⟨cD.2 (.inl (pq.1 h).1),(pq.1 h).2⟩
     ·have h':=fe.1 h;exact ⟨cD.2 (.inr (fe.2 ⟨h'.1,fun e=>h'.2 (cD.2 (.inl e))⟩)),fun e=>hiza (by rw [← e];exact h'.1)⟩
    have hunj:∀ z,z ∈ zj→listed.getD z true=false:=fun z hz'=>hI.un z (cD.2 (.inr (fe.2 ⟨hzj z hz',fun e=>hnzj.2.2 z e hz'⟩)));simp only [uD,ho] at hW
    have next:∀ v hp' a' w',(keep=true→rB hp0 hp' ∨ ∀ z,z ∈ (za.filter fun z=>!Qe ops z)→listed.getD z true=true)→zW P ops base hp0 (fun fr=>uD P ops base hp0 K t' fr hp') zj (bn fr o.dst v)→nW c (bn frm o.dst v) hp' (dJ U (base+32*i)) a' w'→wpAny P .any ops Q fuel (listed.setIfInBounds i true) a' w':=by
     rintro v hp' a' w' hsa hW' ⟨q1,q2,σ',q3,q4,q5⟩;obtain ⟨frZ,g1,g2,g3⟩:=mB hB.uniq zj _ hordj.2.1 hnzj.2.1 hW';refine ih _ (zs ++ zj) (O7 i hs) t' frZ hp' a' w' hfuel' p8 p7 (fun k hk=>hsub k (pq.1 hk).1) hza' ⟨by simp [hI.size],hclosed',fun k hk=>?_,fun k hk hkz hkr=>?_,q1,q2,⟨_,σ',q3,q5,hU',fun t htu=>?_⟩,fun z hz' hzu=>?_,?_⟩ g1
     ·rw [aI true hil,if_neg (fun e=>(hmr hk).2 e.symm)];exact hI.un k (hmr hk).1
     ·rw [aI false hil]
      split
      ·rfl
      ·rename_i hne
       exact hI.done k hk (fun h=>hkz (cD.2 (.inl h))) (fun h=>by
        rcases cD.1 h with h | h
        ·exact hkr (cD.2 (.inl (pq.2 ⟨h,fun e=>hne e.symm⟩)))
        ·exact hkr (cD.2 (.inr (fe.2 ⟨(fe.1 h).1,hkz⟩))))
     ·have hnj:∀ z,z ∈ zj→bT ops z ≠ some t:=fun z hz'=>htu z (cD.2 (.inr hz')) (by
       rw [aI true hil,if_neg (fun e=>hiza (by rw [e];exact hzj z hz'))]
       exact hunj z hz')
      rw [g2 t hnj];have:=q4 t;by_cases hd:o.dst=some t
      ·rw [hd,je] at this ⊢;exact this
      ·rw [kF hd] at this ⊢;rw [hm2 t fun hm=>?_] at this
       ·exact this
       ·obtain ⟨z,hz',hzu,he⟩:=(hml t).1 hm;refine htu z (cD.2 (.inl hz')) ?_ he;rw [aI true hil,if_neg (fun e=>hz (by rw [e];exact hz'))];exact hzu
     ·rcases cD.1 hz' with hz' | hz'
      ·obtain ⟨hzu1,hzi⟩:=hun' z hzu;obtain ⟨vz,oz,hoz,hdz,hzk⟩:=hI.facts z hz' hzu1;have hdz':bT ops z=oz.dst:=by simp [bT,hoz]
       have hlz:fU ops z=oz.looksAt ops:=by simp [fU,hoz]
       refine ⟨vz,oz,hoz,fun d hd=>?_,qw (fun t ht'=>?_) hzk⟩
       ·rw [g2 d fun y hy he=>?_,kF]
        ·exact hdz d hd
        ·intro he;exact hzi (hB.uniq z i d (by rw [hdz'];exact hd) (by rw [hdi];exact he))
        ·have:=hB.uniq z y d (by rw [hdz'];exact hd) he;subst this;exact hnzj.2.2 z hz' hy
       ·rw [g2 t fun y hy=>hordj.2.2 z hz' y hy t (by rw [hlz];exact ht'),kF];intro he;exact notboth hzu1 (hwl z (p2 t (by rw [hdi];exact he) z hz' (by rw [hlz];exact ht')))
      ·exact g3 z hz'
     ·cases hk:keep with
      | false =>
       right;intro z hz';have hz'':=List.mem_filter.1 hz'
       have:listed.getD z false=true:=by
        rcases p1.2 hk z hz''.1 (by simpa using hz''.2) with h | ⟨q,h1,h2,h3⟩
        ·exact hwl z h
        ·have hqz:q ∉ za:=fun e=>(hB.part q (hB.inb q h1)).2 ⟨e,h1⟩;have hl:=hI.done q (hB.inb q h1) (fun e=>hqz (hza q e)) (fun e=>(cD.1 e).elim h2 fun e=>hqz (fe.1 e).1);exact lv hI.closed h3 fun o' ho'=>hI.closed q o' ho' hl
       rw [aI true hil]
       split
       ·rfl
       ·exact jz this
      | true =>
       rcases hsa hk with h | h
       ·exact .inl h
       ·right;intro z hz';rw [aI true hil]
        split
        ·rfl
        ·exact h z hz'
    have exec:bK P fr hp (base+32*i) o.op (fun v hp'=>(keep=true→dM hp0 hp')∧zW P ops base hp0 (fun fr=>uD P ops base hp0 K t' fr hp') zj (bn fr o.dst v))→o.wp P a w (wpAny P .any ops Q fuel (listed.setIfInBounds i true)) Q:=by
     intro hop;rw [qq (sN hlook')] at hop;have hok:=pj (o:=o) hr (fun x=>uL hfm x) hNU hop;refine o5 hI.def_ hI.tmps hdst hfm hh hok fun v' hp' a' w' hK hS=>?_;exact next v' hp' a' w' (fun h=>.inl (yQ (hK.1 h))) hK.2 hS
    split at hW
    ·rename_i hg;rw [if_pos (by simp [Region.wanted,hg])];exact .inl (exec hW)
    ·rename_i g want hg
     split at hW
     ·rename_i d hd
      split at hW
      ·rename_i b hb;have hy:=hgv hg hd hb;by_cases hbw:b=want
       ·rw [if_pos (by simp [Region.wanted,hg,hy,hbw])];exact .inl (exec (hW.1 hbw))
       ·rw [if_neg (by simp [Region.wanted,hg,hy,hbw])];have hv:=hW.2 (by cases b <;> cases want <;> simp_all)
        exact next (.tup []) hp _ _ (fun hm=>hI.sa) hv (kp hI.def_ hI.tmps hr hh hfm)
      ·rename_i hb;have hy:=hgu hg hd hb;rw [if_neg (by simp [Region.wanted,hg,hy])];exact next (.tup []) hp _ _ (fun hm=>hI.sa) hW (kp hI.def_ hI.tmps hr hh hfm)
      ·exact hW.elim
     ·exact hW.elim
def O9 (n:Nat) (ops:Array Oper) (ms:List Nat) (zs is za:List Nat) (t:Tr):Bool :=
 (List.range ops.size).all (fun j=>(za.contains j || is.contains j) && !(za.contains j && is.contains j)) &&
 is.all (fun j=>decide (j<ops.size)) && za.all (fun j=>decide (j<ops.size)) && dL zs && fL ops zs && (zs.all fun z=>za.contains z) &&
 (List.range ops.size).all (fun i=>match bT ops i with
  | some d=>decide (d<n) && (List.range ops.size).all fun j=>j == i || bT ops j != some d
  | none=>true) &&
 za.all (fun z=>match bT ops z with
  | some d=>(List.range ops.size).all fun j=>!(fU ops j).contains d || wt ms j z
  | none=>true) &&
 O8 ops ms za is zs is t && Qd ms is t &&
 (List.range ops.size).all (fun j=>match ops[j]? with
  | some o=>o.after.all fun e=>!Region.binds .any e || decide (e.on<j)
  | none=>true)
def sQ (n:Nat) (ops:Array Oper) (zs is za:List Nat) (t:Tr):Bool:=O9 n ops (Qb ops) zs is za t
theorem HC {n:Nat} {zs is za:List Nat} {t:Tr} (h:sQ n ops zs is za t=true):RegOk n ops za is∧HA ops za is zs is t∧LI ops is t∧fL ops zs=true∧dL zs=true∧(∀ z,z ∈ zs→z ∈ za)∧∀ z,z ∈ za→z<ops.size:=by
 unfold sQ at h;simp only [O9,Bool.and_eq_true] at h;obtain ⟨⟨⟨⟨⟨⟨⟨⟨⟨⟨h1,h2⟩,h2b⟩,h3⟩,h3b⟩,h3c⟩,h4⟩,h5⟩,h6⟩,h7⟩,h10⟩:=h
 have inr:∀ {i d},bT ops i=some d→i ∈ List.range ops.size:=by
  intro i d hi;rw [List.mem_range];rcases Nat.lt_or_ge i ops.size with h | h
  ·exact h
  ·simp [bT,Array.getElem?_eq_none h] at hi
 refine ⟨⟨fun j hj=>?_,fun j hj=>?_,fun i d hi=>?_,fun i j d hi hj=>?_,fun z hz d hd j hj=>?_,fun j o ho e he hb=>?_⟩,Dj t h6,HB h7,h3b,h3,fun z hz=>by simpa using d7.1 h3c z hz,fun z hz=>by simpa using d7.1 h2b z hz⟩
 ·have:=d7.1 h1 j (List.mem_range.2 hj);simp at this;exact ⟨this.1,fun h=>by rcases this.2 with h' | h' <;> simp_all⟩
 ·simpa using d7.1 h2 j hj
 ·have:=d7.1 h4 i (inr hi);simp only [hi,Bool.and_eq_true,decide_eq_true_eq] at this;exact this.1
 ·have:=d7.1 h4 i (inr hi);simp only [hi,Bool.and_eq_true] at this;have:=d7.1 this.2 j (inr hj);simp only [hj,bne_self_eq_false,Bool.or_false,beq_iff_eq] at this;exact this.symm
 ·have:=d7.1 h5 z hz;simp only [hd] at this
  have hjr:j ∈ List.range ops.size:=by
   rw [List.mem_range];rcases Nat.lt_or_ge j ops.size with h | h
   ·exact h
   ·simp [fU,Array.getElem?_eq_none h] at hj
  have:=d7.1 this j hjr;simp only [hj,List.contains_eq_mem,decide_true,Bool.not_true,Bool.false_or] at this;exact jQ this
 ·have hjr:j ∈ List.range ops.size:=by
   rw [List.mem_range];exact (Array.getElem?_eq_some_iff.1 ho).1
  have:=d7.1 h10 j hjr;simp only [ho] at this;have:=Array.all_eq_true_iff_forall_mem.1 this e he
  simpa [hb] using this
theorem LJ {zs is za:List Nat} {t:Tr} {id:Nat} {U:Nat→Prop} {a:Act} {w:World} {Q:Exit→Act→World→Prop} (hmix:P.follows .mixedOrders=true) (hB:sQ c.n ops zs is za t=true)
  (hQ:∀ fr hp a w U,K fr hp→(∀ k,U k→k<base+32*ops.size)→nW c fr hp U a w→Q .normal a w)
  (hU:∀ k,U k→k<base) (hs:nW c fr hp0 U a w) (h:zW P ops base hp0 (fun fr=>uD P ops base hp0 K t fr hp0) zs fr):(Code.region id ops true).wp P Q a w:=by
 obtain ⟨hok,hT,hcov,hord,hnd,hza,hinz⟩:=HC hB;obtain ⟨frZ,h1,h2,h3⟩:=mB hok.uniq zs fr hord hnd h;obtain ⟨q1,q2,σ,q3,q4,q5⟩:=hs;have hrd:=jb q3
 have rep:∀ j,(Array.replicate ops.size false).getD j false=false:=by
  intro j;simp only [ct,Array.getElem?_replicate]
  split <;> rfl
 have rep':∀ j,j<ops.size→(Array.replicate ops.size false).getD j true=false:=by
  intro j hj;simp [ct,Array.getElem?_replicate,hj]
 refine wp_region_any hmix (Qf hok hQ ops.size _ zs is t frZ hp0 a w.drew ?_ hT hcov (fun _ h=>h) hza ⟨aw,fun j o ho hl=>(by rw [rep] at hl;cases hl),fun j hj=>?_,fun j hj hz hi=>?_,q1,q2,
  ⟨U,σ,hrd,q5.trans b8,fun k hk=>.inl (hU k hk),fun t ht=>?_⟩,fun z hz _=>h3 z hz,.inl fun _ _ h=>h⟩ h1)
 ·unfold LG;refine Nat.le_trans (List.length_filter_le _ _) ?_;simp
 ·refine rep' j ?_;rcases cD.1 hj with h | h
  ·exact hok.inb j h
  ·exact hinz j (fe.1 h).1
 ·rcases (hok.part j hj).1 with h | h
  ·exact absurd (cD.2 (.inr (fe.2 ⟨h,hz⟩))) hi
  ·exact absurd (cD.2 (.inl h)) hi
 ·rw [h2 t fun z hz he=>?_]
  ·exact (q4 t).step b8
  ·refine ht z hz (rep' z ?_) he;rcases Nat.lt_or_ge z ops.size with h | h
   ·exact h
   ·simp [bT,Array.getElem?_eq_none h] at he
end
end Go.Am
namespace Go.Am
def AV.deep1:AV→Prop
 | .any=>True
 | .d _=>True
 | .rop _=>True
 | .fn _ cs=>cs=[]
 | .mth _ cs=>cs=[]
 | .nil=>True
 | _=>False
def AV.deep:AV→Prop
 | .agg cs=>∀ c,c ∈ cs→c.deep1
 | .tup cs=>∀ c,c ∈ cs→(c.deep1 ∨ ∃ xs,c=.agg xs∧∀ x,x ∈ xs→x.deep1)
 | .fn _ cs=>∀ c,c ∈ cs→c.deep1
 | .mth _ cs=>∀ c,c ∈ cs→c.deep1
 | v=>v.deep1
def DV.flat:DV→Prop
 | .int _ _=>True
 | .bool _=>True
 | .str _=>True
 | .nilp=>True
 | .ro _ _=>False
 | .rof _ _=>False
 | .box _=>False
def AV.flat1:AV→Prop
 | .d v=>v.flat
 | .any=>True
 | .nil=>True
 | _=>False
def AV.flat:AV→Prop
 | .agg cs=>∀ c,c ∈ cs→c.flat1
 | .tup cs=>∀ c,c ∈ cs→(c.flat1 ∨ ∃ xs,c=.agg xs∧∀ x,x ∈ xs→x.flat1)
 | v=>v.flat1
section
variable {w:World} {S S':Nat→Prop} {σ σ':Nat→Option Nat} {hp hp':Hp} {U U':Nat→Prop}
theorem jS {v:AV} {x:Value} (hv:v.deep1) (hS:∀ b,S b→S' b) (h:AIs w S σ hp U v x):AIs w S' σ' hp' U' v x:=by
 cases h with
 | any=>exact .any _
 | d h=>exact .d (h.mono hS fun _ _=>rfl)
 | rop cs ad vs h1 h2 h3=>exact .rop cs ad vs (hS _ h1) h2 fun j y hy=>(h3 j y hy).mono hS fun _ _=>rfl
 | fn f cs xs hl h=>obtain rfl:cs=[]:=hv;exact .fn f [] xs hl aw
 | mth f cs xs hl h=>obtain rfl:cs=[]:=hv;exact .mth f [] xs hl aw
 | agg=>exact hv.elim
 | tup=>exact hv.elim
 | own=>exact hv.elim
 | sub=>exact hv.elim
 | ptr=>exact hv.elim
 | nil=>exact .nil
 | mp=>exact hv.elim
theorem lw {v:AV} {x:Value} (hv:v.deep) (hS:∀ b,S b→S' b) (h:AIs w S σ hp U v x):AIs w S' σ' hp' U' v x:=by
 cases v with
 | agg cs =>
  cases h with
  | agg _ xs hl h1 h=>exact .agg cs xs hl h1 fun i c x hc hx=>jS (hv c (cr hc)) hS (h i c x hc hx)
 | tup cs =>
  cases h with
  | tup _ xs hl h =>
   refine .tup cs xs hl fun i c x hc hx=>?_;have h0:=h i c x hc hx;rcases hv c (cr hc) with h1 | ⟨ys,rfl,h1⟩
   ·exact jS h1 hS h0
   ·cases h0 with
    | agg _ zs hl h2 h=>exact .agg ys zs hl h2 fun i c x hc hx=>jS (h1 c (cr hc)) hS (h i c x hc hx)
 | fn f cs =>
  cases h with
  | fn _ _ xs hl h=>exact .fn f cs xs hl fun i c x hc hx=>jS (hv c (cr hc)) hS (h i c x hc hx)
 | mth f cs =>
  cases h with
  | mth _ _ xs hl h=>exact .mth f cs xs hl fun i c x hc hx=>jS (hv c (cr hc)) hS (h i c x hc hx)
 | _=>exact jS hv hS h
theorem HD {v:DV} {x:Value} (hv:v.flat) (h:DIs w S v x):DIs w S' v x:=by
 cases h with
 | int=>exact .int _ _
 | bool=>exact .bool _
 | str=>exact .str _
 | nilp=>exact .nilp
 | ro=>exact hv.elim
 | rof=>exact hv.elim
 | box=>exact hv.elim
theorem pu {v:AV} {x:Value} (hv:v.flat1) (h:AIs w S σ hp U v x):AIs w S' σ' hp' U' v x:=by
 cases h with
 | d h=>exact .d (HD hv h)
 | any=>exact .any _
 | nil=>exact .nil
 | _=>exact hv.elim
theorem LK {v:AV} {x:Value} (hv:v.flat) (h:AIs w S σ hp U v x):AIs w S' σ' hp' U' v x:=by
 cases v with
 | agg cs =>
  cases h with
  | agg _ xs hl h1 h=>exact .agg cs xs hl h1 fun i c x hc hx=>pu (hv c (cr hc)) (h i c x hc hx)
 | tup cs =>
  cases h with
  | tup _ xs hl h =>
   refine .tup cs xs hl fun i c x hc hx=>?_;have h0:=h i c x hc hx;rcases hv c (cr hc) with h1 | ⟨ys,rfl,h1⟩
   ·exact pu h1 h0
   ·cases h0 with
    | agg _ zs hl h2 h=>exact .agg ys zs hl h2 fun i c x hc hx=>pu (h1 c (cr hc)) (h i c x hc hx)
 | _=>exact pu hv h
end
inductive SnapD (hp:Hp) (I:Nat→Prop):AV→DV→Prop
 | d (v:DV):SnapD hp I (.d v) v
 | nil (e:Nat):SnapD hp I .nil (.ro e [])
 | own {id i0 len tot:Nat} {b:Blk} {es:List (List DV)} (hI:I id) (hb:lk id hp=some b) (ht:b.es.length=tot) (hl:es.length=len) (he:∀ r,r ∈ es→r.length=b.e)
   (hes:∀ (i j:Nat) (row:List AV) (c:AV) (r:List DV) (y:DV),b.es[i0+i]?=some row→row[j]?=some c→es[i]?=some r→r[j]?=some y→SnapD hp I c y):SnapD hp I (.own id i0 len tot) (.ro b.e es)
 | sub {id i off e len cap tot:Nat} {b:Blk} {row:List AV} {es:List (List DV)} (hI:I id) (hb:lk id hp=some b) (ht:b.es.length=tot) (hr:b.es[i]?=some row) (he:0<e) (hl:es.length=len) (hel:∀ r,r ∈ es→r.length=e)
   (hes:∀ (k j:Nat) (c:AV) (r:List DV) (y:DV),row[off+k*e+j]?=some c→es[k]?=some r→r[j]?=some y→SnapD hp I c y):SnapD hp I (.sub id i off e len cap tot) (.ro e es)
theorem yS {c:Ctx} {hp:Hp} {U:Nat→Prop} {σ:Nat→Option Nat} {w:World} {I S':Nat→Prop} (hS:∀ b,bJ c w σ hp b→S' b) (hS2:∀ id blk g,I id→lk id hp=some blk→σ id=some g→S' g) (hr:Rel c hp U σ w) {v:AV} {d:DV} (hs:SnapD hp I v d) :
  ∀ {x:Value},AIs w (bJ c w σ hp) σ hp U v x→DIs w S' d x:=by
 induction hs with
 | d v =>
  intro x h
  cases h with | d h=>exact h.mono hS fun _ _=>rfl
 | nil e =>
  intro x h
  cases h with | nil=>exact .ro _ [] none 0 (fun _ _=>default) aw aw aw aw aw
 | own hI hb ht hl he hes ih =>
  rename_i id i0 len tot b es;intro x h
  cases h with
  | own _ _ _ _ A cap hN hlc hA0 h =>
   subst hl;obtain ⟨h1,h2⟩:=h _ hb;obtain ⟨h3,h3',h4⟩:=h2 ht;rcases Nat.eq_zero_or_pos es.length with hl0 | hl0
   ·have:es=[]:=List.eq_nil_of_length_eq_zero hl0;subst this;exact .ro _ [] A cap (fun _ _=>default) aw aw aw aw aw
   obtain ⟨g,hg,h5,_⟩:=h4 aq;obtain ⟨ccs,k1,k2,k3,k4,k5⟩:=hr.at hb hg
   have hcell:∀ i r j y,es[i]?=some r→r[j]?=some y→∃ u,ccs[(i0+i)*b.e+j]?=some u∧DIs w S' y u:=by
    intro i r j y hi hj;have hil:=(ci.1 hi).1;have hrow:b.es[i0+i]?=some b.es[i0+i]:=cm aq;have hrl:=k3 _ (cr hrow)
    have hjl:j<b.e:=by
     have:=(ci.1 hj).1;rw [he r (cr hi)] at this;exact this
    have hc:(b.es[i0+i])[j]?=some (b.es[i0+i])[j]:=cm aq
    have hlt:(i0+i)*b.e+j<ccs.size:=by
     have:(i0+i+1)*b.e≤b.es.length*b.e:=d9 _ aq;rw [Nat.add_mul,Nat.one_mul] at this;omega
    exact ⟨ccs[(i0+i)*b.e+j],dg hlt,ih i j _ _ r y hrow hc hi hj (k5 (i0+i) j _ _ _ hrow hc (dg hlt))⟩
   refine .ro b.e es A cap (fun i j=>ccs.getD ((i0+i)*b.e+j) undef) hlc he (fun r hr'=>⟨_,h5,hS2 id _ g hI hb hg⟩) (fun ad hA i j r y hi hj=>?_) (fun i j r y hi hj=>?_)
   ·rw [h5] at hA;injection hA with hA;subst hA;obtain ⟨u,hu,_⟩:=hcell i r j y hi hj;rw [fK,cell_of_row w _ _ ccs _ _ k1];rw [show i0*b.e+(i*b.e+j)=(i0+i)*b.e+j by rw [Nat.add_mul];omega,hu];simp [ct,hu]
   ·obtain ⟨u,hu,hd⟩:=hcell i r j y hi hj;simp only [ct,hu,Option.getD_some];exact hd
 | sub hI hb ht hrow hpe hl hel hes ih =>
  rename_i id i off e len cap tot b row es;intro x h
  cases h with
  | sub _ _ _ _ _ _ _ A hN hlc hA0 h =>
   subst hl;obtain ⟨h1,h2⟩:=h _ hb;obtain ⟨h3,h4,h5⟩:=h2 ht;by_cases hz:es.length=0
   ·obtain rfl:=List.eq_nil_of_length_eq_zero hz;exact .ro e [] A cap (fun _ _=>undef) hlc aw aw aw aw
   obtain ⟨g,hg,hAe⟩:=h5 aq;obtain ⟨ccs,k1,k2,k3,k4,k5⟩:=hr.at hb hg;have h5':∀ hc:0<cap,A=some ⟨g,i*b.e+off,none⟩:=fun hc=>hAe;have hrl:row.length=b.e:=k3 _ (cr hrow)
   have hke:∀ k,k<es.length→off+k*e+e≤b.e:=by
    intro k hk;have h6:(k+1)*e≤es.length*e:=d9 _ aq;have h7:es.length*e≤cap*e:=d9 _ hlc;rw [Nat.add_mul,Nat.one_mul] at h6;omega
   have hcell:∀ k r j y,es[k]?=some r→r[j]?=some y→∃ u,ccs[i*b.e+off+(k*e+j)]?=some u∧DIs w S' y u:=by
    intro k r j y hk' hj;have hk2:=hke k (ci.1 hk').1
    have hje:j<e:=by
     have:=(ci.1 hj).1;rw [hel r (cr hk')] at this;exact this
    have hc:row[off+k*e+j]?=some row[off+k*e+j]:=cm aq
    have hlt:i*b.e+off+(k*e+j)<ccs.size:=by
     have:(i+1)*b.e≤b.es.length*b.e:=d9 _ aq;rw [Nat.add_mul,Nat.one_mul] at this;omega
    refine ⟨ccs[i*b.e+off+(k*e+j)],dg hlt,ih k j _ r y hc hk' hj (k5 i (off+k*e+j) _ _ _ hrow hc ?_)⟩;rw [show i*b.e+(off+k*e+j)=i*b.e+off+(k*e+j) by omega];exact dg hlt
   refine .ro e es A cap (fun k j=>ccs.getD (i*b.e+off+(k*e+j)) undef) hlc hel (fun r hr'=>?_) (fun ad hA k j r y hk' hj=>?_) (fun k j r y hk' hj=>?_)
   ·have hpos:0<cap:=by
     have:=List.length_pos_of_mem hr';omega
    exact ⟨_,h5' hpos,hS2 id _ g hI hb hg⟩
   ·have hpos:0<cap:=by
     have:=(ci.1 hk').1;omega
    rw [h5' hpos] at hA;injection hA with hA;subst hA;obtain ⟨u,hu,_⟩:=hcell k r j y hk' hj;rw [fK,cell_of_row w _ _ ccs _ _ k1,hu];simp [ct,hu]
   ·obtain ⟨u,hu,hd⟩:=hcell k r j y hk' hj;simp only [ct,hu,Option.getD_some];exact hd
inductive CellsR (hp:Hp) (I:Nat→Prop):List AV→List DV→Prop
 | nil:CellsR hp I [] []
 | cons {c:AV} {y:DV} {cs:List AV} {ys:List DV} (h:SnapD hp I c y) (t:CellsR hp I cs ys):CellsR hp I (c :: cs) (y :: ys)
inductive RowsR (hp:Hp) (I:Nat→Prop):List (List AV)→List (List DV)→Prop
 | nil:RowsR hp I [] []
 | cons {c:List AV} {y:List DV} {cs:List (List AV)} {ys:List (List DV)} (h:CellsR hp I c y) (t:RowsR hp I cs ys):RowsR hp I (c :: cs) (y :: ys)
theorem CellsR.at {hp:Hp} {I:Nat→Prop} {cs:List AV} {ys:List DV} (h:CellsR hp I cs ys):∀ (j:Nat) (c:AV) (y:DV),cs[j]?=some c→ys[j]?=some y→SnapD hp I c y:=by
 induction h with
 | nil=>intro j c y h;simp at h
 | cons h t ih =>
  intro j c y hc hy
  cases j with
  | zero=>simp at hc hy;subst hc;subst hy;exact h
  | succ j=>simp at hc hy;exact ih j c y hc hy
theorem CellsR.len {hp:Hp} {I:Nat→Prop} {cs:List AV} {ys:List DV} (h:CellsR hp I cs ys):cs.length=ys.length:=by
 induction h with
 | nil=>rfl
 | cons _ _ ih=>simp [ih]
theorem RowsR.at {hp:Hp} {I:Nat→Prop} {cs:List (List AV)} {ys:List (List DV)} (h:RowsR hp I cs ys):∀ (j:Nat) (c:List AV) (y:List DV),cs[j]?=some c→ys[j]?=some y→CellsR hp I c y:=by
 induction h with
 | nil=>intro j c y h;simp at h
 | cons h t ih =>
  intro j c y hc hy
  cases j with
  | zero=>simp at hc hy;subst hc;subst hy;exact h
  | succ j=>simp at hc hy;exact ih j c y hc hy
theorem RowsR.len {hp:Hp} {I:Nat→Prop} {cs:List (List AV)} {ys:List (List DV)} (h:RowsR hp I cs ys):cs.length=ys.length:=by
 induction h with
 | nil=>rfl
 | cons _ _ ih=>simp [ih]
theorem qB {hp:Hp} {I:Nat→Prop}:∀ ys:List DV,CellsR hp I (ys.map .d) ys
 | []=>.nil
 | y :: r=>.cons (.d y) (qB r)
theorem mD {hp:Hp} {I:Nat→Prop}:∀ ys:List (List DV),RowsR hp I (ys.map fun r=>r.map .d) ys
 | []=>.nil
 | y :: r=>.cons (qB y) (mD r)
theorem RowsR.append {hp:Hp} {I:Nat→Prop} {a c:List (List AV)} {b d:List (List DV)} (h:RowsR hp I a b) (h2:RowsR hp I c d):RowsR hp I (a ++ c) (b ++ d):=by
 induction h with
 | nil=>exact h2
 | cons h t ih=>exact .cons h ih
theorem iH {hp:Hp} {I:Nat→Prop} {id i0 len tot:Nat} {ty:TypeId} {e:Nat} {rows:List (List AV)} {es:List (List DV)} (hb:lk id hp=some ⟨ty,e,rows⟩) (hI:I id) (ht:rows.length=tot) (hR:RowsR hp I ((rows.drop i0).take len) es) (hl:es.length=len) (he:∀ r,r ∈ es→r.length=e) :
  SnapD hp I (.own id i0 len tot) (.ro e es):=by
 refine .own (b:=⟨ty,e,rows⟩) hI hb ht hl he fun i j row c r y h1 h2 h3 h4=>?_
 have hi:i<len:=by
  have:=(ci.1 h3).1;omega
 refine (hR.at i row r ?_ h3).at j c y h2 h4;rw [List.getElem?_take,if_pos hi,List.getElem?_drop];exact h1
theorem sR {hp:Hp} {I:Nat→Prop} {id n:Nat} {ty:TypeId} {e:Nat} {es:List (List DV)} (hb:lk id hp=some ⟨ty,e,es.map fun r=>r.map .d⟩) (hI:I id) (hn:es.length=n) (he:∀ r,r ∈ es→r.length=e):SnapD hp I (.own id 0 n n) (.ro e es):=by
 refine iH hb hI (by simp [hn]) ?_ hn he
 have:((es.map fun r=>r.map AV.d).drop 0).take n=es.map fun r=>r.map .d:=by
  rw [List.drop_zero,cx (by simp [hn])]
 rw [this];exact mD es
def jr (hp:Hp) (I:Nat→Prop) (c c':AV):Prop:=(c'=c∧c.deep1) ∨ ∃ d,c'=.d d∧SnapD hp I c d
def sS (hp:Hp) (I:Nat→Prop) (cs cs':List AV):Prop:=cs'.length=cs.length∧∀ (i:Nat) (c c':AV),cs[i]?=some c→cs'[i]?=some c'→jr hp I c c'
inductive Snap (hp:Hp) (I:Nat→Prop):AV→AV→Prop
 | one {v v':AV} (h:jr hp I v v'):Snap hp I v v'
 | deep {v:AV} (h:v.deep):Snap hp I v v
 | agg {cs cs':List AV} (h:sS hp I cs cs'):Snap hp I (.agg cs) (.agg cs')
 | tup {cs cs':List AV} (hl:cs'.length=cs.length) (h:∀ (i:Nat) (c c':AV),cs[i]?=some c→cs'[i]?=some c'→jr hp I c c' ∨ ∃ xs xs',c=.agg xs∧c'=.agg xs'∧sS hp I xs xs'):Snap hp I (.tup cs) (.tup cs')
 | ptr {id i off tot:Nat} {b:Blk} {row:List AV} {cs:List DV} (hI:I id) (hb:lk id hp=some b) (ht:b.es.length=tot) (hr:b.es[i]?=some row) (hc:CellsR hp I (row.drop off) cs):Snap hp I (.ptr id i off tot) (.rop cs)
 | fnp {f:FuncId} {id i off tot:Nat} {b:Blk} {row:List AV} {cs:List DV} (hI:I id) (hb:lk id hp=some b) (ht:b.es.length=tot) (hr:b.es[i]?=some row) (hc:CellsR hp I (row.drop off) cs):Snap hp I (.fn f [.ptr id i off tot]) (.fn f [.rop cs])
theorem nu {c:Ctx} {hp:Hp} {U U':Nat→Prop} {σ σ':Nat→Option Nat} {hp':Hp} {w:World} {I:Nat→Prop} {v v':AV} {x:Value} {S':Nat→Prop} (hS:∀ b,bJ c w σ hp b→S' b) (hS2:∀ id blk g,I id→lk id hp=some blk→σ id=some g→S' g) (hr:Rel c hp U σ w) (hs:Snap hp I v v') (h:AIs w (bJ c w σ hp) σ hp U v x) :
  AIs w S' σ' hp' U' v' x:=by
 have one:∀ {v v':AV} {x:Value},jr hp I v v'→AIs w (bJ c w σ hp) σ hp U v x→AIs w S' σ' hp' U' v' x:=by
  intro v v' x hs h;rcases hs with ⟨rfl,hd⟩ | ⟨d,rfl,hd⟩
  ·exact jS hd hS h
  ·exact .d (yS hS hS2 hr hd h)
 have cells:∀ {cs cs':List AV} {xs:Array Value},sS hp I cs cs'→cs.length=xs.size→(∀ (i:Nat) (x:Value),xs[i]?=some x→x.oneCell'=true)→(∀ (i:Nat) (c':AV) (x:Value),cs[i]?=some c'→xs[i]?=some x→AIs w (bJ c w σ hp) σ hp U c' x)→AIs w S' σ' hp' U' (.agg cs') (.agg xs):=by
  intro cs cs' xs hs hl h1 h;refine .agg cs' xs (by rw [hs.1,hl]) h1 fun i u x hu hx=>?_
  have hi:i<cs.length:=by
   have:=(ci.1 hu).1;rw [hs.1] at this;exact this
  exact one (hs.2 i _ u (cm hi) hu) (h i _ x (cm hi) hx)
 have pcase:∀ {id i off tot:Nat} {b:Blk} {row:List AV} {cs:List DV} {x:Value},I id→lk id hp=some b→b.es.length=tot→b.es[i]?=some row→CellsR hp I (row.drop off) cs→AIs w (bJ c w σ hp) σ hp U (.ptr id i off tot) x→AIs w S' σ' hp' U' (.rop cs) x:=by
  intro id i off tot b row cs x hI hb ht hrow hcs h;obtain ⟨g,ccs,hg,rfl,hheap,hone,hrl,hle,hcell⟩:=nk hr h hb hrow ht
  have key:∀ (j:Nat) (y:DV),cs[j]?=some y→∃ u,ccs[i*b.e+off+j]?=some u∧DIs w S' y u:=by
   intro j y hy
   have hj:j<(row.drop off).length:=by
    rw [hcs.len];exact (ci.1 hy).1
   have hy':(row.drop off)[j]?=some (row.drop off)[j]:=cm hj;have hy'':=hy';rw [List.getElem?_drop] at hy'';obtain ⟨u,hu,hd⟩:=hcell (off+j) _ hy'';exact ⟨u,by rw [Nat.add_assoc];exact hu,yS hS hS2 hr (hcs.at j _ y hy' hy) hd⟩
  refine .rop _ _ (fun j=>ccs.getD (i*b.e+off+j) undef) (hS2 id b g hI hb hg) (fun j y hy=>?_) (fun j y hy=>?_)
  ·obtain ⟨u,hu,_⟩:=key j y hy;rw [fK,cell_of_row w _ _ ccs _ _ hheap,hu];simp [ct,hu]
  ·obtain ⟨u,hu,hd⟩:=key j y hy;simp only [ct,hu,Option.getD_some];exact hd
 cases hs with
 | one h1=>exact one h1 h
 | deep hd=>exact lw hd hS h
 | agg hc =>
  cases h with
  | agg _ xs hl h1 h=>exact cells hc hl h1 h
 | tup hl' hc =>
  rename_i cs cs'
  cases h with
  | tup _ xs hl h =>
   refine .tup cs' xs (by rw [hl',hl]) fun i u x hu hx=>?_
   have hi:i<cs.length:=by
    have:=(ci.1 hu).1;rw [hl'] at this;exact this
   have hx':=h i _ x (cm hi) hx;rcases hc i _ u (cm hi) hu with h1 | ⟨ys,ys',e1,e2,h1⟩
   ·exact one h1 hx'
   ·rw [e1] at hx';subst e2
    cases hx' with
    | agg _ xs' hl2 h2 h3=>exact cells h1 hl2 h2 h3
 | ptr hI hb ht hrow hcs=>exact pcase hI hb ht hrow hcs h
 | fnp hI hb ht hrow hcs =>
  cases h with
  | fn _ _ xs hl h =>
   refine .fn _ _ xs (by simpa using hl) fun i u x hu hx=>?_
   cases i with
   | succ i=>simp at hu
   | zero =>
    simp only [List.getElem?_cons_zero,Option.some.injEq] at hu;subst hu;exact pcase hI hb ht hrow hcs (h 0 _ x rfl hx)
def aE (ids:List Nat):Hp→Hp
 | []=>[]
 | (m,b) :: t=>if ids.contains m then aE ids t else (m,b) :: aE ids t
theorem pv (ids:List Nat) (i:Nat):∀ hp:Hp,lk i (aE ids hp)=if ids.contains i=true then none else lk i hp
 | []=>by simp [aE,lk]
 | (m,b) :: t=>by
  have ih:=pv ids i t;simp only [aE];by_cases hm:ids.contains m=true
  ·rw [if_pos hm,ih]
   split
   ·rfl
   ·rename_i hi;simp only [lk];rw [if_neg (fun e=>hi (by rw [← e];exact hm))]
  ·rw [if_neg hm];simp only [lk,ih];by_cases e:m=i
   ·subst e;rw [if_pos rfl,if_neg hm];simp
   ·rw [if_neg e];simp [e]
theorem yT {c:Ctx} {hp:Hp} {U:Nat→Prop} {σ:Nat→Option Nat} {w:World} (ids:List Nat) (hr:Rel c hp U σ w) :
  Rel c (aE ids hp) U σ w∧Step w (bJ c w σ hp) σ hp U w (bJ c w σ (aE ids hp)) σ (aE ids hp) U:=by
 have hlk:∀ i b,lk i (aE ids hp)=some b→lk i hp=some b:=by
  intro i b h;rw [pv] at h
  split at h
  ·cases h
  ·exact h
 have hst:Step w (bJ c w σ hp) σ hp U w (bJ c w σ (aE ids hp)) σ (aE ids hp) U :=
  ⟨fun b h=>⟨⟨h.1.1,fun id blk g hk hg=>h.1.2 id blk g (hlk _ _ hk) hg⟩,h.2⟩,fun _ _=>rfl,fun _ h=>h,fun id b' _ h=>⟨b',hlk _ _ h,rfl,rfl,cL _,fun _ g hg=>⟨hg,fun _ h=>h⟩⟩⟩
 refine ⟨⟨fun i j bi bj g hi hj=>hr.inj i j bi bj g (hlk _ _ hi) (hlk _ _ hj),fun i b h=>hr.lt i b (hlk _ _ h),fun i b h=>?_,fun i b g h=>hr.mine i b g (hlk _ _ h),hr.os,hr.tape,hr.output,hr.size,hr.old⟩,hst⟩;rcases hr.blk i b (hlk _ _ h) with k | ⟨g,k1,k2⟩
 ·exact .inl k
 ·exact .inr ⟨g,k1,k2.step hst rfl⟩
end Go.Am
namespace Go.Am
structure St where
 fr:Fr
 hp:Hp
 nx:Nat
def kG (c:Ctx) (st:St) (a:Act) (w:World):Prop:=nW c st.fr st.hp (fun i=>i<st.nx) a w
def T9 (f:St→Prop) (fr:Fr) (nx:Nat) (dst:Option Tmp) (v:AV) (hp:Hp):Prop:=f ⟨bn fr dst v,hp,nx+32⟩
def px (P:Program) (n:Nat) (ops:Array Oper):List Oper→(St→Prop)→St→Prop
 | [],K,st=>K st
 | o :: rest,K,st =>
  match o.guard with
  | none=>fJ n o.dst∧bK P st.fr st.hp st.nx o.op (T9 (px P n ops rest K) st.fr st.nx o.dst)
  | some (j,want) =>
   match (ops[j]?).bind (·.dst) with
   | some d =>
    (match fv d st.fr with
    | .d (.bool b)=>fJ n o.dst∧(b=want→bK P st.fr st.hp st.nx o.op (T9 (px P n ops rest K) st.fr st.nx o.dst)) ∧
      (b=!want→T9 (px P n ops rest K) st.fr st.nx o.dst (.tup []) st.hp)
    | .tup []=>fJ n o.dst∧T9 (px P n ops rest K) st.fr st.nx o.dst (.tup []) st.hp
    | _=>False)
   | none=>False
def HE (Q:Exit→St→Prop) (st:St):Prop:=Q .normal st
def Ba (f:St→Prop) (Q:Exit→St→Prop):Exit→St→Prop
 | .normal,st=>f st
 | e,st=>Q e st
def qC (id:Nat) (Q:Exit→St→Prop):Exit→St→Prop
 | .exit i,st=>if i=id then Q .normal st else Q (.exit i) st
 | e,st=>Q e st
def AV.low1 (N:Nat):AV→Prop
 | .own id _ _ _=>id<N
 | .sub id _ _ _ _ _ _=>id<N
 | .ptr id _ _ _=>id<N
 | .mp id=>id<N
 | .agg _=>False
 | .tup _=>False
 | .fn _ cs=>cs=[]
 | .mth _ cs=>cs=[]
 | _=>True
def AV.low (N:Nat):AV→Prop
 | .agg cs=>∀ c,c ∈ cs→c.low1 N
 | .fn _ cs=>∀ c,c ∈ cs→c.low1 N
 | .mth _ cs=>∀ c,c ∈ cs→c.low1 N
 | v=>v.low1 N
def ai (st st':St) (v u:AV):Prop :=
 u=v ∨ (v=.nil∧match u with
  | .own id 0 0 0=>(match lk id st'.hp with
   | some b=>b.es=[]
   | none=>False)
  | _=>False)
def aA (st st':St):Prop :=
 (∀ p,p ∈ st'.fr→ai st st' (fv p.1 st.fr) p.2∧p.2.low st'.nx) ∧
 (∀ p,p ∈ st'.hp→(lk p.1 st.hp=some p.2 ∨ (st.nx≤p.1∧p.2.es=[]))∧p.1<st'.nx∧∀ r,r ∈ p.2.es→∀ v,v ∈ r→v.low1 st'.nx)∧(st.nx≤st'.nx ∨ 64≤st'.nx)
def Wk (st st':St):Prop:=∀ (c:Ctx) (a:Act) (w:World),kG c st a w→kG c st' a w
theorem Wk.trans {s1 s2 s3:St} (h:Wk s1 s2) (k:Wk s2 s3):Wk s1 s3:=fun c a w hs=>k c a w (h c a w hs)
def yU (I:Nat→St→Prop) (m:Nat) (Q:Exit→St→Prop):Exit→St→Prop
 | .normal,st=>∃ m' st',m'<m∧Wk st st'∧I m' st'
 | e,st=>Q e st
def Pe (W:(Exit→St→Prop)→St→Prop) (Q:Exit→St→Prop) (st:St):Prop :=
 ∃ I:Nat→St→Prop,(∃ m st',Wk st st'∧I m st')∧∀ m st',I m st'→W (yU I m Q) st'
def mf (P:Program) (n:Nat):Code→(Exit→St→Prop)→St→Prop
 | .skip,Q,st=>Q .normal st
 | .region _ ops false,Q,st=>px P n ops ops.toList (HE Q) st
 | .region _ ops true,Q,st=>(∃ zs ss m,A7 n ops zs ss m=true∧P.follows .mixedOrders=true∧zW P ops st.nx st.hp (fun fr=>AM P ops st.nx st.hp (fun fr hp=>Q .normal ⟨fr,hp,st.nx+32*ops.size⟩) ss m fr st.hp) zs st.fr) ∨
   ∃ zs is za t st',sQ n ops zs is za t=true∧P.follows .mixedOrders=true∧zW P ops st.nx st.hp (fun fr=>uD P ops st.nx st.hp (fun fr hp=>Wk ⟨fr,hp,st.nx+32*ops.size⟩ st') t fr st.hp) zs st.fr∧Q .normal st'
 | .seq x y,Q,st=>mf P n x (Ba (mf P n y Q) Q) st
 | .cond c x y,Q,st =>
  match ev st.fr c with
  | .d (.bool b)=>(b=true→mf P n x Q st)∧(b=false→mf P n y Q st)
  | _=>False
 | .block id x,Q,st=>mf P n x (qC id Q) st
 | .loop x,Q,st=>Pe (mf P n x) Q st
 | .exit id,Q,st=>Q (.exit id) st
 | .ret,Q,st=>Q .ret st
 | _,_,_=>False
section
variable {P:Program} {c:Ctx}
theorem HF (nx i:Nat):dJ (fun i=>i<nx) nx i ↔ i<nx+32:=by unfold dJ;omega
theorem sT (nx:Nat):dJ (fun i=>i<nx) nx=fun i=>i<nx+32:=funext fun i=>propext (HF nx i)
theorem Bc {st:St} {a:Act} {w:World} (h:kG c st a w):∃ σ,Rel c st.hp (fun i=>i<st.nx) σ w∧(∀ n,AIs w (bJ c w σ st.hp) σ st.hp (fun i=>i<st.nx) (fv n st.fr) (a.tmps.getD n undef))∧∀ x,AIs w (bJ c w σ st.hp) σ st.hp (fun i=>i<st.nx) (ev st.fr x) (a.eval x):=by
 obtain ⟨_,_,σ,hr,hf,_⟩:=h;exact ⟨σ,hr,hf,fun x=>uL hf x⟩
theorem Dk {st:St} {a:Act} {w:World} {o:Oper} {f:St→Prop} {next:Act→World→Prop} {Q:Exit→Act→World→Prop}
  (hs:kG c st a w) (hd:fJ c.n o.dst) (h:bK P st.fr st.hp st.nx o.op (T9 f st.fr st.nx o.dst))
  (hn:∀ st' a' w',f st'→kG c st' a' w'→next a' w'):o.wp P a w next Q:=by
 obtain ⟨h1,h2,σ,hr,hf,hh⟩:=hs;have hok:=pj (o:=o) (N:=st.nx) hr (fun x=>uL hf x) (fun i h1 _ h3=>by have h4:i<st.nx:=h3;omega) h;refine o5 h1 h2 hd hf hh hok fun v hp' a' w' hK hS=>hn _ a' w' hK ?_;rw [sT] at hS;exact hS
theorem Dl {st:St} {a:Act} {w:World} {dst:Option Tmp} (hs:kG c st a w):kG c ⟨bn st.fr dst (.tup []),st.hp,st.nx+32⟩ (a.put dst undef) w:=by
 obtain ⟨h1,h2,σ,hr,hf,hh⟩:=hs;have hr':Rel c st.hp (fun i=>i<st.nx+32) σ w:=by rw [← sT];exact hr.more
 have hst:Step w (bJ c w σ st.hp) σ st.hp (fun i=>i<st.nx) w (bJ c w σ st.hp) σ st.hp (fun i=>i<st.nx+32):=by rw [← sT];exact Step.more
 cases dst with
 | none=>exact ⟨h1,h2,σ,hr',fun n=>(hf n).step hst,hh.trans hst⟩
 | some d =>
  refine ⟨h1,by simp [Act.put,h2],σ,hr',fun n=>?_,hh.trans hst⟩;simp only [bn,Act.put,jx];by_cases h:d=n
  ·subst h
   have hu:(a.tmps.setIfInBounds d undef).getD d undef=.tuple #[]:=by
    simp only [ct,Array.getElem?_setIfInBounds,if_true]
    split <;> rfl
   rw [hu];simp only [if_true];exact .tup [] #[] rfl aw
  ·simp only [if_neg h]
   have:(a.tmps.setIfInBounds d undef).getD n undef=a.tmps.getD n undef:=by
    simp only [ct,Array.getElem?_setIfInBounds,if_neg h]
   rw [this];exact (hf n).step hst
theorem Dm {ops:Array Oper} {Q:Exit→Act→World→Prop} {K:St→Prop} (hQ:∀ st a w,K st→kG c st a w→Q .normal a w) :
  ∀ (l:List Oper) (st:St) (a:Act) (w:World),px P c.n ops l K st→kG c st a w→wpList P ops Q l a w
 | [],st,a,w,h,hs=>hQ st a w h hs
 | o :: rest,st,a,w,h,hs=>by
  have ih:=Dm (ops:=ops) (Q:=Q) hQ rest;simp only [px] at h;unfold wpList
  split at h
  ·rename_i hg;obtain ⟨hd,h⟩:=h;rw [if_pos (by simp [Region.wanted,hg])];exact .inl (Dk hs hd h fun st' a' w' h' hs'=>ih st' a' w' h' hs')
  ·rename_i j want hg
   split at h
   ·rename_i d hd
    split at h
    ·rename_i b hb;obtain ⟨hdst,h1,h2⟩:=h;obtain ⟨σ,hr,hf,_⟩:=Bc hs;have hv:=fE (hb ▸ hf d)
     have hy:yielded ops a.tmps j=some b:=by
      unfold yielded;rw [hd];have hv':a.tmps[d]?.getD undef=.bool b:=by simpa using hv
      cases ht:a.tmps[d]? with
      | none=>rw [ht] at hv';cases hv'
      | some u=>rw [ht] at hv';simp at hv';subst hv';simp [ht]
     by_cases hw:b=want
     ·rw [if_pos (by simp [Region.wanted,hg,hy,hw])];exact .inl (Dk hs hdst (h1 hw) fun st' a' w' h' hs'=>ih st' a' w' h' hs')
     ·rw [if_neg (by simp [Region.wanted,hg,hy,hw])];exact ih _ _ _ (h2 (by cases b <;> cases want <;> simp_all)) (Dl hs)
    ·rename_i hb;obtain ⟨hdst,h2⟩:=h;obtain ⟨σ,hr,hf,_⟩:=Bc hs;have hv:=hb ▸ hf d
     have hy:¬ (yielded ops a.tmps j=some want):=by
      unfold yielded;rw [hd]
      cases ht:a.tmps[d]? with
      | none=>simp [ht]
      | some u =>
       have e:a.tmps.getD d undef=u:=by simp [ct,ht]
       rw [e] at hv
       cases hv with
       | tup _ xs _ _=>simp [ht]
     rw [if_neg (by simp [Region.wanted,hg,hy])];exact ih _ _ _ h2 (Dl hs)
    ·exact h.elim
   ·exact h.elim
theorem kR {w:World} {S S':Nat→Prop} {σ σ':Nat→Option Nat} {hp hp':Hp} {U:Nat→Prop} {N:Nat} (hS:∀ b,S b→S' b) (hh:∀ id b,U id→lk id hp'=some b→lk id hp=some b) (hσ:∀ id,U id→σ' id=σ id) {v:AV} {x:Value} (hl:v.low1 N) (h:AIs w S σ hp U v x) :
  AIs w S' σ' hp' (fun i=>i<N) v x:=by
 cases h with
 | any=>exact .any _
 | d h=>exact .d (h.mono hS fun _ _=>rfl)
 | agg=>exact hl.elim
 | tup=>exact hl.elim
 | own id i0 len tot A cap hN hle h0 h=>exact .own id i0 len tot A cap hl hle h0 fun b hb=>by rw [hσ id hN];exact h b (hh id b hN hb)
 | sub id i off e len cap tot A hN hle h0 h=>exact .sub id i off e len cap tot A hl hle h0 fun b hb=>by rw [hσ id hN];exact h b (hh id b hN hb)
 | ptr id i off tot a hN h=>exact .ptr id i off tot a hl fun b hb=>by rw [hσ id hN];exact h b (hh id b hN hb)
 | rop cs ad vs h1 h2 h3=>exact .rop cs ad vs (hS _ h1) h2 fun j y hy=>(h3 j y hy).mono hS fun _ _=>rfl
 | fn f cs xs hle h=>obtain rfl:cs=[]:=hl;exact .fn f [] xs hle aw
 | mth f cs xs hle h=>obtain rfl:cs=[]:=hl;exact .mth f [] xs hle aw
 | nil=>exact .nil
 | mp id g hN h=>exact .mp id g hl fun b hb=>h b (hh id b hN hb)
theorem HG {w:World} {S S':Nat→Prop} {σ σ':Nat→Option Nat} {hp hp':Hp} {U:Nat→Prop} {N:Nat} (hS:∀ b,S b→S' b) (hh:∀ id b,U id→lk id hp'=some b→lk id hp=some b) (hσ:∀ id,U id→σ' id=σ id) {v:AV} {x:Value} (hl:v.low N) (h:AIs w S σ hp U v x) :
  AIs w S' σ' hp' (fun i=>i<N) v x:=by
 cases v with
 | agg cs =>
  cases h with
  | agg _ xs hle h1 h=>exact .agg cs xs hle h1 fun i c x hc hx=>kR hS hh hσ (hl c (cr hc)) (h i c x hc hx)
 | fn f cs =>
  cases h with
  | fn _ _ xs hle h=>exact .fn f cs xs hle fun i c x hc hx=>kR hS hh hσ (hl c (cr hc)) (h i c x hc hx)
 | mth f cs =>
  cases h with
  | mth _ _ xs hle h=>exact .mth f cs xs hle fun i c x hc hx=>kR hS hh hσ (hl c (cr hc)) (h i c x hc hx)
 | _=>exact kR hS hh hσ hl h
theorem bL {α:Type} {n:Nat} {v:α}:∀ {l:List (Nat × α)},lk n l=some v→(n,v) ∈ l
 | [],h=>by cases h
 | (m,u) :: t,h=>by
  simp only [lk] at h
  split at h
  ·rename_i e;injection h with h;subst e;subst h;exact dz ..
  ·exact cS _ (bL h)
theorem HH {st st':St} {a:Act} {w:World} (hw:aA st st') (hs:kG c st a w):kG c st' a w:=by
 obtain ⟨hf',hh',hnx⟩:=hw;obtain ⟨h1,h2,σ,hr,hf,hist⟩:=hs
 have hh:∀ id b,id<st.nx→lk id st'.hp=some b→lk id st.hp=some b:=fun id b hid h=>by
  rcases (hh' _ (bL h)).1 with h | ⟨h,_⟩
  ·exact h
  ·simp only at h;omega
 let σ':Nat→Option Nat:=fun id=>if st.nx≤id then none else σ id
 have hσ:∀ id,id<st.nx→σ' id=σ id:=fun id h=>if_neg aq
 have hσ':∀ id g,σ' id=some g→id<st.nx∧σ id=some g:=by
  intro id g h;by_cases hle:st.nx≤id
  ·simp only [σ',if_pos hle] at h;cases h
  ·exact ⟨aq,by rw [hσ id aq] at h;exact h⟩
 have hS:∀ b,bJ c w σ st.hp b→bJ c w σ' st'.hp b:=fun b hb=>⟨⟨hb.1.1,fun id blk g h hg=>by
  obtain ⟨h3,h4⟩:=hσ' id g hg
  exact hb.1.2 id blk g (hh id blk h3 h) h4⟩,hb.2⟩
 refine ⟨h1,h2,σ',⟨fun i j bi bj g hi hj hgi hgj=>?_,fun i b h=>(hh' _ (bL h)).2.1,fun i b h=>?_,fun i b g h hg=>?_,hr.os,hr.tape,hr.output,hr.size,hr.old⟩,fun n=>?_,⟨fun b h=>hS b (hist.sub b h),hist.cell,fun i h=>?_,fun id b' hu hb'=>?_⟩⟩
 ·obtain ⟨a1,a2⟩:=hσ' i g hgi;obtain ⟨b1,b2⟩:=hσ' j g hgj;exact hr.inj i j bi bj g (hh i bi a1 hi) (hh j bj b1 hj) a2 b2
 ·rcases (hh' _ (bL h)).1 with h0 | ⟨h0,h3⟩
  ·simp only at h0;have hi:i<st.nx:=hr.lt i b h0;rcases hr.blk i b h0 with ⟨k1,k2⟩ | ⟨g,k1,ccs,k2,k3,k4,k5,k6⟩
   ·exact .inl ⟨(hσ i hi).trans k1,k2⟩
   ·exact .inr ⟨g,(hσ i hi).trans k1,ccs,k2,k3,k4,k5,fun i' j x y v a1 a2 a3=>kR hS hh hσ ((hh' _ (bL h)).2.2 x (cr a1) y (cr a2)) (k6 i' j x y v a1 a2 a3)⟩
  ·exact .inl ⟨if_pos h0,.inl h3⟩
 ·obtain ⟨a1,a2⟩:=hσ' i g hg;exact hr.mine i b g (hh i b a1 h) a2
 ·cases hl:lk n st'.fr with
  | none=>simp only [fv,hl];exact .any _
  | some v =>
   have:=hf' _ (bL hl);simp only [fv,hl,Option.getD_some];obtain ⟨h3,h4⟩:=this;simp only at h3 h4;rcases h3 with h3 | ⟨h3,h5⟩
   ·refine HG (U:=fun i=>i<st.nx) hS hh hσ h4 ?_;rw [h3];exact hf n
   ·have hx:=hf n;rw [h3] at hx;generalize a.tmps.getD n undef=x at hx
    cases hx with
    | nil =>
     split at h5
     ·rename_i id;exact .own id 0 0 0 none 0 h4 (cL _) (fun _=>rfl) fun b hb=>⟨Nat.zero_le _,fun _=>⟨cL _,cL _,fun h=>aq⟩⟩
     ·exact h5.elim
 ·have h0:=hist.le i h;have h3:=c.hk;rcases hnx with h4 | h4
  ·exact Nat.lt_of_lt_of_le h0 h4
  ·exact Nat.lt_of_lt_of_le (Nat.lt_of_lt_of_le h h3) h4
 ·have h0:=hist.le id hu;obtain ⟨b1,f0,f1,f2,f3,f4⟩:=hist.blk id b' hu (hh id b' h0 hb');refine ⟨b1,f0,f1,f2,f3,fun hl g hg=>?_⟩;obtain ⟨p1,p2⟩:=f4 hl g hg;exact ⟨(hσ id h0).trans p1,p2⟩
theorem cz {st st':St} (h:aA st st'):Wk st st':=fun _ _ _ hs=>HH h hs
theorem uU {fr:Fr} {hp:Hp} {U U':Nat→Prop} {a:Act} {w:World} (h:∀ k,U k→U' k) (hs:nW c fr hp U a w):nW c fr hp U' a w:=by
 obtain ⟨q1,q2,σ,hr,hf,hh⟩:=hs;have st:Step w (bJ c w σ hp) σ hp U w (bJ c w σ hp) σ hp U':=⟨fun _ h=>h,fun _ _=>rfl,h,fun id b' _ h=>⟨b',h,rfl,rfl,cL _,fun _ g hg=>⟨hg,fun _ h=>h⟩⟩⟩;refine ⟨q1,q2,σ,⟨hr.inj,fun i b hb=>h _ (hr.lt i b hb),fun i b hb=>?_,hr.mine,hr.os,hr.tape,hr.output,hr.size,hr.old⟩,fun n=>(hf n).step st,hh.trans st⟩;rcases hr.blk i b hb with h0 | ⟨g,hg,h0⟩
 ·exact .inl h0
 ·exact .inr ⟨g,hg,h0.step st rfl⟩
theorem jA:∀ (x:Code) (Q:Exit→St→Prop) (st:St) (a:Act) (w:World),mf P c.n x Q st→kG c st a w→x.wp P (fun e a' w'=>∃ st',Q e st'∧kG c st' a' w') a w
 | .skip,Q,st,a,w,h,hs=>wp_skip ⟨st,h,hs⟩
 | .region id ops false,Q,st,a,w,h,hs=>wp_region_list (Dm (Q:=fun e a' w'=>∃ st',Q e st'∧kG c st' a' w') (fun st a w hK hs=>⟨st,hK,hs⟩) ops.toList st a w h hs)
 | .region id ops true,Q,st,a,w,h,hs=>by
  rcases h with ⟨zs,ss,m,hB,hm,h⟩ | ⟨zs,is,za,t,st',hB,hm,h,hq⟩
  ·exact A9 hm hB (fun fr hp a w U hK hU hS=>⟨_,hK,uU hU hS⟩) (fun k hk=>hk) hs h
  ·exact LJ hm hB (fun fr hp a w U hK hU hS=>⟨st',hq,hK c _ _ (uU hU hS)⟩) (fun k hk=>hk) hs h
 | .seq x y,Q,st,a,w,h,hs=>by
  refine wp_seq (wp_mono (jA x _ st a w h hs) fun e a' w' ⟨st',hq,hs'⟩=>?_)
  cases e with
  | normal=>exact jA y Q st' a' w' hq hs'
  | _=>exact ⟨st',hq,hs'⟩
 | .cond cnd x y,Q,st,a,w,h,hs=>by
  simp only [mf] at h
  split at h
  ·rename_i b hb;obtain ⟨σ,_,_,E⟩:=Bc hs;have hv:=fE (hb ▸ E cnd);refine wp_cond_split hv (fun ht=>?_) (fun hf=>?_)
   ·exact jA x Q st a w (h.1 ht) hs
   ·exact jA y Q st a w (h.2 hf) hs
  ·exact h.elim
 | .block id x,Q,st,a,w,h,hs=>by
  refine wp_block (wp_mono (jA x _ st a w h hs) fun e a' w' ⟨st',hq,hs'⟩=>?_)
  cases e with
  | exit i =>
   simp only [qC] at hq;simp only [Exit.inBlock]
   split at hq
   ·rename_i hi;rw [if_pos hi];exact ⟨st',hq,hs'⟩
   ·rename_i hi;rw [if_neg hi];exact ⟨st',hq,hs'⟩
  | _=>exact ⟨st',hq,hs'⟩
 | .loop x,Q,st,a,w,h,hs=>by
  obtain ⟨I,⟨m0,st0,hw0,hI0⟩,hround⟩:=h
  have key:∀ m st a w,I m st→kG c st a w→(Code.loop x).wp P (fun e a' w'=>∃ st',Q e st'∧kG c st' a' w') a w:=by
   intro m0 st0 a0 w0 hI hsim
   -- a measure: the least m with which some state of the relation is there
   refine wp_loop (fun a w=>∃ m st,I m st∧kG c st a w) (fun a w=>Classical.epsilon fun m=>(∃ st,I m st∧kG c st a w)∧∀ m',(∃ st,I m' st∧kG c st a w)→m≤m') ⟨m0,st0,hI,hsim⟩ ?_;rintro a1 w1 ⟨m1,st1,h1,h2⟩
   have least:∃ m,(∃ st,I m st∧kG c st a1 w1)∧∀ m',(∃ st,I m' st∧kG c st a1 w1)→m≤m':=by
    have hex:∃ m,∃ st,I m st∧kG c st a1 w1:=⟨m1,st1,h1,h2⟩;clear h1 h2
    have:∀ k,(∃ m,m≤k∧∃ st,I m st∧kG c st a1 w1)→∃ m,(∃ st,I m st∧kG c st a1 w1)∧∀ m',(∃ st,I m' st∧kG c st a1 w1)→m≤m':=by
     intro k
     induction k with
     | zero =>
      rintro ⟨m,hm,hx⟩;exact ⟨m,hx,fun m' _=>aq⟩
     | succ k ih =>
      rintro ⟨m,hm,hx⟩;by_cases hk:∃ m,m≤k∧∃ st,I m st∧kG c st a1 w1
      ·exact ih hk
      ·refine ⟨m,hx,fun m' hm'=>?_⟩;rcases Nat.lt_or_ge m' m with hlt | hge
       ·exact absurd ⟨m',aq,hm'⟩ hk
       ·exact hge
    obtain ⟨m,hx⟩:=hex;exact this m ⟨m,cL _,hx⟩
   have hmu:=Classical.epsilon_spec least;generalize (Classical.epsilon fun m=>(∃ st,I m st∧kG c st a1 w1)∧∀ m',(∃ st,I m' st∧kG c st a1 w1)→m≤m')=mu at hmu;obtain ⟨⟨st2,h3,h4⟩,_⟩:=hmu;refine wp_mono (jA x _ st2 a1 w1 (hround mu st2 h3) h4) fun e a' w' ⟨st',hq,hs'⟩=>?_
   cases e with
   | normal =>
    obtain ⟨m',st'',hlt,hweak,hI'⟩:=hq;have hs'':=hweak c _ _ hs';refine ⟨⟨m',st'',hI',hs''⟩,?_⟩
    have least':∃ m,(∃ st,I m st∧kG c st a' w')∧∀ m',(∃ st,I m' st∧kG c st a' w')→m≤m':=by
     have:∀ k,(∃ m,m≤k∧∃ st,I m st∧kG c st a' w')→∃ m,(∃ st,I m st∧kG c st a' w')∧∀ m',(∃ st,I m' st∧kG c st a' w')→m≤m':=by
      intro k
      induction k with
      | zero =>
       rintro ⟨m,hm,hx⟩;exact ⟨m,hx,fun m' _=>aq⟩
      | succ k ih =>
       rintro ⟨m,hm,hx⟩;by_cases hk:∃ m,m≤k∧∃ st,I m st∧kG c st a' w'
       ·exact ih hk
       ·refine ⟨m,hx,fun m' hm'=>?_⟩;rcases Nat.lt_or_ge m' m with hlt | hge
        ·exact absurd ⟨m',aq,hm'⟩ hk
        ·exact hge
     exact this m' ⟨m',cL _,st'',hI',hs''⟩
    have hmu':=Classical.epsilon_spec least';exact Nat.lt_of_le_of_lt (hmu'.2 m' ⟨st'',hI',hs''⟩) hlt
   | _=>exact ⟨st',hq,hs'⟩
  exact key m0 st0 a w hI0 (hw0 c _ _ hs)
 | .exit id,Q,st,a,w,h,hs=>wp_exit ⟨st,h,hs⟩
 | .ret,Q,st,a,w,h,hs=>wp_ret ⟨st,h,hs⟩
 | .rangeFunc ..,Q,st,a,w,h,hs=>h.elim
 | .scope _,Q,st,a,w,h,hs=>h.elim
 | .label _,Q,st,a,w,h,hs=>h.elim
 | .goto _,Q,st,a,w,h,hs=>h.elim
 | .refuse _,Q,st,a,w,h,hs=>h.elim
end
end Go.Am
namespace Go.Am
def ax (P:Program) (g:FuncId) (args:List AV) (Q:AV→Prop):Prop :=
 (∃ fn, P.funcs[g]? = some fn ∧ (fn.name == "runtime.NumGoroutine") = false ∧ fn.body.isNone = false) ∧
 ∀ (w:World) (S:Nat→Prop) (vs:List Value),(∀ b,S b→b<w.heap.size)→vs.length=args.length →
  (∀ (i:Nat) (v:AV) (x:Value),args[i]?=some v→vs[i]?=some x→AIs w S (fun _=>none) [] (fun _=>False) v x) →
  Calls P g vs.toArray w fun e w'=>∃ x r,e=.returned x∧Q r∧r.deep∧RowKit.Below w.heap.size w w' ∧
   AIs w' (fun b=>S b ∨ (w.heap.size≤b∧b<w'.heap.size)) (fun _=>none) [] (fun _=>False) r x
section
variable {P:Program}
theorem uV {g:FuncId} {args:List AV} {hp:Hp} {N:Nat} {K:AV→Hp→Prop} {Q:AV→Prop} (h:ax P g args Q) (hd:∀ v,v ∈ args→v.deep) (hK:∀ r,Q r→K r hp):fa P g args hp N K:=by
 refine ⟨h.1,fun c U σ w vs hr hN hl hv=>?_⟩;refine (h.2 w (bJ c w σ hp) vs (fun b hb=>hb.1.1) hl (fun i v x hi hx=>lw (hd v (cr hi)) (fun _ h=>h) (hv i v x hi hx))).mono fun e w' he=>?_;obtain ⟨x,r,rfl,hQ,hdr,hb,hx⟩:=he;obtain ⟨r1,r2⟩:=nt (N:=N) hr hb;refine ⟨x,rfl,r,hp,σ,hK r hQ,r1,r2,lw hdr (fun b hb'=>?_) hx⟩;rcases hb' with h | ⟨h1,h2⟩
 ·exact ⟨⟨Nat.lt_of_lt_of_le h.1.1 hb.size,h.1.2⟩,h.2⟩
 ·exact ⟨⟨h2,fun id blk g hk hg=>by have:=dK (hr.at hk hg);omega⟩,.inr (Nat.le_trans hr.size h1)⟩
theorem yV {g:FuncId} {args args':List AV} {hp:Hp} {N:Nat} {K:AV→Hp→Prop} {Q:AV→Prop} (h:ax P g args' Q) (hl':args.length=args'.length)
  (hs:∀ (i:Nat) (v v':AV),args[i]?=some v→args'[i]?=some v'→Snap hp (fun _=>True) v v') (hf:∀ r,Q r→r.flat) (hK:∀ r,Q r→K r hp):fa P g args hp N K:=by
 refine ⟨h.1,fun c U σ w vs hr hN hl hv=>?_⟩;refine (h.2 w (fun b=>b<w.heap.size) vs (fun b hb=>hb) (hl.trans hl') (fun i v' x hi hx=>?_)).mono fun e w' he=>?_
 ·have hlt:i<args.length:=by have:=(ci.1 hi).1;omega
  exact nu (fun b hb=>hb.1.1) (fun id blk g _ hk hg=>dK (hr.at hk hg)) hr (hs i _ v' (cm hlt) hi) (hv i _ x (cm hlt) hx)
 ·obtain ⟨x,r,rfl,hQ,hdr,hb,hx⟩:=he;obtain ⟨r1,r2⟩:=nt (N:=N) hr hb;exact ⟨x,rfl,r,hp,σ,hK r hQ,r1,r2,LK (hf r hQ) hx⟩
theorem yW (ids:List Nat) {g:FuncId} {args args':List AV} {hp:Hp} {N:Nat} {K:AV→Hp→Prop} {Q:AV→Prop} (h:ax P g args' Q) (hl':args.length=args'.length)
  (hs:∀ (i:Nat) (v v':AV),args[i]?=some v→args'[i]?=some v'→Snap hp (fun id=>id ∈ ids) v v') (hK:∀ r,Q r→K r (aE ids hp)):fa P g args hp N K:=by
 refine ⟨h.1,fun c U σ w vs hr hN hl hv=>?_⟩;obtain ⟨d1,d2⟩:=yT ids hr;refine (h.2 w (bJ c w σ (aE ids hp)) vs (fun b hb=>hb.1.1) (hl.trans hl') (fun i v' x hi hx=>?_)).mono fun e w' he=>?_
 ·have hlt:i<args.length:=by have:=(ci.1 hi).1;omega
  refine nu (fun b hb=>d2.sub b hb) (fun id blk g hid hk hg=>⟨⟨dK (hr.at hk hg),fun id' blk' g' hk' hg' e=>?_⟩,?_⟩) hr (hs i _ v' (cm hlt) hi) (hv i _ x (cm hlt) hx)
  ·subst e;rw [pv] at hk'
   split at hk'
   ·cases hk'
   ·rename_i hn;have:=hr.inj id id' blk blk' g hk hk' hg hg';subst this;exact hn (by simpa using hid)
  ·rcases hr.mine id blk g hk hg with h | h
   ·exact .inl (c.hM g h)
   ·exact .inr h
 ·obtain ⟨x,r,rfl,hQ,hdr,hb,hx⟩:=he;obtain ⟨r1,r2⟩:=nt (N:=N) d1 hb;refine ⟨x,rfl,r,_,σ,hK r hQ,r1,d2.trans r2,lw hdr (fun b hb'=>?_) hx⟩;rcases hb' with h | ⟨h1,h2⟩
  ·exact ⟨⟨Nat.lt_of_lt_of_le h.1.1 hb.size,h.1.2⟩,h.2⟩
  ·refine ⟨⟨h2,fun id blk g hk hg e=>?_⟩,.inr (Nat.le_trans hr.size h1)⟩;have:=dK (d1.at hk hg);omega
def wP (tmps:Array Value):ResultVar→Sem Value
 | .tmp t=>pure (tmps.getD t undef)
 | .cell a t=>do loadVar t (← asAddr (tmps.getD a undef))
theorem Bd (fn:Func) (tmps:Array Value):results fn tmps=(do let vs ← fn.results.toList.toArray.mapM (wP tmps);pure (if h:vs.size=1 then vs[0] else .tuple vs)):=by
 unfold results
 have:(fun x:ResultVar=>(match x with | .tmp t=>pure (tmps.getD t undef) | .cell a t=>do loadVar t (← asAddr (tmps.getD a undef)):Sem Value))=wP tmps:=by
  funext x;cases x <;> rfl
 rw [← this,Array.toArray_toList];rfl
def ah (P:Program) (st:St):ResultVar→Option AV
 | .tmp t=>some (fv t st.fr)
 | .cell t ty =>
  match fv t st.fr with
  | .ptr id i off tot =>
   (match lk id st.hp with
   | some b =>
    (match b.es[i]? with
    | some row=>if b.es.length=tot then AP P ty (row.drop off) else none
    | none=>none)
   | none=>none)
  | _=>none
def yX (P:Program) (rs:List ResultVar) (R:AV→St→Prop) (st:St):Prop :=
 match rs with
 | []=>R (.tup []) st
 | [x]=>(match ah P st x with
  | some v=>R v st
  | none=>False)
 | [x,y]=>(match ah P st x,ah P st y with
  | some v,some u=>R (.tup [v,u]) st
  | _,_=>False)
 | [x,y,z]=>(match ah P st x,ah P st y,ah P st z with
  | some v,some u,some t=>R (.tup [v,u,t]) st
  | _,_,_=>False)
 | _=>False
def HI (P:Program) (rs:List ResultVar) (R:AV→St→Prop):Exit→St→Prop
 | .normal,st=>yX P rs R st
 | .ret,st=>yX P rs R st
 | _,_=>False
theorem ny {c:Ctx} {st:St} {w:World} {σ:Nat→Option Nat} {tmps:Array Value} (hr:Rel c st.hp (fun i=>i<st.nx) σ w)
  (hf:∀ n,AIs w (bJ c w σ st.hp) σ st.hp (fun i=>i<st.nx) (fv n st.fr) (tmps.getD n undef)) {rv:ResultVar} {v:AV} (h:ah P st rv=some v) :
  ∃ x,(wP tmps rv).run P w=.ok x w∧AIs w (bJ c w σ st.hp) σ st.hp (fun i=>i<st.nx) v x:=by
 cases rv with
 | tmp t =>
  simp only [ah] at h;injection h with h;subst h;exact ⟨_,rfl,hf t⟩
 | cell t ty =>
  simp only [ah] at h
  split at h
  ·rename_i id i off tot hx;have hx':=hf t;rw [hx] at hx'
   split at h
   ·rename_i b hb
    split at h
    ·rename_i row hrow
     split at h
     ·rename_i ht;obtain ⟨g,ccs,hg,hxv,hheap,hone,hrl,hle,hcell⟩:=nk hr hx' hb hrow ht
      have hat:∀ (j:Nat) (y:AV),(row.drop off)[j]?=some y→∃ u,ccs[i*b.e+off+j]?=some u∧AIs w (bJ c w σ st.hp) σ st.hp (fun i=>i<st.nx) y u:=by
       intro j y hy;rw [List.getElem?_drop] at hy;obtain ⟨u,h1,h2⟩:=hcell _ y hy;exact ⟨u,by rw [Nat.add_assoc];exact h1,h2⟩
      obtain ⟨u,hu1,hu2⟩:=gK (P:=P) (w:=w) (S:=bJ c w σ st.hp) (σ:=σ) (hp:=st.hp) (U:=fun i=>i<st.nx) (ad:=⟨g,i*b.e+off,none⟩) (vs:=fun j=>ccs.getD (i*b.e+off+j) undef) h
       (fun j y hy=>by
        obtain ⟨u,h1,h2⟩:=hat j y hy;rw [fK,cell_of_row w _ _ ccs _ _ hheap,h1]
        simp [ct,h1])
       (fun j y hy=>by
        obtain ⟨u,h1,h2⟩:=hat j y hy;simp only [ct,h1,Option.getD_some]
        exact hone _ u h1)
       (fun j y hy=>by
        obtain ⟨u,h1,h2⟩:=hat j y hy;simp only [ct,h1,Option.getD_some]
        exact h2)
      refine ⟨u,?_,hu2⟩;simp only [wP,hxv,asAddr,Sem.run_bind,Sem.run_pure,Result.andThen_ok,hu1]
     ·cases h
    ·cases h
   ·cases h
  ·cases h
theorem wQ {c:Ctx} {fn:Func} {R:AV→St→Prop} {st:St} {a:Act} {w:World} (hs:kG c st a w) (h:yX P fn.results.toList R st) :
  ∃ v x,R v st∧(results fn a.tmps).run P w=.ok x w∧∃ σ,Rel c st.hp (fun i=>i<st.nx) σ w∧AIs w (bJ c w σ st.hp) σ st.hp (fun i=>i<st.nx) v x∧yC c st.hp (fun i=>i<st.nx) σ w:=by
 obtain ⟨_,_,σ,hr,hf,hh⟩:=hs;rw [Bd];generalize fn.results.toList=rs at h;unfold yX at h
 split at h
 ·exact ⟨_,.tuple #[],h,aw,σ,hr,.tup [] #[] rfl aw,hh⟩
 ·rename_i rv
  split at h
  ·rename_i v hv;obtain ⟨x,h1,h2⟩:=ny hr hf hv;exact ⟨v,x,h,by simp [h1],σ,hr,h2,hh⟩
  ·exact h.elim
 ·rename_i r1 r2
  split at h
  ·rename_i v1 v2 hv1 hv2;obtain ⟨x1,h1,k1⟩:=ny hr hf hv1;obtain ⟨x2,h2,k2⟩:=ny hr hf hv2;refine ⟨_,.tuple #[x1,x2],h,by simp [h1,h2],σ,hr,.tup _ _ rfl fun i c x hc hx=>?_,hh⟩
   match i,hc,hx with
   | 0,hc,hx=>simp at hc hx;subst hc;subst hx;exact k1
   | 1,hc,hx=>simp at hc hx;subst hc;subst hx;exact k2
   | n+2,hc,hx=>simp at hc
  ·exact h.elim
 ·rename_i r1 r2 r3
  split at h
  ·rename_i v1 v2 v3 hv1 hv2 hv3;obtain ⟨x1,h1,k1⟩:=ny hr hf hv1;obtain ⟨x2,h2,k2⟩:=ny hr hf hv2;obtain ⟨x3,h3,k3⟩:=ny hr hf hv3;refine ⟨_,.tuple #[x1,x2,x3],h,by simp [h1,h2,h3],σ,hr,.tup _ _ rfl fun i c x hc hx=>?_,hh⟩
   match i,hc,hx with
   | 0,hc,hx=>simp at hc hx;subst hc;subst hx;exact k1
   | 1,hc,hx=>simp at hc hx;subst hc;subst hx;exact k2
   | 2,hc,hx=>simp at hc hx;subst hc;subst hx;exact k3
   | n+3,hc,hx=>simp at hc
  ·exact h.elim
 ·exact h.elim
def G3 (k:Nat):List AV→Fr
 | []=>[]
 | v :: r=>(k,v) :: G3 (k+1) r
theorem wR:∀ (args:List AV) (k n:Nat),lk n (G3 k args)=if k≤n then args[n - k]? else none
 | [],k,n=>by simp [G3,lk]
 | v :: r,k,n=>by
  simp only [G3,lk,wR r (k+1) n];by_cases h:k=n
  ·subst h;simp
  ·rw [if_neg h];by_cases h2:k≤n
   ·rw [if_pos aq,if_pos h2,show n - k=(n - (k+1))+1 by omega,List.getElem?_cons_succ]
   ·rw [if_neg aq,if_neg h2]
def dx (Q:AV→Prop) (v:AV) (st:St):Prop:=∃ r,Snap st.hp (fun _=>True) v r∧r.deep∧Q r
theorem aa {Q:AV→Prop} {v:AV} {st:St} (hd:v.deep) (hq:Q v):dx Q v st:=⟨v,.deep hd,hd,hq⟩
theorem dS {Q:AV→Prop} {v v':AV} {st:St} (h:jr st.hp (fun _=>True) v v') (hd:v'.deep) (hq:Q v'):dx Q v st:=⟨v',.one h,hd,hq⟩
theorem dD {Q:AV→Prop} {cs cs':List AV} {st:St} (h:∀ (i:Nat) (c c':AV),cs[i]?=some c→cs'[i]?=some c'→jr st.hp (fun _=>True) c c') (hl:cs'.length=cs.length) (hd:(AV.tup cs').deep) (hq:Q (.tup cs')):dx Q (.tup cs) st :=
 ⟨.tup cs',.tup hl (fun i c c' h1 h2=>.inl (h i c c' h1 h2)),hd,hq⟩
theorem sU {Q:AV→Prop} {cs cs':List AV} {st:St} (h:∀ (i:Nat) (c c':AV),cs[i]?=some c→cs'[i]?=some c'→jr st.hp (fun _=>True) c c') (hl:cs'.length=cs.length) (hd:(AV.agg cs').deep) (hq:Q (.agg cs')):dx Q (.agg cs) st :=
 ⟨.agg cs',.agg ⟨hl,h⟩,hd,hq⟩
theorem Fq {g : FuncId} {fn : Func} {code : Code} {args : List AV} {Q : AV → Prop} (hf : P.funcs[g]? = some fn) (hn : (fn.name == "runtime.NumGoroutine") = false) (hb : fn.body = some code)
  {n:Nat} {rs:List ResultVar} (hnt:fn.ntmps=n) (hrs:fn.results.toList=rs) (hle:args.length≤n) (hd:∀ v,v ∈ args→v.deep)
  (h:mf P n code (HI P rs (dx Q)) ⟨G3 0 args,[],0⟩):ax P g args Q:=by
 subst hnt;subst hrs;refine ⟨⟨fn,hf,hn,by simp [hb]⟩,fun w S vs hS hl hv=>?_⟩;have hsz:((vs.toArray ++ Array.replicate (fn.ntmps - vs.toArray.size) undef):Array Value).size=fn.ntmps:=by simp;omega
 refine calls_of_wp hf hb ?_
 let c:Ctx:=⟨w,fun _=>False,S,fn.ntmps,fun _ h=>h.elim,fun _=>False,fun _=>none,[],0,aq⟩
 have hsim:kG c ⟨G3 0 args,[],0⟩ { tmps:=vs.toArray ++ Array.replicate (fn.ntmps - vs.toArray.size) undef,defers:=[] } w:=by
  refine ⟨rfl,hsz,fun _=>none,⟨(fun i j bi bj g h=>by cases h),(fun i b h=>by cases h),(fun i b h=>by cases h),(fun i b g h=>by cases h),rfl,rfl,rfl,cL _,fun _ _ _=>rfl⟩,fun n=>?_,⟨fun _ h=>h.elim,fun _ h=>h.elim,fun i h=>absurd h (Nat.not_lt_zero _),fun i b' h=>absurd h (Nat.not_lt_zero _)⟩⟩;simp only [fv,wR,Nat.zero_le,if_true,Nat.sub_zero]
  cases hn:args[n]? with
  | none=>exact .any _
  | some v =>
   have hlt:n<vs.length:=by have:=(ci.1 hn).1;omega
   have hx:vs[n]?=some vs[n]:=cm hlt
   have:(vs.toArray ++ Array.replicate (fn.ntmps - vs.toArray.size) undef).getD n undef=vs[n]:=by
    rw [ct,Array.getElem?_append,if_pos (by simpa using hlt)];simp [hx]
   rw [this];simp only [Option.getD_some];exact lw (hd v (cr hn)) (fun b hb=>⟨⟨hS b hb,(fun id blk g h=>by cases h)⟩,.inl hb⟩) (hv n v _ hn hx)
 have rF:∀ st a w',yX P fn.results.toList (dx Q) st→kG c st a w'→∃ v,(results fn a.tmps).run P w'=.ok v w'∧∃ x r,Ending.returned v=.returned x∧Q r∧r.deep∧RowKit.Below w.heap.size w w' ∧
   AIs w' (fun b=>S b ∨ (w.heap.size≤b∧b<w'.heap.size)) (fun _=>none) [] (fun _=>False) r x:=by
  intro st a w' hret hs;obtain ⟨v,x,⟨r,hsn,hrd,hQ⟩,hrun,σ,hr,hx,_⟩:=wQ hs hret;refine ⟨x,hrun,x,r,rfl,hQ,hrd,⟨hr.os,hr.tape,hr.output,hr.size,fun b hb=>hr.old b hb (fun h=>h)⟩,?_⟩;refine nu (fun b hb=>?_) (fun id blk g _ hk hg=>?_) hr hsn hx
  ·rcases hb.2 with h | h
   ·exact .inl h
   ·exact .inr ⟨h,hb.1.1⟩
  ·rcases hr.mine id blk g hk hg with h | h
   ·exact h.elim
   ·exact .inr ⟨h,dK (hr.at hk hg)⟩
 refine wp_mono (jA (c:=c) code _ _ _ w h hsim) fun e a w' ⟨st,hq,hs⟩=>?_
 cases e with
 | normal=>exact ⟨hs.1,rF st a w' hq hs⟩
 | ret=>exact ⟨hs.1,rF st a w' hq hs⟩
 | _=>exact hq.elim
end
end Go.Am
namespace Go.Am
def Xc (P:Program) (n:Nat) (y:Code) (Q:Exit→St→Prop):Exit→St→Prop:=Ba (mf P n y Q) Q
def Be (P:Program) (n:Nat) (ops:Array Oper) (rest:List Oper) (K:St→Prop) (fr:Fr) (nx:Nat) (dst:Option Tmp):AV→Hp→Prop:=T9 (px P n ops rest K) fr nx dst
def Xw (P:Program) (n:Nat) (x:Code) (Q:Exit→St→Prop) (st:St):Prop:=Pe (mf P n x) Q st
def rY (P:Program) (g:FuncId) (args:List AV) (hp:Hp) (N:Nat) (K:AV→Hp→Prop):Prop:=fa P g args hp N K ∨ G8 P g args hp K
section
variable (P:Program) (n:Nat) (Q:Exit→St→Prop) (fr:Fr) (hp:Hp) (nx:Nat) (st:St) (K:AV→Hp→Prop) (KS:St→Prop)
theorem Uo (x y:Code):mf P n (.seq x y) Q st=mf P n x (Xc P n y Q) st:=rfl
theorem Qg:mf P n .skip Q st=Q .normal st:=rfl
theorem Up:mf P n .ret Q st=Q .ret st:=rfl
theorem Qh (i:Nat):mf P n (.exit i) Q st=Q (.exit i) st:=rfl
theorem LL (i:Nat) (x:Code):mf P n (.block i x) Q st=mf P n x (qC i Q) st:=rfl
theorem HJ (i:Nat) (ops:Array Oper):mf P n (.region i ops false) Q st=px P n ops ops.toList (HE Q) st:=rfl
def Ur (P:Program) (n:Nat) (ops:Array Oper) (Q:Exit→St→Prop) (st:St):Prop:=(∃ zs ss m,A7 n ops zs ss m=true∧P.follows .mixedOrders=true∧zW P ops st.nx st.hp (fun fr=>AM P ops st.nx st.hp (fun fr hp=>Q .normal ⟨fr,hp,st.nx+32*ops.size⟩) ss m fr st.hp) zs st.fr) ∨
 ∃ zs is za t st',sQ n ops zs is za t=true∧P.follows .mixedOrders=true∧zW P ops st.nx st.hp (fun fr=>uD P ops st.nx st.hp (fun fr hp=>Wk ⟨fr,hp,st.nx+32*ops.size⟩ st') t fr st.hp) zs st.fr∧Q .normal st'
theorem Qi (i:Nat) (ops:Array Oper):mf P n (.region i ops true) Q st=Ur P n ops Q st:=rfl
theorem Qj (x:Code):mf P n (.loop x) Q st=Xw P n x Q st:=rfl
def YY (v:AV) (A B:Prop):Prop :=
 match v with
 | .d (.bool b)=>(b=true→A)∧(b=false→B)
 | _=>False
def wS (P:Program) (n:Nat) (v:AV) (x y:Code) (Q:Exit→St→Prop) (st:St):Prop :=
 match v with
 | .d (.bool b)=>(b=true→mf P n x Q st)∧(b=false→mf P n y Q st)
 | _=>False
theorem Qk (c:Operand) (x y:Code):mf P n (.cond c x y) Q st=wS P n (ev st.fr c) x y Q st:=rfl
theorem LM (x y:Code):wS P n (.d (.bool true)) x y Q st=mf P n x Q st:=by simp [wS]
theorem LN (x y:Code):wS P n (.d (.bool false)) x y Q st=mf P n y Q st:=by simp [wS]
theorem LO (p:Prop) [Decidable p] (x y:Code):wS P n (.d (.bool (decide p))) x y Q st=((p→mf P n x Q st)∧(¬ p→mf P n y Q st)):=by simp [wS]
theorem LP (p:Prop) [Decidable p] (x y:Code):wS P n (.d (.bool (!decide p))) x y Q st=((¬ p→mf P n x Q st)∧(p→mf P n y Q st)):=by simp [wS]
theorem Ql (y:Code):Xc P n y Q .normal st=mf P n y Q st:=rfl
theorem Qm (y:Code):Xc P n y Q .ret st=Q .ret st:=rfl
theorem Qn (y:Code) (i:Nat):Xc P n y Q (.exit i) st=Q (.exit i) st:=rfl
theorem Qo (i:Nat):qC i Q .normal st=Q .normal st:=rfl
theorem Qp (i:Nat):qC i Q .ret st=Q .ret st:=rfl
theorem Qq (i j:Nat):qC i Q (.exit j) st=if j=i then Q .normal st else Q (.exit j) st:=rfl
theorem Qr:HE Q st=Q .normal st:=rfl
theorem Qs (I:Nat→St→Prop) (m:Nat):yU I m Q .ret st=Q .ret st:=rfl
theorem Qu (I:Nat→St→Prop) (m i:Nat):yU I m Q (.exit i) st=Q (.exit i) st:=rfl
theorem Us (ops:Array Oper):px P n ops [] KS st=KS st:=rfl
theorem Qv (ops:Array Oper) (dst:Option Tmp) (op:Op) (ty:TypeId) (pos:String) (af:Array Edge) (rest:List Oper) :
  px P n ops (⟨dst,op,ty,pos,af,none⟩ :: rest) KS ⟨fr,hp,nx⟩=(fJ n dst∧bK P fr hp nx op (Be P n ops rest KS fr nx dst)):=rfl
def ou (P:Program) (n:Nat) (ops:Array Oper) (v:AV) (want:Bool) (dst:Option Tmp) (op:Op) (rest:List Oper) (KS:St→Prop) (fr:Fr) (hp:Hp) (nx:Nat):Prop :=
 match v with
 | .d (.bool b)=>fJ n dst∧(b=want→bK P fr hp nx op (Be P n ops rest KS fr nx dst))∧(b=!want→Be P n ops rest KS fr nx dst (.tup []) hp)
 | .tup []=>fJ n dst∧Be P n ops rest KS fr nx dst (.tup []) hp
 | _=>False
theorem LQ (ops:Array Oper) (dst:Option Tmp) (op:Op) (ty:TypeId) (pos:String) (af:Array Edge) (j:Nat) (want:Bool) (rest:List Oper) :
  px P n ops (⟨dst,op,ty,pos,af,some (j,want)⟩ :: rest) KS ⟨fr,hp,nx⟩ =
   (match (ops[j]?).bind (·.dst) with
   | some d=>ou P n ops (fv d fr) want dst op rest KS fr hp nx
   | none=>False):=by
 simp only [px]
 cases (ops[j]?).bind (·.dst) with
 | none=>rfl
 | some d =>
  simp only [ou];generalize fv d fr=v
  cases v with
  | d dv=>cases dv <;> rfl
  | tup l=>cases l <;> rfl
  | _=>rfl
theorem Ut (ops:Array Oper) (want:Bool) (dst:Option Tmp) (op:Op) (rest:List Oper):ou P n ops (.tup []) want dst op rest KS fr hp nx=(fJ n dst∧Be P n ops rest KS fr nx dst (.tup []) hp):=rfl
theorem Uu (ops:Array Oper) (dst:Option Tmp) (op:Op) (rest:List Oper):ou P n ops (.d (.bool true)) true dst op rest KS fr hp nx=(fJ n dst∧bK P fr hp nx op (Be P n ops rest KS fr nx dst)):=by simp [ou]
theorem Uw (ops:Array Oper) (dst:Option Tmp) (op:Op) (rest:List Oper):ou P n ops (.d (.bool false)) false dst op rest KS fr hp nx=(fJ n dst∧bK P fr hp nx op (Be P n ops rest KS fr nx dst)):=by simp [ou]
theorem Qw (ops:Array Oper) (dst:Option Tmp) (op:Op) (rest:List Oper):ou P n ops (.d (.bool true)) false dst op rest KS fr hp nx=(fJ n dst∧Be P n ops rest KS fr nx dst (.tup []) hp):=by simp [ou]
theorem Qx (ops:Array Oper) (dst:Option Tmp) (op:Op) (rest:List Oper):ou P n ops (.d (.bool false)) true dst op rest KS fr hp nx=(fJ n dst∧Be P n ops rest KS fr nx dst (.tup []) hp):=by simp [ou]
theorem Qy (p:Prop) [Decidable p] (ops:Array Oper) (dst:Option Tmp) (op:Op) (rest:List Oper):ou P n ops (.d (.bool (decide p))) true dst op rest KS fr hp nx=(fJ n dst∧(p→bK P fr hp nx op (Be P n ops rest KS fr nx dst))∧(¬ p→Be P n ops rest KS fr nx dst (.tup []) hp)):=by simp [ou]
theorem Qz (p:Prop) [Decidable p] (ops:Array Oper) (dst:Option Tmp) (op:Op) (rest:List Oper):ou P n ops (.d (.bool (decide p))) false dst op rest KS fr hp nx=(fJ n dst∧(¬ p→bK P fr hp nx op (Be P n ops rest KS fr nx dst))∧(p→Be P n ops rest KS fr nx dst (.tup []) hp)):=by simp [ou]
theorem Xx (ops:Array Oper) (rest:List Oper) (dst:Option Tmp) (v:AV) (hp':Hp):Be P n ops rest KS fr nx dst v hp'=px P n ops rest KS ⟨bn fr dst v,hp',nx+32⟩:=rfl
theorem Ux (d:Nat) (v:AV):bn fr (some d) v=(d,v) :: fr:=rfl
theorem QA (v:AV):bn fr none v=fr:=rfl
theorem Uy (d:Nat):fJ n (some d)=(d<n):=rfl
theorem QB:fJ n none=True:=rfl
theorem Uz (t:Nat):ev fr (.tmp t)=fv t fr:=rfl
theorem LR (v:Value):ev fr (.const v)=Lo v:=rfl
theorem QC (f:FuncId):ev fr (.func f)=.fn f []:=rfl
theorem Xy (d m:Nat) (v:AV):fv m ((d,v) :: fr)=if d=m then v else fv m fr:=jx d m v fr
theorem UA (m:Nat):fv m []=.any:=rfl
theorem Xz {α:Type} (m k:Nat) (v:α) (t:List (Nat × α)):lk k ((m,v) :: t)=if m=k then some v else lk k t:=rfl
theorem UB {α:Type} (k:Nat):lk k ([]:List (Nat × α))=none:=rfl
theorem QD (id m:Nat) (b v:Blk) (t:Hp):bX id b ((m,v) :: t)=if m=id then (m,b) :: t else (m,v) :: bX id b t:=rfl
theorem XA (k:IntKind) (i:Int):Lo (.int k i)=.d (.int k i):=rfl
theorem XB (b:Bool):Lo (.bool b)=.d (.bool b):=rfl
theorem XC:Lo (.slice none 0 0)=.nil:=rfl
theorem QE (s:ByteArray):Lo (.string s)=.d (.str (s.data.toList.map fun c=>(c.toNat:Int))):=rfl
theorem XD:Lo (.pointer none)=.d .nilp:=rfl
theorem QF (x:Operand):bK P fr hp nx (.move x) K=K (ev fr x) hp:=rfl
theorem HK (x:Operand):bK P fr hp nx (.assign x) K=K (ev fr x) hp:=rfl
def py (c a b:AV) (K:AV→Hp→Prop) (hp:Hp):Prop :=
 match c with
 | .d (.bool t) =>
  (match a,b with
  | .d (.bool x),.d (.bool y)=>K (.d (.bool (if t then x else y))) hp
  | va,vb=>(t=true→K va hp)∧(t=false→K vb hp))
 | _=>False
theorem QG (c a b:Operand):bK P fr hp nx (.pick c a b) K=py (ev fr c) (ev fr a) (ev fr b) K hp:=by
 simp only [bK,py];rfl
theorem HL (a b:AV):py (.d (.bool true)) a b K hp=K a hp:=by
 unfold py;dsimp only;split <;> simp
theorem HM (a b:AV):py (.d (.bool false)) a b K hp=K b hp:=by
 unfold py;dsimp only;split <;> simp
theorem Ft (t x y:Bool):py (.d (.bool t)) (.d (.bool x)) (.d (.bool y)) K hp=K (.d (.bool (if t then x else y))) hp:=rfl
theorem HN (t:Bool) (x:Bool):py (.d (.bool t)) (.d (.bool x)) .any K hp=((t=true→K (.d (.bool x)) hp)∧(t=false→K .any hp)):=rfl
theorem HO (t:Bool) (x:Bool):py (.d (.bool t)) (.d (.bool x)) (.tup []) K hp=((t=true→K (.d (.bool x)) hp)∧(t=false→K (.tup []) hp)):=rfl
theorem UC (op:BinOp) (t t':TypeId) (x y:Operand):bK P fr hp nx (.binOp op t x y t') K=cJ P op t (ev fr x) (ev fr y) K hp:=rfl
theorem LS (t:TypeId) (k:IntKind) (x y:Int):cJ P .add t (.d (.int k x)) (.d (.int k y)) K hp=K (.d (.int k (k.wrap (x+y)))) hp:=by simp [cJ,db,jN]
theorem LU (t:TypeId) (k:IntKind) (x y:Int):cJ P .sub t (.d (.int k x)) (.d (.int k y)) K hp=K (.d (.int k (k.wrap (x - y)))) hp:=by simp [cJ,db,jN]
theorem LV (t:TypeId) (k:IntKind) (x y:Int):cJ P .mul t (.d (.int k x)) (.d (.int k y)) K hp=K (.d (.int k (k.wrap (x*y)))) hp:=by simp [cJ,db,jN]
theorem LW (t:TypeId) (k:IntKind) (x y:Int):cJ P .quo t (.d (.int k x)) (.d (.int k y)) K hp=(y ≠ 0∧K (.d (.int k (k.wrap (x.tdiv y)))) hp):=by simp [cJ,db,jN]
theorem LX (t:TypeId) (k:IntKind) (x y:Int):cJ P .rem t (.d (.int k x)) (.d (.int k y)) K hp=(y ≠ 0∧K (.d (.int k (x.tmod y))) hp):=by simp [cJ,db,jN]
theorem LY (t:TypeId) (k:IntKind) (x y:Int):cJ P .and t (.d (.int k x)) (.d (.int k y)) K hp=K (.d (.int k (bits .and k x y))) hp:=by simp [cJ,db,jN]
theorem QH (t:TypeId) (k:IntKind) (x y:Int):cJ P .or t (.d (.int k x)) (.d (.int k y)) K hp=K (.d (.int k (bits .or k x y))) hp:=by simp [cJ,db,jN]
theorem LZ (t:TypeId) (k:IntKind) (x y:Int):cJ P .xor t (.d (.int k x)) (.d (.int k y)) K hp=K (.d (.int k (bits .xor k x y))) hp:=by simp [cJ,db,jN]
theorem Bf (t:TypeId) (k:IntKind) (x y:Int):cJ P .andNot t (.d (.int k x)) (.d (.int k y)) K hp=K (.d (.int k (bits .andNot k x y))) hp:=by simp [cJ,db,jN]
theorem L0 (t:TypeId) (k k':IntKind) (x y:Int):cJ P .shl t (.d (.int k x)) (.d (.int k' y)) K hp=(0≤y∧K (.d (.int k (k.wrap (x*2 ^ (min y.toNat k.bits))))) hp):=by simp [cJ,db,jN,o6]
theorem L6 (t:TypeId) (k k':IntKind) (x y:Int):cJ P .shr t (.d (.int k x)) (.d (.int k' y)) K hp=(0≤y∧K (.d (.int k (x.fdiv (2 ^ (min y.toNat k.bits))))) hp):=by simp [cJ,db,jN,o6]
theorem L8 (t:TypeId) (k:IntKind) (x y:Int):cJ P .eql t (.d (.int k x)) (.d (.int k y)) K hp=K (.d (.bool (decide (x=y)))) hp:=by simp [cJ,db,jN]
theorem L9 (t:TypeId) (k:IntKind) (x y:Int):cJ P .neq t (.d (.int k x)) (.d (.int k y)) K hp=K (.d (.bool (!decide (x=y)))) hp:=by simp [cJ,db,jN]
theorem Md (t:TypeId) (k:IntKind) (x y:Int):cJ P .lss t (.d (.int k x)) (.d (.int k y)) K hp=K (.d (.bool (decide (x<y)))) hp:=by simp [cJ,db,jN]
theorem Me (t:TypeId) (k:IntKind) (x y:Int):cJ P .leq t (.d (.int k x)) (.d (.int k y)) K hp=K (.d (.bool (decide (x≤y)))) hp:=by simp [cJ,db,jN]
theorem MA (t:TypeId) (k:IntKind) (x y:Int):cJ P .gtr t (.d (.int k x)) (.d (.int k y)) K hp=K (.d (.bool (decide (y<x)))) hp:=by simp [cJ,db,jN]
theorem MB (t:TypeId) (k:IntKind) (x y:Int):cJ P .geq t (.d (.int k x)) (.d (.int k y)) K hp=K (.d (.bool (decide (y≤x)))) hp:=by simp [cJ,db,jN]
theorem MC (op:BinOp) (t:TypeId) (a b c d:Nat):cJ P op t (.ptr a b c d) (.d .nilp) K hp=Lj P op t false K hp:=rfl
theorem MD (op:BinOp) (t:TypeId) (cs:List DV):cJ P op t (.rop cs) (.d .nilp) K hp=Lj P op t false K hp:=rfl
theorem ME (op:BinOp) (t:TypeId):cJ P op t (.d .nilp) (.d .nilp) K hp=Lj P op t true K hp:=rfl
def XE (P:Program) (op:BinOp) (t:TypeId) (k:TK) (a b:List AV) (K:AV→Hp→Prop) (hp:Hp):Prop :=
 match k with
 | .arr n el=>O3 P op t n el (i7 P el) a b K hp
 | .struct _=>O4 P op t a b K hp
 | _=>False
theorem QI (op:BinOp) (t:TypeId) (a b:List AV):cJ P op t (.agg a) (.agg b) K hp=XE P op t (bS P t) a b K hp:=by
 simp only [cJ,XE]
 cases bS P t <;> rfl
def XF (P:Program) (op:BinOp) (t:TypeId) (n:Nat) (el:TypeId) (us vs:Option (List Int)) (K:AV→Hp→Prop) (hp:Hp):Prop :=
 match us,vs with
 | some us,some vs=>us.length=n∧vs.length=n∧P.cellsOf el=1∧P.eqGuardType P.depth t=false∧(match op with
   | .eql=>K (.d (.bool (decide (us=vs)))) hp
   | .neq=>K (.d (.bool (!decide (us=vs)))) hp
   | _=>False)
 | _,_=>False
theorem XG (op:BinOp) (t:TypeId) (n:Nat) (el:TypeId) (k:IntKind) (a b:List AV):O3 P op t n el (some k) a b K hp=XF P op t n el (b7 k a) (b7 k b) K hp:=by
 simp only [O3,XF]
 cases b7 k a <;> cases b7 k b <;> rfl
def XH (P:Program) (op:BinOp) (t:TypeId) (ks:Option (List (Option IntKind))) (us vs:Option (List L1)) (K:AV→Hp→Prop) (hp:Hp):Prop :=
 match us,vs with
 | some us,some vs=>P.eqGuardType P.depth t=false∧ks=some (us.map L1.k)∧ks=some (vs.map L1.k)∧(match op with
   | .eql=>K (.d (.bool (decide (us=vs)))) hp
   | .neq=>K (.d (.bool (!decide (us=vs)))) hp
   | _=>False)
 | _,_=>False
theorem XI (op:BinOp) (t:TypeId) (a b:List AV):O4 P op t a b K hp=XH P op t (dQ P 8 t) (ep a) (ep b) K hp:=by
 simp only [O4,XH]
 cases ep a <;> cases ep b <;> rfl
def Xd (o:Option AV) (K:AV→Hp→Prop) (hp:Hp):Prop :=
 match o with
 | some v=>K v hp
 | none=>False
def YZ (o:Option Int) (K:AV→Hp→Prop) (hp:Hp):Prop :=
 match o with
 | some b=>K (.d (.int .u8 b)) hp
 | none=>False
def Y0 (P:Program) (k:TK) (el:TypeId) (cs:List AV) (m:Int) (K:AV→Hp→Prop) (hp:Hp):Prop :=
 match k with
 | .scal=>P.cellsOf el=1∧Xd cs[m.toNat]? K hp
 | .slice _=>P.cellsOf el=1∧Xd cs[m.toNat]? K hp
 | .arr _ _=>P.cellsOf el ≠ 0∧Xd (AP P el (cs.drop (m.toNat*P.cellsOf el))) K hp
 | _=>False
def Y4 (P:Program) (k:TK) (x i:AV) (K:AV→Hp→Prop) (hp:Hp):Prop :=
 match k,x,i with
 | .arr n el,.agg cs,.d (.int _ m)=>0≤m∧m<n∧Y0 P (bS P el) el cs m K hp
 | .str,.d (.str bs),.d (.int _ m)=>0≤m∧YZ bs[m.toNat]? K hp
 | _,_,_=>False
theorem MF (t:TypeId) (x i:Operand):bK P fr hp nx (.index t x i) K=Y4 P (bS P t) (ev fr x) (ev fr i) K hp:=rfl
def XJ (op:UnOp) (v:AV) (K:AV→Hp→Prop) (hp:Hp):Prop :=
 match op,v with
 | .not,.d (.bool b)=>K (.d (.bool (!b))) hp
 | .neg,.d (.int k n)=>K (.d (.int k (k.wrap (0 - n)))) hp
 | .xor,.d (.int k n)=>K (.d (.int k (bits .xor k (if k.signed then -1 else k.max) n))) hp
 | _,_=>False
theorem XK (op:UnOp) (t:TypeId) (x:Operand):bK P fr hp nx (.unOp op t x) K=XJ op (ev fr x) K hp:=by
 cases op <;> simp only [bK,XJ] <;> split <;> simp_all
def UD (v:AV) (K:AV→Hp→Prop) (hp:Hp):Prop :=
 match v with
 | .ptr id i off tot=>K (.ptr id i off tot) hp
 | .rop cs=>K (.rop cs) hp
 | .fn f cs=>K (.fn f cs) hp
 | .mth f cs=>K (.mth f cs) hp
 | _=>False
theorem QJ (x:Operand):bK P fr hp nx (.nilCheck x) K=UD (ev fr x) K hp:=rfl
def Y5 (v:AV) (i:Nat) (K:AV→Hp→Prop) (hp:Hp):Prop :=
 match v with
 | .tup vs=>(match vs[i]? with
  | some v=>K v hp
  | none=>False)
 | _=>False
theorem XL (x:Operand) (i:Nat):bK P fr hp nx (.extract x i) K=Y5 (ev fr x) i K hp:=rfl
def Y6 (P:Program) (s t:TypeId) (es:List (List DV)) (K:AV→Hp→Prop) (hp:Hp):Prop :=
 ∃ bs:List Int,es=bs.map (fun b=>[.int .u8 b])∧(∀ b,b ∈ bs→0≤b∧b<256)∧(match bS P s,bS P t with
   | .slice el,.str=>P.underlying el=some (.int .u8)∧K (.d (.str bs)) hp
   | _,_=>False)
def Y7 (P:Program) (bs:List Int) (a b:TK) (K:AV→Hp→Prop) (hp:Hp):Prop :=
 match a,b with
 | .str,.slice el=>P.underlying el=some (.int .u8)∧K (.d (.ro 1 (bs.map fun b=>[.int .u8 b]))) hp
 | _,_=>False
def Zs (P:Program) (s t:TypeId) (xs:Option (List (List AV))) (K:AV→Hp→Prop) (hp:Hp):Prop :=
 ∃ bs:List Int,xs=some (bs.map fun b=>[.d (.int .u8 b)])∧(∀ b,b ∈ bs→0≤b∧b<256)∧(match bS P s,bS P t with
   | .slice el,.str=>P.underlying el=some (.int .u8)∧K (.d (.str bs)) hp
   | _,_=>False)
def XM (P:Program) (s t:TypeId) (v:AV) (K:AV→Hp→Prop) (hp:Hp):Prop :=
 match v with
 | .d (.int _ n)=>(match (P.underlying s).isSome,i7 P t with
  | true,some k=>K (.d (.int k (k.wrap n))) hp
  | _,_=>False)
 | .d (.ro 1 es)=>Y6 P s t es K hp
 | .d (.str bs)=>Y7 P bs (bS P s) (bS P t) K hp
 | v=>Zs P s t (cN hp 1 v) K hp
theorem XN (s t:TypeId) (x:Operand):bK P fr hp nx (.convert s t x) K=XM P s t (ev fr x) K hp:=by
 simp only [bK,XM,i7];generalize ev fr x=v
 cases v with
 | d dv =>
  cases dv with
  | int k n =>
   cases P.underlying s <;> cases hu:P.underlying t with
   | none=>simp
   | some d=>cases d <;> simp
  | ro e es =>
   match e with
   | 0=>rfl
   | 1=>rfl
   | _+2=>rfl
  | str bs=>cases bS P s <;> cases bS P t <;> rfl
  | _=>rfl
 | _=>rfl
def Xe (o:Option AV) (K:AV→Hp→Prop) (hp:Hp):Prop :=
 match o with
 | some v=>K v hp
 | none=>False
def Y8 (P:Program) (t:TypeId) (row:Option (List AV)) (ntot tot off:Nat) (K:AV→Hp→Prop) (hp:Hp):Prop :=
 match row with
 | some row=>ntot=tot∧Xe (AP P t (row.drop off)) K hp
 | none=>False
def Y9 (P:Program) (t:TypeId) (b:Option Blk) (i off tot:Nat) (K:AV→Hp→Prop) (hp:Hp):Prop :=
 match b with
 | some b=>Y8 P t b.es[i]? b.es.length tot off K hp
 | none=>False
def Za (P:Program) (t:TypeId) (v:AV) (K:AV→Hp→Prop) (hp:Hp):Prop :=
 match v with
 | .ptr id i off tot=>Y9 P t (lk id hp) i off tot K hp
 | .rop cs=>Xe (AP P t (cs.map .d)) K hp
 | _=>False
theorem XO (t:TypeId) (x:Operand):bK P fr hp nx (.load t x) K=Za P t (ev fr x) K hp:=rfl
def QK (P:Program) (t:TypeId) (k:TK) (cells:List AV):Option AV :=
 match k with
 | .none=>Option.none
 | .arr _ _=>if P.cellsOf t≤cells.length then some (.agg (cells.take (P.cellsOf t))) else Option.none
 | .struct _=>if P.cellsOf t≤cells.length then some (.agg (cells.take (P.cellsOf t))) else Option.none
 | .scal=>cells.head?
 | .str=>cells.head?
 | .slice _=>cells.head?
theorem UE (t:TypeId) (cells:List AV):AP P t cells=QK P t (bS P t) cells:=by
 unfold AP QK
 cases bS P t <;> rfl
def XP (P:Program) (v:AV) (o:Option (Nat × TypeId)) (K:AV→Hp→Prop) (hp:Hp):Prop :=
 match v,o with
 | .ptr id j off tot,some (o,ft)=>P.cellsOf ft ≠ 0∧K (.ptr id j (off+o) tot) hp
 | .rop cs,some (o,ft)=>P.cellsOf ft ≠ 0∧K (.rop (cs.drop o)) hp
 | _,_=>False
def HQ (k:TK) (i:Nat):Option (Nat × TypeId) :=
 match k with
 | .struct fs=>fs[i]?
 | _=>none
theorem XQ (t:TypeId) (x:Operand) (i:Nat):bK P fr hp nx (.fieldAddr t x i) K=XP P (ev fr x) (HQ (bS P t) i) K hp:=by
 simp only [bK,jO,HQ,XP];generalize ev fr x=v
 cases v <;> cases bS P t <;> rfl
def XR (P:Program) (v:AV) (o:Option (Nat × TypeId)) (K:AV→Hp→Prop) (hp:Hp):Prop :=
 match v,o with
 | .agg cs,some (o,ft)=>Xe (AP P ft (cs.drop o)) K hp
 | _,_=>False
theorem XS (t:TypeId) (x:Operand) (i:Nat):bK P fr hp nx (.field t x i) K=XR P (ev fr x) (HQ (bS P t) i) K hp:=by
 simp only [bK,jO,HQ,XR];generalize ev fr x=v
 cases v <;> cases bS P t <;> rfl
def Zb (cs:Option (List DV)) (K:AV→Hp→Prop) (hp:Hp):Prop :=
 match cs with
 | some cs=>K (.rop cs) hp
 | none=>False
def XT (b:Option Blk) (id i off e el tot:Nat) (row:Bool) (K:AV→Hp→Prop) (hp:Hp):Prop :=
 match b,row with
 | some b,true=>b.es.length=tot∧b.e=el∧el ≠ 0∧K (.ptr id i 0 tot) hp
 | some b,false=>b.es.length=tot∧e=el∧el ≠ 0∧K (.ptr id i off tot) hp
 | none,_=>False
def XU (P:Program) (ix v:AV) (k:TK) (K:AV→Hp→Prop) (hp:Hp):Prop :=
 match ix,v,k with
 | .d (.int _ n),.d (.ro e es),.slice el=>0≤n∧e=P.cellsOf el∧P.cellsOf el ≠ 0∧Zb es[n.toNat]? K hp
 | .d (.int _ n),.own id i0 len tot,.slice el=>0≤n∧n<len∧XT (lk id hp) id (i0+n.toNat) 0 0 (P.cellsOf el) tot true K hp
 | .d (.int _ n),.sub id i off e len _ tot,.slice el=>0≤n∧n<len∧XT (lk id hp) id i (off+n.toNat*e) e (P.cellsOf el) tot false K hp
 | .d (.int _ n),.ptr id i off tot,.arr len el=>0≤n∧n<len∧P.cellsOf el ≠ 0∧K (.ptr id i (off+n.toNat*P.cellsOf el) tot) hp
 | .d (.int _ n),.rop cs,.arr len el=>0≤n∧n<len∧P.cellsOf el ≠ 0∧K (.rop (cs.drop (n.toNat*P.cellsOf el))) hp
 | _,_,_=>False
theorem XV (t:TypeId) (x ix:Operand):bK P fr hp nx (.indexAddr t x ix) K=XU P (ev fr ix) (ev fr x) (bS P t) K hp:=by
 simp only [bK,XU];generalize ev fr ix=u;generalize ev fr x=v
 cases u with
 | d dv =>
  cases dv with
  | int k n =>
   cases v with
   | d dv=>cases dv <;> cases bS P t <;> rfl
   | own id i0 len tot=>cases bS P t <;> first | rfl | (simp only;cases lk id hp <;> rfl)
   | sub id i off e len cap tot=>cases bS P t <;> first | rfl | (simp only;cases lk id hp <;> rfl)
   | _=>cases bS P t <;> rfl
  | _=>rfl
 | _=>rfl
def Zc (t:TypeId) (z:Option (List AV)) (nx:Nat) (K:AV→Hp→Prop) (hp:Hp):Prop :=
 match z with
 | some cs=>K (.ptr nx 0 0 1) ((nx,⟨t,cs.length,[cs]⟩) :: hp)
 | none=>False
theorem XW (t:TypeId):bK P fr hp nx (.alloc t) K=Zc t (eV P t) nx K hp:=rfl
def Zd (P:Program) (k:TK) (z:Option (List AV)) (ps:List (Nat × AV)) (K:AV→Hp→Prop) (hp:Hp):Prop :=
 match z with
 | some z=>qn P k z ps K hp
 | none=>False
theorem XX (t:TypeId) (parts:Array (Nat × Operand)):bK P fr hp nx (.build t parts) K=Zd P (bS P t) (eV P t) (parts.toList.map fun p=>(p.1,ev fr p.2)) K hp:=rfl
def HT (o:Option (List AV)) (K:AV→Hp→Prop) (hp:Hp):Prop :=
 match o with
 | some cs=>K (.agg cs) hp
 | none=>False
theorem QL (fs:List (Nat × TypeId)) (z:List AV) (ps:List (Nat × AV)):qn P (.struct fs) z ps K hp=((∀ f,f ∈ fs→P.cellsOf f.2 ≠ 0)∧HT (kP (ja P fs) z ps) K hp):=rfl
theorem QM (n:Nat) (el:TypeId) (z:List AV) (ps:List (Nat × AV)):qn P (.arr n el) z ps K hp=(P.cellsOf el ≠ 0∧HT (kP (fun i=>some (i*P.cellsOf el,P.cellsOf el)) z ps) K hp):=rfl
def Ze (el:TypeId) (e len nx:Nat) (o:Option (List (List AV))) (K:AV→Hp→Prop) (hp:Hp):Prop :=
 match o with
 | some rows=>K (.own nx 0 len len) ((nx,⟨el,e,rows⟩) :: hp)
 | none=>False
def Zf (P:Program) (el:TypeId) (len:Nat) (z:Option (List AV)) (ps:List (Nat × AV)) (nx:Nat) (K:AV→Hp→Prop) (hp:Hp):Prop :=
 match z with
 | some z=>len*P.cellsOf el≤16777216∧Ze el (P.cellsOf el) len nx (sG (P.cellsOf el) (List.replicate len z) ps) K hp
 | none=>False
def XY (P:Program) (k:TK) (len:Nat) (ps:List (Nat × AV)) (nx:Nat) (K:AV→Hp→Prop) (hp:Hp):Prop :=
 match k with
 | .slice el=>Zf P el len (eV P el) ps nx K hp
 | _=>False
theorem XZ (t:TypeId) (len:Nat) (parts:Array (Nat × Operand)):bK P fr hp nx (.buildSlice t len parts) K=XY P (bS P t) len (parts.toList.map fun p=>(p.1,ev fr p.2)) nx K hp:=by
 simp only [bK,mr,XY]
 cases bS P t <;> rfl
theorem X0 (t:TypeId) (x:Operand) (lo hi:Option Operand):bK P fr hp nx (.slice t x lo hi none) K=gm P (bS P t) (ev fr x) (wF fr 0 lo) (wF fr ((ev fr x).topLen (bS P t)) hi) K hp:=rfl
theorem UF (t:TypeId) (x m:Operand) (lo hi:Option Operand):bK P fr hp nx (.slice t x lo hi (some m)) K=lr P (bS P t) (ev fr x) (wF fr 0 lo) (AQ fr hi) (ev fr m).num K hp:=rfl
theorem QN (x:Operand):AQ fr (some x)=(ev fr x).num:=rfl
theorem HU (el:TypeId) (l h m:Int) (e:Nat) (es:List (List DV)):lr P (.slice el) (.d (.ro e es)) (some l) (some h) (some m) K hp=(P.cellsOf el ≠ 0∧e=P.cellsOf el∧0≤l∧l≤h∧h=m∧h≤es.length∧K (.d (.rof e ((es.take h.toNat).drop l.toNat))) hp):=rfl
theorem Fv (el:TypeId) (l h m:Int):lr P (.slice el) .nil (some l) (some h) (some m) K hp=(P.cellsOf el ≠ 0∧l=0∧h=0∧m=0∧K (.d (.rof (P.cellsOf el) [])) hp):=rfl
theorem Fz (el:TypeId) (id i0 len tot:Nat) (l h m:Int):lr P (.slice el) (.own id i0 len tot) (some l) (some h) (some m) K hp=(P.cellsOf el ≠ 0∧l=0∧h=0∧m=0∧K (.d (.rof (P.cellsOf el) [])) hp):=rfl
def Zg (P:Program) (el:TypeId) (z:Option (List AV)) (n c:Int) (nx:Nat) (K:AV→Hp→Prop) (hp:Hp):Prop :=
 match z with
 | some z=>0≤n∧n≤c∧c*P.cellsOf el≤16777216∧P.bytesOf el*c≤281474976710656∧c≤9223372036854775807∧K (.own nx 0 n.toNat n.toNat) ((nx,⟨el,P.cellsOf el,List.replicate n.toNat z⟩) :: hp)
 | none=>False
theorem X1 (t:TypeId) (l m:Operand):bK P fr hp nx (.makeSlice t l m) K=C6 P (bS P t) (ev fr l) (ev fr m) nx K hp:=rfl
theorem UG (el:TypeId) (k1 k2:IntKind) (n c:Int):C6 P (.slice el) (.d (.int k1 n)) (.d (.int k2 c)) nx K hp=Zg P el (eV P el) n c nx K hp:=rfl
theorem UH (t:TypeId) (x:Operand):bK P fr hp nx (.sliceToArrayPointer t x) K=E8 (bS P t) (ev fr x) K hp:=rfl
theorem QO (n:Nat) (el:TypeId) (id i off e len cap tot:Nat):E8 (.arr n el) (.sub id i off e len cap tot) K hp=(match lk id hp with
  | some b=>b.es.length=tot∧0<n∧n≤len∧K (.ptr id i off tot) hp
  | none=>False):=rfl
theorem QP (n:Nat) (el:TypeId) (es:List (List DV)):E8 (.arr n el) (.d (.ro 1 es)) K hp=(0<n∧n≤es.length∧K (.rop es.flatten) hp):=rfl
theorem X2 (s x:Operand) (t u:TypeId):bK P fr hp nx (.call ⟨.builtin .copy,#[s,x],#[t,u]⟩) K=uz P fr hp nx .copy [s,x] [t,u] K:=rfl
def X3 (P:Program) (el:TypeId) (b:Option Blk) (id i0 len tot:Nat) (xs:List (List AV)) (K:AV→Hp→Prop) (hp:Hp):Prop :=
 match b with
 | some b=>b.es.length=tot∧b.e=1∧P.cellsOf el=1∧K (.d (.int .i64 (min len xs.length:Nat))) (bX id ⟨b.ty,b.e,b.es.take i0 ++ (xs.take len ++ b.es.drop (i0+min len xs.length))⟩ hp)
 | none=>False
theorem UI (el:TypeId) (id i0 len tot:Nat) (xs:List (List AV)):C7 P el (.own id i0 len tot) (some xs) K hp=X3 P el (lk id hp) id i0 len tot xs K hp:=by
 simp only [C7,X3]
 cases lk id hp <;> rfl
theorem FA:∀ {a b:List (List DV)},a.map (fun r=>r.map AV.d)=b.map (fun r=>r.map AV.d)→a=b:=by
 have one:∀ {x y:List DV},x.map AV.d=y.map AV.d→x=y:=by
  intro x
  induction x with
  | nil=>intro y h;cases y with
   | nil=>rfl
   | cons _ _=>simp at h
  | cons u x ih=>intro y h;cases y with
   | nil=>simp at h
   | cons v y=>simp at h;rw [h.1,ih (by simpa using h.2)]
 intro a
 induction a with
 | nil=>intro b h;cases b with
  | nil=>rfl
  | cons _ _=>simp at h
 | cons u a ih=>intro b h;cases b with
  | nil=>simp at h
  | cons v b =>
   rw [List.map_cons,List.map_cons] at h;injection h with h1 h2;rw [one h1,ih h2]
def X4 (P:Program) (el:TypeId) (o:Option (List (List AV))) (len cap:Nat) (xs:List (List AV)) (nx:Nat) (K:AV→Hp→Prop) (hp:Hp):Prop :=
 cap<len+xs.length∧(eV P el).isSome=true∧P.bytesOf el ≠ 0∧(len+xs.length)*P.bytesOf el≤140737488355328 ∧
   (match o with
   | some rs=>K (.own nx 0 (len+xs.length) (len+xs.length)) ((nx,⟨el,P.cellsOf el,rs ++ xs⟩) :: hp)
   | none=>False)
theorem HV (el:TypeId) (xs:List (List AV)) (id i off e len cap tot:Nat):eW P el (.sub id i off e len cap tot) (some xs) nx K hp=X4 P el (cN hp (P.cellsOf el) (.sub id i off e len cap tot)) len cap xs nx K hp:=by
 simp only [eW,X4];generalize cN hp (P.cellsOf el) (.sub id i off e len cap tot)=o
 cases o <;> rfl
def wT (A B:Prop):Prop:=A ∨ B
theorem yY (el:TypeId) (e:Nat) (es ds:List (List DV)):eW P el (.d (.rof e es)) (some (ds.map fun r=>r.map AV.d)) nx K hp=(e=P.cellsOf el∧(eV P el).isSome=true∧P.bytesOf el ≠ 0∧(es.length+ds.length)*P.bytesOf el≤140737488355328 ∧
  wT (K (.d (.ro e (es ++ ds))) hp) (ds ≠ []∧K (.own nx 0 (es.length+ds.length) (es.length+ds.length)) ((nx,⟨el,P.cellsOf el,es.map (fun r=>r.map AV.d) ++ ds.map fun r=>r.map AV.d⟩) :: hp))):=by
 simp only [eW,List.length_map,eq_iff_iff,wT];constructor
 ·rintro ⟨h1,h2,h3,h4,⟨ds',h5,h6⟩ | ⟨h5,h6⟩⟩
  ·have h7:=FA h5;subst h7;exact ⟨h1,h2,h3,h4,.inl h6⟩
  ·exact ⟨h1,h2,h3,h4,.inr ⟨by simpa using h5,h6⟩⟩
 ·rintro ⟨h1,h2,h3,h4,h5 | ⟨h5,h6⟩⟩
  ·exact ⟨h1,h2,h3,h4,.inl ⟨ds,rfl,h5⟩⟩
  ·exact ⟨h1,h2,h3,h4,.inr ⟨by simpa using h5,h6⟩⟩
theorem QQ (d:Int):wF fr d none=some d:=rfl
theorem QR (d:Int) (x:Operand):wF fr d (some x)=(ev fr x).num:=rfl
theorem UJ (k:IntKind) (n:Int):(AV.d (.int k n)).num=some n:=rfl
theorem HW (el:TypeId) (l h:Int):gm P (.slice el) .nil (some l) (some h) K hp=(P.cellsOf el ≠ 0∧l=0∧h=0∧K .nil hp):=rfl
theorem MG (el:TypeId) (l h:Int) (e:Nat) (es:List (List DV)):gm P (.slice el) (.d (.ro e es)) (some l) (some h) K hp=(P.cellsOf el ≠ 0∧e=P.cellsOf el∧0≤l∧l≤h∧h≤es.length∧K (.d (.ro e ((es.take h.toNat).drop l.toNat))) hp):=rfl
def X5 (b:Option Blk) (n:Nat) (A:Prop):Prop :=
 match b with
 | some b=>b.e=n∧A
 | none=>False
theorem HY (el:TypeId) (l h:Int) (id i0 len tot:Nat):gm P (.slice el) (.own id i0 len tot) (some l) (some h) K hp=X5 (lk id hp) (P.cellsOf el) (P.cellsOf el ≠ 0∧0≤l∧l≤h∧h≤len∧K (.own id (i0+l.toNat) (h.toNat - l.toNat) tot) hp):=by
 simp only [gm]
 cases lk id hp with
 | none=>rfl
 | some b=>simp only [X5,eq_iff_iff];exact ⟨fun ⟨a,b,c⟩=>⟨b,a,c⟩,fun ⟨b,a,c⟩=>⟨a,b,c⟩⟩
theorem HZ (el:TypeId) (l h:Int) (id i off e len cap tot:Nat):gm P (.slice el) (.sub id i off e len cap tot) (some l) (some h) K hp=(P.cellsOf el ≠ 0∧e=P.cellsOf el∧0≤l∧l≤h∧h≤len∧K (.sub id i (off+l.toNat*e) e (h.toNat - l.toNat) (cap - l.toNat) tot) hp):=rfl
def X6 (b:Option Blk) (n:Nat) (A:Prop):Prop :=
 match b with
 | some b=>n≤b.e∧A
 | none=>False
theorem H2 (n:Nat) (el:TypeId) (l h:Int) (id i off tot:Nat):gm P (.arr n el) (.ptr id i off tot) (some l) (some h) K hp=X6 (lk id hp) (off+n*P.cellsOf el) (P.cellsOf el ≠ 0∧i<tot∧0≤l∧l≤h∧h≤n∧K (.sub id i (off+l.toNat*P.cellsOf el) (P.cellsOf el) (h.toNat - l.toNat) (n - l.toNat) tot) hp):=by
 simp only [gm]
 cases lk id hp with
 | none=>rfl
 | some b=>simp only [X6,eq_iff_iff];exact ⟨fun ⟨a,b,c⟩=>⟨b,a,c⟩,fun ⟨b,a,c⟩=>⟨a,b,c⟩⟩
theorem H3 (n:Nat) (el:TypeId) (l h:Int) (cs:List DV):gm P (.arr n el) (.rop cs) (some l) (some h) K hp=(P.cellsOf el=1∧n≤cs.length∧0≤l∧l≤h∧h≤n∧K (.d (.ro 1 (((cs.take h.toNat).drop l.toNat).map fun c=>[c]))) hp):=rfl
theorem H4 (bs:List Int) (l h:Int):gm P .str (.d (.str bs)) (some l) (some h) K hp=(0≤l∧l≤h∧h≤bs.length∧K (.d (.str ((bs.take h.toNat).drop l.toNat))) hp):=rfl
def Dn (P:Program) (el:TypeId) (b:Option Blk) (id len tot:Nat) (xs:List (List AV)) (K:AV→Hp→Prop) (hp:Hp):Prop :=
 match b with
 | some b=>b.es.length=tot∧b.ty=el∧b.e=P.cellsOf el∧(eV P el).isSome=true∧P.bytesOf el ≠ 0∧(len+xs.length)*P.bytesOf el≤140737488355328 ∧
    (len+xs.length≤tot→K (.own id 0 (len+xs.length) tot) (bX id ⟨b.ty,b.e,b.es.take len ++ (xs ++ b.es.drop (len+xs.length))⟩ hp)) ∧
    (tot<len+xs.length→K (.own id 0 (len+xs.length) (len+xs.length)) (bX id ⟨b.ty,b.e,b.es.take len ++ xs⟩ hp))
 | none=>False
theorem H5 (el:TypeId) (xs:List (List AV)):eW P el .nil (some xs) nx K hp=((eV P el).isSome=true∧P.bytesOf el ≠ 0∧xs.length*P.bytesOf el≤140737488355328∧K (.own nx 0 xs.length xs.length) ((nx,⟨el,P.cellsOf el,xs⟩) :: hp)):=rfl
theorem d6 (el:TypeId) (xs:List (List AV)) (id len tot:Nat):eW P el (.own id 0 len tot) (some xs) nx K hp=Dn P el (lk id hp) id len tot xs K hp:=rfl
def Xf (P:Program) (el:TypeId) (b:Option Blk) (id len:Nat) (xs:List (List AV)) (K:AV→Hp→Prop) (hp:Hp):Prop :=
 match b with
 | some b=>b.es.length=len∧b.ty=el∧b.e=P.cellsOf el∧(eV P el).isSome=true∧P.bytesOf el ≠ 0∧(len+xs.length)*P.bytesOf el≤140737488355328∧K (.own id 0 (len+xs.length) (len+xs.length)) (bX id ⟨b.ty,b.e,b.es ++ xs⟩ hp)
 | none=>False
theorem uW (el:TypeId) (xs:List (List AV)) (id len:Nat):eW P el (.own id 0 len len) (some xs) nx K hp=Xf P el (lk id hp) id len xs K hp:=by
 rw [d6];unfold Dn Xf
 cases hb:lk id hp with
 | none=>rfl
 | some b =>
  simp only [eq_iff_iff];constructor
  ·rintro ⟨h1,h2,h3,h4,h5,h6,h7,h8⟩;refine ⟨h1,h2,h3,h4,h5,h6,?_⟩;rcases Nat.eq_zero_or_pos xs.length with h0 | h0
   ·have hx:xs=[]:=List.eq_nil_of_length_eq_zero h0;subst hx;have:=h7 aw
    simpa using this
   ·have:=h8 aq;rw [cx aq] at this;exact this
  ·rintro ⟨h1,h2,h3,h4,h5,h6,h7⟩;refine ⟨h1,h2,h3,h4,h5,h6,fun h=>?_,fun h=>?_⟩
   ·have hx:xs=[]:=List.eq_nil_of_length_eq_zero aq;subst hx
    simpa using h7
   ·rw [cx aq];exact h7
theorem H6 (sz:Nat):cN hp sz .nil=some []:=rfl
theorem MH (sz e:Nat) (es:List (List DV)):cN hp sz (.d (.ro e es))=if e=sz then some (es.map fun r=>r.map .d) else none:=rfl
def Zh (b:Option Blk) (sz i0 len tot:Nat):Option (List (List AV)) :=
 match b with
 | some b=>if b.es.length=tot∧b.e=sz then some ((b.es.drop i0).take len) else none
 | none=>none
theorem H7 (sz id i0 len tot:Nat):cN hp sz (.own id i0 len tot)=Zh (lk id hp) sz i0 len tot:=rfl
def Zi (row:Option (List AV)) (n tot e sz off len:Nat):Option (List (List AV)) :=
 match row with
 | some row=>if n=tot∧e=sz then some ((List.range len).map fun k=>(row.drop (off+k*e)).take e) else none
 | none=>none
def X7 (b:Option Blk) (sz i off e len tot:Nat):Option (List (List AV)) :=
 match b with
 | some b=>Zi b.es[i]? b.es.length tot e sz off len
 | none=>none
theorem H8 (sz id i off e len cap tot:Nat):cN hp sz (.sub id i off e len cap tot)=X7 (lk id hp) sz i off e len tot:=by
 simp only [cN,X7]
 cases lk id hp with
 | none=>rfl
 | some b =>
  simp only
  cases b.es[i]? <;> rfl
theorem UK (s x:Operand) (t u:TypeId):bK P fr hp nx (.call ⟨.builtin .append,#[s,x],#[t,u]⟩) K=uz P fr hp nx .append [s,x] [t,u] K:=rfl
theorem QS (v:DV):(AV.d v).cellsO=some [.d v]:=rfl
theorem QT (cs:List AV):(AV.agg cs).cellsO=some cs:=rfl
theorem H9 (a b c d:Nat):(AV.own a b c d).cellsO=some [.own a b c d]:=rfl
theorem Ia (a b c d e f g:Nat):(AV.sub a b c d e f g).cellsO=some [.sub a b c d e f g]:=rfl
theorem Ib (a b c d:Nat):(AV.ptr a b c d).cellsO=some [.ptr a b c d]:=rfl
theorem Ic:(AV.nil).cellsO=some [.nil]:=rfl
theorem MI (f:FuncId) (cs:List AV):(AV.fn f cs).cellsO=some [.fn f cs]:=rfl
theorem Ie (cs:List DV):(AV.rop cs).cellsO=some [.rop cs]:=rfl
def QU (eq:Bool) (k:TK) (v:AV) (K:AV→Hp→Prop) (hp:Hp):Prop :=
 match v,k with
 | .nil,.slice _=>K (.d (.bool eq)) hp
 | .d (.ro _ es),.slice _=>∀ b,(b=eq→es.length=0)→K (.d (.bool b)) hp
 | .d (.rof _ es),.slice _=>∀ b,(b=eq→es.length=0)→K (.d (.bool b)) hp
 | .own _ _ len _,.slice _=>∀ b,(b=eq→len=0)→K (.d (.bool b)) hp
 | .sub _ _ _ _ len _ _,.slice _=>∀ b,(b=eq→len=0)→K (.d (.bool b)) hp
 | _,_=>False
theorem If (t:TypeId) (v:AV):cJ P .eql t v .nil K hp=QU true (bS P t) v K hp:=by
 unfold cJ db QU
 cases v with
 | d dv=>cases dv <;> cases bS P t <;> rfl
 | _=>cases bS P t <;> rfl
theorem MJ (t:TypeId) (a b:List Int):cJ P .eql t (.d (.str a)) (.d (.str b)) K hp=K (.d (.bool (decide (a=b)))) hp:=rfl
theorem MK (t:TypeId) (a b:List Int):cJ P .lss t (.d (.str a)) (.d (.str b)) K hp=K (.d (.bool (dI a b))) hp:=rfl
theorem ML (t:TypeId) (a b:List Int):cJ P .leq t (.d (.str a)) (.d (.str b)) K hp=K (.d (.bool (dI a b || decide (a=b)))) hp:=rfl
theorem MM (t:TypeId) (a b:List Int):cJ P .gtr t (.d (.str a)) (.d (.str b)) K hp=K (.d (.bool (!(dI a b || decide (a=b))))) hp:=rfl
theorem MN (t:TypeId) (a b:List Int):cJ P .geq t (.d (.str a)) (.d (.str b)) K hp=K (.d (.bool (!dI a b))) hp:=rfl
theorem Ig (t:TypeId) (a b:List Int):cJ P .add t (.d (.str a)) (.d (.str b)) K hp=(a.length+b.length≤9223372036854775807∧K (.d (.str (a ++ b))) hp):=rfl
def X8 (P:Program) (v:AV) (args:List AV) (hp:Hp) (N:Nat) (K:AV→Hp→Prop):Prop:=match v with
 | .fn g caps=>rY P g (args ++ caps) hp N K
 | .mth g caps=>rY P g (caps ++ args) hp N K
 | _=>False
theorem MO (f:Tmp) (args:Array Operand) (ts:Array TypeId):bK P fr hp nx (.call ⟨.value (.tmp f),args,ts⟩) K=X8 P (fv f fr) (args.toList.map (ev fr)) hp nx K:=by
 simp only [bK,X8,ev]
 cases fv f fr <;> rfl
theorem UL (g:FuncId) (args caps:List AV) (N:Nat):X8 P (.fn g caps) args hp N K=rY P g (args ++ caps) hp N K:=rfl
theorem pz (f:FuncId) (x:Operand):bK P fr hp nx (.makeFunc (.func f) #[x] #[]) K=K (.mth f [ev fr x]) hp:=by simp [bK]
theorem UM (f:FuncId) (caps:Array Operand):bK P fr hp nx (.makeFunc (.func f) #[] caps) K=K (.fn f (caps.toList.map (ev fr))) hp:=by simp [bK]
def Xg (x y:AV) (K:AV→Hp→Prop) (hp:Hp):Prop :=
 match x,y with
 | .d (.int k m),.d (.int _ n)=>K (.d (.int k (if n > m then n else m))) hp
 | _,_=>False
theorem UN (x y:Operand) (t u:TypeId):bK P fr hp nx (.call ⟨.builtin .max,#[x,y],#[t,u]⟩) K=Xg (ev fr x) (ev fr y) K hp:=rfl
def X9 (x y:AV) (K:AV→Hp→Prop) (hp:Hp):Prop :=
 match x,y with
 | .d (.int k m),.d (.int _ n)=>K (.d (.int k (if n<m then n else m))) hp
 | _,_=>False
theorem UO (x y:Operand) (t u:TypeId):bK P fr hp nx (.call ⟨.builtin .min,#[x,y],#[t,u]⟩) K=X9 (ev fr x) (ev fr y) K hp:=rfl
theorem MP (t:TypeId) (a b:List Int):cJ P .neq t (.d (.str a)) (.d (.str b)) K hp=K (.d (.bool (!decide (a=b)))) hp:=rfl
def Zj (t:TypeId) (v:AV) (nx:Nat) (K:AV→Hp→Prop) (hp:Hp):Prop :=
 match v with
 | .agg cs=>K (.ptr nx 0 0 1) ((nx,⟨t,cs.length,[cs]⟩) :: hp)
 | .any=>False
 | .tup _=>False
 | .d v=>K (.ptr nx 0 0 1) ((nx,⟨t,1,[[.d v]]⟩) :: hp)
 | .own a b c d=>K (.ptr nx 0 0 1) ((nx,⟨t,1,[[.own a b c d]]⟩) :: hp)
 | .sub a b c d e f g=>K (.ptr nx 0 0 1) ((nx,⟨t,1,[[.sub a b c d e f g]]⟩) :: hp)
 | .ptr a b c d=>K (.ptr nx 0 0 1) ((nx,⟨t,1,[[.ptr a b c d]]⟩) :: hp)
 | .rop cs=>K (.ptr nx 0 0 1) ((nx,⟨t,1,[[.rop cs]]⟩) :: hp)
 | .fn f cs=>K (.ptr nx 0 0 1) ((nx,⟨t,1,[[.fn f cs]]⟩) :: hp)
 | .mth f cs=>K (.ptr nx 0 0 1) ((nx,⟨t,1,[[.mth f cs]]⟩) :: hp)
 | .nil=>K (.ptr nx 0 0 1) ((nx,⟨t,1,[[.nil]]⟩) :: hp)
 | .mp a=>K (.ptr nx 0 0 1) ((nx,⟨t,1,[[.mp a]]⟩) :: hp)
theorem Ya (t:TypeId) (x:Operand):bK P fr hp nx (.box t x) K=Zj t (ev fr x) nx K hp:=by
 simp only [bK]
 cases ev fr x <;> rfl
def Zk (P:Program) (t:TypeId) (id:Nat) (b:Blk) (i off:Nat) (row:List AV) (u:AV) (K:AV→Hp→Prop) (hp:Hp):Prop :=
 match u with
 | .agg cs=>cs.length=P.cellsOf t∧P.cellsOf t ≠ 0∧off+cs.length≤row.length∧K .any (bX id ⟨b.ty,b.e,b.es.set i (row.take off ++ (cs ++ row.drop (off+cs.length)))⟩ hp)
 | .any=>False
 | .tup _=>False
 | .d v=>P.cellsOf t=1∧off<row.length∧K .any (bX id ⟨b.ty,b.e,b.es.set i (row.set off (.d v))⟩ hp)
 | .own a1 a2 a3 a4=>P.cellsOf t=1∧off<row.length∧K .any (bX id ⟨b.ty,b.e,b.es.set i (row.set off (.own a1 a2 a3 a4))⟩ hp)
 | .sub a1 a2 a3 a4 a5 a6 a7=>P.cellsOf t=1∧off<row.length∧K .any (bX id ⟨b.ty,b.e,b.es.set i (row.set off (.sub a1 a2 a3 a4 a5 a6 a7))⟩ hp)
 | .ptr a1 a2 a3 a4=>P.cellsOf t=1∧off<row.length∧K .any (bX id ⟨b.ty,b.e,b.es.set i (row.set off (.ptr a1 a2 a3 a4))⟩ hp)
 | .rop cs=>P.cellsOf t=1∧off<row.length∧K .any (bX id ⟨b.ty,b.e,b.es.set i (row.set off (.rop cs))⟩ hp)
 | .fn f cs=>P.cellsOf t=1∧off<row.length∧K .any (bX id ⟨b.ty,b.e,b.es.set i (row.set off (.fn f cs))⟩ hp)
 | .mth f cs=>P.cellsOf t=1∧off<row.length∧K .any (bX id ⟨b.ty,b.e,b.es.set i (row.set off (.mth f cs))⟩ hp)
 | .nil=>P.cellsOf t=1∧off<row.length∧K .any (bX id ⟨b.ty,b.e,b.es.set i (row.set off .nil)⟩ hp)
 | .mp a=>P.cellsOf t=1∧off<row.length∧K .any (bX id ⟨b.ty,b.e,b.es.set i (row.set off (.mp a))⟩ hp)
def Xh (P:Program) (t:TypeId) (id:Nat) (b:Option Blk) (i off tot:Nat) (u:AV) (K:AV→Hp→Prop) (hp:Hp):Prop :=
 match b with
 | some b=>(match b.es[i]? with
  | some row=>b.es.length=tot∧Zk P t id b i off row u K hp
  | none=>False)
 | none=>False
def Yb (P:Program) (t:TypeId) (v u:AV) (K:AV→Hp→Prop) (hp:Hp):Prop :=
 match v with
 | .ptr id i off tot=>Xh P t id (lk id hp) i off tot u K hp
 | _=>False
theorem Yc (t:TypeId) (x y:Operand):bK P fr hp nx (.store t x y) K=Yb P t (ev fr x) (ev fr y) K hp:=by
 simp only [bK,Yb];generalize ev fr x=v;generalize ev fr y=u
 cases v with
 | ptr id i off tot =>
  simp only [Xh]
  cases lk id hp with
  | none=>rfl
  | some b =>
   simp only
   cases b.es[i]? with
   | none=>rfl
   | some row=>cases u <;> rfl
 | _=>rfl
theorem Yd (t:TypeId):bK P fr hp nx (.makeMap t none) K=(∀ g,K (.mp nx) ((nx,⟨g,0,nV []⟩) :: hp)):=rfl
theorem Ye (t:TypeId) (m x:Operand):bK P fr hp nx (.lookup t m x false) K=Xt P t (ev fr m) (ev fr x) K hp:=rfl
theorem Yf (t:TypeId) (m x v:Operand):bK P fr hp nx (.mapUpdate t m x v) K=Xu P t (ev fr m) (ev fr x) (ev fr v) K hp:=rfl
theorem UQ (x:Operand) (t:TypeId):bK P fr hp nx (.call ⟨.builtin .len,#[x],#[t]⟩) K=uz P fr hp nx .len [x] [t] K:=rfl
theorem QV (f:FuncId) (args:Array Operand) (ts:Array TypeId):bK P fr hp nx (.call ⟨.value (.func f),args,ts⟩) K=rY P f (args.toList.map (ev fr)) hp nx K:=by
 simp [bK,ev,rY]
end
section
variable (P:Program)
def UR (k:TK):Bool:=match k with
 | .slice _=>false
 | _=>true
theorem QW (op:BinOp) (t t':TypeId) (x y:Operand):aV P (.binOp op t x y t')=UR (bS P t):=by
 simp only [aV,UR]
 cases bS P t <;> rfl
theorem MQ (x:Operand):aV P (.move x)=true:=rfl
theorem FB (x:Operand):aV P (.assign x)=true:=rfl
theorem MR (x y z:Operand):aV P (.pick x y z)=true:=rfl
theorem US (o:UnOp) (t:TypeId) (x:Operand):aV P (.unOp o t x)=true:=rfl
theorem QX (x:Operand):aV P (.nilCheck x)=true:=rfl
theorem UT (x:Operand) (i:Nat):aV P (.extract x i)=true:=rfl
theorem UU (s t:TypeId) (x:Operand):aV P (.convert s t x)=UR (bS P t):=by
 simp only [aV,UR]
 cases bS P t <;> rfl
theorem QY (t:TypeId) (x:Operand):aV P (.sliceToArrayPointer t x)=true:=rfl
theorem UV (t:TypeId) (x:Operand):aV P (.load t x)=true:=rfl
theorem UW (t:TypeId) (x:Operand) (i:Nat):aV P (.fieldAddr t x i)=true:=rfl
theorem UX (t:TypeId) (x y:Operand):aV P (.indexAddr t x y)=true:=rfl
theorem UY (t:TypeId) (x:Operand) (i:Nat):aV P (.field t x i)=true:=rfl
theorem QZ (t:TypeId) (x y:Operand):aV P (.index t x y)=true:=rfl
theorem UZ (t:TypeId) (x:Array (Nat × Operand)):aV P (.build t x)=true:=rfl
theorem U0 (t:TypeId) (x:Operand) (lo hi m:Option Operand):aV P (.slice t x lo hi m)=true:=rfl
theorem Q0 (x:Array Operand) (t:Array TypeId):aV P (.call ⟨.builtin .len,x,t⟩)=true:=rfl
end
attribute [go_sem] UO X9 Yd Ye Yf MK ML MM MN Ig MO UL UM UN Xg X4 HV MC MD ME Lj QI XE XF XG XI XH ep Xd YZ Y0 Y4 MF QZ Y7 UF QN HU Fv Fz Zg X1 UG UH QP QO X2 X3 UI yY QE List.getElem?_toArray Option.bind_some decide_not Bool.not_not Qi UR QW MQ FB MR US QX UT UU QY UV UW UX UZ U0 Q0 dM XX Zd QL QM HT kP ja XZ XY Zf Ze sG X0 QQ QR UJ HW MG HY X5 HZ X6 H2 H3 H4 AV.topLen Xf H5 uW H6 MH H7 Zh Zi X7 H8 UK QS QT H9 Ia Ib Ic MI Ie QU If MJ MP Option.isSome_some List.length_replicate List.replicate_succ List.replicate_zero List.length_append XK XJ QJ UD XL Y5 XN XM XO Za Y9 Y8 Xe UE QK XQ HQ XP XS XR UY XV XU XT Zb XW Zc Ya Zj Yc Yb Xh Zk HI yX ah Uo Qg Up Qh LL HJ Qj Qk LM LN LO LP Ql Qm Qn Qo Qp Qq Qr Qs Qu Us Qv LQ Ut Uu Uw Qw Qx Qy Qz Xx Ux QA Uy QB Uz LR QC Xy UA QD XA XB XC XD QF HK QG HL HM Ft HN HO UC LS LU LV LW LX LY QH LZ Bf L0 L6 L8 L9 Md Me MA MB UQ QV Xz UB G3 uz AV.slen List.length_map Int.toNat_natCast List.getElem?_map Option.map_some Int.natCast_nonneg ne_eq not_false_eq_true List.map_cons List.map_nil List.drop_zero List.drop_succ_cons List.length_cons List.length_nil List.take_succ_cons List.take_zero List.getElem?_cons_zero List.getElem?_cons_succ List.head?_cons List.set_cons_zero List.cons_append List.nil_append Nat.zero_add List.drop_nil Nat.add_zero true_and and_true
def pA {T:Type} (mk:T→St) (inv:T→Prop) (mu:T→Nat) (t:T) (Q:Exit→St→Prop):Exit→St→Prop
 | .normal,st=>∃ t',inv t'∧mu t'<mu t∧Wk st (mk t')
 | e,st=>Q e st
theorem Q1 {T:Type} (mk:T→St) (inv:T→Prop) (mu:T→Nat) (t:T) (Q:Exit→St→Prop) (st:St):pA mk inv mu t Q .ret st=Q .ret st:=rfl
theorem Q2 {T:Type} (mk:T→St) (inv:T→Prop) (mu:T→Nat) (t:T) (Q:Exit→St→Prop) (st:St) (i:Nat):pA mk inv mu t Q (.exit i) st=Q (.exit i) st:=rfl
attribute [go_sem] Q1 Q2
theorem ao {T:Type} {mk:T→St} {inv:T→Prop} {mu:T→Nat} {t:T} {Q:Exit→St→Prop} {st:St} (t':T) (hI:inv t') (hm:mu t'<mu t) (hw:aA st (mk t')):pA mk inv mu t Q .normal st:=⟨t',hI,hm,cz hw⟩
theorem Ih {T:Type} {mk:T→St} {inv:T→Prop} {mu:T→Nat} {t:T} {Q:Exit→St→Prop} {st:St} (t':T) (hI:inv t') (hm:mu t'<mu t) (hw:Wk st (mk t')):pA mk inv mu t Q .normal st:=⟨t',hI,hm,hw⟩
theorem mE {P:Program} {n:Nat} {x:Code} {Q:Exit→St→Prop} {st:St} {T:Type} (mk:T→St) (inv:T→Prop) (mu:T→Nat) (t0:T) (h0:inv t0) (hw:Wk st (mk t0))
  (h:∀ t,inv t→mf P n x (pA mk inv mu t Q) (mk t)):Xw P n x Q st:=by
 refine ⟨fun m st=>∃ t,mu t=m∧inv t∧st=mk t,⟨mu t0,mk t0,hw,t0,rfl,h0,rfl⟩,?_⟩;rintro m _ ⟨t,rfl,hi,rfl⟩
 have:yU (fun m st=>∃ t,mu t=m∧inv t∧st=mk t) (mu t) Q=pA mk inv mu t Q:=by
  funext e st
  cases e <;> try rfl
  simp only [yU,pA,eq_iff_iff];constructor
  ·rintro ⟨m',st',h1,h2,t',rfl,h3,rfl⟩;exact ⟨t',h3,h1,h2⟩
  ·rintro ⟨t',h3,h1,h2⟩;exact ⟨mu t',mk t',h1,h2,t',rfl,h3,rfl⟩
 rw [this];exact h t hi
theorem ar {P:Program} {n:Nat} {x:Code} {Q:Exit→St→Prop} {st:St} {T:Type} (mk:T→St) (inv:T→Prop) (mu:T→Nat) (t0:T) (h0:inv t0) (hw:aA st (mk t0))
  (h:∀ t,inv t→mf P n x (pA mk inv mu t Q) (mk t)):Xw P n x Q st:=mE mk inv mu t0 h0 (cz hw) h
theorem qD {P:Program} {g:FuncId} {args:List AV} {hp:Hp} {N:Nat} {K:AV→Hp→Prop} {r:AV} (h:o7 P g args r) (hK:K r hp):rY P g args hp N K:=.inr ⟨r,h,hK⟩
theorem Pg {P:Program} {g:FuncId} {args:List AV} {hp:Hp} {N:Nat} {K:AV→Hp→Prop} {Q:AV→Prop} (h:ax P g args Q) (hd:∀ v,v ∈ args→v.deep) (hK:∀ r,Q r→K r hp):rY P g args hp N K:=.inl (uV h hd hK)
theorem ag {P:Program} {g:FuncId} {args:List AV} {hp:Hp} {N:Nat} {K:AV→Hp→Prop} {r:AV} (h:ax P g args (fun x=>x=r)) (hd:∀ v,v ∈ args→v.deep) (hK:K r hp):rY P g args hp N K:=.inl (uV h hd (fun _ e=>by rw [e];exact hK))
theorem bN (ids:List Nat) {P:Program} {g:FuncId} {args args':List AV} {hp:Hp} {N:Nat} {K:AV→Hp→Prop} {r:AV} (h:ax P g args' (fun x=>x=r)) (hl':args.length=args'.length)
  (hs:∀ (i:Nat) (v v':AV),args[i]?=some v→args'[i]?=some v'→Snap hp (fun id=>id ∈ ids) v v') (hK:K r (aE ids hp)):rY P g args hp N K:=.inl (yW ids h hl' hs (fun _ e=>by rw [e];exact hK))
theorem iV {P:Program} {g:FuncId} {args args':List AV} {hp:Hp} {N:Nat} {K:AV→Hp→Prop} {r:AV} (h:ax P g args' (fun x=>x=r)) (hl':args.length=args'.length)
  (hs:∀ (i:Nat) (v v':AV),args[i]?=some v→args'[i]?=some v'→Snap hp (fun _=>True) v v') (hf:r.flat) (hK:K r hp):rY P g args hp N K:=.inl (yV h hl' hs (fun _ e=>by rw [e];exact hf) (fun _ e=>by rw [e];exact hK))
theorem aD {hp:Hp} {I:Nat→Prop} {args':List AV}:∀ (i:Nat) (v v':AV),([]:List AV)[i]?=some v→args'[i]?=some v'→Snap hp I v v':=by intro i v v' h;simp at h
theorem aj {hp:Hp} {I:Nat→Prop} {a a':AV} {args args':List AV} (h:Snap hp I a a') (t:∀ (i:Nat) (v v':AV),args[i]?=some v→args'[i]?=some v'→Snap hp I v v'):∀ (i:Nat) (v v':AV),(a :: args)[i]?=some v→(a' :: args')[i]?=some v'→Snap hp I v v':=by
 intro i v v' h1 h2
 cases i with
 | zero=>simp at h1 h2;subst h1;subst h2;exact h
 | succ i=>simp at h1 h2;exact t i v v' h1 h2
theorem bB {hp:Hp} {I:Nat→Prop} {args':List AV}:∀ (i:Nat) (v v':AV),([]:List AV)[i]?=some v→args'[i]?=some v'→jr hp I v v':=by intro i v v' h;simp at h
theorem ap {hp:Hp} {I:Nat→Prop} {a a':AV} {args args':List AV} (h:jr hp I a a') (t:∀ (i:Nat) (v v':AV),args[i]?=some v→args'[i]?=some v'→jr hp I v v'):∀ (i:Nat) (v v':AV),(a :: args)[i]?=some v→(a' :: args')[i]?=some v'→jr hp I v v':=by
 intro i v v' h1 h2
 cases i with
 | zero=>simp at h1 h2;subst h1;subst h2;exact h
 | succ i=>simp at h1 h2;exact t i v v' h1 h2
theorem bc {hp:Hp} {I:Nat→Prop} {v:AV} (h:v.deep1):jr hp I v v:=.inl ⟨rfl,h⟩
theorem ak {hp:Hp} {I:Nat→Prop} {v:AV} {d:DV} (h:SnapD hp I v d):jr hp I v (.d d):=.inr ⟨d,rfl,h⟩
end Go.Am
namespace Go.Am
theorem a9 {P:Prop} (h:P:=by simp [AV.deep,AV.deep1]):P:=h
end Go.Am
namespace Go.Am
def a_:List Nat → Tr
| []=>.done
| n::r=>.step n [] false (a_ r)
abbrev bt (n:Nat) (t:Tr):=Tr.step n [] true t
abbrev bx (n:Nat) (t:Tr):=Tr.step n [] false t
end Go.Am
