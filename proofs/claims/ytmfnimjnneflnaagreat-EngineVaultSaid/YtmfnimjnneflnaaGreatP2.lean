/-
 Part 3 of what the claim rests on.
-/
import Derived.Test.YtmfnimjnneflnaaGreatP1
set_option linter.unusedVariables false
set_option linter.unusedSimpArgs false
set_option maxRecDepth 100000
set_option maxHeartbeats 16000000
namespace Go.Am
inductive Tr where
 |done
 |alt (a b:Tr)
 |step (i:Nat) (zs:List Nat) (keep:Bool) (t:Tr)
def Pm(i:Nat)(hs:List Nat):List Nat:=hs.filter fun j=>j != i
def w9(za zs:List Nat):List Nat:=za.filter fun z=>!zs.contains z
theorem pu{i k:Nat}{hs:List Nat}:k∈Pm i hs↔k∈hs∧k≠i:=by simp[Pm]
theorem ff{za zs:List Nat}{k:Nat}:k∈w9 za zs↔k∈za∧k ∉ zs:=by simp[w9]
def mB:Tr→List Nat
 | .done=>[]
 | .alt a b=>mB a++mB b
 | .step i _ _ _=>[i]
def Qn(ms:List Nat)(hs:List Nat)(t:Tr):Bool:=hs.all fun j=>(mB t).contains j||hs.any fun p=>wt ms j p
def LN(ops:Array Oper)(hs:List Nat)(t:Tr):Prop:=∀j,j∈hs→j∈mB t∨∃p,p∈hs∧Waits ops j p
def Qo(ops:Array Oper)(z:Nat):Bool:=match ops[z]? with
 |some o=>FC o.op
 |none=>false
def Pn(ops:Array Oper)(ms za is:List Nat):List Nat→List Nat→Tr→Bool
 |zv,hs,.done=>hs.isEmpty&&za.all fun z=>zv.contains z
 |zv,hs,.alt a b=>Pn ops ms za is zv hs a&&Pn ops ms za is zv hs b
 | zv,hs,.step i zs keep t=>hs.contains i && (keep || za.all fun z=>Qo ops z || wt ms i z || is.any fun h=>!hs.contains h && wt ms h z) && (match bS ops i with
   |some d=>zv.all fun z=>!(fV ops z).contains d||wt ms i z
   |none=>true)&&(zs.all fun z=>wt ms z i)&&(zs.all fun z=>za.contains z)&&fL ops (zv++zs)&&dL (zv++zs)&&Qn ms (Pm i hs) t&&Pn ops ms za is (zv++zs) (Pm i hs) t
def HE(ops:Array Oper)(za is:List Nat):List Nat→List Nat→Tr→Prop
 |zv,hs,.done=>hs=[]∧∀z,z∈za→z∈zv
 |zv,hs,.alt a b=>HE ops za is zv hs a∧HE ops za is zv hs b
 | zv,hs,.step i zs keep t=>(i ∈ hs∧(keep=false→∀ z,z ∈ za→Qo ops z=false→Waits ops i z ∨ ∃ h,h ∈ is∧h ∉ hs∧Waits ops h z))∧(∀ d,bS ops i=some d→∀ z,z ∈ zv→d ∈ fV ops z→Waits ops i z)∧(∀ z,z ∈ zs→Waits ops z i)∧(∀ z,z ∈ zs→z ∈ za) ∧
   fL ops (zv++zs)=true∧dL (zv++zs)=true∧LN ops (Pm i hs) t∧HE ops za is (zv++zs) (Pm i hs) t
theorem HF{ops:Array Oper}{hs:List Nat}{t:Tr}(h:Qn (Ql ops) hs t=true):LN ops hs t:=by
 intro j hj;have:=d9.1 h j hj;rw[Bool.or_eq_true]at this;rcases this with h|h
 ·exact .inl (by simpa using h)
 ·obtain⟨p,h1,h2⟩:=List.any_eq_true.1 h;exact .inr ⟨p,h1,jP h2⟩
theorem Dw{ops:Array Oper}{za is:List Nat}:∀(t:Tr){zv hs:List Nat},Pn ops (Ql ops) za is zv hs t=true→HE ops za is zv hs t
 | .done,zv,hs,h=>by
  simp only[Pn,Bool.and_eq_true,List.isEmpty_iff]at h;exact⟨h.1,fun z hz=>by simpa using d9.1 h.2 z hz⟩
 | .alt a b,zv,hs,h=>by
  simp only[Pn,Bool.and_eq_true]at h;exact⟨Dw a h.1,Dw b h.2⟩
 | .step i zs keep t,zv,hs,h=>by
  simp only[Pn,Bool.and_eq_true]at h;obtain⟨⟨⟨⟨⟨⟨⟨⟨h1,h2⟩,h3⟩,h4⟩,h5⟩,h6⟩,h7⟩,h8⟩,h9⟩:=h;refine⟨⟨by simpa using h1,fun hk z hz hnm=>?_⟩,fun d hd z hz hl=>?_,fun z hz=>jP (d9.1 h4 z hz),fun z hz=>by simpa using d9.1 h5 z hz,h6,h7,HF h8,Dw t h9⟩
  ·rw[hk,Bool.false_or]at h2;have h2':=d9.1 h2 z hz;rw[hnm,Bool.false_or,Bool.or_eq_true]at h2';rcases h2' with h|h
   ·exact .inl (jP h)
   ·obtain⟨q,q1,q2⟩:=List.any_eq_true.1 h;rw[Bool.and_eq_true]at q2;exact .inr ⟨q,q1,by simpa using q2.1,jP q2.2⟩
  ·simp only[hd]at h3;have:=d9.1 h3 z hz;simp only[hl,List.contains_eq_mem,decide_true,Bool.not_true,Bool.false_or]at this;exact jP this
section
variable (P:Program) (ops:Array Oper) (base:Nat) (hp0:Hp) (K:Fr→Hp→Prop)
def uR:Tr→Fr→Hp→Prop
 | .done,fr,hp=>K fr hp
 | .alt a b,fr,hp=>uR a fr hp∧uR b fr hp
 | .step i zs keep t,fr,hp=>match ops[i]? with
  | some o=>(match o.guard with
   |none=>bJ P fr hp (base+32*i) o.op fun v hp'=>(keep=true→dM hp0 hp')∧zW P ops base hp0 (fun fr=>uR t fr hp') zs (bn fr o.dst v)
   | some (g,want)=>(match (ops[g]?).bind (·.dst) with
    |some d=>(match fv d fr with
     | .d (.bool b)=>(b=want→bJ P fr hp (base+32*i) o.op fun v hp'=>(keep=true→dM hp0 hp')∧zW P ops base hp0 (fun fr=>uR t fr hp') zs (bn fr o.dst v)) ∧
       (b=!want→zW P ops base hp0 (fun fr=>uR t fr hp) zs (bn fr o.dst (.tup [])))
     | .tup []=>zW P ops base hp0 (fun fr=>uR t fr hp) zs (bn fr o.dst (.tup []))
     |_=>False)
    |none=>False))
  |none=>False
end
section
variable {P:Program} {c:Ctx} {ops:Array Oper} {base:Nat} {hp0:Hp} {K:Fr→Hp→Prop} {fr fr':Fr}
theorem zc{za is zs:List Nat}{hp:Hp}:∀(t:Tr),HE ops za is zs [] t→uR P ops base hp0 K t fr hp→K fr hp
 | .done,_,h=>h
 | .alt a b,hT,h=>zc a hT.1 h.1
 | .step i zs keep t,hT,h=>by have:=hT.1.1;simp at this
theorem sZ{za is:List Nat}:∀(t:Tr){zs hs:List Nat}{z:Nat},HE ops za is zs hs t→z∈za→z ∉ zs→∃p,p∈hs∧Waits ops z p
 | .done,zs,hs,z,hT,h1,h2=>absurd (hT.2 z h1) h2
 | .alt a b,zs,hs,z,hT,h1,h2=>sZ a hT.1 h1 h2
 | .step i zj keep t,zs,hs,z,hT,h1,h2=>by
  obtain⟨p1,p2,p3,p4,p5,p6,p7,p8⟩:=hT;rcases Classical.em (z∈zj)with h|h
  ·exact⟨i,p1.1,p3 z h⟩
  ·obtain⟨p,q1,q2⟩:=sZ t p8 h1 (fun e=>(cL.1 e).elim h2 h);exact⟨p,(pu.1 q1).1,q2⟩
theorem qB{za is zs hs:List Nat}{hp:Hp}{i:Nat}:∀(t:Tr),i∈mB t→HE ops za is zs hs t→uR P ops base hp0 K t fr hp→∃zj keep t',HE ops za is zs hs (.step i zj keep t')∧uR P ops base hp0 K (.step i zj keep t') fr hp
 | .done,h,_,_=>by simp[mB]at h
 | .alt a b,h,hT,hW=>by
  rcases cL.1 h with h|h
  ·exact qB a h hT.1 hW.1
  ·exact qB b h hT.2 hW.2
 | .step j zj keep t',h,hT,hW=>by
  simp only[mB,List.mem_singleton]at h;subst h;exact⟨zj,keep,t',hT,hW⟩
/-- Every order. -/
theorem Qp {za is:List Nat} {Q:Exit→Act→World→Prop} (hB:RegOk c.n ops za is)
  (hQ:∀fr hp a w U,K fr hp→(∀k,U k→k<base+32*ops.size)→nU c fr hp U a w→Q .normal a w) :
  ∀(fuel:Nat)(listed:Array Bool)(zs hs:List Nat)(t:Tr)(fr:Fr)(hp:Hp)(a:Act)(w:World),LL listed≤fuel→HE ops za is zs hs t→LN ops hs t→(∀i,i∈hs→i∈is)→(∀z,z∈zs→z∈za) →
   RInv P c ops base hp0 (za.filter fun z=>!Qo ops z) zs (hs++w9 za zs) listed fr hp a w→uR P ops base hp0 K t fr hp→wpAny P .any ops Q fuel listed a w:=by
 have notboth:∀{listed:Array Bool}{i:Nat},listed.getD i true=false→listed.getD i false=true→False:=by
  intro listed i h1 h2;rw[jx h2]at h1
  cases h1
 -- where nothing is left
 have rK:∀ (listed:Array Bool) (zs hs:List Nat) (t:Tr) (fr:Fr) (hp:Hp) (a:Act) (w:World),HE ops za is zs hs t→(∀ i,i ∈ hs→i ∈ is)→RInv P c ops base hp0 (za.filter fun z=>!Qo ops z) zs (hs ++ w9 za zs) listed fr hp a w→uR P ops base hp0 K t fr hp→Region.ready .any ops listed=[]→Q .normal a w:=by
  intro listed zs hs t fr hp a w hT hsub hI hW hr0
  have all:∀k j,j≤k→j<ops.size→listed.getD j false=true:=by
   intro k
   induction k with
   | zero =>
    intro j hj hjs
    cases hl:listed.getD j false with
    |true=>rfl
    | false =>
     have hmem:j∈Region.ready .any ops listed:=mem_ready.2 ⟨iR (by rw[hI.size];exact hjs) hl,ops[j],dn hjs,fun e he hb=>by
      have:=hB.low j _ (dn hjs) e he hb
      omega⟩
     rw[hr0]at hmem;simp at hmem
   | succ k ih =>
    intro j hj hjs
    cases hl:listed.getD j false with
    |true=>rfl
    | false =>
     have hmem:j∈Region.ready .any ops listed:=mem_ready.2 ⟨iR (by rw[hI.size];exact hjs) hl,ops[j],dn hjs,fun e he hb=>by
      have:=hB.low j _ (dn hjs) e he hb
      exact ih e.on aq aq⟩
     rw[hr0]at hmem;simp at hmem
  have hnil:hs=[]:=by
   cases hs with
   |nil=>rfl
   |cons j r =>
    have h1:=hI.un j (cL.2 (.inl (d7 ..)));exact(notboth h1 (all j j (cR _) (hB.inb j (hsub j (d7 ..))))).elim
  subst hnil;have hW:=zc t hT hW;obtain⟨U,σ,hr,hh,hU,hf⟩:=hI.sim;refine hQ fr hp a w U hW (fun k hk=>?_) ⟨hI.def_,hI.tmps,σ,hr,fun t=>hf t fun z hz hun=>?_,hh⟩
  ·rcases hU k hk with h|⟨j,hj1,hj2,hj⟩
   ·omega
   ·have:j<listed.size:=by
     rcases Nat.lt_or_ge j listed.size with h|h
     ·exact h
     ·simp[cx,Array.getElem?_eq_none h]at hj
    have:=hI.size;omega
  ·intro he
   have:z<ops.size:=by
    rcases Nat.lt_or_ge z ops.size with h|h
    ·exact h
    ·simp[bS,Array.getElem?_eq_none h]at he
   exact notboth hun (all z z (cR _) this)
 intro fuel
 induction fuel with
 | zero =>
  intro listed zs hs t fr hp a w hf hT hcov hsub hza hI hW
  have hr0:Region.ready .any ops listed=[]:=by
   rw[List.eq_nil_iff_forall_not_mem];intro i hi;have:=sk (mem_ready.1 hi).1;omega
  exact⟨hr0,rK listed zs hs t fr hp a w hT hsub hI hW hr0⟩
 | succ fuel ih =>
  intro listed zs hs tr fr hp a w hfuel hT hcov hsub hza hI hW;refine⟨rK listed zs hs tr fr hp a w hT hsub hI hW,fun i hi=>?_⟩;obtain⟨hun,o,ho,haft⟩:=mem_ready.1 hi;have his:i<ops.size:=(Array.getElem?_eq_some_iff.1 ho).1;have hil:i<listed.size:=by rw[hI.size];exact his
  have hdi:bS ops i=o.dst:=by simp[bS,ho]
  have hli:fV ops i=o.looksAt ops:=by simp[fV,ho]
  have hwl:∀z,Waits ops i z→listed.getD z false=true:=fun z hz=>lq hI.closed hz fun o' ho'=>by
   rw[ho]at ho';injection ho' with ho';subst ho';exact haft
  have hzza:∀z,z∈zs→z∈za:=hza
  have hdst:fJ c.n o.dst:=by
   unfold fJ
   cases hd:o.dst with
   |none=>trivial
   |some d=>exact hB.lt i d (by rw[hdi,hd])
  have hun':∀z,(listed.setIfInBounds i true).getD z true=false→listed.getD z true=false∧z≠i:=by
   intro z hz;rw[aI true hil]at hz
   split at hz
   ·cases hz
   ·rename_i hne;exact⟨hz,fun h=>hne h.symm⟩
  have hclosed':∀j o',ops[j]?=some o'→(listed.setIfInBounds i true).getD j false=true→∀e,e∈o'.after→Region.binds .any e=true→(listed.setIfInBounds i true).getD e.on false=true:=by
   intro j o' hj hl e he hb;rw[aI false hil]at hl⊢
   split
   ·rfl
   ·split at hl
    ·rename_i hij;subst hij;rw[ho]at hj;injection hj with hj;subst hj;exact haft e he hb
    ·exact hI.closed j o' hj hl e he hb
  have hfuel':LL (listed.setIfInBounds i true)≤fuel:=by
   have:=sk hun;omega
  obtain⟨U,σ,hr,hh,hU,hf⟩:=hI.sim
  have hNU:Free U (base+32*i):=by
   intro k k1 k2 h;rcases hU _ h with h|⟨j,hj,hj2,hl⟩
   ·omega
   ·have:j=i:=aq;subst this;exact notboth hun hl
  have hU':∀k,dJ U (base+32*i) k→k<base∨∃j,base+32*j≤k∧k<base+32*j+32∧(listed.setIfInBounds i true).getD j false=true:=by
   rintro k(h|h)
   ·rcases hU k h with h|⟨j,h1,h1',h2⟩
    ·exact .inl h
    ·exact .inr ⟨j,h1,h1',by rw[aI false hil];split<;>simp[h2]⟩
   ·exact .inr ⟨i,h.1,h.2,by rw[aI false hil];simp⟩
  obtain⟨frm,hm1,hm2⟩:=Br fr (zs.filterMap fun z=>if listed.getD z true=true then none else bS ops z)
  have hml:∀t,t∈(zs.filterMap fun z=>if listed.getD z true=true then none else bS ops z)↔∃z,z∈zs∧listed.getD z true=false∧bS ops z=some t:=by
   intro t;rw[List.mem_filterMap];constructor
   ·rintro⟨z,hz,h⟩
    split at h
    ·cases h
    ·rename_i hne;exact⟨z,hz,by simpa using hne,h⟩
   ·rintro⟨z,hz,h1,h2⟩;exact⟨z,hz,by simp[h1,h2]⟩
  have hfm:∀t,AIs w (bI c w σ hp) σ hp U (fv t frm) (a.tmps.getD t undef):=by
   intro t;by_cases hm:t∈(zs.filterMap fun z=>if listed.getD z true=true then none else bS ops z)
   ·rw[hm1 t hm];exact .any _
   ·rw[hm2 t hm];exact hf t fun z hz hzu he=>hm ((hml t).2 ⟨z,hz,hzu,he⟩)
  have hlook:∀t,t∈o.looksAt ops→fv t frm=fv t fr:=by
   intro t ht';refine hm2 t fun hm=>?_;obtain⟨z,hz,hzu,he⟩:=(hml t).1 hm;exact notboth hzu (hwl z (hB.zdst z (hzza z hz) t he i (by rw[hli];exact ht')))
  have hlook':∀t,t∈o.looksAt ops→fv t fr=fv t frm:=fun t ht'=>(hlook t ht').symm
  have hgu:∀{g want d},o.guard=some (g,want)→(ops[g]?).bind (·.dst)=some d→fv d fr=.tup []→¬(yielded ops a.tmps g=some want):=by
   intro g want d hg hd hb;have hx:=hfm d;rw[hlook d (jb hg hd),hb]at hx;unfold yielded;rw[hd]
   cases ht:a.tmps[d]? with
   |none=>simp[ht]
   |some u =>
    have e:a.tmps.getD d undef=u:=by simp[cx,ht]
    rw[e]at hx
    cases hx with
    |tup _ xs _ _=>simp[ht]
  have hgv:∀{g want d b},o.guard=some (g,want)→(ops[g]?).bind (·.dst)=some d→fv d fr=.d (.bool b)→yielded ops a.tmps g=some b:=by
   intro g want d b hg hd hb;have hx:=hfm d;rw[hlook d (jb hg hd),hb]at hx;have hv:=fE hx;unfold yielded;rw[hd];have hv':a.tmps[d]?.getD undef=.bool b:=by simpa using hv
   cases ht:a.tmps[d]? with
   |none=>rw[ht]at hv';cases hv'
   |some u=>rw[ht]at hv';simp at hv';subst hv';simp[ht]
  unfold wpOp;simp only[ho];by_cases hz:i∈zs
  ·
   have hopw:∀(K':AV→Hp→Prop)(v:AV),kO P frm hp0 o.op v→K' v hp→bJ P frm hp (base+32*i) o.op K':=by
    intro K' v hs hk;rcases hI.sa with h|h
    ·exact hs hp _ K' h hk
    ·have hn:FC o.op=true:=by
      cases hn:FC o.op with
      |true=>rfl
      |false =>
       have:=h i (List.mem_filter.2 ⟨hzza i hz,by simp[Qo,ho,hn]⟩);rw[hun]at this;cases this
     exact LJ hn hs hp _ K' hk
   have hsa':rF hp0 hp∨∀z,z∈(za.filter fun z=>!Qo ops z)→(listed.setIfInBounds i true).getD z true=true:=hI.sa.imp id fun h z hz'=>by
    rw[aI true hil]
    split
    ·rfl
    ·exact h z hz'
   have hirest:i ∉ hs++w9 za zs:=fun h=>by
    rcases cL.1 h with h|h
    ·exact(hB.part i his).2 ⟨hzza i hz,hsub i h⟩
    ·exact(ff.1 h).2 hz
   obtain⟨v,o',ho',hdv,hzk⟩:=hI.facts i hz hun;rw[ho]at ho';injection ho' with ho';subst ho'
   have next:∀a' w',nU c (bn frm o.dst v) hp (dJ U (base+32*i)) a' w'→wpAny P .any ops Q fuel (listed.setIfInBounds i true) a' w':=by
    rintro a' w'⟨q1,q2,σ',q3,q4,q5⟩;refine ih _ zs hs tr fr hp a' w' hfuel' hT hcov hsub hza ⟨by simp[hI.size],hclosed',fun j hj=>?_,fun j hj hjz hjr=>?_,q1,q2,⟨_,σ',q3,q5,hU',fun t htu=>?_⟩,fun z hz' hzu=>hI.facts z hz' (hun' z hzu).1,hsa'⟩ hW
    ·rw[aI true hil,if_neg (fun e=>hirest (by rw[e];exact hj))];exact hI.un j hj
    ·rw[aI false hil]
     split
     ·rfl
     ·exact hI.done j hj hjz hjr
    ·have:=q4 t;by_cases hd:o.dst=some t
     ·rw[hd,jc]at this;rw[hdv t hd];exact this
     ·rw[kD hd,hm2 t fun hm=>?_]at this
      ·exact this
      ·obtain⟨z,hz',hzu,he⟩:=(hml t).1 hm;refine htu z hz' ?_ he;rw[aI true hil,if_neg]
       ·exact hzu
       ·intro e;subst e;exact hd (by rw[←hdi];exact he)
   have exec:kO P fr hp0 o.op v→o.wp P a w (wpAny P .any ops Q fuel (listed.setIfInBounds i true)) Q:=by
    intro hs;have hop:=hopw (fun v' hp'=>v'=v∧hp'=hp) v (km hlook' hs) ⟨rfl,rfl⟩;have hok:=pn (o:=o) hr (fun x=>uZ hfm x) hNU hop;refine o6 hI.def_ hI.tmps hdst hfm hh hok fun v' hp' a' w' hK hS=>?_;obtain⟨rfl,rfl⟩:=hK;exact next a' w' hS
   unfold HC at hzk
   split at hzk
   ·rename_i hg;rw[if_pos (by simp[Region.wanted,hg])];exact .inl (exec hzk)
   ·rename_i g want hg;obtain⟨d,hd,⟨b,hb,h1,h2⟩|⟨hb,hv⟩⟩:=hzk
    ·have hy:=hgv hg hd hb;by_cases hbw:b=want
     ·rw[if_pos (by simp[Region.wanted,hg,hy,hbw])];exact .inl (exec (h1 hbw))
     ·rw[if_neg (by simp[Region.wanted,hg,hy,hbw])];have hv:=h2 (by cases b<;>cases want<;>simp_all)
      subst hv;exact next _ _ (kn hI.def_ hI.tmps hr hh hfm)
    ·have hy:=hgu hg hd hb;rw[if_neg (by simp[Region.wanted,hg,hy])];subst hv;exact next _ _ (kn hI.def_ hI.tmps hr hh hfm)
  ·
   have hir:i∈hs++w9 za zs:=by
    rcases Classical.em (i∈hs++w9 za zs)with h|h
    ·exact h
    ·exact(notboth hun (hI.done i his hz h)).elim
   have far:∀p,p∈hs→Waits ops i p→False:=fun p hp1 hp2=>notboth (hI.un p (cL.2 (.inl hp1))) (hwl p hp2)
   have hih:i∈hs:=by
    rcases cL.1 hir with h|h
    ·exact h
    ·obtain⟨p,hp1,hp2⟩:=sZ tr hT (ff.1 h).1 (ff.1 h).2;exact(far p hp1 hp2).elim
   have hfi:i∈mB tr:=by
    rcases hcov i hih with h|⟨p,hp1,hp2⟩
    ·exact h
    ·exact(far p hp1 hp2).elim
   obtain⟨zj,keep,t',hT',hW'⟩:=qB tr hfi hT hW;clear hT hW hcov hfi;obtain⟨p1,p2,p3,p4,p5,p6,p7,p8⟩:=hT';have hW:=hW';clear hW'
   ·have hiza:i ∉ za:=fun h=>(hB.part i his).2 ⟨h,hsub i hih⟩;have hzj:∀z,z∈zj→z∈za:=p4;have hza':∀z,z∈zs++zj→z∈za:=fun z hz'=>(cL.1 hz').elim (hza z) (p4 z);have hordj:=jQ p5;have hnzj:=iF p6
    have hmr:∀{k},k∈Pm i hs++w9 za (zs++zj)→k∈hs++w9 za zs∧k≠i:=by
     intro k hk;rcases cL.1 hk with h|h
     ·exact⟨cL.2 (.inl (pu.1 h).1),(pu.1 h).2⟩
     ·have h':=ff.1 h;exact⟨cL.2 (.inr (ff.2 ⟨h'.1,fun e=>h'.2 (cL.2 (.inl e))⟩)),fun e=>hiza (by rw[←e];exact h'.1)⟩
    have hunj:∀z,z∈zj→listed.getD z true=false:=fun z hz'=>hI.un z (cL.2 (.inr (ff.2 ⟨hzj z hz',fun e=>hnzj.2.2 z e hz'⟩)));simp only[uR,ho]at hW
    have next:∀v hp' a' w',(keep=true→rF hp0 hp'∨∀z,z∈(za.filter fun z=>!Qo ops z)→listed.getD z true=true)→zW P ops base hp0 (fun fr=>uR P ops base hp0 K t' fr hp') zj (bn fr o.dst v)→nU c (bn frm o.dst v) hp' (dJ U (base+32*i)) a' w'→wpAny P .any ops Q fuel (listed.setIfInBounds i true) a' w':=by
     rintro v hp' a' w' hsa hW'⟨q1,q2,σ',q3,q4,q5⟩;obtain⟨frZ,g1,g2,g3⟩:=mA hB.uniq zj _ hordj.2.1 hnzj.2.1 hW';refine ih _ (zs++zj) (Pm i hs) t' frZ hp' a' w' hfuel' p8 p7 (fun k hk=>hsub k (pu.1 hk).1) hza' ⟨by simp[hI.size],hclosed',fun k hk=>?_,fun k hk hkz hkr=>?_,q1,q2,⟨_,σ',q3,q5,hU',fun t htu=>?_⟩,fun z hz' hzu=>?_,?_⟩ g1
     ·rw[aI true hil,if_neg (fun e=>(hmr hk).2 e.symm)];exact hI.un k (hmr hk).1
     ·rw[aI false hil]
      split
      ·rfl
      ·rename_i hne
       exact hI.done k hk (fun h=>hkz (cL.2 (.inl h))) (fun h=>by
        rcases cL.1 h with h|h
        ·exact hkr (cL.2 (.inl (pu.2 ⟨h,fun e=>hne e.symm⟩)))
        ·exact hkr (cL.2 (.inr (ff.2 ⟨(ff.1 h).1,hkz⟩))))
     ·have hnj:∀z,z∈zj→bS ops z≠some t:=fun z hz'=>htu z (cL.2 (.inr hz')) (by
       rw[aI true hil,if_neg (fun e=>hiza (by rw[e];exact hzj z hz'))]
       exact hunj z hz')
      rw[g2 t hnj];have:=q4 t;by_cases hd:o.dst=some t
      ·rw[hd,jc]at this⊢;exact this
      ·rw[kD hd]at this⊢;rw[hm2 t fun hm=>?_]at this
       ·exact this
       ·obtain⟨z,hz',hzu,he⟩:=(hml t).1 hm;refine htu z (cL.2 (.inl hz')) ?_ he;rw[aI true hil,if_neg (fun e=>hz (by rw[e];exact hz'))];exact hzu
     ·rcases cL.1 hz' with hz'|hz'
      ·obtain⟨hzu1,hzi⟩:=hun' z hzu;obtain⟨vz,oz,hoz,hdz,hzk⟩:=hI.facts z hz' hzu1;have hdz':bS ops z=oz.dst:=by simp[bS,hoz]
       have hlz:fV ops z=oz.looksAt ops:=by simp[fV,hoz]
       refine⟨vz,oz,hoz,fun d hd=>?_,qA (fun t ht'=>?_) hzk⟩
       ·rw[g2 d fun y hy he=>?_,kD]
        ·exact hdz d hd
        ·intro he;exact hzi (hB.uniq z i d (by rw[hdz'];exact hd) (by rw[hdi];exact he))
        ·have:=hB.uniq z y d (by rw[hdz'];exact hd) he;subst this;exact hnzj.2.2 z hz' hy
       ·rw[g2 t fun y hy=>hordj.2.2 z hz' y hy t (by rw[hlz];exact ht'),kD];intro he;exact notboth hzu1 (hwl z (p2 t (by rw[hdi];exact he) z hz' (by rw[hlz];exact ht')))
      ·exact g3 z hz'
     ·cases hk:keep with
      | false =>
       right;intro z hz';have hz'':=List.mem_filter.1 hz'
       have:listed.getD z false=true:=by
        rcases p1.2 hk z hz''.1 (by simpa using hz''.2)with h|⟨q,h1,h2,h3⟩
        ·exact hwl z h
        ·have hqz:q ∉ za:=fun e=>(hB.part q (hB.inb q h1)).2 ⟨e,h1⟩;have hl:=hI.done q (hB.inb q h1) (fun e=>hqz (hza q e)) (fun e=>(cL.1 e).elim h2 fun e=>hqz (ff.1 e).1);exact lq hI.closed h3 fun o' ho'=>hI.closed q o' ho' hl
       rw[aI true hil]
       split
       ·rfl
       ·exact jx this
      | true =>
       rcases hsa hk with h|h
       ·exact .inl h
       ·right;intro z hz';rw[aI true hil]
        split
        ·rfl
        ·exact h z hz'
    have exec:bJ P fr hp (base+32*i) o.op (fun v hp'=>(keep=true→dM hp0 hp')∧zW P ops base hp0 (fun fr=>uR P ops base hp0 K t' fr hp') zj (bn fr o.dst v))→o.wp P a w (wpAny P .any ops Q fuel (listed.setIfInBounds i true)) Q:=by
     intro hop;rw[qu (sX hlook')]at hop;have hok:=pn (o:=o) hr (fun x=>uZ hfm x) hNU hop;refine o6 hI.def_ hI.tmps hdst hfm hh hok fun v' hp' a' w' hK hS=>?_;exact next v' hp' a' w' (fun h=>.inl (y9 (hK.1 h))) hK.2 hS
    split at hW
    ·rename_i hg;rw[if_pos (by simp[Region.wanted,hg])];exact .inl (exec hW)
    ·rename_i g want hg
     split at hW
     ·rename_i d hd
      split at hW
      ·rename_i b hb;have hy:=hgv hg hd hb;by_cases hbw:b=want
       ·rw[if_pos (by simp[Region.wanted,hg,hy,hbw])];exact .inl (exec (hW.1 hbw))
       ·rw[if_neg (by simp[Region.wanted,hg,hy,hbw])];have hv:=hW.2 (by cases b<;>cases want<;>simp_all)
        exact next (.tup []) hp _ _ (fun hm=>hI.sa) hv (kn hI.def_ hI.tmps hr hh hfm)
      ·rename_i hb;have hy:=hgu hg hd hb;rw[if_neg (by simp[Region.wanted,hg,hy])];exact next (.tup []) hp _ _ (fun hm=>hI.sa) hW (kn hI.def_ hI.tmps hr hh hfm)
      ·exact hW.elim
     ·exact hW.elim
def Po(n:Nat)(ops:Array Oper)(ms:List Nat)(zs is za:List Nat)(t:Tr):Bool :=
 (List.range ops.size).all (fun j=>(za.contains j||is.contains j)&&!(za.contains j&&is.contains j)) &&
 is.all (fun j=>decide (j<ops.size))&&za.all (fun j=>decide (j<ops.size))&&dL zs&&fL ops zs&&(zs.all fun z=>za.contains z) &&
 (List.range ops.size).all (fun i=>match bS ops i with
  |some d=>decide (d<n)&&(List.range ops.size).all fun j=>j==i||bS ops j != some d
  |none=>true) &&
 za.all (fun z=>match bS ops z with
  |some d=>(List.range ops.size).all fun j=>!(fV ops j).contains d||wt ms j z
  |none=>true) &&
 Pn ops ms za is zs is t&&Qn ms is t &&
 (List.range ops.size).all (fun j=>match ops[j]? with
  |some o=>o.after.all fun e=>!Region.binds .any e||decide (e.on<j)
  |none=>true)
def s5(n:Nat)(ops:Array Oper)(zs is za:List Nat)(t:Tr):Bool:=Po n ops (Ql ops) zs is za t
theorem HG{n:Nat}{zs is za:List Nat}{t:Tr}(h:s5 n ops zs is za t=true):RegOk n ops za is∧HE ops za is zs is t∧LN ops is t∧fL ops zs=true∧dL zs=true∧(∀z,z∈zs→z∈za)∧∀z,z∈za→z<ops.size:=by
 unfold s5 at h;simp only[Po,Bool.and_eq_true]at h;obtain⟨⟨⟨⟨⟨⟨⟨⟨⟨⟨h1,h2⟩,h2b⟩,h3⟩,h3b⟩,h3c⟩,h4⟩,h5⟩,h6⟩,h7⟩,h10⟩:=h
 have inr:∀{i d},bS ops i=some d→i∈List.range ops.size:=by
  intro i d hi;rw[List.mem_range];rcases Nat.lt_or_ge i ops.size with h|h
  ·exact h
  ·simp[bS,Array.getElem?_eq_none h]at hi
 refine⟨⟨fun j hj=>?_,fun j hj=>?_,fun i d hi=>?_,fun i j d hi hj=>?_,fun z hz d hd j hj=>?_,fun j o ho e he hb=>?_⟩,Dw t h6,HF h7,h3b,h3,fun z hz=>by simpa using d9.1 h3c z hz,fun z hz=>by simpa using d9.1 h2b z hz⟩
 ·have:=d9.1 h1 j (List.mem_range.2 hj);simp at this;exact⟨this.1,fun h=>by rcases this.2 with h'|h'<;>simp_all⟩
 ·simpa using d9.1 h2 j hj
 ·have:=d9.1 h4 i (inr hi);simp only[hi,Bool.and_eq_true,decide_eq_true_eq]at this;exact this.1
 ·have:=d9.1 h4 i (inr hi);simp only[hi,Bool.and_eq_true]at this;have:=d9.1 this.2 j (inr hj);simp only[hj,bne_self_eq_false,Bool.or_false,beq_iff_eq]at this;exact this.symm
 ·have:=d9.1 h5 z hz;simp only[hd]at this
  have hjr:j∈List.range ops.size:=by
   rw[List.mem_range];rcases Nat.lt_or_ge j ops.size with h|h
   ·exact h
   ·simp[fV,Array.getElem?_eq_none h]at hj
  have:=d9.1 this j hjr;simp only[hj,List.contains_eq_mem,decide_true,Bool.not_true,Bool.false_or]at this;exact jP this
 ·have hjr:j∈List.range ops.size:=by
   rw[List.mem_range];exact(Array.getElem?_eq_some_iff.1 ho).1
  have:=d9.1 h10 j hjr;simp only[ho]at this;have:=Array.all_eq_true_iff_forall_mem.1 this e he
  simpa[hb]using this
theorem LO{zs is za:List Nat}{t:Tr}{id:Nat}{U:Nat→Prop}{a:Act}{w:World}{Q:Exit→Act→World→Prop}(hmix:P.follows .mixedOrders=true)(hB:s5 c.n ops zs is za t=true)
  (hQ:∀fr hp a w U,K fr hp→(∀k,U k→k<base+32*ops.size)→nU c fr hp U a w→Q .normal a w)
  (hU:∀k,U k→k<base) (hs:nU c fr hp0 U a w) (h:zW P ops base hp0 (fun fr=>uR P ops base hp0 K t fr hp0) zs fr):(Code.region id ops true).wp P Q a w:=by
 obtain⟨hok,hT,hcov,hord,hnd,hza,hinz⟩:=HG hB;obtain⟨frZ,h1,h2,h3⟩:=mA hok.uniq zs fr hord hnd h;obtain⟨q1,q2,σ,q3,q4,q5⟩:=hs;have hrd:=i7 q3
 have rep:∀j,(Array.replicate ops.size false).getD j false=false:=by
  intro j;simp only[cx,Array.getElem?_replicate]
  split<;>rfl
 have rep':∀j,j<ops.size→(Array.replicate ops.size false).getD j true=false:=by
  intro j hj;simp[cx,Array.getElem?_replicate,hj]
 refine wp_region_any hmix (Qp hok hQ ops.size _ zs is t frZ hp0 a w.drew ?_ hT hcov (fun _ h=>h) hza ⟨aw,fun j o ho hl=>(by rw[rep]at hl;cases hl),fun j hj=>?_,fun j hj hz hi=>?_,q1,q2,
  ⟨U,σ,hrd,q5.trans ca,fun k hk=>.inl (hU k hk),fun t ht=>?_⟩,fun z hz _=>h3 z hz,.inl fun _ _ h=>h⟩ h1)
 ·unfold LL;refine Nat.le_trans (List.length_filter_le _ _) ?_;simp
 ·refine rep' j ?_;rcases cL.1 hj with h|h
  ·exact hok.inb j h
  ·exact hinz j (ff.1 h).1
 ·rcases(hok.part j hj).1 with h|h
  ·exact absurd (cL.2 (.inr (ff.2 ⟨h,hz⟩))) hi
  ·exact absurd (cL.2 (.inl h)) hi
 ·rw[h2 t fun z hz he=>?_]
  ·exact(q4 t).step ca
  ·refine ht z hz (rep' z ?_) he;rcases Nat.lt_or_ge z ops.size with h|h
   ·exact h
   ·simp[bS,Array.getElem?_eq_none h]at he
end
end Go.Am
namespace Go.Am
def AV.deep1:AV→Prop
 | .any=>True
 | .d _=>True
 | .rop _=>True
 | .fn _ cs=>cs=[]
 | .mth _ cs=>cs=[]
 | .nil=>True
 |_=>False
def AV.deep:AV→Prop
 | .agg cs=>∀c,c∈cs→c.deep1
 | .tup cs=>∀c,c∈cs→(c.deep1∨∃xs,c=.agg xs∧∀x,x∈xs→x.deep1)
 | .fn _ cs=>∀c,c∈cs→c.deep1
 | .mth _ cs=>∀c,c∈cs→c.deep1
 |v=>v.deep1
def DV.flat:DV→Prop
 | .int _ _=>True
 | .bool _=>True
 | .str _=>True
 | .nilp=>True
 | .ro _ _=>False
 | .rof _ _=>False
 | .box _=>False
def AV.flat1:AV→Prop
 | .d v=>v.flat
 | .any=>True
 | .nil=>True
 |_=>False
def AV.flat:AV→Prop
 | .agg cs=>∀c,c∈cs→c.flat1
 | .tup cs=>∀c,c∈cs→(c.flat1∨∃xs,c=.agg xs∧∀x,x∈xs→x.flat1)
 |v=>v.flat1
section
variable {w:World} {S S':Nat→Prop} {σ σ':Nat→Option Nat} {hp hp':Hp} {U U':Nat→Prop}
theorem jR{v:AV}{x:Value}(hv:v.deep1)(hS:∀b,S b→S' b)(h:AIs w S σ hp U v x):AIs w S' σ' hp' U' v x:=by
 cases h with
 |any=>exact .any _
 |d h=>exact .d (h.mono hS fun _ _=>rfl)
 |rop cs ad vs h1 h2 h3=>exact .rop cs ad vs (hS _ h1) h2 fun j y hy=>(h3 j y hy).mono hS fun _ _=>rfl
 |fn f cs xs hl h=>obtain rfl:cs=[]:=hv;exact .fn f [] xs hl aw
 |mth f cs xs hl h=>obtain rfl:cs=[]:=hv;exact .mth f [] xs hl aw
 |agg=>exact hv.elim
 |tup=>exact hv.elim
 |own=>exact hv.elim
 |sub=>exact hv.elim
 |ptr=>exact hv.elim
 |nil=>exact .nil
 |mp=>exact hv.elim
theorem lr{v:AV}{x:Value}(hv:v.deep)(hS:∀b,S b→S' b)(h:AIs w S σ hp U v x):AIs w S' σ' hp' U' v x:=by
 cases v with
 |agg cs =>
  cases h with
  |agg _ xs hl h1 h=>exact .agg cs xs hl h1 fun i c x hc hx=>jR (hv c (cr hc)) hS (h i c x hc hx)
 | tup cs =>
  cases h with
  | tup _ xs hl h =>
   refine .tup cs xs hl fun i c x hc hx=>?_;have h0:=h i c x hc hx;rcases hv c (cr hc)with h1|⟨ys,rfl,h1⟩
   ·exact jR h1 hS h0
   ·cases h0 with
    |agg _ zs hl h2 h=>exact .agg ys zs hl h2 fun i c x hc hx=>jR (h1 c (cr hc)) hS (h i c x hc hx)
 |fn f cs =>
  cases h with
  |fn _ _ xs hl h=>exact .fn f cs xs hl fun i c x hc hx=>jR (hv c (cr hc)) hS (h i c x hc hx)
 |mth f cs =>
  cases h with
  |mth _ _ xs hl h=>exact .mth f cs xs hl fun i c x hc hx=>jR (hv c (cr hc)) hS (h i c x hc hx)
 |_=>exact jR hv hS h
theorem HH{v:DV}{x:Value}(hv:v.flat)(h:DIs w S v x):DIs w S' v x:=by
 cases h with
 |int=>exact .int _ _
 |bool=>exact .bool _
 |str=>exact .str _
 |nilp=>exact .nilp
 |ro=>exact hv.elim
 |rof=>exact hv.elim
 |box=>exact hv.elim
theorem pv{v:AV}{x:Value}(hv:v.flat1)(h:AIs w S σ hp U v x):AIs w S' σ' hp' U' v x:=by
 cases h with
 |d h=>exact .d (HH hv h)
 |any=>exact .any _
 |nil=>exact .nil
 |_=>exact hv.elim
theorem LP{v:AV}{x:Value}(hv:v.flat)(h:AIs w S σ hp U v x):AIs w S' σ' hp' U' v x:=by
 cases v with
 |agg cs =>
  cases h with
  |agg _ xs hl h1 h=>exact .agg cs xs hl h1 fun i c x hc hx=>pv (hv c (cr hc)) (h i c x hc hx)
 | tup cs =>
  cases h with
  | tup _ xs hl h =>
   refine .tup cs xs hl fun i c x hc hx=>?_;have h0:=h i c x hc hx;rcases hv c (cr hc)with h1|⟨ys,rfl,h1⟩
   ·exact pv h1 h0
   ·cases h0 with
    |agg _ zs hl h2 h=>exact .agg ys zs hl h2 fun i c x hc hx=>pv (h1 c (cr hc)) (h i c x hc hx)
 |_=>exact pv hv h
end
inductive SnapD(hp:Hp)(I:Nat→Prop):AV→DV→Prop
 |d (v:DV):SnapD hp I (.d v) v
 |nil (e:Nat):SnapD hp I .nil (.ro e [])
 | own {id i0 len tot:Nat} {b:Blk} {es:List (List DV)} (hI:I id) (hb:lk id hp=some b) (ht:b.es.length=tot) (hl:es.length=len) (he:∀ r,r ∈ es→r.length=b.e)
   (hes:∀(i j:Nat)(row:List AV)(c:AV)(r:List DV)(y:DV),b.es[i0+i]?=some row→row[j]?=some c→es[i]?=some r→r[j]?=some y→SnapD hp I c y):SnapD hp I (.own id i0 len tot) (.ro b.e es)
 | sub {id i off e len cap tot:Nat} {b:Blk} {row:List AV} {es:List (List DV)} (hI:I id) (hb:lk id hp=some b) (ht:b.es.length=tot) (hr:b.es[i]?=some row) (he:0<e) (hl:es.length=len) (hel:∀ r,r ∈ es→r.length=e)
   (hes:∀(k j:Nat)(c:AV)(r:List DV)(y:DV),row[off+k*e+j]?=some c→es[k]?=some r→r[j]?=some y→SnapD hp I c y):SnapD hp I (.sub id i off e len cap tot) (.ro e es)
theorem zf{c:Ctx}{hp:Hp}{U:Nat→Prop}{σ:Nat→Option Nat}{w:World}{I S':Nat→Prop}(hS:∀b,bI c w σ hp b→S' b)(hS2:∀id blk g,I id→lk id hp=some blk→σ id=some g→S' g)(hr:Rel c hp U σ w){v:AV}{d:DV}(hs:SnapD hp I v d) :
  ∀{x:Value},AIs w (bI c w σ hp) σ hp U v x→DIs w S' d x:=by
 induction hs with
 |d v =>
  intro x h
  cases h with|d h=>exact h.mono hS fun _ _=>rfl
 |nil e =>
  intro x h
  cases h with|nil=>exact .ro _ [] none 0 (fun _ _=>default) aw aw aw aw aw
 | own hI hb ht hl he hes ih =>
  rename_i id i0 len tot b es;intro x h
  cases h with
  | own _ _ _ _ A cap hN hlc hA0 h =>
   subst hl;obtain⟨h1,h2⟩:=h _ hb;obtain⟨h3,h3',h4⟩:=h2 ht;rcases Nat.eq_zero_or_pos es.length with hl0|hl0
   ·have:es=[]:=List.eq_nil_of_length_eq_zero hl0;subst this;exact .ro _ [] A cap (fun _ _=>default) aw aw aw aw aw
   obtain⟨g,hg,h5,_⟩:=h4 aq;obtain⟨ccs,k1,k2,k3,k4,k5⟩:=hr.at hb hg
   have hcell:∀i r j y,es[i]?=some r→r[j]?=some y→∃u,ccs[(i0+i)*b.e+j]?=some u∧DIs w S' y u:=by
    intro i r j y hi hj;have hil:=(ci.1 hi).1;have hrow:b.es[i0+i]?=some b.es[i0+i]:=cm aq;have hrl:=k3 _ (cr hrow)
    have hjl:j<b.e:=by
     have:=(ci.1 hj).1;rw[he r (cr hi)]at this;exact this
    have hc:(b.es[i0+i])[j]?=some (b.es[i0+i])[j]:=cm aq
    have hlt:(i0+i)*b.e+j<ccs.size:=by
     have:(i0+i+1)*b.e≤b.es.length*b.e:=d_ _ aq;rw[Nat.add_mul,Nat.one_mul]at this;omega
    exact⟨ccs[(i0+i)*b.e+j],dn hlt,ih i j _ _ r y hrow hc hi hj (k5 (i0+i) j _ _ _ hrow hc (dn hlt))⟩
   refine .ro b.e es A cap (fun i j=>ccs.getD ((i0+i)*b.e+j) undef) hlc he (fun r hr'=>⟨_,h5,hS2 id _ g hI hb hg⟩) (fun ad hA i j r y hi hj=>?_) (fun i j r y hi hj=>?_)
   ·rw[h5]at hA;injection hA with hA;subst hA;obtain⟨u,hu,_⟩:=hcell i r j y hi hj;rw[fK,cell_of_row w _ _ ccs _ _ k1];rw[show i0*b.e+(i*b.e+j)=(i0+i)*b.e+j by rw[Nat.add_mul];omega,hu];simp[cx,hu]
   ·obtain⟨u,hu,hd⟩:=hcell i r j y hi hj;simp only[cx,hu,Option.getD_some];exact hd
 | sub hI hb ht hrow hpe hl hel hes ih =>
  rename_i id i off e len cap tot b row es;intro x h
  cases h with
  | sub _ _ _ _ _ _ _ A hN hlc hA0 h =>
   subst hl;obtain⟨h1,h2⟩:=h _ hb;obtain⟨h3,h4,h5⟩:=h2 ht;by_cases hz:es.length=0
   ·obtain rfl:=List.eq_nil_of_length_eq_zero hz;exact .ro e [] A cap (fun _ _=>undef) hlc aw aw aw aw
   obtain⟨g,hg,hAe⟩:=h5 aq;obtain⟨ccs,k1,k2,k3,k4,k5⟩:=hr.at hb hg;have h5':∀hc:0<cap,A=some ⟨g,i*b.e+off,none⟩:=fun hc=>hAe;have hrl:row.length=b.e:=k3 _ (cr hrow)
   have hke:∀k,k<es.length→off+k*e+e≤b.e:=by
    intro k hk;have h6:(k+1)*e≤es.length*e:=d_ _ aq;have h7:es.length*e≤cap*e:=d_ _ hlc;rw[Nat.add_mul,Nat.one_mul]at h6;omega
   have hcell:∀k r j y,es[k]?=some r→r[j]?=some y→∃u,ccs[i*b.e+off+(k*e+j)]?=some u∧DIs w S' y u:=by
    intro k r j y hk' hj;have hk2:=hke k (ci.1 hk').1
    have hje:j<e:=by
     have:=(ci.1 hj).1;rw[hel r (cr hk')]at this;exact this
    have hc:row[off+k*e+j]?=some row[off+k*e+j]:=cm aq
    have hlt:i*b.e+off+(k*e+j)<ccs.size:=by
     have:(i+1)*b.e≤b.es.length*b.e:=d_ _ aq;rw[Nat.add_mul,Nat.one_mul]at this;omega
    refine⟨ccs[i*b.e+off+(k*e+j)],dn hlt,ih k j _ r y hc hk' hj (k5 i (off+k*e+j) _ _ _ hrow hc ?_)⟩;rw[show i*b.e+(off+k*e+j)=i*b.e+off+(k*e+j)by omega];exact dn hlt
   refine .ro e es A cap (fun k j=>ccs.getD (i*b.e+off+(k*e+j)) undef) hlc hel (fun r hr'=>?_) (fun ad hA k j r y hk' hj=>?_) (fun k j r y hk' hj=>?_)
   ·have hpos:0<cap:=by
     have:=List.length_pos_of_mem hr';omega
    exact⟨_,h5' hpos,hS2 id _ g hI hb hg⟩
   ·have hpos:0<cap:=by
     have:=(ci.1 hk').1;omega
    rw[h5' hpos]at hA;injection hA with hA;subst hA;obtain⟨u,hu,_⟩:=hcell k r j y hk' hj;rw[fK,cell_of_row w _ _ ccs _ _ k1,hu];simp[cx,hu]
   ·obtain⟨u,hu,hd⟩:=hcell k r j y hk' hj;simp only[cx,hu,Option.getD_some];exact hd
inductive CellsR(hp:Hp)(I:Nat→Prop):List AV→List DV→Prop
 |nil:CellsR hp I [] []
 |cons {c:AV} {y:DV} {cs:List AV} {ys:List DV} (h:SnapD hp I c y) (t:CellsR hp I cs ys):CellsR hp I (c::cs) (y::ys)
inductive RowsR(hp:Hp)(I:Nat→Prop):List (List AV)→List (List DV)→Prop
 |nil:RowsR hp I [] []
 |cons {c:List AV} {y:List DV} {cs:List (List AV)} {ys:List (List DV)} (h:CellsR hp I c y) (t:RowsR hp I cs ys):RowsR hp I (c::cs) (y::ys)
theorem CellsR.at{hp:Hp}{I:Nat→Prop}{cs:List AV}{ys:List DV}(h:CellsR hp I cs ys):∀(j:Nat)(c:AV)(y:DV),cs[j]?=some c→ys[j]?=some y→SnapD hp I c y:=by
 induction h with
 |nil=>intro j c y h;simp at h
 |cons h t ih =>
  intro j c y hc hy
  cases j with
  |zero=>simp at hc hy;subst hc;subst hy;exact h
  |succ j=>simp at hc hy;exact ih j c y hc hy
theorem CellsR.len{hp:Hp}{I:Nat→Prop}{cs:List AV}{ys:List DV}(h:CellsR hp I cs ys):cs.length=ys.length:=by
 induction h with
 |nil=>rfl
 |cons _ _ ih=>simp[ih]
theorem RowsR.at{hp:Hp}{I:Nat→Prop}{cs:List (List AV)}{ys:List (List DV)}(h:RowsR hp I cs ys):∀(j:Nat)(c:List AV)(y:List DV),cs[j]?=some c→ys[j]?=some y→CellsR hp I c y:=by
 induction h with
 |nil=>intro j c y h;simp at h
 |cons h t ih =>
  intro j c y hc hy
  cases j with
  |zero=>simp at hc hy;subst hc;subst hy;exact h
  |succ j=>simp at hc hy;exact ih j c y hc hy
theorem RowsR.len{hp:Hp}{I:Nat→Prop}{cs:List (List AV)}{ys:List (List DV)}(h:RowsR hp I cs ys):cs.length=ys.length:=by
 induction h with
 |nil=>rfl
 |cons _ _ ih=>simp[ih]
theorem qC{hp:Hp}{I:Nat→Prop}:∀ys:List DV,CellsR hp I (ys.map .d) ys
 |[]=>.nil
 |y::r=>.cons (.d y) (qC r)
theorem mC{hp:Hp}{I:Nat→Prop}:∀ys:List (List DV),RowsR hp I (ys.map fun r=>r.map .d) ys
 |[]=>.nil
 |y::r=>.cons (qC y) (mC r)
theorem RowsR.append{hp:Hp}{I:Nat→Prop}{a c:List (List AV)}{b d:List (List DV)}(h:RowsR hp I a b)(h2:RowsR hp I c d):RowsR hp I (a++c) (b++d):=by
 induction h with
 |nil=>exact h2
 |cons h t ih=>exact .cons h ih
theorem iG{hp:Hp}{I:Nat→Prop}{id i0 len tot:Nat}{ty:TypeId}{e:Nat}{rows:List (List AV)}{es:List (List DV)}(hb:lk id hp=some ⟨ty,e,rows⟩)(hI:I id)(ht:rows.length=tot)(hR:RowsR hp I ((rows.drop i0).take len) es)(hl:es.length=len)(he:∀r,r∈es→r.length=e) :
  SnapD hp I (.own id i0 len tot) (.ro e es):=by
 refine .own (b:=⟨ty,e,rows⟩) hI hb ht hl he fun i j row c r y h1 h2 h3 h4=>?_
 have hi:i<len:=by
  have:=(ci.1 h3).1;omega
 refine(hR.at i row r ?_ h3).at j c y h2 h4;rw[List.getElem?_take,if_pos hi,List.getElem?_drop];exact h1
theorem s6{hp:Hp}{I:Nat→Prop}{id n:Nat}{ty:TypeId}{e:Nat}{es:List (List DV)}(hb:lk id hp=some ⟨ty,e,es.map fun r=>r.map .d⟩)(hI:I id)(hn:es.length=n)(he:∀r,r∈es→r.length=e):SnapD hp I (.own id 0 n n) (.ro e es):=by
 refine iG hb hI (by simp[hn]) ?_ hn he
 have:((es.map fun r=>r.map AV.d).drop 0).take n=es.map fun r=>r.map .d:=by
  rw[List.drop_zero,cA (by simp[hn])]
 rw[this];exact mC es
def jo(hp:Hp)(I:Nat→Prop)(c c':AV):Prop:=(c'=c∧c.deep1)∨∃d,c'=.d d∧SnapD hp I c d
def s7(hp:Hp)(I:Nat→Prop)(cs cs':List AV):Prop:=cs'.length=cs.length∧∀(i:Nat)(c c':AV),cs[i]?=some c→cs'[i]?=some c'→jo hp I c c'
inductive Snap(hp:Hp)(I:Nat→Prop):AV→AV→Prop
 |one {v v':AV} (h:jo hp I v v'):Snap hp I v v'
 |deep {v:AV} (h:v.deep):Snap hp I v v
 |agg {cs cs':List AV} (h:s7 hp I cs cs'):Snap hp I (.agg cs) (.agg cs')
 |tup {cs cs':List AV} (hl:cs'.length=cs.length) (h:∀(i:Nat)(c c':AV),cs[i]?=some c→cs'[i]?=some c'→jo hp I c c'∨∃xs xs',c=.agg xs∧c'=.agg xs'∧s7 hp I xs xs'):Snap hp I (.tup cs) (.tup cs')
 |ptr {id i off tot:Nat} {b:Blk} {row:List AV} {cs:List DV} (hI:I id) (hb:lk id hp=some b) (ht:b.es.length=tot) (hr:b.es[i]?=some row) (hc:CellsR hp I (row.drop off) cs):Snap hp I (.ptr id i off tot) (.rop cs)
 |fnp {f:FuncId} {id i off tot:Nat} {b:Blk} {row:List AV} {cs:List DV} (hI:I id) (hb:lk id hp=some b) (ht:b.es.length=tot) (hr:b.es[i]?=some row) (hc:CellsR hp I (row.drop off) cs):Snap hp I (.fn f [.ptr id i off tot]) (.fn f [.rop cs])
theorem nt{c:Ctx}{hp:Hp}{U U':Nat→Prop}{σ σ':Nat→Option Nat}{hp':Hp}{w:World}{I:Nat→Prop}{v v':AV}{x:Value}{S':Nat→Prop}(hS:∀b,bI c w σ hp b→S' b)(hS2:∀id blk g,I id→lk id hp=some blk→σ id=some g→S' g)(hr:Rel c hp U σ w)(hs:Snap hp I v v')(h:AIs w (bI c w σ hp) σ hp U v x) :
  AIs w S' σ' hp' U' v' x:=by
 have one:∀{v v':AV}{x:Value},jo hp I v v'→AIs w (bI c w σ hp) σ hp U v x→AIs w S' σ' hp' U' v' x:=by
  intro v v' x hs h;rcases hs with ⟨rfl,hd⟩|⟨d,rfl,hd⟩
  ·exact jR hd hS h
  ·exact .d (zf hS hS2 hr hd h)
 have cells:∀{cs cs':List AV}{xs:Array Value},s7 hp I cs cs'→cs.length=xs.size→(∀(i:Nat)(x:Value),xs[i]?=some x→x.oneCell'=true)→(∀(i:Nat)(c':AV)(x:Value),cs[i]?=some c'→xs[i]?=some x→AIs w (bI c w σ hp) σ hp U c' x)→AIs w S' σ' hp' U' (.agg cs') (.agg xs):=by
  intro cs cs' xs hs hl h1 h;refine .agg cs' xs (by rw[hs.1,hl]) h1 fun i u x hu hx=>?_
  have hi:i<cs.length:=by
   have:=(ci.1 hu).1;rw[hs.1]at this;exact this
  exact one (hs.2 i _ u (cm hi) hu) (h i _ x (cm hi) hx)
 have pcase:∀{id i off tot:Nat}{b:Blk}{row:List AV}{cs:List DV}{x:Value},I id→lk id hp=some b→b.es.length=tot→b.es[i]?=some row→CellsR hp I (row.drop off) cs→AIs w (bI c w σ hp) σ hp U (.ptr id i off tot) x→AIs w S' σ' hp' U' (.rop cs) x:=by
  intro id i off tot b row cs x hI hb ht hrow hcs h;obtain⟨g,ccs,hg,rfl,hheap,hone,hrl,hle,hcell⟩:=nj hr h hb hrow ht
  have key:∀(j:Nat)(y:DV),cs[j]?=some y→∃u,ccs[i*b.e+off+j]?=some u∧DIs w S' y u:=by
   intro j y hy
   have hj:j<(row.drop off).length:=by
    rw[hcs.len];exact(ci.1 hy).1
   have hy':(row.drop off)[j]?=some (row.drop off)[j]:=cm hj;have hy'':=hy';rw[List.getElem?_drop]at hy'';obtain⟨u,hu,hd⟩:=hcell (off+j) _ hy'';exact⟨u,by rw[Nat.add_assoc];exact hu,zf hS hS2 hr (hcs.at j _ y hy' hy) hd⟩
  refine .rop _ _ (fun j=>ccs.getD (i*b.e+off+j) undef) (hS2 id b g hI hb hg) (fun j y hy=>?_) (fun j y hy=>?_)
  ·obtain⟨u,hu,_⟩:=key j y hy;rw[fK,cell_of_row w _ _ ccs _ _ hheap,hu];simp[cx,hu]
  ·obtain⟨u,hu,hd⟩:=key j y hy;simp only[cx,hu,Option.getD_some];exact hd
 cases hs with
 |one h1=>exact one h1 h
 |deep hd=>exact lr hd hS h
 |agg hc =>
  cases h with
  |agg _ xs hl h1 h=>exact cells hc hl h1 h
 | tup hl' hc =>
  rename_i cs cs'
  cases h with
  | tup _ xs hl h =>
   refine .tup cs' xs (by rw[hl',hl]) fun i u x hu hx=>?_
   have hi:i<cs.length:=by
    have:=(ci.1 hu).1;rw[hl']at this;exact this
   have hx':=h i _ x (cm hi) hx;rcases hc i _ u (cm hi) hu with h1|⟨ys,ys',e1,e2,h1⟩
   ·exact one h1 hx'
   ·rw[e1]at hx';subst e2
    cases hx' with
    |agg _ xs' hl2 h2 h3=>exact cells h1 hl2 h2 h3
 |ptr hI hb ht hrow hcs=>exact pcase hI hb ht hrow hcs h
 | fnp hI hb ht hrow hcs =>
  cases h with
  | fn _ _ xs hl h =>
   refine .fn _ _ xs (by simpa using hl) fun i u x hu hx=>?_
   cases i with
   |succ i=>simp at hu
   |zero =>
    simp only[List.getElem?_cons_zero,Option.some.injEq]at hu;subst hu;exact pcase hI hb ht hrow hcs (h 0 _ x rfl hx)
def aE(ids:List Nat):Hp→Hp
 |[]=>[]
 |(m,b)::t=>if ids.contains m then aE ids t else(m,b)::aE ids t
theorem px(ids:List Nat)(i:Nat):∀hp:Hp,lk i (aE ids hp)=if ids.contains i=true then none else lk i hp
 |[]=>by simp[aE,lk]
 | (m,b) :: t=>by
  have ih:=px ids i t;simp only[aE];by_cases hm:ids.contains m=true
  ·rw[if_pos hm,ih]
   split
   ·rfl
   ·rename_i hi;simp only[lk];rw[if_neg (fun e=>hi (by rw[←e];exact hm))]
  ·rw[if_neg hm];simp only[lk,ih];by_cases e:m=i
   ·subst e;rw[if_pos rfl,if_neg hm];simp
   ·rw[if_neg e];simp[e]
theorem zg{c:Ctx}{hp:Hp}{U:Nat→Prop}{σ:Nat→Option Nat}{w:World}(ids:List Nat)(hr:Rel c hp U σ w) :
  Rel c (aE ids hp) U σ w∧Step w (bI c w σ hp) σ hp U w (bI c w σ (aE ids hp)) σ (aE ids hp) U:=by
 have hlk:∀i b,lk i (aE ids hp)=some b→lk i hp=some b:=by
  intro i b h;rw[px]at h
  split at h
  ·cases h
  ·exact h
 have hst:Step w (bI c w σ hp) σ hp U w (bI c w σ (aE ids hp)) σ (aE ids hp) U :=
  ⟨fun b h=>⟨⟨h.1.1,fun id blk g hk hg=>h.1.2 id blk g (hlk _ _ hk) hg⟩,h.2⟩,fun _ _=>rfl,fun _ h=>h,fun id b' _ h=>⟨b',hlk _ _ h,rfl,rfl,cR _,fun _ g hg=>⟨hg,fun _ h=>h⟩⟩⟩
 refine⟨⟨fun i j bi bj g hi hj=>hr.inj i j bi bj g (hlk _ _ hi) (hlk _ _ hj),fun i b h=>hr.lt i b (hlk _ _ h),fun i b h=>?_,fun i b g h=>hr.mine i b g (hlk _ _ h),hr.os,hr.tape,hr.output,hr.size,hr.old⟩,hst⟩;rcases hr.blk i b (hlk _ _ h)with k|⟨g,k1,k2⟩
 ·exact .inl k
 ·exact .inr ⟨g,k1,k2.step hst rfl⟩
end Go.Am
namespace Go.Am
structure St where
 fr:Fr
 hp:Hp
 nx:Nat
def kE(c:Ctx)(st:St)(a:Act)(w:World):Prop:=nU c st.fr st.hp (fun i=>i<st.nx) a w
def Ug(f:St→Prop)(fr:Fr)(nx:Nat)(dst:Option Tmp)(v:AV)(hp:Hp):Prop:=f ⟨bn fr dst v,hp,nx+32⟩
def py (P:Program) (n:Nat) (ops:Array Oper):List Oper→(St→Prop)→St→Prop
 |[],K,st=>K st
 | o :: rest,K,st =>
  match o.guard with
  |none=>fJ n o.dst∧bJ P st.fr st.hp st.nx o.op (Ug (py P n ops rest K) st.fr st.nx o.dst)
  | some (j,want) =>
   match(ops[j]?).bind (·.dst)with
   |some d =>
    (match fv d st.fr with
    | .d (.bool b)=>fJ n o.dst∧(b=want→bJ P st.fr st.hp st.nx o.op (Ug (py P n ops rest K) st.fr st.nx o.dst)) ∧
      (b=!want→Ug (py P n ops rest K) st.fr st.nx o.dst (.tup []) st.hp)
    | .tup []=>fJ n o.dst∧Ug (py P n ops rest K) st.fr st.nx o.dst (.tup []) st.hp
    |_=>False)
   |none=>False
def HI(Q:Exit→St→Prop)(st:St):Prop:=Q .normal st
def Bv(f:St→Prop)(Q:Exit→St→Prop):Exit→St→Prop
 | .normal,st=>f st
 |e,st=>Q e st
def qD(id:Nat)(Q:Exit→St→Prop):Exit→St→Prop
 | .exit i,st=>if i=id then Q .normal st else Q (.exit i) st
 |e,st=>Q e st
def AV.low1(N:Nat):AV→Prop
 | .own id _ _ _=>id<N
 | .sub id _ _ _ _ _ _=>id<N
 | .ptr id _ _ _=>id<N
 | .mp id=>id<N
 | .agg _=>False
 | .tup _=>False
 | .fn _ cs=>cs=[]
 | .mth _ cs=>cs=[]
 |_=>True
def AV.low(N:Nat):AV→Prop
 | .agg cs=>∀c,c∈cs→c.low1 N
 | .fn _ cs=>∀c,c∈cs→c.low1 N
 | .mth _ cs=>∀c,c∈cs→c.low1 N
 |v=>v.low1 N
def ai(st st':St)(v u:AV):Prop :=
 u=v ∨ (v=.nil∧match u with
  | .own id 0 0 0=>(match lk id st'.hp with
   |some b=>b.es=[]
   |none=>False)
  |_=>False)
def aA(st st':St):Prop :=
 (∀p,p∈st'.fr→ai st st' (fv p.1 st.fr) p.2∧p.2.low st'.nx) ∧
 (∀p,p∈st'.hp→(lk p.1 st.hp=some p.2∨(st.nx≤p.1∧p.2.es=[]))∧p.1<st'.nx∧∀r,r∈p.2.es→∀v,v∈r→v.low1 st'.nx)∧(st.nx≤st'.nx∨64≤st'.nx)
def Wk(st st':St):Prop:=∀(c:Ctx)(a:Act)(w:World),kE c st a w→kE c st' a w
theorem Wk.trans{s1 s2 s3:St}(h:Wk s1 s2)(k:Wk s2 s3):Wk s1 s3:=fun c a w hs=>k c a w (h c a w hs)
def zh(I:Nat→St→Prop)(m:Nat)(Q:Exit→St→Prop):Exit→St→Prop
 | .normal,st=>∃m' st',m'<m∧Wk st st'∧I m' st'
 |e,st=>Q e st
def Pq(W:(Exit→St→Prop)→St→Prop)(Q:Exit→St→Prop)(st:St):Prop :=
 ∃I:Nat→St→Prop,(∃m st',Wk st st'∧I m st')∧∀m st',I m st'→W (zh I m Q) st'
def lY(P:Program)(n:Nat):Code→(Exit→St→Prop)→St→Prop
 | .skip,Q,st=>Q .normal st
 | .region _ ops false,Q,st=>py P n ops ops.toList (HI Q) st
 | .region _ ops true,Q,st=>(∃ zs ss m,Bq n ops zs ss m=true∧P.follows .mixedOrders=true∧zW P ops st.nx st.hp (fun fr=>A7 P ops st.nx st.hp (fun fr hp=>Q .normal ⟨fr,hp,st.nx+32*ops.size⟩) ss m fr st.hp) zs st.fr) ∨
   ∃zs is za t st',s5 n ops zs is za t=true∧P.follows .mixedOrders=true∧zW P ops st.nx st.hp (fun fr=>uR P ops st.nx st.hp (fun fr hp=>Wk ⟨fr,hp,st.nx+32*ops.size⟩ st') t fr st.hp) zs st.fr∧Q .normal st'
 | .seq x y,Q,st=>lY P n x (Bv (lY P n y Q) Q) st
 | .cond c x y,Q,st =>
  match ev st.fr c with
  | .d (.bool b)=>(b=true→lY P n x Q st)∧(b=false→lY P n y Q st)
  |_=>False
 | .block id x,Q,st=>lY P n x (qD id Q) st
 | .loop x,Q,st=>Pq (lY P n x) Q st
 | .exit id,Q,st=>Q (.exit id) st
 | .ret,Q,st=>Q .ret st
 |_,_,_=>False
section
variable {P:Program} {c:Ctx}
theorem HJ(nx i:Nat):dJ (fun i=>i<nx) nx i↔i<nx+32:=by unfold dJ;omega
theorem s8(nx:Nat):dJ (fun i=>i<nx) nx=fun i=>i<nx+32:=funext fun i=>propext (HJ nx i)
theorem Bw{st:St}{a:Act}{w:World}(h:kE c st a w):∃ σ,Rel c st.hp (fun i=>i<st.nx) σ w∧(∀n,AIs w (bI c w σ st.hp) σ st.hp (fun i=>i<st.nx) (fv n st.fr) (a.tmps.getD n undef))∧∀x,AIs w (bI c w σ st.hp) σ st.hp (fun i=>i<st.nx) (ev st.fr x) (a.eval x):=by
 obtain⟨_,_,σ,hr,hf,_⟩:=h;exact⟨σ,hr,hf,fun x=>uZ hf x⟩
theorem Dx{st:St}{a:Act}{w:World}{o:Oper}{f:St→Prop}{next:Act→World→Prop}{Q:Exit→Act→World→Prop}
  (hs:kE c st a w) (hd:fJ c.n o.dst) (h:bJ P st.fr st.hp st.nx o.op (Ug f st.fr st.nx o.dst))
  (hn:∀st' a' w',f st'→kE c st' a' w'→next a' w'):o.wp P a w next Q:=by
 obtain⟨h1,h2,σ,hr,hf,hh⟩:=hs;have hok:=pn (o:=o) (N:=st.nx) hr (fun x=>uZ hf x) (fun i h1 _ h3=>by have h4:i<st.nx:=h3;omega) h;refine o6 h1 h2 hd hf hh hok fun v hp' a' w' hK hS=>hn _ a' w' hK ?_;rw[s8]at hS;exact hS
theorem Dy{st:St}{a:Act}{w:World}{dst:Option Tmp}(hs:kE c st a w):kE c ⟨bn st.fr dst (.tup []),st.hp,st.nx+32⟩ (a.put dst undef) w:=by
 obtain⟨h1,h2,σ,hr,hf,hh⟩:=hs;have hr':Rel c st.hp (fun i=>i<st.nx+32) σ w:=by rw[←s8];exact hr.more
 have hst:Step w (bI c w σ st.hp) σ st.hp (fun i=>i<st.nx) w (bI c w σ st.hp) σ st.hp (fun i=>i<st.nx+32):=by rw[←s8];exact Step.more
 cases dst with
 |none=>exact⟨h1,h2,σ,hr',fun n=>(hf n).step hst,hh.trans hst⟩
 | some d =>
  refine⟨h1,by simp[Act.put,h2],σ,hr',fun n=>?_,hh.trans hst⟩;simp only[bn,Act.put,jv];by_cases h:d=n
  ·subst h
   have hu:(a.tmps.setIfInBounds d undef).getD d undef=.tuple #[]:=by
    simp only[cx,Array.getElem?_setIfInBounds,if_true]
    split<;>rfl
   rw[hu];simp only[if_true];exact .tup [] #[] rfl aw
  ·simp only[if_neg h]
   have:(a.tmps.setIfInBounds d undef).getD n undef=a.tmps.getD n undef:=by
    simp only[cx,Array.getElem?_setIfInBounds,if_neg h]
   rw[this];exact(hf n).step hst
theorem Dz{ops:Array Oper}{Q:Exit→Act→World→Prop}{K:St→Prop}(hQ:∀st a w,K st→kE c st a w→Q .normal a w) :
  ∀(l:List Oper)(st:St)(a:Act)(w:World),py P c.n ops l K st→kE c st a w→wpList P ops Q l a w
 |[],st,a,w,h,hs=>hQ st a w h hs
 | o :: rest,st,a,w,h,hs=>by
  have ih:=Dz (ops:=ops) (Q:=Q) hQ rest;simp only[py]at h;unfold wpList
  split at h
  ·rename_i hg;obtain⟨hd,h⟩:=h;rw[if_pos (by simp[Region.wanted,hg])];exact .inl (Dx hs hd h fun st' a' w' h' hs'=>ih st' a' w' h' hs')
  ·rename_i j want hg
   split at h
   ·rename_i d hd
    split at h
    ·rename_i b hb;obtain⟨hdst,h1,h2⟩:=h;obtain⟨σ,hr,hf,_⟩:=Bw hs;have hv:=fE (hb▸hf d)
     have hy:yielded ops a.tmps j=some b:=by
      unfold yielded;rw[hd];have hv':a.tmps[d]?.getD undef=.bool b:=by simpa using hv
      cases ht:a.tmps[d]? with
      |none=>rw[ht]at hv';cases hv'
      |some u=>rw[ht]at hv';simp at hv';subst hv';simp[ht]
     by_cases hw:b=want
     ·rw[if_pos (by simp[Region.wanted,hg,hy,hw])];exact .inl (Dx hs hdst (h1 hw) fun st' a' w' h' hs'=>ih st' a' w' h' hs')
     ·rw[if_neg (by simp[Region.wanted,hg,hy,hw])];exact ih _ _ _ (h2 (by cases b<;>cases want<;>simp_all)) (Dy hs)
    ·rename_i hb;obtain⟨hdst,h2⟩:=h;obtain⟨σ,hr,hf,_⟩:=Bw hs;have hv:=hb▸hf d
     have hy:¬(yielded ops a.tmps j=some want):=by
      unfold yielded;rw[hd]
      cases ht:a.tmps[d]? with
      |none=>simp[ht]
      |some u =>
       have e:a.tmps.getD d undef=u:=by simp[cx,ht]
       rw[e]at hv
       cases hv with
       |tup _ xs _ _=>simp[ht]
     rw[if_neg (by simp[Region.wanted,hg,hy])];exact ih _ _ _ h2 (Dy hs)
    ·exact h.elim
   ·exact h.elim
theorem kP{w:World}{S S':Nat→Prop}{σ σ':Nat→Option Nat}{hp hp':Hp}{U:Nat→Prop}{N:Nat}(hS:∀b,S b→S' b)(hh:∀id b,U id→lk id hp'=some b→lk id hp=some b)(hσ:∀id,U id→σ' id=σ id){v:AV}{x:Value}(hl:v.low1 N)(h:AIs w S σ hp U v x) :
  AIs w S' σ' hp' (fun i=>i<N) v x:=by
 cases h with
 |any=>exact .any _
 |d h=>exact .d (h.mono hS fun _ _=>rfl)
 |agg=>exact hl.elim
 |tup=>exact hl.elim
 |own id i0 len tot A cap hN hle h0 h=>exact .own id i0 len tot A cap hl hle h0 fun b hb=>by rw[hσ id hN];exact h b (hh id b hN hb)
 |sub id i off e len cap tot A hN hle h0 h=>exact .sub id i off e len cap tot A hl hle h0 fun b hb=>by rw[hσ id hN];exact h b (hh id b hN hb)
 |ptr id i off tot a hN h=>exact .ptr id i off tot a hl fun b hb=>by rw[hσ id hN];exact h b (hh id b hN hb)
 |rop cs ad vs h1 h2 h3=>exact .rop cs ad vs (hS _ h1) h2 fun j y hy=>(h3 j y hy).mono hS fun _ _=>rfl
 |fn f cs xs hle h=>obtain rfl:cs=[]:=hl;exact .fn f [] xs hle aw
 |mth f cs xs hle h=>obtain rfl:cs=[]:=hl;exact .mth f [] xs hle aw
 |nil=>exact .nil
 |mp id g hN h=>exact .mp id g hl fun b hb=>h b (hh id b hN hb)
theorem HK{w:World}{S S':Nat→Prop}{σ σ':Nat→Option Nat}{hp hp':Hp}{U:Nat→Prop}{N:Nat}(hS:∀b,S b→S' b)(hh:∀id b,U id→lk id hp'=some b→lk id hp=some b)(hσ:∀id,U id→σ' id=σ id){v:AV}{x:Value}(hl:v.low N)(h:AIs w S σ hp U v x) :
  AIs w S' σ' hp' (fun i=>i<N) v x:=by
 cases v with
 |agg cs =>
  cases h with
  |agg _ xs hle h1 h=>exact .agg cs xs hle h1 fun i c x hc hx=>kP hS hh hσ (hl c (cr hc)) (h i c x hc hx)
 |fn f cs =>
  cases h with
  |fn _ _ xs hle h=>exact .fn f cs xs hle fun i c x hc hx=>kP hS hh hσ (hl c (cr hc)) (h i c x hc hx)
 |mth f cs =>
  cases h with
  |mth _ _ xs hle h=>exact .mth f cs xs hle fun i c x hc hx=>kP hS hh hσ (hl c (cr hc)) (h i c x hc hx)
 |_=>exact kP hS hh hσ hl h
theorem bK{α:Type}{n:Nat}{v:α}:∀{l:List (Nat×α)},lk n l=some v→(n,v)∈l
 |[],h=>by cases h
 |(m,u)::t,h=>by
  simp only[lk]at h
  split at h
  ·rename_i e;injection h with h;subst e;subst h;exact d7 ..
  ·exact cU _ (bK h)
theorem HL{st st':St}{a:Act}{w:World}(hw:aA st st')(hs:kE c st a w):kE c st' a w:=by
 obtain⟨hf',hh',hnx⟩:=hw;obtain⟨h1,h2,σ,hr,hf,hist⟩:=hs
 have hh:∀id b,id<st.nx→lk id st'.hp=some b→lk id st.hp=some b:=fun id b hid h=>by
  rcases(hh' _ (bK h)).1 with h|⟨h,_⟩
  ·exact h
  ·simp only at h;omega
 let σ':Nat→Option Nat:=fun id=>if st.nx≤id then none else σ id
 have hσ:∀id,id<st.nx→σ' id=σ id:=fun id h=>if_neg aq
 have hσ':∀id g,σ' id=some g→id<st.nx∧σ id=some g:=by
  intro id g h;by_cases hle:st.nx≤id
  ·simp only[σ',if_pos hle]at h;cases h
  ·exact⟨aq,by rw[hσ id aq]at h;exact h⟩
 have hS:∀b,bI c w σ st.hp b→bI c w σ' st'.hp b:=fun b hb=>⟨⟨hb.1.1,fun id blk g h hg=>by
  obtain⟨h3,h4⟩:=hσ' id g hg
  exact hb.1.2 id blk g (hh id blk h3 h) h4⟩,hb.2⟩
 refine⟨h1,h2,σ',⟨fun i j bi bj g hi hj hgi hgj=>?_,fun i b h=>(hh' _ (bK h)).2.1,fun i b h=>?_,fun i b g h hg=>?_,hr.os,hr.tape,hr.output,hr.size,hr.old⟩,fun n=>?_,⟨fun b h=>hS b (hist.sub b h),hist.cell,fun i h=>?_,fun id b' hu hb'=>?_⟩⟩
 ·obtain⟨a1,a2⟩:=hσ' i g hgi;obtain⟨b1,b2⟩:=hσ' j g hgj;exact hr.inj i j bi bj g (hh i bi a1 hi) (hh j bj b1 hj) a2 b2
 ·rcases(hh' _ (bK h)).1 with h0|⟨h0,h3⟩
  ·simp only at h0;have hi:i<st.nx:=hr.lt i b h0;rcases hr.blk i b h0 with ⟨k1,k2⟩|⟨g,k1,ccs,k2,k3,k4,k5,k6⟩
   ·exact .inl ⟨(hσ i hi).trans k1,k2⟩
   ·exact .inr ⟨g,(hσ i hi).trans k1,ccs,k2,k3,k4,k5,fun i' j x y v a1 a2 a3=>kP hS hh hσ ((hh' _ (bK h)).2.2 x (cr a1) y (cr a2)) (k6 i' j x y v a1 a2 a3)⟩
  ·exact .inl ⟨if_pos h0,.inl h3⟩
 ·obtain⟨a1,a2⟩:=hσ' i g hg;exact hr.mine i b g (hh i b a1 h) a2
 ·cases hl:lk n st'.fr with
  |none=>simp only[fv,hl];exact .any _
  | some v =>
   have:=hf' _ (bK hl);simp only[fv,hl,Option.getD_some];obtain⟨h3,h4⟩:=this;simp only at h3 h4;rcases h3 with h3|⟨h3,h5⟩
   ·refine HK (U:=fun i=>i<st.nx) hS hh hσ h4 ?_;rw[h3];exact hf n
   ·have hx:=hf n;rw[h3]at hx;generalize a.tmps.getD n undef=x at hx
    cases hx with
    |nil =>
     split at h5
     ·rename_i id;exact .own id 0 0 0 none 0 h4 (cR _) (fun _=>rfl) fun b hb=>⟨Nat.zero_le _,fun _=>⟨cR _,cR _,fun h=>aq⟩⟩
     ·exact h5.elim
 ·have h0:=hist.le i h;have h3:=c.hk;rcases hnx with h4|h4
  ·exact Nat.lt_of_lt_of_le h0 h4
  ·exact Nat.lt_of_lt_of_le (Nat.lt_of_lt_of_le h h3) h4
 ·have h0:=hist.le id hu;obtain⟨b1,f0,f1,f2,f3,f4⟩:=hist.blk id b' hu (hh id b' h0 hb');refine⟨b1,f0,f1,f2,f3,fun hl g hg=>?_⟩;obtain⟨p1,p2⟩:=f4 hl g hg;exact⟨(hσ id h0).trans p1,p2⟩
theorem cB{st st':St}(h:aA st st'):Wk st st':=fun _ _ _ hs=>HL h hs
theorem vA{fr:Fr}{hp:Hp}{U U':Nat→Prop}{a:Act}{w:World}(h:∀k,U k→U' k)(hs:nU c fr hp U a w):nU c fr hp U' a w:=by
 obtain⟨q1,q2,σ,hr,hf,hh⟩:=hs;have st:Step w (bI c w σ hp) σ hp U w (bI c w σ hp) σ hp U':=⟨fun _ h=>h,fun _ _=>rfl,h,fun id b' _ h=>⟨b',h,rfl,rfl,cR _,fun _ g hg=>⟨hg,fun _ h=>h⟩⟩⟩;refine⟨q1,q2,σ,⟨hr.inj,fun i b hb=>h _ (hr.lt i b hb),fun i b hb=>?_,hr.mine,hr.os,hr.tape,hr.output,hr.size,hr.old⟩,fun n=>(hf n).step st,hh.trans st⟩;rcases hr.blk i b hb with h0|⟨g,hg,h0⟩
 ·exact .inl h0
 ·exact .inr ⟨g,hg,h0.step st rfl⟩
theorem jy:∀ (x:Code) (Q:Exit→St→Prop) (st:St) (a:Act) (w:World),lY P c.n x Q st→kE c st a w→x.wp P (fun e a' w'=>∃ st',Q e st'∧kE c st' a' w') a w
 | .skip,Q,st,a,w,h,hs=>wp_skip ⟨st,h,hs⟩
 | .region id ops false,Q,st,a,w,h,hs=>wp_region_list (Dz (Q:=fun e a' w'=>∃st',Q e st'∧kE c st' a' w') (fun st a w hK hs=>⟨st,hK,hs⟩) ops.toList st a w h hs)
 | .region id ops true,Q,st,a,w,h,hs=>by
  rcases h with ⟨zs,ss,m,hB,hm,h⟩|⟨zs,is,za,t,st',hB,hm,h,hq⟩
  ·exact Bt hm hB (fun fr hp a w U hK hU hS=>⟨_,hK,vA hU hS⟩) (fun k hk=>hk) hs h
  ·exact LO hm hB (fun fr hp a w U hK hU hS=>⟨st',hq,hK c _ _ (vA hU hS)⟩) (fun k hk=>hk) hs h
 | .seq x y,Q,st,a,w,h,hs=>by
  refine wp_seq (wp_mono (jy x _ st a w h hs) fun e a' w'⟨st',hq,hs'⟩=>?_)
  cases e with
  |normal=>exact jy y Q st' a' w' hq hs'
  |_=>exact⟨st',hq,hs'⟩
 | .cond cnd x y,Q,st,a,w,h,hs=>by
  simp only[lY]at h
  split at h
  ·rename_i b hb;obtain⟨σ,_,_,E⟩:=Bw hs;have hv:=fE (hb▸E cnd);refine wp_cond_split hv (fun ht=>?_) (fun hf=>?_)
   ·exact jy x Q st a w (h.1 ht) hs
   ·exact jy y Q st a w (h.2 hf) hs
  ·exact h.elim
 | .block id x,Q,st,a,w,h,hs=>by
  refine wp_block (wp_mono (jy x _ st a w h hs) fun e a' w'⟨st',hq,hs'⟩=>?_)
  cases e with
  |exit i =>
   simp only[qD]at hq;simp only[Exit.inBlock]
   split at hq
   ·rename_i hi;rw[if_pos hi];exact⟨st',hq,hs'⟩
   ·rename_i hi;rw[if_neg hi];exact⟨st',hq,hs'⟩
  |_=>exact⟨st',hq,hs'⟩
 | .loop x,Q,st,a,w,h,hs=>by
  obtain⟨I,⟨m0,st0,hw0,hI0⟩,hround⟩:=h
  have key:∀ m st a w,I m st→kE c st a w→(Code.loop x).wp P (fun e a' w'=>∃ st',Q e st'∧kE c st' a' w') a w:=by
   intro m0 st0 a0 w0 hI hsim
   -- a measure: the least m with which some state of the relation is there
   refine wp_loop (fun a w=>∃m st,I m st∧kE c st a w) (fun a w=>Classical.epsilon fun m=>(∃st,I m st∧kE c st a w)∧∀m',(∃st,I m' st∧kE c st a w)→m≤m') ⟨m0,st0,hI,hsim⟩ ?_;rintro a1 w1⟨m1,st1,h1,h2⟩
   have least:∃m,(∃st,I m st∧kE c st a1 w1)∧∀m',(∃st,I m' st∧kE c st a1 w1)→m≤m':=by
    have hex:∃m,∃st,I m st∧kE c st a1 w1:=⟨m1,st1,h1,h2⟩;clear h1 h2
    have:∀k,(∃m,m≤k∧∃st,I m st∧kE c st a1 w1)→∃m,(∃st,I m st∧kE c st a1 w1)∧∀m',(∃st,I m' st∧kE c st a1 w1)→m≤m':=by
     intro k
     induction k with
     |zero =>
      rintro⟨m,hm,hx⟩;exact⟨m,hx,fun m' _=>aq⟩
     | succ k ih =>
      rintro⟨m,hm,hx⟩;by_cases hk:∃m,m≤k∧∃st,I m st∧kE c st a1 w1
      ·exact ih hk
      ·refine⟨m,hx,fun m' hm'=>?_⟩;rcases Nat.lt_or_ge m' m with hlt|hge
       ·exact absurd ⟨m',aq,hm'⟩ hk
       ·exact hge
    obtain⟨m,hx⟩:=hex;exact this m ⟨m,cR _,hx⟩
   have hmu:=Classical.epsilon_spec least;generalize(Classical.epsilon fun m=>(∃st,I m st∧kE c st a1 w1)∧∀m',(∃st,I m' st∧kE c st a1 w1)→m≤m')=mu at hmu;obtain⟨⟨st2,h3,h4⟩,_⟩:=hmu;refine wp_mono (jy x _ st2 a1 w1 (hround mu st2 h3) h4) fun e a' w'⟨st',hq,hs'⟩=>?_
   cases e with
   | normal =>
    obtain⟨m',st'',hlt,hweak,hI'⟩:=hq;have hs'':=hweak c _ _ hs';refine⟨⟨m',st'',hI',hs''⟩,?_⟩
    have least':∃m,(∃st,I m st∧kE c st a' w')∧∀m',(∃st,I m' st∧kE c st a' w')→m≤m':=by
     have:∀k,(∃m,m≤k∧∃st,I m st∧kE c st a' w')→∃m,(∃st,I m st∧kE c st a' w')∧∀m',(∃st,I m' st∧kE c st a' w')→m≤m':=by
      intro k
      induction k with
      |zero =>
       rintro⟨m,hm,hx⟩;exact⟨m,hx,fun m' _=>aq⟩
      | succ k ih =>
       rintro⟨m,hm,hx⟩;by_cases hk:∃m,m≤k∧∃st,I m st∧kE c st a' w'
       ·exact ih hk
       ·refine⟨m,hx,fun m' hm'=>?_⟩;rcases Nat.lt_or_ge m' m with hlt|hge
        ·exact absurd ⟨m',aq,hm'⟩ hk
        ·exact hge
     exact this m' ⟨m',cR _,st'',hI',hs''⟩
    have hmu':=Classical.epsilon_spec least';exact Nat.lt_of_le_of_lt (hmu'.2 m' ⟨st'',hI',hs''⟩) hlt
   |_=>exact⟨st',hq,hs'⟩
  exact key m0 st0 a w hI0 (hw0 c _ _ hs)
 | .exit id,Q,st,a,w,h,hs=>wp_exit ⟨st,h,hs⟩
 | .ret,Q,st,a,w,h,hs=>wp_ret ⟨st,h,hs⟩
 | .rangeFunc ..,Q,st,a,w,h,hs=>h.elim
 | .scope _,Q,st,a,w,h,hs=>h.elim
 | .label _,Q,st,a,w,h,hs=>h.elim
 | .goto _,Q,st,a,w,h,hs=>h.elim
 | .refuse _,Q,st,a,w,h,hs=>h.elim
end
end Go.Am
namespace Go.Am
def ay(P:Program)(g:FuncId)(args:List AV)(Q:AV→Prop):Prop :=
 (∃ fn, P.funcs[g]? = some fn ∧ (fn.name == "runtime.NumGoroutine") = false ∧ fn.body.isNone = false) ∧
 ∀ (w:World) (S:Nat→Prop) (vs:List Value),(∀ b,S b→b<w.heap.size)→vs.length=args.length →
  (∀(i:Nat)(v:AV)(x:Value),args[i]?=some v→vs[i]?=some x→AIs w S (fun _=>none) [] (fun _=>False) v x) →
  Calls P g vs.toArray w fun e w'=>∃x r,e=.returned x∧Q r∧r.deep∧RowKit.Below w.heap.size w w' ∧
   AIs w' (fun b=>S b∨(w.heap.size≤b∧b<w'.heap.size)) (fun _=>none) [] (fun _=>False) r x
section
variable {P:Program}
theorem vB{g:FuncId}{args:List AV}{hp:Hp}{N:Nat}{K:AV→Hp→Prop}{Q:AV→Prop}(h:ay P g args Q)(hd:∀v,v∈args→v.deep)(hK:∀r,Q r→K r hp):fb P g args hp N K:=by
 refine⟨h.1,fun c U σ w vs hr hN hl hv=>?_⟩;refine(h.2 w (bI c w σ hp) vs (fun b hb=>hb.1.1) hl (fun i v x hi hx=>lr (hd v (cr hi)) (fun _ h=>h) (hv i v x hi hx))).mono fun e w' he=>?_;obtain⟨x,r,rfl,hQ,hdr,hb,hx⟩:=he;obtain⟨r1,r2⟩:=nq (N:=N) hr hb;refine⟨x,rfl,r,hp,σ,hK r hQ,r1,r2,lr hdr (fun b hb'=>?_) hx⟩;rcases hb' with h|⟨h1,h2⟩
 ·exact⟨⟨Nat.lt_of_lt_of_le h.1.1 hb.size,h.1.2⟩,h.2⟩
 ·exact⟨⟨h2,fun id blk g hk hg=>by have:=dK (hr.at hk hg);omega⟩,.inr (Nat.le_trans hr.size h1)⟩
theorem zi{g:FuncId}{args args':List AV}{hp:Hp}{N:Nat}{K:AV→Hp→Prop}{Q:AV→Prop}(h:ay P g args' Q)(hl':args.length=args'.length)
  (hs:∀(i:Nat)(v v':AV),args[i]?=some v→args'[i]?=some v'→Snap hp (fun _=>True) v v') (hf:∀r,Q r→r.flat) (hK:∀r,Q r→K r hp):fb P g args hp N K:=by
 refine⟨h.1,fun c U σ w vs hr hN hl hv=>?_⟩;refine(h.2 w (fun b=>b<w.heap.size) vs (fun b hb=>hb) (hl.trans hl') (fun i v' x hi hx=>?_)).mono fun e w' he=>?_
 ·have hlt:i<args.length:=by have:=(ci.1 hi).1;omega
  exact nt (fun b hb=>hb.1.1) (fun id blk g _ hk hg=>dK (hr.at hk hg)) hr (hs i _ v' (cm hlt) hi) (hv i _ x (cm hlt) hx)
 ·obtain⟨x,r,rfl,hQ,hdr,hb,hx⟩:=he;obtain⟨r1,r2⟩:=nq (N:=N) hr hb;exact⟨x,rfl,r,hp,σ,hK r hQ,r1,r2,LP (hf r hQ) hx⟩
theorem zk(ids:List Nat){g:FuncId}{args args':List AV}{hp:Hp}{N:Nat}{K:AV→Hp→Prop}{Q:AV→Prop}(h:ay P g args' Q)(hl':args.length=args'.length)
  (hs:∀(i:Nat)(v v':AV),args[i]?=some v→args'[i]?=some v'→Snap hp (fun id=>id∈ids) v v') (hK:∀r,Q r→K r (aE ids hp)):fb P g args hp N K:=by
 refine⟨h.1,fun c U σ w vs hr hN hl hv=>?_⟩;obtain⟨d1,d2⟩:=zg ids hr;refine(h.2 w (bI c w σ (aE ids hp)) vs (fun b hb=>hb.1.1) (hl.trans hl') (fun i v' x hi hx=>?_)).mono fun e w' he=>?_
 ·have hlt:i<args.length:=by have:=(ci.1 hi).1;omega
  refine nt (fun b hb=>d2.sub b hb) (fun id blk g hid hk hg=>⟨⟨dK (hr.at hk hg),fun id' blk' g' hk' hg' e=>?_⟩,?_⟩) hr (hs i _ v' (cm hlt) hi) (hv i _ x (cm hlt) hx)
  ·subst e;rw[px]at hk'
   split at hk'
   ·cases hk'
   ·rename_i hn;have:=hr.inj id id' blk blk' g hk hk' hg hg';subst this;exact hn (by simpa using hid)
  ·rcases hr.mine id blk g hk hg with h|h
   ·exact .inl (c.hM g h)
   ·exact .inr h
 ·obtain⟨x,r,rfl,hQ,hdr,hb,hx⟩:=he;obtain⟨r1,r2⟩:=nq (N:=N) d1 hb;refine⟨x,rfl,r,_,σ,hK r hQ,r1,d2.trans r2,lr hdr (fun b hb'=>?_) hx⟩;rcases hb' with h|⟨h1,h2⟩
  ·exact⟨⟨Nat.lt_of_lt_of_le h.1.1 hb.size,h.1.2⟩,h.2⟩
  ·refine⟨⟨h2,fun id blk g hk hg e=>?_⟩,.inr (Nat.le_trans hr.size h1)⟩;have:=dK (d1.at hk hg);omega
def xc(tmps:Array Value):ResultVar→Sem Value
 | .tmp t=>pure (tmps.getD t undef)
 | .cell a t=>do loadVar t (←asAddr (tmps.getD a undef))
theorem Bz(fn:Func)(tmps:Array Value):results fn tmps=(do let vs ←fn.results.toList.toArray.mapM (xc tmps);pure (if h:vs.size=1 then vs[0]else .tuple vs)):=by
 unfold results
 have:(fun x:ResultVar=>(match x with | .tmp t=>pure (tmps.getD t undef) | .cell a t=>do loadVar t (←asAddr (tmps.getD a undef)):Sem Value))=xc tmps:=by
  funext x;cases x<;>rfl
 rw[←this,Array.toArray_toList];rfl
def ah (P:Program) (st:St):ResultVar→Option AV
 | .tmp t=>some (fv t st.fr)
 | .cell t ty =>
  match fv t st.fr with
  | .ptr id i off tot =>
   (match lk id st.hp with
   |some b =>
    (match b.es[i]? with
    |some row=>if b.es.length=tot then Ba P ty (row.drop off)else none
    |none=>none)
   |none=>none)
  |_=>none
def zn(P:Program)(rs:List ResultVar)(R:AV→St→Prop)(st:St):Prop :=
 match rs with
 |[]=>R (.tup []) st
 |[x]=>(match ah P st x with
  |some v=>R v st
  |none=>False)
 |[x,y]=>(match ah P st x,ah P st y with
  |some v,some u=>R (.tup [v,u]) st
  |_,_=>False)
 |[x,y,z]=>(match ah P st x,ah P st y,ah P st z with
  |some v,some u,some t=>R (.tup [v,u,t]) st
  |_,_,_=>False)
 |_=>False
def HM(P:Program)(rs:List ResultVar)(R:AV→St→Prop):Exit→St→Prop
 | .normal,st=>zn P rs R st
 | .ret,st=>zn P rs R st
 |_,_=>False
theorem nu {c:Ctx} {st:St} {w:World} {σ:Nat→Option Nat} {tmps:Array Value} (hr:Rel c st.hp (fun i=>i<st.nx) σ w)
  (hf:∀n,AIs w (bI c w σ st.hp) σ st.hp (fun i=>i<st.nx) (fv n st.fr) (tmps.getD n undef)) {rv:ResultVar} {v:AV} (h:ah P st rv=some v) :
  ∃x,(xc tmps rv).run P w=.ok x w∧AIs w (bI c w σ st.hp) σ st.hp (fun i=>i<st.nx) v x:=by
 cases rv with
 |tmp t =>
  simp only[ah]at h;injection h with h;subst h;exact⟨_,rfl,hf t⟩
 | cell t ty =>
  simp only[ah]at h
  split at h
  ·rename_i id i off tot hx;have hx':=hf t;rw[hx]at hx'
   split at h
   ·rename_i b hb
    split at h
    ·rename_i row hrow
     split at h
     ·rename_i ht;obtain⟨g,ccs,hg,hxv,hheap,hone,hrl,hle,hcell⟩:=nj hr hx' hb hrow ht
      have hat:∀(j:Nat)(y:AV),(row.drop off)[j]?=some y→∃u,ccs[i*b.e+off+j]?=some u∧AIs w (bI c w σ st.hp) σ st.hp (fun i=>i<st.nx) y u:=by
       intro j y hy;rw[List.getElem?_drop]at hy;obtain⟨u,h1,h2⟩:=hcell _ y hy;exact⟨u,by rw[Nat.add_assoc];exact h1,h2⟩
      obtain⟨u,hu1,hu2⟩:=gJ (P:=P) (w:=w) (S:=bI c w σ st.hp) (σ:=σ) (hp:=st.hp) (U:=fun i=>i<st.nx) (ad:=⟨g,i*b.e+off,none⟩) (vs:=fun j=>ccs.getD (i*b.e+off+j) undef) h
       (fun j y hy=>by
        obtain⟨u,h1,h2⟩:=hat j y hy;rw[fK,cell_of_row w _ _ ccs _ _ hheap,h1]
        simp[cx,h1])
       (fun j y hy=>by
        obtain⟨u,h1,h2⟩:=hat j y hy;simp only[cx,h1,Option.getD_some]
        exact hone _ u h1)
       (fun j y hy=>by
        obtain⟨u,h1,h2⟩:=hat j y hy;simp only[cx,h1,Option.getD_some]
        exact h2)
      refine⟨u,?_,hu2⟩;simp only[xc,hxv,asAddr,Sem.run_bind,Sem.run_pure,Result.andThen_ok,hu1]
     ·cases h
    ·cases h
   ·cases h
  ·cases h
theorem xe{c:Ctx}{fn:Func}{R:AV→St→Prop}{st:St}{a:Act}{w:World}(hs:kE c st a w)(h:zn P fn.results.toList R st) :
  ∃v x,R v st∧(results fn a.tmps).run P w=.ok x w∧∃ σ,Rel c st.hp (fun i=>i<st.nx) σ w∧AIs w (bI c w σ st.hp) σ st.hp (fun i=>i<st.nx) v x∧yN c st.hp (fun i=>i<st.nx) σ w:=by
 obtain⟨_,_,σ,hr,hf,hh⟩:=hs;rw[Bz];generalize fn.results.toList=rs at h;unfold zn at h
 split at h
 ·exact⟨_,.tuple #[],h,aw,σ,hr,.tup [] #[] rfl aw,hh⟩
 ·rename_i rv
  split at h
  ·rename_i v hv;obtain⟨x,h1,h2⟩:=nu hr hf hv;exact⟨v,x,h,by simp[h1],σ,hr,h2,hh⟩
  ·exact h.elim
 ·rename_i r1 r2
  split at h
  ·rename_i v1 v2 hv1 hv2;obtain⟨x1,h1,k1⟩:=nu hr hf hv1;obtain⟨x2,h2,k2⟩:=nu hr hf hv2;refine⟨_,.tuple #[x1,x2],h,by simp[h1,h2],σ,hr,.tup _ _ rfl fun i c x hc hx=>?_,hh⟩
   match i,hc,hx with
   |0,hc,hx=>simp at hc hx;subst hc;subst hx;exact k1
   |1,hc,hx=>simp at hc hx;subst hc;subst hx;exact k2
   |n+2,hc,hx=>simp at hc
  ·exact h.elim
 ·rename_i r1 r2 r3
  split at h
  ·rename_i v1 v2 v3 hv1 hv2 hv3;obtain⟨x1,h1,k1⟩:=nu hr hf hv1;obtain⟨x2,h2,k2⟩:=nu hr hf hv2;obtain⟨x3,h3,k3⟩:=nu hr hf hv3;refine⟨_,.tuple #[x1,x2,x3],h,by simp[h1,h2,h3],σ,hr,.tup _ _ rfl fun i c x hc hx=>?_,hh⟩
   match i,hc,hx with
   |0,hc,hx=>simp at hc hx;subst hc;subst hx;exact k1
   |1,hc,hx=>simp at hc hx;subst hc;subst hx;exact k2
   |2,hc,hx=>simp at hc hx;subst hc;subst hx;exact k3
   |n+3,hc,hx=>simp at hc
  ·exact h.elim
 ·exact h.elim
def G6(k:Nat):List AV→Fr
 |[]=>[]
 |v::r=>(k,v)::G6 (k+1) r
theorem xf:∀(args:List AV)(k n:Nat),lk n (G6 k args)=if k≤n then args[n-k]? else none
 |[],k,n=>by simp[G6,lk]
 | v :: r,k,n=>by
  simp only[G6,lk,xf r (k+1) n];by_cases h:k=n
  ·subst h;simp
  ·rw[if_neg h];by_cases h2:k≤n
   ·rw[if_pos aq,if_pos h2,show n-k=(n-(k+1))+1 by omega,List.getElem?_cons_succ]
   ·rw[if_neg aq,if_neg h2]
def dy(Q:AV→Prop)(v:AV)(st:St):Prop:=∃r,Snap st.hp (fun _=>True) v r∧r.deep∧Q r
theorem aa{Q:AV→Prop}{v:AV}{st:St}(hd:v.deep)(hq:Q v):dy Q v st:=⟨v,.deep hd,hd,hq⟩
theorem dU{Q:AV→Prop}{v v':AV}{st:St}(h:jo st.hp (fun _=>True) v v')(hd:v'.deep)(hq:Q v'):dy Q v st:=⟨v',.one h,hd,hq⟩
theorem dE{Q:AV→Prop}{cs cs':List AV}{st:St}(h:∀(i:Nat)(c c':AV),cs[i]?=some c→cs'[i]?=some c'→jo st.hp (fun _=>True) c c')(hl:cs'.length=cs.length)(hd:(AV.tup cs').deep)(hq:Q (.tup cs')):dy Q (.tup cs) st :=
 ⟨.tup cs',.tup hl (fun i c c' h1 h2=>.inl (h i c c' h1 h2)),hd,hq⟩
theorem s9{Q:AV→Prop}{cs cs':List AV}{st:St}(h:∀(i:Nat)(c c':AV),cs[i]?=some c→cs'[i]?=some c'→jo st.hp (fun _=>True) c c')(hl:cs'.length=cs.length)(hd:(AV.agg cs').deep)(hq:Q (.agg cs')):dy Q (.agg cs) st :=
 ⟨.agg cs',.agg ⟨hl,h⟩,hd,hq⟩
theorem FD {g : FuncId} {fn : Func} {code : Code} {args : List AV} {Q : AV → Prop} (hf : P.funcs[g]? = some fn) (hn : (fn.name == "runtime.NumGoroutine") = false) (hb : fn.body = some code)
  {n:Nat} {rs:List ResultVar} (hnt:fn.ntmps=n) (hrs:fn.results.toList=rs) (hle:args.length≤n) (hd:∀v,v∈args→v.deep)
  (h:lY P n code (HM P rs (dy Q)) ⟨G6 0 args,[],0⟩):ay P g args Q:=by
 subst hnt;subst hrs;refine⟨⟨fn,hf,hn,by simp[hb]⟩,fun w S vs hS hl hv=>?_⟩;have hsz:((vs.toArray++Array.replicate (fn.ntmps-vs.toArray.size) undef):Array Value).size=fn.ntmps:=by simp;omega
 refine calls_of_wp hf hb ?_
 let c:Ctx:=⟨w,fun _=>False,S,fn.ntmps,fun _ h=>h.elim,fun _=>False,fun _=>none,[],0,aq⟩
 have hsim:kE c ⟨G6 0 args,[],0⟩ { tmps:=vs.toArray++Array.replicate (fn.ntmps-vs.toArray.size) undef,defers:=[] } w:=by
  refine⟨rfl,hsz,fun _=>none,⟨(fun i j bi bj g h=>by cases h),(fun i b h=>by cases h),(fun i b h=>by cases h),(fun i b g h=>by cases h),rfl,rfl,rfl,cR _,fun _ _ _=>rfl⟩,fun n=>?_,⟨fun _ h=>h.elim,fun _ h=>h.elim,fun i h=>absurd h (Nat.not_lt_zero _),fun i b' h=>absurd h (Nat.not_lt_zero _)⟩⟩;simp only[fv,xf,Nat.zero_le,if_true,Nat.sub_zero]
  cases hn:args[n]? with
  |none=>exact .any _
  | some v =>
   have hlt:n<vs.length:=by have:=(ci.1 hn).1;omega
   have hx:vs[n]?=some vs[n]:=cm hlt
   have:(vs.toArray++Array.replicate (fn.ntmps-vs.toArray.size) undef).getD n undef=vs[n]:=by
    rw[cx,Array.getElem?_append,if_pos (by simpa using hlt)];simp[hx]
   rw[this];simp only[Option.getD_some];exact lr (hd v (cr hn)) (fun b hb=>⟨⟨hS b hb,(fun id blk g h=>by cases h)⟩,.inl hb⟩) (hv n v _ hn hx)
 have rK:∀st a w',zn P fn.results.toList (dy Q) st→kE c st a w'→∃v,(results fn a.tmps).run P w'=.ok v w'∧∃x r,Ending.returned v=.returned x∧Q r∧r.deep∧RowKit.Below w.heap.size w w' ∧
   AIs w' (fun b=>S b∨(w.heap.size≤b∧b<w'.heap.size)) (fun _=>none) [] (fun _=>False) r x:=by
  intro st a w' hret hs;obtain⟨v,x,⟨r,hsn,hrd,hQ⟩,hrun,σ,hr,hx,_⟩:=xe hs hret;refine⟨x,hrun,x,r,rfl,hQ,hrd,⟨hr.os,hr.tape,hr.output,hr.size,fun b hb=>hr.old b hb (fun h=>h)⟩,?_⟩;refine nt (fun b hb=>?_) (fun id blk g _ hk hg=>?_) hr hsn hx
  ·rcases hb.2 with h|h
   ·exact .inl h
   ·exact .inr ⟨h,hb.1.1⟩
  ·rcases hr.mine id blk g hk hg with h|h
   ·exact h.elim
   ·exact .inr ⟨h,dK (hr.at hk hg)⟩
 refine wp_mono (jy (c:=c) code _ _ _ w h hsim) fun e a w'⟨st,hq,hs⟩=>?_
 cases e with
 |normal=>exact⟨hs.1,rK st a w' hq hs⟩
 |ret=>exact⟨hs.1,rK st a w' hq hs⟩
 |_=>exact hq.elim
end
end Go.Am
namespace Go.Am
def Xi(P:Program)(n:Nat)(y:Code)(Q:Exit→St→Prop):Exit→St→Prop:=Bv (lY P n y Q) Q
def BB(P:Program)(n:Nat)(ops:Array Oper)(rest:List Oper)(K:St→Prop)(fr:Fr)(nx:Nat)(dst:Option Tmp):AV→Hp→Prop:=Ug (py P n ops rest K) fr nx dst
def XC(P:Program)(n:Nat)(x:Code)(Q:Exit→St→Prop)(st:St):Prop:=Pq (lY P n x) Q st
def sn(P:Program)(g:FuncId)(args:List AV)(hp:Hp)(N:Nat)(K:AV→Hp→Prop):Prop:=fb P g args hp N K∨Hf P g args hp K
section
variable (P:Program) (n:Nat) (Q:Exit→St→Prop) (fr:Fr) (hp:Hp) (nx:Nat) (st:St) (K:AV→Hp→Prop) (KS:St→Prop)
theorem Uw(x y:Code):lY P n (.seq x y) Q st=lY P n x (Xi P n y Q) st:=rfl
theorem Qq:lY P n .skip Q st=Q .normal st:=rfl
theorem Ux:lY P n .ret Q st=Q .ret st:=rfl
theorem Qr(i:Nat):lY P n (.exit i) Q st=Q (.exit i) st:=rfl
theorem LQ(i:Nat)(x:Code):lY P n (.block i x) Q st=lY P n x (qD i Q) st:=rfl
theorem HN(i:Nat)(ops:Array Oper):lY P n (.region i ops false) Q st=py P n ops ops.toList (HI Q) st:=rfl
def Uy(P:Program)(n:Nat)(ops:Array Oper)(Q:Exit→St→Prop)(st:St):Prop:=(∃zs ss m,Bq n ops zs ss m=true∧P.follows .mixedOrders=true∧zW P ops st.nx st.hp (fun fr=>A7 P ops st.nx st.hp (fun fr hp=>Q .normal ⟨fr,hp,st.nx+32*ops.size⟩) ss m fr st.hp) zs st.fr) ∨
 ∃zs is za t st',s5 n ops zs is za t=true∧P.follows .mixedOrders=true∧zW P ops st.nx st.hp (fun fr=>uR P ops st.nx st.hp (fun fr hp=>Wk ⟨fr,hp,st.nx+32*ops.size⟩ st') t fr st.hp) zs st.fr∧Q .normal st'
theorem Qs(i:Nat)(ops:Array Oper):lY P n (.region i ops true) Q st=Uy P n ops Q st:=rfl
theorem Qu(x:Code):lY P n (.loop x) Q st=XC P n x Q st:=rfl
def Y7(v:AV)(A B:Prop):Prop :=
 match v with
 | .d (.bool b)=>(b=true→A)∧(b=false→B)
 |_=>False
def xg(P:Program)(n:Nat)(v:AV)(x y:Code)(Q:Exit→St→Prop)(st:St):Prop :=
 match v with
 | .d (.bool b)=>(b=true→lY P n x Q st)∧(b=false→lY P n y Q st)
 |_=>False
theorem Qv(c:Operand)(x y:Code):lY P n (.cond c x y) Q st=xg P n (ev st.fr c) x y Q st:=rfl
theorem LR(x y:Code):xg P n (.d (.bool true)) x y Q st=lY P n x Q st:=by simp[xg]
theorem LS(x y:Code):xg P n (.d (.bool false)) x y Q st=lY P n y Q st:=by simp[xg]
theorem LU(p:Prop)[Decidable p](x y:Code):xg P n (.d (.bool (decide p))) x y Q st=((p→lY P n x Q st)∧(¬p→lY P n y Q st)):=by simp[xg]
theorem LV(p:Prop)[Decidable p](x y:Code):xg P n (.d (.bool (!decide p))) x y Q st=((¬p→lY P n x Q st)∧(p→lY P n y Q st)):=by simp[xg]
theorem Qw(y:Code):Xi P n y Q .normal st=lY P n y Q st:=rfl
theorem Qx(y:Code):Xi P n y Q .ret st=Q .ret st:=rfl
theorem Qy(y:Code)(i:Nat):Xi P n y Q (.exit i) st=Q (.exit i) st:=rfl
theorem Qz(i:Nat):qD i Q .normal st=Q .normal st:=rfl
theorem QA(i:Nat):qD i Q .ret st=Q .ret st:=rfl
theorem QB(i j:Nat):qD i Q (.exit j) st=if j=i then Q .normal st else Q (.exit j) st:=rfl
theorem QC:HI Q st=Q .normal st:=rfl
theorem QD(I:Nat→St→Prop)(m:Nat):zh I m Q .ret st=Q .ret st:=rfl
theorem QE(I:Nat→St→Prop)(m i:Nat):zh I m Q (.exit i) st=Q (.exit i) st:=rfl
theorem Uz(ops:Array Oper):py P n ops [] KS st=KS st:=rfl
theorem QF(ops:Array Oper)(dst:Option Tmp)(op:Op)(ty:TypeId)(pos:String)(af:Array Edge)(rest:List Oper) :
  py P n ops (⟨dst,op,ty,pos,af,none⟩::rest) KS ⟨fr,hp,nx⟩=(fJ n dst∧bJ P fr hp nx op (BB P n ops rest KS fr nx dst)):=rfl
def om(P:Program)(n:Nat)(ops:Array Oper)(v:AV)(want:Bool)(dst:Option Tmp)(op:Op)(rest:List Oper)(KS:St→Prop)(fr:Fr)(hp:Hp)(nx:Nat):Prop :=
 match v with
 | .d (.bool b)=>fJ n dst∧(b=want→bJ P fr hp nx op (BB P n ops rest KS fr nx dst))∧(b=!want→BB P n ops rest KS fr nx dst (.tup []) hp)
 | .tup []=>fJ n dst∧BB P n ops rest KS fr nx dst (.tup []) hp
 |_=>False
theorem LW(ops:Array Oper)(dst:Option Tmp)(op:Op)(ty:TypeId)(pos:String)(af:Array Edge)(j:Nat)(want:Bool)(rest:List Oper) :
  py P n ops (⟨dst,op,ty,pos,af,some (j,want)⟩::rest) KS ⟨fr,hp,nx⟩ =
   (match(ops[j]?).bind (·.dst)with
   |some d=>om P n ops (fv d fr) want dst op rest KS fr hp nx
   |none=>False):=by
 simp only[py]
 cases(ops[j]?).bind (·.dst)with
 |none=>rfl
 |some d =>
  simp only[om];generalize fv d fr=v
  cases v with
  |d dv=>cases dv<;>rfl
  |tup l=>cases l<;>rfl
  |_=>rfl
theorem UA(ops:Array Oper)(want:Bool)(dst:Option Tmp)(op:Op)(rest:List Oper):om P n ops (.tup []) want dst op rest KS fr hp nx=(fJ n dst∧BB P n ops rest KS fr nx dst (.tup []) hp):=rfl
theorem UB(ops:Array Oper)(dst:Option Tmp)(op:Op)(rest:List Oper):om P n ops (.d (.bool true)) true dst op rest KS fr hp nx=(fJ n dst∧bJ P fr hp nx op (BB P n ops rest KS fr nx dst)):=by simp[om]
theorem UC(ops:Array Oper)(dst:Option Tmp)(op:Op)(rest:List Oper):om P n ops (.d (.bool false)) false dst op rest KS fr hp nx=(fJ n dst∧bJ P fr hp nx op (BB P n ops rest KS fr nx dst)):=by simp[om]
theorem QG(ops:Array Oper)(dst:Option Tmp)(op:Op)(rest:List Oper):om P n ops (.d (.bool true)) false dst op rest KS fr hp nx=(fJ n dst∧BB P n ops rest KS fr nx dst (.tup []) hp):=by simp[om]
theorem QH(ops:Array Oper)(dst:Option Tmp)(op:Op)(rest:List Oper):om P n ops (.d (.bool false)) true dst op rest KS fr hp nx=(fJ n dst∧BB P n ops rest KS fr nx dst (.tup []) hp):=by simp[om]
theorem QI(p:Prop)[Decidable p](ops:Array Oper)(dst:Option Tmp)(op:Op)(rest:List Oper):om P n ops (.d (.bool (decide p))) true dst op rest KS fr hp nx=(fJ n dst∧(p→bJ P fr hp nx op (BB P n ops rest KS fr nx dst))∧(¬p→BB P n ops rest KS fr nx dst (.tup []) hp)):=by simp[om]
theorem QJ(p:Prop)[Decidable p](ops:Array Oper)(dst:Option Tmp)(op:Op)(rest:List Oper):om P n ops (.d (.bool (decide p))) false dst op rest KS fr hp nx=(fJ n dst∧(¬p→bJ P fr hp nx op (BB P n ops rest KS fr nx dst))∧(p→BB P n ops rest KS fr nx dst (.tup []) hp)):=by simp[om]
theorem XD(ops:Array Oper)(rest:List Oper)(dst:Option Tmp)(v:AV)(hp':Hp):BB P n ops rest KS fr nx dst v hp'=py P n ops rest KS ⟨bn fr dst v,hp',nx+32⟩:=rfl
theorem UD(d:Nat)(v:AV):bn fr (some d) v=(d,v)::fr:=rfl
theorem QK(v:AV):bn fr none v=fr:=rfl
theorem UE(d:Nat):fJ n (some d)=(d<n):=rfl
theorem QL:fJ n none=True:=rfl
theorem UF(t:Nat):ev fr (.tmp t)=fv t fr:=rfl
theorem LX(v:Value):ev fr (.const v)=Lt v:=rfl
theorem QM(f:FuncId):ev fr (.func f)=.fn f []:=rfl
theorem XE(d m:Nat)(v:AV):fv m ((d,v)::fr)=if d=m then v else fv m fr:=jv d m v fr
theorem UG(m:Nat):fv m []=.any:=rfl
theorem XF{α:Type}(m k:Nat)(v:α)(t:List (Nat×α)):lk k ((m,v)::t)=if m=k then some v else lk k t:=rfl
theorem UH{α:Type}(k:Nat):lk k ([]:List (Nat×α))=none:=rfl
theorem QN(id m:Nat)(b v:Blk)(t:Hp):bW id b ((m,v)::t)=if m=id then(m,b)::t else(m,v)::bW id b t:=rfl
theorem XG(k:IntKind)(i:Int):Lt (.int k i)=.d (.int k i):=rfl
theorem XH(b:Bool):Lt (.bool b)=.d (.bool b):=rfl
theorem XI:Lt (.slice none 0 0)=.nil:=rfl
theorem QO(s:ByteArray):Lt (.string s)=.d (.str (s.data.toList.map fun c=>(c.toNat:Int))):=rfl
theorem XJ:Lt (.pointer none)=.d .nilp:=rfl
theorem QP(x:Operand):bJ P fr hp nx (.move x) K=K (ev fr x) hp:=rfl
theorem HO(x:Operand):bJ P fr hp nx (.assign x) K=K (ev fr x) hp:=rfl
def pz(c a b:AV)(K:AV→Hp→Prop)(hp:Hp):Prop :=
 match c with
 | .d (.bool t) =>
  (match a,b with
  | .d (.bool x),.d (.bool y)=>K (.d (.bool (if t then x else y))) hp
  |va,vb=>(t=true→K va hp)∧(t=false→K vb hp))
 |_=>False
theorem QQ(c a b:Operand):bJ P fr hp nx (.pick c a b) K=pz (ev fr c) (ev fr a) (ev fr b) K hp:=by
 simp only[bJ,pz];rfl
theorem HQ(a b:AV):pz (.d (.bool true)) a b K hp=K a hp:=by
 unfold pz;dsimp only;split<;>simp
theorem HT(a b:AV):pz (.d (.bool false)) a b K hp=K b hp:=by
 unfold pz;dsimp only;split<;>simp
theorem FG(t x y:Bool):pz (.d (.bool t)) (.d (.bool x)) (.d (.bool y)) K hp=K (.d (.bool (if t then x else y))) hp:=rfl
theorem HU(t:Bool)(x:Bool):pz (.d (.bool t)) (.d (.bool x)) .any K hp=((t=true→K (.d (.bool x)) hp)∧(t=false→K .any hp)):=rfl
theorem HV(t:Bool)(x:Bool):pz (.d (.bool t)) (.d (.bool x)) (.tup []) K hp=((t=true→K (.d (.bool x)) hp)∧(t=false→K (.tup []) hp)):=rfl
theorem UI(op:BinOp)(t t':TypeId)(x y:Operand):bJ P fr hp nx (.binOp op t x y t') K=cO P op t (ev fr x) (ev fr y) K hp:=rfl
theorem LY(t:TypeId)(k:IntKind)(x y:Int):cO P .add t (.d (.int k x)) (.d (.int k y)) K hp=K (.d (.int k (k.wrap (x+y)))) hp:=by simp[cO,dc,jM]
theorem LZ(t:TypeId)(k:IntKind)(x y:Int):cO P .sub t (.d (.int k x)) (.d (.int k y)) K hp=K (.d (.int k (k.wrap (x-y)))) hp:=by simp[cO,dc,jM]
theorem L0(t:TypeId)(k:IntKind)(x y:Int):cO P .mul t (.d (.int k x)) (.d (.int k y)) K hp=K (.d (.int k (k.wrap (x*y)))) hp:=by simp[cO,dc,jM]
theorem L6(t:TypeId)(k:IntKind)(x y:Int):cO P .quo t (.d (.int k x)) (.d (.int k y)) K hp=(y≠0∧K (.d (.int k (k.wrap (x.tdiv y)))) hp):=by simp[cO,dc,jM]
theorem L8(t:TypeId)(k:IntKind)(x y:Int):cO P .rem t (.d (.int k x)) (.d (.int k y)) K hp=(y≠0∧K (.d (.int k (x.tmod y))) hp):=by simp[cO,dc,jM]
theorem L9(t:TypeId)(k:IntKind)(x y:Int):cO P .and t (.d (.int k x)) (.d (.int k y)) K hp=K (.d (.int k (bits .and k x y))) hp:=by simp[cO,dc,jM]
theorem QR(t:TypeId)(k:IntKind)(x y:Int):cO P .or t (.d (.int k x)) (.d (.int k y)) K hp=K (.d (.int k (bits .or k x y))) hp:=by simp[cO,dc,jM]
theorem Md(t:TypeId)(k:IntKind)(x y:Int):cO P .xor t (.d (.int k x)) (.d (.int k y)) K hp=K (.d (.int k (bits .xor k x y))) hp:=by simp[cO,dc,jM]
theorem BC(t:TypeId)(k:IntKind)(x y:Int):cO P .andNot t (.d (.int k x)) (.d (.int k y)) K hp=K (.d (.int k (bits .andNot k x y))) hp:=by simp[cO,dc,jM]
theorem Me(t:TypeId)(k k':IntKind)(x y:Int):cO P .shl t (.d (.int k x)) (.d (.int k' y)) K hp=(0≤y∧K (.d (.int k (k.wrap (x*2 ^ (min y.toNat k.bits))))) hp):=by simp[cO,dc,jM,o7]
theorem MA(t:TypeId)(k k':IntKind)(x y:Int):cO P .shr t (.d (.int k x)) (.d (.int k' y)) K hp=(0≤y∧K (.d (.int k (x.fdiv (2 ^ (min y.toNat k.bits))))) hp):=by simp[cO,dc,jM,o7]
theorem MB(t:TypeId)(k:IntKind)(x y:Int):cO P .eql t (.d (.int k x)) (.d (.int k y)) K hp=K (.d (.bool (decide (x=y)))) hp:=by simp[cO,dc,jM]
theorem MC(t:TypeId)(k:IntKind)(x y:Int):cO P .neq t (.d (.int k x)) (.d (.int k y)) K hp=K (.d (.bool (!decide (x=y)))) hp:=by simp[cO,dc,jM]
theorem MD(t:TypeId)(k:IntKind)(x y:Int):cO P .lss t (.d (.int k x)) (.d (.int k y)) K hp=K (.d (.bool (decide (x<y)))) hp:=by simp[cO,dc,jM]
theorem ME(t:TypeId)(k:IntKind)(x y:Int):cO P .leq t (.d (.int k x)) (.d (.int k y)) K hp=K (.d (.bool (decide (x≤y)))) hp:=by simp[cO,dc,jM]
theorem MF(t:TypeId)(k:IntKind)(x y:Int):cO P .gtr t (.d (.int k x)) (.d (.int k y)) K hp=K (.d (.bool (decide (y<x)))) hp:=by simp[cO,dc,jM]
theorem MG(t:TypeId)(k:IntKind)(x y:Int):cO P .geq t (.d (.int k x)) (.d (.int k y)) K hp=K (.d (.bool (decide (y≤x)))) hp:=by simp[cO,dc,jM]
theorem MH(op:BinOp)(t:TypeId)(a b c d:Nat):cO P op t (.ptr a b c d) (.d .nilp) K hp=Lp P op t false K hp:=rfl
theorem MI(op:BinOp)(t:TypeId)(cs:List DV):cO P op t (.rop cs) (.d .nilp) K hp=Lp P op t false K hp:=rfl
theorem MJ(op:BinOp)(t:TypeId):cO P op t (.d .nilp) (.d .nilp) K hp=Lp P op t true K hp:=rfl
def XK(P:Program)(op:BinOp)(t:TypeId)(k:TK)(a b:List AV)(K:AV→Hp→Prop)(hp:Hp):Prop :=
 match k with
 | .arr n el=>Ph P op t n el (iZ P el) a b K hp
 | .struct _=>Pi P op t a b K hp
 |_=>False
theorem QS(op:BinOp)(t:TypeId)(a b:List AV):cO P op t (.agg a) (.agg b) K hp=XK P op t (bR P t) a b K hp:=by
 simp only[cO,XK]
 cases bR P t<;>rfl
def XL(P:Program)(op:BinOp)(t:TypeId)(n:Nat)(el:TypeId)(us vs:Option (List Int))(K:AV→Hp→Prop)(hp:Hp):Prop :=
 match us,vs with
 | some us,some vs=>us.length=n∧vs.length=n∧P.cellsOf el=1∧P.eqGuardType P.depth t=false∧(match op with
   | .eql=>K (.d (.bool (decide (us=vs)))) hp
   | .neq=>K (.d (.bool (!decide (us=vs)))) hp
   |_=>False)
 |_,_=>False
theorem XM(op:BinOp)(t:TypeId)(n:Nat)(el:TypeId)(k:IntKind)(a b:List AV):Ph P op t n el (some k) a b K hp=XL P op t n el (b8 k a) (b8 k b) K hp:=by
 simp only[Ph,XL]
 cases b8 k a<;>cases b8 k b<;>rfl
def XN(P:Program)(op:BinOp)(t:TypeId)(ks:Option (List (Option IntKind)))(us vs:Option (List L1))(K:AV→Hp→Prop)(hp:Hp):Prop :=
 match us,vs with
 | some us,some vs=>P.eqGuardType P.depth t=false∧ks=some (us.map L1.k)∧ks=some (vs.map L1.k)∧(match op with
   | .eql=>K (.d (.bool (decide (us=vs)))) hp
   | .neq=>K (.d (.bool (!decide (us=vs)))) hp
   |_=>False)
 |_,_=>False
theorem XO(op:BinOp)(t:TypeId)(a b:List AV):Pi P op t a b K hp=XN P op t (dS P 8 t) (ew a) (ew b) K hp:=by
 simp only[Pi,XN]
 cases ew a<;>cases ew b<;>rfl
def Xj(o:Option AV)(K:AV→Hp→Prop)(hp:Hp):Prop :=
 match o with
 |some v=>K v hp
 |none=>False
def Y8(o:Option Int)(K:AV→Hp→Prop)(hp:Hp):Prop :=
 match o with
 |some b=>K (.d (.int .u8 b)) hp
 |none=>False
def Y9(P:Program)(k:TK)(el:TypeId)(cs:List AV)(m:Int)(K:AV→Hp→Prop)(hp:Hp):Prop :=
 match k with
 | .scal=>P.cellsOf el=1∧Xj cs[m.toNat]? K hp
 | .slice _=>P.cellsOf el=1∧Xj cs[m.toNat]? K hp
 | .arr _ _=>P.cellsOf el≠0∧Xj (Ba P el (cs.drop (m.toNat*P.cellsOf el))) K hp
 |_=>False
def Za(P:Program)(k:TK)(x i:AV)(K:AV→Hp→Prop)(hp:Hp):Prop :=
 match k,x,i with
 | .arr n el,.agg cs,.d (.int _ m)=>0≤m∧m<n∧Y9 P (bR P el) el cs m K hp
 | .str,.d (.str bs),.d (.int _ m)=>0≤m∧Y8 bs[m.toNat]? K hp
 |_,_,_=>False
theorem MK(t:TypeId)(x i:Operand):bJ P fr hp nx (.index t x i) K=Za P (bR P t) (ev fr x) (ev fr i) K hp:=rfl
def XP(op:UnOp)(v:AV)(K:AV→Hp→Prop)(hp:Hp):Prop :=
 match op,v with
 | .not,.d (.bool b)=>K (.d (.bool (!b))) hp
 | .neg,.d (.int k n)=>K (.d (.int k (k.wrap (0-n)))) hp
 | .xor,.d (.int k n)=>K (.d (.int k (bits .xor k (if k.signed then -1 else k.max) n))) hp
 |_,_=>False
theorem XQ(op:UnOp)(t:TypeId)(x:Operand):bJ P fr hp nx (.unOp op t x) K=XP op (ev fr x) K hp:=by
 cases op<;>simp only[bJ,XP]<;>split<;>simp_all
def UJ(v:AV)(K:AV→Hp→Prop)(hp:Hp):Prop :=
 match v with
 | .ptr id i off tot=>K (.ptr id i off tot) hp
 | .rop cs=>K (.rop cs) hp
 | .fn f cs=>K (.fn f cs) hp
 | .mth f cs=>K (.mth f cs) hp
 |_=>False
theorem QT(x:Operand):bJ P fr hp nx (.nilCheck x) K=UJ (ev fr x) K hp:=rfl
def Zb(v:AV)(i:Nat)(K:AV→Hp→Prop)(hp:Hp):Prop :=
 match v with
 | .tup vs=>(match vs[i]? with
  |some v=>K v hp
  |none=>False)
 |_=>False
theorem XR(x:Operand)(i:Nat):bJ P fr hp nx (.extract x i) K=Zb (ev fr x) i K hp:=rfl
def Zc(P:Program)(s t:TypeId)(es:List (List DV))(K:AV→Hp→Prop)(hp:Hp):Prop :=
 ∃ bs:List Int,es=bs.map (fun b=>[.int .u8 b])∧(∀ b,b ∈ bs→0≤b∧b<256)∧(match bR P s,bR P t with
   | .slice el,.str=>P.underlying el=some (.int .u8)∧K (.d (.str bs)) hp
   |_,_=>False)
def Zd(P:Program)(bs:List Int)(a b:TK)(K:AV→Hp→Prop)(hp:Hp):Prop :=
 match a,b with
 | .str,.slice el=>P.underlying el=some (.int .u8)∧K (.d (.ro 1 (bs.map fun b=>[.int .u8 b]))) hp
 |_,_=>False
def Zy(P:Program)(s t:TypeId)(xs:Option (List (List AV)))(K:AV→Hp→Prop)(hp:Hp):Prop :=
 ∃ bs:List Int,xs=some (bs.map fun b=>[.d (.int .u8 b)])∧(∀ b,b ∈ bs→0≤b∧b<256)∧(match bR P s,bR P t with
   | .slice el,.str=>P.underlying el=some (.int .u8)∧K (.d (.str bs)) hp
   |_,_=>False)
def XS(P:Program)(s t:TypeId)(v:AV)(K:AV→Hp→Prop)(hp:Hp):Prop :=
 match v with
 | .d (.int _ n)=>(match(P.underlying s).isSome,iZ P t with
  |true,some k=>K (.d (.int k (k.wrap n))) hp
  |_,_=>False)
 | .d (.ro 1 es)=>Zc P s t es K hp
 | .d (.str bs)=>Zd P bs (bR P s) (bR P t) K hp
 |v=>Zy P s t (cT hp 1 v) K hp
theorem XT(s t:TypeId)(x:Operand):bJ P fr hp nx (.convert s t x) K=XS P s t (ev fr x) K hp:=by
 simp only[bJ,XS,iZ];generalize ev fr x=v
 cases v with
 | d dv =>
  cases dv with
  |int k n =>
   cases P.underlying s<;>cases hu:P.underlying t with
   |none=>simp
   |some d=>cases d<;>simp
  |ro e es =>
   match e with
   |0=>rfl
   |1=>rfl
   |_+2=>rfl
  |str bs=>cases bR P s<;>cases bR P t<;>rfl
  |_=>rfl
 |_=>rfl
def Xk(o:Option AV)(K:AV→Hp→Prop)(hp:Hp):Prop :=
 match o with
 |some v=>K v hp
 |none=>False
def Ze(P:Program)(t:TypeId)(row:Option (List AV))(ntot tot off:Nat)(K:AV→Hp→Prop)(hp:Hp):Prop :=
 match row with
 |some row=>ntot=tot∧Xk (Ba P t (row.drop off)) K hp
 |none=>False
def Zf(P:Program)(t:TypeId)(b:Option Blk)(i off tot:Nat)(K:AV→Hp→Prop)(hp:Hp):Prop :=
 match b with
 |some b=>Ze P t b.es[i]? b.es.length tot off K hp
 |none=>False
def Zg(P:Program)(t:TypeId)(v:AV)(K:AV→Hp→Prop)(hp:Hp):Prop :=
 match v with
 | .ptr id i off tot=>Zf P t (lk id hp) i off tot K hp
 | .rop cs=>Xk (Ba P t (cs.map .d)) K hp
 |_=>False
theorem XU(t:TypeId)(x:Operand):bJ P fr hp nx (.load t x) K=Zg P t (ev fr x) K hp:=rfl
def QU(P:Program)(t:TypeId)(k:TK)(cells:List AV):Option AV :=
 match k with
 | .none=>Option.none
 | .arr _ _=>if P.cellsOf t≤cells.length then some (.agg (cells.take (P.cellsOf t)))else Option.none
 | .struct _=>if P.cellsOf t≤cells.length then some (.agg (cells.take (P.cellsOf t)))else Option.none
 | .scal=>cells.head?
 | .str=>cells.head?
 | .slice _=>cells.head?
theorem UK(t:TypeId)(cells:List AV):Ba P t cells=QU P t (bR P t) cells:=by
 unfold Ba QU
 cases bR P t<;>rfl
def XV(P:Program)(v:AV)(o:Option (Nat×TypeId))(K:AV→Hp→Prop)(hp:Hp):Prop :=
 match v,o with
 | .ptr id j off tot,some (o,ft)=>P.cellsOf ft≠0∧K (.ptr id j (off+o) tot) hp
 | .rop cs,some (o,ft)=>P.cellsOf ft≠0∧K (.rop (cs.drop o)) hp
 |_,_=>False
def HW(k:TK)(i:Nat):Option (Nat×TypeId) :=
 match k with
 | .struct fs=>fs[i]?
 |_=>none
theorem XW(t:TypeId)(x:Operand)(i:Nat):bJ P fr hp nx (.fieldAddr t x i) K=XV P (ev fr x) (HW (bR P t) i) K hp:=by
 simp only[bJ,jN,HW,XV];generalize ev fr x=v
 cases v<;>cases bR P t<;>rfl
def XX(P:Program)(v:AV)(o:Option (Nat×TypeId))(K:AV→Hp→Prop)(hp:Hp):Prop :=
 match v,o with
 | .agg cs,some (o,ft)=>Xk (Ba P ft (cs.drop o)) K hp
 |_,_=>False
theorem XY(t:TypeId)(x:Operand)(i:Nat):bJ P fr hp nx (.field t x i) K=XX P (ev fr x) (HW (bR P t) i) K hp:=by
 simp only[bJ,jN,HW,XX];generalize ev fr x=v
 cases v<;>cases bR P t<;>rfl
def Zh(cs:Option (List DV))(K:AV→Hp→Prop)(hp:Hp):Prop :=
 match cs with
 |some cs=>K (.rop cs) hp
 |none=>False
def XZ(b:Option Blk)(id i off e el tot:Nat)(row:Bool)(K:AV→Hp→Prop)(hp:Hp):Prop :=
 match b,row with
 |some b,true=>b.es.length=tot∧b.e=el∧el≠0∧K (.ptr id i 0 tot) hp
 |some b,false=>b.es.length=tot∧e=el∧el≠0∧K (.ptr id i off tot) hp
 |none,_=>False
def X0(P:Program)(ix v:AV)(k:TK)(K:AV→Hp→Prop)(hp:Hp):Prop :=
 match ix,v,k with
 | .d (.int _ n),.d (.ro e es),.slice el=>0≤n∧e=P.cellsOf el∧P.cellsOf el≠0∧Zh es[n.toNat]? K hp
 | .d (.int _ n),.own id i0 len tot,.slice el=>0≤n∧n<len∧XZ (lk id hp) id (i0+n.toNat) 0 0 (P.cellsOf el) tot true K hp
 | .d (.int _ n),.sub id i off e len _ tot,.slice el=>0≤n∧n<len∧XZ (lk id hp) id i (off+n.toNat*e) e (P.cellsOf el) tot false K hp
 | .d (.int _ n),.ptr id i off tot,.arr len el=>0≤n∧n<len∧P.cellsOf el≠0∧K (.ptr id i (off+n.toNat*P.cellsOf el) tot) hp
 | .d (.int _ n),.rop cs,.arr len el=>0≤n∧n<len∧P.cellsOf el≠0∧K (.rop (cs.drop (n.toNat*P.cellsOf el))) hp
 |_,_,_=>False
theorem X1(t:TypeId)(x ix:Operand):bJ P fr hp nx (.indexAddr t x ix) K=X0 P (ev fr ix) (ev fr x) (bR P t) K hp:=by
 simp only[bJ,X0];generalize ev fr ix=u;generalize ev fr x=v
 cases u with
 | d dv =>
  cases dv with
  |int k n =>
   cases v with
   |d dv=>cases dv<;>cases bR P t<;>rfl
   |own id i0 len tot=>cases bR P t<;>first|rfl|(simp only;cases lk id hp<;>rfl)
   |sub id i off e len cap tot=>cases bR P t<;>first|rfl|(simp only;cases lk id hp<;>rfl)
   |_=>cases bR P t<;>rfl
  |_=>rfl
 |_=>rfl
def Zi(t:TypeId)(z:Option (List AV))(nx:Nat)(K:AV→Hp→Prop)(hp:Hp):Prop :=
 match z with
 |some cs=>K (.ptr nx 0 0 1) ((nx,⟨t,cs.length,[cs]⟩)::hp)
 |none=>False
theorem X2(t:TypeId):bJ P fr hp nx (.alloc t) K=Zi t (eW P t) nx K hp:=rfl
def Zj(P:Program)(k:TK)(z:Option (List AV))(ps:List (Nat×AV))(K:AV→Hp→Prop)(hp:Hp):Prop :=
 match z with
 |some z=>qo P k z ps K hp
 |none=>False
theorem X3(t:TypeId)(parts:Array (Nat×Operand)):bJ P fr hp nx (.build t parts) K=Zj P (bR P t) (eW P t) (parts.toList.map fun p=>(p.1,ev fr p.2)) K hp:=rfl
def HY(o:Option (List AV))(K:AV→Hp→Prop)(hp:Hp):Prop :=
 match o with
 |some cs=>K (.agg cs) hp
 |none=>False
theorem QV(fs:List (Nat×TypeId))(z:List AV)(ps:List (Nat×AV)):qo P (.struct fs) z ps K hp=((∀f,f∈fs→P.cellsOf f.2≠0)∧HY (kN (i6 P fs) z ps) K hp):=rfl
theorem QW(n:Nat)(el:TypeId)(z:List AV)(ps:List (Nat×AV)):qo P (.arr n el) z ps K hp=(P.cellsOf el≠0∧HY (kN (fun i=>some (i*P.cellsOf el,P.cellsOf el)) z ps) K hp):=rfl
def Zk(el:TypeId)(e len nx:Nat)(o:Option (List (List AV)))(K:AV→Hp→Prop)(hp:Hp):Prop :=
 match o with
 |some rows=>K (.own nx 0 len len) ((nx,⟨el,e,rows⟩)::hp)
 |none=>False
def Zl(P:Program)(el:TypeId)(len:Nat)(z:Option (List AV))(ps:List (Nat×AV))(nx:Nat)(K:AV→Hp→Prop)(hp:Hp):Prop :=
 match z with
 |some z=>len*P.cellsOf el≤16777216∧Zk el (P.cellsOf el) len nx (sR (P.cellsOf el) (List.replicate len z) ps) K hp
 |none=>False
def X4(P:Program)(k:TK)(len:Nat)(ps:List (Nat×AV))(nx:Nat)(K:AV→Hp→Prop)(hp:Hp):Prop :=
 match k with
 | .slice el=>Zl P el len (eW P el) ps nx K hp
 |_=>False
theorem X5(t:TypeId)(len:Nat)(parts:Array (Nat×Operand)):bJ P fr hp nx (.buildSlice t len parts) K=X4 P (bR P t) len (parts.toList.map fun p=>(p.1,ev fr p.2)) nx K hp:=by
 simp only[bJ,mq,X4]
 cases bR P t<;>rfl
theorem X6(t:TypeId)(x:Operand)(lo hi:Option Operand):bJ P fr hp nx (.slice t x lo hi none) K=gn P (bR P t) (ev fr x) (wS fr 0 lo) (wS fr ((ev fr x).topLen (bR P t)) hi) K hp:=rfl
theorem UL(t:TypeId)(x m:Operand)(lo hi:Option Operand):bJ P fr hp nx (.slice t x lo hi (some m)) K=lm P (bR P t) (ev fr x) (wS fr 0 lo) (Bc fr hi) (ev fr m).num K hp:=rfl
theorem QX(x:Operand):Bc fr (some x)=(ev fr x).num:=rfl
theorem HZ(el:TypeId)(l h m:Int)(e:Nat)(es:List (List DV)):lm P (.slice el) (.d (.ro e es)) (some l) (some h) (some m) K hp=(P.cellsOf el≠0∧e=P.cellsOf el∧0≤l∧l≤h∧h=m∧h≤es.length∧K (.d (.rof e ((es.take h.toNat).drop l.toNat))) hp):=rfl
theorem FH(el:TypeId)(l h m:Int):lm P (.slice el) .nil (some l) (some h) (some m) K hp=(P.cellsOf el≠0∧l=0∧h=0∧m=0∧K (.d (.rof (P.cellsOf el) [])) hp):=rfl
theorem FI(el:TypeId)(id i0 len tot:Nat)(l h m:Int):lm P (.slice el) (.own id i0 len tot) (some l) (some h) (some m) K hp=(P.cellsOf el≠0∧l=0∧h=0∧m=0∧K (.d (.rof (P.cellsOf el) [])) hp):=rfl
def Zm(P:Program)(el:TypeId)(z:Option (List AV))(n c:Int)(nx:Nat)(K:AV→Hp→Prop)(hp:Hp):Prop :=
 match z with
 |some z=>0≤n∧n≤c∧c*P.cellsOf el≤16777216∧P.bytesOf el*c≤281474976710656∧c≤9223372036854775807∧K (.own nx 0 n.toNat n.toNat) ((nx,⟨el,P.cellsOf el,List.replicate n.toNat z⟩)::hp)
 |none=>False
theorem X7(t:TypeId)(l m:Operand):bJ P fr hp nx (.makeSlice t l m) K=Dm P (bR P t) (ev fr l) (ev fr m) nx K hp:=rfl
theorem UM(el:TypeId)(k1 k2:IntKind)(n c:Int):Dm P (.slice el) (.d (.int k1 n)) (.d (.int k2 c)) nx K hp=Zm P el (eW P el) n c nx K hp:=rfl
theorem UN(t:TypeId)(x:Operand):bJ P fr hp nx (.sliceToArrayPointer t x) K=Fh (bR P t) (ev fr x) K hp:=rfl
theorem QY(n:Nat)(el:TypeId)(id i off e len cap tot:Nat):Fh (.arr n el) (.sub id i off e len cap tot) K hp=(match lk id hp with
  |some b=>b.es.length=tot∧0<n∧n≤len∧K (.ptr id i off tot) hp
  |none=>False):=rfl
theorem QZ(n:Nat)(el:TypeId)(es:List (List DV)):Fh (.arr n el) (.d (.ro 1 es)) K hp=(0<n∧n≤es.length∧K (.rop es.flatten) hp):=rfl
theorem X8(s x:Operand)(t u:TypeId):bJ P fr hp nx (.call ⟨.builtin .copy,#[s,x],#[t,u]⟩) K=uN P fr hp nx .copy [s,x] [t,u] K:=rfl
def X9(P:Program)(el:TypeId)(b:Option Blk)(id i0 len tot:Nat)(xs:List (List AV))(K:AV→Hp→Prop)(hp:Hp):Prop :=
 match b with
 |some b=>b.es.length=tot∧b.e=1∧P.cellsOf el=1∧K (.d (.int .i64 (min len xs.length:Nat))) (bW id ⟨b.ty,b.e,b.es.take i0++(xs.take len++b.es.drop (i0+min len xs.length))⟩ hp)
 |none=>False
theorem UO(el:TypeId)(id i0 len tot:Nat)(xs:List (List AV)):Dn P el (.own id i0 len tot) (some xs) K hp=X9 P el (lk id hp) id i0 len tot xs K hp:=by
 simp only[Dn,X9]
 cases lk id hp<;>rfl
theorem FK:∀{a b:List (List DV)},a.map (fun r=>r.map AV.d)=b.map (fun r=>r.map AV.d)→a=b:=by
 have one:∀{x y:List DV},x.map AV.d=y.map AV.d→x=y:=by
  intro x
  induction x with
  |nil=>intro y h;cases y with
   |nil=>rfl
   |cons _ _=>simp at h
  |cons u x ih=>intro y h;cases y with
   |nil=>simp at h
   |cons v y=>simp at h;rw[h.1,ih (by simpa using h.2)]
 intro a
 induction a with
 |nil=>intro b h;cases b with
  |nil=>rfl
  |cons _ _=>simp at h
 | cons u a ih=>intro b h;cases b with
  |nil=>simp at h
  |cons v b =>
   rw[List.map_cons,List.map_cons]at h;injection h with h1 h2;rw[one h1,ih h2]
def Ya(P:Program)(el:TypeId)(o:Option (List (List AV)))(len cap:Nat)(xs:List (List AV))(nx:Nat)(K:AV→Hp→Prop)(hp:Hp):Prop :=
 cap<len+xs.length∧(eW P el).isSome=true∧P.bytesOf el≠0∧(len+xs.length)*P.bytesOf el≤140737488355328 ∧
   (match o with
   |some rs=>K (.own nx 0 (len+xs.length) (len+xs.length)) ((nx,⟨el,P.cellsOf el,rs++xs⟩)::hp)
   |none=>False)
theorem H2(el:TypeId)(xs:List (List AV))(id i off e len cap tot:Nat):fa P el (.sub id i off e len cap tot) (some xs) nx K hp=Ya P el (cT hp (P.cellsOf el) (.sub id i off e len cap tot)) len cap xs nx K hp:=by
 simp only[fa,Ya];generalize cT hp (P.cellsOf el) (.sub id i off e len cap tot)=o
 cases o<;>rfl
def xh(A B:Prop):Prop:=A∨B
theorem zo(el:TypeId)(e:Nat)(es ds:List (List DV)):fa P el (.d (.rof e es)) (some (ds.map fun r=>r.map AV.d)) nx K hp=(e=P.cellsOf el∧(eW P el).isSome=true∧P.bytesOf el≠0∧(es.length+ds.length)*P.bytesOf el≤140737488355328 ∧
  xh (K (.d (.ro e (es++ds))) hp) (ds≠[]∧K (.own nx 0 (es.length+ds.length) (es.length+ds.length)) ((nx,⟨el,P.cellsOf el,es.map (fun r=>r.map AV.d)++ds.map fun r=>r.map AV.d⟩)::hp))):=by
 simp only[fa,List.length_map,eq_iff_iff,xh];constructor
 ·rintro⟨h1,h2,h3,h4,⟨ds',h5,h6⟩|⟨h5,h6⟩⟩
  ·have h7:=FK h5;subst h7;exact⟨h1,h2,h3,h4,.inl h6⟩
  ·exact⟨h1,h2,h3,h4,.inr ⟨by simpa using h5,h6⟩⟩
 ·rintro⟨h1,h2,h3,h4,h5|⟨h5,h6⟩⟩
  ·exact⟨h1,h2,h3,h4,.inl ⟨ds,rfl,h5⟩⟩
  ·exact⟨h1,h2,h3,h4,.inr ⟨by simpa using h5,h6⟩⟩
theorem Q0(d:Int):wS fr d none=some d:=rfl
theorem Q1(d:Int)(x:Operand):wS fr d (some x)=(ev fr x).num:=rfl
theorem UQ(k:IntKind)(n:Int):(AV.d (.int k n)).num=some n:=rfl
theorem H3(el:TypeId)(l h:Int):gn P (.slice el) .nil (some l) (some h) K hp=(P.cellsOf el≠0∧l=0∧h=0∧K .nil hp):=rfl
theorem ML(el:TypeId)(l h:Int)(e:Nat)(es:List (List DV)):gn P (.slice el) (.d (.ro e es)) (some l) (some h) K hp=(P.cellsOf el≠0∧e=P.cellsOf el∧0≤l∧l≤h∧h≤es.length∧K (.d (.ro e ((es.take h.toNat).drop l.toNat))) hp):=rfl
def Yb(b:Option Blk)(n:Nat)(A:Prop):Prop :=
 match b with
 |some b=>b.e=n∧A
 |none=>False
theorem H4(el:TypeId)(l h:Int)(id i0 len tot:Nat):gn P (.slice el) (.own id i0 len tot) (some l) (some h) K hp=Yb (lk id hp) (P.cellsOf el) (P.cellsOf el≠0∧0≤l∧l≤h∧h≤len∧K (.own id (i0+l.toNat) (h.toNat-l.toNat) tot) hp):=by
 simp only[gn]
 cases lk id hp with
 |none=>rfl
 |some b=>simp only[Yb,eq_iff_iff];exact⟨fun⟨a,b,c⟩=>⟨b,a,c⟩,fun⟨b,a,c⟩=>⟨a,b,c⟩⟩
theorem H5(el:TypeId)(l h:Int)(id i off e len cap tot:Nat):gn P (.slice el) (.sub id i off e len cap tot) (some l) (some h) K hp=(P.cellsOf el≠0∧e=P.cellsOf el∧0≤l∧l≤h∧h≤len∧K (.sub id i (off+l.toNat*e) e (h.toNat-l.toNat) (cap-l.toNat) tot) hp):=rfl
def Yc(b:Option Blk)(n:Nat)(A:Prop):Prop :=
 match b with
 |some b=>n≤b.e∧A
 |none=>False
theorem H6(n:Nat)(el:TypeId)(l h:Int)(id i off tot:Nat):gn P (.arr n el) (.ptr id i off tot) (some l) (some h) K hp=Yc (lk id hp) (off+n*P.cellsOf el) (P.cellsOf el≠0∧i<tot∧0≤l∧l≤h∧h≤n∧K (.sub id i (off+l.toNat*P.cellsOf el) (P.cellsOf el) (h.toNat-l.toNat) (n-l.toNat) tot) hp):=by
 simp only[gn]
 cases lk id hp with
 |none=>rfl
 |some b=>simp only[Yc,eq_iff_iff];exact⟨fun⟨a,b,c⟩=>⟨b,a,c⟩,fun⟨b,a,c⟩=>⟨a,b,c⟩⟩
theorem H7(n:Nat)(el:TypeId)(l h:Int)(cs:List DV):gn P (.arr n el) (.rop cs) (some l) (some h) K hp=(P.cellsOf el=1∧n≤cs.length∧0≤l∧l≤h∧h≤n∧K (.d (.ro 1 (((cs.take h.toNat).drop l.toNat).map fun c=>[c]))) hp):=rfl
theorem H8(bs:List Int)(l h:Int):gn P .str (.d (.str bs)) (some l) (some h) K hp=(0≤l∧l≤h∧h≤bs.length∧K (.d (.str ((bs.take h.toNat).drop l.toNat))) hp):=rfl
def DC (P:Program) (el:TypeId) (b:Option Blk) (id len tot:Nat) (xs:List (List AV)) (K:AV→Hp→Prop) (hp:Hp):Prop :=
 match b with
 |some b=>b.es.length=tot∧b.ty=el∧b.e=P.cellsOf el∧(eW P el).isSome=true∧P.bytesOf el≠0∧(len+xs.length)*P.bytesOf el≤140737488355328 ∧
    (len+xs.length≤tot→K (.own id 0 (len+xs.length) tot) (bW id ⟨b.ty,b.e,b.es.take len++(xs++b.es.drop (len+xs.length))⟩ hp)) ∧
    (tot<len+xs.length→K (.own id 0 (len+xs.length) (len+xs.length)) (bW id ⟨b.ty,b.e,b.es.take len++xs⟩ hp))
 |none=>False
theorem H9(el:TypeId)(xs:List (List AV)):fa P el .nil (some xs) nx K hp=((eW P el).isSome=true∧P.bytesOf el≠0∧xs.length*P.bytesOf el≤140737488355328∧K (.own nx 0 xs.length xs.length) ((nx,⟨el,P.cellsOf el,xs⟩)::hp)):=rfl
theorem ed(el:TypeId)(xs:List (List AV))(id len tot:Nat):fa P el (.own id 0 len tot) (some xs) nx K hp=DC P el (lk id hp) id len tot xs K hp:=rfl
def Xl(P:Program)(el:TypeId)(b:Option Blk)(id len:Nat)(xs:List (List AV))(K:AV→Hp→Prop)(hp:Hp):Prop :=
 match b with
 |some b=>b.es.length=len∧b.ty=el∧b.e=P.cellsOf el∧(eW P el).isSome=true∧P.bytesOf el≠0∧(len+xs.length)*P.bytesOf el≤140737488355328∧K (.own id 0 (len+xs.length) (len+xs.length)) (bW id ⟨b.ty,b.e,b.es++xs⟩ hp)
 |none=>False
theorem vC(el:TypeId)(xs:List (List AV))(id len:Nat):fa P el (.own id 0 len len) (some xs) nx K hp=Xl P el (lk id hp) id len xs K hp:=by
 rw[ed];unfold DC Xl
 cases hb:lk id hp with
 |none=>rfl
 | some b =>
  simp only[eq_iff_iff];constructor
  ·rintro⟨h1,h2,h3,h4,h5,h6,h7,h8⟩;refine⟨h1,h2,h3,h4,h5,h6,?_⟩;rcases Nat.eq_zero_or_pos xs.length with h0|h0
   ·have hx:xs=[]:=List.eq_nil_of_length_eq_zero h0;subst hx;have:=h7 aw
    simpa using this
   ·have:=h8 aq;rw[cA aq]at this;exact this
  ·rintro⟨h1,h2,h3,h4,h5,h6,h7⟩;refine⟨h1,h2,h3,h4,h5,h6,fun h=>?_,fun h=>?_⟩
   ·have hx:xs=[]:=List.eq_nil_of_length_eq_zero aq;subst hx
    simpa using h7
   ·rw[cA aq];exact h7
theorem Ia(sz:Nat):cT hp sz .nil=some []:=rfl
theorem MM(sz e:Nat)(es:List (List DV)):cT hp sz (.d (.ro e es))=if e=sz then some (es.map fun r=>r.map .d)else none:=rfl
def Zn(b:Option Blk)(sz i0 len tot:Nat):Option (List (List AV)) :=
 match b with
 |some b=>if b.es.length=tot∧b.e=sz then some ((b.es.drop i0).take len)else none
 |none=>none
theorem Ib(sz id i0 len tot:Nat):cT hp sz (.own id i0 len tot)=Zn (lk id hp) sz i0 len tot:=rfl
def Zo(row:Option (List AV))(n tot e sz off len:Nat):Option (List (List AV)) :=
 match row with
 |some row=>if n=tot∧e=sz then some ((List.range len).map fun k=>(row.drop (off+k*e)).take e)else none
 |none=>none
def Yd(b:Option Blk)(sz i off e len tot:Nat):Option (List (List AV)) :=
 match b with
 |some b=>Zo b.es[i]? b.es.length tot e sz off len
 |none=>none
theorem Ic(sz id i off e len cap tot:Nat):cT hp sz (.sub id i off e len cap tot)=Yd (lk id hp) sz i off e len tot:=by
 simp only[cT,Yd]
 cases lk id hp with
 |none=>rfl
 |some b =>
  simp only
  cases b.es[i]?<;>rfl
theorem UR(s x:Operand)(t u:TypeId):bJ P fr hp nx (.call ⟨.builtin .append,#[s,x],#[t,u]⟩) K=uN P fr hp nx .append [s,x] [t,u] K:=rfl
theorem Q2(v:DV):(AV.d v).cellsO=some [.d v]:=rfl
theorem Q3(cs:List AV):(AV.agg cs).cellsO=some cs:=rfl
theorem Ie(a b c d:Nat):(AV.own a b c d).cellsO=some [.own a b c d]:=rfl
theorem If(a b c d e f g:Nat):(AV.sub a b c d e f g).cellsO=some [.sub a b c d e f g]:=rfl
theorem Ig(a b c d:Nat):(AV.ptr a b c d).cellsO=some [.ptr a b c d]:=rfl
theorem Ih:(AV.nil).cellsO=some [.nil]:=rfl
theorem MN(f:FuncId)(cs:List AV):(AV.fn f cs).cellsO=some [.fn f cs]:=rfl
theorem Ii(cs:List DV):(AV.rop cs).cellsO=some [.rop cs]:=rfl
def Q4(eq:Bool)(k:TK)(v:AV)(K:AV→Hp→Prop)(hp:Hp):Prop :=
 match v,k with
 | .nil,.slice _=>K (.d (.bool eq)) hp
 | .d (.ro _ es),.slice _=>∀b,(b=eq→es.length=0)→K (.d (.bool b)) hp
 | .d (.rof _ es),.slice _=>∀b,(b=eq→es.length=0)→K (.d (.bool b)) hp
 | .own _ _ len _,.slice _=>∀b,(b=eq→len=0)→K (.d (.bool b)) hp
 | .sub _ _ _ _ len _ _,.slice _=>∀b,(b=eq→len=0)→K (.d (.bool b)) hp
 |_,_=>False
theorem Ij(t:TypeId)(v:AV):cO P .eql t v .nil K hp=Q4 true (bR P t) v K hp:=by
 unfold cO dc Q4
 cases v with
 |d dv=>cases dv<;>cases bR P t<;>rfl
 |_=>cases bR P t<;>rfl
theorem MO(t:TypeId)(a b:List Int):cO P .eql t (.d (.str a)) (.d (.str b)) K hp=K (.d (.bool (decide (a=b)))) hp:=rfl
theorem MP(t:TypeId)(a b:List Int):cO P .lss t (.d (.str a)) (.d (.str b)) K hp=K (.d (.bool (dI a b))) hp:=rfl
theorem MQ(t:TypeId)(a b:List Int):cO P .leq t (.d (.str a)) (.d (.str b)) K hp=K (.d (.bool (dI a b||decide (a=b)))) hp:=rfl
theorem MR(t:TypeId)(a b:List Int):cO P .gtr t (.d (.str a)) (.d (.str b)) K hp=K (.d (.bool (!(dI a b||decide (a=b))))) hp:=rfl
theorem MS(t:TypeId)(a b:List Int):cO P .geq t (.d (.str a)) (.d (.str b)) K hp=K (.d (.bool (!dI a b))) hp:=rfl
theorem Ik(t:TypeId)(a b:List Int):cO P .add t (.d (.str a)) (.d (.str b)) K hp=(a.length+b.length≤9223372036854775807∧K (.d (.str (a++b))) hp):=rfl
def Ye(P:Program)(v:AV)(args:List AV)(hp:Hp)(N:Nat)(K:AV→Hp→Prop):Prop:=match v with
 | .fn g caps=>sn P g (args++caps) hp N K
 | .mth g caps=>sn P g (caps++args) hp N K
 |_=>False
theorem MU(f:Tmp)(args:Array Operand)(ts:Array TypeId):bJ P fr hp nx (.call ⟨.value (.tmp f),args,ts⟩) K=Ye P (fv f fr) (args.toList.map (ev fr)) hp nx K:=by
 simp only[bJ,Ye,ev]
 cases fv f fr<;>rfl
theorem US(g:FuncId)(args caps:List AV)(N:Nat):Ye P (.fn g caps) args hp N K=sn P g (args++caps) hp N K:=rfl
theorem pA(f:FuncId)(x:Operand):bJ P fr hp nx (.makeFunc (.func f) #[x] #[]) K=K (.mth f [ev fr x]) hp:=by simp[bJ]
theorem UT(f:FuncId)(caps:Array Operand):bJ P fr hp nx (.makeFunc (.func f) #[] caps) K=K (.fn f (caps.toList.map (ev fr))) hp:=by simp[bJ]
def Xm(x y:AV)(K:AV→Hp→Prop)(hp:Hp):Prop :=
 match x,y with
 | .d (.int k m),.d (.int _ n)=>K (.d (.int k (if n>m then n else m))) hp
 |_,_=>False
theorem UU(x y:Operand)(t u:TypeId):bJ P fr hp nx (.call ⟨.builtin .max,#[x,y],#[t,u]⟩) K=Xm (ev fr x) (ev fr y) K hp:=rfl
def Yf(x y:AV)(K:AV→Hp→Prop)(hp:Hp):Prop :=
 match x,y with
 | .d (.int k m),.d (.int _ n)=>K (.d (.int k (if n<m then n else m))) hp
 |_,_=>False
theorem UV(x y:Operand)(t u:TypeId):bJ P fr hp nx (.call ⟨.builtin .min,#[x,y],#[t,u]⟩) K=Yf (ev fr x) (ev fr y) K hp:=rfl
theorem MV(t:TypeId)(a b:List Int):cO P .neq t (.d (.str a)) (.d (.str b)) K hp=K (.d (.bool (!decide (a=b)))) hp:=rfl
def Zp(t:TypeId)(v:AV)(nx:Nat)(K:AV→Hp→Prop)(hp:Hp):Prop :=
 match v with
 | .agg cs=>K (.ptr nx 0 0 1) ((nx,⟨t,cs.length,[cs]⟩)::hp)
 | .any=>False
 | .tup _=>False
 | .d v=>K (.ptr nx 0 0 1) ((nx,⟨t,1,[[.d v]]⟩)::hp)
 | .own a b c d=>K (.ptr nx 0 0 1) ((nx,⟨t,1,[[.own a b c d]]⟩)::hp)
 | .sub a b c d e f g=>K (.ptr nx 0 0 1) ((nx,⟨t,1,[[.sub a b c d e f g]]⟩)::hp)
 | .ptr a b c d=>K (.ptr nx 0 0 1) ((nx,⟨t,1,[[.ptr a b c d]]⟩)::hp)
 | .rop cs=>K (.ptr nx 0 0 1) ((nx,⟨t,1,[[.rop cs]]⟩)::hp)
 | .fn f cs=>K (.ptr nx 0 0 1) ((nx,⟨t,1,[[.fn f cs]]⟩)::hp)
 | .mth f cs=>K (.ptr nx 0 0 1) ((nx,⟨t,1,[[.mth f cs]]⟩)::hp)
 | .nil=>K (.ptr nx 0 0 1) ((nx,⟨t,1,[[.nil]]⟩)::hp)
 | .mp a=>K (.ptr nx 0 0 1) ((nx,⟨t,1,[[.mp a]]⟩)::hp)
theorem Yg(t:TypeId)(x:Operand):bJ P fr hp nx (.box t x) K=Zp t (ev fr x) nx K hp:=by
 simp only[bJ]
 cases ev fr x<;>rfl
def Zq(P:Program)(t:TypeId)(id:Nat)(b:Blk)(i off:Nat)(row:List AV)(u:AV)(K:AV→Hp→Prop)(hp:Hp):Prop :=
 match u with
 | .agg cs=>cs.length=P.cellsOf t∧P.cellsOf t≠0∧off+cs.length≤row.length∧K .any (bW id ⟨b.ty,b.e,b.es.set i (row.take off++(cs++row.drop (off+cs.length)))⟩ hp)
 | .any=>False
 | .tup _=>False
 | .d v=>P.cellsOf t=1∧off<row.length∧K .any (bW id ⟨b.ty,b.e,b.es.set i (row.set off (.d v))⟩ hp)
 | .own a1 a2 a3 a4=>P.cellsOf t=1∧off<row.length∧K .any (bW id ⟨b.ty,b.e,b.es.set i (row.set off (.own a1 a2 a3 a4))⟩ hp)
 | .sub a1 a2 a3 a4 a5 a6 a7=>P.cellsOf t=1∧off<row.length∧K .any (bW id ⟨b.ty,b.e,b.es.set i (row.set off (.sub a1 a2 a3 a4 a5 a6 a7))⟩ hp)
 | .ptr a1 a2 a3 a4=>P.cellsOf t=1∧off<row.length∧K .any (bW id ⟨b.ty,b.e,b.es.set i (row.set off (.ptr a1 a2 a3 a4))⟩ hp)
 | .rop cs=>P.cellsOf t=1∧off<row.length∧K .any (bW id ⟨b.ty,b.e,b.es.set i (row.set off (.rop cs))⟩ hp)
 | .fn f cs=>P.cellsOf t=1∧off<row.length∧K .any (bW id ⟨b.ty,b.e,b.es.set i (row.set off (.fn f cs))⟩ hp)
 | .mth f cs=>P.cellsOf t=1∧off<row.length∧K .any (bW id ⟨b.ty,b.e,b.es.set i (row.set off (.mth f cs))⟩ hp)
 | .nil=>P.cellsOf t=1∧off<row.length∧K .any (bW id ⟨b.ty,b.e,b.es.set i (row.set off .nil)⟩ hp)
 | .mp a=>P.cellsOf t=1∧off<row.length∧K .any (bW id ⟨b.ty,b.e,b.es.set i (row.set off (.mp a))⟩ hp)
def Xn(P:Program)(t:TypeId)(id:Nat)(b:Option Blk)(i off tot:Nat)(u:AV)(K:AV→Hp→Prop)(hp:Hp):Prop :=
 match b with
 |some b=>(match b.es[i]? with
  |some row=>b.es.length=tot∧Zq P t id b i off row u K hp
  |none=>False)
 |none=>False
def Yh(P:Program)(t:TypeId)(v u:AV)(K:AV→Hp→Prop)(hp:Hp):Prop :=
 match v with
 | .ptr id i off tot=>Xn P t id (lk id hp) i off tot u K hp
 |_=>False
theorem Yi(t:TypeId)(x y:Operand):bJ P fr hp nx (.store t x y) K=Yh P t (ev fr x) (ev fr y) K hp:=by
 simp only[bJ,Yh];generalize ev fr x=v;generalize ev fr y=u
 cases v with
 | ptr id i off tot =>
  simp only[Xn]
  cases lk id hp with
  |none=>rfl
  |some b =>
   simp only
   cases b.es[i]? with
   |none=>rfl
   |some row=>cases u<;>rfl
 |_=>rfl
theorem Yj(t:TypeId):bJ P fr hp nx (.makeMap t none) K=(∀g,K (.mp nx) ((nx,⟨g,0,nT []⟩)::hp)):=rfl
theorem Yk(t:TypeId)(m x:Operand):bJ P fr hp nx (.lookup t m x false) K=Xz P t (ev fr m) (ev fr x) K hp:=rfl
theorem Yl(t:TypeId)(m x v:Operand):bJ P fr hp nx (.mapUpdate t m x v) K=XA P t (ev fr m) (ev fr x) (ev fr v) K hp:=rfl
theorem UW(x:Operand)(t:TypeId):bJ P fr hp nx (.call ⟨.builtin .len,#[x],#[t]⟩) K=uN P fr hp nx .len [x] [t] K:=rfl
theorem Q5(f:FuncId)(args:Array Operand)(ts:Array TypeId):bJ P fr hp nx (.call ⟨.value (.func f),args,ts⟩) K=sn P f (args.toList.map (ev fr)) hp nx K:=by
 simp[bJ,ev,sn]
end
section
variable (P:Program)
def UX(k:TK):Bool:=match k with
 | .slice _=>false
 |_=>true
theorem Q6(op:BinOp)(t t':TypeId)(x y:Operand):aV P (.binOp op t x y t')=UX (bR P t):=by
 simp only[aV,UX]
 cases bR P t<;>rfl
theorem MW(x:Operand):aV P (.move x)=true:=rfl
theorem FM(x:Operand):aV P (.assign x)=true:=rfl
theorem MX(x y z:Operand):aV P (.pick x y z)=true:=rfl
theorem UY(o:UnOp)(t:TypeId)(x:Operand):aV P (.unOp o t x)=true:=rfl
theorem Q7(x:Operand):aV P (.nilCheck x)=true:=rfl
theorem UZ(x:Operand)(i:Nat):aV P (.extract x i)=true:=rfl
theorem U0(s t:TypeId)(x:Operand):aV P (.convert s t x)=UX (bR P t):=by
 simp only[aV,UX]
 cases bR P t<;>rfl
theorem Q8(t:TypeId)(x:Operand):aV P (.sliceToArrayPointer t x)=true:=rfl
theorem U3(t:TypeId)(x:Operand):aV P (.load t x)=true:=rfl
theorem U4(t:TypeId)(x:Operand)(i:Nat):aV P (.fieldAddr t x i)=true:=rfl
theorem U5(t:TypeId)(x y:Operand):aV P (.indexAddr t x y)=true:=rfl
theorem U6(t:TypeId)(x:Operand)(i:Nat):aV P (.field t x i)=true:=rfl
theorem Q9(t:TypeId)(x y:Operand):aV P (.index t x y)=true:=rfl
theorem U7(t:TypeId)(x:Array (Nat×Operand)):aV P (.build t x)=true:=rfl
theorem U8(t:TypeId)(x:Operand)(lo hi m:Option Operand):aV P (.slice t x lo hi m)=true:=rfl
theorem Rb(x:Array Operand)(t:Array TypeId):aV P (.call ⟨.builtin .len,x,t⟩)=true:=rfl
end
attribute [go_sem] UV Yf Yj Yk Yl MP MQ MR MS Ik MU US UT UU Xm Ya H2 MH MI MJ Lp QS XK XL XM XO XN ew Xj Y8 Y9 Za MK Q9 Zd UL QX HZ FH FI Zm X7 UM UN QZ QY X8 X9 UO zo QO List.getElem?_toArray Option.bind_some decide_not Bool.not_not Qs UX Q6 MW FM MX UY Q7 UZ U0 Q8 U3 U4 U5 U7 U8 Rb dM X3 Zj QV QW HY kN i6 X5 X4 Zl Zk sR X6 Q0 Q1 UQ H3 ML H4 Yb H5 Yc H6 H7 H8 AV.topLen Xl H9 vC Ia MM Ib Zn Zo Yd Ic UR Q2 Q3 Ie If Ig Ih MN Ii Q4 Ij MO MV Option.isSome_some List.length_replicate List.replicate_succ List.replicate_zero List.length_append XQ XP QT UJ XR Zb XT XS XU Zg Zf Ze Xk UK QU XW HW XV XY XX U6 X1 X0 XZ Zh X2 Zi Yg Zp Yi Yh Xn Zq HM zn ah Uw Qq Ux Qr LQ HN Qu Qv LR LS LU LV Qw Qx Qy Qz QA QB QC QD QE Uz QF LW UA UB UC QG QH QI QJ XD UD QK UE QL UF LX QM XE UG QN XG XH XI XJ QP HO QQ HQ HT FG HU HV UI LY LZ L0 L6 L8 L9 QR Md BC Me MA MB MC MD ME MF MG UW Q5 XF UH G6 uN AV.slen List.length_map Int.toNat_natCast List.getElem?_map Option.map_some Int.natCast_nonneg ne_eq not_false_eq_true List.map_cons List.map_nil List.drop_zero List.drop_succ_cons List.length_cons List.length_nil List.take_succ_cons List.take_zero List.getElem?_cons_zero List.getElem?_cons_succ List.head?_cons List.set_cons_zero List.cons_append List.nil_append Nat.zero_add List.drop_nil Nat.add_zero true_and and_true
def pB{T:Type}(mk:T→St)(inv:T→Prop)(mu:T→Nat)(t:T)(Q:Exit→St→Prop):Exit→St→Prop
 | .normal,st=>∃t',inv t'∧mu t'<mu t∧Wk st (mk t')
 |e,st=>Q e st
theorem Re{T:Type}(mk:T→St)(inv:T→Prop)(mu:T→Nat)(t:T)(Q:Exit→St→Prop)(st:St):pB mk inv mu t Q .ret st=Q .ret st:=rfl
theorem Rf{T:Type}(mk:T→St)(inv:T→Prop)(mu:T→Nat)(t:T)(Q:Exit→St→Prop)(st:St)(i:Nat):pB mk inv mu t Q (.exit i) st=Q (.exit i) st:=rfl
attribute [go_sem] Re Rf
theorem ao{T:Type}{mk:T→St}{inv:T→Prop}{mu:T→Nat}{t:T}{Q:Exit→St→Prop}{st:St}(t':T)(hI:inv t')(hm:mu t'<mu t)(hw:aA st (mk t')):pB mk inv mu t Q .normal st:=⟨t',hI,hm,cB hw⟩
theorem Il{T:Type}{mk:T→St}{inv:T→Prop}{mu:T→Nat}{t:T}{Q:Exit→St→Prop}{st:St}(t':T)(hI:inv t')(hm:mu t'<mu t)(hw:Wk st (mk t')):pB mk inv mu t Q .normal st:=⟨t',hI,hm,hw⟩
theorem mD{P:Program}{n:Nat}{x:Code}{Q:Exit→St→Prop}{st:St}{T:Type}(mk:T→St)(inv:T→Prop)(mu:T→Nat)(t0:T)(h0:inv t0)(hw:Wk st (mk t0))
  (h:∀t,inv t→lY P n x (pB mk inv mu t Q) (mk t)):XC P n x Q st:=by
 refine⟨fun m st=>∃t,mu t=m∧inv t∧st=mk t,⟨mu t0,mk t0,hw,t0,rfl,h0,rfl⟩,?_⟩;rintro m _⟨t,rfl,hi,rfl⟩
 have:zh (fun m st=>∃t,mu t=m∧inv t∧st=mk t) (mu t) Q=pB mk inv mu t Q:=by
  funext e st
  cases e<;>try rfl
  simp only[zh,pB,eq_iff_iff];constructor
  ·rintro⟨m',st',h1,h2,t',rfl,h3,rfl⟩;exact⟨t',h3,h1,h2⟩
  ·rintro⟨t',h3,h1,h2⟩;exact⟨mu t',mk t',h1,h2,t',rfl,h3,rfl⟩
 rw[this];exact h t hi
theorem ar{P:Program}{n:Nat}{x:Code}{Q:Exit→St→Prop}{st:St}{T:Type}(mk:T→St)(inv:T→Prop)(mu:T→Nat)(t0:T)(h0:inv t0)(hw:aA st (mk t0))
  (h:∀t,inv t→lY P n x (pB mk inv mu t Q) (mk t)):XC P n x Q st:=mD mk inv mu t0 h0 (cB hw) h
theorem qE{P:Program}{g:FuncId}{args:List AV}{hp:Hp}{N:Nat}{K:AV→Hp→Prop}{r:AV}(h:o8 P g args r)(hK:K r hp):sn P g args hp N K:=.inr ⟨r,h,hK⟩
theorem Px{P:Program}{g:FuncId}{args:List AV}{hp:Hp}{N:Nat}{K:AV→Hp→Prop}{Q:AV→Prop}(h:ay P g args Q)(hd:∀v,v∈args→v.deep)(hK:∀r,Q r→K r hp):sn P g args hp N K:=.inl (vB h hd hK)
theorem ag{P:Program}{g:FuncId}{args:List AV}{hp:Hp}{N:Nat}{K:AV→Hp→Prop}{r:AV}(h:ay P g args (fun x=>x=r))(hd:∀v,v∈args→v.deep)(hK:K r hp):sn P g args hp N K:=.inl (vB h hd (fun _ e=>by rw[e];exact hK))
theorem bN(ids:List Nat){P:Program}{g:FuncId}{args args':List AV}{hp:Hp}{N:Nat}{K:AV→Hp→Prop}{r:AV}(h:ay P g args' (fun x=>x=r))(hl':args.length=args'.length)
  (hs:∀(i:Nat)(v v':AV),args[i]?=some v→args'[i]?=some v'→Snap hp (fun id=>id∈ids) v v') (hK:K r (aE ids hp)):sn P g args hp N K:=.inl (zk ids h hl' hs (fun _ e=>by rw[e];exact hK))
theorem iT{P:Program}{g:FuncId}{args args':List AV}{hp:Hp}{N:Nat}{K:AV→Hp→Prop}{r:AV}(h:ay P g args' (fun x=>x=r))(hl':args.length=args'.length)
  (hs:∀(i:Nat)(v v':AV),args[i]?=some v→args'[i]?=some v'→Snap hp (fun _=>True) v v') (hf:r.flat) (hK:K r hp):sn P g args hp N K:=.inl (zi h hl' hs (fun _ e=>by rw[e];exact hf) (fun _ e=>by rw[e];exact hK))
theorem aD{hp:Hp}{I:Nat→Prop}{args':List AV}:∀(i:Nat)(v v':AV),([]:List AV)[i]?=some v→args'[i]?=some v'→Snap hp I v v':=by intro i v v' h;simp at h
theorem aj{hp:Hp}{I:Nat→Prop}{a a':AV}{args args':List AV}(h:Snap hp I a a')(t:∀(i:Nat)(v v':AV),args[i]?=some v→args'[i]?=some v'→Snap hp I v v'):∀(i:Nat)(v v':AV),(a::args)[i]?=some v→(a'::args')[i]?=some v'→Snap hp I v v':=by
 intro i v v' h1 h2
 cases i with
 |zero=>simp at h1 h2;subst h1;subst h2;exact h
 |succ i=>simp at h1 h2;exact t i v v' h1 h2
theorem bA{hp:Hp}{I:Nat→Prop}{args':List AV}:∀(i:Nat)(v v':AV),([]:List AV)[i]?=some v→args'[i]?=some v'→jo hp I v v':=by intro i v v' h;simp at h
theorem ap{hp:Hp}{I:Nat→Prop}{a a':AV}{args args':List AV}(h:jo hp I a a')(t:∀(i:Nat)(v v':AV),args[i]?=some v→args'[i]?=some v'→jo hp I v v'):∀(i:Nat)(v v':AV),(a::args)[i]?=some v→(a'::args')[i]?=some v'→jo hp I v v':=by
 intro i v v' h1 h2
 cases i with
 |zero=>simp at h1 h2;subst h1;subst h2;exact h
 |succ i=>simp at h1 h2;exact t i v v' h1 h2
theorem be{hp:Hp}{I:Nat→Prop}{v:AV}(h:v.deep1):jo hp I v v:=.inl ⟨rfl,h⟩
theorem ak{hp:Hp}{I:Nat→Prop}{v:AV}{d:DV}(h:SnapD hp I v d):jo hp I v (.d d):=.inr ⟨d,rfl,h⟩
end Go.Am
namespace Go.Am
theorem a9{P:Prop}(h:P:=by simp[AV.deep,AV.deep1]):P:=h
end Go.Am
namespace Go.Am
def a_:List Nat → Tr
|[]=>.done
|n::r=>.step n [] false (a_ r)
abbrev bt(n:Nat)(t:Tr):=Tr.step n [] true t
abbrev bx(n:Nat)(t:Tr):=Tr.step n [] false t
end Go.Am
