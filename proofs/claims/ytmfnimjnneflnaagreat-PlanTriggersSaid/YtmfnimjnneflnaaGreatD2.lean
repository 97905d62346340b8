/-
 Part 3 of what the claim rests on.
-/
import Derived.Test.YtmfnimjnneflnaaGreatD1
set_option linter.unusedVariables false
set_option linter.unusedSimpArgs false
set_option maxRecDepth 100000
set_option maxHeartbeats 16000000
namespace Go.Am
inductive Tr where
 |done
 |alt (a b:Tr)
 |step (i:Nat) (zs:List Nat) (keep:Bool) (t:Tr)
def TB(i:Nat)(a:List Nat):List Nat:=a.filter fun j=>j != i
def zO(b a:List Nat):List Nat:=b.filter fun z=>!a.contains z
theorem qX{i k:Nat}{a:List Nat}:k∈TB i a↔k∈a∧k≠i:=by simp[TB]
theorem fU{b a:List Nat}{k:Nat}:k∈zO b a↔k∈b∧k ∉ a:=by simp[zO]
def nK:Tr→List Nat
 | .done=>[]
 | .alt a b=>nK a++nK b
 | .step i _ _ _=>[i]
def UB(a:List Nat)(hs:List Nat)(t:Tr):Bool:=hs.all fun j=>(nK t).contains j||hs.any fun p=>wt a j p
def Pn(ops:Array Oper)(a:List Nat)(t:Tr):Prop:=∀j,j∈a→j∈nK t∨∃p,p∈a∧Waits ops j p
def UC(ops:Array Oper)(z:Nat):Bool:=match ops[z]? with
 |some o=>IE o.op
 |none=>false
def TC(ops:Array Oper)(e za is:List Nat):List Nat→List Nat→Tr→Bool
 |zv,hs,.done=>hs.isEmpty&&za.all fun z=>zv.contains z
 |zv,hs,.alt a b=>TC ops e za is zv hs a&&TC ops e za is zv hs b
 | zv,hs,.step i zs keep t=>hs.contains i && (keep || za.all fun z=>UC ops z || wt e i z || is.any fun h=>!hs.contains h && wt e h z) && (match cg ops i with
   |some d=>zv.all fun z=>!(gB ops z).contains d||wt e i z
   |none=>true)&&(zs.all fun z=>wt e z i)&&(zs.all fun z=>za.contains z)&&gv ops (zv++zs)&&ee (zv++zs)&&UB e (TB i hs) t&&TC ops e za is (zv++zs) (TB i hs) t
def KA(ops:Array Oper)(e is:List Nat):List Nat→List Nat→Tr→Prop
 |zv,hs,.done=>hs=[]∧∀z,z∈e→z∈zv
 |zv,hs,.alt a b=>KA ops e is zv hs a∧KA ops e is zv hs b
 | zv,hs,.step i zs keep t=>(i ∈ hs∧(keep=false→∀ z,z ∈ e→UC ops z=false→Waits ops i z ∨ ∃ h,h ∈ is∧h ∉ hs∧Waits ops h z))∧(∀ d,cg ops i=some d→∀ z,z ∈ zv→d ∈ gB ops z→Waits ops i z)∧(∀ z,z ∈ zs→Waits ops z i)∧(∀ z,z ∈ zs→z ∈ e) ∧
   gv ops (zv++zs)=true∧ee (zv++zs)=true∧Pn ops (TB i hs) t∧KA ops e is (zv++zs) (TB i hs) t
theorem KB{ops:Array Oper}{a:List Nat}{t:Tr}(h:UB (Uz ops) a t=true):Pn ops a t:=by
 intro j e;have:=d7.1 h j e;rw[Bool.or_eq_true]at this;rcases this with h|h;exact .inl (by simpa using h);obtain⟨p,b,d⟩:=List.any_eq_true.1 h;exact .inr ⟨p,b,kE d⟩
theorem GR{ops:Array Oper}{o is:List Nat}:∀(t:Tr){g f:List Nat},TC ops (Uz ops) o is g f t=true→KA ops o is g f t
 | .done,g,f,h=>by
  simp only[TC,Bool.and_eq_true,List.isEmpty_iff]at h;exact⟨h.1,fun z e=>by simpa using d7.1 h.2 z e⟩
 | .alt a b,g,f,h=>by
  simp only[TC,Bool.and_eq_true]at h;exact⟨GR a h.1,GR b h.2⟩
 | .step i zs keep t,g,f,h=>by
  simp only[TC,Bool.and_eq_true]at h;obtain⟨⟨⟨⟨⟨⟨⟨⟨v,p⟩,m⟩,x⟩,D⟩,y⟩,E⟩,s⟩,B⟩:=h;refine⟨⟨by simpa using v,fun r z e k=>?_⟩,fun d C z e u=>?_,fun z e=>kE (d7.1 x z e),fun z e=>by simpa using d7.1 D z e,y,E,KB s,GR t B⟩
  rw[r,Bool.false_or]at p;have j:=d7.1 p z e;rw[k,Bool.false_or,Bool.or_eq_true]at j;rcases j with h|h;exact .inl (kE h);obtain⟨q,A,l⟩:=List.any_eq_true.1 h;rw[Bool.and_eq_true]at l;exact .inr ⟨q,A,by simpa using l.1,kE l.2⟩;simp only[C]at m;have:=d7.1 m z e;simp only[u,List.contains_eq_mem,decide_true,Bool.not_true,Bool.false_or]at this;exact kE this
section
variable (P:Program) (ops:Array Oper) (base:Nat) (hp0:Hp) (K:Fr→Hp→Prop)
def xO:Tr→Fr→Hp→Prop
 | .done,fr,hp=>K fr hp
 | .alt a b,fr,hp=>xO a fr hp∧xO b fr hp
 | .step i zs keep t,fr,hp=>match ops[i]? with
  | some o=>(match o.guard with
   |none=>bM P fr hp (base+32*i) o.op fun v hp'=>(keep=true→cZ hp0 hp')∧zW P ops base hp0 (fun fr=>xO t fr hp') zs (bf fr o.dst v)
   | some (g,want)=>(match (ops[g]?).bind (·.dst) with
    |some d=>(match fv d fr with
     | .d (.bool b)=>(b=want→bM P fr hp (base+32*i) o.op fun v hp'=>(keep=true→cZ hp0 hp')∧zW P ops base hp0 (fun fr=>xO t fr hp') zs (bf fr o.dst v)) ∧
       (b=!want→zW P ops base hp0 (fun fr=>xO t fr hp) zs (bf fr o.dst (.tup [])))
     | .tup []=>zW P ops base hp0 (fun fr=>xO t fr hp) zs (bf fr o.dst (.tup []))
     |_=>False)
    |none=>False))
  |none=>False
end
section
variable {P:Program} {c:Ctx} {ops:Array Oper} {base:Nat} {hp0:Hp} {K:Fr→Hp→Prop} {fr fr':Fr}
theorem BQ{e is d:List Nat}{hp:Hp}:∀(t:Tr),KA ops e is d [] t→xO P ops base hp0 K t fr hp→K fr hp
 | .done,_,h=>h
 | .alt a b,hT,h=>BQ a hT.1 h.1
 | .step i d keep t,hT,h=>by have:=hT.1.1;simp at this
theorem vh{g is:List Nat}:∀(t:Tr){d f:List Nat}{z:Nat},KA ops g is d f t→z∈g→z ∉ d→∃p,p∈f∧Waits ops z p
 | .done,d,f,z,hT,h1,h2=>absurd (hT.2 z h1) h2
 | .alt a b,d,f,z,hT,h1,h2=>vh a hT.1 h1 h2
 | .step i zj keep t,d,f,z,hT,h1,h2=>by
  obtain⟨m,r,o,s,v,u,q,j⟩:=hT;rcases Classical.em (z∈zj)with h|h;exact⟨i,m.1,o z h⟩;obtain⟨p,l,k⟩:=vh t j h1 (fun e=>(cD.1 e).elim h2 h);exact⟨p,(qX.1 l).1,k⟩
theorem sO{f is d e:List Nat}{hp:Hp}{i:Nat}:∀(t:Tr),i∈nK t→KA ops f is d e t→xO P ops base hp0 K t fr hp→∃zj keep t',KA ops f is d e (.step i zj keep t')∧xO P ops base hp0 K (.step i zj keep t') fr hp
 | .done,h,_,_=>by simp[nK]at h
 | .alt a b,h,hT,hW=>by
  rcases cD.1 h with h|h;exact sO a h hT.1 hW.1;exact sO b h hT.2 hW.2
 | .step j zj keep t',h,hT,hW=>by
  simp only[nK,List.mem_singleton]at h;subst h;exact⟨zj,keep,t',hT,hW⟩
/-- Every order. -/
theorem UD {za is:List Nat} {Q:Exit→Act→World→Prop} (hB:RegOk c.n ops za is)
  (hQ:∀fr hp a w U,K fr hp→(∀k,U k→k<base+32*ops.size)→nu c fr hp U a w→Q .normal a w) :
  ∀(fuel:Nat)(listed:Array Bool)(zs hs:List Nat)(t:Tr)(fr:Fr)(hp:Hp)(a:Act)(w:World),Pl listed≤fuel→KA ops za is zs hs t→Pn ops hs t→(∀i,i∈hs→i∈is)→(∀z,z∈zs→z∈za) →
   RInv P c ops base hp0 (za.filter fun z=>!UC ops z) zs (hs++zO za zs) listed fr hp a w→xO P ops base hp0 K t fr hp→wpAny P .any ops Q fuel listed a w:=by
 have notboth:∀{listed:Array Bool}{i:Nat},listed.getD i true=false→listed.getD i false=true→False:=by
  intro listed i h1 h2;rw[ko h2]at h1;cases h1
 -- where nothing is left
 have tQ:∀ (listed:Array Bool) (zs hs:List Nat) (t:Tr) (fr:Fr) (hp:Hp) (a:Act) (w:World),KA ops za is zs hs t→(∀ i,i ∈ hs→i ∈ is)→RInv P c ops base hp0 (za.filter fun z=>!UC ops z) zs (hs ++ zO za zs) listed fr hp a w→xO P ops base hp0 K t fr hp→Region.ready .any ops listed=[]→Q .normal a w:=by
  intro listed zs hs t fr hp a w hT hsub hI hW hr0;have all:∀k j,j≤k→j<ops.size→listed.getD j false=true:=by
   intro k
   induction k with
   | zero =>
    intro j hj hjs;cases hl:listed.getD j false with
    |true=>rfl
    | false =>
     have hmem:j∈Region.ready .any ops listed:=mem_ready.2 ⟨jw (by rw[hI.size];exact hjs) hl,ops[j],dg hjs,fun e he hb=>by
      have:=hB.low j _ (dg hjs) e he hb
      omega⟩
     rw[hr0]at hmem;simp at hmem
   | succ k ih =>
    intro j hj hjs;cases hl:listed.getD j false with
    |true=>rfl
    | false =>
     have hmem:j∈Region.ready .any ops listed:=mem_ready.2 ⟨jw (by rw[hI.size];exact hjs) hl,ops[j],dg hjs,fun e he hb=>by
      have:=hB.low j _ (dg hjs) e he hb
      exact ih e.on aq aq⟩
     rw[hr0]at hmem;simp at hmem
  have hnil:hs=[]:=by
   cases hs with
   |nil=>rfl
   |cons j r =>
    have h1:=hI.un j (cD.2 (.inl (dz ..)));exact(notboth h1 (all j j (cL _) (hB.inb j (hsub j (dz ..))))).elim
  subst hnil;have hW:=BQ t hT hW;obtain⟨U,σ,hr,hh,hU,hf⟩:=hI.sim;refine hQ fr hp a w U hW (fun k hk=>?_) ⟨hI.def_,hI.tmps,σ,hr,fun t=>hf t fun z hz hun=>?_,hh⟩;rcases hU k hk with h|⟨j,hj1,hj2,hj⟩;omega;have:j<listed.size:=by
   rcases Nat.lt_or_ge j listed.size with h|h;exact h;simp[ct,Array.getElem?_eq_none h]at hj
  have:=hI.size;omega;intro he;have:z<ops.size:=by
   rcases Nat.lt_or_ge z ops.size with h|h;exact h;simp[cg,Array.getElem?_eq_none h]at he
  exact notboth hun (all z z (cL _) this)
 intro fuel
 induction fuel with
 | zero =>
  intro listed zs hs t fr hp a w hf hT hcov hsub hza hI hW;have hr0:Region.ready .any ops listed=[]:=by
   rw[List.eq_nil_iff_forall_not_mem];intro i hi;have:=uu (mem_ready.1 hi).1;omega
  exact⟨hr0,tQ listed zs hs t fr hp a w hT hsub hI hW hr0⟩
 | succ fuel ih =>
  intro listed zs hs tr fr hp a w hfuel hT hcov hsub hza hI hW;refine⟨tQ listed zs hs tr fr hp a w hT hsub hI hW,fun i hi=>?_⟩;obtain⟨hun,o,ho,haft⟩:=mem_ready.1 hi;have his:i<ops.size:=(Array.getElem?_eq_some_iff.1 ho).1;have hil:i<listed.size:=by rw[hI.size];exact his
  have hdi:cg ops i=o.dst:=by simp[cg,ho]
  have hli:gB ops i=o.looksAt ops:=by simp[gB,ho]
  have hwl:∀z,Waits ops i z→listed.getD z false=true:=fun z hz=>mH hI.closed hz fun o' ho'=>by
   rw[ho]at ho';injection ho' with ho';subst ho';exact haft
  have hzza:∀z,z∈zs→z∈za:=hza;have hdst:gq c.n o.dst:=by
   unfold gq;cases hd:o.dst with
   |none=>trivial
   |some d=>exact hB.lt i d (by rw[hdi,hd])
  have hun':∀z,(listed.setIfInBounds i true).getD z true=false→listed.getD z true=false∧z≠i:=by
   intro z hz;rw[aK true hil]at hz;split at hz;cases hz;rename_i hne;exact⟨hz,fun h=>hne h.symm⟩
  have hclosed':∀j o',ops[j]?=some o'→(listed.setIfInBounds i true).getD j false=true→∀e,e∈o'.after→Region.binds .any e=true→(listed.setIfInBounds i true).getD e.on false=true:=by
   intro j o' hj hl e he hb;rw[aK false hil]at hl⊢;split;rfl;split at hl;rename_i hij;subst hij;rw[ho]at hj;injection hj with hj;subst hj;exact haft e he hb;exact hI.closed j o' hj hl e he hb
  have hfuel':Pl (listed.setIfInBounds i true)≤fuel:=by
   have:=uu hun;omega
  obtain⟨U,σ,hr,hh,hU,hf⟩:=hI.sim;have hNU:Free U (base+32*i):=by
   intro k k1 k2 h;rcases hU _ h with h|⟨j,hj,hj2,hl⟩;omega;have:j=i:=aq;subst this;exact notboth hun hl
  have hU':∀k,ec U (base+32*i) k→k<base∨∃j,base+32*j≤k∧k<base+32*j+32∧(listed.setIfInBounds i true).getD j false=true:=by
   rintro k(h|h);rcases hU k h with h|⟨j,h1,h1',h2⟩;exact .inl h;exact .inr ⟨j,h1,h1',by rw[aK false hil];split<;>simp[h2]⟩;exact .inr ⟨i,h.1,h.2,by rw[aK false hil];simp⟩
  obtain⟨frm,hm1,hm2⟩:=EP fr (zs.filterMap fun z=>if listed.getD z true=true then none else cg ops z);have hml:∀t,t∈(zs.filterMap fun z=>if listed.getD z true=true then none else cg ops z)↔∃z,z∈zs∧listed.getD z true=false∧cg ops z=some t:=by
   intro t;rw[List.mem_filterMap];constructor;rintro⟨z,hz,h⟩;split at h;cases h;rename_i hne;exact⟨z,hz,by simpa using hne,h⟩;rintro⟨z,hz,h1,h2⟩;exact⟨z,hz,by simp[h1,h2]⟩
  have hfm:∀t,AIs w (bD c w σ hp) σ hp U (fv t frm) (a.tmps.getD t undef):=by
   intro t;by_cases hm:t∈(zs.filterMap fun z=>if listed.getD z true=true then none else cg ops z);rw[hm1 t hm];exact .any _;rw[hm2 t hm];exact hf t fun z hz hzu he=>hm ((hml t).2 ⟨z,hz,hzu,he⟩)
  have hlook:∀t,t∈o.looksAt ops→fv t frm=fv t fr:=by
   intro t ht';refine hm2 t fun hm=>?_;obtain⟨z,hz,hzu,he⟩:=(hml t).1 hm;exact notboth hzu (hwl z (hB.zdst z (hzza z hz) t he i (by rw[hli];exact ht')))
  have hlook':∀t,t∈o.looksAt ops→fv t fr=fv t frm:=fun t ht'=>(hlook t ht').symm;have hgu:∀{g want d},o.guard=some (g,want)→(ops[g]?).bind (·.dst)=some d→fv d fr=.tup []→¬(yielded ops a.tmps g=some want):=by
   intro g want d hg hd hb;have hx:=hfm d;rw[hlook d (jM hg hd),hb]at hx;unfold yielded;rw[hd];cases ht:a.tmps[d]? with
   |none=>simp[ht]
   |some u =>
    have e:a.tmps.getD d undef=u:=(by simp[ct,ht]);rw[e]at hx;cases hx with
    |tup _ xs _ _=>simp[ht]
  have hgv:∀{g want d b},o.guard=some (g,want)→(ops[g]?).bind (·.dst)=some d→fv d fr=.d (.bool b)→yielded ops a.tmps g=some b:=by
   intro g want d b hg hd hb;have hx:=hfm d;rw[hlook d (jM hg hd),hb]at hx;have hv:=gi hx;unfold yielded;rw[hd];have hv':a.tmps[d]?.getD undef=.bool b:=(by simpa using hv);cases ht:a.tmps[d]? with
   |none=>rw[ht]at hv';cases hv'
   |some u=>rw[ht]at hv';simp at hv';subst hv';simp[ht]
  unfold wpOp;simp only[ho];by_cases hz:i∈zs
  ·
   have hopw:∀(K':AV→Hp→Prop)(v:AV),lV P frm hp0 o.op v→K' v hp→bM P frm hp (base+32*i) o.op K':=by
    intro K' v hs hk;rcases hI.sa with h|h;exact hs hp _ K' h hk;have hn:IE o.op=true:=by
     cases hn:IE o.op with
     |true=>rfl
     |false =>
      have:=h i (List.mem_filter.2 ⟨hzza i hz,by simp[UC,ho,hn]⟩);rw[hun]at this;cases this
    exact Pi hn hs hp _ K' hk
   have hsa':tM hp0 hp∨∀z,z∈(za.filter fun z=>!UC ops z)→(listed.setIfInBounds i true).getD z true=true:=hI.sa.imp id fun h z hz'=>by
    rw[aK true hil];split;rfl;exact h z hz'
   have hirest:i ∉ hs++zO za zs:=fun h=>by
    rcases cD.1 h with h|h;exact(hB.part i his).2 ⟨hzza i hz,hsub i h⟩;exact(fU.1 h).2 hz
   obtain⟨v,o',ho',hdv,hzk⟩:=hI.facts i hz hun;rw[ho]at ho';injection ho' with ho';subst ho';have next:∀a' w',nu c (bf frm o.dst v) hp (ec U (base+32*i)) a' w'→wpAny P .any ops Q fuel (listed.setIfInBounds i true) a' w':=by
    rintro a' w'⟨q1,q2,σ',q3,q4,q5⟩;refine ih _ zs hs tr fr hp a' w' hfuel' hT hcov hsub hza ⟨by simp[hI.size],hclosed',fun j hj=>?_,fun j hj hjz hjr=>?_,q1,q2,⟨_,σ',q3,q5,hU',fun t htu=>?_⟩,fun z hz' hzu=>hI.facts z hz' (hun' z hzu).1,hsa'⟩ hW;rw[aK true hil,if_neg (fun e=>hirest (by rw[e];exact hj))];exact hI.un j hj;rw[aK false hil];split;rfl;exact hI.done j hj hjz hjr;have:=q4 t;by_cases hd:o.dst=some t;rw[hd,jN]at this;rw[hdv t hd];exact this;rw[lF hd,hm2 t fun hm=>?_]at this;exact this;obtain⟨z,hz',hzu,he⟩:=(hml t).1 hm;refine htu z hz' ?_ he;rw[aK true hil,if_neg];exact hzu;intro e;subst e;exact hd (by rw[←hdi];exact he)
   have exec:lV P fr hp0 o.op v→o.wp P a w (wpAny P .any ops Q fuel (listed.setIfInBounds i true)) Q:=by
    intro hs;have hop:=hopw (fun v' hp'=>v'=v∧hp'=hp) v (lm hlook' hs) ⟨rfl,rfl⟩;have hok:=qT (o:=o) hr (fun x=>x8 hfm x) hNU hop;refine qK hI.def_ hI.tmps hdst hfm hh hok fun v' hp' a' w' hK hS=>?_;obtain⟨rfl,rfl⟩:=hK;exact next a' w' hS
   unfold Ky at hzk;split at hzk;rename_i hg;rw[if_pos (by simp[Region.wanted,hg])];exact .inl (exec hzk)
   ·rename_i g want hg;obtain⟨d,hd,⟨b,hb,h1,h2⟩|⟨hb,hv⟩⟩:=hzk
    ·have hy:=hgv hg hd hb;by_cases hbw:b=want;rw[if_pos (by simp[Region.wanted,hg,hy,hbw])];exact .inl (exec (h1 hbw))
     ·rw[if_neg (by simp[Region.wanted,hg,hy,hbw])];have hv:=h2 (by cases b<;>cases want<;>simp_all)
      subst hv;exact next _ _ (ln hI.def_ hI.tmps hr hh hfm)
    ·have hy:=hgu hg hd hb;rw[if_neg (by simp[Region.wanted,hg,hy])];subst hv;exact next _ _ (ln hI.def_ hI.tmps hr hh hfm)
  ·
   have hir:i∈hs++zO za zs:=by
    rcases Classical.em (i∈hs++zO za zs)with h|h;exact h;exact(notboth hun (hI.done i his hz h)).elim
   have far:∀p,p∈hs→Waits ops i p→False:=fun p hp1 hp2=>notboth (hI.un p (cD.2 (.inl hp1))) (hwl p hp2);have hih:i∈hs:=by
    rcases cD.1 hir with h|h;exact h;obtain⟨p,hp1,hp2⟩:=vh tr hT (fU.1 h).1 (fU.1 h).2;exact(far p hp1 hp2).elim
   have hfi:i∈nK tr:=by
    rcases hcov i hih with h|⟨p,hp1,hp2⟩;exact h;exact(far p hp1 hp2).elim
   obtain⟨zj,keep,t',hT',hW'⟩:=sO tr hfi hT hW;clear hT hW hcov hfi;obtain⟨p1,p2,p3,p4,p5,p6,p7,p8⟩:=hT';have hW:=hW';clear hW'
   ·have hiza:i ∉ za:=fun h=>(hB.part i his).2 ⟨h,hsub i hih⟩;have hzj:∀z,z∈zj→z∈za:=p4;have hza':∀z,z∈zs++zj→z∈za:=fun z hz'=>(cD.1 hz').elim (hza z) (p4 z);have hordj:=kF p5;have hnzj:=jf p6;have hmr:∀{k},k∈TB i hs++zO za (zs++zj)→k∈hs++zO za zs∧k≠i:=by
     intro k hk;rcases cD.1 hk with h|h;exact⟨cD.2 (.inl (qX.1 h).1),(qX.1 h).2⟩;have h':=fU.1 h;exact⟨cD.2 (.inr (fU.2 ⟨h'.1,fun e=>h'.2 (cD.2 (.inl e))⟩)),fun e=>hiza (by rw[←e];exact h'.1)⟩
    have hunj:∀z,z∈zj→listed.getD z true=false:=fun z hz'=>hI.un z (cD.2 (.inr (fU.2 ⟨hzj z hz',fun e=>hnzj.2.2 z e hz'⟩)));simp only[xO,ho]at hW;have next:∀v hp' a' w',(keep=true→tM hp0 hp'∨∀z,z∈(za.filter fun z=>!UC ops z)→listed.getD z true=true)→zW P ops base hp0 (fun fr=>xO P ops base hp0 K t' fr hp') zj (bf fr o.dst v)→nu c (bf frm o.dst v) hp' (ec U (base+32*i)) a' w'→wpAny P .any ops Q fuel (listed.setIfInBounds i true) a' w':=by
     rintro v hp' a' w' hsa hW'⟨q1,q2,σ',q3,q4,q5⟩;obtain⟨frZ,g1,g2,g3⟩:=nJ hB.uniq zj _ hordj.2.1 hnzj.2.1 hW';refine ih _ (zs++zj) (TB i hs) t' frZ hp' a' w' hfuel' p8 p7 (fun k hk=>hsub k (qX.1 hk).1) hza' ⟨by simp[hI.size],hclosed',fun k hk=>?_,fun k hk hkz hkr=>?_,q1,q2,⟨_,σ',q3,q5,hU',fun t htu=>?_⟩,fun z hz' hzu=>?_,?_⟩ g1;rw[aK true hil,if_neg (fun e=>(hmr hk).2 e.symm)];exact hI.un k (hmr hk).1;rw[aK false hil];split;rfl;rename_i hne;exact hI.done k hk (fun h=>hkz (cD.2 (.inl h))) (fun h=>by
      rcases cD.1 h with h|h;exact hkr (cD.2 (.inl (qX.2 ⟨h,fun e=>hne e.symm⟩)))
      exact hkr (cD.2 (.inr (fU.2 ⟨(fU.1 h).1,hkz⟩))))
     have hnj:∀z,z∈zj→cg ops z≠some t:=fun z hz'=>htu z (cD.2 (.inr hz')) (by
      rw[aK true hil,if_neg (fun e=>hiza (by rw[e];exact hzj z hz'))]
      exact hunj z hz')
     rw[g2 t hnj];have:=q4 t;by_cases hd:o.dst=some t;rw[hd,jN]at this⊢;exact this;rw[lF hd]at this⊢;rw[hm2 t fun hm=>?_]at this;exact this;obtain⟨z,hz',hzu,he⟩:=(hml t).1 hm;refine htu z (cD.2 (.inl hz')) ?_ he;rw[aK true hil,if_neg (fun e=>hz (by rw[e];exact hz'))];exact hzu;rcases cD.1 hz' with hz'|hz';obtain⟨hzu1,hzi⟩:=hun' z hzu;obtain⟨vz,oz,hoz,hdz,hzk⟩:=hI.facts z hz' hzu1;have hdz':cg ops z=oz.dst:=(by simp[cg,hoz]);have hlz:gB ops z=oz.looksAt ops:=(by simp[gB,hoz]);refine⟨vz,oz,hoz,fun d hd=>?_,sN (fun t ht'=>?_) hzk⟩;rw[g2 d fun y hy he=>?_,lF];exact hdz d hd;intro he;exact hzi (hB.uniq z i d (by rw[hdz'];exact hd) (by rw[hdi];exact he));have:=hB.uniq z y d (by rw[hdz'];exact hd) he;subst this;exact hnzj.2.2 z hz' hy;rw[g2 t fun y hy=>hordj.2.2 z hz' y hy t (by rw[hlz];exact ht'),lF];intro he;exact notboth hzu1 (hwl z (p2 t (by rw[hdi];exact he) z hz' (by rw[hlz];exact ht')));exact g3 z hz';cases hk:keep with
     | false =>
      right;intro z hz';have hz'':=List.mem_filter.1 hz';have:listed.getD z false=true:=by
       rcases p1.2 hk z hz''.1 (by simpa using hz''.2)with h|⟨q,h1,h2,h3⟩;exact hwl z h;have hqz:q ∉ za:=fun e=>(hB.part q (hB.inb q h1)).2 ⟨e,h1⟩;have hl:=hI.done q (hB.inb q h1) (fun e=>hqz (hza q e)) (fun e=>(cD.1 e).elim h2 fun e=>hqz (fU.1 e).1);exact mH hI.closed h3 fun o' ho'=>hI.closed q o' ho' hl
      rw[aK true hil];split;rfl;exact ko this
     | true =>
      rcases hsa hk with h|h;exact .inl h;right;intro z hz';rw[aK true hil];split;rfl;exact h z hz'
    have exec:bM P fr hp (base+32*i) o.op (fun v hp'=>(keep=true→cZ hp0 hp')∧zW P ops base hp0 (fun fr=>xO P ops base hp0 K t' fr hp') zj (bf fr o.dst v))→o.wp P a w (wpAny P .any ops Q fuel (listed.setIfInBounds i true)) Q:=by
     intro hop;rw[sL (ve hlook')]at hop;have hok:=qT (o:=o) hr (fun x=>x8 hfm x) hNU hop;refine qK hI.def_ hI.tmps hdst hfm hh hok fun v' hp' a' w' hK hS=>?_;exact next v' hp' a' w' (fun h=>.inl (BP (hK.1 h))) hK.2 hS
    split at hW;rename_i hg;rw[if_pos (by simp[Region.wanted,hg])];exact .inl (exec hW)
    ·rename_i g want hg;split at hW
     ·rename_i d hd;split at hW
      ·rename_i b hb;have hy:=hgv hg hd hb;by_cases hbw:b=want;rw[if_pos (by simp[Region.wanted,hg,hy,hbw])];exact .inl (exec (hW.1 hbw))
       ·rw[if_neg (by simp[Region.wanted,hg,hy,hbw])];have hv:=hW.2 (by cases b<;>cases want<;>simp_all)
        exact next (.tup []) hp _ _ (fun hm=>hI.sa) hv (ln hI.def_ hI.tmps hr hh hfm)
      ·rename_i hb;have hy:=hgu hg hd hb;rw[if_neg (by simp[Region.wanted,hg,hy])];exact next (.tup []) hp _ _ (fun hm=>hI.sa) hW (ln hI.def_ hI.tmps hr hh hfm)
      ·exact hW.elim
     ·exact hW.elim
def TD(n:Nat)(ops:Array Oper)(f:List Nat)(b is a:List Nat)(t:Tr):Bool :=
 (List.range ops.size).all (fun j=>(a.contains j||is.contains j)&&!(a.contains j&&is.contains j)) &&
 is.all (fun j=>decide (j<ops.size))&&a.all (fun j=>decide (j<ops.size))&&ee b&&gv ops b&&(b.all fun z=>a.contains z) &&
 (List.range ops.size).all (fun i=>match cg ops i with
  |some d=>decide (d<n)&&(List.range ops.size).all fun j=>j==i||cg ops j != some d
  |none=>true) &&
 a.all (fun z=>match cg ops z with
  |some d=>(List.range ops.size).all fun j=>!(gB ops j).contains d||wt f j z
  |none=>true) &&
 TC ops f a is b is t&&UB f is t &&
 (List.range ops.size).all (fun j=>match ops[j]? with
  |some o=>o.after.all fun e=>!Region.binds .any e||decide (e.on<j)
  |none=>true)
def vi(n:Nat)(ops:Array Oper)(a is b:List Nat)(t:Tr):Bool:=TD n ops (Uz ops) a is b t
theorem KC{n:Nat}{g is k:List Nat}{t:Tr}(h:vi n ops g is k t=true):RegOk n ops k is∧KA ops k is g is t∧Pn ops is t∧gv ops g=true∧ee g=true∧(∀z,z∈g→z∈k)∧∀z,z∈k→z<ops.size:=by
 unfold vi at h;simp only[TD,Bool.and_eq_true]at h;obtain⟨⟨⟨⟨⟨⟨⟨⟨⟨⟨x,B⟩,m⟩,v⟩,r⟩,q⟩,u⟩,F⟩,A⟩,G⟩,p⟩:=h;have inr:∀{i d},cg ops i=some d→i∈List.range ops.size:=by
  intro i d b;rw[List.mem_range];rcases Nat.lt_or_ge i ops.size with h|h;exact h;simp[cg,Array.getElem?_eq_none h]at b
 refine⟨⟨fun j a=>?_,fun j a=>?_,fun i d b=>?_,fun i j d b a=>?_,fun z l d D j a=>?_,fun j o s e y C=>?_⟩,GR t A,KB G,r,v,fun z l=>by simpa using d7.1 q z l,fun z l=>by simpa using d7.1 m z l⟩
 have:=d7.1 x j (List.mem_range.2 a);simp at this;exact⟨this.1,fun h=>by rcases this.2 with E|E<;>simp_all⟩
 simpa using d7.1 B j a;have:=d7.1 u i (inr b);simp only[b,Bool.and_eq_true,decide_eq_true_eq]at this;exact this.1;have:=d7.1 u i (inr b);simp only[b,Bool.and_eq_true]at this;have:=d7.1 this.2 j (inr a);simp only[a,bne_self_eq_false,Bool.or_false,beq_iff_eq]at this;exact this.symm;have:=d7.1 F z l;simp only[D]at this;have f:j∈List.range ops.size:=by
  rw[List.mem_range];rcases Nat.lt_or_ge j ops.size with h|h;exact h;simp[gB,Array.getElem?_eq_none h]at a
 have:=d7.1 this j f;simp only[a,List.contains_eq_mem,decide_true,Bool.not_true,Bool.false_or]at this;exact kE this;have f:j∈List.range ops.size:=by
  rw[List.mem_range];exact(Array.getElem?_eq_some_iff.1 s).1
 have:=d7.1 p j f;simp only[s]at this;have:=Array.all_eq_true_iff_forall_mem.1 this e y;simpa[C]using this
theorem Po{p is F:List Nat}{t:Tr}{id:Nat}{U:Nat→Prop}{a:Act}{w:World}{Q:Exit→Act→World→Prop}(l:P.follows .mixedOrders=true)(H:vi c.n ops p is F t=true)
  (B:∀fr hp a w U,K fr hp→(∀k,U k→k<base+32*ops.size)→nu c fr hp U a w→Q .normal a w)
  (R:∀k,U k→k<base) (J:nu c fr hp0 U a w) (h:zW P ops base hp0 (fun fr=>xO P ops base hp0 K t fr hp0) p fr):(Code.region id ops true).wp P Q a w:=by
 obtain⟨b,I,f,e,u,s,g⟩:=KC H;obtain⟨r,G,L,E⟩:=nJ b.uniq p fr e u h;obtain⟨O,M,σ,N,C,D⟩:=J;have q:=jK N;have Bz:∀j,(Array.replicate ops.size false).getD j false=false:=by
  intro j;simp only[ct,Array.getElem?_replicate];split<;>rfl
 have d:∀j,j<ops.size→(Array.replicate ops.size false).getD j true=false:=by
  intro j m;simp[ct,Array.getElem?_replicate,m]
 refine wp_region_any l (UD b B ops.size _ p is t r hp0 a w.drew ?_ I f (fun _ h=>h) s ⟨aw,fun j o V x=>(by rw[Bz]at x;cases x),fun j m=>?_,fun j m i v=>?_,O,M,
  ⟨U,σ,q,D.trans cJ,fun k A=>.inl (R k A),fun t T=>?_⟩,fun z i _=>E z i,.inl fun _ _ h=>h⟩ G)
 unfold Pl;refine Nat.le_trans (List.length_filter_le _ _) ?_;simp;refine d j ?_;rcases cD.1 m with h|h;exact b.inb j h;exact g j (fU.1 h).1;rcases(b.part j m).1 with h|h;exact absurd (cD.2 (.inr (fU.2 ⟨h,i⟩))) v;exact absurd (cD.2 (.inl h)) v;rw[L t fun z i y=>?_];exact(C t).step cJ;refine T z i (d z ?_) y;rcases Nat.lt_or_ge z ops.size with h|h;exact h;simp[cg,Array.getElem?_eq_none h]at y
end
end Go.Am
namespace Go.Am
def AV.deep1:AV→Prop
 | .any=>True
 | .d _=>True
 | .rop _=>True
 | .fn _ cs=>cs=[]
 | .mth _ cs=>cs=[]
 | .nil=>True
 |_=>False
def AV.deep:AV→Prop
 | .agg cs=>∀c,c∈cs→c.deep1
 | .tup cs=>∀c,c∈cs→(c.deep1∨∃xs,c=.agg xs∧∀x,x∈xs→x.deep1)
 | .fn _ cs=>∀c,c∈cs→c.deep1
 | .mth _ cs=>∀c,c∈cs→c.deep1
 |v=>v.deep1
def DV.flat:DV→Prop
 | .int _ _=>True
 | .bool _=>True
 | .str _=>True
 | .nilp=>True
 | .ro _ _=>False
 | .rof _ _=>False
 | .box _=>False
def AV.flat1:AV→Prop
 | .d v=>v.flat
 | .any=>True
 | .nil=>True
 |_=>False
def AV.flat:AV→Prop
 | .agg cs=>∀c,c∈cs→c.flat1
 | .tup cs=>∀c,c∈cs→(c.flat1∨∃xs,c=.agg xs∧∀x,x∈xs→x.flat1)
 |v=>v.flat1
section
variable {w:World} {S S':Nat→Prop} {σ σ':Nat→Option Nat} {hp hp':Hp} {U U':Nat→Prop}
theorem kG{v:AV}{x:Value}(a:v.deep1)(g:∀b,S b→S' b)(h:AIs w S σ hp U v x):AIs w S' σ' hp' U' v x:=by
 cases h with
 |any=>exact .any _
 |d h=>exact .d (h.mono g fun _ _=>rfl)
 |rop e ad vs h1 h2 h3=>exact .rop e ad vs (g _ h1) h2 fun j y i=>(h3 j y i).mono g fun _ _=>rfl
 |fn f e xs hl h=>obtain rfl:e=[]:=a;exact .fn f [] xs hl aw
 |mth f e xs hl h=>obtain rfl:e=[]:=a;exact .mth f [] xs hl aw
 |agg=>exact a.elim
 |tup=>exact a.elim
 |own=>exact a.elim
 |sub=>exact a.elim
 |ptr=>exact a.elim
 |nil=>exact .nil
 |mp=>exact a.elim
theorem mI{v:AV}{x:Value}(g:v.deep)(d:∀b,S b→S' b)(h:AIs w S σ hp U v x):AIs w S' σ' hp' U' v x:=by
 cases v with
 |agg cs =>
  cases h with
  |agg _ xs hl e h=>exact .agg cs xs hl e fun i c x hc a=>kG (g c (cr hc)) d (h i c x hc a)
 | tup cs =>
  cases h with
  | tup _ xs hl h =>
   refine .tup cs xs hl fun i c x hc a=>?_;have j:=h i c x hc a;rcases g c (cr hc)with e|⟨k,rfl,e⟩;exact kG e d j;cases j with
   |agg _ zs hl h2 h=>exact .agg k zs hl h2 fun i c x hc a=>kG (e c (cr hc)) d (h i c x hc a)
 |fn f cs =>
  cases h with
  |fn _ _ xs hl h=>exact .fn f cs xs hl fun i c x hc a=>kG (g c (cr hc)) d (h i c x hc a)
 |mth f cs =>
  cases h with
  |mth _ _ xs hl h=>exact .mth f cs xs hl fun i c x hc a=>kG (g c (cr hc)) d (h i c x hc a)
 |_=>exact kG g d h
theorem KD{v:DV}{x:Value}(a:v.flat)(h:DIs w S v x):DIs w S' v x:=by
 cases h with
 |int=>exact .int _ _
 |bool=>exact .bool _
 |str=>exact .str _
 |nilp=>exact .nilp
 |ro=>exact a.elim
 |rof=>exact a.elim
 |box=>exact a.elim
theorem qY{v:AV}{x:Value}(a:v.flat1)(h:AIs w S σ hp U v x):AIs w S' σ' hp' U' v x:=by
 cases h with
 |d h=>exact .d (KD a h)
 |any=>exact .any _
 |nil=>exact .nil
 |_=>exact a.elim
theorem Pq{v:AV}{x:Value}(d:v.flat)(h:AIs w S σ hp U v x):AIs w S' σ' hp' U' v x:=by
 cases v with
 |agg cs =>
  cases h with
  |agg _ xs hl a h=>exact .agg cs xs hl a fun i c x hc b=>qY (d c (cr hc)) (h i c x hc b)
 | tup cs =>
  cases h with
  | tup _ xs hl h =>
   refine .tup cs xs hl fun i c x hc b=>?_;have e:=h i c x hc b;rcases d c (cr hc)with a|⟨f,rfl,a⟩;exact qY a e;cases e with
   |agg _ zs hl h2 h=>exact .agg f zs hl h2 fun i c x hc b=>qY (a c (cr hc)) (h i c x hc b)
 |_=>exact qY d h
end
inductive SnapD(hp:Hp)(I:Nat→Prop):AV→DV→Prop
 |d (v:DV):SnapD hp I (.d v) v
 |nil (e:Nat):SnapD hp I .nil (.ro e [])
 | own {id i0 len tot:Nat} {b:Blk} {es:List (List DV)} (hI:I id) (hb:lk id hp=some b) (ht:b.es.length=tot) (hl:es.length=len) (he:∀ r,r ∈ es→r.length=b.e)
   (hes:∀(i j:Nat)(row:List AV)(c:AV)(r:List DV)(y:DV),b.es[i0+i]?=some row→row[j]?=some c→es[i]?=some r→r[j]?=some y→SnapD hp I c y):SnapD hp I (.own id i0 len tot) (.ro b.e es)
 | sub {id i off e len cap tot:Nat} {b:Blk} {row:List AV} {es:List (List DV)} (hI:I id) (hb:lk id hp=some b) (ht:b.es.length=tot) (hr:b.es[i]?=some row) (he:0<e) (hl:es.length=len) (hel:∀ r,r ∈ es→r.length=e)
   (hes:∀(k j:Nat)(c:AV)(r:List DV)(y:DV),row[off+k*e+j]?=some c→es[k]?=some r→r[j]?=some y→SnapD hp I c y):SnapD hp I (.sub id i off e len cap tot) (.ro e es)
theorem vj{c:Ctx}{hp:Hp}{U:Nat→Prop}{σ:Nat→Option Nat}{w:World}{I S':Nat→Prop}(hS:∀b,bD c w σ hp b→S' b)(G:∀id blk g,I id→lk id hp=some blk→σ id=some g→S' g)(hr:Rel c hp U σ w){v:AV}{d:DV}(hs:SnapD hp I v d) :
  ∀{x:Value},AIs w (bD c w σ hp) σ hp U v x→DIs w S' d x:=by
 induction hs with
 |d v =>
  intro x h;cases h with|d h=>exact h.mono hS fun _ _=>rfl
 |nil e =>
  intro x h;cases h with|nil=>exact .ro _ [] none 0 (fun _ _=>default) aw aw aw aw aw
 | own hI hb ht hl he hes ih =>
  rename_i id s Y V b t;intro x h;cases h with
  | own _ _ _ _ A o hN hlc hA0 h =>
   subst hl;obtain⟨h1,X⟩:=h _ hb;obtain⟨h3,ac,h4⟩:=X ht;rcases Nat.eq_zero_or_pos t.length with J|J;have:t=[]:=List.eq_nil_of_length_eq_zero J;subst this;exact .ro _ [] A o (fun _ _=>default) aw aw aw aw aw;obtain⟨g,M,N,_⟩:=h4 aq;obtain⟨l,O,k2,k3,k4,k5⟩:=hr.at hb M;have a:∀i r j y,t[i]?=some r→r[j]?=some y→∃u,l[(s+i)*b.e+j]?=some u∧DIs w S' y u:=by
    intro i r j y E q;have aa:=(ci.1 E).1;have m:b.es[s+i]?=some b.es[s+i]:=cm aq;have W:=k3 _ (cr m);have ae:j<b.e:=by
     have:=(ci.1 q).1;rw[he r (cr E)]at this;exact this
    have hc:(b.es[s+i])[j]?=some (b.es[s+i])[j]:=cm aq;have z:(s+i)*b.e+j<l.size:=by
     have:(s+i+1)*b.e≤b.es.length*b.e:=d9 _ aq;rw[Nat.add_mul,Nat.one_mul]at this;omega
    exact⟨l[(s+i)*b.e+j],dg z,ih i j _ _ r y m hc E q (k5 (s+i) j _ _ _ m hc (dg z))⟩
   refine .ro b.e t A o (fun i j=>l.getD ((s+i)*b.e+j) undef) hlc he (fun r L=>⟨_,N,G id _ g hI hb M⟩) (fun ad D i j r y E q=>?_) (fun i j r y E q=>?_);rw[N]at D;injection D with D;subst D;obtain⟨u,C,_⟩:=a i r j y E q;rw[gu,cell_of_row w _ _ l _ _ O];rw[show s*b.e+(i*b.e+j)=(s+i)*b.e+j by rw[Nat.add_mul];omega,C];simp[ct,C];obtain⟨u,C,Z⟩:=a i r j y E q;simp only[ct,C,Option.getD_some];exact Z
 | sub hI hb ht m hpe hl hel hes ih =>
  rename_i id i f e Y o V b F t;intro x h;cases h with
  | sub _ _ _ _ _ _ _ A hN hlc hA0 h =>
   subst hl;obtain⟨h1,X⟩:=h _ hb;obtain⟨h3,h4,N⟩:=X ht;by_cases hz:t.length=0;obtain rfl:=List.eq_nil_of_length_eq_zero hz;exact .ro e [] A o (fun _ _=>undef) hlc aw aw aw aw;obtain⟨g,M,T⟩:=N aq;obtain⟨l,O,k2,k3,k4,k5⟩:=hr.at hb M;have H:∀hc:0<o,A=some ⟨g,i*b.e+f,none⟩:=fun hc=>T;have W:F.length=b.e:=k3 _ (cr m);have R:∀k,k<t.length→f+k*e+e≤b.e:=by
    intro k hk;have h6:(k+1)*e≤t.length*e:=d9 _ aq;have h7:t.length*e≤o*e:=d9 _ hlc;rw[Nat.add_mul,Nat.one_mul]at h6;omega
   have a:∀k r j y,t[k]?=some r→r[j]?=some y→∃u,l[i*b.e+f+(k*e+j)]?=some u∧DIs w S' y u:=by
    intro k r j y p q;have ab:=R k (ci.1 p).1;have af:j<e:=by
     have:=(ci.1 q).1;rw[hel r (cr p)]at this;exact this
    have hc:F[f+k*e+j]?=some F[f+k*e+j]:=cm aq;have z:i*b.e+f+(k*e+j)<l.size:=by
     have:(i+1)*b.e≤b.es.length*b.e:=d9 _ aq;rw[Nat.add_mul,Nat.one_mul]at this;omega
    refine⟨l[i*b.e+f+(k*e+j)],dg z,ih k j _ r y hc p q (k5 i (f+k*e+j) _ _ _ m hc ?_)⟩;rw[show i*b.e+(f+k*e+j)=i*b.e+f+(k*e+j)by omega];exact dg z
   refine .ro e t A o (fun k j=>l.getD (i*b.e+f+(k*e+j)) undef) hlc hel (fun r L=>?_) (fun ad D k j r y p q=>?_) (fun k j r y p q=>?_);have B:0<o:=by
    have:=List.length_pos_of_mem L;omega
   exact⟨_,H B,G id _ g hI hb M⟩;have B:0<o:=by
    have:=(ci.1 p).1;omega
   rw[H B]at D;injection D with D;subst D;obtain⟨u,C,_⟩:=a k r j y p q;rw[gu,cell_of_row w _ _ l _ _ O,C];simp[ct,C];obtain⟨u,C,Z⟩:=a k r j y p q;simp only[ct,C,Option.getD_some];exact Z
inductive CellsR(hp:Hp)(I:Nat→Prop):List AV→List DV→Prop
 |nil:CellsR hp I [] []
 |cons {c:AV} {y:DV} {cs:List AV} {ys:List DV} (h:SnapD hp I c y) (t:CellsR hp I cs ys):CellsR hp I (c::cs) (y::ys)
inductive RowsR(hp:Hp)(I:Nat→Prop):List (List AV)→List (List DV)→Prop
 |nil:RowsR hp I [] []
 |cons {c:List AV} {y:List DV} {cs:List (List AV)} {ys:List (List DV)} (h:CellsR hp I c y) (t:RowsR hp I cs ys):RowsR hp I (c::cs) (y::ys)
theorem CellsR.at{hp:Hp}{I:Nat→Prop}{cs:List AV}{b:List DV}(h:CellsR hp I cs b):∀(j:Nat)(c:AV)(y:DV),cs[j]?=some c→b[j]?=some y→SnapD hp I c y:=by
 induction h with
 |nil=>intro j c y h;simp at h
 |cons h t ih =>
  intro j c y hc a;cases j with
  |zero=>simp at hc a;subst hc;subst a;exact h
  |succ j=>simp at hc a;exact ih j c y hc a
theorem CellsR.len{hp:Hp}{I:Nat→Prop}{cs:List AV}{a:List DV}(h:CellsR hp I cs a):cs.length=a.length:=by
 induction h with
 |nil=>rfl
 |cons _ _ ih=>simp[ih]
theorem RowsR.at{hp:Hp}{I:Nat→Prop}{cs:List (List AV)}{b:List (List DV)}(h:RowsR hp I cs b):∀(j:Nat)(c:List AV)(y:List DV),cs[j]?=some c→b[j]?=some y→CellsR hp I c y:=by
 induction h with
 |nil=>intro j c y h;simp at h
 |cons h t ih =>
  intro j c y hc a;cases j with
  |zero=>simp at hc a;subst hc;subst a;exact h
  |succ j=>simp at hc a;exact ih j c y hc a
theorem RowsR.len{hp:Hp}{I:Nat→Prop}{cs:List (List AV)}{a:List (List DV)}(h:RowsR hp I cs a):cs.length=a.length:=by
 induction h with
 |nil=>rfl
 |cons _ _ ih=>simp[ih]
theorem jg{hp:Hp}{I:Nat→Prop}:∀a:List DV,CellsR hp I (a.map .d) a
 |[]=>.nil
 |y::r=>.cons (.d y) (jg r)
theorem kH{hp:Hp}{I:Nat→Prop}:∀a:List (List DV),RowsR hp I (a.map fun r=>r.map .d) a
 |[]=>.nil
 |y::r=>.cons (jg y) (kH r)
theorem RowsR.append{hp:Hp}{I:Nat→Prop}{a c:List (List AV)}{b d:List (List DV)}(h:RowsR hp I a b)(e:RowsR hp I c d):RowsR hp I (a++c) (b++d):=by
 induction h with
 |nil=>exact e
 |cons h t ih=>exact .cons h ih
theorem j5{hp:Hp}{I:Nat→Prop}{id i0 len a:Nat}{ty:TypeId}{e:Nat}{rows:List (List AV)}{es:List (List DV)}(q:lk id hp=some ⟨ty,e,rows⟩)(g:I id)(t:rows.length=a)(s:RowsR hp I ((rows.drop i0).take len) es)(k:es.length=len)(o:∀r,r∈es→r.length=e) :
  SnapD hp I (.own id i0 len a) (.ro e es):=by
 refine .own (b:=⟨ty,e,rows⟩) g q t k o fun i j d c r y l p f m=>?_;have h:i<len:=by
  have:=(ci.1 f).1;omega
 refine(s.at i d r ?_ f).at j c y p m;rw[List.getElem?_take,if_pos h,List.getElem?_drop];exact l
theorem eu{hp:Hp}{I:Nat→Prop}{id n:Nat}{ty:TypeId}{e:Nat}{es:List (List DV)}(b:lk id hp=some ⟨ty,e,es.map fun r=>r.map .d⟩)(g:I id)(a:es.length=n)(f:∀r,r∈es→r.length=e):SnapD hp I (.own id 0 n n) (.ro e es):=by
 refine j5 b g (by simp[a]) ?_ a f;have:((es.map fun r=>r.map AV.d).drop 0).take n=es.map fun r=>r.map .d:=by
  rw[List.drop_zero,cx (by simp[a])]
 rw[this];exact kH es
def fx(hp:Hp)(I:Nat→Prop)(c a:AV):Prop:=(a=c∧c.deep1)∨∃d,a=.d d∧SnapD hp I c d
def qZ(hp:Hp)(I:Nat→Prop)(cs cs':List AV):Prop:=cs'.length=cs.length∧∀(i:Nat)(c a:AV),cs[i]?=some c→cs'[i]?=some a→fx hp I c a
inductive Snap(hp:Hp)(I:Nat→Prop):AV→AV→Prop
 |one {v v':AV} (h:fx hp I v v'):Snap hp I v v'
 |deep {v:AV} (h:v.deep):Snap hp I v v
 |agg {cs cs':List AV} (h:qZ hp I cs cs'):Snap hp I (.agg cs) (.agg cs')
 |tup {cs cs':List AV} (hl:cs'.length=cs.length) (h:∀(i:Nat)(c c':AV),cs[i]?=some c→cs'[i]?=some c'→fx hp I c c'∨∃xs xs',c=.agg xs∧c'=.agg xs'∧qZ hp I xs xs'):Snap hp I (.tup cs) (.tup cs')
 |ptr {id i off tot:Nat} {b:Blk} {row:List AV} {cs:List DV} (hI:I id) (hb:lk id hp=some b) (ht:b.es.length=tot) (hr:b.es[i]?=some row) (hc:CellsR hp I (row.drop off) cs):Snap hp I (.ptr id i off tot) (.rop cs)
 |fnp {f:FuncId} {id i off tot:Nat} {b:Blk} {row:List AV} {cs:List DV} (hI:I id) (hb:lk id hp=some b) (ht:b.es.length=tot) (hr:b.es[i]?=some row) (hc:CellsR hp I (row.drop off) cs):Snap hp I (.fn f [.ptr id i off tot]) (.fn f [.rop cs])
theorem mJ{c:Ctx}{hp:Hp}{U U':Nat→Prop}{σ σ':Nat→Option Nat}{hp':Hp}{w:World}{I:Nat→Prop}{v L:AV}{x:Value}{S':Nat→Prop}(Y:∀b,bD c w σ hp b→S' b)(B:∀id blk g,I id→lk id hp=some blk→σ id=some g→S' g)(Z:Rel c hp U σ w)(H:Snap hp I v L)(h:AIs w (bD c w σ hp) σ hp U v x) :
  AIs w S' σ' hp' U' L x:=by
 have one:∀{v L:AV}{x:Value},fx hp I v L→AIs w (bD c w σ hp) σ hp U v x→AIs w S' σ' hp' U' L x:=by
  intro v L x H h;rcases H with ⟨rfl,z⟩|⟨d,rfl,z⟩;exact kG z Y h;exact .d (vj Y B Z z h)
 have s:∀{p m:List AV}{r:Array Value},qZ hp I p m→p.length=r.size→(∀(i:Nat)(x:Value),r[i]?=some x→x.oneCell'=true)→(∀(i:Nat)(c':AV)(x:Value),p[i]?=some c'→r[i]?=some x→AIs w (bD c w σ hp) σ hp U c' x)→AIs w S' σ' hp' U' (.agg m) (.agg r):=by
  intro p m r H D t h;refine .agg m r (by rw[H.1,D]) t fun i u x k O=>?_;have T:i<p.length:=by
   have:=(ci.1 k).1;rw[H.1]at this;exact this
  exact one (H.2 i _ u (cm T) k) (h i _ x (cm T) O)
 have q:∀{id i a F:Nat}{b:Blk}{o:List AV}{p:List DV}{x:Value},I id→lk id hp=some b→b.es.length=F→b.es[i]?=some o→CellsR hp I (o.drop a) p→AIs w (bD c w σ hp) σ hp U (.ptr id i a F) x→AIs w S' σ' hp' U' (.rop p) x:=by
  intro id i a F b o p x R M X f l h;obtain⟨g,J,hg,rfl,C,aa,ac,ab,E⟩:=oC Z h M f X;have W:∀(j:Nat)(y:DV),p[j]?=some y→∃u,J[i*b.e+a+j]?=some u∧DIs w S' y u:=by
   intro j y N;have hj:j<(o.drop a).length:=by
    rw[l.len];exact(ci.1 N).1
   have V:(o.drop a)[j]?=some (o.drop a)[j]:=cm hj;have A:=V;rw[List.getElem?_drop]at A;obtain⟨u,k,z⟩:=E (a+j) _ A;exact⟨u,by rw[Nat.add_assoc];exact k,vj Y B Z (l.at j _ y V N) z⟩
  refine .rop _ _ (fun j=>J.getD (i*b.e+a+j) undef) (B id b g R M hg) (fun j y N=>?_) (fun j y N=>?_);obtain⟨u,k,_⟩:=W j y N;rw[gu,cell_of_row w _ _ J _ _ C,k];simp[ct,k];obtain⟨u,k,z⟩:=W j y N;simp only[ct,k,Option.getD_some];exact z
 cases H with
 |one t=>exact one t h
 |deep z=>exact mI z Y h
 |agg hc =>
  cases h with
  |agg _ r D t h=>exact s hc D t h
 | tup hl' hc =>
  rename_i p m;cases h with
  | tup _ r D h =>
   refine .tup m r (by rw[hl',D]) fun i u x k O=>?_;have T:i<p.length:=by
    have:=(ci.1 k).1;rw[hl']at this;exact this
   have G:=h i _ x (cm T) O;rcases hc i _ u (cm T) k with t|⟨ys,ad,e1,e2,t⟩;exact one t G;rw[e1]at G;subst e2;cases G with
   |agg _ xs' hl2 h2 h3=>exact s t hl2 h2 h3
 |ptr R M X f l=>exact q R M X f l h
 | fnp R M X f l =>
  cases h with
  | fn _ _ r D h =>
   refine .fn _ _ r (by simpa using D) fun i u x k O=>?_;cases i with
   |succ i=>simp at k
   |zero =>
    simp only[List.getElem?_cons_zero,Option.some.injEq]at k;subst k;exact q R M X f l (h 0 _ x rfl O)
def aN(a:List Nat):Hp→Hp
 |[]=>[]
 |(m,b)::t=>if a.contains m then aN a t else(m,b)::aN a t
theorem jO(a:List Nat)(i:Nat):∀hp:Hp,lk i (aN a hp)=if a.contains i=true then none else lk i hp
 |[]=>by simp[aN,lk]
 | (m,b) :: t=>by
  have f:=jO a i t;simp only[aN];by_cases d:a.contains m=true;rw[if_pos d,f];split;rfl;rename_i g;simp only[lk];rw[if_neg (fun e=>g (by rw[←e];exact d))];rw[if_neg d];simp only[lk,f];by_cases e:m=i;subst e;rw[if_pos rfl,if_neg d];simp;rw[if_neg e];simp[e]
theorem rf{c:Ctx}{hp:Hp}{U:Nat→Prop}{σ:Nat→Option Nat}{w:World}(d:List Nat)(e:Rel c hp U σ w) :
  Rel c (aN d hp) U σ w∧Step w (bD c w σ hp) σ hp U w (bD c w σ (aN d hp)) σ (aN d hp) U:=by
 have a:∀i b,lk i (aN d hp)=some b→lk i hp=some b:=by
  intro i b h;rw[jO]at h;split at h;cases h;exact h
 have f:Step w (bD c w σ hp) σ hp U w (bD c w σ (aN d hp)) σ (aN d hp) U :=
  ⟨fun b h=>⟨⟨h.1.1,fun id l g p m=>h.1.2 id l g (a _ _ p) m⟩,h.2⟩,fun _ _=>rfl,fun _ h=>h,fun id r _ h=>⟨r,a _ _ h,rfl,rfl,cL _,fun _ g m=>⟨m,fun _ h=>h⟩⟩⟩
 refine⟨⟨fun i j t s g q u=>e.inj i j t s g (a _ _ q) (a _ _ u),fun i b h=>e.lt i b (a _ _ h),fun i b h=>?_,fun i b g h=>e.mine i b g (a _ _ h),e.os,e.tape,e.output,e.size,e.old⟩,f⟩;rcases e.blk i b (a _ _ h)with k|⟨g,o,k2⟩;exact .inl k;exact .inr ⟨g,o,k2.step f rfl⟩
theorem UE(a fr:Fr)(n:Nat):fv n (a++fr)=match lk n a with
  |some v=>v
  |none=>fv n fr:=by
 induction a with
 |nil=>rfl
 |cons p r ih =>
  obtain⟨m,v⟩:=p;show fv n ((m,v)::(r++fr))=_;rw[ju,ih];simp only[lk];split<;>rfl
theorem TE{α:Type}{n:Nat}{v:α}:∀{l:List (Nat×α)},lk n l=some v→(n,v)∈l
 |[],h=>by simp[lk]at h
 |(m,u)::t,h=>by
  simp only[lk]at h;split at h;rename_i a;injection h with h;subst a;subst h;exact dz ..;exact cS _ (TE h)
theorem KE{c:Ctx}{fr:Fr}{hp:Hp}{U:Nat→Prop}{a:Act}{w:World}(f:List Nat)(o:Fr)(hz:∀p,p∈o→Snap hp (fun id=>id∈f) (fv p.1 fr) p.2)
  (A:nu c fr hp U a w):nu c (o++fr) (aN f hp) U a w:=by
 obtain⟨D,B,σ,j,u,y⟩:=A;obtain⟨z,r⟩:=rf f j;refine⟨D,B,σ,z,fun n=>?_,y.trans r⟩;rw[UE];cases x:lk n o with
 |none=>exact(u n).step r
 | some v =>
  refine mJ (fun b C=>r.sub b C) (fun id i g q m t=>⟨⟨dS (j.at m t),fun s k F d l e=>?_⟩,?_⟩) j (hz _ (TE x)) (u n);subst e;rw[jO]at d;split at d;cases d;rename_i E;have:=j.inj id s i k g m d t l;subst this;exact E (by simpa using q);rcases j.mine id i g m t with h|h;exact .inl (c.hM g h);exact .inr h
end Go.Am
namespace Go.Am
structure St where
 fr:Fr
 hp:Hp
 nx:Nat
def lG(c:Ctx)(st:St)(a:Act)(w:World):Prop:=nu c st.fr st.hp (fun i=>i<st.nx) a w
def Ye(f:St→Prop)(fr:Fr)(nx:Nat)(a:Option Tmp)(v:AV)(hp:Hp):Prop:=f ⟨bf fr a v,hp,nx+32⟩
def rh (P:Program) (n:Nat) (ops:Array Oper):List Oper→(St→Prop)→St→Prop
 |[],K,st=>K st
 | o :: rest,K,st =>
  match o.guard with
  |none=>gq n o.dst∧bM P st.fr st.hp st.nx o.op (Ye (rh P n ops rest K) st.fr st.nx o.dst)
  | some (j,want) =>
   match(ops[j]?).bind (·.dst)with
   |some d =>
    (match fv d st.fr with
    | .d (.bool b)=>gq n o.dst∧(b=want→bM P st.fr st.hp st.nx o.op (Ye (rh P n ops rest K) st.fr st.nx o.dst)) ∧
      (b=!want→Ye (rh P n ops rest K) st.fr st.nx o.dst (.tup []) st.hp)
    | .tup []=>gq n o.dst∧Ye (rh P n ops rest K) st.fr st.nx o.dst (.tup []) st.hp
    |_=>False)
   |none=>False
def KF(Q:Exit→St→Prop)(st:St):Prop:=Q .normal st
def fN(f:St→Prop)(Q:Exit→St→Prop):Exit→St→Prop
 | .normal,st=>f st
 |e,st=>Q e st
def sP(id:Nat)(Q:Exit→St→Prop):Exit→St→Prop
 | .exit i,st=>if i=id then Q .normal st else Q (.exit i) st
 |e,st=>Q e st
def AV.low1(N:Nat):AV→Prop
 | .own id _ _ _=>id<N
 | .sub id _ _ _ _ _ _=>id<N
 | .ptr id _ _ _=>id<N
 | .mp id=>id<N
 | .agg _=>False
 | .tup _=>False
 | .fn _ cs=>cs=[]
 | .mth _ cs=>cs=[]
 |_=>True
def AV.low(N:Nat):AV→Prop
 | .agg cs=>∀c,c∈cs→c.low1 N
 | .fn _ cs=>∀c,c∈cs→c.low1 N
 | .mth _ cs=>∀c,c∈cs→c.low1 N
 |v=>v.low1 N
def ah(st st':St)(v u:AV):Prop :=
 u=v ∨ (v=.nil∧match u with
  | .own id 0 0 0=>(match lk id st'.hp with
   |some b=>b.es=[]
   |none=>False)
  |_=>False)
def av(st st':St):Prop :=
 (∀p,p∈st'.fr→ah st st' (fv p.1 st.fr) p.2∧p.2.low st'.nx) ∧
 (∀p,p∈st'.hp→(lk p.1 st.hp=some p.2∨(st.nx≤p.1∧p.2.es=[]))∧p.1<st'.nx∧∀r,r∈p.2.es→∀v,v∈r→v.low1 st'.nx)∧(st.nx≤st'.nx∨64≤st'.nx)
def Wk(st st':St):Prop:=∀(c:Ctx)(a:Act)(w:World),lG c st a w→lG c st' a w
theorem Wk.trans{b d e:St}(h:Wk b d)(k:Wk d e):Wk b e:=fun c a w f=>k c a w (h c a w f)
def BR(I:Nat→St→Prop)(m:Nat)(Q:Exit→St→Prop):Exit→St→Prop
 | .normal,st=>∃m' st',m'<m∧Wk st st'∧I m' st'
 |e,st=>Q e st
def TF(W:(Exit→St→Prop)→St→Prop)(Q:Exit→St→Prop)(st:St):Prop :=
 ∃I:Nat→St→Prop,(∃m st',Wk st st'∧I m st')∧∀m st',I m st'→W (BR I m Q) st'
def nC(P:Program)(n:Nat):Code→(Exit→St→Prop)→St→Prop
 | .skip,Q,st=>Q .normal st
 | .region _ ops false,Q,st=>rh P n ops ops.toList (KF Q) st
 | .region _ ops true,Q,st=>(∃ zs ss m,EO n ops zs ss m=true∧P.follows .mixedOrders=true∧zW P ops st.nx st.hp (fun fr=>Et P ops st.nx st.hp (fun fr hp=>Q .normal ⟨fr,hp,st.nx+32*ops.size⟩) ss m fr st.hp) zs st.fr) ∨
   ∃zs is za t st',vi n ops zs is za t=true∧P.follows .mixedOrders=true∧zW P ops st.nx st.hp (fun fr=>xO P ops st.nx st.hp (fun fr hp=>Wk ⟨fr,hp,st.nx+32*ops.size⟩ st') t fr st.hp) zs st.fr∧Q .normal st'
 | .seq x y,Q,st=>nC P n x (fN (nC P n y Q) Q) st
 | .cond c x y,Q,st =>
  match ev st.fr c with
  | .d (.bool b)=>(b=true→nC P n x Q st)∧(b=false→nC P n y Q st)
  |_=>False
 | .block id x,Q,st=>nC P n x (sP id Q) st
 | .loop x,Q,st=>TF (nC P n x) Q st
 | .exit id,Q,st=>Q (.exit id) st
 | .ret,Q,st=>Q .ret st
 |_,_,_=>False
section
variable {P:Program} {c:Ctx}
theorem KG(nx i:Nat):ec (fun i=>i<nx) nx i↔i<nx+32:=by unfold ec;omega
theorem vu(nx:Nat):ec (fun i=>i<nx) nx=fun i=>i<nx+32:=funext fun i=>propext (KG nx i)
theorem ER{st:St}{a:Act}{w:World}(h:lG c st a w):∃ σ,Rel c st.hp (fun i=>i<st.nx) σ w∧(∀n,AIs w (bD c w σ st.hp) σ st.hp (fun i=>i<st.nx) (fv n st.fr) (a.tmps.getD n undef))∧∀x,AIs w (bD c w σ st.hp) σ st.hp (fun i=>i<st.nx) (ev st.fr x) (a.eval x):=by
 obtain⟨_,_,σ,d,b,_⟩:=h;exact⟨σ,d,b,fun x=>x8 b x⟩
theorem GU{st:St}{a:Act}{w:World}{o:Oper}{f:St→Prop}{next:Act→World→Prop}{Q:Exit→Act→World→Prop}
  (p:lG c st a w) (r:gq c.n o.dst) (h:bM P st.fr st.hp st.nx o.op (Ye f st.fr st.nx o.dst))
  (s:∀st' a' w',f st'→lG c st' a' w'→next a' w'):o.wp P a w next Q:=by
 obtain⟨e,q,σ,l,g,m⟩:=p;have b:=qT (o:=o) (N:=st.nx) l (fun x=>x8 g x) (fun i e _ k=>by have t:i<st.nx:=k;omega) h;refine qK e q r g m b fun v hp' a' w' j d=>s _ a' w' j ?_;rw[vu]at d;exact d
theorem GV{st:St}{a:Act}{w:World}{e:Option Tmp}(o:lG c st a w):lG c ⟨bf st.fr e (.tup []),st.hp,st.nx+32⟩ (a.put e undef) w:=by
 obtain⟨g,l,σ,p,k,j⟩:=o;have f:Rel c st.hp (fun i=>i<st.nx+32) σ w:=by rw[←vu];exact p.more
 have b:Step w (bD c w σ st.hp) σ st.hp (fun i=>i<st.nx) w (bD c w σ st.hp) σ st.hp (fun i=>i<st.nx+32):=by rw[←vu];exact Step.more
 cases e with
 |none=>exact⟨g,l,σ,f,fun n=>(k n).step b,j.trans b⟩
 | some d =>
  refine⟨g,by simp[Act.put,l],σ,f,fun n=>?_,j.trans b⟩;simp only[bf,Act.put,ju];by_cases h:d=n;subst h;have m:(a.tmps.setIfInBounds d undef).getD d undef=.tuple #[]:=by
   simp only[ct,Array.getElem?_setIfInBounds,if_true];split<;>rfl
  rw[m];simp only[if_true];exact .tup [] #[] rfl aw;simp only[if_neg h];have:(a.tmps.setIfInBounds d undef).getD n undef=a.tmps.getD n undef:=by
   simp only[ct,Array.getElem?_setIfInBounds,if_neg h]
  rw[this];exact(k n).step b
theorem GW{ops:Array Oper}{Q:Exit→Act→World→Prop}{K:St→Prop}(E:∀st a w,K st→lG c st a w→Q .normal a w) :
  ∀(l:List Oper)(st:St)(a:Act)(w:World),rh P c.n ops l K st→lG c st a w→wpList P ops Q l a w
 |[],st,a,w,h,hs=>E st a w h hs
 | o :: rest,st,a,w,h,hs=>by
  have r:=GW (ops:=ops) (Q:=Q) E rest;simp only[rh]at h;unfold wpList;split at h;rename_i q;obtain⟨t,h⟩:=h;rw[if_pos (by simp[Region.wanted,q])];exact .inl (GU hs t h fun k A x D m=>r k A x D m);rename_i j f q;split at h;rename_i d t;split at h;rename_i b B;obtain⟨i,G,z⟩:=h;obtain⟨σ,F,y,_⟩:=ER hs;have s:=gi (B▸y d);have v:yielded ops a.tmps j=some b:=by
   unfold yielded;rw[t];have g:a.tmps[d]?.getD undef=.bool b:=(by simpa using s);cases p:a.tmps[d]? with
   |none=>rw[p]at g;cases g
   |some u=>rw[p]at g;simp at g;subst g;simp[p]
  by_cases C:b=f;rw[if_pos (by simp[Region.wanted,q,v,C])];exact .inl (GU hs i (G C) fun k A x D m=>r k A x D m);rw[if_neg (by simp[Region.wanted,q,v,C])];exact r _ _ _ (z (by cases b<;>cases f<;>simp_all)) (GV hs)
  rename_i B;obtain⟨i,z⟩:=h;obtain⟨σ,F,y,_⟩:=ER hs;have s:=B▸y d;have v:¬(yielded ops a.tmps j=some f):=by
   unfold yielded;rw[t];cases p:a.tmps[d]? with
   |none=>simp[p]
   |some u =>
    have e:a.tmps.getD d undef=u:=(by simp[ct,p]);rw[e]at s;cases s with
    |tup _ xs _ _=>simp[p]
  rw[if_neg (by simp[Region.wanted,q,v])];exact r _ _ _ z (GV hs);exact h.elim;exact h.elim
theorem lW{w:World}{S S':Nat→Prop}{σ σ':Nat→Option Nat}{hp hp':Hp}{U:Nat→Prop}{N:Nat}(p:∀b,S b→S' b)(o:∀id b,U id→lk id hp'=some b→lk id hp=some b)(q:∀id,U id→σ' id=σ id){v:AV}{x:Value}(k:v.low1 N)(h:AIs w S σ hp U v x) :
  AIs w S' σ' hp' (fun i=>i<N) v x:=by
 cases h with
 |any=>exact .any _
 |d h=>exact .d (h.mono p fun _ _=>rfl)
 |agg=>exact k.elim
 |tup=>exact k.elim
 |own id i0 len tot A cap hN hle h0 h=>exact .own id i0 len tot A cap k hle h0 fun b l=>by rw[q id hN];exact h b (o id b hN l)
 |sub id i off e len cap tot A hN hle h0 h=>exact .sub id i off e len cap tot A k hle h0 fun b l=>by rw[q id hN];exact h b (o id b hN l)
 |ptr id i off tot a hN h=>exact .ptr id i off tot a k fun b l=>by rw[q id hN];exact h b (o id b hN l)
 |rop m ad vs h1 h2 h3=>exact .rop m ad vs (p _ h1) h2 fun j y r=>(h3 j y r).mono p fun _ _=>rfl
 |fn f m xs hle h=>obtain rfl:m=[]:=k;exact .fn f [] xs hle aw
 |mth f m xs hle h=>obtain rfl:m=[]:=k;exact .mth f [] xs hle aw
 |nil=>exact .nil
 |mp id g hN h=>exact .mp id g k fun b l=>h b (o id b hN l)
theorem KH{w:World}{S S':Nat→Prop}{σ σ':Nat→Option Nat}{hp hp':Hp}{U:Nat→Prop}{N:Nat}(d:∀b,S b→S' b)(j:∀id b,U id→lk id hp'=some b→lk id hp=some b)(e:∀id,U id→σ' id=σ id){v:AV}{x:Value}(g:v.low N)(h:AIs w S σ hp U v x) :
  AIs w S' σ' hp' (fun i=>i<N) v x:=by
 cases v with
 |agg cs =>
  cases h with
  |agg _ xs hle h1 h=>exact .agg cs xs hle h1 fun i c x hc a=>lW d j e (g c (cr hc)) (h i c x hc a)
 |fn f cs =>
  cases h with
  |fn _ _ xs hle h=>exact .fn f cs xs hle fun i c x hc a=>lW d j e (g c (cr hc)) (h i c x hc a)
 |mth f cs =>
  cases h with
  |mth _ _ xs hle h=>exact .mth f cs xs hle fun i c x hc a=>lW d j e (g c (cr hc)) (h i c x hc a)
 |_=>exact lW d j e g h
theorem bN{α:Type}{n:Nat}{v:α}:∀{l:List (Nat×α)},lk n l=some v→(n,v)∈l
 |[],h=>by cases h
 |(m,u)::t,h=>by
  simp only[lk]at h;split at h;rename_i e;injection h with h;subst e;subst h;exact dz ..;exact cS _ (bN h)
theorem KI{st st':St}{a:Act}{w:World}(hw:av st st')(hs:lG c st a w):lG c st' a w:=by
 obtain⟨M,l,L⟩:=hw;obtain⟨h1,h2,σ,k,V,d⟩:=hs;have p:∀id b,id<st.nx→lk id st'.hp=some b→lk id st.hp=some b:=fun id b aa h=>by
  rcases(l _ (bN h)).1 with h|⟨h,_⟩;exact h;simp only at h;omega
 let σ':Nat→Option Nat:=fun id=>if st.nx≤id then none else σ id
 have r:∀id,id<st.nx→σ' id=σ id:=fun id h=>if_neg aq;have m:∀id g,σ' id=some g→id<st.nx∧σ id=some g:=by
  intro id g h;by_cases J:st.nx≤id;simp only[σ',if_pos J]at h;cases h;exact⟨aq,by rw[r id aq]at h;exact h⟩
 have E:∀b,bD c w σ st.hp b→bD c w σ' st'.hp b:=fun b B=>⟨⟨B.1.1,fun id t g h z=>by
  obtain⟨e,o⟩:=m id g z
  exact B.1.2 id t g (p id t e h) o⟩,B.2⟩
 refine⟨h1,h2,σ',⟨fun i j X W g A hj H I=>?_,fun i b h=>(l _ (bN h)).2.1,fun i b h=>?_,fun i b g h z=>?_,k.os,k.tape,k.output,k.size,k.old⟩,fun n=>?_,⟨fun b h=>E b (d.sub b h),d.cell,fun i h=>?_,fun id R O C=>?_⟩⟩;obtain⟨q,s⟩:=m i g H;obtain⟨G,b2⟩:=m j g I;exact k.inj i j X W g (p i X q A) (p j W G hj) s b2;rcases(l _ (bN h)).1 with f|⟨f,e⟩;simp only at f;have A:i<st.nx:=k.lt i b f;rcases k.blk i b f with ⟨D,k2⟩|⟨g,D,N,k2,k3,k4,k5,k6⟩;exact .inl ⟨(r i A).trans D,k2⟩;exact .inr ⟨g,(r i A).trans D,N,k2,k3,k4,k5,fun i' j x y v q s a3=>lW E p r ((l _ (bN h)).2.2 x (cr q) y (cr s)) (k6 i' j x y v q s a3)⟩;exact .inl ⟨if_pos f,.inl e⟩;obtain⟨q,s⟩:=m i g z;exact k.mine i b g (p i b q h) s;cases u:lk n st'.fr with
 |none=>simp only[fv,u];exact .any _
 | some v =>
  have:=M _ (bN u);simp only[fv,u,Option.getD_some];obtain⟨e,o⟩:=this;simp only at e o;rcases e with e|⟨e,T⟩;refine KH (U:=fun i=>i<st.nx) E p r o ?_;rw[e];exact V n;have F:=V n;rw[e]at F;generalize a.tmps.getD n undef=x at F;cases F with
  |nil =>
   split at T;rename_i id;exact .own id 0 0 0 none 0 o (cL _) (fun _=>rfl) fun b B=>⟨Nat.zero_le _,fun _=>⟨cL _,cL _,fun h=>aq⟩⟩;exact T.elim
 ·have f:=d.le i h;have e:=c.hk;rcases L with o|o;exact Nat.lt_of_lt_of_le f o;exact Nat.lt_of_lt_of_le (Nat.lt_of_lt_of_le h e) o
 ·have f:=d.le id O;obtain⟨G,f0,f1,f2,Y,f4⟩:=d.blk id R O (p id R f C);refine⟨G,f0,f1,f2,Y,fun u g z=>?_⟩;obtain⟨p1,Z⟩:=f4 u g z;exact⟨(r id f).trans p1,Z⟩
theorem aV{st st':St}(h:av st st'):Wk st st':=fun _ _ _ a=>KI h a
theorem GX(a:List Nat)(b:Fr){st:St}(hz:∀p,p∈b→Snap st.hp (fun id=>id∈a) (fv p.1 st.fr) p.2):Wk st ⟨b++st.fr,aN a st.hp,st.nx⟩:=fun _ _ _ d=>KE a b hz d
theorem rj{st st':St}(a:List Nat)(b:Fr)(hz:∀p,p∈b→Snap st.hp (fun id=>id∈a) (fv p.1 st.fr) p.2)(h:av ⟨b++st.fr,aN a st.hp,st.nx⟩ st'):Wk st st':=(GX a b hz).trans (aV h)
theorem yi{fr:Fr}{hp:Hp}{U U':Nat→Prop}{a:Act}{w:World}(h:∀k,U k→U' k)(p:nu c fr hp U a w):nu c fr hp U' a w:=by
 obtain⟨r,q,σ,d,o,m⟩:=p;have st:Step w (bD c w σ hp) σ hp U w (bD c w σ hp) σ hp U':=⟨fun _ h=>h,fun _ _=>rfl,h,fun id l _ h=>⟨l,h,rfl,rfl,cL _,fun _ g j=>⟨j,fun _ h=>h⟩⟩⟩;refine⟨r,q,σ,⟨d.inj,fun i b f=>h _ (d.lt i b f),fun i b f=>?_,d.mine,d.os,d.tape,d.output,d.size,d.old⟩,fun n=>(o n).step st,m.trans st⟩;rcases d.blk i b f with e|⟨g,j,e⟩;exact .inl e;exact .inr ⟨g,j,e.step st rfl⟩
theorem kp:∀ (x:Code) (Q:Exit→St→Prop) (st:St) (a:Act) (w:World),nC P c.n x Q st→lG c st a w→x.wp P (fun e a' w'=>∃ st',Q e st'∧lG c st' a' w') a w
 | .skip,Q,st,a,w,h,hs=>wp_skip ⟨st,h,hs⟩
 | .region id ops false,Q,st,a,w,h,hs=>wp_region_list (GW (Q:=fun e a' w'=>∃st',Q e st'∧lG c st' a' w') (fun st a w hK hs=>⟨st,hK,hs⟩) ops.toList st a w h hs)
 | .region id ops true,Q,st,a,w,h,hs=>by
  rcases h with ⟨zs,ss,m,hB,hm,h⟩|⟨zs,is,za,t,st',hB,hm,h,hq⟩;exact EQ hm hB (fun fr hp a w U hK hU hS=>⟨_,hK,yi hU hS⟩) (fun k hk=>hk) hs h;exact Po hm hB (fun fr hp a w U hK hU hS=>⟨st',hq,hK c _ _ (yi hU hS)⟩) (fun k hk=>hk) hs h
 | .seq x y,Q,st,a,w,h,hs=>by
  refine wp_seq (wp_mono (kp x _ st a w h hs) fun e a' w'⟨st',hq,hs'⟩=>?_);cases e with
  |normal=>exact kp y Q st' a' w' hq hs'
  |_=>exact⟨st',hq,hs'⟩
 | .cond cnd x y,Q,st,a,w,h,hs=>by
  simp only[nC]at h;split at h;rename_i b hb;obtain⟨σ,_,_,E⟩:=ER hs;have hv:=gi (hb▸E cnd);refine wp_cond_split hv (fun ht=>?_) (fun hf=>?_);exact kp x Q st a w (h.1 ht) hs;exact kp y Q st a w (h.2 hf) hs;exact h.elim
 | .block id x,Q,st,a,w,h,hs=>by
  refine wp_block (wp_mono (kp x _ st a w h hs) fun e a' w'⟨st',hq,hs'⟩=>?_);cases e with
  |exit i =>
   simp only[sP]at hq;simp only[Exit.inBlock];split at hq;rename_i hi;rw[if_pos hi];exact⟨st',hq,hs'⟩;rename_i hi;rw[if_neg hi];exact⟨st',hq,hs'⟩
  |_=>exact⟨st',hq,hs'⟩
 | .loop x,Q,st,a,w,h,hs=>by
  obtain⟨I,⟨m0,st0,hw0,hI0⟩,hround⟩:=h
  have key:∀ m st a w,I m st→lG c st a w→(Code.loop x).wp P (fun e a' w'=>∃ st',Q e st'∧lG c st' a' w') a w:=by
   intro m0 st0 a0 w0 hI hsim
   -- a measure: the least m with which some state of the relation is there
   refine wp_loop (fun a w=>∃m st,I m st∧lG c st a w) (fun a w=>Classical.epsilon fun m=>(∃st,I m st∧lG c st a w)∧∀m',(∃st,I m' st∧lG c st a w)→m≤m') ⟨m0,st0,hI,hsim⟩ ?_;rintro a1 w1⟨m1,st1,h1,h2⟩;have least:∃m,(∃st,I m st∧lG c st a1 w1)∧∀m',(∃st,I m' st∧lG c st a1 w1)→m≤m':=by
    have hex:∃m,∃st,I m st∧lG c st a1 w1:=⟨m1,st1,h1,h2⟩;clear h1 h2;have:∀k,(∃m,m≤k∧∃st,I m st∧lG c st a1 w1)→∃m,(∃st,I m st∧lG c st a1 w1)∧∀m',(∃st,I m' st∧lG c st a1 w1)→m≤m':=by
     intro k
     induction k with
     |zero =>
      rintro⟨m,hm,hx⟩;exact⟨m,hx,fun m' _=>aq⟩
     | succ k ih =>
      rintro⟨m,hm,hx⟩;by_cases hk:∃m,m≤k∧∃st,I m st∧lG c st a1 w1;exact ih hk;refine⟨m,hx,fun m' hm'=>?_⟩;rcases Nat.lt_or_ge m' m with hlt|hge;exact absurd ⟨m',aq,hm'⟩ hk;exact hge
    obtain⟨m,hx⟩:=hex;exact this m ⟨m,cL _,hx⟩
   have hmu:=Classical.epsilon_spec least;generalize(Classical.epsilon fun m=>(∃st,I m st∧lG c st a1 w1)∧∀m',(∃st,I m' st∧lG c st a1 w1)→m≤m')=mu at hmu;obtain⟨⟨st2,h3,h4⟩,_⟩:=hmu;refine wp_mono (kp x _ st2 a1 w1 (hround mu st2 h3) h4) fun e a' w'⟨st',hq,hs'⟩=>?_;cases e with
   | normal =>
    obtain⟨m',st'',hlt,hweak,hI'⟩:=hq;have hs'':=hweak c _ _ hs';refine⟨⟨m',st'',hI',hs''⟩,?_⟩;have least':∃m,(∃st,I m st∧lG c st a' w')∧∀m',(∃st,I m' st∧lG c st a' w')→m≤m':=by
     have:∀k,(∃m,m≤k∧∃st,I m st∧lG c st a' w')→∃m,(∃st,I m st∧lG c st a' w')∧∀m',(∃st,I m' st∧lG c st a' w')→m≤m':=by
      intro k
      induction k with
      |zero =>
       rintro⟨m,hm,hx⟩;exact⟨m,hx,fun m' _=>aq⟩
      | succ k ih =>
       rintro⟨m,hm,hx⟩;by_cases hk:∃m,m≤k∧∃st,I m st∧lG c st a' w';exact ih hk;refine⟨m,hx,fun m' hm'=>?_⟩;rcases Nat.lt_or_ge m' m with hlt|hge;exact absurd ⟨m',aq,hm'⟩ hk;exact hge
     exact this m' ⟨m',cL _,st'',hI',hs''⟩
    have hmu':=Classical.epsilon_spec least';exact Nat.lt_of_le_of_lt (hmu'.2 m' ⟨st'',hI',hs''⟩) hlt
   |_=>exact⟨st',hq,hs'⟩
  exact key m0 st0 a w hI0 (hw0 c _ _ hs)
 | .exit id,Q,st,a,w,h,hs=>wp_exit ⟨st,h,hs⟩
 | .ret,Q,st,a,w,h,hs=>wp_ret ⟨st,h,hs⟩
 | .rangeFunc ..,Q,st,a,w,h,hs=>h.elim
 | .scope _,Q,st,a,w,h,hs=>h.elim
 | .label _,Q,st,a,w,h,hs=>h.elim
 | .goto _,Q,st,a,w,h,hs=>h.elim
 | .refuse _,Q,st,a,w,h,hs=>h.elim
end
end Go.Am
namespace Go.Am
def ap(P:Program)(g:FuncId)(args:List AV)(Q:AV→Prop):Prop :=
 (∃ fn, P.funcs[g]? = some fn ∧ (fn.name == "runtime.NumGoroutine") = false ∧ fn.body.isNone = false) ∧
 ∀ (w:World) (S:Nat→Prop) (vs:List Value),(∀ b,S b→b<w.heap.size)→vs.length=args.length →
  (∀(i:Nat)(v:AV)(x:Value),args[i]?=some v→vs[i]?=some x→AIs w S (fun _=>none) [] (fun _=>False) v x) →
  Calls P g vs.toArray w fun e w'=>∃x r,e=.returned x∧Q r∧r.deep∧RowKit.Below w.heap.size w w' ∧
   AIs w' (fun b=>S b∨(w.heap.size≤b∧b<w'.heap.size)) (fun _=>none) [] (fun _=>False) r x
section
variable {P:Program}
theorem yj{g:FuncId}{args:List AV}{hp:Hp}{N:Nat}{K:AV→Hp→Prop}{Q:AV→Prop}(h:ap P g args Q)(C:∀v,v∈args→v.deep)(p:∀r,Q r→K r hp):fP P g args hp N K:=by
 refine⟨h.1,fun c U σ w A k G t B=>?_⟩;refine(h.2 w (bD c w σ hp) A (fun b a=>a.1.1) t (fun i v x l f=>mI (C v (cr l)) (fun _ h=>h) (B i v x l f))).mono fun e F y=>?_;obtain⟨x,r,rfl,o,j,a,f⟩:=y;obtain⟨D,s⟩:=oJ (N:=N) k a;refine⟨x,rfl,r,hp,σ,p r o,D,s,mI j (fun b d=>?_) f⟩;rcases d with h|⟨u,z⟩;exact⟨⟨Nat.lt_of_lt_of_le h.1.1 a.size,h.1.2⟩,h.2⟩;exact⟨⟨z,fun id q g m E=>by have:=dS (k.at m E);omega⟩,.inr (Nat.le_trans k.size u)⟩
theorem BS{g:FuncId}{args args':List AV}{hp:Hp}{N:Nat}{K:AV→Hp→Prop}{Q:AV→Prop}(h:ap P g args' Q)(k:args.length=args'.length)
  (B:∀(i:Nat)(v f:AV),args[i]?=some v→args'[i]?=some f→Snap hp (fun _=>True) v f) (z:∀r,Q r→r.flat) (q:∀r,Q r→K r hp):fP P g args hp N K:=by
 refine⟨h.1,fun c U σ w C l H y D=>?_⟩;refine(h.2 w (fun b=>b<w.heap.size) C (fun b d=>d) (y.trans k) (fun i f x o j=>?_)).mono fun e G A=>?_;have a:i<args.length:=by have:=(ci.1 o).1;omega
 exact mJ (fun b d=>d.1.1) (fun id t g _ p F=>dS (l.at p F)) l (B i _ f (cm a) o) (D i _ x (cm a) j);obtain⟨x,r,rfl,m,s,d,j⟩:=A;obtain⟨E,u⟩:=oJ (N:=N) l d;exact⟨x,rfl,r,hp,σ,q r m,E,u,Pq (z r m) j⟩
theorem BU(d:List Nat){g:FuncId}{args args':List AV}{hp:Hp}{N:Nat}{K:AV→Hp→Prop}{Q:AV→Prop}(h:ap P g args' Q)(z:args.length=args'.length)
  (M:∀(i:Nat)(v q:AV),args[i]?=some v→args'[i]?=some q→Snap hp (fun id=>id∈d) v q) (G:∀r,Q r→K r (aN d hp)):fP P g args hp N K:=by
 refine⟨h.1,fun c U σ w R j Z I T=>?_⟩;obtain⟨D,E⟩:=rf d j;refine(h.2 w (bD c w σ (aN d hp)) R (fun b k=>k.1.1) (I.trans z) (fun i q x C u=>?_)).mono fun e Y L=>?_;have m:i<args.length:=by have:=(ci.1 C).1;omega
 refine mJ (fun b k=>E.sub b k) (fun id f g A l p=>⟨⟨dS (j.at l p),fun B o X a t e=>?_⟩,?_⟩) j (M i _ q (cm m) C) (T i _ x (cm m) u);subst e;rw[jO]at a;split at a;cases a;rename_i W;have:=j.inj id B f o g l a p t;subst this;exact W (by simpa using A);rcases j.mine id f g l p with h|h;exact .inl (c.hM g h);exact .inr h;obtain⟨x,r,rfl,F,y,k,u⟩:=L;obtain⟨V,H⟩:=oJ (N:=N) D k;refine⟨x,rfl,r,_,σ,G r F,V,E.trans H,mI y (fun b s=>?_) u⟩;rcases s with h|⟨J,O⟩;exact⟨⟨Nat.lt_of_lt_of_le h.1.1 k.size,h.1.2⟩,h.2⟩;refine⟨⟨O,fun id f g l p e=>?_⟩,.inr (Nat.le_trans j.size J)⟩;have:=dS (D.at l p);omega
def zP(tmps:Array Value):ResultVar→Sem Value
 | .tmp t=>pure (tmps.getD t undef)
 | .cell a t=>do loadVar t (←asAddr (tmps.getD a undef))
theorem ES(fn:Func)(tmps:Array Value):results fn tmps=(do let vs ←fn.results.toList.toArray.mapM (zP tmps);pure (if h:vs.size=1 then vs[0]else .tuple vs)):=by
 unfold results;have:(fun x:ResultVar=>(match x with | .tmp t=>pure (tmps.getD t undef) | .cell a t=>do loadVar t (←asAddr (tmps.getD a undef)):Sem Value))=zP tmps:=by
  funext x;cases x<;>rfl
 rw[←this,Array.toArray_toList];rfl
def ai (P:Program) (st:St):ResultVar→Option AV
 | .tmp t=>some (fv t st.fr)
 | .cell t ty =>
  match fv t st.fr with
  | .ptr id i off tot =>
   (match lk id st.hp with
   |some b =>
    (match b.es[i]? with
    |some row=>if b.es.length=tot then EA P ty (row.drop off)else none
    |none=>none)
   |none=>none)
  |_=>none
def BV(P:Program)(rs:List ResultVar)(R:AV→St→Prop)(st:St):Prop :=
 match rs with
 |[]=>R (.tup []) st
 |[x]=>(match ai P st x with
  |some v=>R v st
  |none=>False)
 |[x,y]=>(match ai P st x,ai P st y with
  |some v,some u=>R (.tup [v,u]) st
  |_,_=>False)
 |[x,y,z]=>(match ai P st x,ai P st y,ai P st z with
  |some v,some u,some t=>R (.tup [v,u,t]) st
  |_,_,_=>False)
 |_=>False
def KJ(P:Program)(rs:List ResultVar)(R:AV→St→Prop):Exit→St→Prop
 | .normal,st=>BV P rs R st
 | .ret,st=>BV P rs R st
 |_,_=>False
theorem oK {c:Ctx} {st:St} {w:World} {σ:Nat→Option Nat} {tmps:Array Value} (G:Rel c st.hp (fun i=>i<st.nx) σ w)
  (E:∀n,AIs w (bD c w σ st.hp) σ st.hp (fun i=>i<st.nx) (fv n st.fr) (tmps.getD n undef)) {D:ResultVar} {v:AV} (h:ai P st D=some v) :
  ∃x,(zP tmps D).run P w=.ok x w∧AIs w (bD c w σ st.hp) σ st.hp (fun i=>i<st.nx) v x:=by
 cases D with
 |tmp t =>
  simp only[ai]at h;injection h with h;subst h;exact⟨_,rfl,E t⟩
 | cell t ty =>
  simp only[ai]at h;split at h;rename_i id i d I F;have r:=E t;rw[F]at r;split at h;rename_i b L;split at h;rename_i B q;split at h;rename_i M;obtain⟨g,o,N,A,k,p,J,H,m⟩:=oC G r L q M;have l:∀(j:Nat)(y:AV),(B.drop d)[j]?=some y→∃u,o[i*b.e+d+j]?=some u∧AIs w (bD c w σ st.hp) σ st.hp (fun i=>i<st.nx) y u:=by
   intro j y f;rw[List.getElem?_drop]at f;obtain⟨u,a,s⟩:=m _ y f;exact⟨u,by rw[Nat.add_assoc];exact a,s⟩
  obtain⟨u,z,C⟩:=iJ (P:=P) (w:=w) (S:=bD c w σ st.hp) (σ:=σ) (hp:=st.hp) (U:=fun i=>i<st.nx) (ad:=⟨g,i*b.e+d,none⟩) (vs:=fun j=>o.getD (i*b.e+d+j) undef) h
   (fun j y f=>by
    obtain⟨u,a,s⟩:=l j y f;rw[gu,cell_of_row w _ _ o _ _ k,a]
    simp[ct,a])
   (fun j y f=>by
    obtain⟨u,a,s⟩:=l j y f;simp only[ct,a,Option.getD_some]
    exact p _ u a)
   (fun j y f=>by
    obtain⟨u,a,s⟩:=l j y f;simp only[ct,a,Option.getD_some]
    exact s)
  refine⟨u,?_,C⟩;simp only[zP,A,asAddr,Sem.run_bind,Sem.run_pure,Result.andThen_ok,z];cases h;cases h;cases h;cases h
theorem zQ{c:Ctx}{fn:Func}{R:AV→St→Prop}{st:St}{a:Act}{w:World}(u:lG c st a w)(h:BV P fn.results.toList R st) :
  ∃v x,R v st∧(results fn a.tmps).run P w=.ok x w∧∃ σ,Rel c st.hp (fun i=>i<st.nx) σ w∧AIs w (bD c w σ st.hp) σ st.hp (fun i=>i<st.nx) v x∧BB c st.hp (fun i=>i<st.nx) σ w:=by
 obtain⟨_,_,σ,d,g,l⟩:=u;rw[ES];generalize fn.results.toList=rs at h;unfold BV at h;split at h;exact⟨_,.tuple #[],h,aw,σ,d,.tup [] #[] rfl aw,l⟩;rename_i E;split at h;rename_i v A;obtain⟨x,j,k⟩:=oK d g A;exact⟨v,x,h,by simp[j],σ,d,k,l⟩;exact h.elim
 ·rename_i B s;split at h
  ·rename_i z y f e;obtain⟨m,j,o⟩:=oK d g f;obtain⟨q,k,k2⟩:=oK d g e;refine⟨_,.tuple #[m,q],h,by simp[j,k],σ,d,.tup _ _ rfl fun i c x hc b=>?_,l⟩
   match i,hc,b with
   |0,hc,b=>simp at hc b;subst hc;subst b;exact o
   |1,hc,b=>simp at hc b;subst hc;subst b;exact k2
   |n+2,hc,b=>simp at hc
  ·exact h.elim
 ·rename_i B s C;split at h
  ·rename_i z y D f e p;obtain⟨m,j,o⟩:=oK d g f;obtain⟨q,k,k2⟩:=oK d g e;obtain⟨t,r,k3⟩:=oK d g p;refine⟨_,.tuple #[m,q,t],h,by simp[j,k,r],σ,d,.tup _ _ rfl fun i c x hc b=>?_,l⟩
   match i,hc,b with
   |0,hc,b=>simp at hc b;subst hc;subst b;exact o
   |1,hc,b=>simp at hc b;subst hc;subst b;exact k2
   |2,hc,b=>simp at hc b;subst hc;subst b;exact k3
   |n+3,hc,b=>simp at hc
  ·exact h.elim
 ·exact h.elim
def JQ(k:Nat):List AV→Fr
 |[]=>[]
 |v::r=>(k,v)::JQ (k+1) r
theorem zR:∀(args:List AV)(k n:Nat),lk n (JQ k args)=if k≤n then args[n-k]? else none
 |[],k,n=>by simp[JQ,lk]
 | v :: r,k,n=>by
  simp only[JQ,lk,zR r (k+1) n];by_cases h:k=n;subst h;simp;rw[if_neg h];by_cases a:k≤n;rw[if_pos aq,if_pos a,show n-k=(n-(k+1))+1 by omega,List.getElem?_cons_succ];rw[if_neg aq,if_neg a]
def dm(Q:AV→Prop)(v:AV)(st:St):Prop:=∃r,Snap st.hp (fun _=>True) v r∧r.deep∧Q r
theorem ae{Q:AV→Prop}{v:AV}{st:St}(a:v.deep)(hq:Q v):dm Q v st:=⟨v,.deep a,a,hq⟩
theorem dR{Q:AV→Prop}{v a:AV}{st:St}(h:fx st.hp (fun _=>True) v a)(b:a.deep)(hq:Q a):dm Q v st:=⟨a,.one h,b,hq⟩
theorem ew{Q:AV→Prop}{cs cs':List AV}{st:St}(h:∀(i:Nat)(c a:AV),cs[i]?=some c→cs'[i]?=some a→fx st.hp (fun _=>True) c a)(f:cs'.length=cs.length)(d:(AV.tup cs').deep)(hq:Q (.tup cs')):dm Q (.tup cs) st :=
 ⟨.tup cs',.tup f (fun i c a b e=>.inl (h i c a b e)),d,hq⟩
theorem vA{Q:AV→Prop}{cs cs':List AV}{st:St}(h:∀(i:Nat)(c a:AV),cs[i]?=some c→cs'[i]?=some a→fx st.hp (fun _=>True) c a)(d:cs'.length=cs.length)(b:(AV.agg cs').deep)(hq:Q (.agg cs')):dm Q (.agg cs) st :=
 ⟨.agg cs',.agg ⟨d,h⟩,b,hq⟩
theorem IF {g : FuncId} {fn : Func} {code : Code} {args : List AV} {Q : AV → Prop} (hf : P.funcs[g]? = some fn) (hn : (fn.name == "runtime.NumGoroutine") = false) (hb : fn.body = some code)
  {n:Nat} {rs:List ResultVar} (hnt:fn.ntmps=n) (hrs:fn.results.toList=rs) (hle:args.length≤n) (hd:∀v,v∈args→v.deep)
  (h:nC P n code (KJ P rs (dm Q)) ⟨JQ 0 args,[],0⟩):ap P g args Q:=by
 subst hnt;subst hrs;refine⟨⟨fn,hf,hn,by simp[hb]⟩,fun w S vs hS hl hv=>?_⟩;have hsz:((vs.toArray++Array.replicate (fn.ntmps-vs.toArray.size) undef):Array Value).size=fn.ntmps:=by simp;omega
 refine calls_of_wp hf hb ?_
 let c:Ctx:=⟨w,fun _=>False,S,fn.ntmps,fun _ h=>h.elim,fun _=>False,fun _=>none,[],0,aq⟩
 have hsim:lG c ⟨JQ 0 args,[],0⟩ { tmps:=vs.toArray++Array.replicate (fn.ntmps-vs.toArray.size) undef,defers:=[] } w:=by
  refine⟨rfl,hsz,fun _=>none,⟨(fun i j bi bj g h=>by cases h),(fun i b h=>by cases h),(fun i b h=>by cases h),(fun i b g h=>by cases h),rfl,rfl,rfl,cL _,fun _ _ _=>rfl⟩,fun n=>?_,⟨fun _ h=>h.elim,fun _ h=>h.elim,fun i h=>absurd h (Nat.not_lt_zero _),fun i b' h=>absurd h (Nat.not_lt_zero _)⟩⟩;simp only[fv,zR,Nat.zero_le,if_true,Nat.sub_zero]
  cases hn:args[n]? with
  |none=>exact .any _
  | some v =>
   have hlt:n<vs.length:=by have:=(ci.1 hn).1;omega
   have hx:vs[n]?=some vs[n]:=cm hlt
   have:(vs.toArray++Array.replicate (fn.ntmps-vs.toArray.size) undef).getD n undef=vs[n]:=by
    rw[ct,Array.getElem?_append,if_pos (by simpa using hlt)];simp[hx]
   rw[this];simp only[Option.getD_some];exact mI (hd v (cr hn)) (fun b hb=>⟨⟨hS b hb,(fun id blk g h=>by cases h)⟩,.inl hb⟩) (hv n v _ hn hx)
 have tQ:∀st a w',BV P fn.results.toList (dm Q) st→lG c st a w'→∃v,(results fn a.tmps).run P w'=.ok v w'∧∃x r,Ending.returned v=.returned x∧Q r∧r.deep∧RowKit.Below w.heap.size w w' ∧
   AIs w' (fun b=>S b∨(w.heap.size≤b∧b<w'.heap.size)) (fun _=>none) [] (fun _=>False) r x:=by
  intro st a w' hret hs;obtain⟨v,x,⟨r,hsn,hrd,hQ⟩,hrun,σ,hr,hx,_⟩:=zQ hs hret;refine⟨x,hrun,x,r,rfl,hQ,hrd,⟨hr.os,hr.tape,hr.output,hr.size,fun b hb=>hr.old b hb (fun h=>h)⟩,?_⟩;refine mJ (fun b hb=>?_) (fun id blk g _ hk hg=>?_) hr hsn hx
  ·rcases hb.2 with h|h
   ·exact .inl h
   ·exact .inr ⟨h,hb.1.1⟩
  ·rcases hr.mine id blk g hk hg with h|h
   ·exact h.elim
   ·exact .inr ⟨h,dS (hr.at hk hg)⟩
 refine wp_mono (kp (c:=c) code _ _ _ w h hsim) fun e a w'⟨st,hq,hs⟩=>?_
 cases e with
 |normal=>exact⟨hs.1,tQ st a w' hq hs⟩
 |ret=>exact⟨hs.1,tQ st a w' hq hs⟩
 |_=>exact hq.elim
end
end Go.Am
namespace Go.Am
def SqK(P:Program)(n:Nat)(y:Code)(Q:Exit→St→Prop):Exit→St→Prop:=fN (nC P n y Q) Q
def GY(P:Program)(n:Nat)(ops:Array Oper)(rest:List Oper)(K:St→Prop)(fr:Fr)(nx:Nat)(a:Option Tmp):AV→Hp→Prop:=Ye (rh P n ops rest K) fr nx a
def LpW(P:Program)(n:Nat)(x:Code)(Q:Exit→St→Prop)(st:St):Prop:=TF (nC P n x) Q st
def uh(P:Program)(g:FuncId)(args:List AV)(hp:Hp)(N:Nat)(K:AV→Hp→Prop):Prop:=fP P g args hp N K∨JZ P g args hp K
section
variable (P:Program) (n:Nat) (Q:Exit→St→Prop) (fr:Fr) (hp:Hp) (nx:Nat) (st:St) (K:AV→Hp→Prop) (KS:St→Prop)
theorem Yt(x y:Code):nC P n (.seq x y) Q st=nC P n x (SqK P n y Q) st:=rfl
theorem UF:nC P n .skip Q st=Q .normal st:=rfl
theorem Yu:nC P n .ret Q st=Q .ret st:=rfl
theorem UG(i:Nat):nC P n (.exit i) Q st=Q (.exit i) st:=rfl
theorem Px(i:Nat)(x:Code):nC P n (.block i x) Q st=nC P n x (sP i Q) st:=rfl
theorem KL(i:Nat)(ops:Array Oper):nC P n (.region i ops false) Q st=rh P n ops ops.toList (KF Q) st:=rfl
def Yv(P:Program)(n:Nat)(ops:Array Oper)(Q:Exit→St→Prop)(st:St):Prop:=(∃zs ss m,EO n ops zs ss m=true∧P.follows .mixedOrders=true∧zW P ops st.nx st.hp (fun fr=>Et P ops st.nx st.hp (fun fr hp=>Q .normal ⟨fr,hp,st.nx+32*ops.size⟩) ss m fr st.hp) zs st.fr) ∨
 ∃zs is za t st',vi n ops zs is za t=true∧P.follows .mixedOrders=true∧zW P ops st.nx st.hp (fun fr=>xO P ops st.nx st.hp (fun fr hp=>Wk ⟨fr,hp,st.nx+32*ops.size⟩ st') t fr st.hp) zs st.fr∧Q .normal st'
theorem UH(i:Nat)(ops:Array Oper):nC P n (.region i ops true) Q st=Yv P n ops Q st:=rfl
theorem UI(x:Code):nC P n (.loop x) Q st=LpW P n x Q st:=rfl
def adw(v:AV)(A B:Prop):Prop :=
 match v with
 | .d (.bool b)=>(b=true→A)∧(b=false→B)
 |_=>False
def zS(P:Program)(n:Nat)(v:AV)(x y:Code)(Q:Exit→St→Prop)(st:St):Prop :=
 match v with
 | .d (.bool b)=>(b=true→nC P n x Q st)∧(b=false→nC P n y Q st)
 |_=>False
theorem UJ(c:Operand)(x y:Code):nC P n (.cond c x y) Q st=zS P n (ev st.fr c) x y Q st:=rfl
theorem Py(x y:Code):zS P n (.d (.bool true)) x y Q st=nC P n x Q st:=by simp[zS]
theorem Pz(x y:Code):zS P n (.d (.bool false)) x y Q st=nC P n y Q st:=by simp[zS]
theorem PD(p:Prop)[Decidable p](x y:Code):zS P n (.d (.bool (decide p))) x y Q st=((p→nC P n x Q st)∧(¬p→nC P n y Q st)):=by simp[zS]
theorem PE(p:Prop)[Decidable p](x y:Code):zS P n (.d (.bool (!decide p))) x y Q st=((¬p→nC P n x Q st)∧(p→nC P n y Q st)):=by simp[zS]
theorem UK(y:Code):SqK P n y Q .normal st=nC P n y Q st:=rfl
theorem UL(y:Code):SqK P n y Q .ret st=Q .ret st:=rfl
theorem UM(y:Code)(i:Nat):SqK P n y Q (.exit i) st=Q (.exit i) st:=rfl
theorem UN(i:Nat):sP i Q .normal st=Q .normal st:=rfl
theorem UO(i:Nat):sP i Q .ret st=Q .ret st:=rfl
theorem UQ(i j:Nat):sP i Q (.exit j) st=if j=i then Q .normal st else Q (.exit j) st:=rfl
theorem UR:KF Q st=Q .normal st:=rfl
theorem US(I:Nat→St→Prop)(m:Nat):BR I m Q .ret st=Q .ret st:=rfl
theorem UT(I:Nat→St→Prop)(m i:Nat):BR I m Q (.exit i) st=Q (.exit i) st:=rfl
theorem Yw(ops:Array Oper):rh P n ops [] KS st=KS st:=rfl
theorem UU(ops:Array Oper)(a:Option Tmp)(d:Op)(ty:TypeId)(b:String)(e:Array Edge)(rest:List Oper) :
  rh P n ops (⟨a,d,ty,b,e,none⟩::rest) KS ⟨fr,hp,nx⟩=(gq n a∧bM P fr hp nx d (GY P n ops rest KS fr nx a)):=rfl
def pW(P:Program)(n:Nat)(ops:Array Oper)(v:AV)(e:Bool)(a:Option Tmp)(f:Op)(rest:List Oper)(KS:St→Prop)(fr:Fr)(hp:Hp)(nx:Nat):Prop :=
 match v with
 | .d (.bool b)=>gq n a∧(b=e→bM P fr hp nx f (GY P n ops rest KS fr nx a))∧(b=!e→GY P n ops rest KS fr nx a (.tup []) hp)
 | .tup []=>gq n a∧GY P n ops rest KS fr nx a (.tup []) hp
 |_=>False
theorem PG(ops:Array Oper)(b:Option Tmp)(f:Op)(ty:TypeId)(e:String)(g:Array Edge)(j:Nat)(a:Bool)(rest:List Oper) :
  rh P n ops (⟨b,f,ty,e,g,some (j,a)⟩::rest) KS ⟨fr,hp,nx⟩ =
   (match(ops[j]?).bind (·.dst)with
   |some d=>pW P n ops (fv d fr) a b f rest KS fr hp nx
   |none=>False):=by
 simp only[rh];cases(ops[j]?).bind (·.dst)with
 |none=>rfl
 |some d =>
  simp only[pW];generalize fv d fr=v;cases v with
  |d dv=>cases dv<;>rfl
  |tup l=>cases l<;>rfl
  |_=>rfl
theorem Yx(ops:Array Oper)(b:Bool)(a:Option Tmp)(d:Op)(rest:List Oper):pW P n ops (.tup []) b a d rest KS fr hp nx=(gq n a∧GY P n ops rest KS fr nx a (.tup []) hp):=rfl
theorem Yy(ops:Array Oper)(a:Option Tmp)(b:Op)(rest:List Oper):pW P n ops (.d (.bool true)) true a b rest KS fr hp nx=(gq n a∧bM P fr hp nx b (GY P n ops rest KS fr nx a)):=by simp[pW]
theorem Yz(ops:Array Oper)(a:Option Tmp)(b:Op)(rest:List Oper):pW P n ops (.d (.bool false)) false a b rest KS fr hp nx=(gq n a∧bM P fr hp nx b (GY P n ops rest KS fr nx a)):=by simp[pW]
theorem UV(ops:Array Oper)(a:Option Tmp)(b:Op)(rest:List Oper):pW P n ops (.d (.bool true)) false a b rest KS fr hp nx=(gq n a∧GY P n ops rest KS fr nx a (.tup []) hp):=by simp[pW]
theorem UW(ops:Array Oper)(a:Option Tmp)(b:Op)(rest:List Oper):pW P n ops (.d (.bool false)) true a b rest KS fr hp nx=(gq n a∧GY P n ops rest KS fr nx a (.tup []) hp):=by simp[pW]
theorem UX(p:Prop)[Decidable p](ops:Array Oper)(a:Option Tmp)(b:Op)(rest:List Oper):pW P n ops (.d (.bool (decide p))) true a b rest KS fr hp nx=(gq n a∧(p→bM P fr hp nx b (GY P n ops rest KS fr nx a))∧(¬p→GY P n ops rest KS fr nx a (.tup []) hp)):=by simp[pW]
theorem UY(p:Prop)[Decidable p](ops:Array Oper)(a:Option Tmp)(b:Op)(rest:List Oper):pW P n ops (.d (.bool (decide p))) false a b rest KS fr hp nx=(gq n a∧(¬p→bM P fr hp nx b (GY P n ops rest KS fr nx a))∧(p→GY P n ops rest KS fr nx a (.tup []) hp)):=by simp[pW]
theorem abC(ops:Array Oper)(rest:List Oper)(a:Option Tmp)(v:AV)(hp':Hp):GY P n ops rest KS fr nx a v hp'=rh P n ops rest KS ⟨bf fr a v,hp',nx+32⟩:=rfl
theorem YA(d:Nat)(v:AV):bf fr (some d) v=(d,v)::fr:=rfl
theorem UZ(v:AV):bf fr none v=fr:=rfl
theorem YB(d:Nat):gq n (some d)=(d<n):=rfl
theorem U0:gq n none=True:=rfl
theorem YC(t:Nat):ev fr (.tmp t)=fv t fr:=rfl
theorem PH(v:Value):ev fr (.const v)=OZ v:=rfl
theorem U3(f:FuncId):ev fr (.func f)=.fn f []:=rfl
theorem abD(d m:Nat)(v:AV):fv m ((d,v)::fr)=if d=m then v else fv m fr:=ju d m v fr
theorem YD(m:Nat):fv m []=.any:=rfl
theorem abE{α:Type}(m k:Nat)(v:α)(t:List (Nat×α)):lk k ((m,v)::t)=if m=k then some v else lk k t:=rfl
theorem YE{α:Type}(k:Nat):lk k ([]:List (Nat×α))=none:=rfl
theorem U4(id m:Nat)(b v:Blk)(t:Hp):bJ id b ((m,v)::t)=if m=id then(m,b)::t else(m,v)::bJ id b t:=rfl
theorem abG(k:IntKind)(i:Int):OZ (.int k i)=.d (.int k i):=rfl
theorem abH(b:Bool):OZ (.bool b)=.d (.bool b):=rfl
theorem abI:OZ (.slice none 0 0)=.nil:=rfl
theorem U5(s:ByteArray):OZ (.string s)=.d (.str (s.data.toList.map fun c=>(c.toNat:Int))):=rfl
theorem abJ:OZ (.pointer none)=.d .nilp:=rfl
theorem U6(x:Operand):bM P fr hp nx (.move x) K=K (ev fr x) hp:=rfl
theorem KN(x:Operand):bM P fr hp nx (.assign x) K=K (ev fr x) hp:=rfl
def rk(c a b:AV)(K:AV→Hp→Prop)(hp:Hp):Prop :=
 match c with
 | .d (.bool t) =>
  (match a,b with
  | .d (.bool x),.d (.bool y)=>K (.d (.bool (if t then x else y))) hp
  |va,vb=>(t=true→K va hp)∧(t=false→K vb hp))
 |_=>False
theorem U7(c a b:Operand):bM P fr hp nx (.pick c a b) K=rk (ev fr c) (ev fr a) (ev fr b) K hp:=by
 simp only[bM,rk];rfl
theorem KO(a b:AV):rk (.d (.bool true)) a b K hp=K a hp:=by
 unfold rk;dsimp only;split<;>simp
theorem KP(a b:AV):rk (.d (.bool false)) a b K hp=K b hp:=by
 unfold rk;dsimp only;split<;>simp
theorem IG(t x y:Bool):rk (.d (.bool t)) (.d (.bool x)) (.d (.bool y)) K hp=K (.d (.bool (if t then x else y))) hp:=rfl
theorem KQ(t:Bool)(x:Bool):rk (.d (.bool t)) (.d (.bool x)) .any K hp=((t=true→K (.d (.bool x)) hp)∧(t=false→K .any hp)):=rfl
theorem KR(t:Bool)(x:Bool):rk (.d (.bool t)) (.d (.bool x)) (.tup []) K hp=((t=true→K (.d (.bool x)) hp)∧(t=false→K (.tup []) hp)):=rfl
theorem YF(a:BinOp)(t b:TypeId)(x y:Operand):bM P fr hp nx (.binOp a t x y b) K=df P a t (ev fr x) (ev fr y) K hp:=rfl
theorem PI(t:TypeId)(k:IntKind)(x y:Int):df P .add t (.d (.int k x)) (.d (.int k y)) K hp=K (.d (.int k (k.wrap (x+y)))) hp:=by simp[df,dH,kB]
theorem PK(t:TypeId)(k:IntKind)(x y:Int):df P .sub t (.d (.int k x)) (.d (.int k y)) K hp=K (.d (.int k (k.wrap (x-y)))) hp:=by simp[df,dH,kB]
theorem PL(t:TypeId)(k:IntKind)(x y:Int):df P .mul t (.d (.int k x)) (.d (.int k y)) K hp=K (.d (.int k (k.wrap (x*y)))) hp:=by simp[df,dH,kB]
theorem PM(t:TypeId)(k:IntKind)(x y:Int):df P .quo t (.d (.int k x)) (.d (.int k y)) K hp=(y≠0∧K (.d (.int k (k.wrap (x.tdiv y)))) hp):=by simp[df,dH,kB]
theorem PN(t:TypeId)(k:IntKind)(x y:Int):df P .rem t (.d (.int k x)) (.d (.int k y)) K hp=(y≠0∧K (.d (.int k (x.tmod y))) hp):=by simp[df,dH,kB]
theorem PO(t:TypeId)(k:IntKind)(x y:Int):df P .and t (.d (.int k x)) (.d (.int k y)) K hp=K (.d (.int k (bits .and k x y))) hp:=by simp[df,dH,kB]
theorem U8(t:TypeId)(k:IntKind)(x y:Int):df P .or t (.d (.int k x)) (.d (.int k y)) K hp=K (.d (.int k (bits .or k x y))) hp:=by simp[df,dH,kB]
theorem PP(t:TypeId)(k:IntKind)(x y:Int):df P .xor t (.d (.int k x)) (.d (.int k y)) K hp=K (.d (.int k (bits .xor k x y))) hp:=by simp[df,dH,kB]
theorem ET(t:TypeId)(k:IntKind)(x y:Int):df P .andNot t (.d (.int k x)) (.d (.int k y)) K hp=K (.d (.int k (bits .andNot k x y))) hp:=by simp[df,dH,kB]
theorem PQ(t:TypeId)(k a:IntKind)(x y:Int):df P .shl t (.d (.int k x)) (.d (.int a y)) K hp=(0≤y∧K (.d (.int k (k.wrap (x*2 ^ (min y.toNat k.bits))))) hp):=by simp[df,dH,kB,qL]
theorem PR(t:TypeId)(k a:IntKind)(x y:Int):df P .shr t (.d (.int k x)) (.d (.int a y)) K hp=(0≤y∧K (.d (.int k (x.fdiv (2 ^ (min y.toNat k.bits))))) hp):=by simp[df,dH,kB,qL]
theorem PS(t:TypeId)(k:IntKind)(x y:Int):df P .eql t (.d (.int k x)) (.d (.int k y)) K hp=K (.d (.bool (decide (x=y)))) hp:=by simp[df,dH,kB]
theorem PT(t:TypeId)(k:IntKind)(x y:Int):df P .neq t (.d (.int k x)) (.d (.int k y)) K hp=K (.d (.bool (!decide (x=y)))) hp:=by simp[df,dH,kB]
theorem PU(t:TypeId)(k:IntKind)(x y:Int):df P .lss t (.d (.int k x)) (.d (.int k y)) K hp=K (.d (.bool (decide (x<y)))) hp:=by simp[df,dH,kB]
theorem PW(t:TypeId)(k:IntKind)(x y:Int):df P .leq t (.d (.int k x)) (.d (.int k y)) K hp=K (.d (.bool (decide (x≤y)))) hp:=by simp[df,dH,kB]
theorem PX(t:TypeId)(k:IntKind)(x y:Int):df P .gtr t (.d (.int k x)) (.d (.int k y)) K hp=K (.d (.bool (decide (y<x)))) hp:=by simp[df,dH,kB]
theorem PY(t:TypeId)(k:IntKind)(x y:Int):df P .geq t (.d (.int k x)) (.d (.int k y)) K hp=K (.d (.bool (decide (y≤x)))) hp:=by simp[df,dH,kB]
theorem PZ(e:BinOp)(t:TypeId)(a b c d:Nat):df P e t (.ptr a b c d) (.d .nilp) K hp=OT P e t false K hp:=rfl
theorem P0(a:BinOp)(t:TypeId)(cs:List DV):df P a t (.rop cs) (.d .nilp) K hp=OT P a t false K hp:=rfl
theorem P1(a:BinOp)(t:TypeId):df P a t (.d .nilp) (.d .nilp) K hp=OT P a t true K hp:=rfl
def agK(P:Program)(d:BinOp)(t:TypeId)(k:TK)(a b:List AV)(K:AV→Hp→Prop)(hp:Hp):Prop :=
 match k with
 | .arr n el=>Tu P d t n el (jI P el) a b K hp
 | .struct _=>Tv P d t a b K hp
 |_=>False
theorem U9(d:BinOp)(t:TypeId)(a b:List AV):df P d t (.agg a) (.agg b) K hp=agK P d t (bU P t) a b K hp:=by
 simp only[df,agK];cases bU P t<;>rfl
def agO(P:Program)(b:BinOp)(t:TypeId)(n:Nat)(el:TypeId)(a vs:Option (List Int))(K:AV→Hp→Prop)(hp:Hp):Prop :=
 match a,vs with
 | some a,some vs=>a.length=n∧vs.length=n∧P.cellsOf el=1∧P.eqGuardType P.depth t=false∧(match b with
   | .eql=>K (.d (.bool (decide (a=vs)))) hp
   | .neq=>K (.d (.bool (!decide (a=vs)))) hp
   |_=>False)
 |_,_=>False
theorem abM(d:BinOp)(t:TypeId)(n:Nat)(el:TypeId)(k:IntKind)(a b:List AV):Tu P d t n el (some k) a b K hp=agO P d t n el (cn k a) (cn k b) K hp:=by
 simp only[Tu,agO];cases cn k a<;>cases cn k b<;>rfl
def sgR(P:Program)(e:BinOp)(t:TypeId)(b:Option (List (Option IntKind)))(a vs:Option (List L1))(K:AV→Hp→Prop)(hp:Hp):Prop :=
 match a,vs with
 | some a,some vs=>P.eqGuardType P.depth t=false∧b=some (a.map L1.k)∧b=some (vs.map L1.k)∧(match e with
   | .eql=>K (.d (.bool (decide (a=vs)))) hp
   | .neq=>K (.d (.bool (!decide (a=vs)))) hp
   |_=>False)
 |_,_=>False
theorem abO(d:BinOp)(t:TypeId)(a b:List AV):Tv P d t a b K hp=sgR P d t (d6 P 8 t) (eW a) (eW b) K hp:=by
 simp only[Tv,sgR];cases eW a<;>cases eW b<;>rfl
theorem BW(k:IntKind)(a:List Int):cn k (a.map fun m=>AV.d (.int k m))=some a:=by
 induction a with
 |nil=>rfl
 |cons u r ih=>simp[cn,ih]
def idO(o:Option AV)(K:AV→Hp→Prop)(hp:Hp):Prop :=
 match o with
 |some v=>K v hp
 |none=>False
def idS(o:Option Int)(K:AV→Hp→Prop)(hp:Hp):Prop :=
 match o with
 |some b=>K (.d (.int .u8 b)) hp
 |none=>False
def idX(P:Program)(k:TK)(el:TypeId)(cs:List AV)(m:Int)(K:AV→Hp→Prop)(hp:Hp):Prop :=
 match k with
 | .scal=>P.cellsOf el=1∧idO cs[m.toNat]? K hp
 | .slice _=>P.cellsOf el=1∧idO cs[m.toNat]? K hp
 | .arr _ _=>P.cellsOf el≠0∧idO (EA P el (cs.drop (m.toNat*P.cellsOf el))) K hp
 |_=>False
def idW(P:Program)(k:TK)(x i:AV)(K:AV→Hp→Prop)(hp:Hp):Prop :=
 match k,x,i with
 | .arr n el,.agg cs,.d (.int _ m)=>0≤m∧m<n∧idX P (bU P el) el cs m K hp
 | .str,.d (.str bs),.d (.int _ m)=>0≤m∧idS bs[m.toNat]? K hp
 |_,_,_=>False
theorem P2(t:TypeId)(x i:Operand):bM P fr hp nx (.index t x i) K=idW P (bU P t) (ev fr x) (ev fr i) K hp:=rfl
def unW(a:UnOp)(v:AV)(K:AV→Hp→Prop)(hp:Hp):Prop :=
 match a,v with
 | .not,.d (.bool b)=>K (.d (.bool (!b))) hp
 | .neg,.d (.int k n)=>K (.d (.int k (k.wrap (0-n)))) hp
 | .xor,.d (.int k n)=>K (.d (.int k (bits .xor k (if k.signed then -1 else k.max) n))) hp
 |_,_=>False
theorem abQ(a:UnOp)(t:TypeId)(x:Operand):bM P fr hp nx (.unOp a t x) K=unW a (ev fr x) K hp:=by
 cases a<;>simp only[bM,unW]<;>split<;>simp_all
def YG(v:AV)(K:AV→Hp→Prop)(hp:Hp):Prop :=
 match v with
 | .ptr id i off tot=>K (.ptr id i off tot) hp
 | .rop cs=>K (.rop cs) hp
 | .fn f cs=>K (.fn f cs) hp
 | .mth f cs=>K (.mth f cs) hp
 |_=>False
theorem Vb(x:Operand):bM P fr hp nx (.nilCheck x) K=YG (ev fr x) K hp:=rfl
def exW(v:AV)(i:Nat)(K:AV→Hp→Prop)(hp:Hp):Prop :=
 match v with
 | .tup vs=>(match vs[i]? with
  |some v=>K v hp
  |none=>False)
 |_=>False
theorem abR(x:Operand)(i:Nat):bM P fr hp nx (.extract x i) K=exW (ev fr x) i K hp:=rfl
def cvS(P:Program)(s t:TypeId)(es:List (List DV))(K:AV→Hp→Prop)(hp:Hp):Prop :=
 ∃ a:List Int,es=a.map (fun b=>[.int .u8 b])∧(∀ b,b ∈ a→0≤b∧b<256)∧(match bU P s,bU P t with
   | .slice el,.str=>P.underlying el=some (.int .u8)∧K (.d (.str a)) hp
   |_,_=>False)
def cvB(P:Program)(e:List Int)(a b:TK)(K:AV→Hp→Prop)(hp:Hp):Prop :=
 match a,b with
 | .str,.slice el=>P.underlying el=some (.int .u8)∧K (.d (.ro 1 (e.map fun b=>[.int .u8 b]))) hp
 |_,_=>False
def cvO(P:Program)(s t:TypeId)(xs:Option (List (List AV)))(K:AV→Hp→Prop)(hp:Hp):Prop :=
 ∃ a:List Int,xs=some (a.map fun b=>[.d (.int .u8 b)])∧(∀ b,b ∈ a→0≤b∧b<256)∧(match bU P s,bU P t with
   | .slice el,.str=>P.underlying el=some (.int .u8)∧K (.d (.str a)) hp
   |_,_=>False)
def cvW(P:Program)(s t:TypeId)(v:AV)(K:AV→Hp→Prop)(hp:Hp):Prop :=
 match v with
 | .d (.int _ n)=>(match(P.underlying s).isSome,jI P t with
  |true,some k=>K (.d (.int k (k.wrap n))) hp
  |_,_=>False)
 | .d (.ro 1 es)=>cvS P s t es K hp
 | .d (.str bs)=>cvB P bs (bU P s) (bU P t) K hp
 |v=>cvO P s t (dh hp 1 v) K hp
theorem abU(s t:TypeId)(x:Operand):bM P fr hp nx (.convert s t x) K=cvW P s t (ev fr x) K hp:=by
 simp only[bM,cvW,jI];generalize ev fr x=v;cases v with
 | d dv =>
  cases dv with
  |int k n =>
   cases P.underlying s<;>cases a:P.underlying t with
   |none=>simp
   |some d=>cases d<;>simp
  |ro e es =>
   match e with
   |0=>rfl
   |1=>rfl
   |_+2=>rfl
  |str bs=>cases bU P s<;>cases bU P t<;>rfl
  |_=>rfl
 |_=>rfl
def ldO(o:Option AV)(K:AV→Hp→Prop)(hp:Hp):Prop :=
 match o with
 |some v=>K v hp
 |none=>False
def ldR(P:Program)(t:TypeId)(a:Option (List AV))(b d off:Nat)(K:AV→Hp→Prop)(hp:Hp):Prop :=
 match a with
 |some a=>b=d∧ldO (EA P t (a.drop off)) K hp
 |none=>False
def ldB(P:Program)(t:TypeId)(b:Option Blk)(i off a:Nat)(K:AV→Hp→Prop)(hp:Hp):Prop :=
 match b with
 |some b=>ldR P t b.es[i]? b.es.length a off K hp
 |none=>False
def ldW(P:Program)(t:TypeId)(v:AV)(K:AV→Hp→Prop)(hp:Hp):Prop :=
 match v with
 | .ptr id i off tot=>ldB P t (lk id hp) i off tot K hp
 | .rop cs=>ldO (EA P t (cs.map .d)) K hp
 |_=>False
theorem abV(t:TypeId)(x:Operand):bM P fr hp nx (.load t x) K=ldW P t (ev fr x) K hp:=rfl
def Vd(P:Program)(t:TypeId)(k:TK)(a:List AV):Option AV :=
 match k with
 | .none=>Option.none
 | .arr _ _=>if P.cellsOf t≤a.length then some (.agg (a.take (P.cellsOf t)))else Option.none
 | .struct _=>if P.cellsOf t≤a.length then some (.agg (a.take (P.cellsOf t)))else Option.none
 | .scal=>a.head?
 | .str=>a.head?
 | .slice _=>a.head?
theorem YH(t:TypeId)(a:List AV):EA P t a=Vd P t (bU P t) a:=by
 unfold EA Vd;cases bU P t<;>rfl
def faO(P:Program)(v:AV)(o:Option (Nat×TypeId))(K:AV→Hp→Prop)(hp:Hp):Prop :=
 match v,o with
 | .ptr id j off tot,some (o,ft)=>P.cellsOf ft≠0∧K (.ptr id j (off+o) tot) hp
 | .rop cs,some (o,ft)=>P.cellsOf ft≠0∧K (.rop (cs.drop o)) hp
 |_,_=>False
def KT(k:TK)(i:Nat):Option (Nat×TypeId) :=
 match k with
 | .struct fs=>fs[i]?
 |_=>none
theorem abX(t:TypeId)(x:Operand)(i:Nat):bM P fr hp nx (.fieldAddr t x i) K=faO P (ev fr x) (KT (bU P t) i) K hp:=by
 simp only[bM,kC,KT,faO];generalize ev fr x=v;cases v<;>cases bU P t<;>rfl
def fdO(P:Program)(v:AV)(o:Option (Nat×TypeId))(K:AV→Hp→Prop)(hp:Hp):Prop :=
 match v,o with
 | .agg cs,some (o,ft)=>ldO (EA P ft (cs.drop o)) K hp
 |_,_=>False
theorem abZ(t:TypeId)(x:Operand)(i:Nat):bM P fr hp nx (.field t x i) K=fdO P (ev fr x) (KT (bU P t) i) K hp:=by
 simp only[bM,kC,KT,fdO];generalize ev fr x=v;cases v<;>cases bU P t<;>rfl
def ixO(cs:Option (List DV))(K:AV→Hp→Prop)(hp:Hp):Prop :=
 match cs with
 |some cs=>K (.rop cs) hp
 |none=>False
def ixB(b:Option Blk)(id i off e el a:Nat)(d:Bool)(K:AV→Hp→Prop)(hp:Hp):Prop :=
 match b,d with
 |some b,true=>b.es.length=a∧b.e=el∧el≠0∧K (.ptr id i 0 a) hp
 |some b,false=>b.es.length=a∧e=el∧el≠0∧K (.ptr id i off a) hp
 |none,_=>False
def ixW(P:Program)(a v:AV)(k:TK)(K:AV→Hp→Prop)(hp:Hp):Prop :=
 match a,v,k with
 | .d (.int _ n),.d (.ro e es),.slice el=>0≤n∧e=P.cellsOf el∧P.cellsOf el≠0∧ixO es[n.toNat]? K hp
 | .d (.int _ n),.own id i0 len tot,.slice el=>0≤n∧n<len∧ixB (lk id hp) id (i0+n.toNat) 0 0 (P.cellsOf el) tot true K hp
 | .d (.int _ n),.sub id i off e len _ tot,.slice el=>0≤n∧n<len∧ixB (lk id hp) id i (off+n.toNat*e) e (P.cellsOf el) tot false K hp
 | .d (.int _ n),.ptr id i off tot,.arr len el=>0≤n∧n<len∧P.cellsOf el≠0∧K (.ptr id i (off+n.toNat*P.cellsOf el) tot) hp
 | .d (.int _ n),.rop cs,.arr len el=>0≤n∧n<len∧P.cellsOf el≠0∧K (.rop (cs.drop (n.toNat*P.cellsOf el))) hp
 |_,_,_=>False
theorem ab2(t:TypeId)(x a:Operand):bM P fr hp nx (.indexAddr t x a) K=ixW P (ev fr a) (ev fr x) (bU P t) K hp:=by
 simp only[bM,ixW];generalize ev fr a=u;generalize ev fr x=v;cases u with
 | d dv =>
  cases dv with
  |int k n =>
   cases v with
   |d dv=>cases dv<;>cases bU P t<;>rfl
   |own id i0 len tot=>cases bU P t<;>first|rfl|(simp only;cases lk id hp<;>rfl)
   |sub id i off e len cap tot=>cases bU P t<;>first|rfl|(simp only;cases lk id hp<;>rfl)
   |_=>cases bU P t<;>rfl
  |_=>rfl
 |_=>rfl
def alW(t:TypeId)(z:Option (List AV))(nx:Nat)(K:AV→Hp→Prop)(hp:Hp):Prop :=
 match z with
 |some cs=>K (.ptr nx 0 0 1) ((nx,⟨t,cs.length,[cs]⟩)::hp)
 |none=>False
theorem ab3(t:TypeId):bM P fr hp nx (.alloc t) K=alW t (fK P t) nx K hp:=rfl
def bdO(P:Program)(k:TK)(z:Option (List AV))(a:List (Nat×AV))(K:AV→Hp→Prop)(hp:Hp):Prop :=
 match z with
 |some z=>sH P k z a K hp
 |none=>False
theorem ab4(t:TypeId)(a:Array (Nat×Operand)):bM P fr hp nx (.build t a) K=bdO P (bU P t) (fK P t) (a.toList.map fun p=>(p.1,ev fr p.2)) K hp:=rfl
def KU(o:Option (List AV))(K:AV→Hp→Prop)(hp:Hp):Prop :=
 match o with
 |some cs=>K (.agg cs) hp
 |none=>False
theorem Ve(a:List (Nat×TypeId))(z:List AV)(b:List (Nat×AV)):sH P (.struct a) z b K hp=((∀f,f∈a→P.cellsOf f.2≠0)∧KU (lU (jJ P a) z b) K hp):=rfl
theorem Vf(n:Nat)(el:TypeId)(z:List AV)(a:List (Nat×AV)):sH P (.arr n el) z a K hp=(P.cellsOf el≠0∧KU (lU (fun i=>some (i*P.cellsOf el,P.cellsOf el)) z a) K hp):=rfl
def bsR(el:TypeId)(e len nx:Nat)(o:Option (List (List AV)))(K:AV→Hp→Prop)(hp:Hp):Prop :=
 match o with
 |some rows=>K (.own nx 0 len len) ((nx,⟨el,e,rows⟩)::hp)
 |none=>False
def bsO(P:Program)(el:TypeId)(len:Nat)(z:Option (List AV))(a:List (Nat×AV))(nx:Nat)(K:AV→Hp→Prop)(hp:Hp):Prop :=
 match z with
 |some z=>len*P.cellsOf el≤16777216∧bsR el (P.cellsOf el) len nx (uW (P.cellsOf el) (List.replicate len z) a) K hp
 |none=>False
def bsW(P:Program)(k:TK)(len:Nat)(a:List (Nat×AV))(nx:Nat)(K:AV→Hp→Prop)(hp:Hp):Prop :=
 match k with
 | .slice el=>bsO P el len (fK P el) a nx K hp
 |_=>False
theorem ab6(t:TypeId)(len:Nat)(a:Array (Nat×Operand)):bM P fr hp nx (.buildSlice t len a) K=bsW P (bU P t) len (a.toList.map fun p=>(p.1,ev fr p.2)) nx K hp:=by
 simp only[bM,nF,bsW];cases bU P t<;>rfl
theorem ab7(t:TypeId)(x:Operand)(a hi:Option Operand):bM P fr hp nx (.slice t x a hi none) K=ig P (bU P t) (ev fr x) (zF fr 0 a) (zF fr ((ev fr x).topLen (bU P t)) hi) K hp:=rfl
theorem YI(t:TypeId)(x m:Operand)(a hi:Option Operand):bM P fr hp nx (.slice t x a hi (some m)) K=mF P (bU P t) (ev fr x) (zF fr 0 a) (EB fr hi) (ev fr m).num K hp:=rfl
theorem Vg(x:Operand):EB fr (some x)=(ev fr x).num:=rfl
theorem KV(el:TypeId)(l h m:Int)(e:Nat)(es:List (List DV)):mF P (.slice el) (.d (.ro e es)) (some l) (some h) (some m) K hp=(P.cellsOf el≠0∧e=P.cellsOf el∧0≤l∧l≤h∧h=m∧h≤es.length∧K (.d (.rof e ((es.take h.toNat).drop l.toNat))) hp):=rfl
theorem IH(el:TypeId)(l h m:Int):mF P (.slice el) .nil (some l) (some h) (some m) K hp=(P.cellsOf el≠0∧l=0∧h=0∧m=0∧K (.d (.rof (P.cellsOf el) [])) hp):=rfl
theorem II(el:TypeId)(id i0 len a:Nat)(l h m:Int):mF P (.slice el) (.own id i0 len a) (some l) (some h) (some m) K hp=(P.cellsOf el≠0∧l=0∧h=0∧m=0∧K (.d (.rof (P.cellsOf el) [])) hp):=rfl
def mkO(P:Program)(el:TypeId)(z:Option (List AV))(n c:Int)(nx:Nat)(K:AV→Hp→Prop)(hp:Hp):Prop :=
 match z with
 |some z=>0≤n∧n≤c∧c*P.cellsOf el≤16777216∧P.bytesOf el*c≤281474976710656∧c≤9223372036854775807∧K (.own nx 0 n.toNat n.toNat) ((nx,⟨el,P.cellsOf el,List.replicate n.toNat z⟩)::hp)
 |none=>False
theorem ab8(t:TypeId)(l m:Operand):bM P fr hp nx (.makeSlice t l m) K=GH P (bU P t) (ev fr l) (ev fr m) nx K hp:=rfl
theorem YJ(el:TypeId)(a k2:IntKind)(n c:Int):GH P (.slice el) (.d (.int a n)) (.d (.int k2 c)) nx K hp=mkO P el (fK P el) n c nx K hp:=rfl
theorem YK(t:TypeId)(x:Operand):bM P fr hp nx (.sliceToArrayPointer t x) K=It (bU P t) (ev fr x) K hp:=rfl
theorem Vh(n:Nat)(el:TypeId)(id i off e len cap a:Nat):It (.arr n el) (.sub id i off e len cap a) K hp=(match lk id hp with
  |some b=>b.es.length=a∧0<n∧n≤len∧K (.ptr id i off a) hp
  |none=>False):=rfl
theorem Vi(n:Nat)(el:TypeId)(es:List (List DV)):It (.arr n el) (.d (.ro 1 es)) K hp=(0<n∧n≤es.length∧K (.rop es.flatten) hp):=rfl
theorem ab9(s x:Operand)(t u:TypeId):bM P fr hp nx (.call ⟨.builtin .copy,#[s,x],#[t,u]⟩) K=xJ P fr hp nx .copy [s,x] [t,u] K:=rfl
def cpB(P:Program)(el:TypeId)(b:Option Blk)(id i0 len a:Nat)(xs:List (List AV))(K:AV→Hp→Prop)(hp:Hp):Prop :=
 match b with
 |some b=>b.es.length=a∧b.e=1∧P.cellsOf el=1∧K (.d (.int .i64 (min len xs.length:Nat))) (bJ id ⟨b.ty,b.e,b.es.take i0++(xs.take len++b.es.drop (i0+min len xs.length))⟩ hp)
 |none=>False
theorem YL(el:TypeId)(id i0 len a:Nat)(xs:List (List AV)):GI P el (.own id i0 len a) (some xs) K hp=cpB P el (lk id hp) id i0 len a xs K hp:=by
 simp only[GI,cpB];cases lk id hp<;>rfl
theorem IJ:∀{a b:List (List DV)},a.map (fun r=>r.map AV.d)=b.map (fun r=>r.map AV.d)→a=b:=by
 have one:∀{x y:List DV},x.map AV.d=y.map AV.d→x=y:=by
  intro x
  induction x with
  |nil=>intro y h;cases y with
   |nil=>rfl
   |cons _ _=>simp at h
  |cons u x ih=>intro y h;cases y with
   |nil=>simp at h
   |cons v y=>simp at h;rw[h.1,ih (by simpa using h.2)]
 intro a
 induction a with
 |nil=>intro b h;cases b with
  |nil=>rfl
  |cons _ _=>simp at h
 | cons u a ih=>intro b h;cases b with
  |nil=>simp at h
  |cons v b =>
   rw[List.map_cons,List.map_cons]at h;injection h with e f;rw[one e,ih f]
def apS(P:Program)(el:TypeId)(o:Option (List (List AV)))(len cap:Nat)(xs:List (List AV))(nx:Nat)(K:AV→Hp→Prop)(hp:Hp):Prop :=
 cap<len+xs.length∧(fK P el).isSome=true∧P.bytesOf el≠0∧(len+xs.length)*P.bytesOf el≤140737488355328 ∧
   (match o with
   |some rs=>K (.own nx 0 (len+xs.length) (len+xs.length)) ((nx,⟨el,P.cellsOf el,rs++xs⟩)::hp)
   |none=>False)
theorem KW(el:TypeId)(xs:List (List AV))(id i off e len cap a:Nat):fL P el (.sub id i off e len cap a) (some xs) nx K hp=apS P el (dh hp (P.cellsOf el) (.sub id i off e len cap a)) len cap xs nx K hp:=by
 simp only[fL,apS];generalize dh hp (P.cellsOf el) (.sub id i off e len cap a)=o;cases o<;>rfl
def zT(A B:Prop):Prop:=A∨B
theorem BX(el:TypeId)(e:Nat)(es a:List (List DV)):fL P el (.d (.rof e es)) (some (a.map fun r=>r.map AV.d)) nx K hp=(e=P.cellsOf el∧(fK P el).isSome=true∧P.bytesOf el≠0∧(es.length+a.length)*P.bytesOf el≤140737488355328 ∧
  zT (K (.d (.ro e (es++a))) hp) (a≠[]∧K (.own nx 0 (es.length+a.length) (es.length+a.length)) ((nx,⟨el,P.cellsOf el,es.map (fun r=>r.map AV.d)++a.map fun r=>r.map AV.d⟩)::hp))):=by
 simp only[fL,List.length_map,eq_iff_iff,zT];constructor;rintro⟨f,j,g,h,⟨k,b,i⟩|⟨b,i⟩⟩;have l:=IJ b;subst l;exact⟨f,j,g,h,.inl i⟩;exact⟨f,j,g,h,.inr ⟨by simpa using b,i⟩⟩;rintro⟨f,j,g,h,b|⟨b,i⟩⟩;exact⟨f,j,g,h,.inl ⟨a,rfl,b⟩⟩;exact⟨f,j,g,h,.inr ⟨by simpa using b,i⟩⟩
theorem Vj(d:Int):zF fr d none=some d:=rfl
theorem Vk(d:Int)(x:Operand):zF fr d (some x)=(ev fr x).num:=rfl
theorem YM(k:IntKind)(n:Int):(AV.d (.int k n)).num=some n:=rfl
theorem KX(el:TypeId)(l h:Int):ig P (.slice el) .nil (some l) (some h) K hp=(P.cellsOf el≠0∧l=0∧h=0∧K .nil hp):=rfl
theorem P3(el:TypeId)(l h:Int)(e:Nat)(es:List (List DV)):ig P (.slice el) (.d (.ro e es)) (some l) (some h) K hp=(P.cellsOf el≠0∧e=P.cellsOf el∧0≤l∧l≤h∧h≤es.length∧K (.d (.ro e ((es.take h.toNat).drop l.toNat))) hp):=rfl
def slB(b:Option Blk)(n:Nat)(A:Prop):Prop :=
 match b with
 |some b=>b.e=n∧A
 |none=>False
theorem KY(el:TypeId)(l h:Int)(id i0 len d:Nat):ig P (.slice el) (.own id i0 len d) (some l) (some h) K hp=slB (lk id hp) (P.cellsOf el) (P.cellsOf el≠0∧0≤l∧l≤h∧h≤len∧K (.own id (i0+l.toNat) (h.toNat-l.toNat) d) hp):=by
 simp only[ig];cases lk id hp with
 |none=>rfl
 |some b=>simp only[slB,eq_iff_iff];exact⟨fun⟨a,b,c⟩=>⟨b,a,c⟩,fun⟨b,a,c⟩=>⟨a,b,c⟩⟩
theorem KZ(el:TypeId)(l h:Int)(id i off e len cap a:Nat):ig P (.slice el) (.sub id i off e len cap a) (some l) (some h) K hp=(P.cellsOf el≠0∧e=P.cellsOf el∧0≤l∧l≤h∧h≤len∧K (.sub id i (off+l.toNat*e) e (h.toNat-l.toNat) (cap-l.toNat) a) hp):=rfl
def slP(b:Option Blk)(n:Nat)(A:Prop):Prop :=
 match b with
 |some b=>n≤b.e∧A
 |none=>False
theorem K0(n:Nat)(el:TypeId)(l h:Int)(id i off d:Nat):ig P (.arr n el) (.ptr id i off d) (some l) (some h) K hp=slP (lk id hp) (off+n*P.cellsOf el) (P.cellsOf el≠0∧i<d∧0≤l∧l≤h∧h≤n∧K (.sub id i (off+l.toNat*P.cellsOf el) (P.cellsOf el) (h.toNat-l.toNat) (n-l.toNat) d) hp):=by
 simp only[ig];cases lk id hp with
 |none=>rfl
 |some b=>simp only[slP,eq_iff_iff];exact⟨fun⟨a,b,c⟩=>⟨b,a,c⟩,fun⟨b,a,c⟩=>⟨a,b,c⟩⟩
theorem K1(n:Nat)(el:TypeId)(l h:Int)(cs:List DV):ig P (.arr n el) (.rop cs) (some l) (some h) K hp=(P.cellsOf el=1∧n≤cs.length∧0≤l∧l≤h∧h≤n∧K (.d (.ro 1 (((cs.take h.toNat).drop l.toNat).map fun c=>[c]))) hp):=rfl
theorem K2(a:List Int)(l h:Int):ig P .str (.d (.str a)) (some l) (some h) K hp=(0≤l∧l≤h∧h≤a.length∧K (.d (.str ((a.take h.toNat).drop l.toNat))) hp):=rfl
def P4 (P:Program) (el:TypeId) (b:Option Blk) (id len a:Nat) (xs:List (List AV)) (K:AV→Hp→Prop) (hp:Hp):Prop :=
 match b with
 |some b=>b.es.length=a∧b.ty=el∧b.e=P.cellsOf el∧(fK P el).isSome=true∧P.bytesOf el≠0∧(len+xs.length)*P.bytesOf el≤140737488355328 ∧
    (len+xs.length≤a→K (.own id 0 (len+xs.length) a) (bJ id ⟨b.ty,b.e,b.es.take len++(xs++b.es.drop (len+xs.length))⟩ hp)) ∧
    (a<len+xs.length→K (.own id 0 (len+xs.length) (len+xs.length)) (bJ id ⟨b.ty,b.e,b.es.take len++xs⟩ hp))
 |none=>False
theorem K3(el:TypeId)(xs:List (List AV)):fL P el .nil (some xs) nx K hp=((fK P el).isSome=true∧P.bytesOf el≠0∧xs.length*P.bytesOf el≤140737488355328∧K (.own nx 0 xs.length xs.length) ((nx,⟨el,P.cellsOf el,xs⟩)::hp)):=rfl
theorem jP(el:TypeId)(xs:List (List AV))(id len a:Nat):fL P el (.own id 0 len a) (some xs) nx K hp=P4 P el (lk id hp) id len a xs K hp:=rfl
def apF(P:Program)(el:TypeId)(b:Option Blk)(id len:Nat)(xs:List (List AV))(K:AV→Hp→Prop)(hp:Hp):Prop :=
 match b with
 |some b=>b.es.length=len∧b.ty=el∧b.e=P.cellsOf el∧(fK P el).isSome=true∧P.bytesOf el≠0∧(len+xs.length)*P.bytesOf el≤140737488355328∧K (.own id 0 (len+xs.length) (len+xs.length)) (bJ id ⟨b.ty,b.e,b.es++xs⟩ hp)
 |none=>False
theorem IK(el:TypeId)(xs:List (List AV))(id len:Nat):fL P el (.own id 0 len len) (some xs) nx K hp=apF P el (lk id hp) id len xs K hp:=by
 rw[jP];unfold P4 apF;cases o:lk id hp with
 |none=>rfl
 | some b =>
  simp only[eq_iff_iff];constructor;rintro⟨d,j,e,f,k,i,a,m⟩;refine⟨d,j,e,f,k,i,?_⟩;rcases Nat.eq_zero_or_pos xs.length with l|l;have g:xs=[]:=List.eq_nil_of_length_eq_zero l;subst g;have:=a aw;simpa using this;have:=m aq;rw[cx aq]at this;exact this;rintro⟨d,j,e,f,k,i,a⟩;refine⟨d,j,e,f,k,i,fun h=>?_,fun h=>?_⟩;have g:xs=[]:=List.eq_nil_of_length_eq_zero aq;subst g;simpa using a;rw[cx aq];exact a
theorem K4(sz:Nat):dh hp sz .nil=some []:=rfl
theorem P5(sz e:Nat)(es:List (List DV)):dh hp sz (.d (.ro e es))=if e=sz then some (es.map fun r=>r.map .d)else none:=rfl
def roB(b:Option Blk)(sz i0 len a:Nat):Option (List (List AV)) :=
 match b with
 |some b=>if b.es.length=a∧b.e=sz then some ((b.es.drop i0).take len)else none
 |none=>none
theorem K5(sz id i0 len a:Nat):dh hp sz (.own id i0 len a)=roB (lk id hp) sz i0 len a:=rfl
def roR(a:Option (List AV))(n b e sz off len:Nat):Option (List (List AV)) :=
 match a with
 |some a=>if n=b∧e=sz then some ((List.range len).map fun k=>(a.drop (off+k*e)).take e)else none
 |none=>none
def roS(b:Option Blk)(sz i off e len a:Nat):Option (List (List AV)) :=
 match b with
 |some b=>roR b.es[i]? b.es.length a e sz off len
 |none=>none
theorem K6(sz id i off e len cap a:Nat):dh hp sz (.sub id i off e len cap a)=roS (lk id hp) sz i off e len a:=by
 simp only[dh,roS];cases lk id hp with
 |none=>rfl
 |some b =>
  simp only;cases b.es[i]?<;>rfl
theorem YN(s x:Operand)(t u:TypeId):bM P fr hp nx (.call ⟨.builtin .append,#[s,x],#[t,u]⟩) K=xJ P fr hp nx .append [s,x] [t,u] K:=rfl
theorem Vl(v:DV):(AV.d v).cellsO=some [.d v]:=rfl
theorem Vm(cs:List AV):(AV.agg cs).cellsO=some cs:=rfl
theorem K7(a b c d:Nat):(AV.own a b c d).cellsO=some [.own a b c d]:=rfl
theorem K8(a b c d e f g:Nat):(AV.sub a b c d e f g).cellsO=some [.sub a b c d e f g]:=rfl
theorem K9(a b c d:Nat):(AV.ptr a b c d).cellsO=some [.ptr a b c d]:=rfl
theorem Lc:(AV.nil).cellsO=some [.nil]:=rfl
theorem P6(f:FuncId)(cs:List AV):(AV.fn f cs).cellsO=some [.fn f cs]:=rfl
theorem Ld(cs:List DV):(AV.rop cs).cellsO=some [.rop cs]:=rfl
def Vn(a:Bool)(k:TK)(v:AV)(K:AV→Hp→Prop)(hp:Hp):Prop :=
 match v,k with
 | .nil,.slice _=>K (.d (.bool a)) hp
 | .d (.ro _ es),.slice _=>∀b,(b=a→es.length=0)→K (.d (.bool b)) hp
 | .d (.rof _ es),.slice _=>∀b,(b=a→es.length=0)→K (.d (.bool b)) hp
 | .own _ _ len _,.slice _=>∀b,(b=a→len=0)→K (.d (.bool b)) hp
 | .sub _ _ _ _ len _ _,.slice _=>∀b,(b=a→len=0)→K (.d (.bool b)) hp
 |_,_=>False
theorem Le(t:TypeId)(v:AV):df P .eql t v .nil K hp=Vn true (bU P t) v K hp:=by
 unfold df dH Vn;cases v with
 |d dv=>cases dv<;>cases bU P t<;>rfl
 |_=>cases bU P t<;>rfl
theorem P7(t:TypeId)(a b:List Int):df P .eql t (.d (.str a)) (.d (.str b)) K hp=K (.d (.bool (decide (a=b)))) hp:=rfl
theorem P8(t:TypeId)(a b:List Int):df P .lss t (.d (.str a)) (.d (.str b)) K hp=K (.d (.bool (d5 a b))) hp:=rfl
theorem P9(t:TypeId)(a b:List Int):df P .leq t (.d (.str a)) (.d (.str b)) K hp=K (.d (.bool (d5 a b||decide (a=b)))) hp:=rfl
theorem Qa(t:TypeId)(a b:List Int):df P .gtr t (.d (.str a)) (.d (.str b)) K hp=K (.d (.bool (!(d5 a b||decide (a=b))))) hp:=rfl
theorem Qb(t:TypeId)(a b:List Int):df P .geq t (.d (.str a)) (.d (.str b)) K hp=K (.d (.bool (!d5 a b))) hp:=rfl
theorem Lh(t:TypeId)(a b:List Int):df P .add t (.d (.str a)) (.d (.str b)) K hp=(a.length+b.length≤9223372036854775807∧K (.d (.str (a++b))) hp):=rfl
def clV(P:Program)(v:AV)(args:List AV)(hp:Hp)(N:Nat)(K:AV→Hp→Prop):Prop:=match v with
 | .fn g caps=>uh P g (args++caps) hp N K
 | .mth g caps=>uh P g (caps++args) hp N K
 |_=>False
theorem Qc(f:Tmp)(args:Array Operand)(a:Array TypeId):bM P fr hp nx (.call ⟨.value (.tmp f),args,a⟩) K=clV P (fv f fr) (args.toList.map (ev fr)) hp nx K:=by
 simp only[bM,clV,ev];cases fv f fr<;>rfl
theorem YO(g:FuncId)(args a:List AV)(N:Nat):clV P (.fn g a) args hp N K=uh P g (args++a) hp N K:=rfl
theorem rl(f:FuncId)(x:Operand):bM P fr hp nx (.makeFunc (.func f) #[x] #[]) K=K (.mth f [ev fr x]) hp:=by simp[bM]
theorem YP(f:FuncId)(a:Array Operand):bM P fr hp nx (.makeFunc (.func f) #[] a) K=K (.fn f (a.toList.map (ev fr))) hp:=by simp[bM]
def mxW(x y:AV)(K:AV→Hp→Prop)(hp:Hp):Prop :=
 match x,y with
 | .d (.int k m),.d (.int _ n)=>K (.d (.int k (if n>m then n else m))) hp
 |_,_=>False
theorem YQ(x y:Operand)(t u:TypeId):bM P fr hp nx (.call ⟨.builtin .max,#[x,y],#[t,u]⟩) K=mxW (ev fr x) (ev fr y) K hp:=rfl
def mnW(x y:AV)(K:AV→Hp→Prop)(hp:Hp):Prop :=
 match x,y with
 | .d (.int k m),.d (.int _ n)=>K (.d (.int k (if n<m then n else m))) hp
 |_,_=>False
theorem YR(x y:Operand)(t u:TypeId):bM P fr hp nx (.call ⟨.builtin .min,#[x,y],#[t,u]⟩) K=mnW (ev fr x) (ev fr y) K hp:=rfl
theorem Qd(t:TypeId)(a b:List Int):df P .neq t (.d (.str a)) (.d (.str b)) K hp=K (.d (.bool (!decide (a=b)))) hp:=rfl
def bxW(t:TypeId)(v:AV)(nx:Nat)(K:AV→Hp→Prop)(hp:Hp):Prop :=
 match v with
 | .agg cs=>K (.ptr nx 0 0 1) ((nx,⟨t,cs.length,[cs]⟩)::hp)
 | .any=>False
 | .tup _=>False
 | .d v=>K (.ptr nx 0 0 1) ((nx,⟨t,1,[[.d v]]⟩)::hp)
 | .own a b c d=>K (.ptr nx 0 0 1) ((nx,⟨t,1,[[.own a b c d]]⟩)::hp)
 | .sub a b c d e f g=>K (.ptr nx 0 0 1) ((nx,⟨t,1,[[.sub a b c d e f g]]⟩)::hp)
 | .ptr a b c d=>K (.ptr nx 0 0 1) ((nx,⟨t,1,[[.ptr a b c d]]⟩)::hp)
 | .rop cs=>K (.ptr nx 0 0 1) ((nx,⟨t,1,[[.rop cs]]⟩)::hp)
 | .fn f cs=>K (.ptr nx 0 0 1) ((nx,⟨t,1,[[.fn f cs]]⟩)::hp)
 | .mth f cs=>K (.ptr nx 0 0 1) ((nx,⟨t,1,[[.mth f cs]]⟩)::hp)
 | .nil=>K (.ptr nx 0 0 1) ((nx,⟨t,1,[[.nil]]⟩)::hp)
 | .mp a=>K (.ptr nx 0 0 1) ((nx,⟨t,1,[[.mp a]]⟩)::hp)
theorem aci(t:TypeId)(x:Operand):bM P fr hp nx (.box t x) K=bxW t (ev fr x) nx K hp:=by
 simp only[bM];cases ev fr x<;>rfl
def stR(P:Program)(t:TypeId)(id:Nat)(b:Blk)(i off:Nat)(g:List AV)(u:AV)(K:AV→Hp→Prop)(hp:Hp):Prop :=
 match u with
 | .agg cs=>cs.length=P.cellsOf t∧P.cellsOf t≠0∧off+cs.length≤g.length∧K .any (bJ id ⟨b.ty,b.e,b.es.set i (g.take off++(cs++g.drop (off+cs.length)))⟩ hp)
 | .any=>False
 | .tup _=>False
 | .d v=>P.cellsOf t=1∧off<g.length∧K .any (bJ id ⟨b.ty,b.e,b.es.set i (g.set off (.d v))⟩ hp)
 | .own a1 a2 a3 a4=>P.cellsOf t=1∧off<g.length∧K .any (bJ id ⟨b.ty,b.e,b.es.set i (g.set off (.own a1 a2 a3 a4))⟩ hp)
 | .sub a1 a2 a3 a4 a5 a6 a7=>P.cellsOf t=1∧off<g.length∧K .any (bJ id ⟨b.ty,b.e,b.es.set i (g.set off (.sub a1 a2 a3 a4 a5 a6 a7))⟩ hp)
 | .ptr a1 a2 a3 a4=>P.cellsOf t=1∧off<g.length∧K .any (bJ id ⟨b.ty,b.e,b.es.set i (g.set off (.ptr a1 a2 a3 a4))⟩ hp)
 | .rop cs=>P.cellsOf t=1∧off<g.length∧K .any (bJ id ⟨b.ty,b.e,b.es.set i (g.set off (.rop cs))⟩ hp)
 | .fn f cs=>P.cellsOf t=1∧off<g.length∧K .any (bJ id ⟨b.ty,b.e,b.es.set i (g.set off (.fn f cs))⟩ hp)
 | .mth f cs=>P.cellsOf t=1∧off<g.length∧K .any (bJ id ⟨b.ty,b.e,b.es.set i (g.set off (.mth f cs))⟩ hp)
 | .nil=>P.cellsOf t=1∧off<g.length∧K .any (bJ id ⟨b.ty,b.e,b.es.set i (g.set off .nil)⟩ hp)
 | .mp a=>P.cellsOf t=1∧off<g.length∧K .any (bJ id ⟨b.ty,b.e,b.es.set i (g.set off (.mp a))⟩ hp)
def stB(P:Program)(t:TypeId)(id:Nat)(b:Option Blk)(i off a:Nat)(u:AV)(K:AV→Hp→Prop)(hp:Hp):Prop :=
 match b with
 |some b=>(match b.es[i]? with
  |some row=>b.es.length=a∧stR P t id b i off row u K hp
  |none=>False)
 |none=>False
def stW(P:Program)(t:TypeId)(v u:AV)(K:AV→Hp→Prop)(hp:Hp):Prop :=
 match v with
 | .ptr id i off tot=>stB P t id (lk id hp) i off tot u K hp
 |_=>False
theorem ack(t:TypeId)(x y:Operand):bM P fr hp nx (.store t x y) K=stW P t (ev fr x) (ev fr y) K hp:=by
 simp only[bM,stW];generalize ev fr x=v;generalize ev fr y=u;cases v with
 | ptr id i off tot =>
  simp only[stB];cases lk id hp with
  |none=>rfl
  |some b =>
   simp only;cases b.es[i]? with
   |none=>rfl
   |some row=>cases u<;>rfl
 |_=>rfl
theorem acl(t:TypeId):bM P fr hp nx (.makeMap t none) K=(∀g,K (.mp nx) ((nx,⟨g,0,pC []⟩)::hp)):=rfl
theorem acm(t:TypeId)(m x:Operand):bM P fr hp nx (.lookup t m x false) K=luW P t (ev fr m) (ev fr x) K hp:=rfl
theorem acn(t:TypeId)(m x v:Operand):bM P fr hp nx (.mapUpdate t m x v) K=muW P t (ev fr m) (ev fr x) (ev fr v) K hp:=rfl
theorem YS(x:Operand)(t:TypeId):bM P fr hp nx (.call ⟨.builtin .len,#[x],#[t]⟩) K=xJ P fr hp nx .len [x] [t] K:=rfl
theorem Vo(f:FuncId)(args:Array Operand)(a:Array TypeId):bM P fr hp nx (.call ⟨.value (.func f),args,a⟩) K=uh P f (args.toList.map (ev fr)) hp nx K:=by
 simp[bM,ev,uh]
end
section
variable (P:Program)
def YT(k:TK):Bool:=match k with
 | .slice _=>false
 |_=>true
theorem Vp(b:BinOp)(t a:TypeId)(x y:Operand):bc P (.binOp b t x y a)=YT (bU P t):=by
 simp only[bc,YT];cases bU P t<;>rfl
theorem Qe(x:Operand):bc P (.move x)=true:=rfl
theorem IL(x:Operand):bc P (.assign x)=true:=rfl
theorem Qf(x y z:Operand):bc P (.pick x y z)=true:=rfl
theorem YU(o:UnOp)(t:TypeId)(x:Operand):bc P (.unOp o t x)=true:=rfl
theorem Vq(x:Operand):bc P (.nilCheck x)=true:=rfl
theorem YV(x:Operand)(i:Nat):bc P (.extract x i)=true:=rfl
theorem YW(s t:TypeId)(x:Operand):bc P (.convert s t x)=YT (bU P t):=by
 simp only[bc,YT];cases bU P t<;>rfl
theorem Vr(t:TypeId)(x:Operand):bc P (.sliceToArrayPointer t x)=true:=rfl
theorem YX(t:TypeId)(x:Operand):bc P (.load t x)=true:=rfl
theorem YY(t:TypeId)(x:Operand)(i:Nat):bc P (.fieldAddr t x i)=true:=rfl
theorem YZ(t:TypeId)(x y:Operand):bc P (.indexAddr t x y)=true:=rfl
theorem Y0(t:TypeId)(x:Operand)(i:Nat):bc P (.field t x i)=true:=rfl
theorem Vs(t:TypeId)(x y:Operand):bc P (.index t x y)=true:=rfl
theorem Y4(t:TypeId)(x:Array (Nat×Operand)):bc P (.build t x)=true:=rfl
theorem Y5(t:TypeId)(x:Operand)(a hi m:Option Operand):bc P (.slice t x a hi m)=true:=rfl
theorem Vt(x:Array Operand)(t:Array TypeId):bc P (.call ⟨.builtin .len,x,t⟩)=true:=rfl
end
attribute [go_sem] YR mnW acl acm acn P8 P9 Qa Qb Lh Qc YO YP YQ mxW apS KW PZ P0 P1 OT U9 agK agO abM abO sgR eW BW idO idS idX idW P2 Vs cvB YI Vg KV IH II mkO ab8 YJ YK Vi Vh ab9 cpB YL BX U5 List.getElem?_toArray Option.bind_some decide_not Bool.not_not UH YT Vp Qe IL Qf YU Vq YV YW Vr YX YY YZ Y4 Y5 Vt cZ ab4 bdO Ve Vf KU lU jJ ab6 bsW bsO bsR uW ab7 Vj Vk YM KX P3 KY slB KZ slP K0 K1 K2 AV.topLen apF K3 IK K4 P5 K5 roB roR roS K6 YN Vl Vm K7 K8 K9 Lc P6 Ld Vn Le P7 Qd Option.isSome_some List.length_replicate List.replicate_succ List.replicate_zero List.length_append abQ unW Vb YG abR exW abU cvW abV ldW ldB ldR ldO YH Vd abX KT faO abZ fdO Y0 ab2 ixW ixB ixO ab3 alW aci bxW ack stW stB stR KJ BV ai Yt UF Yu UG Px KL UI UJ Py Pz PD PE UK UL UM UN UO UQ UR US UT Yw UU PG Yx Yy Yz UV UW UX UY abC YA UZ YB U0 YC PH U3 abD YD U4 abG abH abI abJ U6 KN U7 KO KP IG KQ KR YF PI PK PL PM PN PO U8 PP ET PQ PR PS PT PU PW PX PY YS Vo abE YE JQ xJ AV.slen List.length_map Int.toNat_natCast List.getElem?_map Option.map_some Int.natCast_nonneg ne_eq not_false_eq_true List.map_cons List.map_nil List.drop_zero List.drop_succ_cons List.length_cons List.length_nil List.take_succ_cons List.take_zero List.getElem?_cons_zero List.getElem?_cons_succ List.head?_cons List.set_cons_zero List.cons_append List.nil_append Nat.zero_add List.drop_nil Nat.add_zero true_and and_true
def pL{T:Type}(b:T→St)(a:T→Prop)(mu:T→Nat)(t:T)(Q:Exit→St→Prop):Exit→St→Prop
 | .normal,st=>∃t',a t'∧mu t'<mu t∧Wk st (b t')
 |e,st=>Q e st
theorem Vu{T:Type}(b:T→St)(a:T→Prop)(mu:T→Nat)(t:T)(Q:Exit→St→Prop)(st:St):pL b a mu t Q .ret st=Q .ret st:=rfl
theorem Vv{T:Type}(b:T→St)(a:T→Prop)(mu:T→Nat)(t:T)(Q:Exit→St→Prop)(st:St)(i:Nat):pL b a mu t Q (.exit i) st=Q (.exit i) st:=rfl
attribute [go_sem] Vu Vv
theorem am{T:Type}{d:T→St}{a:T→Prop}{mu:T→Nat}{t:T}{Q:Exit→St→Prop}{st:St}(b:T)(g:a b)(f:mu b<mu t)(e:av st (d b)):pL d a mu t Q .normal st:=⟨b,g,f,aV e⟩
theorem Lj{T:Type}{f:T→St}{b:T→Prop}{mu:T→Nat}{t:T}{Q:Exit→St→Prop}{st:St}(d:T)(i:b d)(h:mu d<mu t)(a:List Nat)(e:Fr)(hz:∀p,p∈e→Snap st.hp (fun id=>id∈a) (fv p.1 st.fr) p.2)(g:av ⟨e++st.fr,aN a st.hp,st.nx⟩ (f d)):pL f b mu t Q .normal st:=⟨d,i,h,rj a e hz g⟩
theorem Ll{T:Type}{d:T→St}{a:T→Prop}{mu:T→Nat}{t:T}{Q:Exit→St→Prop}{st:St}(b:T)(g:a b)(f:mu b<mu t)(e:Wk st (d b)):pL d a mu t Q .normal st:=⟨b,g,f,e⟩
theorem lX{P:Program}{n:Nat}{x:Code}{Q:Exit→St→Prop}{st:St}{T:Type}(b:T→St)(a:T→Prop)(mu:T→Nat)(f:T)(o:a f)(p:Wk st (b f))
  (h:∀t,a t→nC P n x (pL b a mu t Q) (b t)):LpW P n x Q st:=by
 refine⟨fun m st=>∃t,mu t=m∧a t∧st=b t,⟨mu f,b f,p,f,rfl,o,rfl⟩,?_⟩;rintro m _⟨t,rfl,l,rfl⟩;have:BR (fun m st=>∃t,mu t=m∧a t∧st=b t) (mu t) Q=pL b a mu t Q:=by
  funext e st;cases e<;>try rfl
  simp only[BR,pL,eq_iff_iff];constructor;rintro⟨q,k,i,j,d,rfl,g,rfl⟩;exact⟨d,g,i,j⟩;rintro⟨d,g,i,j⟩;exact⟨mu d,b d,i,j,d,rfl,g,rfl⟩
 rw[this];exact h t l
theorem au{P:Program}{n:Nat}{x:Code}{Q:Exit→St→Prop}{st:St}{T:Type}(b:T→St)(a:T→Prop)(mu:T→Nat)(d:T)(f:a d)(e:av st (b d))
  (h:∀t,a t→nC P n x (pL b a mu t Q) (b t)):LpW P n x Q st:=lX b a mu d f (aV e) h
theorem sQ{P:Program}{g:FuncId}{args:List AV}{hp:Hp}{N:Nat}{K:AV→Hp→Prop}{r:AV}(h:qM P g args r)(a:K r hp):uh P g args hp N K:=.inr ⟨r,h,a⟩
theorem Lm{P:Program}{g:FuncId}{args:List AV}{hp:Hp}{N:Nat}{K:AV→Hp→Prop}{Q:AV→Prop}(h:ap P g args Q)(a:∀v,v∈args→v.deep)(b:∀r,Q r→K r hp):uh P g args hp N K:=.inl (yj h a b)
theorem ag{P:Program}{g:FuncId}{args:List AV}{hp:Hp}{N:Nat}{K:AV→Hp→Prop}{r:AV}(h:ap P g args (fun x=>x=r))(a:∀v,v∈args→v.deep)(b:K r hp):uh P g args hp N K:=.inl (yj h a (fun _ e=>by rw[e];exact b))
theorem bn(a:List Nat){P:Program}{g:FuncId}{args args':List AV}{hp:Hp}{N:Nat}{K:AV→Hp→Prop}{r:AV}(h:ap P g args' (fun x=>x=r))(b:args.length=args'.length)
  (j:∀(i:Nat)(v d:AV),args[i]?=some v→args'[i]?=some d→Snap hp (fun id=>id∈a) v d) (f:K r (aN a hp)):uh P g args hp N K:=.inl (BU a h b j (fun _ e=>by rw[e];exact f))
theorem jx{P:Program}{g:FuncId}{args args':List AV}{hp:Hp}{N:Nat}{K:AV→Hp→Prop}{r:AV}(h:ap P g args' (fun x=>x=r))(a:args.length=args'.length)
  (j:∀(i:Nat)(v b:AV),args[i]?=some v→args'[i]?=some b→Snap hp (fun _=>True) v b) (f:r.flat) (d:K r hp):uh P g args hp N K:=.inl (BS h a j (fun _ e=>by rw[e];exact f) (fun _ e=>by rw[e];exact d))
theorem aC{hp:Hp}{I:Nat→Prop}{args':List AV}:∀(i:Nat)(v a:AV),([]:List AV)[i]?=some v→args'[i]?=some a→Snap hp I v a:=by intro i v a h;simp at h
theorem ak{hp:Hp}{I:Nat→Prop}{a a':AV}{args args':List AV}(h:Snap hp I a a')(t:∀(i:Nat)(v b:AV),args[i]?=some v→args'[i]?=some b→Snap hp I v b):∀(i:Nat)(v b:AV),(a::args)[i]?=some v→(a'::args')[i]?=some b→Snap hp I v b:=by
 intro i v b d e;cases i with
 |zero=>simp at d e;subst d;subst e;exact h
 |succ i=>simp at d e;exact t i v b d e
theorem bO{hp:Hp}{I:Nat→Prop}{args':List AV}:∀(i:Nat)(v a:AV),([]:List AV)[i]?=some v→args'[i]?=some a→fx hp I v a:=by intro i v a h;simp at h
theorem ay{hp:Hp}{I:Nat→Prop}{a a':AV}{args args':List AV}(h:fx hp I a a')(t:∀(i:Nat)(v b:AV),args[i]?=some v→args'[i]?=some b→fx hp I v b):∀(i:Nat)(v b:AV),(a::args)[i]?=some v→(a'::args')[i]?=some b→fx hp I v b:=by
 intro i v b d e;cases i with
 |zero=>simp at d e;subst d;subst e;exact h
 |succ i=>simp at d e;exact t i v b d e
theorem aM{hp:Hp}{I:Nat→Prop}{v:AV}(h:v.deep1):fx hp I v v:=.inl ⟨rfl,h⟩
theorem ao{hp:Hp}{I:Nat→Prop}{v:AV}{d:DV}(h:SnapD hp I v d):fx hp I v (.d d):=.inr ⟨d,rfl,h⟩
end Go.Am
namespace Go.Am
theorem a9{P:Prop}(h:P:=by simp[AV.deep,AV.deep1]):P:=h
end Go.Am
namespace Go.Am
def a_:List Nat → Tr
|[]=>.done
|n::r=>.step n [] false (a_ r)
abbrev bt(n:Nat)(t:Tr):=Tr.step n [] true t
abbrev bx(n:Nat)(t:Tr):=Tr.step n [] false t
end Go.Am
